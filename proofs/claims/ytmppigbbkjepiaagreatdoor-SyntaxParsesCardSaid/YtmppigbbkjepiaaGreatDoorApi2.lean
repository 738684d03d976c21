/- Helping facts of Divide; no other conditions. Helping facts of Api2; no other conditions. -/
import Derived.Test.YtmppigbbkjepiaaGreatDoorQw
import Derived.Lib.ItoaNum
import Derived.Deep.RegionWith
namespace Go.Proofs.YtmppigbbkjepiaaGreatDoor
open Go.Proofs.Tryz
open Go.RowKit W
variable {W w w1 : World} {b o r : Nat} {n : Bool} {s v : Value} {z : Int}
theorem YPH {p : Prop} (h : p := by have := HK.out; omega) : p := h
def Sf (w0 : World) (q r : Nat) (e : Ending) (w' : World) : Prop := ∃ v u, e = .returned (.tuple #[v, u]) /\ Sl w' v (CD q) /\ Sl w' u (CD r) /\ Below w0.heap.size w0 w'
theorem My (x : Nat) (h0 : 0 < x) (h1 : x < 4294967296) : ∃ s : Nat, s < 32 /\ (32 : Int) - (Lib.bitLen x : Int) = (s : Int) /\ 2147483648 <= x * 2 ^ s /\ x * 2 ^ s + 2 ^ s <= 4294967296 := by
 obtain ⟨k, e, h⟩ := Lib.bitLenAux_bounds 64 x AA AA
 have f := Lib.bitLen_le x 32 AA h1
 unfold Lib.bitLen at *
 generalize Lib.bitLenAux 64 x = b at *
 obtain ⟨c, rfl⟩ : ∃ c, b = c + 1 := ⟨b - 1, by omega⟩
 rw [Nat.add_sub_cancel] at e
 refine ⟨31 - c, by omega, by omega, ?_, ?_⟩
 . have := Nat.mul_le_mul_right (2 ^ (31 - c)) e
   rw [<- Nat.pow_add, show c + (31 - c) = 31 by omega] at this
   exact this
 have := Nat.mul_le_mul_right (2 ^ (31 - c)) (show x + 1 <= 2 ^ (c + 1) by omega)
 rw [<- Nat.pow_add, show c + 1 + (31 - c) = 32 by omega, Nat.add_mul, Nat.one_mul] at this
 exact this
set_option maxRecDepth 100000 in
set_option maxHeartbeats 4000000 in
theorem Kt (va vb : Value) (la lb : List Nat) (w : World) (ha : Sl w va la) (hb : Sl w vb lb) (hsa : la.length <= 1000000000) (hsb : lb.length <= 1000000000) (hpos : 0 < val lb) :
 Calls prog 164 #[va, vb] w (Sf w (val la / val lb) (val la % val lb)) := by
 have HA := Lib.hid ha
 have HB := Lib.hid hb
 have hda : (CD (val la)).length <= 1000000000 := by rw [<- XH ha.wd]; exact Nat.le_trans (KB _) hsa
 have hdb : (CD (val lb)).length <= 1000000000 := by rw [<- XH hb.wd]; exact Nat.le_trans (KB _) hsb
 clear ha hb
 obtain ⟨A, hA⟩ : ∃ A, A = val la := ⟨_, rfl⟩
 obtain ⟨Bn, hB⟩ : ∃ Bn, Bn = val lb := ⟨_, rfl⟩
 rw [<- hA] at hda ⊢
 rw [<- hB] at hdb hpos ⊢
 have HAV := Lib.hid hA
 have HBV := Lib.hid hB
 clear hA hB hsa hsb
 go_enter func164, ntmps164
 go_wp2_with fail
 refine (OO _ la _ HA.out).mono ?_
 rintro e w' ⟨rfl, v1, rfl, h1⟩
 have S1 := Lib.hid (h1 _ HA.out)
 rw [<- HAV.out] at S1
 clear h1
 go_wp2_with fail
 refine (OO _ lb _ HB.out).mono ?_
 rintro e w' ⟨rfl, v2, rfl, h2⟩
 have S2 := Lib.hid (h2 _ HB.out)
 rw [<- HBV.out] at S2
 clear h2
 go_wp2_with fail
 refine (aU _ _ A Bn _ S1.out S2.out).mono ?_
 rintro e w' ⟨rfl, d1, rfl⟩
 by_cases hlt : A < Bn
 . rw [OW (by omega : (A : Int) < (Bn : Int))]
   go_wp2_with fail
   refine (aV _ (CD A) _ (S1.out.drewN _) AA).mono ?_
   rintro e w' ⟨v3, rfl, h3, hb3⟩
   go_wp2_with fail
   go_ret2
   refine ⟨_, v3, O, ?_, ?_, KU hb3⟩
   . rw [Nat.div_eq_of_lt hlt, EG]; exact eK _
   rw [Nat.mod_eq_of_lt hlt]; exact h3
 have hc : ¬ JR (A : Int) (Bn : Int) < 0 := by
  rcases Nat.lt_or_ge Bn A with h | h
  . rw [QD AA]; omega
  rw [WF AA]; omega
 obtain ⟨aob, capb, rfl, b1, b2, b3, bn, b4⟩ := S2.out
 obtain ⟨aoa, capa, rfl, a1, a2, a3, an, a4⟩ := S1.out
 have HA4 := Lib.hid a4
 have HB4 := Lib.hid b4
 unfold maxLen at a2 b2
 have hlen := FZ (show Bn <= A by omega)
 have hn0 : 0 < (CD Bn).length := by
  rcases Nat.eq_zero_or_pos (CD Bn).length with e | e
  . exact absurd ((FY _).1 (List.eq_nil_of_length_eq_zero e)) AA
  exact e
 clear a4 b4 an bn a3 b3
 by_cases hone : (CD Bn).length = 1
 . have hob : (((CD Bn).length : Int) == 1) = true := by rw [beq_iff_eq]; omega
   obtain ⟨b, off, rfl, hcell⟩ := HB4.out 0 AA
   have hg : gd (CD Bn) 0 = Bn := by
    have := DX (CD Bn) 1 AA
    rw [DQ, CO] at this
    simpa [val] using this
   rw [hg, Nat.add_zero] at hcell
   have hBlt : Bn < 4294967296 := by rw [<- hg]; exact FL (GF _) 0
   have HONE := Lib.hid hone
   clear hone hg
   go_wp2_with fail
   refine (aR _ (CD A) Bn _ (S1.out.drewN _) hda AA hBlt).mono ?_
   rintro e w' ⟨v3, rfl, h3, hb3⟩
   rw [CO] at h3 ⊢
   go_wp2_with fail
   have hm := Nat.mod_lt A (show 0 < Bn by omega)
   refine (eP (A % Bn) _ AA).mono ?_
   rintro e w'' ⟨v4, rfl, h4, hb4⟩
   go_wp2_with fail
   go_ret2
   exact ⟨v3, v4, rfl, h3.below hb4, h4, (KU hb3).trans (hb4.mono hb3.size)⟩
 have hob : (((CD Bn).length : Int) == 1) = false := by rw [beq_eq_false_iff_ne]; omega
 obtain ⟨k, hk⟩ : ∃ k, (CD Bn).length = k + 1 := ⟨(CD Bn).length - 1, by omega⟩
 obtain ⟨b, off, rfl, hcell⟩ := HB4.out k AA
 have hk1 : ((CD Bn).length : Int) - 1 = (k : Int) := by omega
 have hk2 : ((CD Bn).length : Int) = (k : Int) + 1 := by omega
 have HK := Lib.hid hk
 have HK2 := Lib.hid hk2
 have hgl := FL (GF Bn) k
 have hgp : 0 < gd (CD Bn) k := by
  obtain ⟨l', x, e1, e2, _⟩ := XY Bn hpos
  have e3 : l'.length = k := by have := congrArg List.length e1; rw [hk] at this; simp at this; omega
  rw [e1, MD _ _ _ AA, e3, Nat.sub_self]
  exact e2
 obtain ⟨s, hs32, hs, hlo, hhi⟩ := My _ hgp hgl
 have HS := Lib.hid hs
 have HLO := Lib.hid hlo
 have HHI := Lib.hid hhi
 have hkp : 1 <= k := by omega
 have hka : k + 1 <= (CD A).length := by omega
 clear hk hk2 hs hlo hhi hone
 go_wp2_with fail
 refine (Tryz.bits_LeadingZeros32 _ _ AA AA).mono ?_
 rintro e w' ⟨rfl, rfl⟩
 rw [Int.toNat_natCast, HS.out]
 go_wp2_with fail
 refine (eZ _ (CD A) s _ (S1.out.drewN _) hda hs32).mono ?_
 rintro e w1 ⟨rfl, lu, ou, wu, eu, bu⟩
 rw [CO] at eu
 have hsz1 := ou.lt
 have S2' := Lib.hid ((S2.out.drewN d1).below bu)
 go_wp2_with fail
 refine (eZ _ (CD Bn) s _ S2'.out hdb hs32).mono ?_
 rintro e w2 ⟨rfl, lw, ow, ww, ew, bw⟩
 rw [CO] at ew
 have hsz2 := ow.lt
 rw [HK.out] at ow
 have hww := ow.len
 go_wp2_with (at_make; refine FU _ rfl _ _ rfl _ _ ((CD A).length - k) rfl rfl ?c1 ?c2 ?c3 ?_)
 case c1 => have := HK2.out; omega
 case c2 => have := HK2.out; omega
 case c3 => omega
 intro w3 oq bq hsz3
 have hdr : (w.drewN d1).heap.size = w.heap.size := rfl
 rw [hdr] at ou hsz1 bu
 have hbw := bu.size
 rw [hdr] at hbw
 have ou3 := (ou.below bw).below bq
 have ow3 := ow.below bq
 have hB3 : Below w.heap.size w w3 := ((KU bu).trans (bw.mono AA)).trans (bq.mono AA)
 have hst := LdInv.start (A := A) (m := (CD A).length - k) rfl hn0 YPH wu (by rw [ou.len]; have := HK.out; omega) eu ww (by rw [hww, HK.out]) ew hs32
  (by rw [HK.out]; exact HLO.out) (by rw [HK.out]; exact HHI.out)
 obtain ⟨hV1, hV2, hV3, hV4, hL⟩ := hst
 obtain ⟨lv, hlv⟩ : ∃ lv, lv = lw.take (CD Bn).length := ⟨_, rfl⟩
 rw [<- hlv] at hV1 hV2 hV3 hV4 hL
 have HLVE := Lib.hid hlv
 have HV1 := Lib.hid hV1
 have HV2 := Lib.hid hV2
 have HV3 := Lib.hid hV3
 have HV4 := Lib.hid hV4
 clear hV1 hV2 hV3 hV4 hlv eu ew hww wu ww bu bw bq ou ow hdr
 go_wp2_with fail
 go_loopw [13] (fun i wr => ∃ (m : Nat) (z : Int) (l q : List Nat), m <= (CD A).length - k /\ z + 1 <= m /\ m <= z + 1 /\ i = .int .i64 z /\ LdInv lv (A * 2 ^ s) m l q /\
  Own wr w.heap.size w.heap.size ((CD A).length + 1) l /\ Own wr w1.heap.size w1.heap.size (k + 1 + 1) lw /\ Own wr w2.heap.size w2.heap.size ((CD A).length - k) q /\ Below w.heap.size w wr)
  (fun i _ => (intOf i + 1).toNat)
 case atStart => exact ⟨(CD A).length - k, _, lu, _, Nat.le_refl _, by have := HK2.out; omega, by have := HK2.out; omega, rfl, hL, ou3, ow3, oq, hB3⟩
 case round =>
  clear hL ou3 ow3 oq hB3
  obtain ⟨m, z, l, q, hm, hz1, hz2, rfl, hinv, ou, ow, oq, hB3⟩ := hrel
  by_cases hm0 : m = 0
  . subst hm0
    have hz : z < 0 := by omega
    have hd := hinv.done HV3.out
    have hwl := hinv.1
    have hwq := hinv.2.1
    rw [HV1.out, HV2.out, Iy] at hd
    have hln := ou.len
    have SQ := oq.sl hwq
    have SU : Sl wr (.slice (some ⟨w.heap.size, 0, none⟩) (CD Bn).length ((CD A).length + 1)) (l.take (CD Bn).length) := by
     obtain ⟨ao, cap, e, g1, g2, g3, gn, g4⟩ := ou.sl hwl
     simp only [Value.slice.injEq] at e
     obtain ⟨rfl, -, rfl⟩ := e
     have e2 : (l.take (CD Bn).length).length = (CD Bn).length := by rw [List.length_take]; have := HK.out; omega
     refine ⟨_, _, by rw [e2], by rw [e2]; have := HK.out; omega, g2, QG g3 _, (fun h => by cases h), fun i hi => ?_⟩
     rw [e2] at hi
     obtain ⟨b', o', e3, e4⟩ := g4 i YPH
     exact ⟨b', o', e3, by rw [gM _ _ _ hi]; exact e4⟩
    have HD := Lib.hid hd
    have HSQ := Lib.hid SQ
    have HSU := Lib.hid SU
    have hlt2 : (l.take (CD Bn).length).length <= 1000000000 := by rw [List.length_take]; omega
    clear hd hwl hwq SQ SU hinv
    go_wp2_with fail
    go_region_with (first
     | (go_at_call 161; refine (OO _ q _ (HSQ.out.drewN _)).mono ?_; rintro e w' ⟨rfl, v', rfl, hv'⟩)
     | (go_at_call 193; refine (qF _ (l.take (CD Bn).length) s _ (HSU.out.drewN _) hlt2 hs32).mono ?_; rintro e w'' ⟨v'', rfl, hv'', hb''⟩))
    all_goals
     go_wp2_with fail
     go_ret2
     have q1 := hv' _ ((HSQ.out.drewN _).below hb'')
     rw [HD.out.1] at q1
     have q2 := HD.out.2
     rw [q2, Ix] at hv''
     exact ⟨v', v'', rfl, q1, hv'', hB3.trans ((KU hb'').mono hB3.size)⟩
  obtain ⟨j, rfl⟩ : ∃ j, m = j + 1 := ⟨m - 1, by omega⟩
  obtain rfl : z = (j : Int) := by omega
  clear hm0
  have hcq := oq.cell j AA
  have hfq := oq.free j
  go_wp2_with fail
  rw [show j + (CD Bn).length + 1 - j = (CD Bn).length + 1 from by omega]
  have hlt := hinv.lt (by rw [HV2.out]; exact hn0)
  rw [HV2.out] at hlt
  have hq' := Nat.div_lt_of_lt_mul (by rw [Nat.mul_comm]; exact hlt : val (LB l j ((CD Bn).length + 1)) < val lv * 4294967296)
  refine (kT w.heap.size w.heap.size ((CD A).length + 1) j (CD Bn).length _ w1.heap.size _ l lv wr ou hinv.1 YPH AA YPH AA AA
   (fun i hi => ?_) AA HV2.out YPH HV3.out HV4.out hlt).mono ?_
  . rw [ow.cell i YPH, HLVE.out, gM _ _ _ hi]
  rintro e w4 ⟨rfl, l', ou', hsr, hgb⟩
  have ow' := ow.kept hgb AA
  have oq' := oq.kept hgb AA
  have hB4 := hB3.trans (aQ hgb (Nat.le_refl _) hB3.size)
  have hst2 : LdInv lv (A * 2 ^ s) j l' (q.set j (val (LB l j ((CD Bn).length + 1)) / val lv)) := by
   have := hinv.step (l' := l') HV3.out (by rw [HV2.out]; exact hsr) (by rw [HV2.out]; exact hq')
   rwa [HV2.out] at this
  obtain ⟨x, hx⟩ : ∃ x, x = val (LB l j ((CD Bn).length + 1)) / val lv := ⟨_, rfl⟩
  rw [<- hx] at hst2 hq' ⊢
  have hcq := oq'.cell j AA
  have hfq := oq'.free j
  clear hx hlt hsr hinv hgb ou ow oq hB3
  go_wp2_with fail
  go_roundw
  case rel => exact ⟨j, (j : Int) - 1, l', _, by omega, by omega, by omega, rfl, hst2, ou'.other oq' AA _ _, ow'.other oq' AA _ _, oq'.set j _ x AA, hB4.setCell (p := ⟨w2.heap.size, j, none⟩) (show w.heap.size <= w2.heap.size by omega) _⟩
  case measure => simp [intOf]
set_option maxHeartbeats 4000000
def Box (W : World) (b : Nat) (n : Bool) (s : Value) : Prop := W.cell? ⟨b, 0, none⟩ = some (.bool n) /\ W.cell? ⟨b, 1, none⟩ = some s
def RBox (W : World) (b : Nat) : Prop := (∃ n ao len cap, Box W b n (.slice ao len cap)) /\ W.frozen? ⟨b, 0, none⟩ = false /\ W.frozen? ⟨b, 1, none⟩ = false
theorem Box.keep (h : Box W b n s) (hb : Below W.heap.size W w1) : Box w1 b n s := ⟨DB h.1 hb, DB h.2 hb⟩
theorem RBox.keep (h : RBox W b) (hb : Below W.heap.size W w1) : RBox w1 b := by
 obtain ⟨⟨n, q, len, f, k⟩, o, l⟩ := h
 have e := hH k.1
 exact ⟨⟨n, q, len, f, k.keep hb⟩, (hb.frozen (p := ⟨b, 0, none⟩) e).trans o, (hb.frozen (p := ⟨b, 1, none⟩) e).trans l⟩
theorem Sl.store {l : List Nat} (h : Sl w v l) (hr : RBox w r) (n' : Bool) (s' : Value) : Sl ((w.setCell ⟨r, 0, none⟩ (.bool n')).setCell ⟨r, 1, none⟩ s') v l := by
 obtain ⟨⟨n, H, len, o, y, u⟩, _⟩ := hr
 obtain ⟨I, k, rfl, G, F, D, B, C⟩ := h
 refine ⟨I, k, O, G, F, D, B, fun i t => ?_⟩
 obtain ⟨b, f, e1, e2⟩ := C i t
 refine ⟨b, f, e1, ?_⟩
 have q : (⟨b, f + i, none⟩ : Addr) ≠ ⟨r, 0, none⟩ := fun e => by rw [e, y] at e2; cases e2
 have p : (⟨b, f + i, none⟩ : Addr) ≠ ⟨r, 1, none⟩ := fun e => by rw [e, u] at e2; cases e2
 rw [World.cell?_setCell_other _ _ _ _ p.symm, World.cell?_setCell_other _ _ _ _ q.symm]
 exact e2
theorem NH {n' : Bool} {s' : Value} (h : w.cell? ⟨b, o, none⟩ = some v) (hne : b ≠ r) : ((w.setCell ⟨r, 0, none⟩ (.bool n')).setCell ⟨r, 1, none⟩ s').cell? ⟨b, o, none⟩ = some v := by
 have k : (⟨r, 0, none⟩ : Addr) ≠ ⟨b, o, none⟩ := fun e => hne (congrArg Addr.block e).symm
 have f : (⟨r, 1, none⟩ : Addr) ≠ ⟨b, o, none⟩ := fun e => hne (congrArg Addr.block e).symm
 rw [World.cell?_setCell_other _ _ _ _ f, World.cell?_setCell_other _ _ _ _ k]
 exact h
theorem IsI.store (h : IsI w v z) (hr : RBox w r) (n' : Bool) (s' : Value) : IsI ((w.setCell ⟨r, 0, none⟩ (.bool n')).setCell ⟨r, 1, none⟩ s') v z := by
 obtain ⟨s, rfl, e⟩ := h
 exact ⟨s, rfl, e.store hr n' s'⟩
theorem VR {w0 w2 : World} (hz : IsI w2 (.agg #[.bool n, s]) z) (hr : RBox w2 r) (hB : Below w0.heap.size w0 w2) (hle : w0.heap.size <= r) :
 RetZ w0 z (.returned (.agg #[.bool n, s])) ((w2.setCell ⟨r, 0, none⟩ (.bool n)).setCell ⟨r, 1, none⟩ s) :=
 ⟨_, rfl, hz.store hr _ _, (hB.setCell (p := ⟨r, 0, none⟩) hle _).setCell (p := ⟨r, 1, none⟩) hle _⟩
theorem wS (x : Int) : IV (!decide (x < 0)) x.natAbs = -x := by
 by_cases h : x < 0
 . rw [decide_eq_true h]; simp [IV]; omega
 rw [decide_eq_false h]; simp [IV]; omega
theorem RV (neg : Bool) (v : Value) (l : List Nat) (z : Int) (w : World) (h : Sl w v l) (hz : IV neg (val l) = z) :
 Calls prog 138 #[.bool neg, v] w (RetZ w z) := by
 subst hz; exact Iw neg v l w h
theorem Wu (w : World) (n1 : Bool) (s1 : Value) : ∃ W, W = ((w.alloc (.cells #[.bool n1, s1] 62)).alloc (.cells #[.bool false, .slice none 0 0] 62)) /\ W.heap.size = w.heap.size + 2 /\ Below w.heap.size w W /\
 Box W w.heap.size n1 s1 /\ RBox W (w.heap.size + 1) := by
 refine ⟨_, O, by simp, ((Below.refl _ _).alloc (Nat.le_refl _) _).alloc AH _, ⟨?_, ?_⟩, ⟨⟨false, none, 0, 0, ?_, ?_⟩, ?_, ?_⟩⟩ <;> (try simp [go_sem]) <;> rfl
theorem Hi (w : World) (n1 n2 : Bool) (s1 s2 : Value) : ∃ W, W = (((w.alloc (.cells #[.bool n1, s1] 62)).alloc (.cells #[.bool n2, s2] 62)).alloc (.cells #[.bool false, .slice none 0 0] 62)) /\ W.heap.size = w.heap.size + 3 /\ Below w.heap.size w W /\
 Box W w.heap.size n1 s1 /\ Box W (w.heap.size + 1) n2 s2 /\ RBox W (w.heap.size + 1 + 1) := by
 refine ⟨_, O, by simp, (((Below.refl _ _).alloc (Nat.le_refl _) _).alloc AH _).alloc (by simp; omega) _, ⟨?_, ?_⟩, ⟨?_, ?_⟩, ⟨⟨false, none, 0, 0, ?_, ?_⟩, ?_, ?_⟩⟩ <;> (try simp [go_sem]) <;> rfl
theorem Neg_z (va : Value) (x : Int) (w : World) (ha : IsI w va x) (hx : Fits x 1000000000) :
 Calls prog 91 #[va] w (RetZ w (-x)) := by
 obtain ⟨q, k, rfl, D, X, U⟩ := ha.parts
 have SA := Lib.hid D
 have HF := Lib.hid hx
 clear ha D hx
 obtain ⟨z, l⟩ : ∃ z : Int, z = -x := ⟨_, rfl⟩
 rw [<- l]
 have HZ := Lib.hid l
 clear l
 obtain ⟨W, I, T, t, H, G⟩ := Wu w (decide (x < 0)) (.slice q (CD x.natAbs).length k)
 have Q := H.1
 have P := H.2
 have K1 := Lib.hid G
 clear G
 go_enter func91, ntmps91
 go_upto_region 1 with fail
 rw [<- I]
 clear I
 go_region_held3 (fun C => C.cell? ⟨w.heap.size, 0, none⟩ = some (.bool (decide (x < 0))) /\ C.cell? ⟨w.heap.size, 1, none⟩ = some (.slice q (CD x.natAbs).length k))
  (first | exact ⟨Q, P⟩ | exact ⟨L, J⟩ | exact ⟨f0, f1⟩ | go_keep)
  (first
    | (go_at_call 139; refine (aV _ (CD x.natAbs) _ ?_ ?_).mono ?_; exact SA.out.below t.drew; exact Nat.le_trans HF.out AA; rintro e w1 ⟨v1, rfl, u, f⟩; have L := DB (w := W.drew) Q f; have J := DB (w := W.drew) P f)
    | (go_at_call 138; refine (RV _ _ (CD x.natAbs) z _ u (by rw [CO, wS, HZ.out])).mono ?_; rintro e R ⟨v2, rfl, l, h⟩; have f0 := DB L h; have f1 := DB J h; obtain ⟨y, p, rfl, S, _, _⟩ := l.parts; have o := (K1.out.keep (PA f)).keep h; have B := Lib.hid o; obtain ⟨⟨n0, a0, F, N, g0, Y⟩, g2, g3⟩ := o))
 have B2 : Below w.heap.size w R := (t.trans ((PA f).mono t.size)).trans (h.mono (Nat.le_trans t.size f.size))
 go_wp2_with fail
 refine AQ (v := .agg #[.bool (decide (z < 0)), .slice y (CD z.natAbs).length p]) ?_ O (VR l B.out B2 AA)
 simp [results, results91, go_sem, g0, Y]
theorem Nc {x y : Int} {nx ny : Bool} (hx : IV nx x.natAbs = x) (hy : IV ny y.natAbs = y) : IV (!(nx == ny)) (x.natAbs * y.natAbs) = x * y := by
 have e : x * y = IV nx x.natAbs * IV ny y.natAbs := by rw [hx, hy]
 rw [e]
 cases nx <;> cases ny <;> simp only [IV] <;> simp [Int.neg_mul, Int.mul_neg]
theorem Nd (z : Int) : IV (decide (z < 0)) z.natAbs = z := by
 by_cases h : z < 0
 . rw [decide_eq_true h]; simp [IV]; omega
 rw [decide_eq_false h]; simp [IV]; omega
def IsJ (w : World) (v : Value) (z : Int) : Prop := ∃ n s, v = .agg #[.bool n, s] /\ IV n z.natAbs = z /\ Sl w s (CD z.natAbs)
theorem IsI.j (h : IsI w v z) : IsJ w v z := by
 obtain ⟨s, rfl, e⟩ := h
 exact ⟨_, s, rfl, Nd z, e⟩
theorem IsJ.below {w' : World} (h : IsJ w v z) (hb : Below w.heap.size w w') : IsJ w' v z := by
 obtain ⟨n, s, rfl, f, e⟩ := h
 exact ⟨n, s, rfl, f, e.below hb⟩
theorem IsJ.parts (h : IsJ w v z) : ∃ (n : Bool) (ao : Option Addr) (cap : Nat), v = .agg #[.bool n, .slice ao (CD z.natAbs).length cap] /\ IV n z.natAbs = z /\ Sl w (.slice ao (CD z.natAbs).length cap) (CD z.natAbs) /\ (CD z.natAbs).length <= cap /\ cap <= 9223372036854775807 := by
 obtain ⟨n, s, rfl, k, l⟩ := h
 obtain ⟨ao, cap, rfl, f, e, q, o, p⟩ := l
 exact ⟨n, ao, cap, rfl, k, ⟨ao, cap, rfl, f, e, q, o, p⟩, f, by unfold maxLen at e; omega⟩
theorem UB (h : W.cell? ⟨b, o, none⟩ = some v) (hb : Below W.drew.heap.size W.drew w1) : w1.cell? ⟨b, o, none⟩ = some v := DB (w := W.drew) h hb
theorem Mul_j (va vb : Value) (x y : Int) (w : World) (ha : IsJ w va x) (hb : IsJ w vb y) (hx : Fits x 1000000000) (hy : Fits y 1000000000) :
 Calls prog 194 #[va, vb] w (RetZ w (x * y)) := by
 obtain ⟨nx, D, l, rfl, u, Y, a7, a6⟩ := ha.parts
 obtain ⟨H, C, k, rfl, t, X, a5, a4⟩ := hb.parts
 have SA := Lib.hid Y
 have SB := Lib.hid X
 have U := Lib.hid hx
 have T := Lib.hid hy
 clear ha Y hx hb X hy
 obtain ⟨z, o⟩ : ∃ z : Int, z = x * y := ⟨_, rfl⟩
 rw [<- o]
 have HZ := Lib.hid o
 clear o
 have S := Lib.hid u
 have R := Lib.hid t
 clear u t
 obtain ⟨W, hW, a3, F, J, I, k2⟩ := Hi w nx H (.slice D (CD x.natAbs).length l) (.slice C (CD y.natAbs).length k)
 have c0 := J.1
 have c1 := J.2
 have c2 := I.1
 have c3 := I.2
 have K1 := Lib.hid k2
 clear J I k2
 have p : IV (!(nx == H)) (x.natAbs * y.natAbs) = z := by
  rw [HZ.out]; exact Nc S.out R.out
 have P := Lib.hid p
 clear p
 go_enter func194, ntmps194
 go_upto_region 1 with fail
 rw [<- hW]
 clear hW
 go_region_held3 (fun G => G.cell? ⟨w.heap.size, 0, none⟩ = some (.bool nx) /\ G.cell? ⟨w.heap.size, 1, none⟩ = some (.slice D (CD x.natAbs).length l) /\ G.cell? ⟨w.heap.size + 1, 0, none⟩ = some (.bool H) /\ G.cell? ⟨w.heap.size + 1, 1, none⟩ = some (.slice C (CD y.natAbs).length k))
  (first | exact ⟨c0, c1, c2, c3⟩ | exact ⟨d0, d1, d2, d3⟩ | exact ⟨f0, f1, f2, f3⟩ | exact ⟨NH f0 AA, NH f1 AA, NH f2 AA, NH f3 AA⟩)
  (first
    | (go_at_call 211; refine (Ci _ _ (CD x.natAbs) (CD y.natAbs) _ ?_ ?_ ?_ ?_).mono ?_; exact SA.out.below F.drew; exact SB.out.below F.drew; exact U.out; exact T.out; rintro e w1 ⟨v1, rfl, L, f⟩; have d0 := UB c0 f; have d1 := UB c1 f; have d2 := UB c2 f; have d3 := UB c3 f)
    | (go_at_call 138; refine (RV _ _ _ z _ L (by rw [CO, CO, CO, P.out])).mono ?_; rintro e w2 ⟨v2, rfl, o, h⟩; have f0 := DB d0 h; have f1 := DB d1 h; have f2 := DB d2 h; have f3 := DB d3 h; obtain ⟨N, B, rfl, a2, _, _⟩ := o.parts; have q := (K1.out.keep (PA f)).keep h; have Q := Lib.hid q; obtain ⟨⟨n0, a8, a0, a1, g0, g1⟩, g2, g3⟩ := q))
 have B2 : Below w.heap.size w w2 := (F.trans ((PA f).mono F.size)).trans (h.mono (Nat.le_trans F.size f.size))
 go_wp2_with fail
 refine AQ (v := .agg #[.bool (decide (z < 0)), .slice N (CD z.natAbs).length B]) ?_ O (VR o Q.out B2 AA)
 simp [results, results194, go_sem, g0, g1]
theorem Mul_z (va vb : Value) (x y : Int) (w : World) (ha : IsI w va x) (hb : IsI w vb y) (hx : Fits x 1000000000) (hy : Fits y 1000000000) :
 Calls prog 194 #[va, vb] w (RetZ w (x * y)) := Mul_j va vb x y w ha.j hb.j hx hy
end Go.Proofs.YtmppigbbkjepiaaGreatDoor
