/- Helping facts of Divide; no other conditions. Helping facts of Api2; no other conditions. Helping facts of Up; no other conditions. Helping facts of Api3; no other conditions. Helping facts of Api4; no other conditions. -/
import Derived.Test.YtmppigbbkjepiaaGreatDoorQw
import Derived.Lib.ItoaNum
import Derived.Deep.RegionWith
import Derived.Deep.RegionLaw
import Derived.Deep.LoopGhost
namespace Go.Proofs.YtmppigbbkjepiaaGreatDoor
open Go.Proofs.Tryz
open Go.RowKit W
variable {A b i k n o r x : Nat} {W w w' w1 : World} {e : Ending} {l : List Nat} {nx ny : Bool} {p : Prop} {s v : Value} {y z : Int}
theorem Yf2 (h : p := by rw [v.out, f.out.1]) : p := h
theorem Yib (h : p := by have := HK.out; omega) : p := h
theorem Z1C (h : p := by
 rintro e H ⟨X, rfl, l, p⟩
 obtain ⟨u, q, rfl, I, _, _⟩ := l.parts
 have o := (T.out.keep h).keep p
 have B := Lib.hid o
 obtain ⟨⟨n0, P, D, F, N, L⟩, g2, g3⟩ := o
 have R : Below w.heap.size w H := (C.trans (h.mono C.size)).trans (p.mono (Nat.le_trans C.size h.size))
 go_wp2_with fail
 refine AQ (v := .agg #[.bool (decide (z < 0)), .slice u (CC z.natAbs).length q]) ?_ O ((TZ l B.out R AA).eq y.out)
 simp [results, results136, go_sem, N, L]
 ) : p := h
theorem Z1Q (h : p := by
 clear k
 go_enter func147, ntmps147
 go_upto_region 1 with fail
 rw [<- h]
 clear h
 go_wp2_with fail
 refine (UY _ (CC m) _ S0.out AA).mono ?_
 rintro e C ⟨rfl, rfl⟩
 rw [CO]
 go_wp2_with fail
 go_ret2
 exact RetS.eq ⟨rfl, p⟩ (by rw [u.out, f.out.2]) Yf2
 ) : p := h
theorem ZoB (h : p := by
 go_enter func126, ntmps126
 go_upto_region 1 with fail
 rw [<- h]
 clear h
 go_wp2_with fail
 go_ret
 exact ⟨rfl, p⟩
 ) : p := h
theorem ZGH (h : p := by
 have e : NV z = false := by
  unfold NV
  rw [Bool.and_eq_false_iff, decide_eq_false_iff_not, decide_eq_false_iff_not]
  omega
 exact ⟨e, by unfold YA; rw [e]; rfl⟩
 ) : p := h
def Rb (w0 : World) (q r : Nat) (e : Ending) (w' : World) : Prop := ∃ v u, e = .returned (.tuple #[v, u]) /\ Sl w' v (CC q) /\ Sl w' u (CC r) /\ Below w0.heap.size w0 w'
theorem Ls (x : Nat) (h0 : 0 < x) (h1 : x < 4294967296) : ∃ s : Nat, s < 32 /\ (32 : Int) - (Lib.bitLen x : Int) = (s : Int) /\ 2147483648 <= x * 2 ^ s /\ x * 2 ^ s + 2 ^ s <= 4294967296 := by
 obtain ⟨k, e, h⟩ := Lib.bitLenAux_bounds 64 x AA AA
 have f := Lib.bitLen_le x 32 AA h1
 unfold Lib.bitLen at *
 generalize Lib.bitLenAux 64 x = b at *
 obtain ⟨c, rfl⟩ : ∃ c, b = c + 1 := ⟨b - 1, by omega⟩
 rw [Nat.add_sub_cancel] at e
 refine ⟨31 - c, by omega, by omega, ?_, ?_⟩
 . have := Nat.mul_le_mul_right (2 ^ (31 - c)) e
   rw [<- Nat.pow_add, show c + (31 - c) = 31 by omega] at this
   exact this
 have := Nat.mul_le_mul_right (2 ^ (31 - c)) (show x + 1 <= 2 ^ (c + 1) by omega)
 rw [<- Nat.pow_add, show c + 1 + (31 - c) = 32 by omega, Nat.add_mul, Nat.one_mul] at this
 exact this
set_option maxRecDepth 100000 in
set_option maxHeartbeats 4000000 in
theorem Jq (va vb : Value) (la lb : List Nat) (w : World) (ha : Sl w va la) (hb : Sl w vb lb) (hsa : la.length <= 1000000000) (hsb : lb.length <= 1000000000) (hpos : 0 < val lb) :
 Calls prog 164 #[va, vb] w (Rb w (val la / val lb) (val la % val lb)) := by
 have HA := Lib.hid ha
 have HB := Lib.hid hb
 have hda : (CC (val la)).length <= 1000000000 := by rw [<- UZ ha.wd]; exact Nat.le_trans (JN _) hsa
 have hdb : (CC (val lb)).length <= 1000000000 := by rw [<- UZ hb.wd]; exact Nat.le_trans (JN _) hsb
 clear ha hb
 obtain ⟨A, hA⟩ : ∃ A, A = val la := ⟨_, rfl⟩
 obtain ⟨Bn, hB⟩ : ∃ Bn, Bn = val lb := ⟨_, rfl⟩
 rw [<- hA] at hda ⊢
 rw [<- hB] at hdb hpos ⊢
 have HAV := Lib.hid hA
 have HBV := Lib.hid hB
 clear hA hB hsa hsb
 go_enter func164, ntmps164
 go_wp2_with fail
 refine (NR _ la _ HA.out).mono ?_
 rintro e w' ⟨rfl, v1, rfl, h1⟩
 have S1 := Lib.hid (h1 _ HA.out)
 rw [<- HAV.out] at S1
 clear h1
 go_wp2_with fail
 refine (NR _ lb _ HB.out).mono ?_
 rintro e w' ⟨rfl, v2, rfl, h2⟩
 have S2 := Lib.hid (h2 _ HB.out)
 rw [<- HBV.out] at S2
 clear h2
 go_wp2_with fail
 refine (ZD _ _ A Bn _ S1.out S2.out).mono ?_
 rintro e w' ⟨rfl, d1, rfl⟩
 by_cases hlt : A < Bn
 . rw [OB (by omega : (A : Int) < (Bn : Int))]
   go_wp2_with fail
   refine (ZE _ (CC A) _ (S1.out.drewN _) AA).mono ?_
   rintro e w' ⟨v3, rfl, h3, hb3⟩
   go_wp2_with fail
   go_ret2
   refine ⟨_, v3, O, ?_, ?_, JW hb3⟩
   . rw [Nat.div_eq_of_lt hlt, DX]; exact cF _
   rw [Nat.mod_eq_of_lt hlt]; exact h3
 have hc : ¬ JC (A : Int) (Bn : Int) < 0 := by
  rcases Nat.lt_or_ge Bn A with h | h
  . rw [PM AA]; omega
  rw [UI AA]; omega
 obtain ⟨aob, capb, rfl, b1, b2, b3, bn, b4⟩ := S2.out
 obtain ⟨aoa, capa, rfl, a1, a2, a3, an, a4⟩ := S1.out
 have HA4 := Lib.hid a4
 have HB4 := Lib.hid b4
 unfold maxLen at a2 b2
 have hlen := FS (show Bn <= A by omega)
 have hn0 : 0 < (CC Bn).length := by
  rcases Nat.eq_zero_or_pos (CC Bn).length with e | e
  . exact absurd ((FR _).1 (List.eq_nil_of_length_eq_zero e)) AA
  exact e
 clear a4 b4 an bn a3 b3
 by_cases hone : (CC Bn).length = 1
 . have hob : (((CC Bn).length : Int) == 1) = true := by rw [beq_iff_eq]; omega
   obtain ⟨b, off, rfl, hcell⟩ := HB4.out 0 AA
   have hg : gd (CC Bn) 0 = Bn := by
    have := DQ (CC Bn) 1 AA
    rw [DJ, CO] at this
    simpa [val] using this
   rw [hg, Nat.add_zero] at hcell
   have hBlt : Bn < 4294967296 := by rw [<- hg]; exact FD (GB _) 0
   have HONE := Lib.hid hone
   clear hone hg
   go_wp2_with fail
   refine (ZA _ (CC A) Bn _ (S1.out.drewN _) hda AA hBlt).mono ?_
   rintro e w' ⟨v3, rfl, h3, hb3⟩
   rw [CO] at h3 ⊢
   go_wp2_with fail
   have hm := Nat.mod_lt A (show 0 < Bn by omega)
   refine (cP (A % Bn) _ AA).mono ?_
   rintro e w'' ⟨v4, rfl, h4, hb4⟩
   go_wp2_with fail
   go_ret2
   exact ⟨v3, v4, rfl, h3.below hb4, h4, (JW hb3).trans (hb4.mono hb3.size)⟩
 have hob : (((CC Bn).length : Int) == 1) = false := by rw [beq_eq_false_iff_ne]; omega
 obtain ⟨k, hk⟩ : ∃ k, (CC Bn).length = k + 1 := ⟨(CC Bn).length - 1, by omega⟩
 obtain ⟨b, off, rfl, hcell⟩ := HB4.out k AA
 have hk1 : ((CC Bn).length : Int) - 1 = (k : Int) := by omega
 have hk2 : ((CC Bn).length : Int) = (k : Int) + 1 := by omega
 have HK := Lib.hid hk
 have HK2 := Lib.hid hk2
 have hgl := FD (GB Bn) k
 have hgp : 0 < gd (CC Bn) k := by
  obtain ⟨l', x, e1, e2, _⟩ := VJ Bn hpos
  have e3 : l'.length = k := by have := congrArg List.length e1; rw [hk] at this; simp at this; omega
  rw [e1, LF _ _ _ AA, e3, Nat.sub_self]
  exact e2
 obtain ⟨s, hs32, hs, hlo, hhi⟩ := Ls _ hgp hgl
 have HS := Lib.hid hs
 have HLO := Lib.hid hlo
 have HHI := Lib.hid hhi
 have hkp : 1 <= k := by omega
 have hka : k + 1 <= (CC A).length := by omega
 clear hk hk2 hs hlo hhi hone
 go_wp2_with fail
 refine (Tryz.bits_LeadingZeros32 _ _ AA AA).mono ?_
 rintro e w' ⟨rfl, rfl⟩
 rw [Int.toNat_natCast, HS.out]
 go_wp2_with fail
 refine (cZ _ (CC A) s _ (S1.out.drewN _) hda hs32).mono ?_
 rintro e w1 ⟨rfl, lu, ou, wu, eu, bu⟩
 rw [CO] at eu
 have hsz1 := ou.lt
 have S2' := Lib.hid ((S2.out.drewN d1).below bu)
 go_wp2_with fail
 refine (cZ _ (CC Bn) s _ S2'.out hdb hs32).mono ?_
 rintro e w2 ⟨rfl, lw, ow, ww, ew, bw⟩
 rw [CO] at ew
 have hsz2 := ow.lt
 rw [HK.out] at ow
 have hww := ow.len
 go_wp2_with (at_make; refine FM _ rfl _ _ rfl _ _ ((CC A).length - k) rfl rfl ?c1 ?c2 ?c3 ?_)
 case c1 => have := HK2.out; omega
 case c2 => have := HK2.out; omega
 case c3 => omega
 intro w3 oq bq hsz3
 have hdr : (w.drewN d1).heap.size = w.heap.size := rfl
 rw [hdr] at ou hsz1 bu
 have hbw := bu.size
 rw [hdr] at hbw
 have ou3 := (ou.below bw).below bq
 have ow3 := ow.below bq
 have hB3 : Below w.heap.size w w3 := ((JW bu).trans (bw.mono AA)).trans (bq.mono AA)
 have hst := LdInv.start (A := A) (m := (CC A).length - k) rfl hn0 Yib wu (by rw [ou.len]; have := HK.out; omega) eu ww (by rw [hww, HK.out]) ew hs32
  (by rw [HK.out]; exact HLO.out) (by rw [HK.out]; exact HHI.out)
 obtain ⟨hV1, hV2, hV3, hV4, hL⟩ := hst
 obtain ⟨lv, hlv⟩ : ∃ lv, lv = lw.take (CC Bn).length := ⟨_, rfl⟩
 rw [<- hlv] at hV1 hV2 hV3 hV4 hL
 have HLVE := Lib.hid hlv
 have HV1 := Lib.hid hV1
 have HV2 := Lib.hid hV2
 have HV3 := Lib.hid hV3
 have HV4 := Lib.hid hV4
 clear hV1 hV2 hV3 hV4 hlv eu ew hww wu ww bu bw bq ou ow hdr
 go_wp2_with fail
 go_loopw [13] (fun i wr => ∃ (m : Nat) (z : Int) (l q : List Nat), m <= (CC A).length - k /\ z + 1 <= m /\ m <= z + 1 /\ i = .int .i64 z /\ LdInv lv (A * 2 ^ s) m l q /\
  Own wr w.heap.size w.heap.size ((CC A).length + 1) l /\ Own wr w1.heap.size w1.heap.size (k + 1 + 1) lw /\ Own wr w2.heap.size w2.heap.size ((CC A).length - k) q /\ Below w.heap.size w wr)
  (fun i _ => (intOf i + 1).toNat)
 case atStart => exact ⟨(CC A).length - k, _, lu, _, Nat.le_refl _, by have := HK2.out; omega, by have := HK2.out; omega, rfl, hL, ou3, ow3, oq, hB3⟩
 case round =>
  clear hL ou3 ow3 oq hB3
  obtain ⟨m, z, l, q, hm, hz1, hz2, rfl, hinv, ou, ow, oq, hB3⟩ := hrel
  by_cases hm0 : m = 0
  . subst hm0
    have hz : z < 0 := by omega
    have hd := hinv.done HV3.out
    have hwl := hinv.1
    have hwq := hinv.2.1
    rw [HV1.out, HV2.out, Ib] at hd
    have hln := ou.len
    have SQ := oq.sl hwq
    have SU : Sl wr (.slice (some ⟨w.heap.size, 0, none⟩) (CC Bn).length ((CC A).length + 1)) (l.take (CC Bn).length) := by
     obtain ⟨ao, cap, e, g1, g2, g3, gn, g4⟩ := ou.sl hwl
     simp only [Value.slice.injEq] at e
     obtain ⟨rfl, -, rfl⟩ := e
     have e2 : (l.take (CC Bn).length).length = (CC Bn).length := by rw [List.length_take]; have := HK.out; omega
     refine ⟨_, _, by rw [e2], by rw [e2]; have := HK.out; omega, g2, PQ g3 _, (fun h => by cases h), fun i hi => ?_⟩
     rw [e2] at hi
     obtain ⟨b', o', e3, e4⟩ := g4 i Yib
     exact ⟨b', o', e3, by rw [eR _ _ _ hi]; exact e4⟩
    have HD := Lib.hid hd
    have HSQ := Lib.hid SQ
    have HSU := Lib.hid SU
    have hlt2 : (l.take (CC Bn).length).length <= 1000000000 := by rw [List.length_take]; omega
    clear hd hwl hwq SQ SU hinv
    go_wp2_with fail
    go_region_with (first
     | (go_at_call 161; refine (NR _ q _ (HSQ.out.drewN _)).mono ?_; rintro e w' ⟨rfl, v', rfl, hv'⟩)
     | (go_at_call 193; refine (pB _ (l.take (CC Bn).length) s _ (HSU.out.drewN _) hlt2 hs32).mono ?_; rintro e w'' ⟨v'', rfl, hv'', hb''⟩))
    all_goals
     go_wp2_with fail
     go_ret2
     have q1 := hv' _ ((HSQ.out.drewN _).below hb'')
     rw [HD.out.1] at q1
     have q2 := HD.out.2
     rw [q2, Ia] at hv''
     exact ⟨v', v'', rfl, q1, hv'', hB3.trans ((JW hb'').mono hB3.size)⟩
  obtain ⟨j, rfl⟩ : ∃ j, m = j + 1 := ⟨m - 1, by omega⟩
  obtain rfl : z = (j : Int) := by omega
  clear hm0
  have hcq := oq.cell j AA
  have hfq := oq.free j
  go_wp2_with fail
  rw [show j + (CC Bn).length + 1 - j = (CC Bn).length + 1 from by omega]
  have hlt := hinv.lt (by rw [HV2.out]; exact hn0)
  rw [HV2.out] at hlt
  have hq' := Nat.div_lt_of_lt_mul (by rw [Nat.mul_comm]; exact hlt : val (KB l j ((CC Bn).length + 1)) < val lv * 4294967296)
  refine (jU w.heap.size w.heap.size ((CC A).length + 1) j (CC Bn).length _ w1.heap.size _ l lv wr ou hinv.1 Yib AA Yib AA AA
   (fun i hi => ?_) AA HV2.out Yib HV3.out HV4.out hlt).mono ?_
  . rw [ow.cell i Yib, HLVE.out, eR _ _ _ hi]
  rintro e w4 ⟨rfl, l', ou', hsr, hgb⟩
  have ow' := ow.kept hgb AA
  have oq' := oq.kept hgb AA
  have hB4 := hB3.trans (YW hgb (Nat.le_refl _) hB3.size)
  have hst2 : LdInv lv (A * 2 ^ s) j l' (q.set j (val (KB l j ((CC Bn).length + 1)) / val lv)) := by
   have := hinv.step (l' := l') HV3.out (by rw [HV2.out]; exact hsr) (by rw [HV2.out]; exact hq')
   rwa [HV2.out] at this
  obtain ⟨x, hx⟩ : ∃ x, x = val (KB l j ((CC Bn).length + 1)) / val lv := ⟨_, rfl⟩
  rw [<- hx] at hst2 hq' ⊢
  have hcq := oq'.cell j AA
  have hfq := oq'.free j
  clear hx hlt hsr hinv hgb ou ow oq hB3
  go_wp2_with fail
  go_roundw
  case rel => exact ⟨j, (j : Int) - 1, l', _, by omega, by omega, by omega, rfl, hst2, ou'.other oq' AA _ _, ow'.other oq' AA _ _, oq'.set j _ x AA, hB4.setCell (p := ⟨w2.heap.size, j, none⟩) (show w.heap.size <= w2.heap.size by omega) _⟩
  case measure => simp [intOf]
set_option maxHeartbeats 4000000
def Box (W : World) (b : Nat) (n : Bool) (s : Value) : Prop := W.cell? ⟨b, 0, none⟩ = some (.bool n) /\ W.cell? ⟨b, 1, none⟩ = some s
def RBox (W : World) (b : Nat) : Prop := (∃ n ao len cap, Box W b n (.slice ao len cap)) /\ W.frozen? ⟨b, 0, none⟩ = false /\ W.frozen? ⟨b, 1, none⟩ = false
theorem Box.keep {n : Bool} (h : Box W b n s) (hb : Below W.heap.size W w1) : Box w1 b n s := ⟨DB h.1 hb, DB h.2 hb⟩
theorem RBox.keep (h : RBox W b) (hb : Below W.heap.size W w1) : RBox w1 b := by
 obtain ⟨⟨n, q, len, f, k⟩, o, l⟩ := h
 have e := fP k.1
 exact ⟨⟨n, q, len, f, k.keep hb⟩, (hb.frozen (p := ⟨b, 0, none⟩) e).trans o, (hb.frozen (p := ⟨b, 1, none⟩) e).trans l⟩
theorem Sl.store (h : Sl w v l) (hr : RBox w r) (n' : Bool) (s' : Value) : Sl ((w.setCell ⟨r, 0, none⟩ (.bool n')).setCell ⟨r, 1, none⟩ s') v l := by
 obtain ⟨⟨n, G, len, o, y, u⟩, _⟩ := hr
 obtain ⟨H, k, rfl, F, D, C, z, B⟩ := h
 refine ⟨H, k, O, F, D, C, z, fun i t => ?_⟩
 obtain ⟨b, f, e1, e2⟩ := B i t
 refine ⟨b, f, e1, ?_⟩
 have q : (⟨b, f + i, none⟩ : Addr) ≠ ⟨r, 0, none⟩ := fun e => by rw [e, y] at e2; cases e2
 have p : (⟨b, f + i, none⟩ : Addr) ≠ ⟨r, 1, none⟩ := fun e => by rw [e, u] at e2; cases e2
 rw [World.cell?_setCell_other _ _ _ _ p.symm, World.cell?_setCell_other _ _ _ _ q.symm]
 exact e2
theorem MF {n' : Bool} {s' : Value} (h : w.cell? ⟨b, o, none⟩ = some v) (hne : b ≠ r) : ((w.setCell ⟨r, 0, none⟩ (.bool n')).setCell ⟨r, 1, none⟩ s').cell? ⟨b, o, none⟩ = some v := by
 have k : (⟨r, 0, none⟩ : Addr) ≠ ⟨b, o, none⟩ := fun e => hne (congrArg Addr.block e).symm
 have f : (⟨r, 1, none⟩ : Addr) ≠ ⟨b, o, none⟩ := fun e => hne (congrArg Addr.block e).symm
 rw [World.cell?_setCell_other _ _ _ _ f, World.cell?_setCell_other _ _ _ _ k]
 exact h
theorem IsI.store (h : IsI w v z) (hr : RBox w r) (n' : Bool) (s' : Value) : IsI ((w.setCell ⟨r, 0, none⟩ (.bool n')).setCell ⟨r, 1, none⟩ s') v z := by
 obtain ⟨s, rfl, e⟩ := h
 exact ⟨s, rfl, e.store hr n' s'⟩
theorem TZ {w0 w2 : World} {n : Bool} (hz : IsI w2 (.agg #[.bool n, s]) z) (hr : RBox w2 r) (hB : Below w0.heap.size w0 w2) (hle : w0.heap.size <= r) :
 RetZ w0 z (.returned (.agg #[.bool n, s])) ((w2.setCell ⟨r, 0, none⟩ (.bool n)).setCell ⟨r, 1, none⟩ s) :=
 ⟨_, rfl, hz.store hr _ _, (hB.setCell (p := ⟨r, 0, none⟩) hle _).setCell (p := ⟨r, 1, none⟩) hle _⟩
theorem vT (x : Int) : IE (!decide (x < 0)) x.natAbs = -x := by
 by_cases h : x < 0
 . rw [decide_eq_true h]; simp [IE]; omega
 rw [decide_eq_false h]; simp [IE]; omega
theorem QP (neg : Bool) (v : Value) (l : List Nat) (z : Int) (w : World) (h : Sl w v l) (hz : IE neg (val l) = z) :
 Calls prog 138 #[.bool neg, v] w (RetZ w z) := by
 subst hz; exact Hz neg v l w h
theorem Wa (w : World) (n1 : Bool) (s1 : Value) : ∃ W, W = ((w.alloc (.cells #[.bool n1, s1] 62)).alloc (.cells #[.bool false, .slice none 0 0] 62)) /\ W.heap.size = w.heap.size + 2 /\ Below w.heap.size w W /\
 Box W w.heap.size n1 s1 /\ RBox W (w.heap.size + 1) := by
 refine ⟨_, O, by simp, ((Below.refl _ _).alloc (Nat.le_refl _) _).alloc AH _, ⟨?_, ?_⟩, ⟨⟨false, none, 0, 0, ?_, ?_⟩, ?_, ?_⟩⟩ <;> (try simp [go_sem]) <;> rfl
theorem Gb (w : World) (n1 n2 : Bool) (s1 s2 : Value) : ∃ W, W = (((w.alloc (.cells #[.bool n1, s1] 62)).alloc (.cells #[.bool n2, s2] 62)).alloc (.cells #[.bool false, .slice none 0 0] 62)) /\ W.heap.size = w.heap.size + 3 /\ Below w.heap.size w W /\
 Box W w.heap.size n1 s1 /\ Box W (w.heap.size + 1) n2 s2 /\ RBox W (w.heap.size + 1 + 1) := by
 refine ⟨_, O, by simp, (((Below.refl _ _).alloc (Nat.le_refl _) _).alloc AH _).alloc (by simp; omega) _, ⟨?_, ?_⟩, ⟨?_, ?_⟩, ⟨⟨false, none, 0, 0, ?_, ?_⟩, ?_, ?_⟩⟩ <;> (try simp [go_sem]) <;> rfl
theorem Neg_z (va : Value) (x : Int) (w : World) (ha : IsI w va x) (hx : Fits x 1000000000) :
 Calls prog 91 #[va] w (RetZ w (-x)) := by
 obtain ⟨q, k, rfl, D, X, U⟩ := ha.parts
 have SA := Lib.hid D
 have HF := Lib.hid hx
 clear ha D hx
 obtain ⟨z, l⟩ : ∃ z : Int, z = -x := ⟨_, rfl⟩
 rw [<- l]
 have HZ := Lib.hid l
 clear l
 obtain ⟨W, I, T, t, H, G⟩ := Wa w (decide (x < 0)) (.slice q (CC x.natAbs).length k)
 have Q := H.1
 have P := H.2
 have K1 := Lib.hid G
 clear G
 go_enter func91, ntmps91
 go_upto_region 1 with fail
 rw [<- I]
 clear I
 go_region_held3 (fun C => C.cell? ⟨w.heap.size, 0, none⟩ = some (.bool (decide (x < 0))) /\ C.cell? ⟨w.heap.size, 1, none⟩ = some (.slice q (CC x.natAbs).length k))
  (first | exact ⟨Q, P⟩ | exact ⟨L, J⟩ | exact ⟨f0, f1⟩ | go_keep)
  (first
    | (go_at_call 139; refine (ZE _ (CC x.natAbs) _ ?_ ?_).mono ?_; exact SA.out.below t.drew; exact Nat.le_trans HF.out AA; rintro e w1 ⟨v1, rfl, u, f⟩; have L := DB (w := W.drew) Q f; have J := DB (w := W.drew) P f)
    | (go_at_call 138; refine (QP _ _ (CC x.natAbs) z _ u (by rw [CO, vT, HZ.out])).mono ?_; rintro e R ⟨v2, rfl, l, h⟩; have f0 := DB L h; have f1 := DB J h; obtain ⟨y, p, rfl, S, _, _⟩ := l.parts; have o := (K1.out.keep (OF f)).keep h; have B := Lib.hid o; obtain ⟨⟨n0, a0, F, N, g0, Y⟩, g2, g3⟩ := o))
 have B2 : Below w.heap.size w R := (t.trans ((OF f).mono t.size)).trans (h.mono (Nat.le_trans t.size f.size))
 go_wp2_with fail
 refine AQ (v := .agg #[.bool (decide (z < 0)), .slice y (CC z.natAbs).length p]) ?_ O (TZ l B.out B2 AA)
 simp [results, results91, go_sem, g0, Y]
theorem Lw {x : Int} (hx : IE nx x.natAbs = x) (hy : IE ny y.natAbs = y) : IE (!(nx == ny)) (x.natAbs * y.natAbs) = x * y := by
 have e : x * y = IE nx x.natAbs * IE ny y.natAbs := by rw [hx, hy]
 rw [e]
 cases nx <;> cases ny <;> simp only [IE] <;> simp [Int.neg_mul, Int.mul_neg]
theorem Lx (z : Int) : IE (decide (z < 0)) z.natAbs = z := by
 by_cases h : z < 0
 . rw [decide_eq_true h]; simp [IE]; omega
 rw [decide_eq_false h]; simp [IE]; omega
def IsJ (w : World) (v : Value) (z : Int) : Prop := ∃ n s, v = .agg #[.bool n, s] /\ IE n z.natAbs = z /\ Sl w s (CC z.natAbs)
theorem IsI.j (h : IsI w v z) : IsJ w v z := by
 obtain ⟨s, rfl, e⟩ := h
 exact ⟨_, s, rfl, Lx z, e⟩
theorem IsJ.below (h : IsJ w v z) (hb : Below w.heap.size w w') : IsJ w' v z := by
 obtain ⟨n, s, rfl, f, e⟩ := h
 exact ⟨n, s, rfl, f, e.below hb⟩
theorem IsJ.parts (h : IsJ w v z) : ∃ (n : Bool) (ao : Option Addr) (cap : Nat), v = .agg #[.bool n, .slice ao (CC z.natAbs).length cap] /\ IE n z.natAbs = z /\ Sl w (.slice ao (CC z.natAbs).length cap) (CC z.natAbs) /\ (CC z.natAbs).length <= cap /\ cap <= 9223372036854775807 := by
 obtain ⟨n, s, rfl, k, l⟩ := h
 obtain ⟨ao, cap, rfl, f, e, q, o, p⟩ := l
 exact ⟨n, ao, cap, rfl, k, ⟨ao, cap, rfl, f, e, q, o, p⟩, f, by unfold maxLen at e; omega⟩
theorem SE (h : W.cell? ⟨b, o, none⟩ = some v) (hb : Below W.drew.heap.size W.drew w1) : w1.cell? ⟨b, o, none⟩ = some v := DB (w := W.drew) h hb
theorem Mul_j (va vb : Value) (x y : Int) (w : World) (ha : IsJ w va x) (hb : IsJ w vb y) (hx : Fits x 1000000000) (hy : Fits y 1000000000) :
 Calls prog 194 #[va, vb] w (RetZ w (x * y)) := by
 obtain ⟨nx, D, l, rfl, u, Y, a8, a7⟩ := ha.parts
 obtain ⟨H, C, k, rfl, t, X, a6, a4⟩ := hb.parts
 have SA := Lib.hid Y
 have SB := Lib.hid X
 have U := Lib.hid hx
 have T := Lib.hid hy
 clear ha Y hx hb X hy
 obtain ⟨z, o⟩ : ∃ z : Int, z = x * y := ⟨_, rfl⟩
 rw [<- o]
 have HZ := Lib.hid o
 clear o
 have S := Lib.hid u
 have R := Lib.hid t
 clear u t
 obtain ⟨W, hW, a3, F, J, I, k2⟩ := Gb w nx H (.slice D (CC x.natAbs).length l) (.slice C (CC y.natAbs).length k)
 have c0 := J.1
 have c1 := J.2
 have c2 := I.1
 have c3 := I.2
 have K1 := Lib.hid k2
 clear J I k2
 have p : IE (!(nx == H)) (x.natAbs * y.natAbs) = z := by
  rw [HZ.out]; exact Lw S.out R.out
 have P := Lib.hid p
 clear p
 go_enter func194, ntmps194
 go_upto_region 1 with fail
 rw [<- hW]
 clear hW
 go_region_held3 (fun G => G.cell? ⟨w.heap.size, 0, none⟩ = some (.bool nx) /\ G.cell? ⟨w.heap.size, 1, none⟩ = some (.slice D (CC x.natAbs).length l) /\ G.cell? ⟨w.heap.size + 1, 0, none⟩ = some (.bool H) /\ G.cell? ⟨w.heap.size + 1, 1, none⟩ = some (.slice C (CC y.natAbs).length k))
  (first | exact ⟨c0, c1, c2, c3⟩ | exact ⟨d0, d1, d2, d3⟩ | exact ⟨f0, f1, f2, f3⟩ | exact ⟨MF f0 AA, MF f1 AA, MF f2 AA, MF f3 AA⟩)
  (first
    | (go_at_call 211; refine (Bh _ _ (CC x.natAbs) (CC y.natAbs) _ ?_ ?_ ?_ ?_).mono ?_; exact SA.out.below F.drew; exact SB.out.below F.drew; exact U.out; exact T.out; rintro e w1 ⟨v1, rfl, L, f⟩; have d0 := SE c0 f; have d1 := SE c1 f; have d2 := SE c2 f; have d3 := SE c3 f)
    | (go_at_call 138; refine (QP _ _ _ z _ L (by rw [CO, CO, CO, P.out])).mono ?_; rintro e w2 ⟨v2, rfl, o, h⟩; have f0 := DB d0 h; have f1 := DB d1 h; have f2 := DB d2 h; have f3 := DB d3 h; obtain ⟨N, B, rfl, a2, _, _⟩ := o.parts; have q := (K1.out.keep (OF f)).keep h; have Q := Lib.hid q; obtain ⟨⟨n0, a9, a0, a1, g0, g1⟩, g2, g3⟩ := q))
 have B2 : Below w.heap.size w w2 := (F.trans ((OF f).mono F.size)).trans (h.mono (Nat.le_trans F.size f.size))
 go_wp2_with fail
 refine AQ (v := .agg #[.bool (decide (z < 0)), .slice N (CC z.natAbs).length B]) ?_ O (TZ o Q.out B2 AA)
 simp [results, results194, go_sem, g0, g1]
theorem Mul_z (va vb : Value) (x y : Int) (w : World) (ha : IsI w va x) (hb : IsI w vb y) (hx : Fits x 1000000000) (hy : Fits y 1000000000) :
 Calls prog 194 #[va, vb] w (RetZ w (x * y)) := Mul_j va vb x y w ha.j hb.j hx hy
theorem Own.a {base g : Nat} (h : Own w base g n l) : OwnA w base (.slice (some ⟨g, 0, none⟩) n n) l := by
 unfold OwnA
 rw [h.len]
 exact h
theorem OwnA.below {base : Nat} (h : OwnA w base v l) (hb : Below w.heap.size w w') : OwnA w' base v l := by
 obtain ⟨t, e⟩ := h
 refine ⟨t, ?_⟩
 rcases e with e | ⟨p, k, f, q, hg, o, r⟩
 . exact Or.inl e
 exact Or.inr ⟨p, k, f, q, hg, by rw [hb.block p (Array.getElem?_eq_some_iff.1 o).1]; exact o, r⟩
theorem OwnA.base {base base' : Nat} (h : OwnA w base v l) (hb : base' <= base) : OwnA w base' v l := by
 obtain ⟨p, e⟩ := h
 refine ⟨p, ?_⟩
 rcases e with e | ⟨q, k, f, o, hg, r⟩
 . exact Or.inl e
 exact Or.inr ⟨q, k, f, o, by omega, r⟩
theorem pow32 (k : Nat) : (4294967296 : Nat) ^ k = 2 ^ (32 * k) := by
 rw [Nat.pow_mul]
def ZU (n m : Nat) : Nat := n / 2 ^ m
def IsRoot (r k A : Nat) : Prop := r ^ k <= A /\ A < (r + 1) ^ k
theorem pW (k A : Nat) (hk : 1 <= k) : ∃ r, IsRoot r k A := by
 have e : ∀ n, A < (n + 1) ^ k -> ∃ r, IsRoot r k A := by
  intro n
  induction n with
  | zero => intro h; exact ⟨0, by rw [Nat.zero_pow AA]; omega, h⟩
  | succ n ih =>
    intro h
    by_cases f : (n + 1) ^ k <= A
    . exact ⟨n + 1, f, h⟩
    exact ih AA
 refine e A ?_
 have := Nat.pow_le_pow_right (n := A + 1) AA hk
 rw [Nat.pow_one] at this
 omega
theorem uH (A : Nat) (h : 0 < A) : A < 2 ^ oL A /\ 2 ^ (oL A - 1) <= A /\ 1 <= oL A /\ oL A <= 32 * (CC A).length := by
 obtain ⟨l, x, e, B, k⟩ := VJ A h
 have f : (CC A).length = l.length + 1 := by rw [e]; simp
 have hg : gd (CC A) ((CC A).length - 1) = x := by
  rw [f, Nat.add_sub_cancel, e, LF _ _ _ (Nat.le_refl _), Nat.sub_self]; rfl
 have y : oL A = 32 * l.length + Lib.bitLen x := by
  unfold oL; rw [if_neg AA, hg, f, Nat.add_sub_cancel]
 obtain ⟨z, u, t⟩ := Lib.bitLenAux_bounds 64 x AA AA
 have C := yM x k
 have o : Lib.bitLenAux 64 x = Lib.bitLen x := rfl
 rw [o] at z u t
 have q := CO A
 have p := GB A
 rw [e, Wd_append] at p
 rw [e, XU] at q
 have v := GT p.1
 rw [pow32] at q v
 rw [y, f]
 refine ⟨?_, ?_, by omega, by omega⟩
 . rw [Nat.pow_add]
   have : 2 ^ (32 * l.length) * (x + 1) <= 2 ^ (32 * l.length) * 2 ^ Lib.bitLen x := Nat.mul_le_mul_left _ t
   rw [Nat.mul_add] at this
   omega
 rw [show 32 * l.length + Lib.bitLen x - 1 = 32 * l.length + (Lib.bitLen x - 1) by omega, Nat.pow_add]
 have : 2 ^ (32 * l.length) * 2 ^ (Lib.bitLen x - 1) <= 2 ^ (32 * l.length) * x := Nat.mul_le_mul_left _ u
 omega
def BitInv (A k i r : Nat) : Prop := r % 2 ^ i = 0 /\ r ^ k <= A /\ A < (r + 2 ^ i) ^ k
theorem BitInv.start (hA : 0 < A) (hk : 1 <= k) (h : oL A <= n * k) : BitInv A k n 0 := by
 refine ⟨by simp, by rw [Nat.zero_pow AA]; omega, ?_⟩
 have f := (uH A hA).1
 have e := Nat.pow_le_pow_right (n := 2) AA h
 rw [Nat.zero_add, <- Nat.pow_mul]
 omega
theorem BitInv.lt (h : BitInv A k i r) (hn : A < (2 ^ n) ^ k) : r < 2 ^ n := by
 rcases Nat.lt_or_ge r (2 ^ n) with e | e
 . exact e
 have := Nat.pow_le_pow_left e k
 have := h.2.1; omega
theorem BitInv.low (h : BitInv A k (i + 1) r) : r % 2 ^ (i + 1) = 0 := h.1
theorem BitInv.done (h : BitInv A k 0 r) : IsRoot r k A := ⟨h.2.1, by have := h.2.2; simpa using this⟩
theorem amgm (R x : Int) (hR : 0 <= R) (hx : 0 <= x) : ∀ k : Nat, R ^ (k + 1) + k * x ^ (k + 1) >= (k + 1) * R * x ^ k
 | 0 => by simp [Int.pow_succ]
 | k + 1 => by
   have ih := amgm R x hR hx k
   have hp : 0 <= x ^ k := Int.pow_nonneg hx
   have h1 := Int.mul_le_mul_of_nonneg_left ih hR
   have h2 : 0 <= ((k : Int) + 1) * (x ^ k * ((R - x) * (R - x))) := by
    refine Int.mul_nonneg AA (Int.mul_nonneg hp ?_)
    rcases Int.le_total 0 (R - x) with h | h
    . exact Int.mul_nonneg h h
    have := Int.mul_nonneg (Int.neg_nonneg_of_nonpos h) (Int.neg_nonneg_of_nonpos h); rwa [Int.neg_mul_neg] at this
   have e1 : R ^ (k + 1 + 1) = R * R ^ (k + 1) := by rw [Int.pow_succ]; exact Int.mul_comm _ _
   have e2 : x ^ (k + 1 + 1) = x * x * x ^ k := by rw [Int.pow_succ, Int.pow_succ]; grind
   have e3 : x ^ (k + 1) = x * x ^ k := by rw [Int.pow_succ]; exact Int.mul_comm _ _
   rw [e3] at h1 ⊢
   rw [e1, e2]
   have e : (((k + 1 : Nat)) : Int) = (k : Int) + 1 := by omega
   rw [e]
   generalize x ^ k = X at *
   generalize R ^ (k + 1) = Y at *
   grind
def YO (A k x : Nat) : Nat := ((k - 1) * x + A / x ^ (k - 1)) / k
theorem Iz {R : Nat} (hk : 2 <= k) (hx : 0 < x) (hR : R ^ k <= A) : R <= YO A k x := by
 unfold YO
 obtain ⟨m, rfl⟩ : ∃ m, k = m + 1 := ⟨k - 1, by omega⟩
 rw [Nat.add_sub_cancel, Nat.le_div_iff_mul_le AA]
 by_cases f : R * (m + 1) <= m * x
 . exact Nat.le_trans f (Nat.le_add_right _ _)
 have l := Nat.pow_pos (n := m) hx
 have o : R * (m + 1) - m * x <= A / x ^ m := by
  rw [Nat.le_div_iff_mul_le l]
  refine Nat.le_trans ?_ hR
  have h := amgm (R : Int) (x : Int) AA AA m
  have e : (((R * (m + 1) - m * x) * x ^ m : Nat) : Int) <= ((R ^ (m + 1) : Nat) : Int) := by
   rw [Int.natCast_mul, Int.ofNat_sub AA]
   push_cast
   rw [Int.pow_succ (x : Int) m] at h
   generalize (x : Int) ^ m = X at *
   generalize (R : Int) ^ (m + 1) = Y at *
   grind
  omega
 omega
theorem Iy (hk : 2 <= k) (hx : 0 < x) (h : A < x ^ k) : YO A k x < x := by
 unfold YO
 obtain ⟨m, rfl⟩ : ∃ m, k = m + 1 := ⟨k - 1, by omega⟩
 rw [Nat.add_sub_cancel]
 have e := Nat.pow_pos (n := m) hx
 have f : A / x ^ m < x := by
  apply Nat.div_lt_of_lt_mul
  rwa [Nat.pow_succ] at h
 apply Nat.div_lt_of_lt_mul
 rw [Nat.add_mul, Nat.one_mul]
 omega
def NewtInv (A k x : Nat) : Prop := 0 < x /\ A < (x + 1) ^ k /\ ∃ R, IsRoot R k A /\ 0 < R /\ x <= 2 * R
theorem NewtInv.step (h : NewtInv A k x) (hk : 2 <= k) (hlt : YO A k x < x) : NewtInv A k (YO A k x) := by
 obtain ⟨l, p, R, f, e, o⟩ := h
 have := Iz hk l f.1
 refine ⟨by omega, ?_, R, f, e, by omega⟩
 have := Nat.pow_le_pow_left (show R + 1 <= YO A k x + 1 by omega) k
 have := f.2
 omega
theorem NewtInv.done (h : NewtInv A k x) (hk : 2 <= k) (hge : x <= YO A k x) : IsRoot x k A := by
 obtain ⟨l, f, _⟩ := h
 refine ⟨?_, f⟩
 rcases Nat.lt_or_ge A (x ^ k) with e | e
 . have := Iy hk l e; omega
 exact e
theorem NewtInv.start {s : Nat} (hk : 1 <= k) (hr : IsRoot r k (A / 2 ^ (k * s))) (hr0 : 0 < r) : NewtInv A k ((r + 1) * 2 ^ s) := by
 have l := Nat.two_pow_pos s
 have p : A < ((r + 1) * 2 ^ s) ^ k := by
  rw [Nat.mul_pow, <- Nat.pow_mul, Nat.mul_comm s k]
  rw [<- Nat.div_lt_iff_lt_mul (Nat.two_pow_pos _)]
  exact hr.2
 have o : (r * 2 ^ s) ^ k <= A := by
  rw [Nat.mul_pow, <- Nat.pow_mul, Nat.mul_comm s k]
  rw [<- Nat.le_div_iff_mul_le (Nat.two_pow_pos _)]
  exact hr.1
 obtain ⟨R, f⟩ := pW k A hk
 have e : r * 2 ^ s <= R := by
  rcases Nat.lt_or_ge R (r * 2 ^ s) with h | h
  . have := Nat.pow_le_pow_left (show R + 1 <= r * 2 ^ s by omega) k
    have := f.2
    omega
  exact h
 have q : 1 * 2 ^ s <= r * 2 ^ s := Nat.mul_le_mul_right _ hr0
 refine ⟨Nat.mul_pos AA l, ?_, R, f, by omega, by rw [Nat.add_mul]; omega⟩
 have := Nat.pow_le_pow_left (show (r + 1) * 2 ^ s <= (r + 1) * 2 ^ s + 1 by omega) k
 omega
theorem NewtInv.size (h : NewtInv A k x) (hb : A < 2 ^ b) (p : Nat) (hp : p <= k) : x ^ p < 2 ^ (k + b) := by
 obtain ⟨q, o, R, l, e, f⟩ := h
 have e1 := Nat.pow_le_pow_left f p
 have e2 := Nat.pow_le_pow_right e hp
 have e3 := Nat.pow_le_pow_right (n := 2) AA hp
 rw [Nat.mul_pow] at e1
 rw [Nat.pow_add]
 have e4 : 2 ^ p * R ^ p <= 2 ^ k * R ^ k := Nat.mul_le_mul e3 e2
 have e5 : 2 ^ k * R ^ k < 2 ^ k * 2 ^ b := Nat.mul_lt_mul_of_pos_left (by have := l.1; omega) (Nat.two_pow_pos k)
 omega
set_option maxHeartbeats 1000000
theorem Gc (w : World) : ∃ W, W = w.alloc (.cells #[.bool false, .slice none 0 0] 62) /\ W.heap.size = w.heap.size + 1 /\ Below w.heap.size w W /\ RBox W w.heap.size := by
 refine ⟨_, O, by simp, (Below.refl _ _).alloc (Nat.le_refl _) _, ⟨⟨false, none, 0, 0, ?_, ?_⟩, ?_, ?_⟩⟩ <;> (try simp [go_sem]) <;> rfl
theorem lG (w : World) (n1 : Bool) (s1 : Value) : ∃ W, W = w.alloc (.cells #[.bool n1, s1] 62) /\ W.heap.size = w.heap.size + 1 /\ Below w.heap.size w W /\ Box W w.heap.size n1 s1 := by
 refine ⟨_, O, by simp, (Below.refl _ _).alloc (Nat.le_refl _) _, ⟨?_, ?_⟩⟩ <;> (try simp [go_sem]) <;> rfl
theorem RetZ.eq {n : Int} (h : RetZ w z e w') (hz : z = n) : RetZ w n e w' := by subst hz; exact h
theorem C9 (n : Int) (w : World) (h1 : -9223372036854775808 <= n) (h2 : n <= 9223372036854775807) :
 Calls prog 136 #[.int .i64 n] w (RetZ w n) := by
 obtain ⟨W, G, a0, C, S⟩ := Gc w
 have T := Lib.hid S
 clear S
 by_cases hn : n < 0
 . obtain ⟨k, hk⟩ : ∃ k : Nat, n = -(k : Int) := ⟨n.natAbs, by omega⟩
   have hc : IntKind.u64.wrap (-IntKind.u64.wrap n) = (k : Int) := by simp only [IntKind.wrap_u64]; omega
   have l : IE true k = n := by simp [IE]; omega
   have Q := Lib.hid l
   have J : k < 18446744073709551616 := by omega
   clear hk l
   go_enter func136, ntmps136
   go_upto_region 1 with fail
   rw [<- G]
   clear G
   go_wp2_with fail
   refine (cP k _ J).mono ?_
   rintro e U ⟨Y, rfl, t, h⟩
   go_wp2_with fail
   obtain ⟨z, f⟩ : ∃ z : Int, z = n := ⟨_, rfl⟩
   rw [<- f] at Q ⊢
   have y := Lib.hid f
   clear f hn hc h1 h2
   refine (QP _ _ _ z _ t (by rw [CO]; exact Q.out)).mono ?_
   exact Z1C
 obtain ⟨k, rfl⟩ : ∃ k : Nat, n = (k : Int) := ⟨n.natAbs, by omega⟩
 have l : IE false k = (k : Int) := rfl
 have Q := Lib.hid l
 go_enter func136, ntmps136
 go_upto_region 1 with fail
 rw [<- G]
 clear G
 go_wp2_with fail
 refine (cP k _ AA).mono ?_
 rintro e U ⟨Y, rfl, t, h⟩
 go_wp2_with fail
 obtain ⟨z, f⟩ : ∃ z : Int, z = (k : Int) := ⟨_, rfl⟩
 rw [<- f]
 refine (QP _ _ _ z _ t (by rw [CO, f]; rfl)).mono ?_
 have y := Lib.hid f
 clear f l
 exact Z1C
def LQ (n : Bool) (l : List Nat) : Bool := if l.length = 0 then !n else decide (gd l (l.length - 1) ≠ 0)
theorem Ki (n : Bool) (s : Value) (l : List Nat) (w : World) (ha : Sl w s l) :
 Calls prog 126 #[.agg #[.bool n, s]] w (LI w (LQ n l)) := by
 obtain ⟨I, u, rfl, L, H, G, B, v⟩ := ha
 have J := Lib.hid v
 clear v B G
 unfold maxLen at H
 obtain ⟨W, h, z, p, q⟩ := lG w n (.slice I l.length u)
 have P := q.1
 have N := q.2
 clear q
 by_cases f : l.length = 0
 . have e : LQ n l = !n := by unfold LQ; rw [if_pos f]
   rw [e]
   have F : ((l.length : Int) == 0) = true := by rw [f]; rfl
   clear e f
   exact ZoB
 obtain ⟨k, o⟩ : ∃ k, l.length = k + 1 := ⟨l.length - 1, by omega⟩
 have F : ((l.length : Int) == 0) = false := by rw [beq_eq_false_iff_ne]; omega
 obtain ⟨b, y, rfl, t⟩ := J.out k AA
 have t := DB t p
 have C : (l.length : Int) - 1 = (k : Int) := by omega
 by_cases hg : gd l k = 0
 . have e : LQ n l = false := by unfold LQ; rw [if_neg f, o, Nat.add_sub_cancel, hg]; rfl
   rw [e]
   rw [hg] at t
   clear e f o hg
   exact ZoB
 have e : LQ n l = true := by unfold LQ; rw [if_neg f, o, Nat.add_sub_cancel]; exact decide_eq_true hg
 rw [e]
 have D : (((gd l k : Nat) : Int) != 0) = true := by rw [bne_iff_ne]; omega
 clear e f o hg
 exact ZoB
theorem lI (va : Value) (x : Int) (w : World) (ha : IsI w va x) :
 Calls prog 126 #[va] w (LI w true) := by
 obtain ⟨s, rfl, k⟩ := ha
 have := Ki (decide (x < 0)) s _ w k
 have e : LQ (decide (x < 0)) (CC x.natAbs) = true := by
  unfold LQ
  by_cases h : (CC x.natAbs).length = 0
  . rw [if_pos h]
    have := (WS x).1 AA
    subst this; rfl
  rw [if_neg h]
  have f : 0 < x.natAbs := by
   rcases Nat.eq_zero_or_pos x.natAbs with e | e
   . rw [e, DX] at h; exact absurd rfl h
   exact e
  obtain ⟨l, y, e1, e2, _⟩ := VJ x.natAbs f
  rw [e1, List.length_append, List.length_singleton, Nat.add_sub_cancel, LF _ _ _ (Nat.le_refl _), Nat.sub_self]
  exact decide_eq_true (by show y ≠ 0; omega)
 rwa [e] at this
set_option maxHeartbeats 2000000
theorem Ts (a : Nat) (ha : a < 4294967296) : bits .or .u64 0 ((a : Int)) = (a : Int) := by
 have := bits_or_u64_nat 0 a AA AA
 rw [Nat.zero_or] at this
 exact this
theorem Tt (m a : Nat) (hm : m < 4294967296) (ha : a < 4294967296) : bits .or .u64 (m : Int) ((a : Int) * 4294967296) = ((m + 4294967296 * a : Nat) : Int) := by
 have e : (a : Int) * 4294967296 = ((a * 4294967296 : Nat) : Int) := by simp
 rw [e, bits_or_u64_nat _ _ AA AA]
 congr 1
 have := Nat.two_pow_add_eq_or_of_lt (i := 32) (by simpa using hm) a
 rw [Nat.or_comm, Nat.mul_comm a]
 rw [show (4294967296 : Nat) = 2 ^ 32 from rfl, <- this]
 omega
theorem kO {a b : Int} (h : a = b) : Ending.returned (.int .u64 a) = .returned (.int .u64 b) := by rw [h]
def RetV (w0 : World) (m : Nat) (e : Ending) (w' : World) : Prop := e = .returned (.int .u64 m) /\ w0 = w'
theorem UY (v : Value) (l : List Nat) (w : World) (h : Sl w v l) (hlen : l.length <= 2) :
 Calls prog 162 #[v] w (RetV w (val l)) := by
 obtain ⟨ao, cap, rfl, h1, h2, h3, hn, h4⟩ := h
 have H4 := Lib.hid h4
 have H3 := Lib.hid h3
 clear h4 hn h3
 unfold maxLen at h2
 go_enter func162, ntmps162
 go_wp2_with fail
 go_loop [3, 7] (fun sm i => ∃ (k m : Nat), k <= l.length /\ i = .int .i64 k /\ sm = .int .u64 m /\ Hid (m = val (l.take k)) /\ m < 18446744073709551616) (fun _ i => l.length - (intOf i).toNat)
 case atStart => exact ⟨0, 0, by omega, rfl, rfl, rfl, by omega⟩
 case round =>
  obtain ⟨k, m, hk, rfl, rfl, hm, hm2⟩ := hrel
  by_cases hlt : k < l.length
  . obtain ⟨b, off, rfl, hc⟩ := H4.out k hlt
    have hg := FD H3.out k
    by_cases hk0 : k = 0
    . subst hk0
      have hm0 : m = 0 := by rw [hm.out]; rfl
      subst hm0
      have hor := Ts (gd l 0) hg
      have HV : Hid (gd l 0 = val (l.take 1)) := by
       show gd l 0 = _
       rw [DJ, List.take_zero, cQ, Nat.pow_zero]; omega
      rw [Nat.add_zero] at hc
      clear hm hm2
      go_wp2_with fail
      go_round
      case rel => exact ⟨1, gd l 0, by omega, rfl, rfl, HV, by omega⟩
      case measure => simp [intOf]; omega
    obtain rfl : k = 1 := by omega
    have hm1 : m = gd l 0 := by rw [hm.out, DJ, List.take_zero, cQ, Nat.pow_zero]; omega
    have hg0 := FD H3.out 0
    have hor := Tt m (gd l 1) AA hg
    have HV : Hid (m + 4294967296 * gd l 1 = val (l.take 2)) := by
     show _ = _
     rw [DJ, <- hm.out, Nat.pow_one]
    obtain ⟨t, ht⟩ : ∃ t, t = m + 4294967296 * gd l 1 := ⟨_, rfl⟩
    have ht2 : t < 18446744073709551616 := by omega
    rw [<- ht] at hor HV
    clear hm hm1 ht
    go_wp2_with fail
    go_round
    case rel => exact ⟨2, t, by omega, rfl, rfl, HV, ht2⟩
    case measure => simp [intOf]; omega
  obtain rfl : k = l.length := by omega
  have HV : Hid (m = val l) := by have := hm.out; rwa [List.take_length] at this
  clear hm
  go_wp2_with fail
  go_ret
  exact ⟨kO (by rw [HV.out]), rfl⟩
def NV (z : Int) : Bool := decide (-9223372036854775808 <= z) && decide (z <= 9223372036854775807)
def YA (z : Int) : Int := if NV z then z else 0
def RetS (w0 : World) (n : Int) (b : Bool) (e : Ending) (w' : World) : Prop := e = .returned (.tuple #[.int .i64 n, .bool b]) /\ Below w0.heap.size w0 w'
theorem RetS.eq {n m : Int} {b c : Bool} (h : RetS w n b e w') (h1 : n = m) (h2 : b = c) : RetS w m c e w' := by subst h1 h2; exact h
theorem Hy (h : 2 < (CC z.natAbs).length) : NV z = false /\ YA z = 0 := by
 have := XQ h
 exact ZGH
theorem cY (h : z < -9223372036854775808 ∨ 9223372036854775807 < z) : NV z = false /\ YA z = 0 := by
 exact ZGH
theorem ZX (h1 : -9223372036854775808 <= z) (h2 : z <= 9223372036854775807) : NV z = true /\ YA z = z := by
 have h : NV z = true := by unfold NV; rw [Bool.and_eq_true, decide_eq_true_eq, decide_eq_true_eq]; exact ⟨h1, h2⟩
 exact ⟨h, by unfold YA; rw [h]; rfl⟩
theorem Gs (va : Value) (x : Int) (w : World) (ha : IsI w va x) :
 Calls prog 147 #[va] w (RetS w (YA x) (NV x)) := by
 obtain ⟨L, t, rfl, P, H, a0⟩ := ha.parts
 have SA := Lib.hid P
 clear ha P
 obtain ⟨n, F⟩ : ∃ n, n = decide (x < 0) := ⟨_, rfl⟩
 obtain ⟨m, y⟩ : ∃ m, m = x.natAbs := ⟨_, rfl⟩
 obtain ⟨R, I⟩ : ∃ R, R = YA x := ⟨_, rfl⟩
 obtain ⟨c, G⟩ : ∃ c, c = NV x := ⟨_, rfl⟩
 rw [<- F, <- y]
 rw [<- y] at SA H
 rw [<- I, <- G]
 have u := Lib.hid I
 have v := Lib.hid G
 have HN := Lib.hid F
 have B := Lib.hid y
 clear I G F y
 obtain ⟨W, h, X, p, D⟩ := lG w n (.slice L (CC m).length t)
 have c0 := D.1
 have c1 := D.2
 have S0 := Lib.hid (SA.out.below p)
 clear D
 by_cases q : 2 < (CC m).length
 . have hd : decide ((2 : Int) < ((CC m).length : Int)) = true := by simp; omega
   have f := Lib.hid (Hy (z := x) (by rw [<- B.out]; exact q))
   go_enter func147, ntmps147
   go_upto_region 1 with fail
   rw [<- h]
   clear h
   go_wp2_with fail
   go_ret2
   exact RetS.eq ⟨rfl, p⟩ (by rw [u.out, f.out.2]) Yf2
 have hd : decide ((2 : Int) < ((CC m).length : Int)) = false := by simp; omega
 have S : m < 18446744073709551616 := by
  have o := GT (GB m)
  rw [CO] at o
  have J := Nat.pow_le_pow_right (n := 4294967296) AA (show (CC m).length <= 2 by omega)
  omega
 cases n
 . have k : x = (m : Int) := by have o := HN.out; have J := B.out; have T : ¬ x < 0 := (by simpa using o.symm); omega
   by_cases hb : 9223372036854775808 <= m
   . have l : decide ((9223372036854775808 : Int) <= (m : Int)) = true := by simp; omega
     have f := Lib.hid (cY (z := x) (.inr AA))
     exact Z1Q
   have l : decide ((9223372036854775808 : Int) <= (m : Int)) = false := by simp; omega
   have f := Lib.hid (ZX (z := x) AA AA)
   have U := Lib.hid k
   clear k
   go_enter func147, ntmps147
   go_upto_region 1 with fail
   rw [<- h]
   clear h
   go_wp2_with fail
   refine (UY _ (CC m) _ S0.out AA).mono ?_
   rintro e C ⟨rfl, rfl⟩
   rw [CO]
   go_wp2_with fail
   go_ret2
   exact RetS.eq (n := (m : Int)) (b := true) ⟨rfl, p⟩ (by rw [u.out, f.out.2, U.out]) Yf2
 have k : x = -(m : Int) := by have o := HN.out; have J := B.out; have T : x < 0 := (by simpa using o.symm); omega
 have Y : 0 < m := by have o := HN.out; have J := B.out; have T : x < 0 := (by simpa using o.symm); omega
 by_cases hb : 9223372036854775808 < m
 . have l : decide ((9223372036854775808 : Int) < (m : Int)) = true := by simp; omega
   have f := Lib.hid (cY (z := x) (.inl AA))
   exact Z1Q
 have l : decide ((9223372036854775808 : Int) < (m : Int)) = false := by simp; omega
 have f := Lib.hid (ZX (z := x) AA AA)
 have U := Lib.hid k
 have Q : IntKind.i64.wrap (IntKind.u64.wrap (-(m : Int))) = x := by rw [k]; simp only [IntKind.wrap_u64, IntKind.wrap_i64]; omega
 have N := Lib.hid Q
 clear k Q
 go_enter func147, ntmps147
 go_upto_region 1 with fail
 rw [<- h]
 clear h
 go_wp2_with fail
 refine (UY _ (CC m) _ S0.out AA).mono ?_
 rintro e C ⟨rfl, rfl⟩
 rw [CO]
 go_wp2_with fail
 go_ret2
 exact RetS.eq (n := wrap64 (IntKind.u64.wrap (-(m : Int)))) (b := true) ⟨rfl, p⟩ (by rw [u.out, f.out.2, <- IntWalk.i64_left, N.out]) Yf2
def RetZE (w0 : World) (z : Int) (c : Int) (e : Ending) (w' : World) : Prop := ∃ v, e = .returned (.tuple #[v, .int .i64 c]) /\ IsI w' v z /\ Below w0.heap.size w0 w'
theorem RetZE.eq {n c d : Int} (h : RetZE w z c e w') (hz : z = n) (hc : c = d) : RetZE w n d e w' := by subst hz hc; exact h
theorem LZ (w : World) : IsI w (.agg #[.bool false, .slice none 0 0]) 0 := ⟨_, rfl, by rw [Int.natAbs_zero, DX]; exact cF w⟩
theorem mC (n : Nat) : IE false n = (n : Int) := rfl
theorem uA {x q r : Int} (hy : y ≠ 0) (h : x = q * y + r) (h0 : 0 <= r) (h1 : r < y.natAbs) : x / y = q /\ x % y = r := by
 rcases Int.lt_or_gt_of_ne hy with k | f
 . have e := (Int.ediv_emod_unique (a := x) (b := -y) (r := r) (q := -q) AA).2 ⟨by rw [h, Int.neg_mul_neg, Int.mul_comm, Int.add_comm], h0, by omega⟩
   rw [Int.ediv_neg, Int.emod_neg] at e
   exact ⟨by omega, e.2⟩
 exact (Int.ediv_emod_unique (a := x) (b := y) (r := r) (q := q) f).2 ⟨by rw [h, Int.mul_comm, Int.add_comm], h0, by omega⟩
theorem xZ {x : Int} (hy : y ≠ 0) (hnx : nx = decide (x < 0)) (hny : ny = decide (y < 0)) :
 (nx = true /\ 0 < x.natAbs % y.natAbs -> IE (!(nx == ny)) (x.natAbs / y.natAbs + 1) = x / y /\ ((y.natAbs - x.natAbs % y.natAbs : Nat) : Int) = x % y) /\
 (¬ (nx = true /\ 0 < x.natAbs % y.natAbs) -> IE (!(nx == ny)) (x.natAbs / y.natAbs) = x / y /\ ((x.natAbs % y.natAbs : Nat) : Int) = x % y) := by
 have u : 0 < y.natAbs := by omega
 have z := Nat.div_add_mod x.natAbs y.natAbs
 have B := Nat.mod_lt x.natAbs u
 generalize hq : x.natAbs / y.natAbs = q at *
 generalize hr : x.natAbs % y.natAbs = r at *
 constructor
 . rintro ⟨t, C⟩
   rw [t] at hnx
   have v : x < 0 := by simpa using hnx.symm
   have k : x = -((y.natAbs : Int) * q) - r := by omega
   subst t
   have o := uA (x := x) (y := y) (q := IE (!(true == ny)) (q + 1)) (r := ((y.natAbs - r : Nat) : Int)) hy ?_ AA AA
   . exact ⟨o.1.symm, o.2.symm⟩
   by_cases f : y < 0
   . have e : ny = true := by rw [hny]; simpa using f
     subst e
     have l : (y.natAbs : Int) = -y := by omega
     simp only [IE]
     rw [k, l, Int.ofNat_sub AA, l]
     simp
     grind
   have e : ny = false := by rw [hny]; simpa using f
   subst e
   have l : (y.natAbs : Int) = y := by omega
   simp only [IE]
   rw [k, l, Int.ofNat_sub AA, l]
   simp
   grind
 intro t
 by_cases v : x < 0
 . have e1 : nx = true := by rw [hnx]; simpa using v
   have p : r = 0 := by
    rcases Nat.eq_zero_or_pos r with h | h
    . exact h
    exact absurd ⟨e1, h⟩ t
   have k : x = -((y.natAbs : Int) * q) := by omega
   subst e1
   have o := uA (x := x) (y := y) (q := IE (!(true == ny)) q) (r := (r : Int)) hy ?_ AA AA
   . exact ⟨o.1.symm, o.2.symm⟩
   by_cases f : y < 0
   . have e : ny = true := by rw [hny]; simpa using f
     subst e
     have l : (y.natAbs : Int) = -y := by omega
     simp only [IE]
     rw [k, l, p]
     simp
     grind
   have e : ny = false := by rw [hny]; simpa using f
   subst e
   have l : (y.natAbs : Int) = y := by omega
   simp only [IE]
   rw [k, l, p]
   simp
   grind
 have e1 : nx = false := by rw [hnx]; simpa using v
 have k : x = (y.natAbs : Int) * q + r := by omega
 subst e1
 have o := uA (x := x) (y := y) (q := IE (!(false == ny)) q) (r := (r : Int)) hy ?_ AA AA
 . exact ⟨o.1.symm, o.2.symm⟩
 by_cases f : y < 0
 . have e : ny = true := by rw [hny]; simpa using f
   subst e
   have l : (y.natAbs : Int) = -y := by omega
   simp only [IE]
   rw [k, l]
   simp
   grind
 have e : ny = false := by rw [hny]; simpa using f
 subst e
 have l : (y.natAbs : Int) = y := by omega
 simp only [IE]
 rw [k, l]
 simp
 grind
end Go.Proofs.YtmppigbbkjepiaaGreatDoor
