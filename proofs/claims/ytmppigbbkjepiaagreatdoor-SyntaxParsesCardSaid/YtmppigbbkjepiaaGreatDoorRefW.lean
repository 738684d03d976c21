/- Helping facts of RefW; no other conditions. -/
import Derived.Deep.RegionWith
import Derived.Test.YtmppigbbkjepiaaGreatDoorTxtL
import Derived.Laws.CopyOwn
set_option maxHeartbeats 8000000
set_option maxRecDepth 100000
namespace Go.Proofs.YtmppigbbkjepiaaGreatDoor
open Go.Proofs.Tryz
open Go.RowKit W
variable {c j n q : Nat} {l r v : List Nat} {p : Prop}
theorem Y4m (h : p := by have := HK.out; omega) : p := h
theorem Zut (h : p := by
 clear G' G btop hXb hv10
 go_upto_region 7 with fail
 by_cases hr2 : 4294967296 <= r + v1
 . have hr3 : decide ((4294967296 : Int) <= (r : Int) + (v1 : Int)) = true := by simp; omega
   have hlow' := hlow
   rw [HTOP.out] at hlow'
   have hgr := T.out.grown hlow' hr2
   go_wp2_with fail
   go_ret
   exact ⟨q - 1, lR AA, hgr.1, hlow.2, T.out.good hlow' hgr.1 hgr.2, _, rfl⟩
 . have hr3 : decide ((4294967296 : Int) <= (r : Int) + (v1 : Int)) = false := by simp; omega
   go_wp2_with fail
   go_roundw
   case rel => exact ⟨q - 1, r + v1, by go_num, by go_num, by omega, hlow, _, rfl⟩
   case measure => simp [intOf]; omega
 ) : p := h
theorem ZYx (h : p := by
 go_wp2_with fail
 refine (RY _ r _ (hown.sl HD.out.1)).mono ?_
 rintro e w' ⟨rfl, v', rfl, hsl⟩
 have hsl := hsl _ (hown.sl HD.out.1)
 rw [HD.out.2] at hsl
 go_wp2
 go_ret
 exact ⟨v', rfl, hsl, hbel⟩
 ) : p := h
theorem ZkB (h : p := by
 clear hne hmn
 go_enter func120, ntmps120
 go_wp2
 go_ret
 exact ⟨FW HR.out.symm, 0, rfl⟩
 ) : p := h
def E0 (w0 : World) (n : Nat) (e : Ending) (w' : World) : Prop := e = .returned (.int .u64 (n : Int)) /\ w0 = w'
theorem UH (v : Value) (l : List Nat) (i : Nat) (w : World) (h : Sl w v l) (_ : i < 9223372036854775808) :
 Calls prog 158 #[v, .int .i64 i] w (E0 w (gd l i)) := by
 obtain ⟨B, q, rfl, y, p, k, _, f⟩ := h
 unfold maxLen at p
 by_cases e : i < l.length
 . obtain ⟨b, o, rfl, u⟩ := f i e
   have hg := FL k i
   clear f k
   go_enter func158, ntmps158
   go_wp2
   go_ret
   exact ⟨rfl, rfl⟩
 have hg := Qj l i AA
 have t := Lib.hid hg
 clear f k hg
 go_enter func158, ntmps158
 go_wp2
 go_ret
 exact ⟨by rw [t.out]; rfl, rfl⟩
theorem cP (va vb : Value) (m n : Nat) (w : World) (ha : Sl w va (CD m)) (hb : Sl w vb (CD n)) :
 Calls prog 120 #[va, vb] w (RetI w (JR m n)) := by
 obtain ⟨aoa, capa, rfl, ha1, ha2, ha3, _, ha4⟩ := ha
 obtain ⟨aob, capb, rfl, hb1, hb2, hb3, _, hb4⟩ := hb
 have HA := Lib.hid ha4
 have HB := Lib.hid hb4
 have WA := Lib.hid ha3
 have WB := Lib.hid hb3
 clear ha4 hb4 ha3 hb3
 unfold maxLen at ha2 hb2
 by_cases hne : (CD m).length = (CD n).length
 . have HL := Lib.hid hne
   have hl1 : ¬ ((CD m).length : Int) < (CD n).length := by omega
   have hl2 : ¬ ((CD n).length : Int) < (CD m).length := by omega
   have hl3 : (CD m).length <= (CD n).length := by omega
   have hl4 : (CD n).length <= (CD m).length := by omega
   clear hne
   go_enter func120, ntmps120
   go_wp2
   go_loopw [5] (fun i wr => ∃ (k : Nat) (z : Int), k <= (CD m).length /\ z + 1 <= k /\ k <= z + 1 /\ i = .int .i64 z /\ SameFrom (CD m) (CD n) k /\ ∃ q, wr = w.drewN q) (fun i _ => (intOf i + 1).toNat)
   case atStart => exact ⟨_, _, Nat.le_refl _, by omega, by omega, rfl, SameFrom.start _ _, 0, rfl⟩
   case round =>
    obtain ⟨k, z, hk, hz1, hz2, rfl, hs, q, rfl⟩ := hrel
    by_cases hk0 : k = 0
    . subst hk0
      have hz : z < 0 := by omega
      go_wp2
      go_ret
      exact ⟨FW (WF (by rw [hs.eq HL.out])).symm, q, rfl⟩
    obtain ⟨j, rfl⟩ : ∃ j, k = j + 1 := ⟨k - 1, by omega⟩
    obtain rfl : z = (j : Int) := by omega
    clear hk0
    obtain ⟨b, off, rfl, hca⟩ := HA.out j AA
    obtain ⟨b2, off2, rfl, hcb⟩ := HB.out j AA
    rcases Nat.lt_trichotomy (gd (CD m) j) (gd (CD n) j) with hx | hx | hx
    . have h1 : ((gd (CD m) j : Nat) : Int) < ((gd (CD n) j : Nat) : Int) := by omega
      go_wp2
      go_quiet (fail)
      go_wp2
      go_ret
      exact ⟨FW (OW (by have := hs.lt HL.out AA hx; omega)).symm, _, by simp only [World.drewN_drewN]; rfl⟩
    . have h1 : ¬ ((gd (CD m) j : Nat) : Int) < ((gd (CD n) j : Nat) : Int) := by omega
      have h2 : ¬ ((gd (CD n) j : Nat) : Int) < ((gd (CD m) j : Nat) : Int) := by omega
      have hst := hs.step hx
      clear hx hs
      go_wp2
      go_quiet (fail)
      go_wp2
      go_quiet (fail)
      go_wp2
      go_roundw
      case rel => exact ⟨j, _, by omega, by omega, by omega, rfl, hst, (by first | exact ⟨_, rfl⟩ | exact ⟨_, by simp only [World.drewN_drewN]; rfl⟩)⟩
      case measure => simp [intOf]
    have h1 : ¬ ((gd (CD m) j : Nat) : Int) < ((gd (CD n) j : Nat) : Int) := by omega
    have h2 : ((gd (CD n) j : Nat) : Int) < ((gd (CD m) j : Nat) : Int) := by omega
    go_wp2
    go_quiet (fail)
    go_wp2
    go_quiet (fail)
    go_wp2
    go_ret
    exact ⟨FW (QD (by have := hs.gt HL.out AA hx; omega)).symm, _, by simp only [World.drewN_drewN]; rfl⟩
 by_cases hlt : (CD m).length < (CD n).length
 . have hmn := MZ hlt
   have HR := Lib.hid (OW (x := m) (y := n) AA)
   have hd : ((CD m).length : Int) < (CD n).length := by omega
   exact ZkB
 have hmn := MZ (m := n) (n := m) AA
 have HR := Lib.hid (QD (x := m) (y := n) AA)
 have hd : ¬ ((CD m).length : Int) < (CD n).length := by omega
 have hd2 : ((CD n).length : Int) < (CD m).length := by omega
 exact ZkB
theorem SumInv.fin {la lb : List Nat} (h : SumInv la lb n n c r) (hn : n = max la.length lb.length + 1) (ha : Wd la) (hb : Wd lb) :
 Wd r /\ val r = val la + val lb := by
 obtain ⟨l, k, done, rfl, o, e, f⟩ := h
 have v := GV ha
 have u := GV hb
 have t : 4294967296 ^ la.length <= 4294967296 ^ (max la.length lb.length) := Nat.pow_le_pow_right AA AA
 have q : 4294967296 ^ lb.length <= 4294967296 ^ (max la.length lb.length) := Nat.pow_le_pow_right AA AA
 have p : 4294967296 ^ n = 4294967296 ^ (max la.length lb.length) * 4294967296 := by rw [hn, Nat.pow_succ]
 rw [DX la n AA, DX lb n AA] at f
 rw [Nat.sub_self, List.replicate_zero, List.append_nil]
 refine ⟨e, ?_⟩
 rcases Nat.le_one_iff_eq_zero_or_eq_one.1 l with rfl | rfl
 . omega
 exfalso; omega
theorem Jo (va vb : Value) (la lb : List Nat) (w : World) (ha : Sl w va la) (hb : Sl w vb lb) (hsa : la.length <= 1000000000) (hsb : lb.length <= 1000000000) :
 Calls prog 119 #[va, vb] w (Dv w (CD (val la + val lb))) := by
 have HA := Lib.hid ha
 have HB := Lib.hid hb
 obtain ⟨aoa, capa, rfl, ha1, ha2, ha3, _, _⟩ := ha
 obtain ⟨aob, capb, rfl, hb1, hb2, hb3, _, _⟩ := hb
 have WA := Lib.hid ha3
 have WB := Lib.hid hb3
 clear ha3 hb3
 unfold maxLen at ha2 hb2
 obtain ⟨n, hn⟩ : ∃ n : Nat, n = max la.length lb.length + 1 := ⟨_, rfl⟩
 have hnn : n <= 1000000001 := by omega
 have hmax : max (la.length : Int) (lb.length : Int) = (n : Int) - 1 := by omega
 have HN := Lib.hid hn
 clear hn
 go_enter func119, ntmps119
 go_wp2_with (at_make; refine FU _ rfl _ _ rfl _ _ n rfl rfl ?c1 ?c2 ?c3 ?_)
 case c1 => omega
 case c2 => omega
 case c3 => omega
 intro w1 hown hbel hsz1
 go_wp2
 go_loopw [7, 8] (fun c i wr => ∃ (k cr : Nat) (r : List Nat), k <= n /\ cr <= 1 /\ i = .int .i64 k /\ c = .int .u64 cr /\ SumInv la lb n k cr r /\ Own wr w.heap.size w.heap.size n r /\ Below w.heap.size w wr)
  (fun _ i _ => n - (intOf i).toNat)
 case atStart => exact ⟨0, 0, _, by omega, by omega, rfl, rfl, SumInv.start _ _ _, hown, hbel⟩
 case round =>
  clear hown hbel hsz1
  obtain ⟨k, cr, r, hk, hcr, rfl, rfl, hinv, hown, hbel⟩ := hrel
  by_cases hlt : k < n
  . have hxa := FL WA.out k
    have hxb := FL WB.out k
    have hcr1 := hown.cell k AA
    have hfr := hown.free k
    go_wp2_with fail
    refine (UH _ la k _ (HA.out.below hbel) AA).mono ?_
    rintro e w' ⟨rfl, rfl⟩
    go_wp2_with fail
    refine (UH _ lb k _ (HB.out.below hbel) AA).mono ?_
    rintro e w' ⟨rfl, rfl⟩
    go_wp2
    go_roundw
    case rel =>
     have hst := hinv.step AA (gd la k + gd lb k + cr) rfl hxa hxb
     exact ⟨k + 1, _, _, by omega, hst.1, by go_num, by go_num, hst, hown.set k _ _ AA, hbel.setCell (Nat.le_refl _) _⟩
    case measure => simp [intOf]; omega
  obtain rfl : k = n := by omega
  have HD := Lib.hid (hinv.fin HN.out WA.out WB.out)
  exact ZYx
theorem Im (a b c : Nat) (ha : a < 4294967296) (hb : b < 4294967296) (hc : c <= 1) :
 ∃ t x c' : Nat, t < 18446744073709551616 /\ t = x + 4294967296 * (1 - c') /\ x < 4294967296 /\ c' <= 1 /\ x + b + c = a + 4294967296 * c' /\
  (4294967296 : Int) + (a : Int) - (b : Int) - (c : Int) = (t : Int) /\ (t : Int) % 4294967296 = (x : Int) /\ 1 - (t : Int) / 4294967296 = (c' : Int) := by
 by_cases h : b + c <= a
 . exact ⟨4294967296 + a - b - c, a - b - c, 0, by omega, by omega, by omega, by omega, by omega, by omega, by omega, by omega⟩
 exact ⟨4294967296 + a - b - c, 4294967296 + a - b - c, 1, by omega, by omega, by omega, by omega, by omega, by omega, by omega, by omega⟩
theorem Jh (va vb : Value) (la lb : List Nat) (w : World) (ha : Sl w va la) (hb : Sl w vb lb) (hsz : la.length <= 1000000000) (hl : lb.length <= la.length) (hle : val lb <= val la) :
 Calls prog 121 #[va, vb] w (Dv w (CD (val la - val lb))) := by
 have HB := Lib.hid hb
 obtain ⟨aoa, capa, rfl, ha1, ha2, ha3, _, ha4⟩ := ha
 have HA := Lib.hid ha4
 have WA := Lib.hid ha3
 have WB := Lib.hid hb.wd
 have HLE := Lib.hid hle
 clear ha4 ha3 hle hb
 unfold maxLen at ha2
 go_enter func121, ntmps121
 go_wp2_with (at_make; refine FU _ rfl _ _ rfl _ _ la.length rfl rfl ?c1 ?c2 ?c3 ?_)
 case c1 => rfl
 case c2 => rfl
 case c3 => omega
 intro w1 hown hbel hsz1
 go_wp2
 go_loopw [6, 7] (fun c i wr => ∃ (k cr : Nat) (r : List Nat), k <= la.length /\ cr <= 1 /\ i = .int .i64 k /\ c = .int .u64 cr /\ DiffInv la lb k cr r /\ Own wr w.heap.size w.heap.size la.length r /\ Below w.heap.size w wr)
  (fun _ i _ => la.length - (intOf i).toNat)
 case atStart => exact ⟨0, 0, _, by omega, by omega, rfl, rfl, DiffInv.start _ _, hown, hbel⟩
 case round =>
  clear hown hbel hsz1
  obtain ⟨k, cr, r, hk, hcr, rfl, rfl, hinv, hown, hbel⟩ := hrel
  by_cases hlt : k < la.length
  . obtain ⟨b, off, rfl, hca⟩ := HA.out k hlt
    have hca := DB hca hbel
    have hxa := FL WA.out k
    have hxb := FL WB.out k
    have hcr1 := hown.cell k AA
    have hfr := hown.free k
    have HBw := Lib.hid (HB.out.below hbel)
    obtain ⟨t, x, c', t1, t2, t3, t4, t5, t6, t7, t8⟩ := Im _ _ _ hxa hxb hcr
    have T5 := Lib.hid t5
    clear t5
    go_wp2_with fail
    go_region_with (first
     | (go_at_call 158; refine (UH _ lb k _ (by first | exact HBw.out | exact HBw.out.drewN _) AA).mono ?_; rintro e w' ⟨rfl, rfl⟩))
    all_goals
     go_wp2_with fail
     go_roundw
     case rel => exact ⟨k + 1, c', _, by omega, t4, by go_num, by go_num, hinv.step AA x c' t3 t4 T5.out, Own.set (by first | exact hown | exact hown.drewN _) k _ x AA, (by first | exact hbel.setCell (Nat.le_refl _) _ | exact (JJ hbel _).setCell (Nat.le_refl _) _)⟩
     case measure => simp [intOf]; omega
  obtain rfl : k = la.length := by omega
  have HD := Lib.hid (hinv.done hl WA.out HLE.out)
  exact ZYx
theorem iV (va vb : Value) (la lb : List Nat) (w : World) (ha : Sl w va la) (hb : Sl w vb lb) (hsa : la.length <= 1000000000) (hsb : lb.length <= 1000000000) :
 Calls prog 122 #[va, vb] w (Dv w (CD (val la * val lb))) := by
 obtain ⟨aoa, capa, rfl, ha1, ha2, ha3, _, ha4⟩ := ha
 obtain ⟨aob, capb, rfl, hb1, hb2, hb3, _, hb4⟩ := hb
 have HA := Lib.hid ha4
 have HB := Lib.hid hb4
 have WA := Lib.hid ha3
 have WB := Lib.hid hb3
 clear ha4 hb4 ha3 hb3
 unfold maxLen at ha2 hb2
 go_enter func122, ntmps122
 go_wp2_with (at_make; refine FU _ rfl _ _ rfl _ _ (la.length + lb.length) rfl rfl ?c1 ?c2 ?c3 ?_)
 case c1 => omega
 case c2 => omega
 case c3 => omega
 intro w1 hown hbel hsz1
 go_wp2
 go_loopw [6] (fun i wr => ∃ (k : Nat) (r : List Nat), k <= la.length /\ i = .int .i64 k /\ MulInv la lb k r /\ Own wr w.heap.size w.heap.size (la.length + lb.length) r /\ Below w.heap.size w wr)
  (fun i _ => la.length - (intOf i).toNat)
 case atStart => exact ⟨0, _, by omega, rfl, MulInv.start _ _, hown, hbel⟩
 case round =>
  clear hown hbel hsz1
  obtain ⟨k, r, hk, rfl, hinv, hown, hbel⟩ := hrel
  by_cases hlt : k < la.length
  . obtain ⟨b, off, rfl, hca0⟩ := HA.out k hlt
    have hca := DB hca0 hbel
    have hxa := FL WA.out k
    go_wp2
    obtain ⟨wo, rfl⟩ : ∃ wo : World, wo = wr := ⟨_, rfl⟩
    go_loopw [7, 8] (fun c i wr => ∃ (j cr : Nat) (r : List Nat), j <= lb.length /\ cr < 4294967296 /\ i = .int .i64 j /\ c = .int .u64 cr /\ RowInv la lb k j cr r /\ Own wr w.heap.size w.heap.size (la.length + lb.length) r /\ Below w.heap.size w wr)
     (fun _ i _ => lb.length - (intOf i).toNat)
    case atStart => exact ⟨0, 0, r, by omega, by omega, rfl, rfl, hinv.row, hown, hbel⟩
    case round =>
     clear hown hbel hinv hca
     obtain ⟨j, cr, r, hj, hcr, rfl, rfl, hinv, hown, hbel⟩ := hrel
     by_cases hltb : j < lb.length
     . obtain ⟨b2, off2, rfl, hcb⟩ := HB.out j hltb
       have hca := DB hca0 hbel
       have hcb := DB hcb hbel
       have hxb := FL WB.out j
       have hcr1 := hown.cell (k + j) AA
       have hfr := hown.free (k + j)
       have hxr := FL hinv.2.1 (k + j)
       have hmb := sA hxa hxb hxr hcr
       obtain ⟨s1, s2, s3, t, ht, s4, ht2⟩ := xZ hxa hxb hxr hcr
       have HT := Lib.hid ht
       have q1 : IntKind.i64.wrap ((k : Int) + (j : Int)) = (k : Int) + (j : Int) := IntWalk.i64_in _ AA
       have q2 : (0 : Int) <= (k : Int) + (j : Int) := by omega
       have q3 : ((k : Int) + (j : Int)).toNat = k + j := by omega
       have q4 : ((k : Int) + (j : Int)) < (la.length : Int) + (lb.length : Int) := by omega
       clear ht hmb
       go_wp2
       go_quiet (fail)
       clear s1 s2 s3
       go_wp2
       go_roundw
       case rel =>
        exact ⟨j + 1, t / 4294967296, _, by omega, by omega, by go_num, by go_num, hinv.step hlt hltb t HT.out hxa hxb, Own.set (hown.drewN _) (k + j) _ (t % 4294967296) AA, (JJ hbel _).setCell (Nat.le_refl _) _⟩
       case measure => simp [intOf]; omega
     obtain rfl : j = lb.length := by omega
     have hcr1 := hown.cell (k + lb.length) AA
     have hfr := hown.free (k + lb.length)
     have hd := hinv.done hlt
     go_wp2
     go_roundw
     case rel => exact ⟨k + 1, _, by omega, by go_num, hd, hown.set (k + lb.length) _ cr AA, hbel.setCell (Nat.le_refl _) _⟩
     case measure => simp [intOf]; omega
  obtain rfl : k = la.length := by omega
  have HD : Hid (val r = val la * val lb) := by
   have := hinv.2.2.1
   rwa [DX la _ (Nat.le_refl _)] at this
  go_wp2_with fail
  refine (RY _ r _ (hown.sl hinv.2.1)).mono ?_
  rintro e w' ⟨rfl, v', rfl, hsl⟩
  have hsl := hsl _ (hown.sl hinv.2.1)
  rw [HD.out] at hsl
  go_wp2
  go_ret
  exact ⟨v', rfl, hsl, hbel⟩
theorem aC (va : Value) (la : List Nat) (d : Nat) (w : World) (ha : Sl w va la) (hsz : la.length <= 1000000000) (hd : 0 < d) (hd2 : d < 4294967296) :
 Calls prog 155 #[va, .int .u64 d] w (Aj w (val la / d) (val la % d)) := by
 obtain ⟨aoa, capa, rfl, ha1, ha2, ha3, _, ha4⟩ := ha
 have HA := Lib.hid ha4
 have WA := Lib.hid ha3
 clear ha4 ha3
 unfold maxLen at ha2
 go_enter func155, ntmps155
 go_wp2_with (at_make; refine FU _ rfl _ _ rfl _ _ la.length rfl rfl ?c1 ?c2 ?c3 ?_)
 case c1 => rfl
 case c2 => rfl
 case c3 => omega
 intro w1 hown hbel hsz1
 go_wp2
 go_loopw [7, 8] (fun c i wr => ∃ (k cr : Nat) (z : Int) (q : List Nat), k <= la.length /\ cr < d /\ z + 1 <= k /\ k <= z + 1 /\ i = .int .i64 z /\ c = .int .u64 cr /\ DsInv la d k cr q /\ Own wr w.heap.size w.heap.size la.length q /\ Below w.heap.size w wr)
  (fun _ i _ => (intOf i + 1).toNat)
 case atStart => exact ⟨la.length, 0, _, _, Nat.le_refl _, hd, by omega, by omega, rfl, rfl, DsInv.start _ _ hd, hown, hbel⟩
 case round =>
  clear hown hbel hsz1
  obtain ⟨k, cr, z, q, hk, hcr, hz1, hz2, rfl, rfl, hinv, hown, hbel⟩ := hrel
  by_cases hk0 : k = 0
  . subst hk0
    have hz : z < 0 := by omega
    have HD := Lib.hid hinv.done
    go_wp2_with fail
    refine (RY _ q _ (hown.sl HD.out.1)).mono ?_
    rintro e w' ⟨rfl, v', rfl, hsl⟩
    have hsl := hsl _ (hown.sl HD.out.1)
    rw [HD.out.2.1] at hsl
    go_wp2
    go_ret2
    exact ⟨v', by rw [<- HD.out.2.2]; rfl, hsl, hbel⟩
  obtain ⟨j, rfl⟩ : ∃ j, k = j + 1 := ⟨k - 1, by omega⟩
  obtain rfl : z = (j : Int) := by omega
  clear hk0
  obtain ⟨b, off, rfl, hca⟩ := HA.out j AA
  have hca := DB hca hbel
  have hxa := FL WA.out j
  have hcr1 := hown.cell j AA
  have hfr := hown.free j
  obtain ⟨t, ht⟩ : ∃ t : Nat, t = cr * 4294967296 + gd la j := ⟨_, rfl⟩
  have hst := hinv.step AA hxa t ht
  have htd : t / d < 4294967296 := by rw [ht]; exact Gx hxa hcr
  have htd0 : (0 : Int) <= (t : Int) / (d : Int) := Int.ediv_nonneg AA AA
  have ht2 : t < 18446744073709551616 := by omega
  have hw1 : IntKind.u64.wrap ((cr : Int) * 4294967296) = (cr : Int) * 4294967296 := IntWalk.u64_in _ AA
  have hw2 : IntKind.u64.wrap ((cr : Int) * 4294967296 + ((gd la j : Nat) : Int)) = (t : Int) := by rw [IntWalk.u64_in _ AA]; omega
  have hw3 : (cr : Int) * 4294967296 + ((gd la j : Nat) : Int) = (t : Int) := by omega
  have hne : ¬ (d : Int) = 0 := by omega
  clear ht hinv
  go_wp2
  go_roundw
  case rel => exact ⟨j, t % d, _, _, by omega, hst.2.2.1, by omega, by omega, rfl, by go_num, hst, hown.set j _ (t / d) AA, hbel.setCell (Nat.le_refl _) _⟩
  case measure => simp [intOf]
theorem Ii (h : (CD n).length <= 2) : gd (CD n) 1 * 4294967296 + gd (CD n) 0 = n := by
 have e := DX (CD n) 2 h
 rw [DQ, DQ, CO] at e
 simp [val] at e
 omega
theorem QW (v : Value) (n : Nat) (w : World) (h : Sl w v (CD n)) (h2 : (CD n).length <= 2) :
 Calls prog 156 #[v] w (E0 w n) := by
 have H := Lib.hid h
 have HN := Lib.hid (Ii h2)
 have o := FL (GF n) 1
 have p := FL (GF n) 0
 have l : IntKind.u64.wrap (((gd (CD n) 1 : Nat) : Int) * 4294967296) = ((gd (CD n) 1 : Nat) : Int) * 4294967296 := IntWalk.u64_in _ AA
 have k : IntKind.u64.wrap (((gd (CD n) 1 : Nat) : Int) * 4294967296 + ((gd (CD n) 0 : Nat) : Int)) = ((gd (CD n) 1 : Nat) : Int) * 4294967296 + ((gd (CD n) 0 : Nat) : Int) := IntWalk.u64_in _ AA
 clear h h2
 go_enter func156, ntmps156
 go_wp2_with fail
 refine (UH _ (CD n) 1 _ H.out AE).mono ?_
 rintro e f ⟨rfl, rfl⟩
 go_wp2_with fail
 refine (UH _ (CD n) 0 _ H.out AE).mono ?_
 rintro e f ⟨rfl, rfl⟩
 go_wp2
 go_ret
 exact ⟨lR (by have := HN.out; omega), rfl⟩
theorem Cb (m0 n0 : Nat) (w : World) (hm : m0 < 18446744073709551616) (hn : n0 < 18446744073709551616) :
 Calls prog 186 #[.int .u64 m0, .int .u64 n0] w (E0 w (Nat.gcd m0 n0)) := by
 obtain ⟨G, hG⟩ : ∃ G, G = Nat.gcd m0 n0 := ⟨_, rfl⟩
 rw [<- hG]
 have HG : GcdIs m0 n0 G := hG.symm
 clear hG
 go_enter func186, ntmps186
 go_wp2
 go_loopw [0, 1] (fun sm sn wx => ∃ m n : Nat, sm = .int .u64 m /\ sn = .int .u64 n /\ m < 18446744073709551616 /\ n < 18446744073709551616 /\ GcdIs m n G /\ w = wx) (fun _ sn _ => (intOf sn).toNat)
 case atStart => exact ⟨m0, n0, rfl, rfl, hm, hn, HG, rfl⟩
 case round =>
  obtain ⟨m, n, rfl, rfl, hm, hn, hg, rfl⟩ := hrel
  clear HG
  by_cases hn0 : n = 0
  . subst hn0
    obtain rfl := hg.done
    go_wp2
    go_ret
    exact ⟨rfl, rfl⟩
  have hf : (0 : Int) < (n : Int) := by omega
  have hrem : (m : Int).tmod (n : Int) = ((m % n : Nat) : Int) := by rw [IntWalk.rem_in _ _ AA]; simp
  have hrem' : (m : Int) % (n : Int) = ((m % n : Nat) : Int) := by simp
  have hne : ¬ (n : Int) = 0 := by omega
  have hg2 := hg.step
  have hlt := Nat.mod_lt m (show 0 < n by omega)
  obtain ⟨r, hr⟩ : ∃ r, r = m % n := ⟨_, rfl⟩
  rw [<- hr] at hrem hrem' hg2 hlt
  clear hr hg hn0
  go_wp2
  go_roundw
  case rel => exact ⟨n, r, rfl, rfl, hn, by omega, hg2, by first | rfl | trivial⟩
  case measure => simp [intOf]; omega
def RetGs (w0 : World) (U V : Nat) (e : Ending) (w' : World) : Prop := ∃ q : Nat, e = .returned (.int .u64 q) /\ q < 4294967296 /\ U / V <= q /\ q * V < U + V /\ ∃ d, w' = w0.drewN d
theorem Jk (g j n cu bv ov cv : Nat) (l lv : List Nat) (w : World) (hu : ∀ i, i < n + 1 -> w.cell? ⟨g, j + i, none⟩ = some (.int .u32 ↑(gd l (j + i)))) (hwl : Wd l) (hcu : n + 1 <= cu) (hcu2 : cu <= 2000000000) (_hcv : n <= cv) (_hcv2 : cv <= maxLen)
 (hv : ∀ i, i < n -> w.cell? ⟨bv, ov + i, none⟩ = some (.int .u32 ↑(gd lv i))) (hlv : lv.length = n) (hn : 2 <= n) (hwv : Wd lv) (hnorm : 2147483648 <= gd lv (n - 1))
 (hlt : val (LB l j (n + 1)) < 4294967296 * val lv) :
 Calls prog 207 #[.slice (some ⟨g, j, none⟩) (n + 1) cu, .slice (some ⟨bv, ov, none⟩) n cv] w (RetGs w (val (LB l j (n + 1))) (val lv)) := by
 have T := Lib.hid (Em hn hwl hwv hlv hnorm hlt)
 obtain ⟨U, hU⟩ : ∃ U, U = val (LB l j (n + 1)) := ⟨_, rfl⟩
 obtain ⟨V, hV⟩ : ∃ V, V = val lv := ⟨_, rfl⟩
 rw [<- hU, <- hV] at T ⊢
 have un_le := T.out.un_le
 have cn := hu n AA
 have cn1 := hu (n - 1) AA
 have cn2 := hu (n - 2) AA
 have dn1 := hv (n - 1) AA
 have dn2 := hv (n - 2) AA
 have bn := FL hwl (j + n)
 have bn1 := FL hwl (j + (n - 1))
 have bn2 := FL hwl (j + (n - 2))
 have ev1 := FL hwv (n - 1)
 have ev2 := FL hwv (n - 2)
 clear hU hV hlv hwl hwv hlt hv hu
 have hl1 : IntKind.i64.wrap ((n : Int) - 1) = (n : Int) - 1 := IntWalk.i64_in _ AA
 have hl2 : IntKind.i64.wrap ((n : Int) - 2) = (n : Int) - 2 := IntWalk.i64_in _ AA
 have hp1 : (0 : Int) <= (n : Int) - 1 := by omega
 have hp2 : (0 : Int) <= (n : Int) - 2 := by omega
 have ht1 : ((n : Int) - 1).toNat = n - 1 := by omega
 have ht2 : ((n : Int) - 2).toNat = n - 2 := by omega
 have hor1w : IntKind.u64.wrap (((gd l (j + n) : Nat) : Int) * 4294967296) = ((gd l (j + n) : Nat) : Int) * 4294967296 := IntWalk.u64_in _ AA
 obtain ⟨bJ, htop⟩ : ∃ bJ : Nat, bJ = gd l (j + n) * 4294967296 + gd l (j + (n - 1)) := ⟨_, rfl⟩
 have hor1 : IntKind.u64.wrap (((gd l (j + n) : Nat) : Int) * 4294967296 + ((gd l (j + (n - 1)) : Nat) : Int)) = (bJ : Int) := by rw [IntWalk.u64_in _ AA]; omega
 have hor2 : ((gd l (j + n) : Nat) : Int) * 4294967296 + ((gd l (j + (n - 1)) : Nat) : Int) = (bJ : Int) := by omega
 have HTOP := Lib.hid htop
 have btop : bJ < 18446744073709551616 := by omega
 clear htop
 go_enter func207, ntmps207
 go_wp2
 go_quiet (fail)
 clear hor1 hor2 hor1w
 obtain ⟨v1, hv1⟩ : ∃ v1, v1 = gd lv (n - 1) := ⟨_, rfl⟩
 obtain ⟨v2, hv2⟩ : ∃ v2, v2 = gd lv (n - 2) := ⟨_, rfl⟩
 rw [<- hv1] at T hnorm un_le dn1 ev1
 rw [<- hv2] at T dn2 ev2
 clear hv1 hv2
 obtain ⟨q0, hq0⟩ : ∃ q0, q0 = bJ / v1 := ⟨_, rfl⟩
 obtain ⟨r0, hr0⟩ : ∃ r0, r0 = bJ % v1 := ⟨_, rfl⟩
 have hquo : IntKind.u64.wrap ((bJ : Int).tdiv (v1 : Int)) = (q0 : Int) := by
  rw [hq0, IntWalk.u64_quo _ _ ⟨by omega, by omega, by omega⟩]; simp
 have hrem : (bJ : Int).tmod (v1 : Int) = (r0 : Int) := by
  rw [hr0, IntWalk.rem_in _ _ AA]; simp
 have hquo' : IntKind.u64.wrap ((bJ : Int) / (v1 : Int)) = (q0 : Int) := by
  rw [<- hquo, IntWalk.u64_quo _ _ ⟨by omega, by omega, by omega⟩, IntWalk.u64_in _ ⟨Int.ediv_nonneg AA AA, by have := (IntWalk.tdiv_le (bJ : Int) (v1 : Int) AA AA).2; omega⟩]
 have hrem' : (bJ : Int) % (v1 : Int) = (r0 : Int) := by rw [<- hrem, IntWalk.rem_in _ _ AA]
 have hquo2 : (bJ : Int) / (v1 : Int) = (q0 : Int) := by rw [hq0]; simp
 have hv10 : ¬ (v1 : Int) = 0 := by omega
 have G0 : cV U V v1 bJ q0 r0 := by rw [hq0, hr0, HTOP.out]; exact T.out.start
 have hr0b : r0 < 4294967296 := by rw [hr0]; have := Nat.mod_lt bJ (show 0 < v1 by omega); omega
 have hq0b : q0 <= bJ := by rw [hq0]; exact Nat.div_le_self _ _
 have hq0w : IntKind.u64.wrap (q0 : Int) = (q0 : Int) := IntWalk.u64_in _ AA
 clear hq0 hr0
 go_wp2_with fail
 clear hquo hrem hquo' hrem' hquo2
 rename_i nq0
 go_loopw [7, 8] (fun s t wr => ∃ q r : Nat, s = .int .u64 q /\ t = .int .u64 r /\ r < 4294967296 /\ cV U V v1 bJ q r /\ ∃ d, wr = w.drewN d) (fun s _ _ => (intOf s).toNat)
 case atStart => exact ⟨q0, r0, by first | rfl | exact Ej hq0w, by go_num, hr0b, G0, _, by first | rfl | (simp only [World.drewN_drewN]; rfl)⟩
 case round =>
  clear G0 hr0b
  obtain ⟨q, r, rfl, rfl, hr, G, d, rfl⟩ := hrel
  have G' := G
  rw [HTOP.out] at G'
  have hqb := T.out.bound G'
  obtain ⟨m1, m2⟩ := rH (v2 := v2) hqb.2 hr
  have hor : IntKind.u64.wrap ((r : Int) * 4294967296 + ((gd l (j + (n - 2)) : Nat) : Int)) = ((r * 4294967296 + gd l (j + (n - 2)) : Nat) : Int) := by rw [IntWalk.u64_in _ AA]; omega
  obtain ⟨X, hX⟩ : ∃ X, X = q * v2 := ⟨_, rfl⟩
  rw [<- hX] at m1
  have HX := Lib.hid hX
  have hXb : X < 18446744073709551616 := by rw [hX]; exact hqb.2
  have hqb1 : q <= 4294967297 := hqb.1
  clear hX hqb
  by_cases hg : 4294967296 <= q
  . have hd1 : decide ((4294967296 : Int) <= (q : Int)) = true := by simp; omega
    go_wp2
    go_quiet (fail)
    clear hl2 ht2 m1 m2 hor hd1
    have hlow := (T.out.lower G' (.inl hg)).2
    rw [<- HTOP.out] at hlow
    have hq1 : 1 <= q := by omega
    exact Zut
  have hd1 : decide ((4294967296 : Int) <= (q : Int)) = false := by simp; omega
  by_cases ht : r * 4294967296 + gd l (j + (n - 2)) < X
  . have hd2 : decide ((((r * 4294967296 + gd l (j + (n - 2)) : Nat)) : Int) < (X : Int)) = true := by simp; omega
    go_wp2
    go_quiet (fail)
    clear hl2 ht2 m1 m2 hor hd1 hd2
    have hlow := (T.out.lower G' (.inr (by rw [<- HX.out]; exact ht))).2
    have hq1 : 1 <= q := (T.out.lower G' (.inr (by rw [<- HX.out]; exact ht))).1
    rw [<- HTOP.out] at hlow
    exact Zut
  have hd2 : decide ((((r * 4294967296 + gd l (j + (n - 2)) : Nat)) : Int) < (X : Int)) = false := by simp; omega
  have hgood := T.out.good G' AA (by rw [<- HX.out]; omega)
  go_wp2
  go_quiet (fail)
  rename_i nq
  go_wp2_with fail
  go_ret
  exact ⟨q, rfl, by omega, G.2, hgood, d + nq, by simp only [World.drewN_drewN]⟩
def LessRow (l v : List Nat) (j n : Nat) (l' : List Nat) : Prop :=
 l'.length = l.length /\ Wd l' /\ val (LB l' j (n + 1)) + val v = 4294967296 ^ (n + 1) + val (LB l j (n + 1)) % val v /\ ∀ i, (i < j ∨ j + n + 1 <= i) -> gd l' i = gd l i
theorem Ed (h : MsInv l v q j (n + 1) 0 0 r) (hn : v.length = n) (hd : val (LB l j (n + 1)) / val v <= q) (hg : q * val v < val (LB l j (n + 1)) + val v) (hv : 0 < val v) :
 q = val (LB l j (n + 1)) / val v /\ WG l v j n r := by
 obtain ⟨p, o, y, u, k, f⟩ := h
 rw [DX v (n + 1) AA, Nat.add_zero, Nat.mul_zero, Nat.add_zero] at k
 have e : q = val (LB l j (n + 1)) / val v := by
  rcases gX hv hd hg with ⟨_, h⟩ | ⟨h, _⟩
  . exact h
  exfalso; omega
 refine ⟨e, p, o, ?_, fun i t => f i AA⟩
 have := Nat.div_add_mod (val (LB l j (n + 1))) (val v)
 rw [<- e, Nat.mul_comm] at this
 omega
theorem Ec (h : MsInv l v q j (n + 1) 0 1 r) (hn : v.length = n) (hd : val (LB l j (n + 1)) / val v <= q) (hg : q * val v < val (LB l j (n + 1)) + val v) (hv : 0 < val v) :
 q = val (LB l j (n + 1)) / val v + 1 /\ LessRow l v j n r := by
 obtain ⟨p, k, B, y, f, o⟩ := h
 rw [DX v (n + 1) AA, Nat.zero_add, Nat.mul_one] at f
 have t := UD k j (n + 1)
 have e : q = val (LB l j (n + 1)) / val v + 1 := by
  rcases gX hv hd hg with ⟨h, _⟩ | ⟨_, h⟩
  . exfalso; omega
  exact h
 refine ⟨e, p, k, ?_, fun i u => o i AA⟩
 have := Nat.div_add_mod (val (LB l j (n + 1))) (val v)
 rw [e, Nat.add_mul, Nat.one_mul, Nat.mul_comm (val (LB l j (n + 1)) / val v)] at f
 omega
theorem LessRow.back {l' : List Nat} (h : LessRow l v j n l') (hn : v.length = n) (hw : Wd v) (_ : 0 < val v) (hpb : PbInv l' v j (n + 1) c r) : WG l v j n r := by
 obtain ⟨u, F, t, q⟩ := h
 obtain ⟨C, k, B, f, y⟩ := hpb
 rw [DX v (n + 1) AA, t] at f
 have D := UD k j (n + 1)
 have p := GV hw
 rw [hn] at p
 refine ⟨by rw [C, u], k, ?_, fun i o => by rw [y i AA, q i o]⟩
 rcases Nat.le_one_iff_eq_zero_or_eq_one.1 B with e | e
 . rw [e] at f; omega
 rw [e] at f; omega
theorem Kb (a p c : Nat) (ha : a < 4294967296) (_hp : p < 18446744073709551616) (hc : c <= 1) :
 ∃ t x c' : Nat, t < 18446744073709551616 /\ x < 4294967296 /\ c' <= 1 /\ x + p % 4294967296 + c = a + 4294967296 * c' /\
  (4294967296 : Int) + (a : Int) - (p : Int) % 4294967296 - (c : Int) = (t : Int) /\ (t : Int) % 4294967296 = (x : Int) /\ 1 - (t : Int) / 4294967296 = (c' : Int) := by
 by_cases h : p % 4294967296 + c <= a
 . exact ⟨4294967296 + a - p % 4294967296 - c, a - p % 4294967296 - c, 0, by omega, by omega, by omega, by omega, by omega, by omega, by omega⟩
 exact ⟨4294967296 + a - p % 4294967296 - c, 4294967296 + a - p % 4294967296 - c, 1, by omega, by omega, by omega, by omega, by omega, by omega, by omega⟩
def RetLs (w0 : World) (base g N q : Nat) (l lv : List Nat) (j n : Nat) (e : Ending) (w' : World) : Prop :=
 ∃ (b : Bool) (l' : List Nat), e = .returned (.bool b) /\ Own w' base g N l' /\ w0.grownBy w' (some g) /\
  ((b = false /\ q = val (LB l j (n + 1)) / val lv /\ WG l lv j n l') ∨ (b = true /\ q = val (LB l j (n + 1)) / val lv + 1 /\ LessRow l lv j n l'))
theorem UL {a b : Bool} (h : a = b) : Ending.returned (.bool a) = .returned (.bool b) := by rw [h]
theorem Ca (w0 : World) (base g N j n cu q : Nat) (l lv : List Nat) (vv : Value) (w : World) (ho : Own w base g N l) (hwl : Wd l) (hj : j + n < N) (hcu : n + 1 <= cu) (hcu2 : cu <= 2000000000)
 (hv : Sl w0 vv lv) (hb0 : Below w0.heap.size w0 w) (hg0 : w0.heap.size <= g) (hlv : lv.length = n) (hvp : 0 < val lv)
 (hq : q < 4294967296) (hd : val (LB l j (n + 1)) / val lv <= q) (hg : q * val lv < val (LB l j (n + 1)) + val lv) :
 Calls prog 208 #[.slice (some ⟨g, j, none⟩) (n + 1) cu, vv, .int .u64 q] w (RetLs w base g N q l lv j n) := by
 have HV := Lib.hid hv
 have WL := Lib.hid hwl
 have HD := Lib.hid hd
 have HG := Lib.hid hg
 have HVP := Lib.hid hvp
 have HLV := Lib.hid hlv
 clear hv hwl hd hg hvp hlv
 go_enter func208, ntmps208
 go_wp2
 go_loopw [7, 8, 9] (fun sc sb i wr => ∃ (k c b : Nat) (r : List Nat), k <= n + 1 /\ c < 4294967296 /\ b <= 1 /\ Hid (k = n + 1 -> c = 0) /\ i = .int .i64 k /\ sc = .int .u64 c /\ sb = .int .u64 b /\ MsInv l lv q j k c b r /\ Own wr base g N r /\ w.grownBy wr (some g))
  (fun _ _ i _ => n + 1 - (intOf i).toNat)
 case atStart => exact ⟨0, 0, 0, l, by omega, by omega, by omega, fun h => rfl, rfl, rfl, rfl, MsInv.start _ _ _ WL.out, ho, World.grownBy.refl _ _⟩
 case round =>
  clear ho
  obtain ⟨k, c, b, r, hk, hc, hb, hfin, rfl, rfl, rfl, hinv, hown, hgb⟩ := hrel
  by_cases hlt : k < n + 1
  . have hcu' := hown.cell (j + k) AA
    rw [hinv.2.2.2.2.2 (j + k) (.inr (Nat.le_refl _))] at hcu'
    have hfr := hown.free (j + k)
    have bu := FL WL.out (j + k)
    have bv := FL HV.out.wd k
    obtain ⟨s1, s2, t, ht, s3, ht2⟩ := Fh hq bv hc
    obtain ⟨t', x, b', u1, u2, u3, u4, u5, u6, u7⟩ := Kb (gd l (j + k)) t b bu ht2 hb
    have HT := Lib.hid ht
    have U4 := Lib.hid u4
    have hlt' : (k : Int) < (n : Int) + 1 := by omega
    have hln : ((n + 1 : Nat) : Int) = (n : Int) + 1 := by omega
    clear ht u4
    go_wp2_with fail
    refine (UH vv lv k _ (HV.out.below (hb0.trans (aQ hgb hg0 hb0.size))) AA).mono ?_
    rintro e w' ⟨rfl, rfl⟩
    go_wp2_with fail
    go_roundw
    case rel =>
     have hst := hinv.step (by have := hown.len; have := hinv.1; omega) t x b' HT.out ht2 u2 u3 U4.out
     refine ⟨k + 1, t / 4294967296, b', _, by omega, hst.2.2.1, u3, ?_, by go_num, by go_num, by go_num, hst, hown.set (j + k) _ x AA, hown.gset hgb _ _⟩
     intro e
     have e2 : gd lv k = 0 := Qj lv k (by have := HLV.out; omega)
     have := HT.out
     rw [e2, Nat.mul_zero, Nat.zero_add] at this
     omega
    case measure => simp [intOf]; omega
  obtain rfl : k = n + 1 := by omega
  obtain rfl := hfin.out rfl
  have hln : ((n + 1 : Nat) : Int) = (n : Int) + 1 := by omega
  rcases Nat.le_one_iff_eq_zero_or_eq_one.1 hb with rfl | rfl
  . have hF := Lib.hid (Ed (l := l) (v := lv) (r := r) (q := q) (j := j) (n := n) hinv HLV.out HD.out HG.out HVP.out)
    go_wp2_with fail
    go_ret
    exact ⟨false, r, rfl, hown, hgb, .inl ⟨rfl, hF.out⟩⟩
  have hF := Lib.hid (Ec (l := l) (v := lv) (r := r) (q := q) (j := j) (n := n) hinv HLV.out HD.out HG.out HVP.out)
  go_wp2_with fail
  go_ret
  exact ⟨true, r, rfl, hown, hgb, .inr ⟨rfl, hF.out⟩⟩
def RetRs (w0 : World) (base g N : Nat) (l lv : List Nat) (j n : Nat) (e : Ending) (w' : World) : Prop :=
 e = .returned (.tuple #[]) /\ ∃ l' : List Nat, Own w' base g N l' /\ w0.grownBy w' (some g) /\ WG l lv j n l'
theorem xM (w0 : World) (base g N j n cu : Nat) (l0 l lv : List Nat) (vv : Value) (w : World) (ho : Own w base g N l) (hl : LessRow l0 lv j n l) (hj : j + n < N) (hcu : n + 1 <= cu) (hcu2 : cu <= 2000000000)
 (hv : Sl w0 vv lv) (hb0 : Below w0.heap.size w0 w) (hg0 : w0.heap.size <= g) (hlv : lv.length = n) (hvp : 0 < val lv) :
 Calls prog 209 #[.slice (some ⟨g, j, none⟩) (n + 1) cu, vv] w (RetRs w base g N l0 lv j n) := by
 have HV := Lib.hid hv
 have HL := Lib.hid hl
 have HVP := Lib.hid hvp
 have HLV := Lib.hid hlv
 clear hv hl hvp hlv
 go_enter func209, ntmps209
 go_wp2
 go_loopw [4, 5] (fun sc i wr => ∃ (k c : Nat) (r : List Nat), k <= n + 1 /\ c <= 1 /\ i = .int .i64 k /\ sc = .int .u64 c /\ PbInv l lv j k c r /\ Own wr base g N r /\ w.grownBy wr (some g))
  (fun _ i _ => n + 1 - (intOf i).toNat)
 case atStart => exact ⟨0, 0, l, by omega, by omega, rfl, rfl, PbInv.start _ _ HL.out.2.1, ho, World.grownBy.refl _ _⟩
 case round =>
  have hlen := ho.len
  clear ho
  obtain ⟨k, c, r, hk, hc, rfl, rfl, hinv, hown, hgb⟩ := hrel
  have hln : ((n + 1 : Nat) : Int) = (n : Int) + 1 := by omega
  by_cases hlt : k < n + 1
  . have hcu' := hown.cell (j + k) AA
    rw [hinv.2.2.2.2 (j + k) (.inr (Nat.le_refl _))] at hcu'
    have hfr := hown.free (j + k)
    have bu := FL HL.out.2.1 (j + k)
    have bv := FL HV.out.wd k
    have HBw := Lib.hid (HV.out.below (hb0.trans (aQ hgb hg0 hb0.size)))
    have hlt' : (k : Int) < (n : Int) + 1 := by omega
    have s1 : IntKind.u64.wrap (((gd l (j + k) : Nat) : Int) + ((gd lv k : Nat) : Int)) = ((gd l (j + k) : Nat) : Int) + ((gd lv k : Nat) : Int) := IntWalk.u64_in _ AA
    have s2 : IntKind.u64.wrap (((gd l (j + k) : Nat) : Int) + ((gd lv k : Nat) : Int) + (c : Int)) = ((gd l (j + k) : Nat) : Int) + ((gd lv k : Nat) : Int) + (c : Int) := IntWalk.u64_in _ AA
    go_wp2_with fail
    go_region_with (first
     | (go_at_call 158; refine (UH vv lv k _ (by first | exact HBw.out | exact HBw.out.drewN _) AA).mono ?_; rintro e w' ⟨rfl, rfl⟩))
    all_goals
     go_wp2_with fail
     go_roundw
     case rel =>
      have hst := hinv.step (by have := hown.len; have := hinv.1; omega) bu bv _ rfl
      exact ⟨k + 1, _, _, by omega, hst.2.2.1, by go_num, by go_num, hst, Own.set (by first | exact hown | exact hown.drewN _) (j + k) _ _ AA, by first | exact Own.gset hown hgb _ _ | exact Own.gset (hown.drewN _) (oM hgb _) _ _⟩
     case measure => simp [intOf]; omega
  obtain rfl : k = n + 1 := by omega
  have hF := Lib.hid (HL.out.back HLV.out HV.out.wd HVP.out hinv)
  go_wp2_with fail
  exact bodyPost_end (v := .tuple #[]) (by simp [results, results209]) O ⟨O, r, hown, hgb, hF.out⟩
theorem Bv (w : World) (ty : TypeId) (base g N : Nat) (l m : List Nat) (vs : Value) (hown : Own w base g N l) (hsl : Sl w vs m) (hlen : m.length <= N) :
 ∃ w', (Builtin.copy_ #[60, 60] ty #[.slice (some ⟨g, 0, none⟩) N N, vs]).run prog w = .ok (.int .i64 m.length) w' /\ Own w' base g N (m ++ l.drop m.length) /\ Below g w w' := by
 have o : (prog.info? 186).map (·.size) = some 1 := by
  obtain ⟨i0, U, S, B, R⟩ := info_parts uU
  rw [U]; simpa using B
 have hl := hown.len
 have k := hown
 obtain ⟨h1, I⟩ := hown
 rcases I with ⟨I, _⟩ | ⟨g', Y, h, u, H, Q, t, G, F, C⟩
 . simp at I
 simp only [Value.slice.injEq, Option.some.injEq, Addr.mk.injEq, and_true, true_and] at u
 obtain ⟨rfl, rfl⟩ := u
 obtain ⟨ao, c, rfl, s1, s2, s3, sn, J⟩ := hsl
 have q : h.toList = l.map fun x => Value.int .u32 ((x : Nat) : Int) := by
  rw [<- C, List.take_of_length_le (by rw [Array.length_toList, F]; omega)]
 by_cases T : m.length = 0
 . have D : m = [] := List.eq_nil_of_length_eq_zero T
   subst D
   refine ⟨w, ?_, by simpa using k, Below.refl _ _⟩
   have := run_copy_none (P := prog) w 60 60 ty 186 (some ⟨g, 0, none⟩) ao N N 0 c underlying60 o (Nat.zero_min _)
   exact this
 obtain ⟨b, y, e, _⟩ := J 0 AA
 subst e
 have := run_copy_row (P := prog) w 60 60 ty 186 g 0 N N ⟨b, y, none⟩ m.length c h 186 (m.map fun x => Value.int .u32 ((x : Nat) : Int)) underlying60 o Q
  (by rw [List.length_map]; exact (Nat.min_eq_left hlen).symm) (fun j v p => by
    rw [List.getElem?_map] at p
    rcases Nat.lt_or_ge j m.length with f | f
    . obtain ⟨b2, L, e2, X⟩ := J j f
      simp only [Option.some.injEq, Addr.mk.injEq, and_true] at e2
      obtain ⟨rfl, rfl⟩ := e2
      rw [List.getElem?_eq_getElem f, Option.map_some] at p
      rw [Addr.add_lit, X, UU m j f]
      exact p
    rw [List.getElem?_eq_none f] at p; simp at p)
  (by rw [List.length_map]; omega)
  (fun v u => by obtain ⟨x, _, rfl⟩ := List.mem_map.1 u; rfl)
 rw [List.length_map] at this
 refine ⟨_, this, ?_, (NJ _ _ _).below (Below.refl _ _) (Nat.le_refl _)⟩
 have e : (h.toList.take 0 ++ (m.map fun x => Value.int .u32 ((x : Nat) : Int)) ++ h.toList.drop (0 + m.length)) = (m ++ l.drop m.length).map fun x => Value.int .u32 ((x : Nat) : Int) := by
  simp only [List.take_zero, List.nil_append, Nat.zero_add, q, List.map_append, List.map_drop]
 rw [e]
 refine ⟨by rw [List.length_map, List.length_append, List.length_drop]; omega, .inr ⟨g, N, _, O, H, setRow_heap w g h _ _ _ Q, t, G, ?_, ?_⟩⟩
 . simp; omega
 rw [List.take_of_length_le (by rw [List.length_map, List.length_append, List.length_drop]; omega)]
theorem Nh (b : Nat) (h0 : 0 < b) (h1 : b < 4294967296) : ∃ d : Nat, d = 4294967296 / (b + 1) /\ 0 < d /\ d < 4294967296 /\ 2147483648 <= b * d /\ b * d + d <= 4294967296 := by
 refine ⟨_, O, ?_, ?_, ?_, ?_⟩
 . exact Nat.div_pos AA AA
 . exact Nat.div_lt_self AA AA
 . obtain ⟨q, l⟩ : ∃ q, q = 4294967296 / (b + 1) := ⟨_, rfl⟩
   have e := Nat.div_add_mod 4294967296 (b + 1)
   have p := Nat.mod_lt 4294967296 (show 0 < b + 1 by omega)
   rw [<- l] at e ⊢
   obtain ⟨r, f⟩ : ∃ r, r = 4294967296 % (b + 1) := ⟨_, rfl⟩
   rw [<- f] at e p
   rw [Nat.add_mul, Nat.one_mul] at e
   by_cases k : b = 1
   . subst k; omega
   by_cases h : q = 1
   . rw [h] at e ⊢; omega
   have t : 0 < q := by rw [l]; exact Nat.div_pos AA AA
   obtain ⟨c, rfl⟩ : ∃ c, b = c + 1 := ⟨b - 1, by omega⟩
   have : 2 * c <= q * c := Nat.mul_le_mul_right _ AA
   rw [Nat.add_mul, Nat.one_mul] at e ⊢
   rw [Nat.mul_comm q c] at this
   omega
 have := Nat.div_mul_le_self 4294967296 (b + 1)
 rw [Nat.mul_comm, Nat.add_mul, Nat.one_mul] at this
 rw [Nat.mul_comm] at this
 have u : b * (4294967296 / (b + 1)) + 4294967296 / (b + 1) <= 4294967296 := by
  have o := Nat.div_mul_le_self 4294967296 (b + 1)
  rw [Nat.mul_comm, Nat.add_mul, Nat.one_mul] at o
  exact o
 exact u
theorem vZ {A Bn d m : Nat} {lu : List Nat} (hn : (CD Bn).length = n) (hn0 : 0 < n) (hm : (CD A).length + 1 = m + n) (hu : Wd lu) (hul : lu.length = m + n) (huv : val lu = A * d)
 (p2 : 0 < d) (hlo : 2147483648 <= gd (CD Bn) (n - 1) * d) (hhi : gd (CD Bn) (n - 1) * d + d <= 4294967296) :
 (CD (Bn * d)).length = n /\ 2147483648 <= gd (CD (Bn * d)) (n - 1) /\ LdInv (CD (Bn * d)) (A * d) m lu (List.replicate m 0) := by
 obtain ⟨k, rfl⟩ : ∃ k, n = k + 1 := ⟨n - 1, by omega⟩
 rw [Nat.add_sub_cancel] at hlo hhi ⊢
 have G := CO Bn
 have h : val (CD Bn) = val ((CD Bn).take k) + 4294967296 ^ k * gd (CD Bn) k := by
  rw [<- DQ, DX _ _ AA]
 rw [G] at h
 have f := GV (QG (GF Bn) k)
 rw [List.length_take, Nat.min_eq_left AA] at f
 have q : 1 <= gd (CD Bn) k := by
  rcases Nat.eq_zero_or_pos (gd (CD Bn) k) with e | e
  . rw [e] at hlo; omega
  exact e
 have l : d <= 2147483648 := by
  have : 1 * d <= gd (CD Bn) k * d := Nat.mul_le_mul_right _ q
  omega
 have u : Bn * d < 4294967296 ^ (k + 1) := by
  rw [h, Nat.pow_succ]
  have e1 : (val ((CD Bn).take k) + 4294967296 ^ k * gd (CD Bn) k) * d < 4294967296 ^ k * (gd (CD Bn) k * d + d) := by
   rw [Nat.add_mul, Nat.mul_add, Nat.mul_assoc]
   have := Nat.mul_lt_mul_of_pos_right f p2
   omega
  have e2 : 4294967296 ^ k * (gd (CD Bn) k * d + d) <= 4294967296 ^ k * 4294967296 := Nat.mul_le_mul_left _ hhi
  omega
 have B : 4294967296 ^ k * 2147483648 <= Bn * d := by
  rw [h, Nat.add_mul, Nat.mul_assoc]
  have := Nat.mul_le_mul_left (4294967296 ^ k) hlo
  omega
 have t := CO (Bn * d)
 have D := GJ u
 have y := GF (Bn * d)
 have F : k + 1 <= (CD (Bn * d)).length := by
  rcases Nat.lt_or_ge (CD (Bn * d)).length (k + 1) with e | e
  . exfalso
    have v := GV y
    rw [t] at v
    have p : 4294967296 ^ (CD (Bn * d)).length <= 4294967296 ^ k := Nat.pow_le_pow_right AA AA
    omega
  exact e
 have o : (CD (Bn * d)).length = k + 1 := by omega
 refine ⟨o, ?_, hu, OD _, ?_, ?_, fun i _ => PV _ _, by rw [List.length_replicate, o, hul], by simp⟩
 . have e := DQ (CD (Bn * d)) k
   rw [DX _ _ AA, t] at e
   have v := GV (QG y k)
   rw [List.length_take, Nat.min_eq_left AA] at v
   rcases Nat.lt_or_ge (gd (CD (Bn * d)) k) 2147483648 with p | p
   . exfalso
     have : 4294967296 ^ k * (gd (CD (Bn * d)) k + 1) <= 4294967296 ^ k * 2147483648 := Nat.mul_le_mul_left _ p
     rw [Nat.mul_add, Nat.mul_one] at this
     omega
   exact p
 . rw [MH, Nat.mul_zero, Nat.add_zero, huv]
 rw [t]
 have e := ND lu m
 rw [Nat.min_eq_left AA, huv] at e
 have C := GV (GF A)
 rw [CO, show (CD A).length = m + k by omega, Nat.pow_add] at C
 have J : A * d < 4294967296 ^ m * 4294967296 ^ k * d := Nat.mul_lt_mul_of_pos_right C p2
 have I : 4294967296 ^ m * 4294967296 ^ k * d <= 4294967296 ^ m * (Bn * d) := by
  rw [Nat.mul_assoc]
  refine Nat.mul_le_mul_left _ ?_
  have := Nat.mul_le_mul_left (4294967296 ^ k) l
  omega
 have H : 4294967296 ^ m * val (lu.drop m) < 4294967296 ^ m * (Bn * d) := by omega
 exact Nat.lt_of_mul_lt_mul_left H
theorem Aw {q : List Nat} {U : Nat} (h : LdInv v U 0 l q) : val q = U / val v /\ val l = U % val v := by
 obtain ⟨u, t, f, e, p, o, k⟩ := h
 rw [List.drop_zero] at e
 constructor
 . rw [<- f, Nat.add_comm, Nat.mul_add_div AA, Nat.div_eq_of_lt e, Nat.add_zero]
 rw [<- f, Nat.add_comm, Nat.mul_add_mod, Nat.mod_eq_of_lt e]
theorem Jb (A Bn d : Nat) (h : 0 < d) : A * d / (Bn * d) = A / Bn := Nat.mul_div_mul_right A Bn h
theorem Ja (A Bn d : Nat) (h : 0 < d) : A * d % (Bn * d) / d = A % Bn := by
 rw [Nat.mul_mod_mul_right, Nat.mul_div_cancel _ h]
theorem Uq {m : List Nat} {k : Nat} (h : Wd m) (n : Nat) : Wd (m ++ (List.replicate n 0).drop k) /\ val (m ++ (List.replicate n 0).drop k) = val m := by
 rw [List.drop_replicate]
 exact ⟨Wd_append.2 ⟨h, OD _⟩, by rw [cY, MH]; omega⟩
theorem VS (va vb : Value) (A Bn : Nat) (w : World) (ha : Sl w va (CD A)) (hb : Sl w vb (CD Bn)) (hda : (CD A).length <= 900000000) (hdb : (CD Bn).length <= 900000000) (hpos : 0 < Bn) :
 Calls prog 187 #[va, vb] w (Sf w (A / Bn) (A % Bn)) := by
 have S1 := Lib.hid ha
 have S2 := Lib.hid hb
 clear ha hb
 go_enter func187, ntmps187
 go_wp2_with fail
 refine (cP _ _ A Bn _ S1.out S2.out).mono ?_
 rintro e w' ⟨rfl, d1, rfl⟩
 by_cases hlt : A < Bn
 . rw [OW (by omega : (A : Int) < (Bn : Int))]
   go_wp2_with fail
   go_ret2
   refine ⟨_, _, O, ?_, ?_, JJ (Below.refl _ _) _⟩
   . rw [Nat.div_eq_of_lt hlt, EG]; exact eK _
   rw [Nat.mod_eq_of_lt hlt]; exact S1.out.drewN _
 have hc : ¬ JR (A : Int) (Bn : Int) < 0 := by
  rcases Nat.lt_or_ge Bn A with h | h
  . rw [QD AA]; omega
  rw [WF AA]; omega
 obtain ⟨aob, capb, rfl, b1, b2, b3, bn, b4⟩ := S2.out
 obtain ⟨aoa, capa, rfl, a1, a2, a3, an, a4⟩ := S1.out
 have HA4 := Lib.hid a4
 have HB4 := Lib.hid b4
 unfold maxLen at a2 b2
 have hlen := FZ (show Bn <= A by omega)
 have hn0 : 0 < (CD Bn).length := by
  rcases Nat.eq_zero_or_pos (CD Bn).length with e | e
  . exact absurd ((FY _).1 (List.eq_nil_of_length_eq_zero e)) AA
  exact e
 clear a4 b4 an bn a3 b3
 by_cases hone : (CD Bn).length = 1
 . have hob : (((CD Bn).length : Int) == 1) = true := by rw [beq_iff_eq]; omega
   obtain ⟨b, off, rfl, hcell⟩ := HB4.out 0 AA
   have hg : gd (CD Bn) 0 = Bn := by
    have := DX (CD Bn) 1 AA
    rw [DQ, CO] at this
    simpa [val] using this
   rw [hg, Nat.add_zero] at hcell
   have hBlt : Bn < 4294967296 := by rw [<- hg]; exact FL (GF _) 0
   have HONE := Lib.hid hone
   clear hone hg
   go_wp2_with fail
   refine (aC _ (CD A) Bn _ (S1.out.drewN _) AA AA hBlt).mono ?_
   rintro e w' ⟨v3, rfl, h3, hb3⟩
   rw [CO] at h3 ⊢
   go_wp2_with fail
   have hm := Nat.mod_lt A (show 0 < Bn by omega)
   refine (LF (A % Bn) _ AA).mono ?_
   rintro e w'' ⟨v4, rfl, h4, hb4⟩
   go_wp2_with fail
   go_ret2
   exact ⟨v3, v4, rfl, h3.below hb4, h4, (KU hb3).trans (hb4.mono hb3.size)⟩
 have hob : (((CD Bn).length : Int) == 1) = false := by rw [beq_eq_false_iff_ne]; omega
 obtain ⟨k, hk⟩ : ∃ k, (CD Bn).length = k + 1 := ⟨(CD Bn).length - 1, by omega⟩
 obtain ⟨b, off, rfl, hcell⟩ := HB4.out k AA
 have hk1 : ((CD Bn).length : Int) - 1 = (k : Int) := by omega
 have hk2 : ((CD Bn).length : Int) = (k : Int) + 1 := by omega
 have HK := Lib.hid hk
 have HK2 := Lib.hid hk2
 have hgl := FL (GF Bn) k
 have hgp : 0 < gd (CD Bn) k := by
  obtain ⟨l', x, e1, e2, _⟩ := XY Bn hpos
  have e3 : l'.length = k := by have := congrArg List.length e1; rw [hk] at this; simp at this; omega
  rw [e1, MD _ _ _ AA, e3, Nat.sub_self]
  exact e2
 obtain ⟨d, hd, hd0, hd32, hlo, hhi⟩ := Nh _ hgp hgl
 have hquo : (4294967296 : Int) / (((gd (CD Bn) k : Nat) : Int) + 1) = (d : Int) := by rw [hd]; simp
 have hquo1 : IntKind.u64.wrap (((gd (CD Bn) k : Nat) : Int) + 1) = ((gd (CD Bn) k : Nat) : Int) + 1 := IntWalk.u64_in _ AA
 have hquo2 : ¬ ((gd (CD Bn) k : Nat) : Int) + 1 = 0 := by omega
 have HLO := Lib.hid hlo
 have HHI := Lib.hid hhi
 have hkp : 1 <= k := by omega
 have hka : k + 1 <= (CD A).length := by omega
 clear hk hk2 hlo hhi hone hd
 go_wp2_with fail
 refine (LF d _ AA).mono ?_
 rintro e w1 ⟨vd, rfl, hvd, hb1⟩
 have S1b := S1.out.below (KU hb1)
 have S2b := S2.out.below (KU hb1)
 have B1 : Below w.heap.size w w1 := KU hb1
 have HDL : (CD d).length <= 1 := GJ AA
 go_wp2_with fail
 refine (iV _ vd (CD Bn) (CD d) _ S2b hvd AA AA).mono ?_
 rw [CO, CO]
 rintro e w2 ⟨vv, rfl, hvv, hb2⟩
 have S1c := S1b.below hb2
 have B2 : Below w.heap.size w w2 := B1.trans (hb2.mono B1.size)
 have HVV := Lib.hid hvv
 obtain ⟨aov, capv, rfl, v1, v2, v3, vn, v4⟩ := hvv
 have hV4 := Lib.hid v4
 clear v3 vn v4 hvd S1b S2b hb1 hb2
 go_wp2_with (at_make; refine FU _ rfl _ _ rfl _ _ ((CD A).length + 1) rfl rfl ?c1 ?c2 ?c3 ?_)
 case c1 => omega
 case c2 => omega
 case c3 => omega
 intro w3 ou b3 hsz3
 have S1d := S1c.below b3
 have B3 : Below w.heap.size w w3 := B2.trans (b3.mono B2.size)
 go_wp2_with fail
 refine (LF d _ AA).mono ?_
 rintro e w4 ⟨vd, rfl, hvd, hb4⟩
 have S1e := S1d.below hb4
 have ou4 := ou.below hb4
 have b4 := b3.trans (hb4.mono b3.size)
 go_wp2_with fail
 refine (iV _ vd (CD A) (CD d) _ S1e hvd AA AA).mono ?_
 rw [CO, CO]
 rintro e w5 ⟨vu, rfl, hvu, hb5⟩
 have ou5 := ou4.below hb5
 have b5 := b4.trans (hb5.mono b4.size)
 have hAd : (CD (A * d)).length <= (CD A).length + 1 := by
  refine GJ ?_
  have h1 := GV (GF A)
  rw [CO] at h1
  rw [Nat.pow_succ]
  exact Nat.mul_lt_mul'' h1 hd32
 obtain ⟨YR, hpad⟩ : ∃ YR, YR = CD (A * d) ++ (List.replicate ((CD A).length + 1) 0).drop (CD (A * d)).length := ⟨_, rfl⟩
 have HPAD := Lib.hid hpad
 have hpv := Uq (k := (CD (A * d)).length) (GF (A * d)) ((CD A).length + 1)
 rw [<- hpad, CO] at hpv
 have HPV := Lib.hid hpv
 clear hpad hpv S1c S1d S1e hvd ou ou4 hb4 hb5 b3 b4
 obtain ⟨w6, hrun, ou6, b6⟩ := Bv w5 3 w2.heap.size w2.heap.size ((CD A).length + 1) _ (CD (A * d)) vu ou5 hvu hAd
 rw [<- HPAD.out] at ou6
 have B6 := Lib.hid (show Below w2.heap.size w2 w6 from b5.trans (b6.mono (Nat.le_refl _)))
 have hst := vZ (A := A) (m := (CD A).length - k) (lu := YR) rfl hn0 Y4m HPV.out.1 (by rw [ou6.len]; have := HK.out; omega) HPV.out.2 hd0 (by rw [HK.out]; exact HLO.out) (by rw [HK.out]; exact HHI.out)
 obtain ⟨hVn, hVg, hL⟩ := hst
 have HVN := Lib.hid hVn
 have HVG := Lib.hid hVg
 have HVp : Hid (0 < Bn * d) := Nat.mul_pos hpos hd0
 clear b5 b6 ou5 hvu hVg
 go_wp2_with (at_make; refine FU _ rfl _ _ rfl _ _ ((CD A).length - k) rfl rfl ?c1 ?c2 ?c3 ?_)
 case c1 => have := HK2.out; omega
 case c2 => have := HK2.out; omega
 case c3 => omega
 intro w7 oq b7 hsz7
 have ou7 := ou6.below b7
 have B7 := B6.out.trans (b7.mono B6.out.size)
 have hlt2 := ou6.lt
 clear ou6 b7 hrun
 obtain ⟨bv, ov, rfl, -⟩ := hV4.out 0 AA
 rw [hVn] at HVV v1
 obtain ⟨lv, hlv⟩ : ∃ lv, lv = CD (Bn * d) := ⟨_, rfl⟩
 have hvlv : val lv = Bn * d := by rw [hlv, CO]
 rw [<- hlv] at HVN HVG hVn hV4 hL HVV
 have HLV := Lib.hid hlv
 have HVLV := Lib.hid hvlv
 have HWV := Lib.hid (show Wd lv by rw [hlv]; exact GF _)
 clear hlv hvlv hVn hk1
 go_wp2_with fail
 go_loopw [13] (fun i wr => ∃ (m : Nat) (z : Int) (l q : List Nat), m <= (CD A).length - k /\ z + 1 <= m /\ m <= z + 1 /\ i = .int .i64 z /\ LdInv lv (A * d) m l q /\
  Own wr w2.heap.size w2.heap.size ((CD A).length + 1) l /\ Own wr w6.heap.size w6.heap.size ((CD A).length - k) q /\ Below w2.heap.size w2 wr)
  (fun i _ => (intOf i + 1).toNat)
 case atStart => exact ⟨(CD A).length - k, _, YR, _, Nat.le_refl _, by have := HK2.out; omega, by have := HK2.out; omega, rfl, hL, ou7, oq, B7⟩
 case round =>
  clear hL ou7 oq B7
  obtain ⟨m, z, l, q, hm, hz1, hz2, rfl, hinv, ou, oq, hB3⟩ := hrel
  by_cases hm0 : m = 0
  . subst hm0
    have hz : z < 0 := by omega
    have hd := Aw (v := lv) (l := l) (q := q) hinv
    have hwl := hinv.1
    have hwq := hinv.2.1
    rw [HVLV.out, Jb _ _ _ hd0] at hd
    have hll := ou.len
    have HSQ := Lib.hid (oq.sl hwq)
    have HSU := Lib.hid (ou.sl hwl)
    have HD := Lib.hid hd
    have hle : (CD (val l)).length <= 1000000000 := by rw [<- XH hwl]; have := KB l; omega
    clear hd hwl hwq hinv
    go_wp2_with fail
    refine (RY _ l _ HSU.out).mono ?_
    rintro e w' ⟨rfl, vt, rfl, ht⟩
    have ht := ht _ HSU.out
    go_wp2_with fail
    refine (aC vt (CD (val l)) d _ ht hle hd0 hd32).mono ?_
    rw [CO, HD.out.2, Ja _ _ _ hd0]
    rintro e w8 ⟨vr, rfl, hvr, hb8⟩
    have HSQ8 := HSQ.out.below hb8
    go_wp2_with fail
    refine (RY _ q _ HSQ8).mono ?_
    rintro e w' ⟨rfl, vq, rfl, hq⟩
    have hq := hq _ HSQ8
    rw [HD.out.1] at hq
    go_wp2_with fail
    go_ret2
    exact ⟨vq, vr, rfl, hq, hvr, B2.trans ((hB3.trans (hb8.mono hB3.size)).mono B2.size)⟩
  obtain ⟨j, rfl⟩ : ∃ j, m = j + 1 := ⟨m - 1, by omega⟩
  obtain rfl : z = (j : Int) := by omega
  clear hm0
  have hjn : j + (CD Bn).length <= (CD A).length := by have := HK.out; omega
  have hltU := hinv.lt (by have := HVN.out; omega)
  have hq' := Nat.div_lt_of_lt_mul (by rw [Nat.mul_comm]; exact hltU : val (LB l j (lv.length + 1)) < val lv * 4294967296)
  rw [HVN.out] at hltU hq'
  have HQ := Lib.hid hq'
  have HUT := Lib.hid hltU
  clear hltU hq'
  go_wp2_with fail
  rw [show j + (CD Bn).length + 1 - j = (CD Bn).length + 1 from by omega]
  refine (Jk w2.heap.size j (CD Bn).length _ bv ov capv l lv wr (fun i hi => ou.cell (j + i) Y4m) hinv.1 Y4m AA v1 v2
   (fun i hi => ?_) HVN.out Y4m HWV.out HVG.out HUT.out).mono ?_
  . obtain ⟨b', o', e, hc⟩ := hV4.out i (by rw [HVN.out]; exact hi)
    simp only [Option.some.injEq, Addr.mk.injEq, and_true] at e
    obtain ⟨rfl, rfl⟩ := e
    exact DB hc hB3
  rintro e w8 ⟨dg, rfl, hq32, hqd, hqg, dd, rfl⟩
  go_wp2_with fail
  refine (Ca w2 w2.heap.size w2.heap.size ((CD A).length + 1) j (CD Bn).length _ dg l lv _ _ (ou.drewN dd) hinv.1 Y4m Y4m AA
   HVV.out (JJ hB3 dd) (Nat.le_refl _) HVN.out (by rw [HVLV.out]; exact HVp.out) hq32 hqd hqg).mono ?_
  rintro e w9 ⟨bb, l', rfl, ou9, hgb, hcase⟩
  have oq9 := (oq.drewN dd).kept hgb AA
  have B9 := (JJ hB3 dd).trans (aQ hgb (Nat.le_refl _) (JJ hB3 dd).size)
  rcases hcase with ⟨rfl, hq, hsr⟩ | ⟨rfl, hq, hlr⟩
  . have hst2 : LdInv lv (A * d) j l' (q.set j dg) := by
     have := hinv.step (l' := l') HWV.out (by rw [HVN.out]; exact hsr) (by rw [HVN.out]; exact HQ.out)
     rwa [HVN.out, <- hq] at this
    have hcq := oq9.cell j AA
    have hfq := oq9.free j
    clear hq hqd hqg hsr hinv hgb ou oq hB3
    go_wp2_with fail
    go_roundw
    case rel => exact ⟨j, (j : Int) - 1, l', _, by omega, by omega, by omega, rfl, hst2, ou9.other oq9 AA _ _, oq9.set j _ dg AA, B9.setCell (p := ⟨w6.heap.size, j, none⟩) (show w2.heap.size <= w6.heap.size by omega) _⟩
    case measure => simp [intOf]
  have hdg1 : 1 <= dg := by rw [hq]; exact Nat.le_add_left _ _
  obtain ⟨D, hD⟩ : ∃ D, D = dg - 1 := ⟨_, rfl⟩
  have hDI : (dg : Int) - 1 = (D : Int) := by omega
  have hDw : IntKind.u64.wrap ((dg : Int) - 1) = (D : Int) := by rw [IntWalk.u64_in _ AA]; omega
  have HDQ : Hid (D = val (LB l j ((CD Bn).length + 1)) / val lv) := by show D = _; rw [hD, hq]; exact Nat.add_sub_cancel _ _
  have hD32 : D < 4294967296 := by omega
  clear hD hq hqd hqg
  go_wp2_with fail
  refine (xM w2 w2.heap.size w2.heap.size ((CD A).length + 1) j (CD Bn).length _ l l' lv _ _ ou9 hlr Y4m Y4m AA
   HVV.out B9 (Nat.le_refl _) HVN.out (by rw [HVLV.out]; exact HVp.out)).mono ?_
  rintro e w10 ⟨rfl, l'', ou10, hgb2, hsr⟩
  have oq10 := oq9.kept hgb2 AA
  have B10 := B9.trans (aQ hgb2 (Nat.le_refl _) B9.size)
  have hst2 : LdInv lv (A * d) j l'' (q.set j D) := by
   have := hinv.step (l' := l'') HWV.out (by rw [HVN.out]; exact hsr) (by rw [HVN.out]; exact HQ.out)
   rwa [HVN.out, <- HDQ.out] at this
  have hcq := oq10.cell j AA
  have hfq := oq10.free j
  clear hsr hinv hgb hgb2 ou oq ou9 oq9 hB3 hlr B9
  go_wp2_with fail
  go_roundw
  case rel => exact ⟨j, (j : Int) - 1, l'', _, by omega, by omega, by omega, rfl, hst2, ou10.other oq10 AA _ _, oq10.set j _ D AA, B10.setCell (p := ⟨w6.heap.size, j, none⟩) (show w2.heap.size <= w6.heap.size by omega) _⟩
  case measure => simp [intOf]
theorem Ce (va vb : Value) (A Bn : Nat) (w : World) (ha : Sl w va (CD A)) (hb : Sl w vb (CD Bn)) (hda : (CD A).length <= 900000000) (hdb : (CD Bn).length <= 900000000) :
 Calls prog 159 #[va, vb] w (Dv w (CD (Nat.gcd A Bn))) := by
 obtain ⟨G, hG⟩ : ∃ G, G = Nat.gcd A Bn := ⟨_, rfl⟩
 rw [<- hG]
 have HG : GcdIs A Bn G := hG.symm
 have HA := Lib.hid hda
 have HB := Lib.hid hdb
 clear hG hda hdb
 go_enter func159, ntmps159
 go_wp2
 go_loopg [0, 1] Bn (fun Y vx vy wr => ∃ X, Sl wr vx (CD X) /\ Sl wr vy (CD Y) /\ GcdIs X Y G /\ (CD X).length <= 900000000 /\ (CD Y).length <= 900000000 /\ Below w.heap.size w wr)
 case atStart => exact ⟨A, ha, hb, HG, HA.out, HB.out, Below.refl _ _⟩
 case round =>
  clear ha hb HG HA HB
  obtain ⟨Y, rfl⟩ : ∃ Y, Y = gk := ⟨_, rfl⟩
  obtain ⟨X, hX, hY, hG, hlX, hlY, hbel⟩ := hrel
  have HXS := Lib.hid hX
  have HYS := Lib.hid hY
  obtain ⟨aox, capx, rfl, x1, x2, _, _, _⟩ := hX
  obtain ⟨aoy, capy, rfl, y1, y2, _, _, _⟩ := hY
  unfold maxLen at x2 y2
  by_cases hY0 : Y = 0
  . subst hY0
    obtain rfl := hG.done
    have hd : decide ((0 : Int) < ((CD 0).length : Int)) = false := by rw [EG]; rfl
    have hd' : decide (0 < (CD 0).length) = false := by rw [EG]; rfl
    clear hG
    go_wp2_with fail
    go_ret
    exact ⟨_, rfl, HXS.out, hbel⟩
  have hYl : (CD Y).length ≠ 0 := fun e => hY0 ((FY _).1 (List.eq_nil_of_length_eq_zero e))
  have hd : decide ((0 : Int) < ((CD Y).length : Int)) = true := by simp; omega
  have hd' : decide (0 < (CD Y).length) = true := by simp; omega
  by_cases hsm : (CD X).length <= 2 /\ (CD Y).length <= 2
  . have e1 : decide (((CD X).length : Int) <= 2) = true := by simp; omega
    have e2 : decide (((CD Y).length : Int) <= 2) = true := by simp; omega
    have e1' : decide ((CD X).length <= 2) = true := by simp; omega
    have e2' : decide ((CD Y).length <= 2) = true := by simp; omega
    have hX64 : X < 18446744073709551616 := by
     have h1 := GV (GF X)
     rw [CO] at h1
     have h2 := Nat.pow_le_pow_right (n := 4294967296) AA hsm.1
     omega
    have hY64 : Y < 18446744073709551616 := by
     have h1 := GV (GF Y)
     rw [CO] at h1
     have h2 := Nat.pow_le_pow_right (n := 4294967296) AA hsm.2
     omega
    have HL1 := Lib.hid hsm.1
    have HL2 := Lib.hid hsm.2
    have HGE : Hid (Nat.gcd X Y = G) := hG
    clear hsm hYl hG
    go_wp2_with fail
    refine (QW _ X _ HXS.out HL1.out).mono ?_
    rintro e w' ⟨rfl, rfl⟩
    go_wp2_with fail
    refine (QW _ Y _ HYS.out HL2.out).mono ?_
    rintro e w' ⟨rfl, rfl⟩
    go_wp2_with fail
    refine (Cb X Y _ hX64 hY64).mono ?_
    rintro e w' ⟨rfl, rfl⟩
    have hg64 : Nat.gcd X Y < 18446744073709551616 := by
     have := Nat.le_of_dvd AA (Nat.gcd_dvd_right X Y)
     omega
    rw [HGE.out] at hg64 ⊢
    go_wp2_with fail
    refine (LF G _ hg64).mono ?_
    rintro e w6 ⟨v6, rfl, hv6, hb6⟩
    go_wp2_with fail
    go_ret
    exact ⟨v6, rfl, hv6, hbel.trans (hb6.mono hbel.size)⟩
  have hdec : (decide (((CD X).length : Int) <= 2) = false) ∨ (decide (((CD X).length : Int) <= 2) = true /\ decide (((CD Y).length : Int) <= 2) = false) := by
   by_cases h : (CD X).length <= 2
   . right; exact ⟨by simp; omega, by simp; omega⟩
   left; simp; omega
  have hYp : 0 < Y := by omega
  have hst := hG.step
  have hlt := Nat.mod_lt X hYp
  have hlr : (CD (X % Y)).length <= 900000000 := Nat.le_trans (FZ (Nat.le_of_lt hlt)) hlY
  clear hsm hYl
  rcases hdec with e1 | ⟨e1, e2⟩
  all_goals
   go_wp2_with fail
   refine (VS _ _ X Y _ HXS.out HYS.out hlX hlY hYp).mono ?_
   rintro e w3 ⟨v3, u3, rfl, hv3, hu3, hb3⟩
   have HY3 := HYS.out.below hb3
   have hbel3 := hbel.trans (hb3.mono hbel.size)
   go_wp2_with fail
   go_roundg (X % Y)
   case measure => exact hlt
   case rel => exact ⟨Y, HY3, hu3, hst, hlY, hlr, hbel3⟩
theorem VU (va vb : Value) (m n : Nat) (w : World) (ha : Sl w va (CD m)) (hb : Sl w vb (CD n)) : Calls prog 120 #[va, vb] w (VI w (JR m n)) :=
 (cP va vb m n w ha hb).mono fun _ _ ⟨h, q, e⟩ => ⟨h, by rw [e]; exact JJ (Below.refl _ _) _⟩
theorem UN (va vb : Value) (m n : Nat) (w : World) (ha : Sl w va (CD m)) (hb : Sl w vb (CD n)) (h1 : (CD m).length <= 1000000000) (h2 : (CD n).length <= 1000000000) : Calls prog 119 #[va, vb] w (Dv w (CD (m + n))) := by
 have := Jo va vb _ _ w ha hb h1 h2
 rwa [CO, CO] at this
theorem XM (va vb : Value) (m n : Nat) (w : World) (ha : Sl w va (CD m)) (hb : Sl w vb (CD n)) (h1 : (CD m).length <= 1000000000) (h2 : (CD n).length <= 1000000000) : Calls prog 122 #[va, vb] w (Dv w (CD (m * n))) := by
 have := iV va vb _ _ w ha hb h1 h2
 rwa [CO, CO] at this
theorem nN (va vb : Value) (m n : Nat) (w : World) (ha : Sl w va (CD m)) (hb : Sl w vb (CD n)) (h1 : (CD m).length <= 1000000000) (h : n <= m) : Calls prog 121 #[va, vb] w (Dv w (CD (m - n))) := by
 have := Jh va vb _ _ w ha hb h1 (FZ h) (by rw [CO, CO]; exact h)
 rwa [CO, CO] at this
theorem KN (neg : Bool) (v : Value) (m : Nat) (z : Int) (w : World) (h : Sl w v (CD m)) (hz : IV neg m = z) : Calls prog 105 #[.bool neg, v] w (RetZ w z) :=
 uL neg v (CD m) z w h (by rw [CO]; exact hz)
end Go.Proofs.YtmppigbbkjepiaaGreatDoor
