/- Helping facts of Qw; no other conditions. -/
import Derived.Test.YtmppigbbkjepiaaGreatDoorLin
import Derived.Test.YtmppigbbkjepiaaGreatDoorApi
import Derived.Test.YtmppigbbkjepiaaGreatDoorKnuth
import Derived.BigQuiet
import Derived.Deep.QuietTactic
import Derived.Deep.CutBlock
import Derived.Deep.DeepCutAuto
namespace Go.Proofs.YtmppigbbkjepiaaGreatDoor
open Go.Proofs.Tryz
open Go.RowKit W
theorem uQ {w w1 w2 : World} {row : Option Nat} (h : w.grownBy w1 row) (k : w1.grownBy w2 row) : w.grownBy w2 row :=
  ⟨k.os.trans h.os, k.tape.trans h.tape, k.output.trans h.output, Nat.le_trans h.size k.size, fun i hi hr => (k.block i (Nat.lt_of_lt_of_le hi h.size) hr).trans (h.block i hi hr)⟩
theorem lA {w w1 : World} {row : Option Nat} (h : w.grownBy w1 row) (q : Nat) : w.grownBy (w1.drewN q) row := uQ h ⟨rfl, rfl, rfl, Nat.le_refl _, fun _ _ _ => rfl⟩
theorem XN {w w1 : World} {g B : Nat} (h : w.grownBy w1 (some g)) (hB : B ≤ g) (hB2 : B ≤ w.heap.size) : Below B w w1 :=
  (Below.refl _ _).grown h hB2 (fun k hk => by cases hk; exact hB)
theorem Own.gset {w wr : World} {base g n : Nat} {l : List Nat} (h : Own wr base g n l) (hg : w.grownBy wr (some g)) (i : Nat) (u : Value) : w.grownBy (wr.setCell ⟨g, i, none⟩ u) (some g) :=
  uQ hg (h.stored i u).2
theorem Co {w wr : World} {g b o : Nat} {v : Value} (hg : w.grownBy wr (some g)) (h : w.cell? ⟨b, o, none⟩ = some v) (hne : b ≠ g) : wr.cell? ⟨b, o, none⟩ = some v :=
  hg.cell h (by simpa using hne)
theorem Own.below {w w' : World} {base g n : Nat} {l : List Nat} (h : Own w base g n l) (hb : Below w.heap.size w w') : Own w' base g n l := by
  have t := h.lt
  obtain ⟨y, k⟩ := h
  refine ⟨y, ?_⟩
  rcases k with k | ⟨o, q, p, f, v, u, r⟩
  · exact Or.inl k
  · have e : o = g := by simp at f; exact f.1.symm
    subst e
    exact Or.inr ⟨o, q, p, f, v, by rw [hb.block o t.2]; exact u, r⟩
theorem Own.kept {w w' : World} {base g g' n : Nat} {l : List Nat} (h : Own w base g n l) (hg : w.grownBy w' (some g')) (hne : g ≠ g') : Own w' base g n l :=
  World.ownsRow.kept h hg (.inr (by simpa [Value.ownBlock] using hne))
theorem Own.other {w : World} {base base' g g' n n' : Nat} {l l' : List Nat} (h : Own w base g n l) (h' : Own w base' g' n' l') (hne : g ≠ g') (i : Nat) (u : Value) : Own (w.setCell ⟨g', i, none⟩ u) base g n l :=
  h.kept (h'.stored i u).2 hne
def RetQw (w0 : World) (base g N : Nat) (l lv : List Nat) (j n : Nat) (e : Ending) (w' : World) : Prop :=
  e = .returned (.int .u32 (val (JQ l j (n + 1)) / val lv : Nat)) ∧ ∃ l', Own w' base g N l' ∧ TJ l lv j n l' ∧ w0.grownBy w' (some g)
theorem nJ {q r v2 : Nat} (hq : q * v2 < 18446744073709551616) (hr : r < 4294967296) :
    IntKind.u64.wrap ((q : Int) * (v2 : Int)) = ((q * v2 : Nat) : Int) ∧ IntKind.u64.wrap ((r : Int) * 4294967296) = (r : Int) * 4294967296 := by
  have e : (q : Int) * v2 = ((q * v2 : Nat) : Int) := by simp
  rw [e]
  exact ⟨IntWalk.u64_in _ AA, IntWalk.u64_in _ AA⟩
theorem Bp {q v c : Nat} (hq : q < 4294967296) (hv : v < 4294967296) (hc : c < 4294967296) :
    IntKind.u64.wrap ((q : Int) * (v : Int)) = (q : Int) * v ∧ IntKind.u64.wrap ((q : Int) * (v : Int) + (c : Int)) = (q : Int) * v + c ∧
      ∃ t : Nat, t = q * v + c ∧ (q : Int) * v + c = (t : Int) ∧ t < 18446744073709551616 := by
  have h : q * v ≤ 4294967295 * 4294967295 := Nat.mul_le_mul AA AA
  have e : (q : Int) * v = ((q * v : Nat) : Int) := by simp
  rw [e]
  exact ⟨IntWalk.u64_in _ AA, IntWalk.u64_in _ AA, _, rfl, by omega, by omega⟩
theorem Ez (a t c : Nat) (ha : a < 4294967296) (hc : c ≤ 1) :
    ∃ x c' : Nat, x < 4294967296 ∧ c' ≤ 1 ∧ x + t % 4294967296 + c = a + 4294967296 * c' ∧
      IntKind.u64.wrap (IntKind.u64.wrap ((a : Int) - (t : Int) % 4294967296) - (c : Int)) % 4294967296 = (x : Int) ∧
      IntKind.u64.wrap (IntKind.u64.wrap ((a : Int) - (t : Int) % 4294967296) - (c : Int)) / 9223372036854775808 = (c' : Int) := by
  simp only [IntKind.wrap_u64]
  by_cases h : t % 4294967296 + c ≤ a
  · exact ⟨a - t % 4294967296 - c, 0, by omega, by omega, by omega, by omega, by omega⟩
  · exact ⟨4294967296 + a - t % 4294967296 - c, 1, by omega, by omega, by omega, by omega, by omega⟩
theorem yT {u c b : Nat} (hu : u < 4294967296) (h : c + b ≤ u) : IntKind.u64.wrap (IntKind.u64.wrap ((u : Int) - (c : Int)) - (b : Int)) = ((u - (c + b) : Nat) : Int) := by
  simp only [IntKind.wrap_u64]; omega
theorem yQ {u c b : Nat} (h : u + 1 = c + b) : IntKind.u64.wrap (IntKind.u64.wrap ((u : Int) - (c : Int)) - (b : Int)) = 18446744073709551615 := by
  simp only [IntKind.wrap_u64]; omega
theorem Qi {q D : Nat} (h : q = D + 1) : (q : Int) - 1 = (D : Int) := by omega
theorem Bm {a b : Int} (h : a = b) : Ending.returned (.int .u32 a) = .returned (.int .u32 b) := by rw [h]
set_option maxRecDepth 100000 in
set_option maxHeartbeats 4000000 in
theorem hH (base g N j n cu gv cv : Nat) (l lv : List Nat) (w : World) (ho : Own w base g N l) (hwl : Wd l) (hj : j + n < N) (hN : N ≤ 2000000000) (hcu : n + 1 ≤ cu) (hcu2 : cu ≤ 2000000000) (hcv : n ≤ cv)
    (hv : ∀ i, i < n → w.cell? ⟨gv, i, none⟩ = some (.int .u32 ↑(gd lv i))) (hne : gv ≠ g) (hlv : lv.length = n) (hn : 2 ≤ n) (hwv : Wd lv) (hnorm : 2147483648 ≤ gd lv (n - 1))
    (hlt : val (JQ l j (n + 1)) < 4294967296 * val lv) :
    Calls prog 192 #[.slice (some ⟨g, j, none⟩) (n + 1) cu, .slice (some ⟨gv, 0, none⟩) n cv] w (RetQw w base g N l lv j n) := by
  have T := Lib.hid (Au hn hwl hwv hlv hnorm hlt)
  obtain ⟨U, hU⟩ : ∃ U, U = val (JQ l j (n + 1)) := ⟨_, rfl⟩
  obtain ⟨V, hV⟩ : ∃ V, V = val lv := ⟨_, rfl⟩
  rw [← hU, ← hV] at T
  have HU := Lib.hid hU
  have HV := Lib.hid hV
  have HVC := Lib.hid hv
  have HLV := Lib.hid hlv
  have WL := Lib.hid hwl
  have WV := Lib.hid hwv
  have HLT := Lib.hid hlt
  have un_le := T.out.un_le
  have cn := ho.cell (j + n) AA
  have cn1 := ho.cell (j + (n - 1)) AA
  have cn2 := ho.cell (j + (n - 2)) AA
  have dn1 := hv (n - 1) AA
  have dn2 := hv (n - 2) AA
  have bn := ES hwl (j + n)
  have bn1 := ES hwl (j + (n - 1))
  have bn2 := ES hwl (j + (n - 2))
  have ev1 := ES hwv (n - 1)
  have ev2 := ES hwv (n - 2)
  clear hU hV hlv hwl hwv hlt hv
  have hl1 : IntKind.i64.wrap ((n : Int) - 1) = (n : Int) - 1 := IntWalk.i64_in _ AA
  have hl2 : IntKind.i64.wrap ((n : Int) - 2) = (n : Int) - 2 := IntWalk.i64_in _ AA
  have hp1 : (0 : Int) ≤ (n : Int) - 1 := by omega
  have hp2 : (0 : Int) ≤ (n : Int) - 2 := by omega
  have ht1 : ((n : Int) - 1).toNat = n - 1 := by omega
  have ht2 : ((n : Int) - 2).toNat = n - 2 := by omega
  have hor1 := bY (gd l (j + n)) (gd l (j + (n - 1))) bn bn1
  have hor1w : IntKind.u64.wrap (((gd l (j + n) : Nat) : Int) * 4294967296) = ((gd l (j + n) : Nat) : Int) * 4294967296 := IntWalk.u64_in _ AA
  obtain ⟨YL, htop⟩ : ∃ YL : Nat, YL = gd l (j + n) * 4294967296 + gd l (j + (n - 1)) := ⟨_, rfl⟩
  rw [← htop] at hor1
  have HTOP := Lib.hid htop
  have btop : YL < 18446744073709551616 := by omega
  clear htop
  go_enter func192, ntmps192
  go_wp2
  go_quiet (fail)
  clear hor1 hor1w
  obtain ⟨v1, hv1⟩ : ∃ v1, v1 = gd lv (n - 1) := ⟨_, rfl⟩
  obtain ⟨v2, hv2⟩ : ∃ v2, v2 = gd lv (n - 2) := ⟨_, rfl⟩
  rw [← hv1] at T hnorm un_le dn1 ev1
  rw [← hv2] at T dn2 ev2
  clear hv1 hv2
  obtain ⟨q0, hq0⟩ : ∃ q0, q0 = YL / v1 := ⟨_, rfl⟩
  obtain ⟨r0, hr0⟩ : ∃ r0, r0 = YL % v1 := ⟨_, rfl⟩
  have hquo : IntKind.u64.wrap ((YL : Int).tdiv (v1 : Int)) = (q0 : Int) := by
    rw [hq0, IntWalk.u64_quo _ _ ⟨by omega, by omega, by omega⟩]; simp
  have hrem : (YL : Int).tmod (v1 : Int) = (r0 : Int) := by
    rw [hr0, IntWalk.rem_in _ _ AA]; simp
  have hquo' : IntKind.u64.wrap ((YL : Int) / (v1 : Int)) = (q0 : Int) := by
    rw [← hquo, IntWalk.u64_quo _ _ ⟨by omega, by omega, by omega⟩, IntWalk.u64_in _ ⟨Int.ediv_nonneg AA AA, by have := (IntWalk.tdiv_le (YL : Int) (v1 : Int) AA AA).2; omega⟩]
  have hrem' : (YL : Int) % (v1 : Int) = (r0 : Int) := by rw [← hrem, IntWalk.rem_in _ _ AA]
  have hv10 : ¬ (v1 : Int) = 0 := by omega
  have G0 : ZN U V v1 YL q0 r0 := by rw [hq0, hr0, HTOP.out]; exact T.out.start
  have hr0b : r0 < 4294967296 := by rw [hr0]; have := Nat.mod_lt YL (show 0 < v1 by omega); omega
  clear hq0 hr0
  go_upto_region 3 with fail
  go_quiet (fail)
  clear hquo hrem hquo' hrem'
  go_upto_block 0 with fail
  go_cut [7] (fun s wx => ∃ q : Nat, s = .int .u64 q ∧ q < 4294967296 ∧ U / V ≤ q ∧ q * V < U + V ∧ ∃ d, wx = w.drewN d)
  case first =>
    go_wp2_with fail
    go_loopw [7, 8] (fun s t wr => ∃ q r : Nat, s = .int .u64 q ∧ t = .int .u64 r ∧ r < 4294967296 ∧ ZN U V v1 YL q r ∧ ∃ d, wr = w.drewN d) (fun s _ _ => (intOf s).toNat)
    case atStart => exact ⟨q0, r0, rfl, rfl, hr0b, G0, _, by first | rfl | (simp only [World.drewN_drewN]; rfl)⟩
    case round =>
      clear G0 hr0b
      obtain ⟨q, r, rfl, rfl, hr, G, d, rfl⟩ := hrel
      have G' := G
      rw [HTOP.out] at G'
      have hqb := T.out.bound G'
      obtain ⟨m1, m2⟩ := nJ (v2 := v2) hqb.2 hr
      have hor := bY r (gd l (j + (n - 2))) hr bn2
      obtain ⟨X, hX⟩ : ∃ X, X = q * v2 := ⟨_, rfl⟩
      rw [← hX] at m1
      have HX := Lib.hid hX
      have hXb : X < 18446744073709551616 := by rw [hX]; exact hqb.2
      have hqb1 : q ≤ 4294967297 := hqb.1
      clear hX hqb
      by_cases hg : 4294967296 ≤ q
      · have hd1 : decide ((4294967296 : Int) ≤ (q : Int)) = true := by simp; omega
        go_wp2
        go_quiet (fail)
        clear hl1 hl2 ht1 ht2 m1 m2 hor hd1
        have hlow := (T.out.lower G' (.inl hg)).2
        rw [← HTOP.out] at hlow
        have hq1 : 1 ≤ q := by omega
        clear G' G btop hXb hv10
        go_upto_region 7 with fail
        by_cases hr2 : 4294967296 ≤ r + v1
        · have hr3 : decide ((4294967296 : Int) ≤ (r : Int) + (v1 : Int)) = true := by simp; omega
          go_upto_if 81 with fail
          go_wp2_with fail
          go_meet
          have hlow' := hlow
          rw [HTOP.out] at hlow'
          have hgr := T.out.grown hlow' hr2
          exact ⟨q - 1, by go_num, hgr.1, hlow.2, T.out.good hlow' hgr.1 hgr.2, _, rfl⟩
        · have hr3 : decide ((4294967296 : Int) ≤ (r : Int) + (v1 : Int)) = false := by simp; omega
          go_upto_if 81 with fail
          go_wp2_with fail
          go_roundw
          case rel => exact ⟨q - 1, r + v1, by go_num, by go_num, by omega, hlow, _, rfl⟩
          case measure => simp [intOf]; omega
      · have hd1 : decide ((4294967296 : Int) ≤ (q : Int)) = false := by simp; omega
        by_cases ht : r * 4294967296 + gd l (j + (n - 2)) < X
        · have hd2 : decide ((((r * 4294967296 + gd l (j + (n - 2)) : Nat)) : Int) < (X : Int)) = true := by simp; omega
          go_wp2
          go_quiet (fail)
          clear hl1 hl2 ht1 ht2 m1 m2 hor hd1 hd2
          have hlow := (T.out.lower G' (.inr (by rw [← HX.out]; exact ht))).2
          have hq1 : 1 ≤ q := (T.out.lower G' (.inr (by rw [← HX.out]; exact ht))).1
          rw [← HTOP.out] at hlow
          clear G' G btop hXb hv10
          go_upto_region 7 with fail
          by_cases hr2 : 4294967296 ≤ r + v1
          · have hr3 : decide ((4294967296 : Int) ≤ (r : Int) + (v1 : Int)) = true := by simp; omega
            go_upto_if 81 with fail
            go_wp2_with fail
            go_meet
            have hlow' := hlow
            rw [HTOP.out] at hlow'
            have hgr := T.out.grown hlow' hr2
            exact ⟨q - 1, by go_num, hgr.1, hlow.2, T.out.good hlow' hgr.1 hgr.2, _, rfl⟩
          · have hr3 : decide ((4294967296 : Int) ≤ (r : Int) + (v1 : Int)) = false := by simp; omega
            go_upto_if 81 with fail
            go_wp2_with fail
            go_roundw
            case rel => exact ⟨q - 1, r + v1, by go_num, by go_num, by omega, hlow, _, rfl⟩
            case measure => simp [intOf]; omega
        · have hd2 : decide ((((r * 4294967296 + gd l (j + (n - 2)) : Nat)) : Int) < (X : Int)) = false := by simp; omega
          have hgood := T.out.good G' AA (by rw [← HX.out]; omega)
          go_wp2
          go_quiet (fail)
          rename_i nq
          go_wp2_with fail
          go_meet
          exact ⟨q, rfl, by omega, G.2, hgood, d + nq, by simp only [World.drewN_drewN]⟩
  case rest =>
    clear hl1 hl2 ht1 ht2 G0 hr0b HTOP btop dn1 dn2 cn1 cn2 hnorm un_le
    obtain ⟨q, rfl, hq, hd, hg, d, rfl⟩ := hcut
    have ho' := ho.drewN d
    have cn' := ho'.cell (j + n) AA
    clear cn ho
    go_wp2
    go_loopw [9, 10, 83] (fun sc sb i wr => ∃ (k c b : Nat) (r : List Nat), k ≤ n ∧ c < 4294967296 ∧ b ≤ 1 ∧ i = .int .i64 k ∧ sc = .int .u64 c ∧ sb = .int .u64 b ∧ MsInv l lv q j k c b r ∧ Own wr base g N r ∧ w.grownBy wr (some g))
      (fun _ _ i _ => n - (intOf i).toNat)
    case atStart => exact ⟨0, 0, 0, l, by omega, by omega, by omega, rfl, rfl, rfl, MsInv.start _ _ _ WL.out, ho', lA (World.grownBy.refl _ _) _⟩
    case round =>
      clear ho' cn'
      obtain ⟨k, c, b, r, hk, hc, hb, rfl, rfl, rfl, hinv, hown, hgb⟩ := hrel
      by_cases hlt : k < n
      · have hcv' := Co hgb (HVC.out k hlt) hne
        have hcu' := hown.cell (j + k) AA
        rw [hinv.2.2.2.2.2 (j + k) (.inr (Nat.le_refl _))] at hcu'
        have hfr := hown.free (j + k)
        have bu := ES WL.out (j + k)
        have bv := ES WV.out k
        obtain ⟨s1, s2, t, ht, s3, ht2⟩ := Bp hq bv hc
        have HT := Lib.hid ht
        clear ht hd hg
        go_wp2_with fail
        go_roundw
        case rel =>
          obtain ⟨x, b', h1, h2, h3, h4, h5⟩ := Ez (gd l (j + k)) t b bu hb
          have hst := hinv.step (by have := hown.len; have := hinv.1; omega) t x b' HT.out ht2 h1 h2 h3
          exact ⟨k + 1, _, b', _, by omega, hst.2.2.1, h2, by go_num, by go_num, Ap h5, hst, hown.set (j + k) _ x h4, hown.gset hgb _ _⟩
        case measure => simp [intOf]; omega
      · obtain rfl : k = n := by omega
        have hcu' := hown.cell (j + k) AA
        rw [hinv.2.2.2.2.2 (j + k) (.inr (Nat.le_refl _))] at hcu'
        have hfr := hown.free (j + k)
        have hlen : j + k < l.length := by have := hown.len; have := hinv.1; omega
        rw [HU.out, HV.out] at hd hg
        have hVp : 0 < val lv := by have := T.out.vpos; rwa [HV.out] at this
        by_cases hle : c + b ≤ gd l (j + k)
        · have hR := hinv.right HLV.out hlen hd hg hVp WV.out hle
          have hX := yT bn hle
          rw [hR.2.2] at hX
          have HR := Lib.hid hR
          clear hle hR hd hg hVp hinv
          go_wp2_with fail
          go_ret
          have hs := HR.out.2.1
          rw [HR.out.2.2] at hs
          exact ⟨Bm (by rw [← HR.out.1]), _, hown.set (j + k) _ 0 AH, hs, hown.gset hgb _ _⟩
        · have hlt' : gd l (j + k) < c + b := by omega
          have hW := hinv.wrong HLV.out hd hg hVp WV.out hlt'
          have hX := yQ hW.2
          have HW := Lib.hid hW
          have hown1 := hown.set (j + k) 4294967295 4294967295 rfl
          have hgb1 := hown.gset hgb (j + k) (.int .u32 4294967295)
          have hr1 := RZ hinv.2.1 (j + k) 4294967295 AA
          have hr1l : (r.set (j + k) 4294967295).length = l.length := by rw [List.length_set]; exact hinv.1
          have hg1 : gd (r.set (j + k) 4294967295) (j + k) = 4294967295 := gM _ _ _ (by rw [hinv.1]; exact hlen)
          have HD := Lib.hid hd
          have HG := Lib.hid hg
          have HVP := Lib.hid hVp
          have HLT2 := Lib.hid hlt'
          have HINV := Lib.hid hinv
          have HLEN := Lib.hid hlen
          obtain ⟨r1, hr1e⟩ : ∃ r1, r1 = r.set (j + k) 4294967295 := ⟨_, rfl⟩
          rw [← hr1e] at hown1 hr1 hr1l hg1
          have HR1 := Lib.hid hr1e
          have HG1 := Lib.hid hg1
          have HR1L := Lib.hid hr1l
          clear hle hW hd hg hVp hlt' hinv hr1e hlen hg1 hr1l
          go_wp2_with fail
          clear hX hcu' hfr
          go_loopw [9, 136] (fun sc i wx => ∃ (m c2 : Nat) (r2 : List Nat), m ≤ k ∧ c2 ≤ 1 ∧ i = .int .i64 m ∧ sc = .int .u64 c2 ∧ PbInv r1 lv j m c2 r2 ∧ Own wx base g N r2 ∧ w.grownBy wx (some g))
            (fun _ i _ => k - (intOf i).toNat)
          case atStart => exact ⟨0, 0, r1, by omega, by omega, rfl, rfl, PbInv.start _ _ hr1, hown1, hgb1⟩
          case round =>
            clear hown1 hgb1 hown hgb
            obtain ⟨m, c2, r2, hm, hc2, rfl, rfl, hinv2, hown2, hgb2⟩ := hrel
            by_cases hlt2 : m < k
            · have hcv' := Co hgb2 (HVC.out m hlt2) hne
              have hcu' := hown2.cell (j + m) AA
              rw [hinv2.2.2.2.2 (j + m) (.inr (Nat.le_refl _))] at hcu'
              have hfr := hown2.free (j + m)
              have bu := ES hr1 (j + m)
              have bv := ES WV.out m
              have s1 : IntKind.u64.wrap (((gd r1 (j + m) : Nat) : Int) + ((gd lv m : Nat) : Int)) = ((gd r1 (j + m) : Nat) : Int) + ((gd lv m : Nat) : Int) := IntWalk.u64_in _ AA
              have s2 : IntKind.u64.wrap (((gd r1 (j + m) : Nat) : Int) + ((gd lv m : Nat) : Int) + (c2 : Int)) = ((gd r1 (j + m) : Nat) : Int) + ((gd lv m : Nat) : Int) + (c2 : Int) := IntWalk.u64_in _ AA
              have s3 : (m : Int) < (k : Int) + 1 := by omega
              have s4 : (m : Int) < (k : Int) := by omega
              go_wp2_with fail
              go_quiet (fail)
              clear s1 s2
              go_wp2_with fail
              go_roundw
              case rel =>
                have hst := hinv2.step (by have := HLEN.out; have := HR1L.out; omega) bu bv _ rfl
                exact ⟨m + 1, _, _, by omega, hst.2.2.1, by go_num, by go_num, hst, Own.set (hown2.drewN _) (j + m) _ _ AA, Own.gset (hown2.drewN _) (lA hgb2 _) _ _⟩
              case measure => simp [intOf]; omega
            · obtain rfl : m = k := by omega
              have hP := PbInv.done HINV.out HLV.out HLEN.out HD.out HG.out HVP.out WV.out HLT2.out (by rw [← HR1.out]; exact hinv2)
              obtain ⟨rfl, hS⟩ := hP
              have hcu' := hown2.cell (j + m) AA
              rw [hinv2.2.2.2.2 (j + m) (.inr (Nat.le_refl _)), HG1.out] at hcu'
              have hfr := hown2.free (j + m)
              have hq1 : 1 ≤ q := by rw [HW.out.1]; exact Nat.le_add_left _ _
              go_wp2_with fail
              go_ret
              exact ⟨Bm (Qi HW.out.1), _, hown2.set (j + m) _ 0 AH, hS, hown2.gset hgb2 _ _⟩
end Go.Proofs.YtmppigbbkjepiaaGreatDoor
