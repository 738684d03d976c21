/- Helping facts of Ref1; no other conditions. Helping facts of BezM; no other conditions. Helping facts of BezD; no other conditions. Helping facts of FnsS; no other conditions. -/
import Derived.Test.YtmppigbbkjepiaaGreatDoorBoxI
set_option maxHeartbeats 1000000
namespace Go.Proofs.YtmppigbbkjepiaaGreatDoor
open Go.Proofs.Tryz
open Go.RowKit W
variable {n : Nat} {p : Prop} {y : Int}
theorem Zhg (h : p := by
 rintro e H ⟨X, rfl, l, p⟩
 obtain ⟨u, q, rfl, I, _, _⟩ := l.parts
 have o := (T.out.keep h).keep p
 have B := Lib.hid o
 obtain ⟨⟨n0, N, D, F, L, J⟩, g2, g3⟩ := o
 have Q : Below w.heap.size w H := (C.trans (h.mono C.size)).trans (p.mono (Nat.le_trans C.size h.size))
 go_wp2_with fail
 refine AQ (v := .agg #[.bool (decide (z < 0)), .slice u (CC z.natAbs).length q]) ?_ O ((TZ l B.out Q AA).eq y.out)
 simp [results, results58, go_sem, L, J]
 ) : p := h
theorem ZcZ (h : p := by
 go_enter func150, ntmps150
 go_upto_region 1 with fail
 rw [<- h]
 clear h
 go_wp2_with fail
 go_ret
 exact ⟨rfl, p⟩
 ) : p := h
theorem Ij (ao : Option Addr) (cap : Nat) (l : List Nat) (w : World) (hlc : l.length <= cap) (hcm : cap <= maxLen)
 (hc : ∀ i, i < l.length -> ∃ b off, ao = some ⟨b, off, none⟩ /\ w.cell? ⟨b, off + i, none⟩ = some (.int .u32 ↑(gd l i))) :
 Calls prog 149 #[.slice ao l.length cap] w fun e w' => e = .returned (.slice ao (GC l).length cap) /\ w = w' := by
 have HC := Lib.hid hc
 clear hc
 unfold maxLen at hcm
 go_enter func149, ntmps149
 go_wp2
 go_loop [3] (fun n => ∃ k : Nat, k <= l.length /\ Hid (GC (l.take k) = GC l) /\ n = .int .i64 k) (fun n => (intOf n).toNat)
 case atStart => exact ⟨l.length, Nat.le_refl _, by rw [List.take_length]; rfl, rfl⟩
 case round =>
  obtain ⟨k, hk, ht, rfl⟩ := hrel
  by_cases hk0 : k = 0
  . subst hk0
    go_wp2
    go_ret
    have : GC l = [] := by rw [<- ht.out]; rfl
    exact ⟨by rw [this]; rfl, rfl⟩
  obtain ⟨j, rfl⟩ : ∃ j, k = j + 1 := ⟨k - 1, by omega⟩
  clear hk0
  obtain ⟨b, off, rfl, hc⟩ := HC.out j AA
  by_cases hz : gd l j = 0
  . rw [hz] at hc
    have HT : Hid (GC (l.take j) = GC l) := by rw [<- ht.out, qB l j AA hz]; rfl
    clear hz ht
    go_wp2
    go_round
    case rel => exact ⟨j, by omega, HT, by go_num⟩
    case measure => simp [intOf]
  have HT : (GC l).length = j + 1 := by rw [<- ht.out]; exact qA l j AA hz
  have hz' : (((gd l j : Nat) : Int) == 0) = false := by simpa using hz
  go_wp2
  go_ret
  exact ⟨rfl, rfl⟩
theorem QR (v : Value) (l : List Nat) (w : World) (h : Sl w v l) :
 Calls prog 149 #[v] w fun e w' => w = w' /\ ∃ v', e = .returned v' /\ ∀ w2, Sl w2 v l -> Sl w2 v' (CC (val l)) := by
 obtain ⟨u, k, rfl, H, q, p, z, G⟩ := h
 refine (Ij u k l w H q G).mono fun e w' ⟨he, hw⟩ => ⟨hw, _, he, ?_⟩
 rintro w2 ⟨J, t, I, P, N, L, kn, y⟩
 cases I
 rw [<- UZ p]
 have B := JN l
 have f := lW l
 refine ⟨u, k, O, by omega, q, by rw [f]; exact PQ p _, z, fun i C => ?_⟩
 obtain ⟨b, o, F, D⟩ := y i AA
 refine ⟨b, o, F, ?_⟩
 rw [f, eR _ _ _ C]; exact D
theorem RY (m : Nat) (w : World) (h : m < 18446744073709551616) :
 Calls prog 106 #[.int .u64 m] w (Db w (CC m)) := by
 go_enter func106, ntmps106
 have l := pX m h
 have k := Lib.hid l
 clear l
 go_wp2_with fail
 refine (QR _ _ _ (lJ w _ _ (m % 4294967296) (m / 4294967296) AA AA k.out.1)).mono ?_
 rintro e p ⟨rfl, o, rfl, f⟩
 have f := f _ (lJ w ((m : Int) % 4294967296) ((m : Int) / 4294967296) (m % 4294967296) (m / 4294967296) AA AA k.out.1)
 rw [k.out.2] at f
 go_wp2
 go_ret
 exact ⟨o, rfl, f, (Below.refl _ _).alloc (Nat.le_refl _) _⟩
theorem tK (neg : Bool) (v : Value) (l : List Nat) (z : Int) (w : World) (h : Sl w v l) (hz : IE neg (val l) = z) :
 Calls prog 105 #[.bool neg, v] w (RetZ w z) := by
 subst hz
 have H := Lib.hid h
 clear h
 go_enter func105, ntmps105
 go_wp2_with fail
 refine (QR _ l _ (H.out.below ((Below.refl _ _).alloc (Nat.le_refl _) _))).mono ?_
 rintro e B ⟨rfl, C, rfl, k⟩
 obtain ⟨o, f, rfl, G, F, D, u, y⟩ := k w H.out
 have t := Lib.hid k
 clear k y u
 by_cases hz : val l = 0
 . have q : (CC (val l)).length = 0 := by rw [hz, DX]; rfl
   have p := Lib.hid hz
   clear hz q
   cases neg
   all_goals
    go_wp2
    refine AQ (v := .agg #[.bool false, .slice o (CC (val l)).length f]) (by first | (simp [results, results105, go_sem]; done) | (simp [results, results105, go_sem]; exact (FR _).2 p.out)) O ⟨_, O, ⟨.slice o (CC (val l)).length f, ?_, ?_⟩, (Below.refl _ _).alloc (Nat.le_refl _) _⟩
    . rw [p.out, gW]; rfl
    rw [dB]
    exact t.out _ (H.out.below ((Below.refl _ _).alloc (Nat.le_refl _) _))
 have q : (CC (val l)).length ≠ 0 := fun e => hz ((FR _).1 (List.eq_nil_of_length_eq_zero e))
 have p := Lib.hid hz
 clear hz q
 cases neg
 . go_wp2
   refine AQ (v := .agg #[.bool false, .slice o (CC (val l)).length f]) (by simp [results, results105, go_sem]) O ⟨_, O, ⟨.slice o (CC (val l)).length f, ?_, ?_⟩, (Below.refl _ _).alloc (Nat.le_refl _) _⟩
   . rw [sJ _ _ p.out]
   rw [dB]
   exact t.out _ (H.out.below ((Below.refl _ _).alloc (Nat.le_refl _) _))
 go_wp2
 refine AQ (v := .agg #[.bool true, .slice o (CC (val l)).length f]) (by simp [results, results105, go_sem]; exact Nat.pos_of_ne_zero fun e => p.out ((FR _).1 (List.eq_nil_of_length_eq_zero e))) O ⟨_, O, ⟨.slice o (CC (val l)).length f, ?_, ?_⟩, (Below.refl _ _).alloc (Nat.le_refl _) _⟩
 . rw [sJ _ _ p.out]
 rw [dB]
 exact t.out _ (H.out.below ((Below.refl _ _).alloc (Nat.le_refl _) _))
theorem VN (n : Int) (w : World) (h1 : -9223372036854775808 <= n) (h2 : n <= 9223372036854775807) :
 Calls prog 58 #[.int .i64 n] w (RetZ w n) := by
 obtain ⟨W, G, a0, C, R⟩ := Gc w
 have T := Lib.hid R
 clear R
 by_cases hn : n < 0
 . obtain ⟨k, S⟩ : ∃ k : Nat, -(n + 1) = (k : Int) := ⟨(-(n + 1)).natAbs, by omega⟩
   have l : IE true (k + 1) = n := by simp [IE]; omega
   have P := Lib.hid l
   have a1 : k < 9223372036854775808 := by omega
   have HK := Lib.hid S
   clear l S
   go_enter func58, ntmps58
   go_upto_region 1 with fail
   rw [<- G]
   clear G
   go_wp2_with fail
   rw [show -(n + 1) + 1 = ((k + 1 : Nat) : Int) by have := HK.out; omega]
   refine (RY (k + 1) _ AA).mono ?_
   rintro e U ⟨Y, rfl, t, h⟩
   go_wp2_with fail
   obtain ⟨z, f⟩ : ∃ z : Int, z = n := ⟨_, rfl⟩
   rw [<- f] at P ⊢
   have y := Lib.hid f
   clear f hn h1 h2
   refine (tK _ _ _ z _ t (by rw [CO]; exact P.out)).mono ?_
   exact Zhg
 obtain ⟨k, rfl⟩ : ∃ k : Nat, n = (k : Int) := ⟨n.natAbs, by omega⟩
 have l : IE false k = (k : Int) := rfl
 have P := Lib.hid l
 go_enter func58, ntmps58
 go_upto_region 1 with fail
 rw [<- G]
 clear G
 go_wp2_with fail
 refine (RY k _ AA).mono ?_
 rintro e U ⟨Y, rfl, t, h⟩
 go_wp2_with fail
 obtain ⟨z, f⟩ : ∃ z : Int, z = (k : Int) := ⟨_, rfl⟩
 rw [<- f]
 refine (tK _ _ _ z _ t (by rw [CO, f]; rfl)).mono ?_
 have y := Lib.hid f
 clear f l
 exact Zhg
theorem Dc (n : Bool) (s : Value) (l : List Nat) (w : World) (ha : Sl w s l) :
 Calls prog 150 #[.agg #[.bool n, s]] w (LI w (LQ n l)) := by
 obtain ⟨I, u, rfl, L, H, G, B, v⟩ := ha
 have J := Lib.hid v
 clear v B G
 unfold maxLen at H
 obtain ⟨W, h, z, p, q⟩ := lG w n (.slice I l.length u)
 have P := q.1
 have N := q.2
 clear q
 by_cases f : l.length = 0
 . have e : LQ n l = !n := by unfold LQ; rw [if_pos f]
   rw [e]
   have F : ((l.length : Int) == 0) = true := by rw [f]; rfl
   clear e f
   exact ZcZ
 obtain ⟨k, o⟩ : ∃ k, l.length = k + 1 := ⟨l.length - 1, by omega⟩
 have F : ((l.length : Int) == 0) = false := by rw [beq_eq_false_iff_ne]; omega
 obtain ⟨b, y, rfl, t⟩ := J.out k AA
 have t := DB t p
 have C : (l.length : Int) - 1 = (k : Int) := by omega
 by_cases hg : gd l k = 0
 . have e : LQ n l = false := by unfold LQ; rw [if_neg f, o, Nat.add_sub_cancel, hg]; rfl
   rw [e]
   rw [hg] at t
   clear e f o hg
   exact ZcZ
 have e : LQ n l = true := by unfold LQ; rw [if_neg f, o, Nat.add_sub_cancel]; exact decide_eq_true hg
 rw [e]
 have D : (((gd l k : Nat) : Int) != 0) = true := by rw [bne_iff_ne]; omega
 clear e f o hg
 exact ZcZ
theorem Aa (x : Int) : LQ (decide (x < 0)) (CC x.natAbs) = true := by
 unfold LQ
 by_cases h : (CC x.natAbs).length = 0
 . rw [if_pos h]
   have := (WS x).1 AA
   subst this; rfl
 rw [if_neg h]
 have f : 0 < x.natAbs := by
  rcases Nat.eq_zero_or_pos x.natAbs with e | e
  . rw [e, DX] at h; exact absurd rfl h
  exact e
 obtain ⟨l, y, e1, e2, _⟩ := VJ x.natAbs f
 rw [e1, List.length_append, List.length_singleton, Nat.add_sub_cancel, LF _ _ _ (Nat.le_refl _), Nat.sub_self]
 exact decide_eq_true (by show y ≠ 0; omega)
theorem gB (va : Value) (x : Int) (w : World) (ha : IsI w va x) :
 Calls prog 150 #[va] w (LI w true) := by
 obtain ⟨s, rfl, e⟩ := ha
 have := Dc (decide (x < 0)) s _ w e
 rwa [Aa] at this
structure BzInv (a b r nx u st : Int) : Prop where
 c1 : ∃ k : Int, r = u * a + k * b
 c2 : ∃ k : Int, nx = st * a + k * b
 g : Int.gcd r nx = Int.gcd a b
 hu : u.natAbs <= 3 * b.natAbs + 1
 hs : st.natAbs <= 3 * b.natAbs + 1
 hr : r.natAbs <= a.natAbs + b.natAbs
 hn : nx.natAbs <= a.natAbs + b.natAbs
 ph : (r = a /\ nx = b /\ u = 1 /\ st = 0) ∨ (r = b /\ u = 0 /\ st = 1 /\ 0 <= nx /\ nx < b.natAbs) ∨
  (0 < r /\ 0 <= nx /\ nx < r /\ r < b.natAbs /\ st.natAbs * r.natAbs + u.natAbs * nx.natAbs <= 3 * b.natAbs)
theorem BzInv.start (a b : Int) : BzInv a b a b 1 0 :=
 ⟨⟨0, by simp⟩, ⟨1, by simp⟩, rfl, by simp, by simp, by omega, by omega, .inl ⟨rfl, rfl, rfl, rfl⟩⟩
theorem Pm (r nx : Int) : Int.gcd nx (r % nx) = Int.gcd r nx := by
 rw [Int.emod_def, Int.gcd_comm r nx]
 exact Int.gcd_sub_mul_left_right ..
theorem BzInv.step {a b r nx u st : Int} (h : BzInv a b r nx u st) (hnx : nx ≠ 0) : BzInv a b nx (r % nx) st (u - r / nx * st) := by
 obtain ⟨⟨I, e1⟩, ⟨p, e2⟩, g, T, t, U, z, F⟩ := h
 have P := Int.mul_ediv_add_emod r nx
 have l := Int.emod_nonneg r hnx
 have N := Int.emod_lt r hnx
 have hg : Int.gcd nx (r % nx) = Int.gcd a b := by rw [Pm]; exact g
 have B : ∃ k : Int, r % nx = (u - r / nx * st) * a + k * b := by
  refine ⟨I - r / nx * p, ?_⟩
  generalize r / nx = q at *
  generalize r % nx = m at *
  grind
 have f : (r % nx).natAbs <= a.natAbs + b.natAbs := by omega
 generalize hq : r / nx = q at *
 generalize hmm : r % nx = m at *
 rcases F with ⟨rfl, rfl, rfl, rfl⟩ | ⟨rfl, rfl, rfl, H, o⟩ | ⟨H, o, S, R, G⟩
 . refine ⟨⟨p, e2⟩, B, hg, t, by simp, z, f, .inr (.inl ⟨rfl, rfl, by simp, l, by omega⟩)⟩
 . have L : q.natAbs * nx.natAbs <= r.natAbs + m.natAbs := by
    rw [<- Int.natAbs_mul, Int.mul_comm q nx]; omega
   have e : 1 <= nx.natAbs := by omega
   have J : q.natAbs <= q.natAbs * nx.natAbs := Nat.le_mul_of_pos_right _ e
   have e3 : ((0 : Int) - q * 1).natAbs = q.natAbs := by omega
   refine ⟨⟨p, e2⟩, B, hg, t, by rw [e3]; omega, z, f, .inr (.inr ⟨by omega, l, by omega, o, ?_⟩)⟩
   rw [e3]; simp only [Int.natAbs_one, Nat.one_mul]; omega
 have y : 0 <= q := by rw [<- hq]; exact Int.ediv_nonneg AA o
 have D : (u - q * st).natAbs <= u.natAbs + q.natAbs * st.natAbs := by
  have := Int.natAbs_sub_le u (q * st)
  rwa [Int.natAbs_mul] at this
 have e : 1 <= nx.natAbs := by omega
 have v : r.natAbs = nx.natAbs * q.natAbs + m.natAbs := by
  rw [<- Int.natAbs_mul]
  have : 0 <= nx * q := Int.mul_nonneg o y
  omega
 have Q : (u - q * st).natAbs * nx.natAbs + st.natAbs * m.natAbs <= 3 * b.natAbs := by
  refine Nat.le_trans ?_ G
  have := Nat.mul_le_mul_right nx.natAbs D
  rw [v]
  rw [Nat.add_mul] at this
  rw [Nat.mul_add]
  have e4 : q.natAbs * st.natAbs * nx.natAbs = st.natAbs * (nx.natAbs * q.natAbs) := by grind
  omega
 have C : (u - q * st).natAbs <= 3 * b.natAbs + 1 := by
  have : (u - q * st).natAbs <= (u - q * st).natAbs * nx.natAbs := Nat.le_mul_of_pos_right _ e
  omega
 exact ⟨⟨p, e2⟩, B, hg, t, C, z, f, .inr (.inr ⟨by omega, l, by omega, by omega, Q⟩)⟩
theorem lN {z : Int} (h : z.natAbs <= y.natAbs) (hy : Fits y n) : Fits z n := NF (Nat.lt_of_le_of_lt h hy.lt)
theorem Fits_div {x : Int} (h : Fits x n) : Fits (x / y) n := by
 refine lN ?_ h
 exact Int.natAbs_ediv_le_natAbs _ _
theorem bZ : Fn prog 10 := ⟨_, func10, by kernel_rfl, rfl⟩
theorem YY : Fn prog 11 := ⟨_, func11, by kernel_rfl, rfl⟩
theorem FL : Fn prog 12 := ⟨_, func12, by kernel_rfl, rfl⟩
theorem PC : Fn prog 13 := ⟨_, func13, by kernel_rfl, rfl⟩
theorem nU : Fn prog 14 := ⟨_, func14, by kernel_rfl, rfl⟩
theorem PF : Fn prog 15 := ⟨_, func15, by kernel_rfl, rfl⟩
theorem nT : Fn prog 16 := ⟨_, func16, by kernel_rfl, rfl⟩
theorem RC : Fn prog 17 := ⟨_, func17, by kernel_rfl, rfl⟩
theorem WY : Fn prog 18 := ⟨_, func18, by kernel_rfl, rfl⟩
theorem kA : Fn prog 20 := ⟨_, func20, by kernel_rfl, rfl⟩
theorem NY : Fn prog 21 := ⟨_, func21, by kernel_rfl, rfl⟩
theorem OE : Fn prog 23 := ⟨_, func23, by kernel_rfl, rfl⟩
theorem LN : Fn prog 24 := ⟨_, func24, by kernel_rfl, rfl⟩
theorem TL : Fn prog 25 := ⟨_, func25, by kernel_rfl, rfl⟩
theorem XA : Fn prog 26 := ⟨_, func26, by kernel_rfl, rfl⟩
theorem XC : Fn prog 29 := ⟨_, func29, by kernel_rfl, rfl⟩
theorem KJ : Fn prog 31 := ⟨_, func31, by kernel_rfl, rfl⟩
theorem II : Fn prog 32 := ⟨_, func32, by kernel_rfl, rfl⟩
theorem pH : Fn prog 33 := ⟨_, func33, by kernel_rfl, rfl⟩
theorem pG : Fn prog 34 := ⟨_, func34, by kernel_rfl, rfl⟩
theorem XD : Fn prog 35 := ⟨_, func35, by kernel_rfl, rfl⟩
theorem KH : Fn prog 36 := ⟨_, func36, by kernel_rfl, rfl⟩
theorem IM : Fn prog 37 := ⟨_, func37, by kernel_rfl, rfl⟩
theorem JA : Fn prog 38 := ⟨_, func38, by kernel_rfl, rfl⟩
theorem bX : Fn prog 39 := ⟨_, func39, by kernel_rfl, rfl⟩
theorem GW : Fn prog 42 := ⟨_, func42, by kernel_rfl, rfl⟩
theorem RD : Fn prog 43 := ⟨_, func43, by kernel_rfl, rfl⟩
theorem TM : Fn prog 45 := ⟨_, func45, by kernel_rfl, rfl⟩
theorem eV : Fn prog 46 := ⟨_, func46, by kernel_rfl, rfl⟩
theorem IH : Fn prog 47 := ⟨_, func47, by kernel_rfl, rfl⟩
theorem pI : Fn prog 56 := ⟨_, func56, by kernel_rfl, rfl⟩
theorem IS : Fn prog 59 := ⟨_, func59, by kernel_rfl, rfl⟩
theorem RG : Fn prog 61 := ⟨_, func61, by kernel_rfl, rfl⟩
theorem LG : Fn prog 62 := ⟨_, func62, by kernel_rfl, rfl⟩
theorem nS : Fn prog 63 := ⟨_, func63, by kernel_rfl, rfl⟩
theorem pF : Fn prog 64 := ⟨_, func64, by kernel_rfl, rfl⟩
theorem YX : Fn prog 65 := ⟨_, func65, by kernel_rfl, rfl⟩
theorem KI : Fn prog 66 := ⟨_, func66, by kernel_rfl, rfl⟩
theorem MO : Fn prog 74 := ⟨_, func74, by kernel_rfl, rfl⟩
theorem MP : Fn prog 75 := ⟨_, func75, by kernel_rfl, rfl⟩
theorem eT : Fn prog 82 := ⟨_, func82, by kernel_rfl, rfl⟩
theorem aO : Fn prog 83 := ⟨_, func83, by kernel_rfl, rfl⟩
theorem FK : Fn prog 84 := ⟨_, func84, by kernel_rfl, rfl⟩
theorem JT : Fn prog 90 := ⟨_, func90, by kernel_rfl, rfl⟩
theorem pJ : Fn prog 93 := ⟨_, func93, by kernel_rfl, rfl⟩
theorem QE : Fn prog 94 := ⟨_, func94, by kernel_rfl, rfl⟩
theorem PB : Fn prog 95 := ⟨_, func95, by kernel_rfl, rfl⟩
theorem HY : Fn prog 101 := ⟨_, func101, by kernel_rfl, rfl⟩
theorem XE : Fn prog 104 := ⟨_, func104, by kernel_rfl, rfl⟩
theorem XB : Fn prog 107 := ⟨_, func107, by kernel_rfl, rfl⟩
theorem PE : Fn prog 109 := ⟨_, func109, by kernel_rfl, rfl⟩
theorem QF : Fn prog 116 := ⟨_, func116, by kernel_rfl, rfl⟩
theorem NB : Fn prog 117 := ⟨_, func117, by kernel_rfl, rfl⟩
theorem GY : Fn prog 118 := ⟨_, func118, by kernel_rfl, rfl⟩
theorem GV : Fn prog 141 := ⟨_, func141, by kernel_rfl, rfl⟩
theorem EW : Fn prog 142 := ⟨_, func142, by kernel_rfl, rfl⟩
theorem eU : Fn prog 152 := ⟨_, func152, by kernel_rfl, rfl⟩
theorem iC : Fn prog 157 := ⟨_, func157, by kernel_rfl, rfl⟩
theorem bY : Fn prog 175 := ⟨_, func175, by kernel_rfl, rfl⟩
end Go.Proofs.YtmppigbbkjepiaaGreatDoor
