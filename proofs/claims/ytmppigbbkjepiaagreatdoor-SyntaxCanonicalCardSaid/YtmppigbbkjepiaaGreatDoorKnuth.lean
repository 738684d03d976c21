/- Plain arithmetic of the school division: the digit that is guessed, multiplied and taken away, and put back. No program in sight. -/
import Derived.Test.YtmppigbbkjepiaaGreatDoorMem
namespace Go.Proofs.YtmppigbbkjepiaaGreatDoor.W
def JE (l : List Nat) (j k : Nat) : List Nat := (l.drop j).take k
theorem Rw {l : List Nat} (h : Wd l) (j k : Nat) : Wd (JE l j k) := NW (Np h j) k
theorem FS (l : List Nat) (j k : Nat) : val (JE l j (k + 1)) = val (JE l j k) + 4294967296 ^ k * gd l (j + k) := by
  unfold JE; rw [DG, aZ]
theorem aC (l : List Nat) (j : Nat) : JE l j 0 = [] := by unfold JE; simp
theorem lS {a b : List Nat} (j k : Nat) (h : ∀ i, j ≤ i → i < j + k → gd a i = gd b i) : val (JE a j k) = val (JE b j k) := by
  induction k with
  | zero => rw [aC, aC]
  | succ k ih => rw [FS, FS, ih (fun i e f => h i e Z), h _ Z Z]
theorem OR (l : List Nat) (j k x : Nat) (h : j + k < l.length) : val (JE (l.set (j + k) x) j (k + 1)) = val (JE l j k) + 4294967296 ^ k * x := by
  rw [FS, dV _ _ _ h]
  rw [lS (b := l) j k fun i f e => FG _ _ _ _ Z]
theorem QF {l : List Nat} (h : Wd l) (j k : Nat) : val (JE l j k) < 4294967296 ^ k := by
  have o := GA (Rw h j k)
  have e : (JE l j k).length ≤ k := by unfold JE; simp; omega
  have f := Nat.pow_le_pow_right (n := 4294967296) Z e
  omega
def YL (U V v1 XD q r : Nat) : Prop := q * v1 + r = XD ∧ U / V ≤ q
structure Tops (U V n un u1 u2 v1 v2 : Nat) : Prop where
  n2 : 2 ≤ n
  hu : ∃ low, low < 4294967296 ^ (n - 2) ∧ U = 4294967296 ^ (n - 2) * ((un * 4294967296 + u1) * 4294967296 + u2) + low
  hv : ∃ low, low < 4294967296 ^ (n - 2) ∧ V = 4294967296 ^ (n - 2) * (v1 * 4294967296 + v2) + low
  bun : un < 4294967296
  bu1 : u1 < 4294967296
  bu2 : u2 < 4294967296
  bv1 : v1 < 4294967296
  bv2 : v2 < 4294967296
  norm : 2147483648 ≤ v1
  lt : U < 4294967296 * V
section
variable {U V n un u1 u2 v1 v2 : Nat} (t : Tops U V n un u1 u2 v1 v2)
include t
theorem Tops.vpos : 0 < V := by
  obtain ⟨low, h, f⟩ := t.hv
  have := Nat.pow_pos (n := n - 2) (show 0 < 4294967296 by omega)
  have e := t.norm
  have : 0 < 4294967296 ^ (n - 2) * (v1 * 4294967296 + v2) := Nat.mul_pos this Z
  omega
theorem Tops.un_le : un ≤ v1 := by
  obtain ⟨l, v, u⟩ := t.hu
  obtain ⟨k, q, p⟩ := t.hv
  have f := t.lt
  rcases Nat.lt_or_ge v1 un with h | h
  · exfalso
    have o := Nat.pow_pos (n := n - 2) (show 0 < 4294967296 by omega)
    generalize 4294967296 ^ (n - 2) = P at *
    have e := t.bv2
    have z : P * ((un * 4294967296 + u1) * 4294967296 + u2) ≥ P * ((v1 + 1) * 4294967296 * 4294967296) := Nat.mul_le_mul_left _ Z
    have y : 4294967296 * V < 4294967296 * (P * (v1 * 4294967296 + v2 + 1)) := by rw [Nat.mul_add, Nat.mul_one]; omega
    have e3 : 4294967296 * (P * (v1 * 4294967296 + v2 + 1)) ≤ P * ((v1 + 1) * 4294967296 * 4294967296) := by
      rw [Nat.mul_left_comm]
      exact Nat.mul_le_mul_left _ Z
    omega
  · exact h
theorem Tops.qlt : U / V < 4294967296 := Nat.div_lt_of_lt_mul (by rw [Nat.mul_comm]; exact t.lt)
theorem Tops.start : YL U V v1 (un * 4294967296 + u1) ((un * 4294967296 + u1) / v1) ((un * 4294967296 + u1) % v1) := by
  refine ⟨by rw [Nat.mul_comm]; exact Nat.div_add_mod _ _, ?_⟩
  obtain ⟨l, z, y⟩ := t.hu
  obtain ⟨k, v, f⟩ := t.hv
  have u := t.norm
  rw [Nat.le_div_iff_mul_le Z]
  have o : U / V * V ≤ U := Nat.div_mul_le_self U V
  generalize U / V = q at *
  rcases Nat.lt_or_ge (un * 4294967296 + u1) (q * v1) with h | h
  · exfalso
    have p := Nat.pow_pos (n := n - 2) (show 0 < 4294967296 by omega)
    generalize 4294967296 ^ (n - 2) = P at *
    have e := t.bu2
    have C : U < P * ((un * 4294967296 + u1 + 1) * 4294967296) := by
      have : P * ((un * 4294967296 + u1) * 4294967296 + u2 + 1) ≤ P * ((un * 4294967296 + u1 + 1) * 4294967296) := Nat.mul_le_mul_left _ Z
      rw [Nat.mul_add, Nat.mul_one] at this
      omega
    have B : P * ((un * 4294967296 + u1 + 1) * 4294967296) ≤ P * (q * v1 * 4294967296) := Nat.mul_le_mul_left _ Z
    have e3 : P * (q * v1 * 4294967296) ≤ q * V := by
      rw [f]
      have : P * (q * v1 * 4294967296) = q * (P * (v1 * 4294967296)) := by grind
      rw [this]
      refine Nat.mul_le_mul_left _ ?_
      rw [Nat.mul_add P (v1 * 4294967296) v2]
      exact Nat.le_trans (Nat.le_add_right _ _) (Nat.le_add_right _ _)
    omega
  · exact h
theorem Tops.bound {q r : Nat} (g : YL U V v1 (un * 4294967296 + u1) q r) : q ≤ 4294967297 ∧ q * v2 < 18446744073709551616 := by
  have p := t.un_le
  have o := t.bu1
  have l := t.norm
  have k := g.1
  have f := t.bv2
  have e : q ≤ 4294967297 := by
    rcases Nat.lt_or_ge 4294967297 q with h | h
    · exfalso
      have : 4294967298 * v1 ≤ q * v1 := Nat.mul_le_mul_right _ h
      omega
    · exact h
  refine ⟨e, ?_⟩
  have : q * v2 ≤ 4294967297 * 4294967295 := Nat.mul_le_mul e Z
  omega
theorem Tops.lower {q r : Nat} (g : YL U V v1 (un * 4294967296 + u1) q r) (h : 4294967296 ≤ q ∨ r * 4294967296 + u2 < q * v2) :
    1 ≤ q ∧ YL U V v1 (un * 4294967296 + u1) (q - 1) (r + v1) := by
  have f := t.qlt
  have e : U / V < q := by
    rcases h with h | h
    · omega
    · obtain ⟨v, C, B⟩ := t.hu
      obtain ⟨u, z, k⟩ := t.hv
      rw [Nat.div_lt_iff_lt_mul t.vpos]
      have y := Nat.pow_pos (n := n - 2) (show 0 < 4294967296 by omega)
      generalize 4294967296 ^ (n - 2) = P at *
      have o : (un * 4294967296 + u1) * 4294967296 + u2 + 1 ≤ q * (v1 * 4294967296 + v2) := by
        rw [← g.1, Nat.mul_add, Nat.add_mul, Nat.mul_assoc]
        omega
      have l : P * ((un * 4294967296 + u1) * 4294967296 + u2 + 1) ≤ P * (q * (v1 * 4294967296 + v2)) := Nat.mul_le_mul_left _ o
      have F : P * (q * (v1 * 4294967296 + v2)) ≤ q * V := by
        rw [Nat.mul_left_comm, k]
        exact Nat.mul_le_mul_left _ (Nat.le_add_right _ _)
      rw [Nat.mul_add P _ 1, Nat.mul_one] at l
      omega
  have D : 0 < q := Nat.lt_of_le_of_lt (Nat.zero_le _) e
  obtain ⟨p, rfl⟩ : ∃ p, q = p + 1 := ⟨q - 1, by omega⟩
  refine ⟨by omega, ?_, Nat.le_of_lt_succ e⟩
  have := g.1
  rw [Nat.add_sub_cancel]
  rw [Nat.add_mul, Nat.one_mul] at this
  omega
theorem Tops.grown {q r : Nat} (g : YL U V v1 (un * 4294967296 + u1) q r) (h : 4294967296 ≤ r) : q < 4294967296 ∧ q * v2 ≤ r * 4294967296 + u2 := by
  have u := t.un_le
  have p := t.bu1
  have o := t.norm
  have l := g.1
  have k := t.bv2
  have f : q < 4294967296 := by
    rcases Nat.lt_or_ge q 4294967296 with e | e
    · exact e
    · exfalso
      have : 4294967296 * v1 ≤ q * v1 := Nat.mul_le_mul_right _ e
      omega
  refine ⟨f, ?_⟩
  have : q * v2 ≤ 4294967296 * 4294967296 := Nat.mul_le_mul Z Z
  omega
theorem Tops.good {q r : Nat} (g : YL U V v1 (un * 4294967296 + u1) q r) (hq : q < 4294967296) (h : q * v2 ≤ r * 4294967296 + u2) : q * V < U + V := by
  obtain ⟨o, y, v⟩ := t.hu
  obtain ⟨l, u, f⟩ := t.hv
  have p := t.norm
  have e := Nat.pow_pos (n := n - 2) (show 0 < 4294967296 by omega)
  generalize 4294967296 ^ (n - 2) = P at *
  have k : q * (v1 * 4294967296 + v2) ≤ (un * 4294967296 + u1) * 4294967296 + u2 := by
    rw [← g.1, Nat.mul_add, Nat.add_mul, Nat.mul_assoc]
    omega
  have B : q * V ≤ q * (P * (v1 * 4294967296 + v2) + P) := by rw [f]; exact Nat.mul_le_mul_left _ Z
  have z : q * (P * (v1 * 4294967296 + v2) + P) = P * (q * (v1 * 4294967296 + v2)) + P * q := by grind
  have e3 : P * (q * (v1 * 4294967296 + v2)) ≤ P * ((un * 4294967296 + u1) * 4294967296 + u2) := Nat.mul_le_mul_left _ k
  have e4 : P * q < P * (v1 * 4294967296 + v2) := Nat.mul_lt_mul_of_pos_left Z e
  omega
end
theorem xM {l v : List Nat} {j n : Nat} (hn : 2 ≤ n) (hwl : Wd l) (hwv : Wd v) (hv : v.length = n) (hnorm : 2147483648 ≤ gd v (n - 1)) (hlt : val (JE l j (n + 1)) < 4294967296 * val v) :
    Tops (val (JE l j (n + 1))) (val v) n (gd l (j + n)) (gd l (j + (n - 1))) (gd l (j + (n - 2))) (gd v (n - 1)) (gd v (n - 2)) := by
  obtain ⟨m, rfl⟩ : ∃ m, n = m + 2 := ⟨n - 2, by omega⟩
  rw [show m + 2 - 1 = m + 1 from rfl, show m + 2 - 2 = m from rfl] at *
  refine ⟨by omega, ⟨val (JE l j m), QF hwl j m, ?_⟩, ⟨val (v.take m), ?_, ?_⟩, EI hwl _, EI hwl _, EI hwl _, EI hwv _, EI hwv _, hnorm, hlt⟩
  · rw [show m + 2 - 2 = m from rfl, FS, FS, FS, Nat.pow_succ, Nat.pow_succ]
    grind
  · rw [show m + 2 - 2 = m from rfl]
    have := GA (NW hwv m)
    rw [List.length_take, Nat.min_eq_left Z] at this
    exact this
  · rw [show m + 2 - 2 = m from rfl, ← DO v (m + 2) Z, DG, DG, Nat.pow_succ]
    grind
theorem bG {U V q : Nat} (hV : 0 < V) (h1 : U / V ≤ q) (h2 : q * V < U + V) : (q * V ≤ U ∧ q = U / V) ∨ (U < q * V ∧ q = U / V + 1) := by
  have e : q < U / V + 1 + 1 := by
    have : q * V < (U / V + 1 + 1) * V := by
      have := Nat.lt_div_mul_add hV (a := U)
      rw [Nat.add_mul, Nat.add_mul]
      omega
    exact Nat.lt_of_mul_lt_mul_right this
  rcases Nat.lt_or_ge U (q * V) with h | h
  · right
    refine ⟨h, ?_⟩
    have : U / V < q := by rw [Nat.div_lt_iff_lt_mul hV]; exact h
    omega
  · left
    refine ⟨h, ?_⟩
    have : q ≤ U / V := by rw [Nat.le_div_iff_mul_le hV]; exact h
    omega
def MsInv (l v : List Nat) (q j k c b : Nat) (r : List Nat) : Prop :=
  r.length = l.length ∧ Wd r ∧ c < 4294967296 ∧ b ≤ 1 ∧ val (JE r j k) + q * val (v.take k) = val (JE l j k) + 4294967296 ^ k * (c + b) ∧ ∀ i, (i < j ∨ j + k ≤ i) → gd r i = gd l i
theorem MsInv.start {l : List Nat} (v : List Nat) (q j : Nat) (h : Wd l) : MsInv l v q j 0 0 0 l :=
  ⟨rfl, h, by omega, by omega, by simp [aC, val], fun _ _ => rfl⟩
theorem MsInv.step {l v r : List Nat} {q j k c b : Nat} (h : MsInv l v q j k c b r) (hj : j + k < l.length) (t x b' : Nat) (ht : t = q * gd v k + c) (ht2 : t < 18446744073709551616) (hx : x < 4294967296) (hb : b' ≤ 1)
    (he : x + t % 4294967296 + b = gd l (j + k) + 4294967296 * b') : MsInv l v q j (k + 1) (t / 4294967296) b' (r.set (j + k) x) := by
  obtain ⟨p, o, z, y, f, e⟩ := h
  refine ⟨by simpa using p, QX o _ _ hx, by omega, hb, ?_, fun i u => ?_⟩
  · rw [OR _ _ _ _ Z, FS, DG, Nat.pow_succ]
    have C : 4294967296 ^ k * t = 4294967296 ^ k * (t % 4294967296) + 4294967296 ^ k * 4294967296 * (t / 4294967296) := by
      rw [Nat.mul_assoc, ← Nat.mul_add, Nat.mod_add_div]
    have B : 4294967296 ^ k * t = q * (4294967296 ^ k * gd v k) + 4294967296 ^ k * c := by rw [ht]; grind
    have e3 := congrArg (4294967296 ^ k * ·) he
    simp only [Nat.mul_add] at e3 f ⊢
    rw [Nat.mul_assoc (4294967296 ^ k) 4294967296 b']
    omega
  · rw [FG _ _ _ _ Z]; exact e i Z
def PbInv (l v : List Nat) (j k c : Nat) (r : List Nat) : Prop :=
  r.length = l.length ∧ Wd r ∧ c ≤ 1 ∧ val (JE r j k) + 4294967296 ^ k * c = val (JE l j k) + val (v.take k) ∧ ∀ i, (i < j ∨ j + k ≤ i) → gd r i = gd l i
theorem PbInv.start {l : List Nat} (v : List Nat) (j : Nat) (h : Wd l) : PbInv l v j 0 0 l :=
  ⟨rfl, h, by omega, by simp [aC, val], fun _ _ => rfl⟩
theorem PbInv.step {l v r : List Nat} {j k c : Nat} (h : PbInv l v j k c r) (hj : j + k < l.length) (ha : gd l (j + k) < 4294967296) (hb : gd v k < 4294967296) (t : Nat) (ht : t = gd l (j + k) + gd v k + c) :
    PbInv l v j (k + 1) (t / 4294967296) (r.set (j + k) (t % 4294967296)) := by
  obtain ⟨o, f, u, q, e⟩ := h
  refine ⟨by simpa using o, QX f _ _ Z, by omega, ?_, fun i p => ?_⟩
  · rw [OR _ _ _ _ Z, FS, DG, Nat.pow_succ]
    have z : 4294967296 ^ k * t = 4294967296 ^ k * (t % 4294967296) + 4294967296 ^ k * 4294967296 * (t / 4294967296) := by
      rw [Nat.mul_assoc, ← Nat.mul_add, Nat.mod_add_div]
    have y : 4294967296 ^ k * t = 4294967296 ^ k * gd l (j + k) + 4294967296 ^ k * gd v k + 4294967296 ^ k * c := by rw [ht]; grind
    omega
  · rw [FG _ _ _ _ Z]; exact e i Z
def RY (l v : List Nat) (j n : Nat) (l' : List Nat) : Prop :=
  l'.length = l.length ∧ Wd l' ∧ val (JE l' j (n + 1)) = val (JE l j (n + 1)) % val v ∧ ∀ i, (i < j ∨ j + n + 1 ≤ i) → gd l' i = gd l i
theorem MsInv.right {l v r : List Nat} {q j n c b : Nat} (h : MsInv l v q j n c b r) (hn : v.length = n) (hj : j + n < l.length) (hd : val (JE l j (n + 1)) / val v ≤ q) (hg : q * val v < val (JE l j (n + 1)) + val v)
    (hv : 0 < val v) (hw : Wd v) (hle : c + b ≤ gd l (j + n)) : q = val (JE l j (n + 1)) / val v ∧ RY l v j n (r.set (j + n) (gd l (j + n) - (c + b))) ∧ gd l (j + n) - (c + b) = 0 := by
  obtain ⟨D, y, J, H, C, u⟩ := h
  rw [DO v n Z] at C
  have G := FS l j n
  have f := GA hw
  rw [hn] at f
  have t : 4294967296 ^ n * gd l (j + n) = 4294967296 ^ n * (gd l (j + n) - (c + b)) + 4294967296 ^ n * (c + b) := by
    rw [← Nat.mul_add]; congr 1; omega
  have o : val (JE (r.set (j + n) (gd l (j + n) - (c + b))) j (n + 1)) + q * val v = val (JE l j (n + 1)) := by
    rw [OR _ _ _ _ Z]; omega
  have p : q = val (JE l j (n + 1)) / val v := by
    rcases bG hv hd hg with ⟨_, h⟩ | ⟨h, _⟩
    · exact h
    · exfalso; omega
  have e : val (JE (r.set (j + n) (gd l (j + n) - (c + b))) j (n + 1)) = val (JE l j (n + 1)) % val v := by
    have := Nat.div_add_mod (val (JE l j (n + 1))) (val v)
    rw [← p, Nat.mul_comm] at this
    omega
  have k : gd l (j + n) - (c + b) < 4294967296 := by
    have B := EI y (j + n)
    rw [u (j + n) (.inr (Nat.le_refl _))] at B
    omega
  refine ⟨p, ⟨by simpa using D, QX y _ _ k, e, fun i F => ?_⟩, ?_⟩
  · rw [FG _ _ _ _ Z]; exact u i Z
  · have z := Nat.mod_lt (val (JE l j (n + 1))) hv
    rw [← e, OR _ _ _ _ Z] at z
    rcases Nat.eq_zero_or_pos (gd l (j + n) - (c + b)) with h | h
    · exact h
    · exfalso
      have : 4294967296 ^ n * 1 ≤ 4294967296 ^ n * (gd l (j + n) - (c + b)) := Nat.mul_le_mul_left _ h
      omega
theorem MsInv.wrong {l v r : List Nat} {q j n c b : Nat} (h : MsInv l v q j n c b r) (hn : v.length = n) (hd : val (JE l j (n + 1)) / val v ≤ q) (hg : q * val v < val (JE l j (n + 1)) + val v)
    (hv : 0 < val v) (hw : Wd v) (hlt : gd l (j + n) < c + b) : q = val (JE l j (n + 1)) / val v + 1 ∧ gd l (j + n) + 1 = c + b := by
  obtain ⟨B, k, z, y, f, u⟩ := h
  rw [DO v n Z] at f
  have t := FS l j n
  have e := GA hw
  rw [hn] at e
  have o := QF k j n
  have p : val (JE l j (n + 1)) < q * val v := by
    have : 4294967296 ^ n * (gd l (j + n) + 1) ≤ 4294967296 ^ n * (c + b) := Nat.mul_le_mul_left _ hlt
    rw [Nat.mul_add, Nat.mul_one] at this
    omega
  constructor
  · rcases bG hv hd hg with ⟨h, _⟩ | ⟨_, h⟩
    · exfalso; omega
    · exact h
  · rcases Nat.lt_or_ge (gd l (j + n) + 1) (c + b) with h | h
    · exfalso
      have : 4294967296 ^ n * (gd l (j + n) + 1 + 1) ≤ 4294967296 ^ n * (c + b) := Nat.mul_le_mul_left _ h
      rw [Nat.mul_add, Nat.mul_add, Nat.mul_one] at this
      omega
    · omega
theorem PbInv.done {l v r r0 : List Nat} {q j n c b c2 : Nat} (h : MsInv l v q j n c b r0) (hn : v.length = n) (hj : j + n < l.length) (hd : val (JE l j (n + 1)) / val v ≤ q) (hg : q * val v < val (JE l j (n + 1)) + val v)
    (hv : 0 < val v) (hw : Wd v) (hlt : gd l (j + n) < c + b) (hp : PbInv (r0.set (j + n) 4294967295) v j n c2 r) : c2 = 1 ∧ RY l v j n (r.set (j + n) 0) := by
  have e := h.wrong hn hd hg hv hw hlt
  obtain ⟨C, S, R, Q, B, z⟩ := h
  obtain ⟨G, t, F, p, D⟩ := hp
  rw [DO v n Z] at B p
  have P := FS l j n
  have o := GA hw
  rw [hn] at o
  have J := QF t j n
  have H : val (JE (r0.set (j + n) 4294967295) j n) = val (JE r0 j n) := lS j n fun i X U => FG _ _ _ _ Z
  rw [H] at p
  have T : 4294967296 ^ n * (c + b) = 4294967296 ^ n * gd l (j + n) + 4294967296 ^ n := by rw [← e.2, Nat.mul_add, Nat.mul_one]
  have y := Nat.div_add_mod (val (JE l j (n + 1))) (val v)
  have u : q * val v = val v * (val (JE l j (n + 1)) / val v) + val v := by rw [e.1, Nat.add_mul, Nat.one_mul, Nat.mul_comm]
  have L := Nat.mod_lt (val (JE l j (n + 1))) hv
  have e3 : val (JE r j n) + 4294967296 ^ n * c2 = 4294967296 ^ n + val (JE l j (n + 1)) % val v := by omega
  have k : c2 = 1 := by
    rcases Nat.le_one_iff_eq_zero_or_eq_one.1 F with h | h
    · exfalso; rw [h] at e3; omega
    · exact h
  refine ⟨k, ?_⟩
  have f : r.length = l.length := by rw [G]; simpa using C
  refine ⟨by simpa using f, QX t _ _ Z, ?_, fun i N => ?_⟩
  · rw [OR _ _ _ _ Z]
    rw [k] at e3
    omega
  · rw [FG _ _ _ _ Z, D i Z, FG _ _ _ _ Z]; exact z i Z
theorem lH (l : List Nat) (j k : Nat) (h : j + k ≤ l.length) : val l = val (l.take j) + 4294967296 ^ j * (val (JE l j k) + 4294967296 ^ k * val (l.drop (j + k))) := by
  have f := KU l j
  have e := KU (l.drop j) k
  rw [Nat.min_eq_left Z] at f
  rw [Nat.min_eq_left (by rw [List.length_drop]; omega), List.drop_drop] at e
  unfold JE
  rw [e, f]
theorem uH {a b : List Nat} (j : Nat) (h : ∀ i, i < j → gd a i = gd b i) : val (a.take j) = val (b.take j) := by
  induction j with
  | zero => rfl
  | succ j ih => rw [DG, DG, ih (fun i e => h i Z), h j Z]
theorem wE {a b : List Nat} (j : Nat) (hl : a.length = b.length) (h : ∀ i, j ≤ i → gd a i = gd b i) : a.drop j = b.drop j := by
  apply oX
  · simp [hl]
  · intro i _; rw [aZ, aZ]; exact h _ Z
def LdInv (v : List Nat) (U k : Nat) (l q : List Nat) : Prop :=
  Wd l ∧ Wd q ∧ val l + val v * val q = U ∧ val (l.drop k) < val v ∧ (∀ i, i < k → gd q i = 0) ∧ q.length + v.length = l.length ∧ k ≤ q.length
theorem LdInv.lt {v l q : List Nat} {U j : Nat} (h : LdInv v U (j + 1) l q) (hv : 0 < v.length) : val (JE l j (v.length + 1)) < 4294967296 * val v := by
  obtain ⟨k, z, y, u, t, p, o⟩ := h
  have e : val (JE l j (v.length + 1)) ≤ val (l.drop j) := by
    have := KU (l.drop j) (v.length + 1)
    unfold JE
    omega
  have B : val (l.drop j) = gd l j + 4294967296 * val (l.drop (j + 1)) := by
    have f : j < l.length := by omega
    rw [List.drop_eq_getElem_cons f, IV, QR l j f]
  have := EI k j
  omega
theorem LdInv.step {v l q l' : List Nat} {U j : Nat} (h : LdInv v U (j + 1) l q) (hw : Wd v) (hs : RY l v j v.length l') (hd : val (JE l j (v.length + 1)) / val v < 4294967296) :
    LdInv v U j l' (q.set j (val (JE l j (v.length + 1)) / val v)) := by
  obtain ⟨Q, J, H, P, z, N, L⟩ := h
  obtain ⟨F, D, t, p⟩ := hs
  have y := GA hw
  have G : j + (v.length + 1) ≤ l.length := by omega
  have k : val (l.drop (j + (v.length + 1))) = 0 := by
    have := KU (l.drop (j + 1)) v.length
    rw [List.length_drop, Nat.min_eq_left Z, List.drop_drop, show j + 1 + v.length = j + (v.length + 1) by omega] at this
    rcases Nat.eq_zero_or_pos (val (l.drop (j + (v.length + 1)))) with e | e
    · exact e
    · exfalso
      have : 4294967296 ^ v.length * 1 ≤ 4294967296 ^ v.length * val (l.drop (j + (v.length + 1))) := Nat.mul_le_mul_left _ e
      omega
  have f : val (l'.drop (j + (v.length + 1))) = 0 := by
    rw [wE (a := l') (b := l) _ F fun i u => p i Z]; exact k
  have C := lH l j (v.length + 1) G
  have B := lH l' j (v.length + 1) Z
  rw [k, Nat.mul_zero, Nat.add_zero] at C
  rw [f, Nat.mul_zero, Nat.add_zero, t, uH (a := l') (b := l) j fun i u => p i Z] at B
  have e3 := XB q j (val (JE l j (v.length + 1)) / val v) Z
  rw [z j Z, Nat.mul_zero, Nat.add_zero] at e3
  refine ⟨D, QX J _ _ hd, ?_, ?_, fun i u => ?_, by rw [List.length_set]; omega, by rw [List.length_set]; omega⟩
  · rw [e3, Nat.mul_add, ← H, C, B]
    have o := Nat.div_add_mod (val (JE l j (v.length + 1))) (val v)
    generalize val (JE l j (v.length + 1)) = S at *
    have e4 : val v * (4294967296 ^ j * (S / val v)) + 4294967296 ^ j * (S % val v) = 4294967296 ^ j * S := by
      rw [Nat.mul_left_comm, ← Nat.mul_add, o]
    omega
  · have e5 := KU (l'.drop j) (v.length + 1)
    rw [List.length_drop, Nat.min_eq_left Z, List.drop_drop, f, Nat.mul_zero, Nat.add_zero] at e5
    have e6 : (l'.drop j).take (v.length + 1) = JE l' j (v.length + 1) := rfl
    rw [e6, t] at e5
    rw [← e5]
    exact Nat.mod_lt _ Z
  · rw [FG _ _ _ _ Z]; exact z i Z
theorem LdInv.done {v l q : List Nat} {U : Nat} (h : LdInv v U 0 l q) (hw : Wd v) : val q = U / val v ∧ val (l.take v.length) = U % val v := by
  obtain ⟨C, B, p, f, z, y, u⟩ := h
  rw [List.drop_zero] at f
  have o := GA hw
  have e := KU l v.length
  rw [Nat.min_eq_left Z] at e
  have t : val (l.take v.length) = val l := by
    rcases Nat.eq_zero_or_pos (val (l.drop v.length)) with k | k
    · rw [k, Nat.mul_zero, Nat.add_zero] at e; exact e
    · exfalso
      have : 4294967296 ^ v.length * 1 ≤ 4294967296 ^ v.length * val (l.drop v.length) := Nat.mul_le_mul_left _ k
      omega
  constructor
  · rw [← p, Nat.add_comm, Nat.mul_add_div Z, Nat.div_eq_of_lt f, Nat.add_zero]
  · rw [t, ← p, Nat.add_comm, Nat.mul_add_mod, Nat.mod_eq_of_lt f]
theorem LdInv.start {A Bn n s m : Nat} {lu lw : List Nat} (hn : (CB Bn).length = n) (hn0 : 0 < n) (hm : (CB A).length + 1 = m + n) (hu : Wd lu) (hul : lu.length = m + n) (huv : val lu = A * 2 ^ s)
    (hw : Wd lw) (hwl : lw.length = n + 1) (hwv : val lw = Bn * 2 ^ s) (hs : s < 32) (hlo : 2147483648 ≤ gd (CB Bn) (n - 1) * 2 ^ s) (hhi : gd (CB Bn) (n - 1) * 2 ^ s + 2 ^ s ≤ 4294967296) :
    val (lw.take n) = Bn * 2 ^ s ∧ (lw.take n).length = n ∧ Wd (lw.take n) ∧ 2147483648 ≤ gd (lw.take n) (n - 1) ∧ LdInv (lw.take n) (A * 2 ^ s) m lu (List.replicate m 0) := by
  obtain ⟨k, rfl⟩ : ∃ k, n = k + 1 := ⟨n - 1, by omega⟩
  rw [Nat.add_sub_cancel] at hlo hhi ⊢
  have C := CK Bn
  have h : val (CB Bn) = val ((CB Bn).take k) + 4294967296 ^ k * gd (CB Bn) k := by
    rw [← DG, DO _ _ Z]
  rw [C] at h
  have f := GA (NW (FQ Bn) k)
  rw [List.length_take, Nat.min_eq_left Z] at f
  have v := Nat.two_pow_pos s
  have B : Bn * 2 ^ s < 4294967296 ^ (k + 1) := by
    rw [h, Nat.pow_succ]
    have o : (val ((CB Bn).take k) + 4294967296 ^ k * gd (CB Bn) k) * 2 ^ s < 4294967296 ^ k * (gd (CB Bn) k * 2 ^ s + 2 ^ s) := by
      rw [Nat.add_mul, Nat.mul_add, Nat.mul_assoc]
      have := Nat.mul_lt_mul_of_pos_right f v
      omega
    have J : 4294967296 ^ k * (gd (CB Bn) k * 2 ^ s + 2 ^ s) ≤ 4294967296 ^ k * 4294967296 := Nat.mul_le_mul_left _ hhi
    omega
  have y : 4294967296 ^ k * 2147483648 ≤ Bn * 2 ^ s := by
    rw [h, Nat.add_mul, Nat.mul_assoc]
    have := Nat.mul_le_mul_left (4294967296 ^ k) hlo
    omega
  have t : val (lw.take (k + 1)) = Bn * 2 ^ s := by
    have e := KU lw (k + 1)
    rw [Nat.min_eq_left Z, hwv] at e
    rcases Nat.eq_zero_or_pos (val (lw.drop (k + 1))) with o | o
    · rw [o, Nat.mul_zero, Nat.add_zero] at e; exact e
    · exfalso
      have : 4294967296 ^ (k + 1) * 1 ≤ 4294967296 ^ (k + 1) * val (lw.drop (k + 1)) := Nat.mul_le_mul_left _ o
      omega
  have l : (lw.take (k + 1)).length = k + 1 := by rw [List.length_take]; omega
  have q := NW hw (k + 1)
  refine ⟨t, l, q, ?_, hu, LT _, ?_, ?_, fun i _ => NO _ _, by rw [List.length_replicate, l, hul], by simp⟩
  · have e := DG lw k
    rw [t] at e
    rw [aY _ _ _ Z]
    have F := GA (NW hw k)
    rw [List.length_take, Nat.min_eq_left Z] at F
    rcases Nat.lt_or_ge (gd lw k) 2147483648 with u | u
    · exfalso
      have : 4294967296 ^ k * (gd lw k + 1) ≤ 4294967296 ^ k * 2147483648 := Nat.mul_le_mul_left _ u
      rw [Nat.mul_add, Nat.mul_one] at this
      omega
    · exact u
  · rw [KA, Nat.mul_zero, Nat.add_zero, huv]
  · rw [t]
    have e := KU lu m
    rw [Nat.min_eq_left Z, huv] at e
    have z := GA (FQ A)
    rw [CK, show (CB A).length = m + k by omega, Nat.pow_add] at z
    have p : 2 ^ s ≤ 2147483648 := Nat.pow_le_pow_right (n := 2) Z (show s ≤ 31 by omega)
    have H : A * 2 ^ s < 4294967296 ^ m * 4294967296 ^ k * 2 ^ s := Nat.mul_lt_mul_of_pos_right z v
    have G : 4294967296 ^ m * 4294967296 ^ k * 2 ^ s ≤ 4294967296 ^ m * (Bn * 2 ^ s) := by
      rw [Nat.mul_assoc]
      refine Nat.mul_le_mul_left _ ?_
      have := Nat.mul_le_mul_left (4294967296 ^ k) p
      omega
    have D : 4294967296 ^ m * val (lu.drop m) < 4294967296 ^ m * (Bn * 2 ^ s) := by omega
    exact Nat.lt_of_mul_lt_mul_left D
theorem Bv (A Bn s : Nat) : A * 2 ^ s / (Bn * 2 ^ s) = A / Bn := Nat.mul_div_mul_right A Bn (Nat.two_pow_pos s)
theorem Bu (A Bn s : Nat) : A * 2 ^ s % (Bn * 2 ^ s) / 2 ^ s = A % Bn := by
  rw [Nat.mul_mod_mul_right, Nat.mul_div_cancel _ (Nat.two_pow_pos s)]
end Go.Proofs.YtmppigbbkjepiaaGreatDoor.W
