/- Helping facts of Knuth; no other conditions. -/
import Derived.Test.YtmppigbbkjepiaaGreatDoorApi
namespace Go.Proofs.YtmppigbbkjepiaaGreatDoor.W
theorem Zo6 {p : Prop} (h : p := by
 rw [Nat.mul_add, Nat.mul_one] at this
 omega
 ) : p := h
def LB (l : List Nat) (j k : Nat) : List Nat := (l.drop j).take k
theorem D4 {l : List Nat} (h : Wd l) (j k : Nat) : Wd (LB l j k) := QG (Xa h j) k
theorem GU (l : List Nat) (j k : Nat) : val (LB l j (k + 1)) = val (LB l j k) + 4294967296 ^ k * gd l (j + k) := by
 unfold LB; rw [DQ, gN]
theorem fF (l : List Nat) (j : Nat) : LB l j 0 = [] := by unfold LB; simp
theorem rN {a b : List Nat} (j k : Nat) (h : ∀ i, j <= i -> i < j + k -> gd a i = gd b i) : val (LB a j k) = val (LB b j k) := by
 induction k with
 | zero => rw [fF, fF]
 | succ k ih => rw [GU, GU, ih (fun i e f => h i e AA), h _ AA AA]
theorem RT (l : List Nat) (j k x : Nat) (h : j + k < l.length) : val (LB (l.set (j + k) x) j (k + 1)) = val (LB l j k) + 4294967296 ^ k * x := by
 rw [GU, kE _ _ _ h]
 rw [rN (b := l) j k fun i f e => GL _ _ _ _ AA]
theorem UD {l : List Nat} (h : Wd l) (j k : Nat) : val (LB l j k) < 4294967296 ^ k := by
 have o := GV (D4 h j k)
 have e : (LB l j k).length <= k := by unfold LB; simp; omega
 have f := Nat.pow_le_pow_right (n := 4294967296) AA e
 omega
def cV (U V v1 bJ q r : Nat) : Prop := q * v1 + r = bJ /\ U / V <= q
structure Tops (U V n un u1 u2 v1 v2 : Nat) : Prop where
 n2 : 2 <= n
 hu : ∃ low, low < 4294967296 ^ (n - 2) /\ U = 4294967296 ^ (n - 2) * ((un * 4294967296 + u1) * 4294967296 + u2) + low
 hv : ∃ low, low < 4294967296 ^ (n - 2) /\ V = 4294967296 ^ (n - 2) * (v1 * 4294967296 + v2) + low
 bun : un < 4294967296
 bu1 : u1 < 4294967296
 bu2 : u2 < 4294967296
 bv1 : v1 < 4294967296
 bv2 : v2 < 4294967296
 norm : 2147483648 <= v1
 lt : U < 4294967296 * V
section
variable {U V n un u1 u2 v1 v2 : Nat} (t : Tops U V n un u1 u2 v1 v2)
include t
theorem Tops.vpos : 0 < V := by
 obtain ⟨low, h, f⟩ := t.hv
 have := Nat.pow_pos (n := n - 2) (show 0 < 4294967296 by omega)
 have e := t.norm
 have : 0 < 4294967296 ^ (n - 2) * (v1 * 4294967296 + v2) := Nat.mul_pos this AA
 omega
theorem Tops.un_le : un <= v1 := by
 obtain ⟨l, v, u⟩ := t.hu
 obtain ⟨k, q, p⟩ := t.hv
 have f := t.lt
 rcases Nat.lt_or_ge v1 un with h | h
 . exfalso
   have o := Nat.pow_pos (n := n - 2) (show 0 < 4294967296 by omega)
   generalize 4294967296 ^ (n - 2) = P at *
   have e := t.bv2
   have e1 : P * ((un * 4294967296 + u1) * 4294967296 + u2) >= P * ((v1 + 1) * 4294967296 * 4294967296) := Nat.mul_le_mul_left _ AA
   have e2 : 4294967296 * V < 4294967296 * (P * (v1 * 4294967296 + v2 + 1)) := by rw [Nat.mul_add, Nat.mul_one]; omega
   have e3 : 4294967296 * (P * (v1 * 4294967296 + v2 + 1)) <= P * ((v1 + 1) * 4294967296 * 4294967296) := by
    rw [Nat.mul_left_comm]
    exact Nat.mul_le_mul_left _ AA
   omega
 exact h
theorem Tops.qlt : U / V < 4294967296 := Nat.div_lt_of_lt_mul (by rw [Nat.mul_comm]; exact t.lt)
theorem Tops.start : cV U V v1 (un * 4294967296 + u1) ((un * 4294967296 + u1) / v1) ((un * 4294967296 + u1) % v1) := by
 refine ⟨by rw [Nat.mul_comm]; exact Nat.div_add_mod _ _, ?_⟩
 obtain ⟨l, B, y⟩ := t.hu
 obtain ⟨k, v, f⟩ := t.hv
 have u := t.norm
 rw [Nat.le_div_iff_mul_le AA]
 have o : U / V * V <= U := Nat.div_mul_le_self U V
 generalize U / V = q at *
 rcases Nat.lt_or_ge (un * 4294967296 + u1) (q * v1) with h | h
 . exfalso
   have p := Nat.pow_pos (n := n - 2) (show 0 < 4294967296 by omega)
   generalize 4294967296 ^ (n - 2) = P at *
   have e := t.bu2
   have e1 : U < P * ((un * 4294967296 + u1 + 1) * 4294967296) := by
    have : P * ((un * 4294967296 + u1) * 4294967296 + u2 + 1) <= P * ((un * 4294967296 + u1 + 1) * 4294967296) := Nat.mul_le_mul_left _ AA
    exact Zo6
   have e2 : P * ((un * 4294967296 + u1 + 1) * 4294967296) <= P * (q * v1 * 4294967296) := Nat.mul_le_mul_left _ AA
   have e3 : P * (q * v1 * 4294967296) <= q * V := by
    rw [f]
    have : P * (q * v1 * 4294967296) = q * (P * (v1 * 4294967296)) := by grind
    rw [this]
    refine Nat.mul_le_mul_left _ ?_
    rw [Nat.mul_add P (v1 * 4294967296) v2]
    exact Nat.le_trans (Nat.le_add_right _ _) (Nat.le_add_right _ _)
   omega
 exact h
theorem Tops.bound {q r : Nat} (g : cV U V v1 (un * 4294967296 + u1) q r) : q <= 4294967297 /\ q * v2 < 18446744073709551616 := by
 have p := t.un_le
 have o := t.bu1
 have l := t.norm
 have k := g.1
 have f := t.bv2
 have e : q <= 4294967297 := by
  rcases Nat.lt_or_ge 4294967297 q with h | h
  . exfalso
    have : 4294967298 * v1 <= q * v1 := Nat.mul_le_mul_right _ h
    omega
  exact h
 refine ⟨e, ?_⟩
 have : q * v2 <= 4294967297 * 4294967295 := Nat.mul_le_mul e AA
 omega
theorem Tops.lower {q r : Nat} (g : cV U V v1 (un * 4294967296 + u1) q r) (h : 4294967296 <= q ∨ r * 4294967296 + u2 < q * v2) :
 1 <= q /\ cV U V v1 (un * 4294967296 + u1) (q - 1) (r + v1) := by
 have f := t.qlt
 have e : U / V < q := by
  rcases h with h | h
  . omega
  obtain ⟨o, B, y⟩ := t.hu
  obtain ⟨l, v, k⟩ := t.hv
  rw [Nat.div_lt_iff_lt_mul t.vpos]
  have u := Nat.pow_pos (n := n - 2) (show 0 < 4294967296 by omega)
  generalize 4294967296 ^ (n - 2) = P at *
  have e0 : (un * 4294967296 + u1) * 4294967296 + u2 + 1 <= q * (v1 * 4294967296 + v2) := by
   rw [<- g.1, Nat.mul_add, Nat.add_mul, Nat.mul_assoc]
   omega
  have e1 : P * ((un * 4294967296 + u1) * 4294967296 + u2 + 1) <= P * (q * (v1 * 4294967296 + v2)) := Nat.mul_le_mul_left _ e0
  have e2 : P * (q * (v1 * 4294967296 + v2)) <= q * V := by
   rw [Nat.mul_left_comm, k]
   exact Nat.mul_le_mul_left _ (Nat.le_add_right _ _)
  rw [Nat.mul_add P _ 1, Nat.mul_one] at e1
  omega
 have C : 0 < q := Nat.lt_of_le_of_lt (Nat.zero_le _) e
 obtain ⟨p, rfl⟩ : ∃ p, q = p + 1 := ⟨q - 1, by omega⟩
 refine ⟨by omega, ?_, Nat.le_of_lt_succ e⟩
 have := g.1
 rw [Nat.add_sub_cancel]
 rw [Nat.add_mul, Nat.one_mul] at this
 omega
theorem Tops.grown {q r : Nat} (g : cV U V v1 (un * 4294967296 + u1) q r) (h : 4294967296 <= r) : q < 4294967296 /\ q * v2 <= r * 4294967296 + u2 := by
 have u := t.un_le
 have p := t.bu1
 have o := t.norm
 have l := g.1
 have k := t.bv2
 have f : q < 4294967296 := by
  rcases Nat.lt_or_ge q 4294967296 with e | e
  . exact e
  exfalso
  have : 4294967296 * v1 <= q * v1 := Nat.mul_le_mul_right _ e
  omega
 refine ⟨f, ?_⟩
 have : q * v2 <= 4294967296 * 4294967296 := Nat.mul_le_mul AA AA
 omega
theorem Tops.good {q r : Nat} (g : cV U V v1 (un * 4294967296 + u1) q r) (hq : q < 4294967296) (h : q * v2 <= r * 4294967296 + u2) : q * V < U + V := by
 obtain ⟨l, v, u⟩ := t.hu
 obtain ⟨k, p, f⟩ := t.hv
 have o := t.norm
 have e := Nat.pow_pos (n := n - 2) (show 0 < 4294967296 by omega)
 generalize 4294967296 ^ (n - 2) = P at *
 have e0 : q * (v1 * 4294967296 + v2) <= (un * 4294967296 + u1) * 4294967296 + u2 := by
  rw [<- g.1, Nat.mul_add, Nat.add_mul, Nat.mul_assoc]
  omega
 have e1 : q * V <= q * (P * (v1 * 4294967296 + v2) + P) := by rw [f]; exact Nat.mul_le_mul_left _ AA
 have e2 : q * (P * (v1 * 4294967296 + v2) + P) = P * (q * (v1 * 4294967296 + v2)) + P * q := by grind
 have e3 : P * (q * (v1 * 4294967296 + v2)) <= P * ((un * 4294967296 + u1) * 4294967296 + u2) := Nat.mul_le_mul_left _ e0
 have e4 : P * q < P * (v1 * 4294967296 + v2) := Nat.mul_lt_mul_of_pos_left AA e
 omega
end
theorem Em {l v : List Nat} {j n : Nat} (hn : 2 <= n) (hwl : Wd l) (hwv : Wd v) (hv : v.length = n) (hnorm : 2147483648 <= gd v (n - 1)) (hlt : val (LB l j (n + 1)) < 4294967296 * val v) :
 Tops (val (LB l j (n + 1))) (val v) n (gd l (j + n)) (gd l (j + (n - 1))) (gd l (j + (n - 2))) (gd v (n - 1)) (gd v (n - 2)) := by
 obtain ⟨m, rfl⟩ : ∃ m, n = m + 2 := ⟨n - 2, by omega⟩
 rw [show m + 2 - 1 = m + 1 from rfl, show m + 2 - 2 = m from rfl] at *
 refine ⟨by omega, ⟨val (LB l j m), UD hwl j m, ?_⟩, ⟨val (v.take m), ?_, ?_⟩, FL hwl _, FL hwl _, FL hwl _, FL hwv _, FL hwv _, hnorm, hlt⟩
 . rw [show m + 2 - 2 = m from rfl, GU, GU, GU, Nat.pow_succ, Nat.pow_succ]
   grind
 . rw [show m + 2 - 2 = m from rfl]
   have := GV (QG hwv m)
   rw [List.length_take, Nat.min_eq_left AA] at this
   exact this
 rw [show m + 2 - 2 = m from rfl, <- DX v (m + 2) AA, DQ, DQ, Nat.pow_succ]
 grind
theorem gX {U V q : Nat} (hV : 0 < V) (h1 : U / V <= q) (h2 : q * V < U + V) : (q * V <= U /\ q = U / V) ∨ (U < q * V /\ q = U / V + 1) := by
 have e : q < U / V + 1 + 1 := by
  have : q * V < (U / V + 1 + 1) * V := by
   have := Nat.lt_div_mul_add hV (a := U)
   rw [Nat.add_mul, Nat.add_mul]
   omega
  exact Nat.lt_of_mul_lt_mul_right this
 rcases Nat.lt_or_ge U (q * V) with h | h
 . right
   refine ⟨h, ?_⟩
   have : U / V < q := by rw [Nat.div_lt_iff_lt_mul hV]; exact h
   omega
 left
 refine ⟨h, ?_⟩
 have : q <= U / V := by rw [Nat.le_div_iff_mul_le hV]; exact h
 omega
def MsInv (l v : List Nat) (q j k c b : Nat) (r : List Nat) : Prop :=
 r.length = l.length /\ Wd r /\ c < 4294967296 /\ b <= 1 /\ val (LB r j k) + q * val (v.take k) = val (LB l j k) + 4294967296 ^ k * (c + b) /\ ∀ i, (i < j ∨ j + k <= i) -> gd r i = gd l i
theorem MsInv.start {l : List Nat} (v : List Nat) (q j : Nat) (h : Wd l) : MsInv l v q j 0 0 0 l :=
 ⟨rfl, h, by omega, by omega, by simp [fF, val], fun _ _ => rfl⟩
theorem MsInv.step {l v r : List Nat} {q j k c b : Nat} (h : MsInv l v q j k c b r) (hj : j + k < l.length) (t x b' : Nat) (ht : t = q * gd v k + c) (ht2 : t < 18446744073709551616) (hx : x < 4294967296) (hb : b' <= 1)
 (he : x + t % 4294967296 + b = gd l (j + k) + 4294967296 * b') : MsInv l v q j (k + 1) (t / 4294967296) b' (r.set (j + k) x) := by
 obtain ⟨p, o, B, y, f, e⟩ := h
 refine ⟨by simpa using p, VF o _ _ hx, by omega, hb, ?_, fun i u => ?_⟩
 . rw [RT _ _ _ _ AA, GU, DQ, Nat.pow_succ]
   have e1 : 4294967296 ^ k * t = 4294967296 ^ k * (t % 4294967296) + 4294967296 ^ k * 4294967296 * (t / 4294967296) := by
    rw [Nat.mul_assoc, <- Nat.mul_add, Nat.mod_add_div]
   have e2 : 4294967296 ^ k * t = q * (4294967296 ^ k * gd v k) + 4294967296 ^ k * c := by rw [ht]; grind
   have e3 := congrArg (4294967296 ^ k * ·) he
   simp only [Nat.mul_add] at e3 f ⊢
   rw [Nat.mul_assoc (4294967296 ^ k) 4294967296 b']
   omega
 rw [GL _ _ _ _ AA]; exact e i AA
def PbInv (l v : List Nat) (j k c : Nat) (r : List Nat) : Prop :=
 r.length = l.length /\ Wd r /\ c <= 1 /\ val (LB r j k) + 4294967296 ^ k * c = val (LB l j k) + val (v.take k) /\ ∀ i, (i < j ∨ j + k <= i) -> gd r i = gd l i
theorem PbInv.start {l : List Nat} (v : List Nat) (j : Nat) (h : Wd l) : PbInv l v j 0 0 l :=
 ⟨rfl, h, by omega, by simp [fF, val], fun _ _ => rfl⟩
theorem PbInv.step {l v r : List Nat} {j k c : Nat} (h : PbInv l v j k c r) (hj : j + k < l.length) (ha : gd l (j + k) < 4294967296) (hb : gd v k < 4294967296) (t : Nat) (ht : t = gd l (j + k) + gd v k + c) :
 PbInv l v j (k + 1) (t / 4294967296) (r.set (j + k) (t % 4294967296)) := by
 obtain ⟨o, f, u, q, e⟩ := h
 refine ⟨by simpa using o, VF f _ _ AA, by omega, ?_, fun i p => ?_⟩
 . rw [RT _ _ _ _ AA, GU, DQ, Nat.pow_succ]
   have e1 : 4294967296 ^ k * t = 4294967296 ^ k * (t % 4294967296) + 4294967296 ^ k * 4294967296 * (t / 4294967296) := by
    rw [Nat.mul_assoc, <- Nat.mul_add, Nat.mod_add_div]
   have e2 : 4294967296 ^ k * t = 4294967296 ^ k * gd l (j + k) + 4294967296 ^ k * gd v k + 4294967296 ^ k * c := by rw [ht]; grind
   omega
 rw [GL _ _ _ _ AA]; exact e i AA
def WG (l v : List Nat) (j n : Nat) (l' : List Nat) : Prop :=
 l'.length = l.length /\ Wd l' /\ val (LB l' j (n + 1)) = val (LB l j (n + 1)) % val v /\ ∀ i, (i < j ∨ j + n + 1 <= i) -> gd l' i = gd l i
theorem MsInv.right {l v r : List Nat} {q j n c b : Nat} (h : MsInv l v q j n c b r) (hn : v.length = n) (hj : j + n < l.length) (hd : val (LB l j (n + 1)) / val v <= q) (hg : q * val v < val (LB l j (n + 1)) + val v)
 (hv : 0 < val v) (hw : Wd v) (hle : c + b <= gd l (j + n)) : q = val (LB l j (n + 1)) / val v /\ WG l v j n (r.set (j + n) (gd l (j + n) - (c + b))) /\ gd l (j + n) - (c + b) = 0 := by
 obtain ⟨F, y, J, I, D, u⟩ := h
 rw [DX v n AA] at D
 have H := GU l j n
 have f := GV hw
 rw [hn] at f
 have t : 4294967296 ^ n * gd l (j + n) = 4294967296 ^ n * (gd l (j + n) - (c + b)) + 4294967296 ^ n * (c + b) := by
  rw [<- Nat.mul_add]; congr 1; omega
 have o : val (LB (r.set (j + n) (gd l (j + n) - (c + b))) j (n + 1)) + q * val v = val (LB l j (n + 1)) := by
  rw [RT _ _ _ _ AA]; omega
 have p : q = val (LB l j (n + 1)) / val v := by
  rcases gX hv hd hg with ⟨_, h⟩ | ⟨h, _⟩
  . exact h
  exfalso; omega
 have e : val (LB (r.set (j + n) (gd l (j + n) - (c + b))) j (n + 1)) = val (LB l j (n + 1)) % val v := by
  have := Nat.div_add_mod (val (LB l j (n + 1))) (val v)
  rw [<- p, Nat.mul_comm] at this
  omega
 have k : gd l (j + n) - (c + b) < 4294967296 := by
  have C := FL y (j + n)
  rw [u (j + n) (.inr (Nat.le_refl _))] at C
  omega
 refine ⟨p, ⟨by simpa using F, VF y _ _ k, e, fun i G => ?_⟩, ?_⟩
 . rw [GL _ _ _ _ AA]; exact u i AA
 have B := Nat.mod_lt (val (LB l j (n + 1))) hv
 rw [<- e, RT _ _ _ _ AA] at B
 rcases Nat.eq_zero_or_pos (gd l (j + n) - (c + b)) with h | h
 . exact h
 exfalso
 have : 4294967296 ^ n * 1 <= 4294967296 ^ n * (gd l (j + n) - (c + b)) := Nat.mul_le_mul_left _ h
 omega
theorem MsInv.wrong {l v r : List Nat} {q j n c b : Nat} (h : MsInv l v q j n c b r) (hn : v.length = n) (hd : val (LB l j (n + 1)) / val v <= q) (hg : q * val v < val (LB l j (n + 1)) + val v)
 (hv : 0 < val v) (hw : Wd v) (hlt : gd l (j + n) < c + b) : q = val (LB l j (n + 1)) / val v + 1 /\ gd l (j + n) + 1 = c + b := by
 obtain ⟨C, k, B, y, f, u⟩ := h
 rw [DX v n AA] at f
 have t := GU l j n
 have e := GV hw
 rw [hn] at e
 have o := UD k j n
 have p : val (LB l j (n + 1)) < q * val v := by
  have : 4294967296 ^ n * (gd l (j + n) + 1) <= 4294967296 ^ n * (c + b) := Nat.mul_le_mul_left _ hlt
  exact Zo6
 constructor
 . rcases gX hv hd hg with ⟨h, _⟩ | ⟨_, h⟩
   . exfalso; omega
   exact h
 rcases Nat.lt_or_ge (gd l (j + n) + 1) (c + b) with h | h
 . exfalso
   have : 4294967296 ^ n * (gd l (j + n) + 1 + 1) <= 4294967296 ^ n * (c + b) := Nat.mul_le_mul_left _ h
   rw [Nat.mul_add, Nat.mul_add, Nat.mul_one] at this
   omega
 omega
theorem PbInv.done {l v r r0 : List Nat} {q j n c b c2 : Nat} (h : MsInv l v q j n c b r0) (hn : v.length = n) (hj : j + n < l.length) (hd : val (LB l j (n + 1)) / val v <= q) (hg : q * val v < val (LB l j (n + 1)) + val v)
 (hv : 0 < val v) (hw : Wd v) (hlt : gd l (j + n) < c + b) (hp : PbInv (r0.set (j + n) 4294967295) v j n c2 r) : c2 = 1 /\ WG l v j n (r.set (j + n) 0) := by
 have e := h.wrong hn hd hg hv hw hlt
 obtain ⟨D, R, Q, P, C, B⟩ := h
 obtain ⟨H, t, G, p, F⟩ := hp
 rw [DX v n AA] at C p
 have N := GU l j n
 have o := GV hw
 rw [hn] at o
 have I := UD t j n
 have e1 : val (LB (r0.set (j + n) 4294967295) j n) = val (LB r0 j n) := rN j n fun i T S => GL _ _ _ _ AA
 rw [e1] at p
 have e2 : 4294967296 ^ n * (c + b) = 4294967296 ^ n * gd l (j + n) + 4294967296 ^ n := by rw [<- e.2, Nat.mul_add, Nat.mul_one]
 have y := Nat.div_add_mod (val (LB l j (n + 1))) (val v)
 have u : q * val v = val v * (val (LB l j (n + 1)) / val v) + val v := by rw [e.1, Nat.add_mul, Nat.one_mul, Nat.mul_comm]
 have J := Nat.mod_lt (val (LB l j (n + 1))) hv
 have e3 : val (LB r j n) + 4294967296 ^ n * c2 = 4294967296 ^ n + val (LB l j (n + 1)) % val v := by omega
 have k : c2 = 1 := by
  rcases Nat.le_one_iff_eq_zero_or_eq_one.1 G with h | h
  . exfalso; rw [h] at e3; omega
  exact h
 refine ⟨k, ?_⟩
 have f : r.length = l.length := by rw [H]; simpa using D
 refine ⟨by simpa using f, VF t _ _ AA, ?_, fun i L => ?_⟩
 . rw [RT _ _ _ _ AA]
   rw [k] at e3
   omega
 rw [GL _ _ _ _ AA, F i AA, GL _ _ _ _ AA]; exact B i AA
theorem qZ (l : List Nat) (j k : Nat) (h : j + k <= l.length) : val l = val (l.take j) + 4294967296 ^ j * (val (LB l j k) + 4294967296 ^ k * val (l.drop (j + k))) := by
 have f := ND l j
 have e := ND (l.drop j) k
 rw [Nat.min_eq_left AA] at f
 rw [Nat.min_eq_left (by rw [List.length_drop]; omega), List.drop_drop] at e
 unfold LB
 rw [e, f]
theorem Bj {a b : List Nat} (j : Nat) (h : ∀ i, i < j -> gd a i = gd b i) : val (a.take j) = val (b.take j) := by
 induction j with
 | zero => rfl
 | succ j ih => rw [DQ, DQ, ih (fun i e => h i AA), h j AA]
theorem Di {a b : List Nat} (j : Nat) (hl : a.length = b.length) (h : ∀ i, j <= i -> gd a i = gd b i) : a.drop j = b.drop j := by
 apply uZ
 . simp [hl]
 intro i _; rw [gN, gN]; exact h _ AA
def LdInv (v : List Nat) (U k : Nat) (l q : List Nat) : Prop :=
 Wd l /\ Wd q /\ val l + val v * val q = U /\ val (l.drop k) < val v /\ (∀ i, i < k -> gd q i = 0) /\ q.length + v.length = l.length /\ k <= q.length
theorem LdInv.lt {v l q : List Nat} {U j : Nat} (h : LdInv v U (j + 1) l q) (hv : 0 < v.length) : val (LB l j (v.length + 1)) < 4294967296 * val v := by
 obtain ⟨k, B, y, u, t, p, o⟩ := h
 have e : val (LB l j (v.length + 1)) <= val (l.drop j) := by
  have := ND (l.drop j) (v.length + 1)
  unfold LB
  omega
 have e2 : val (l.drop j) = gd l j + 4294967296 * val (l.drop (j + 1)) := by
  have f : j < l.length := by omega
  rw [List.drop_eq_getElem_cons f, KJ, UU l j f]
 have := FL k j
 omega
theorem LdInv.step {v l q l' : List Nat} {U j : Nat} (h : LdInv v U (j + 1) l q) (hw : Wd v) (hs : WG l v j v.length l') (hd : val (LB l j (v.length + 1)) / val v < 4294967296) :
 LdInv v U j l' (q.set j (val (LB l j (v.length + 1)) / val v)) := by
 obtain ⟨N, H, G, L, B, J, I⟩ := h
 obtain ⟨D, C, t, p⟩ := hs
 have y := GV hw
 have F : j + (v.length + 1) <= l.length := by omega
 have k : val (l.drop (j + (v.length + 1))) = 0 := by
  have := ND (l.drop (j + 1)) v.length
  rw [List.length_drop, Nat.min_eq_left AA, List.drop_drop, show j + 1 + v.length = j + (v.length + 1) by omega] at this
  rcases Nat.eq_zero_or_pos (val (l.drop (j + (v.length + 1)))) with e | e
  . exact e
  exfalso
  have : 4294967296 ^ v.length * 1 <= 4294967296 ^ v.length * val (l.drop (j + (v.length + 1))) := Nat.mul_le_mul_left _ e
  omega
 have f : val (l'.drop (j + (v.length + 1))) = 0 := by
  rw [Di (a := l') (b := l) _ D fun i u => p i AA]; exact k
 have e1 := qZ l j (v.length + 1) F
 have e2 := qZ l' j (v.length + 1) AA
 rw [k, Nat.mul_zero, Nat.add_zero] at e1
 rw [f, Nat.mul_zero, Nat.add_zero, t, Bj (a := l') (b := l) j fun i u => p i AA] at e2
 have e3 := bH q j (val (LB l j (v.length + 1)) / val v) AA
 rw [B j AA, Nat.mul_zero, Nat.add_zero] at e3
 refine ⟨C, VF H _ _ hd, ?_, ?_, fun i u => ?_, by rw [List.length_set]; omega, by rw [List.length_set]; omega⟩
 . rw [e3, Nat.mul_add, <- G, e1, e2]
   have o := Nat.div_add_mod (val (LB l j (v.length + 1))) (val v)
   generalize val (LB l j (v.length + 1)) = S at *
   have e4 : val v * (4294967296 ^ j * (S / val v)) + 4294967296 ^ j * (S % val v) = 4294967296 ^ j * S := by
    rw [Nat.mul_left_comm, <- Nat.mul_add, o]
   omega
 . have e5 := ND (l'.drop j) (v.length + 1)
   rw [List.length_drop, Nat.min_eq_left AA, List.drop_drop, f, Nat.mul_zero, Nat.add_zero] at e5
   have e6 : (l'.drop j).take (v.length + 1) = LB l' j (v.length + 1) := rfl
   rw [e6, t] at e5
   rw [<- e5]
   exact Nat.mod_lt _ AA
 rw [GL _ _ _ _ AA]; exact B i AA
theorem LdInv.done {v l q : List Nat} {U : Nat} (h : LdInv v U 0 l q) (hw : Wd v) : val q = U / val v /\ val (l.take v.length) = U % val v := by
 obtain ⟨B, y, o, f, u, t, p⟩ := h
 rw [List.drop_zero] at f
 have k := GV hw
 have e := ND l v.length
 rw [Nat.min_eq_left AA] at e
 have e0 : val (l.take v.length) = val l := by
  rcases Nat.eq_zero_or_pos (val (l.drop v.length)) with e1 | e1
  . rw [e1, Nat.mul_zero, Nat.add_zero] at e; exact e
  exfalso
  have : 4294967296 ^ v.length * 1 <= 4294967296 ^ v.length * val (l.drop v.length) := Nat.mul_le_mul_left _ e1
  omega
 constructor
 . rw [<- o, Nat.add_comm, Nat.mul_add_div AA, Nat.div_eq_of_lt f, Nat.add_zero]
 rw [e0, <- o, Nat.add_comm, Nat.mul_add_mod, Nat.mod_eq_of_lt f]
theorem LdInv.start {A Bn n s m : Nat} {lu lw : List Nat} (hn : (CD Bn).length = n) (hn0 : 0 < n) (hm : (CD A).length + 1 = m + n) (hu : Wd lu) (hul : lu.length = m + n) (huv : val lu = A * 2 ^ s)
 (hw : Wd lw) (hwl : lw.length = n + 1) (hwv : val lw = Bn * 2 ^ s) (hs : s < 32) (hlo : 2147483648 <= gd (CD Bn) (n - 1) * 2 ^ s) (hhi : gd (CD Bn) (n - 1) * 2 ^ s + 2 ^ s <= 4294967296) :
 val (lw.take n) = Bn * 2 ^ s /\ (lw.take n).length = n /\ Wd (lw.take n) /\ 2147483648 <= gd (lw.take n) (n - 1) /\ LdInv (lw.take n) (A * 2 ^ s) m lu (List.replicate m 0) := by
 obtain ⟨k, rfl⟩ : ∃ k, n = k + 1 := ⟨n - 1, by omega⟩
 rw [Nat.add_sub_cancel] at hlo hhi ⊢
 have C := CO Bn
 have h : val (CD Bn) = val ((CD Bn).take k) + 4294967296 ^ k * gd (CD Bn) k := by
  rw [<- DQ, DX _ _ AA]
 rw [C] at h
 have f := GV (QG (GF Bn) k)
 rw [List.length_take, Nat.min_eq_left AA] at f
 have u := Nat.two_pow_pos s
 have B : Bn * 2 ^ s < 4294967296 ^ (k + 1) := by
  rw [h, Nat.pow_succ]
  have e1 : (val ((CD Bn).take k) + 4294967296 ^ k * gd (CD Bn) k) * 2 ^ s < 4294967296 ^ k * (gd (CD Bn) k * 2 ^ s + 2 ^ s) := by
   rw [Nat.add_mul, Nat.mul_add, Nat.mul_assoc]
   have := Nat.mul_lt_mul_of_pos_right f u
   omega
  have e2 : 4294967296 ^ k * (gd (CD Bn) k * 2 ^ s + 2 ^ s) <= 4294967296 ^ k * 4294967296 := Nat.mul_le_mul_left _ hhi
  omega
 have v : 4294967296 ^ k * 2147483648 <= Bn * 2 ^ s := by
  rw [h, Nat.add_mul, Nat.mul_assoc]
  have := Nat.mul_le_mul_left (4294967296 ^ k) hlo
  omega
 have q : val (lw.take (k + 1)) = Bn * 2 ^ s := by
  have e := ND lw (k + 1)
  rw [Nat.min_eq_left AA, hwv] at e
  rcases Nat.eq_zero_or_pos (val (lw.drop (k + 1))) with e1 | e1
  . rw [e1, Nat.mul_zero, Nat.add_zero] at e; exact e
  exfalso
  have : 4294967296 ^ (k + 1) * 1 <= 4294967296 ^ (k + 1) * val (lw.drop (k + 1)) := Nat.mul_le_mul_left _ e1
  omega
 have l : (lw.take (k + 1)).length = k + 1 := by rw [List.length_take]; omega
 have p := QG hw (k + 1)
 refine ⟨q, l, p, ?_, hu, OD _, ?_, ?_, fun i _ => PV _ _, by rw [List.length_replicate, l, hul], by simp⟩
 . have e := DQ lw k
   rw [q] at e
   rw [gM _ _ _ AA]
   have F := GV (QG hw k)
   rw [List.length_take, Nat.min_eq_left AA] at F
   rcases Nat.lt_or_ge (gd lw k) 2147483648 with t | t
   . exfalso
     have : 4294967296 ^ k * (gd lw k + 1) <= 4294967296 ^ k * 2147483648 := Nat.mul_le_mul_left _ t
     exact Zo6
   exact t
 . rw [MH, Nat.mul_zero, Nat.add_zero, huv]
 rw [q]
 have e := ND lu m
 rw [Nat.min_eq_left AA, huv] at e
 have y := GV (GF A)
 rw [CO, show (CD A).length = m + k by omega, Nat.pow_add] at y
 have o : 2 ^ s <= 2147483648 := Nat.pow_le_pow_right (n := 2) AA (show s <= 31 by omega)
 have H : A * 2 ^ s < 4294967296 ^ m * 4294967296 ^ k * 2 ^ s := Nat.mul_lt_mul_of_pos_right y u
 have G : 4294967296 ^ m * 4294967296 ^ k * 2 ^ s <= 4294967296 ^ m * (Bn * 2 ^ s) := by
  rw [Nat.mul_assoc]
  refine Nat.mul_le_mul_left _ ?_
  have := Nat.mul_le_mul_left (4294967296 ^ k) o
  omega
 have D : 4294967296 ^ m * val (lu.drop m) < 4294967296 ^ m * (Bn * 2 ^ s) := by omega
 exact Nat.lt_of_mul_lt_mul_left D
theorem Iy (A Bn s : Nat) : A * 2 ^ s / (Bn * 2 ^ s) = A / Bn := Nat.mul_div_mul_right A Bn (Nat.two_pow_pos s)
theorem Ix (A Bn s : Nat) : A * 2 ^ s % (Bn * 2 ^ s) / 2 ^ s = A % Bn := by
 rw [Nat.mul_mod_mul_right, Nat.mul_div_cancel _ (Nat.two_pow_pos s)]
end Go.Proofs.YtmppigbbkjepiaaGreatDoor.W
