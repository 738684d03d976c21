/- Plain facts on decimal digits. Facts for the walk of Text. -/
import Derived.Test.YtmppigbbkjepiaaGreatDoorKitA
import Derived.Test.YtmppigbbkjepiaaGreatDoorBezD
namespace Go.Proofs.YtmppigbbkjepiaaGreatDoor.W
def TY : Nat → Nat → List Nat
  | 0, _ => []
  | k + 1, c => TY k (c / 10) ++ [c % 10]
def DE (l : List Nat) : Nat := l.foldl (fun a d => 10 * a + d) 0
def Dg (l : List Nat) : Prop := ∀ d ∈ l, d < 10
def VG (n : Nat) : List Nat := if n < 10 then [n] else VG (n / 10) ++ [n % 10]
termination_by n
decreasing_by omega
theorem Dg_append {a b : List Nat} : Dg (a ++ b) ↔ Dg a ∧ Dg b := by
  simp only [Dg, List.mem_append]
  exact ⟨fun h => ⟨fun x e => h x (.inl e), fun x e => h x (.inr e)⟩, fun h x e => e.elim (h.1 x) (h.2 x)⟩
theorem Dg_cons {a : Nat} {b : List Nat} : Dg (a :: b) ↔ a < 10 ∧ Dg b := by simp [Dg]
theorem XC : DE [] = 0 := rfl
theorem TK (l : List Nat) (d : Nat) : DE (l ++ [d]) = 10 * DE l + d := by simp [DE]
theorem Ml (l : List Nat) : ∀ a : Nat, l.foldl (fun a d => 10 * a + d) a = a * 10 ^ l.length + DE l := by
  induction l with
  | nil => intro a; simp [DE]
  | cons d l ih =>
    intro a
    have h := ih (10 * a + d)
    have f := ih (10 * 0 + d)
    have e : DE (d :: l) = l.foldl (fun a d => 10 * a + d) (10 * 0 + d) := rfl
    rw [List.foldl_cons, h, e, f, List.length_cons, Nat.pow_succ]
    grind
theorem TL (a b : List Nat) : DE (a ++ b) = DE a * 10 ^ b.length + DE b := by
  show (a ++ b).foldl _ 0 = _
  rw [List.foldl_append, Ml b]; rfl
theorem gX (d : Nat) (l : List Nat) : DE (d :: l) = d * 10 ^ l.length + DE l := by
  have := TL [d] l
  simpa [DE] using this
theorem GT : ∀ (k c : Nat), (TY k c).length = k
  | 0, _ => rfl
  | k + 1, c => by rw [TY, List.length_append, GT k]; rfl
theorem Gy : ∀ (k c : Nat), Dg (TY k c)
  | 0, _ => fun _ h => by cases h
  | k + 1, c => by
    rw [TY, Dg_append, Dg_cons]
    exact ⟨Gy k _, by omega, fun _ h => by cases h⟩
theorem lI : ∀ (k c : Nat), c < 10 ^ k → DE (TY k c) = c
  | 0, c, h => by rw [Nat.pow_zero] at h; obtain rfl : c = 0 := by omega
                  rfl
  | k + 1, c, h => by
    rw [TY, TK, lI k (c / 10) (by rw [Nat.pow_succ] at h; exact Nat.div_lt_of_lt_mul (by rw [Nat.mul_comm]; exact h))]
    omega
theorem gW {l : List Nat} (h : Dg l) : DE l < 10 ^ l.length := by
  induction l with
  | nil => simp [DE]
  | cons d l ih =>
    have e := Dg_cons.1 h
    have f := ih e.2
    rw [gX, List.length_cons, Nat.pow_succ]
    have : d * 10 ^ l.length ≤ 9 * 10 ^ l.length := Nat.mul_le_mul_right _ Z
    omega
theorem OI (n : Nat) (h : n < 10) : VG n = [n] := by rw [VG, if_pos h]
theorem UE (n : Nat) (h : 10 ≤ n) : VG n = VG (n / 10) ++ [n % 10] := by rw [VG, if_neg Z]
theorem OJ (n : Nat) : Dg (VG n) := by
  induction n using Nat.strongRecOn with
  | ind n ih =>
    rcases Nat.lt_or_ge n 10 with h | h
    · rw [OI n h, Dg_cons]; exact ⟨h, fun _ h => by cases h⟩
    · rw [UE n h, Dg_append, Dg_cons]
      exact ⟨ih _ Z, by omega, fun _ h => by cases h⟩
theorem PZ (n : Nat) : DE (VG n) = n := by
  induction n using Nat.strongRecOn with
  | ind n ih =>
    rcases Nat.lt_or_ge n 10 with h | h
    · rw [OI n h]; simp [DE]
    · rw [UE n h, TK, ih _ Z]; omega
theorem wJ (n : Nat) : VG n ≠ [] := by
  rcases Nat.lt_or_ge n 10 with h | h
  · rw [OI n h]; simp
  · rw [UE n h]; simp
def Cn (l : List Nat) : Prop := l ≠ [] ∧ (l.head? = some 0 → l.length = 1)
theorem Ij (n : Nat) (h : 0 < n) : (VG n).head? ≠ some 0 := by
  induction n using Nat.strongRecOn with
  | ind n ih =>
    rcases Nat.lt_or_ge n 10 with e | e
    · rw [OI n e]; simp; omega
    · rw [UE n e]
      have := ih (n / 10) Z Z
      have k := wJ (n / 10)
      cases f : VG (n / 10) with
      | nil => exact absurd f k
      | cons a l => rw [f] at this; simpa using this
theorem Rg (n : Nat) : Cn (VG n) := by
  refine ⟨wJ n, fun h => ?_⟩
  rcases Nat.eq_zero_or_pos n with e | e
  · subst e; rw [OI 0 Z]; rfl
  · exact absurd h (Ij n e)
theorem uQ {l : List Nat} (h : l ≠ []) : ∃ a d, l = a ++ [d] := by
  rcases l.eq_nil_or_concat with e | ⟨a, d, e⟩
  · exact absurd e h
  · exact ⟨a, d, by rw [e, List.concat_eq_append]⟩
theorem wI : ∀ (k : Nat) (l : List Nat), l.length = k → Dg l → Cn l → l = VG (DE l)
  | 0, l, hk, _, hc => absurd (List.eq_nil_of_length_eq_zero hk) hc.1
  | k + 1, l, hk, hd, hc => by
    obtain ⟨a, d, rfl⟩ := uQ hc.1
    have h1 := Dg_append.1 hd
    have hd1 : d < 10 := (Dg_cons.1 h1.2).1
    rw [TK]
    by_cases ha : a = []
    · subst ha
      rw [XC, OI _ Z]
      simp
    · have hca : Cn a := by
        refine ⟨ha, fun h => ?_⟩
        have := hc.2 (by cases a with | nil => exact absurd rfl ha | cons x a => simpa using h)
        rw [List.length_append, List.length_singleton] at this
        have : a.length = 0 := by omega
        exact absurd (List.eq_nil_of_length_eq_zero this) ha
      have f := wI k a (by simpa using hk) h1.1 hca
      have o : 0 < DE a := by
        rcases Nat.eq_zero_or_pos (DE a) with e | e
        · exfalso
          rw [e, OI 0 Z] at f
          subst f
          have := hc.2 AG
          simp at this
        · exact e
      rw [UE _ Z, show (10 * DE a + d) / 10 = DE a from by omega, show (10 * DE a + d) % 10 = d from by omega, ← f]
theorem zT {m n : Nat} (h : VG m = VG n) : m = n := by
  have := congrArg DE h
  rwa [PZ, PZ] at this
def KM : List Nat → List Nat
  | [] => []
  | 0 :: l => KM l
  | d :: l => d :: l
theorem Bo (l : List Nat) : DE (KM l) = DE l := by
  induction l with
  | nil => rfl
  | cons d l ih =>
    cases d with
    | zero => rw [KM, ih, gX]; omega
    | succ d => rfl
theorem Ez {l : List Nat} (h : Dg l) : Dg (KM l) := by
  induction l with
  | nil => exact h
  | cons d l ih =>
    cases d with
    | zero => exact ih (Dg_cons.1 h).2
    | succ d => exact h
theorem uO (l : List Nat) : (KM l).head? ≠ some 0 := by
  induction l with
  | nil => simp [KM]
  | cons d l ih =>
    cases d with
    | zero => exact ih
    | succ d => simp [KM]
theorem Bp {l : List Nat} (h : Dg l) (hp : 0 < DE l) : KM l = VG (DE l) := by
  have f := Bo l
  rw [← f]
  refine wI _ _ O (Ez h) ⟨fun e => ?_, fun e => absurd e (uO l)⟩
  rw [e] at f
  rw [← f] at hp
  exact absurd hp (by simp [DE])
theorem kY {n k : Nat} (hk : 0 < k) (h : n < 10 ^ k) : (VG n).length ≤ k := by
  induction k generalizing n with
  | zero => omega
  | succ k ih =>
    rcases Nat.lt_or_ge n 10 with l | l
    · rw [OI n l]; simp
    · rw [UE n l, List.length_append, List.length_singleton]
      have f : 0 < k := by
        rcases Nat.eq_zero_or_pos k with e | e
        · subst e; simp at h; omega
        · exact e
      have := ih f (n := n / 10) (by rw [Nat.pow_succ] at h; exact Nat.div_lt_of_lt_mul (by rw [Nat.mul_comm]; exact h))
      omega
def ZT : List Nat → Nat
  | [] => 0
  | c :: l => c + 1000000000 * ZT l
theorem Be (l : List Nat) (c : Nat) : ZT (l ++ [c]) = ZT l + 1000000000 ^ l.length * c := by
  induction l with
  | nil => simp [ZT]
  | cons x l ih => rw [List.cons_append, ZT, ZT, ih, List.length_cons, Nat.pow_succ]; grind
theorem sM (l : List Nat) : (l.flatMap (TY 9)).length = 9 * l.length := by
  induction l with
  | nil => rfl
  | cons c l ih => rw [List.flatMap_cons, List.length_append, ih, GT, List.length_cons]; omega
theorem Mm (l : List Nat) : Dg (l.flatMap (TY 9)) := by
  induction l with
  | nil => exact fun _ h => by cases h
  | cons c l ih => rw [List.flatMap_cons, Dg_append]; exact ⟨Gy _ _, ih⟩
theorem cR (l : List Nat) (c : Nat) : (l ++ [c]).flatMap (TY 9) = l.flatMap (TY 9) ++ TY 9 c := by simp
theorem uD (l : List Nat) (h : ∀ c ∈ l, c < 1000000000) : DE (l.reverse.flatMap (TY 9)) = ZT l := by
  induction l with
  | nil => rfl
  | cons c l ih =>
    rw [List.reverse_cons, cR, TL, ih (fun x e => h x (by simp [e])), GT, lI 9 c (h c AG), ZT]
    omega
def ZQ (l : List Nat) : List UInt8 := l.map fun d => UInt8.ofNat (48 + d)
def PE (z : Int) : List UInt8 := (if z < 0 then [45] else []) ++ ZQ (VG z.natAbs)
def OS (z : Int) : ByteArray := ⟨(PE z).toArray⟩
theorem Aa {a b : List Nat} (ha : Dg a) (hb : Dg b) (h : ZQ a = ZQ b) : a = b := by
  induction a generalizing b with
  | nil => cases b with | nil => rfl | cons _ _ => simp [ZQ] at h
  | cons x a ih =>
    cases b with
    | nil => simp [ZQ] at h
    | cons y b =>
      have k := Dg_cons.1 ha
      have f := Dg_cons.1 hb
      simp only [ZQ, List.map_cons, List.cons.injEq] at h
      have e := congrArg UInt8.toNat h.1
      rw [UInt8.toNat_ofNat', UInt8.toNat_ofNat'] at e
      obtain rfl : x = y := by omega
      rw [ih k.2 f.2 h.2]
theorem jS {l : List Nat} (h : Dg l) : (ZQ l).head? ≠ some 45 := by
  cases l with
  | nil => simp [ZQ]
  | cons d l =>
    have := (Dg_cons.1 h).1
    simp only [ZQ, List.map_cons, List.head?_cons, Option.some.injEq, ne_eq]
    intro e
    have e := congrArg UInt8.toNat e
    rw [UInt8.toNat_ofNat'] at e
    have : (48 + d) % 2 ^ 8 = 48 + d := Nat.mod_eq_of_lt Z
    rw [this] at e
    have : (45 : UInt8).toNat = 45 := rfl
    omega
theorem ZV {x y : Int} (h : PE x = PE y) : x = y := by
  unfold PE at h
  have l := jS (OJ x.natAbs)
  have k := jS (OJ y.natAbs)
  by_cases f : x < 0 <;> by_cases e : y < 0
  · rw [if_pos f, if_pos e] at h
    have := zT (Aa (OJ _) (OJ _) (by simpa using h))
    omega
  · rw [if_pos f, if_neg e] at h
    exfalso; apply k; simp only [List.nil_append] at h; rw [← h]; rfl
  · rw [if_neg f, if_pos e] at h
    exfalso; apply l; simp only [List.nil_append] at h; rw [h]; rfl
  · rw [if_neg f, if_neg e] at h
    have := zT (Aa (OJ _) (OJ _) (by simpa using h))
    omega
end Go.Proofs.YtmppigbbkjepiaaGreatDoor.W
namespace Go.Proofs.YtmppigbbkjepiaaGreatDoor
open Go.Proofs.Tryz
open Go.RowKit W
def cA (l : List Nat) : List Value := l.map fun d => Value.int .u8 ((48 + d : Nat) : Int)
def cl (j c : Nat) : List Value := List.replicate (9 - j) (Value.int .u8 0) ++ cA (TY j c)
theorem JU (l : List Nat) : (cA l).length = l.length := by simp [cA]
theorem ZJ (a b : List Nat) : cA (a ++ b) = cA a ++ cA b := by simp [cA]
theorem zV (l : List Nat) : ∀ v ∈ cA l, v.oneCell' = true := by
  intro v e
  obtain ⟨d, _, rfl⟩ := List.mem_map.1 e
  rfl
theorem gK (l : List Nat) (i : Nat) (h : i < l.length) : (cA l)[i]? = some (.int .u8 ↑(48 + gd l i)) := by
  rw [cA, List.getElem?_map, List.getElem?_eq_getElem h, QR l i h]; rfl
theorem mA : ∀ (k c : Nat), TY (k + 1) c = (c / 10 ^ k % 10) :: TY k c
  | 0, c => by simp [TY]
  | k + 1, c => by
    rw [TY, mA k (c / 10), List.cons_append, Nat.div_div_eq_div_mul, Nat.pow_succ, Nat.mul_comm 10]
    rfl
theorem Dp {j : Nat} (c : Nat) (h : j ≤ 9) : (cl j c).length = 9 := by
  rw [cl, List.length_append, List.length_replicate, JU, GT]; omega
theorem Rm {j c : Nat} {X : Int} (h : j < 9) (hX : X = ((48 + c / 10 ^ j % 10 : Nat) : Int)) : (cl j c).set (0 + (8 - j) * 1) (.int .u8 X) = cl (j + 1) c := by
  subst hX
  obtain ⟨k, e⟩ : ∃ k, 9 - j = k + 1 := ⟨8 - j, by omega⟩
  rw [cl, cl, mA, e, show 0 + (8 - j) * 1 = k from by omega, show 9 - (j + 1) = k from by omega, List.replicate_succ', List.append_assoc]
  rw [List.set_append_right _ _ AG]
  simp [cA]
theorem Ng (c : Nat) : cl 9 c = cA (TY 9 c) := by simp [cl]
theorem Rn (j c : Nat) : VC (cl j c) := by
  intro v f k e
  subst e
  rw [cl, List.mem_append] at f
  rcases f with f | f
  · have := (List.mem_replicate.1 f).2; simp at this
  · obtain ⟨d, _, h⟩ := List.mem_map.1 f; simp at h
theorem Ag9 : Ag prog 217 9 (List.replicate 9 (.int .u8 0)) := ⟨⟨_, underlying217, rfl⟩, by kernel_rfl, rfl⟩
theorem Nf (c : Nat) : List.replicate 9 (Value.int .u8 0) = cl 0 c := by simp [cl, cA, TY]
theorem Sl.shape {w : World} {v : Value} {l : List Nat} (h : Sl w v l) : ∃ ao cap, v = .slice ao l.length cap := by
  obtain ⟨ao, cap, rfl, _⟩ := h
  exact ⟨_, _, rfl⟩
theorem Bh (v : Value) (m : Nat) (w : World) (h : Sl w v (CB m)) :
    Calls prog 161 #[v] w (wU w (CB m)) := by
  refine (MC v _ w h).mono ?_
  rintro e l ⟨rfl, f, rfl, k⟩
  have := k _ h
  rw [CK] at this
  exact ⟨f, rfl, this, Below.refl _ _⟩
theorem wG (v : Value) (m d : Nat) (w : World) (h : Sl w v (CB m)) (hf : (CB m).length ≤ 1000000000) (hd : 0 < d) (hd2 : d < 4294967296) :
    Calls prog 189 #[v, .int .u64 d] w (Ar w (m / d) (m % d)) := by
  have := WK v (CB m) d w h hf hd hd2
  rwa [CK] at this
theorem tC {L : List Nat} {m n F : Nat} (h : n = ZT L + 1000000000 ^ L.length * m) (hm : m ≠ 0) (hF : n < 4294967296 ^ F) : L.length ≤ 2 * F := by
  have l : 1000000000 ^ L.length ≤ n := by
    have : 1000000000 ^ L.length * 1 ≤ 1000000000 ^ L.length * m := Nat.mul_le_mul_left _ Z
    omega
  rcases Nat.lt_or_ge (2 * F) L.length with e | e
  · exfalso
    have f : 1000000000 ^ (2 * F) ≤ 1000000000 ^ L.length := Nat.pow_le_pow_right Z Z
    rw [Nat.pow_mul] at f
    have k : 4294967296 ^ F ≤ (1000000000 ^ 2) ^ F := Nat.pow_le_pow_left AD F
    omega
  · exact e
theorem wL {L : List Nat} {m n : Nat} (h : n = ZT L + 1000000000 ^ L.length * m) : n = ZT (L ++ [m % 1000000000]) + 1000000000 ^ (L ++ [m % 1000000000]).length * (m / 1000000000) := by
  rw [Be, List.length_append, List.length_singleton, Nat.pow_succ, h]
  have := Nat.div_add_mod m 1000000000
  generalize m / 1000000000 = q at *
  generalize m % 1000000000 = r at *
  subst this
  grind
theorem Dq {L : List Nat} (h : ∀ c ∈ L, c < 1000000000) (m : Nat) : ∀ c ∈ L ++ [m % 1000000000], c < 1000000000 := by
  intro c f
  rcases List.mem_append.1 f with e | e
  · exact h c e
  · simp at e; subst e; exact Nat.mod_lt _ AD
def RetT (w0 : World) (z : Int) (e : Ending) (w' : World) : Prop := e = .returned (.string (OS z)) ∧ Below w0.heap.size w0 w'
theorem SS {P : Program} {o : Oper} {a : Act} {w : World} {K : Act → World → Prop} {Q : Exit → Act → World → Prop} {f : Nat} {args : List Operand} {tys : Array TypeId} {vs : List Value} {l : List SF} {z : Int}
    (hf : Fn P f) (ho : o.op = .call { callee := .value (.func f), args := args.toArray, argTypes := tys }) (hc : Calls P f vs.toArray w (RetT w z)) (hv : args.map a.eval = vs) (E : Env w l)
    (h : ∀ w', Below w.heap.size w w' → Env w' l → K (a.put o.dst (.string (OS z))) w') : o.wp P a w K Q := by
  refine DB hf ho hc hv ?_
  rintro e w' ⟨rfl, k⟩
  exact ⟨_, rfl, h w' k (E.below k)⟩
theorem kH {P : Program} {o : Oper} {a : Act} {w : World} {K : Act → World → Prop} {Q : Exit → Act → World → Prop} {f : Nat} {args : List Operand} {tys : Array TypeId} {vs : List Value} {l : List SF} {q r : Nat}
    (hf : Fn P f) (ho : o.op = .call { callee := .value (.func f), args := args.toArray, argTypes := tys }) (hc : Calls P f vs.toArray w (Ar w q r)) (hv : args.map a.eval = vs) (E : Env w l)
    (h : ∀ w' v, Below w.heap.size w w' → Env w' (fS v (CB q) :: l) → K (a.put o.dst (.tuple #[v, .int .u64 r])) w') : o.wp P a w K Q := by
  refine DB hf ho hc hv ?_
  rintro e w' ⟨v, rfl, p, k⟩
  exact ⟨_, rfl, h w' v k ⟨p, E.below k⟩⟩
theorem Ct : (prog.info? 217).map (fun i => (i.zero, i.size, i.bytes)) = some (some (.agg (List.replicate 9 (.int .u8 0)).toArray), 9, 9) := by kernel_rfl
theorem Mg : (prog.info? 5).map (fun i => (i.zero, i.size, i.bytes)) = some (some (.int .u8 0), 1, 1) := by kernel_rfl
theorem Hs : ∀ u ∈ (Value.agg (List.replicate 9 (.int .u8 0)).toArray).cells.toList, ZD u := by
  intro u e
  simp only [Value.cells, List.toList_toArray] at e
  exact ⟨0, (List.mem_replicate.1 e).2⟩
theorem Cr : ∀ u ∈ (Value.int .u8 0).cells.toList, ZD u := by
  intro u e
  simp [Value.cells] at e
  exact ⟨0, e⟩
theorem rY (l : List Nat) : ∀ u ∈ cA l, ZD u := by
  intro v e
  obtain ⟨d, _, rfl⟩ := List.mem_map.1 e
  exact ⟨_, rfl⟩
theorem aD {ρ : Operand → Value} {o : Oper} {w : World} {x : Operand} {ao : Option Addr} {n c : Nat} (ho : o.op = .call { callee := .builtin .len, args := #[x], argTypes := #[216] }) (hx : ρ x = .slice ao n c) : (execOp ρ o).run prog w = .ok (.value (.int .i64 n)) w := by
  unfold execOp; rw [ho]; simp [hx, go_sem]
theorem qN {ρ : Operand → Value} {o : Oper} {w : World} {x : Operand} {b off : Nat} (ho : o.op = .slice 217 x none none none) (hx : ρ x = .pointer (some ⟨b, off, none⟩)) : (execOp ρ o).run prog w = .ok (.value (.slice (some ⟨b, off, none⟩) 9 9)) w := by
  unfold execOp; rw [ho]; simp [hx, Instr.sliceAt, Instr.sureAddr, run_underlying underlying217, Instr.sliceBounds, go_sem]
theorem Cd {ρ : Operand → Value} {o : Oper} {w : World} {x : Operand} {g p n c : Nat} (ho : o.op = .slice 42 x (some (.const (.int .i64 1))) none none) (hr : ρ (.const (.int .i64 1)) = .int .i64 1) (hx : ρ x = .slice (some ⟨g, p, none⟩) n c) (h1 : 1 ≤ n) (_h2 : n ≤ c) (h3 : 1 < c) :
    (execOp ρ o).run prog w = .ok (.value (.slice (some ⟨g, p + 1, none⟩) (n - 1) (c - 1))) w := by
  unfold execOp; rw [ho]
  simp [hx, hr, Instr.sliceAt, Instr.slice, run_underlying underlying42, Instr.sliceBounds, Instr.sliceBound, asIntOf, go_sem, show ¬ c = 1 by omega]
  intro h; omega
theorem VL (a b : Nat) : ((a : Nat) : Int).tmod ((b : Nat) : Int) = ((a % b : Nat) : Int) := by
  rw [Int.tmod_eq_emod_of_nonneg Z]; omega
theorem EJ {a : Nat} {X : Int} (hX : X = (a : Int)) (h : a < 18446744073709551616) : IntKind.u64.wrap X = (a : Int) := by subst hX; simp only [IntKind.wrap_u64]; omega
theorem OQ {a : Nat} {X : Int} (hX : X = (a : Int)) (h : a < 256) : IntKind.u8.wrap X = (a : Int) := by subst hX; simp only [IntKind.wrap_u8]; omega
theorem Lf {b : Nat} (h : b < 18446744073709551616) : IntKind.u64.wrap (((b : Nat) : Int).tdiv 10) = ((b / 10 : Nat) : Int) := by
  rw [Int.tdiv_eq_ediv_of_nonneg Z]
  simp only [IntKind.wrap_u64]
  omega
theorem Hl {m : Nat} (h : m ≠ 0) : 0 < (CB m).length := by
  rcases Nat.eq_zero_or_pos (CB m).length with e | e
  · exact absurd ((ET m).1 (List.eq_nil_of_length_eq_zero e)) h
  · exact e
def fN (n : Nat) : SF := ⟨fun w => n ≤ w.heap.size, fun _ => True, fun h hb => Nat.le_trans h hb.size, fun h _ _ hb => by rw [hb.size]; exact h⟩
theorem Env.n {w : World} {l : List SF} {n : Nat} (E : Env w l) (h : n ≤ w.heap.size) : Env w (fN n :: l) := ⟨h, E⟩
theorem sF (w : World) : (isAgg 5).run prog w = .ok false w := by
  simp [go_sem]
theorem zN (D : List Nat) (p q : Nat) (h : p + q < D.length) : ((D.drop p).map fun d => ((48 + d : Nat) : Int)).getD q 0 = ((48 + gd D (p + q) : Nat) : Int) := by
  rw [List.getD_eq_getElem?_getD, List.getElem?_map, List.getElem?_drop, List.getElem?_eq_getElem h, QR D _ h]; rfl
theorem Ej : OS 0 = ⟨#[48]⟩ := by
  unfold OS PE
  rw [Int.natAbs_zero, OI 0 Z]
  rfl
theorem tD (l : List Nat) (_h : Dg l) : (strOfNums (l.map fun d => ((48 + d : Nat) : Int))).data.toList = ZQ l := by
  rw [strOfNums_data, List.map_map, ZQ]
  apply List.map_congr_left
  intro d e
  show UInt8.ofNat (((48 + d : Nat) : Int).toNat) = _
  rw [Int.toNat_natCast]
theorem Ke {x : Int} {l : List Nat} (h : ¬ x < 0) (hl : l = VG x.natAbs) : strOfNums (l.map fun d => ((48 + d : Nat) : Int)) = OS x := by
  subst hl
  apply ByteArray.ext
  apply Array.ext'
  rw [tD _ (OJ _)]
  simp [OS, PE, h]
theorem Kf {x : Int} {l : List Nat} (h : x < 0) (hl : l = VG x.natAbs) : (⟨#[45]⟩ : ByteArray) ++ strOfNums (l.map fun d => ((48 + d : Nat) : Int)) = OS x := by
  subst hl
  apply ByteArray.ext
  apply Array.ext'
  rw [ByteArray.data_append, Array.toList_append, tD _ (OJ _)]
  simp [OS, PE, h]
theorem uN {l : List Nat} (h : l.head? ≠ some 0) : KM l = l := by
  cases l with
  | nil => rfl
  | cons d l => cases d with
    | zero => simp at h
    | succ d => rfl
theorem hZ {T : List Nat} {p : Nat} (hp : p < T.length) (h : gd T p = 0) (hs : KM (T.drop p) = KM T) : KM (T.drop (p + 1)) = KM T := by
  rw [← hs, List.drop_eq_getElem_cons hp]
  have : T[p] = 0 := by rw [← QR T p hp]; exact h
  rw [this, KM]
theorem uP {T : List Nat} {p : Nat} (hp : p < T.length) (h : gd T p ≠ 0) (hs : KM (T.drop p) = KM T) : T.drop p = KM T := by
  rw [← hs]
  refine (uN ?_).symm
  rw [List.drop_eq_getElem_cons hp]
  simp only [List.head?_cons, ne_eq, Option.some.injEq]
  rw [← QR T p hp]; exact h
theorem uM {T : List Nat} {p : Nat} (hp : p < T.length) (h : gd T p = 0) (hs : KM (T.drop p) = KM T) (hT : KM T ≠ []) : p + 1 < T.length := by
  rcases Nat.lt_or_ge (p + 1) T.length with e | e
  · exact e
  · exfalso
    have := hZ hp h hs
    rw [List.drop_of_length_le e] at this
    exact hT this.symm
theorem oC (L : List Nat) (i : Nat) (h : i < L.length) : L.reverse.take (i + 1) = L.reverse.take i ++ [gd L (L.length - 1 - i)] := by
  rw [List.take_succ_eq_append_getElem (by simpa using h), List.getElem_reverse, QR L (L.length - 1 - i) Z]
theorem Hx (L : List Nat) (c j : Nat) (hc : c < L.length) (hj : j < 9) : (cA (L.flatMap (TY 9)))[0 + c * 9 + j]? = (cA (TY 9 (gd L c)))[j]? := by
  induction L generalizing c with
  | nil => simp at hc
  | cons x L ih =>
    rw [List.flatMap_cons, ZJ]
    cases c with
    | zero =>
      rw [List.getElem?_append_left (by rw [JU, GT]; omega)]
      simp [gd]
    | succ c =>
      rw [List.getElem?_append_right (by rw [JU, GT]; omega), JU, GT]
      have e : gd (x :: L) (c + 1) = gd L c := by unfold gd; simp
      rw [e, ← ih c (by simpa using hc), show 0 + (c + 1) * 9 + j - 9 = 0 + c * 9 + j from by omega]
end Go.Proofs.YtmppigbbkjepiaaGreatDoor
