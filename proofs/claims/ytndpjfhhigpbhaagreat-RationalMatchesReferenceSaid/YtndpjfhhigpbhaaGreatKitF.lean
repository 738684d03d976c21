/- Regions that draw their order, where new blocks come up at any time beside a chain of calls: one walk for all orders. -/
import Derived.Test.YtndpjfhhigpbhaaGreatKitC
namespace Go.Proofs.YtndpjfhhigpbhaaGreat
open Go.RowKit W
/-- What a floating operation makes: a block with the cells cs, and a value that leads to it. -/
structure Fd where
  vf : Nat → Value
  T : Nat
  cs : List Value
/-- A step of the walk: an operation, or the word that a floating operation may come up from now on. -/
inductive St where
  | op (i : Nat)
  | av (j : Nat)
section
variable {P : Program} {md : Region.Mode} {ops : Array Oper} {Q : Exit → Act → World → Prop} {S : World → Prop}
def RunF (P : Program) (ops : Array Oper) (S : World → Prop) (j : Nat) (d : Fd) (a : Act) : Prop :=
  ∃ o, ops[j]? = some o ∧ Region.wanted o (yielded ops a.tmps) = true ∧ ∀ w, S w → (execOp a.eval o).run P w = .ok (.value (d.vf w.heap.size)) (w.alloc (.cells d.cs.toArray d.T))
def dstOf (ops : Array Oper) (i : Nat) : Option Tmp := (ops[i]?).bind (·.dst)
/-- The walk. -/
def abS (P : Program) (ops : Array Oper) (Q : Exit → Act → World → Prop) (S : World → Prop) (B0 : Nat) (Fin : Act → List SF → Prop) : List St → List (Nat × Fd) → List Nat → Act → List SF → Prop
  | [], _, _, a, l => Fin a l
  | .av j :: σ, av, us, a, l => ∃ d, RunF P ops S j d a ∧ abS P ops Q S B0 Fin σ ((j, d) :: av) us a l
  | .op i :: σ, av, us, a, l => match av.lookup i with
    | some d => ∀ b, B0 ≤ b → b ∉ us → abS P ops Q S B0 Fin σ av (b :: us) (a.put (dstOf ops i) (d.vf b)) (fX b d.T d.cs :: l)
    | none => match ops[i]? with
      | none => False
      | some o => if isPure o = true then ∃ v, YieldsIf P ops S o v a ∧ abS P ops Q S B0 Fin σ av us (a.put o.dst v) l
        else ∀ w, Env w l → S w → wpOp P ops Q i (fun a' w' => Below w.heap.size w w' ∧ (∃ u, a' = a.put o.dst u) ∧ ∃ l', Env w' l' ∧ abS P ops Q S B0 Fin σ av us a' l') a w
def apart2 (ops : Array Oper) (j k : Nat) : Bool := match ops[j]?, ops[k]? with
  | some oj, some ok => oj.apart ops ok && ok.apart ops oj
  | _, _ => false
/-- Up to number j all operations are apart from it. -/
def apartTo (ops : Array Oper) (j : Nat) : List St → Bool
  | [] => false
  | .op k :: σ => if k = j then true else apart2 ops j k && apartTo ops j σ
  | .av _ :: σ => apartTo ops j σ
def setAll (L : Array Bool) (l : List Nat) : Array Bool := l.foldl (fun L i => L.setIfInBounds i true) L
def okF (md : Region.Mode) (ops : Array Oper) (LE : Array Bool) : List St → List Nat → Array Bool → Bool
  | [], AV, L0 => L0 == LE && AV.all fun j => L0.getD j false
  | .av j :: σ, AV, L0 => !AV.contains j && !L0.getD j true && apartTo ops j σ && okF md ops LE σ (j :: AV) L0
  | .op i :: σ, AV, L0 => (match AV.contains i with
    | true => Region.ready md ops (setAll L0 (AV.filter (· != i))) == [i] && (Region.ready md ops L0).contains i
    | false => match (ops[i]?).map isPure with
      | some true => Region.free md ops L0 i && (Region.ready md ops L0).contains i
      | some false => Region.ready md ops (setAll L0 AV) == [i] && (Region.ready md ops L0).contains i
      | none => false) && okF md ops LE σ AV (L0.setIfInBounds i true)
def opsOf : List St → List Nat
  | [] => []
  | .op i :: σ => i :: opsOf σ
  | .av _ :: σ => opsOf σ
/-- Early operations (number, block, what is made) make this of a frame. -/
inductive Pts (ops : Array Oper) : List (Nat × Nat × Fd) → Act → Act → Prop
  | nil (a : Act) : Pts ops [] a a
  | cons {E : List (Nat × Nat × Fd)} {a a' : Act} (j b : Nat) (d : Fd) (h : Pts ops E a a') : Pts ops ((j, b, d) :: E) a (a'.put (dstOf ops j) (d.vf b))
theorem Pts.put {E : List (Nat × Nat × Fd)} {a a' : Act} (h : Pts ops E a a') (x : Option Tmp) (v : Value) (hx : ∀ e ∈ E, ∀ t, x = some t → dstOf ops e.1 ≠ some t) : Pts ops E (a.put x v) (a'.put x v) := by
  induction h with
  | nil a => exact .nil _
  | cons j b d h ih =>
    have h1 := ih fun e he => hx e (List.mem_cons_of_mem _ he)
    have h2 := Pts.cons j b d h1
    rw [Act.put_comm _ _ _ (hx (j, b, d) List.mem_cons_self)] at h2
    exact h2
theorem Pts.remove {E : List (Nat × Nat × Fd)} {a a' : Act} (h : Pts ops E a a') {j b : Nat} {d : Fd} (hm : (j, b, d) ∈ E) (hn : ∀ e ∈ E, e.1 ≠ j → ∀ t, dstOf ops j = some t → dstOf ops e.1 ≠ some t) (hnd : (E.map (·.1)).Nodup) :
    Pts ops (E.filter fun e => e.1 != j) (a.put (dstOf ops j) (d.vf b)) a' := by
  induction h with
  | nil a => cases hm
  | cons k c d' h ih =>
    rename_i E a a'
    rw [List.map_cons, List.nodup_cons] at hnd
    by_cases hk : k = j
    · subst hk
      have hE : E.filter (fun e => e.1 != k) = E := List.filter_eq_self.2 fun e he => by
        rw [bne_iff_ne]; rintro h1; exact hnd.1 (List.mem_map.2 ⟨e, he, h1⟩)
      have he : (k, b, d) = (k, c, d') := by
        rcases List.mem_cons.1 hm with h1 | h1
        · exact h1
        · exact absurd (List.mem_map.2 ⟨_, h1, rfl⟩) hnd.1
      cases he
      rw [List.filter_cons_of_neg (by simp), hE]
      refine Pts.put h _ _ fun e he t ht => hn e (List.mem_cons_of_mem _ he) (fun h1 => hnd.1 (List.mem_map.2 ⟨e, he, h1⟩)) t ht
    · rcases List.mem_cons.1 hm with h1 | h1
      · cases h1; exact absurd rfl hk
      · rw [List.filter_cons_of_pos (by simpa using hk)]
        exact .cons k c d' (ih h1 (fun e he => hn e (List.mem_cons_of_mem _ he)) hnd.2)
/-- Early operations apart from an operation make no difference to it. -/
theorem Pts.exec {E : List (Nat × Nat × Fd)} {a a' : Act} (h : Pts ops E a a') (o : Oper) (hs : ∀ cs b, o.op ≠ .select cs b) (hx : ∀ e ∈ E, ∀ t, dstOf ops e.1 = some t → t ∉ o.looksAt ops) :
    execOp a'.eval o = execOp a.eval o ∧ Region.wanted o (yielded ops a'.tmps) = Region.wanted o (yielded ops a.tmps) := by
  induction h with
  | nil a => exact ⟨rfl, rfl⟩
  | cons j b d h ih =>
    have h1 := ih fun e he => hx e (List.mem_cons_of_mem _ he)
    have h2 := hx (j, b, d) List.mem_cons_self
    exact ⟨(execOp_put o hs _ _ _ h2).trans h1.1, (wanted_put o _ _ _ h2).trans h1.2⟩
/-- An operation from another frame that looks the same to it. -/
theorem wpOp_move {i : Nat} {o : Oper} (ho : ops[i]? = some o) {a1 a2 : Act} {w : World} (he : execOp a2.eval o = execOp a1.eval o) (hw : Region.wanted o (yielded ops a2.tmps) = Region.wanted o (yielded ops a1.tmps))
    (hQ : ∀ c w, Q (.panic c) a1 w → Q (.panic c) a2 w) {K : Act → World → Prop} (h : wpOp P ops Q i K a1 w) :
    wpOp P ops Q i (fun a' w' => (∃ u, a' = a2.put o.dst u ∧ K (a1.put o.dst u) w') ∨ ∃ d, K (({ a1 with defers := d :: a1.defers } : Act).put o.dst undef) w') a2 w := by
  unfold wpOp at *
  simp only [ho] at *
  rw [hw]
  split
  · rename_i hg
    simp only [hg, if_true] at h
    rcases h with h | ⟨hasks, hlets⟩
    case inr => exact .inr ⟨by unfold Oper.asks at *; rw [he]; exact hasks, hlets⟩
    refine .inl ?_
    unfold Oper.wp at *
    rw [he]
    generalize (execOp a1.eval o).run P w = r at *
    cases r with
    | ok n w' =>
      cases n <;> simp only [Oper.upon] at h ⊢
      case value u => exact .inl ⟨u, rfl, h⟩
      case skip => exact .inl ⟨undef, rfl, h⟩
      case defer d => exact .inr ⟨d, h⟩
      case enter f args =>
        refine Calls.mono h fun e w'' he => ?_
        cases e with
        | returned u => exact .inl ⟨u, rfl, he⟩
        | panicked c => exact hQ _ _ he
        | outgrown => exact he
      case row row args => exact Rows.mono h fun u w'' he => .inl ⟨u, rfl, he⟩
    | halt x w' =>
      cases x <;> simp only [Oper.upon] at h ⊢
      case panic u => exact hQ _ _ h
  · rename_i hg
    simp only [hg] at h
    exact .inl ⟨undef, rfl, h⟩
/-! ### what has come up -/
def RelL (L0 : Array Bool) (E : List (Nat × Nat × Fd)) (L : Array Bool) : Prop := L.size = L0.size ∧ ∀ k, L.getD k false = (L0.getD k false || (E.map (·.1)).contains k)
theorem getD_set (L : Array Bool) (i k : Nat) (h : i < L.size) : (L.setIfInBounds i true).getD k false = (decide (i = k) || L.getD k false) := by
  by_cases hk : i = k
  · subst hk; simp [h]
  · rw [getD_set_ne false hk]; simp [hk]
theorem getD_tf {L : Array Bool} {k : Nat} (h : k < L.size) : L.getD k true = L.getD k false := by simp [h]
theorem getD_size {L : Array Bool} {k : Nat} (h : L.getD k true = false) : k < L.size := by
  rcases Nat.lt_or_ge k L.size with h1 | h1
  · exact h1
  · simp [Array.getElem?_eq_none h1] at h
theorem setAll_get : ∀ (l : List Nat) (L : Array Bool) (k : Nat), (∀ i ∈ l, i < L.size) → (setAll L l).size = L.size ∧ (setAll L l).getD k false = (L.getD k false || l.contains k)
  | [], L, k, _ => by simp [setAll]
  | i :: l, L, k, h => by
    have h0 := h i List.mem_cons_self
    have ih := setAll_get l (L.setIfInBounds i true) k (fun j hj => by rw [Array.size_setIfInBounds]; exact h j (List.mem_cons_of_mem _ hj))
    unfold setAll at ih ⊢
    rw [List.foldl_cons, ih.1, ih.2, Array.size_setIfInBounds, getD_set L i k h0]
    refine ⟨rfl, ?_⟩
    rw [List.contains_cons]
    have e : (k == i) = decide (i = k) := by rw [Bool.eq_iff_iff, beq_iff_eq, decide_eq_true_eq]; exact eq_comm
    rw [e]
    cases decide (i = k) <;> cases L.getD k false <;> simp
theorem RelL.set {L0 L : Array Bool} {E : List (Nat × Nat × Fd)} (h : RelL L0 E L) {i : Nat} (hi : i < L0.size) : RelL (L0.setIfInBounds i true) E (L.setIfInBounds i true) := by
  refine ⟨by simp [h.1], fun k => ?_⟩
  rw [getD_set L i k (by rw [h.1]; exact hi), getD_set L0 i k hi, h.2 k]
  cases decide (i = k) <;> cases L0.getD k false <;> simp
theorem RelL.add {L0 L : Array Bool} {E : List (Nat × Nat × Fd)} (h : RelL L0 E L) {i b : Nat} {d : Fd} (hi : i < L0.size) : RelL L0 ((i, b, d) :: E) (L.setIfInBounds i true) := by
  refine ⟨by simp [h.1], fun k => ?_⟩
  rw [getD_set L i k (by rw [h.1]; exact hi), h.2 k, List.map_cons, List.contains_cons]
  have e : (k == i) = decide (i = k) := by rw [Bool.eq_iff_iff, beq_iff_eq, decide_eq_true_eq]; exact eq_comm
  rw [e]
  cases decide (i = k) <;> cases L0.getD k false <;> simp
theorem RelL.drop {L0 L : Array Bool} {E : List (Nat × Nat × Fd)} (h : RelL L0 E L) {i : Nat} (hi : i < L0.size) (hm : i ∈ E.map (·.1)) : RelL (L0.setIfInBounds i true) (E.filter fun e => e.1 != i) L := by
  refine ⟨by simp [h.1], fun k => ?_⟩
  rw [getD_set L0 i k hi, h.2 k]
  by_cases hk : i = k
  · subst hk
    have : (E.map (·.1)).contains i = true := by simpa using hm
    rw [this]; simp
  · have : (E.map (·.1)).contains k = ((E.filter fun e => e.1 != i).map (·.1)).contains k := by
      rw [Bool.eq_iff_iff, List.contains_iff_mem, List.contains_iff_mem, List.mem_map, List.mem_map]
      constructor
      · rintro ⟨e, he, rfl⟩; exact ⟨e, List.mem_filter.2 ⟨he, by rw [bne_iff_ne]; exact fun h => hk h.symm⟩, rfl⟩
      · rintro ⟨e, he, rfl⟩; exact ⟨e, (List.mem_filter.1 he).1, rfl⟩
    rw [this]; simp [hk]
theorem length_le_of_nodup : ∀ (A B : List Nat), A.Nodup → (∀ x ∈ A, x ∈ B) → A.length ≤ B.length
  | [], B, _, _ => Nat.zero_le _
  | a :: A, B, hn, hs => by
    rw [List.nodup_cons] at hn
    have ha := hs a List.mem_cons_self
    have ih := length_le_of_nodup A (B.erase a) hn.2 fun x hx => (List.mem_erase_of_ne (fun (h : x = a) => hn.1 (h ▸ hx))).2 (hs x (List.mem_cons_of_mem _ hx))
    rw [List.length_erase_of_mem ha] at ih
    have : 0 < B.length := List.length_pos_of_mem ha
    rw [List.length_cons]; omega
theorem wpAnyH_more : ∀ (f : Nat) (L : Array Bool) (a : Act) (w : World), wpAnyH P md ops Q S f L a w → wpAnyH P md ops Q S (f + 1) L a w
  | 0, L, a, w, h => ⟨fun _ => h.2, fun i hi => by rw [h.1] at hi; cases hi⟩
  | f + 1, L, a, w, h => ⟨h.1, fun i hi => wpOp_mono (fun a' w' h' => ⟨h'.1, wpAnyH_more f _ a' w' h'.2⟩) (h.2 i hi)⟩
theorem wpAnyH_le {f g : Nat} (hfg : f ≤ g) {L : Array Bool} {a : Act} {w : World} (h : wpAnyH P md ops Q S f L a w) : wpAnyH P md ops Q S g L a w := by
  induction hfg with
  | refl => exact h
  | step _ ih => exact wpAnyH_more _ _ _ _ ih
theorem apart2_spec {j k : Nat} {oj ok : Oper} (hj : ops[j]? = some oj) (hk : ops[k]? = some ok) (h : apart2 ops j k = true) : oj.apart ops ok = true ∧ ok.apart ops oj = true := by
  unfold apart2 at h
  simp only [hj, hk, Bool.and_eq_true] at h
  exact h
theorem apartTo_mem {j : Nat} : ∀ {σ : List St}, apartTo ops j σ = true → j ∈ opsOf σ
  | [], h => by cases h
  | .op k :: σ, h => by
    unfold apartTo at h
    by_cases hk : k = j
    · subst hk; exact List.mem_cons_self
    · rw [if_neg hk, Bool.and_eq_true] at h
      exact List.mem_cons_of_mem _ (apartTo_mem h.2)
  | .av _ :: σ, h => apartTo_mem (σ := σ) h
/-- Two floating operations are apart. -/
theorem apartTo_two {j k : Nat} (hne : j ≠ k) : ∀ {σ : List St}, apartTo ops j σ = true → apartTo ops k σ = true → apart2 ops j k = true ∨ apart2 ops k j = true
  | [], h, _ => by cases h
  | .op i :: σ, h1, h2 => by
    unfold apartTo at h1 h2
    by_cases hi : i = j
    · subst hi
      rw [if_neg hne, Bool.and_eq_true] at h2
      exact .inr h2.1
    · by_cases hk : i = k
      · subst hk
        rw [if_neg hi, Bool.and_eq_true] at h1
        exact .inl h1.1
      · rw [if_neg hi, Bool.and_eq_true] at h1
        rw [if_neg hk, Bool.and_eq_true] at h2
        exact apartTo_two hne h1.2 h2.2
  | .av _ :: σ, h1, h2 => apartTo_two (σ := σ) hne h1 h2
theorem apart2_both {j k : Nat} (h : apart2 ops j k = true ∨ apart2 ops k j = true) {oj ok : Oper} (hj : ops[j]? = some oj) (hk : ops[k]? = some ok) : oj.apart ops ok = true ∧ ok.apart ops oj = true := by
  rcases h with h | h
  · exact apart2_spec hj hk h
  · exact (apart2_spec hk hj h).symm
theorem RunF.put {j : Nat} {d : Fd} {a : Act} (h : RunF P ops S j d a) (hs : ∀ (j : Nat) (o : Oper) cs b, ops[j]? = some o → o.op ≠ .select cs b) (x : Option Tmp) (v : Value) (hx : ∀ o, ops[j]? = some o → ∀ t, x = some t → t ∉ o.looksAt ops) : RunF P ops S j d (a.put x v) := by
  obtain ⟨o, ho, hw, hr⟩ := h
  refine ⟨o, ho, (wanted_put o a x v (hx o ho)).trans hw, fun w h => ?_⟩
  rw [execOp_put o (fun cs b => hs j o cs b ho) a x v (hx o ho)]
  exact hr w h
/-- What holds between the walk and the machine. -/
structure Inv (P : Program) (ops : Array Oper) (S : World → Prop) (B0 : Nat) (σ : List St) (av : List (Nat × Fd)) (us : List Nat) (a : Act) (l : List SF) (L0 : Array Bool) (E : List (Nat × Nat × Fd)) (L : Array Bool) (a' : Act) (w : World) : Prop where
  size : L0.size = ops.size
  avlt : ∀ j, (av.map (·.1)).contains j = true → j < ops.size
  rel : RelL L0 E L
  pts : Pts ops E a a'
  early : ∀ e ∈ E, av.lookup e.1 = some e.2.2 ∧ L0.getD e.1 true = false ∧ Bx w e.2.1 e.2.2.T e.2.2.cs ∧ B0 ≤ e.2.1 ∧ e.2.1 ∉ us
  nd1 : (E.map (·.1)).Nodup
  nd2 : (E.map (·.2.1)).Nodup
  pend : ∀ j d, av.lookup j = some d → L0.getD j true = false → RunF P ops S j d a ∧ apartTo ops j σ = true
  used : ∀ c ∈ us, c < w.heap.size
  base : B0 ≤ w.heap.size
  env : Env w l
  s : S w
theorem lookup_mem {j : Nat} : ∀ {av : List (Nat × Fd)}, (av.map (·.1)).contains j = true → ∃ d, av.lookup j = some d
  | [], h => by simp at h
  | (k, d) :: av, h => by
    rw [List.lookup_cons]
    by_cases hk : j = k
    · subst hk; exact ⟨d, by simp⟩
    · rw [List.map_cons, List.contains_cons] at h
      have : (j == k) = false := by simpa using hk
      rw [this, Bool.false_or] at h
      rw [this]
      exact lookup_mem h
theorem mem_lookup {j : Nat} {d : Fd} : ∀ {av : List (Nat × Fd)}, av.lookup j = some d → (av.map (·.1)).contains j = true
  | [], h => by simp at h
  | (k, d') :: av, h => by
    rw [List.map_cons, List.contains_cons]
    rw [List.lookup_cons] at h
    by_cases hk : j = k
    · simp [hk]
    · have : (j == k) = false := by simpa using hk
      rw [this] at h ⊢
      rw [Bool.false_or]
      exact mem_lookup h
/-- A floating operation comes up early. -/
theorem Inv.step {B0 : Nat} {σ : List St} {av : List (Nat × Fd)} {us : List Nat} {a : Act} {l : List SF} {L0 : Array Bool} {E : List (Nat × Nat × Fd)} {L : Array Bool} {a' : Act} {w : World} (h : Inv P ops S B0 σ av us a l L0 E L a' w)
    (hs : ∀ (j : Nat) (o : Oper) cs b, ops[j]? = some o → o.op ≠ .select cs b) (hSb : ∀ w w', S w → Below w.heap.size w w' → S w') {k : Nat} (hk : k ∈ Region.ready md ops L) {d : Fd} (hd : av.lookup k = some d) (K : Act → World → Prop)
    (hK : ∀ L' a1 w1, Inv P ops S B0 σ av us a l L0 ((k, w.heap.size, d) :: E) L' a1 w1 → L' = L.setIfInBounds k true → S w1 → K a1 w1) : wpOp P ops Q k K a' w := by
  obtain ⟨hun, o, ho, hall⟩ := mem_ready.1 hk
  have hks : k < L.size := getD_size hun
  have hkf : L.getD k false = false := by rw [← getD_tf hks]; exact hun
  have hr := h.rel.2 k
  rw [hkf] at hr
  have hr := hr.symm
  rw [Bool.or_eq_false_iff] at hr
  have hk0 : L0.getD k true = false := by rw [getD_tf (by rw [← h.rel.1]; exact hks)]; exact hr.1
  have hkE : k ∉ E.map (·.1) := by
    have := hr.2
    intro hm
    rw [List.contains_iff_mem.2 hm] at this
    cases this
  obtain ⟨⟨o', ho', hw, hrun⟩, hap⟩ := h.pend k d hd hk0
  rw [ho] at ho'
  cases ho'
  have hex := h.pts.exec o (fun cs b => hs k o cs b ho) fun e he t ht => by
    obtain ⟨e1, e2, _⟩ := h.early e he
    obtain ⟨⟨oe, hoe, _⟩, hape⟩ := h.pend e.1 _ e1 e2
    have hne : e.1 ≠ k := fun h1 => hkE (List.mem_map.2 ⟨e, he, h1⟩)
    have := (apart2_both (apartTo_two hne hape hap) hoe ho).1
    have hd' : oe.dst = some t := by unfold dstOf at ht; rw [hoe] at ht; exact ht
    exact (Oper.apart_spec this).1 t hd'
  unfold wpOp
  simp only [ho]
  rw [if_pos (hex.2.trans hw)]
  refine .inl (Oper.wp_of_val (by rw [hex.1]; exact hrun w h.s) ?_)
  have hb : Below w.heap.size w (w.alloc (.cells d.cs.toArray d.T)) := (Below.refl _ _).alloc (Nat.le_refl _) _
  have hsz : (w.alloc (.cells d.cs.toArray d.T)).heap.size = w.heap.size + 1 := by simp
  have hd1 : o.dst = dstOf ops k := by unfold dstOf; rw [ho]; rfl
  refine hK (L.setIfInBounds k true) _ _ ?_ rfl (hSb _ _ h.s hb)
  exact {
    size := h.size
    avlt := h.avlt
    rel := h.rel.add (by rw [← h.rel.1]; exact hks)
    pts := by rw [hd1]; exact .cons k w.heap.size d h.pts
    early := fun e he => by
      rcases List.mem_cons.1 he with rfl | he
      · exact ⟨hd, hk0, bx_alloc w d.T d.cs, h.base, fun hu => Nat.lt_irrefl _ (h.used _ hu)⟩
      · obtain ⟨e1, e2, e3, e4, e5⟩ := h.early e he
        exact ⟨e1, e2, e3.below hb, e4, e5⟩
    nd1 := by rw [List.map_cons, List.nodup_cons]; exact ⟨hkE, h.nd1⟩
    nd2 := by
      rw [List.map_cons, List.nodup_cons]
      refine ⟨fun hm => ?_, h.nd2⟩
      obtain ⟨e, he, h1⟩ := List.mem_map.1 hm
      have := (h.early e he).2.2.1.lt
      rw [h1] at this
      exact Nat.lt_irrefl _ this
    pend := h.pend
    used := fun c hc => by rw [hsz]; have := h.used c hc; omega
    base := by rw [hsz]; have := h.base; omega
    env := h.env.below hb
    s := hSb _ _ h.s hb }
theorem filter_len {i : Nat} : ∀ {E : List (Nat × Nat × Fd)}, (E.map (·.1)).Nodup → E.length ≤ (E.filter fun e => e.1 != i).length + 1
  | [], _ => Nat.zero_le _
  | e :: E, h => by
    rw [List.map_cons, List.nodup_cons] at h
    by_cases he : e.1 = i
    · have hE : E.filter (fun e => e.1 != i) = E := List.filter_eq_self.2 fun x hx => by
        rw [bne_iff_ne]; rintro h1; exact h.1 (List.mem_map.2 ⟨x, hx, h1.trans he.symm⟩)
      rw [List.filter_cons_of_neg (by simp [he]), hE]; exact Nat.le_refl _
    · rw [List.filter_cons_of_pos (by simpa using he), List.length_cons, List.length_cons]
      have := filter_len (i := i) h.2
      omega
theorem RelL.nil_eq {L0 L : Array Bool} (h : RelL L0 [] L) : L = L0 := by
  refine Array.ext h.1 fun k h1 h2 => ?_
  have := h.2 k
  simpa [h1, h2] using this
section
variable {B0 : Nat} {σ : List St} {av : List (Nat × Fd)} {us : List Nat} {a : Act} {l : List SF} {L0 : Array Bool} {E : List (Nat × Nat × Fd)} {L : Array Bool} {a' : Act} {w : World}
/-- What may come up next is a floating operation, or would come up with all those of AV done. -/
theorem Inv.next (h : Inv P ops S B0 σ av us a l L0 E L a' w) {k : Nat} (hk : k ∈ Region.ready md ops L) (hn : (av.map (·.1)).contains k = false) (AV : List Nat) (hAV : ∀ j ∈ AV, (av.map (·.1)).contains j = true) (hE : ∀ e ∈ E, e.1 ∈ AV) :
    k ∈ Region.ready md ops (setAll L0 AV) := by
  have hlt : ∀ j ∈ AV, j < L0.size := fun j hj => by rw [h.size]; exact h.avlt j (hAV j hj)
  obtain ⟨hun, o, ho, hall⟩ := mem_ready.1 hk
  have hks : k < L.size := getD_size hun
  have hkf : L.getD k false = false := by rw [← getD_tf hks]; exact hun
  have hr := (h.rel.2 k).symm
  rw [hkf, Bool.or_eq_false_iff] at hr
  refine mem_ready.2 ⟨?_, o, ho, fun e he hb => ?_⟩
  · obtain ⟨h1, h2⟩ := setAll_get AV L0 k hlt
    rw [getD_tf (by rw [h1, ← h.rel.1]; exact hks), h2, hr.1, Bool.false_or]
    rw [Bool.eq_false_iff]
    intro hc
    rw [hAV k (List.contains_iff_mem.1 hc)] at hn
    cases hn
  · obtain ⟨h1, h2⟩ := setAll_get AV L0 e.on hlt
    have h3 := hall e he hb
    rw [h.rel.2, Bool.or_eq_true] at h3
    rw [h2, Bool.or_eq_true]
    rcases h3 with h3 | h3
    · exact .inl h3
    · refine .inr ?_
      obtain ⟨x, hx, hx1⟩ := List.mem_map.1 (List.contains_iff_mem.1 h3)
      rw [← hx1]
      exact List.contains_iff_mem.2 (hE x hx)
theorem Inv.ready (h : Inv P ops S B0 σ av us a l L0 E L a' w) {i : Nat} (hi : i ∈ Region.ready md ops L0) (hE : i ∉ E.map (·.1)) : i ∈ Region.ready md ops L := by
  obtain ⟨hun, o, ho, hall⟩ := mem_ready.1 hi
  have hs : i < L0.size := getD_size hun
  refine mem_ready.2 ⟨?_, o, ho, fun e he hb => by rw [h.rel.2, hall e he hb]; rfl⟩
  rw [getD_tf (by rw [h.rel.1]; exact hs), h.rel.2, ← getD_tf hs, hun, Bool.false_or, Bool.eq_false_iff]
  intro hc
  exact hE (List.contains_iff_mem.1 hc)
theorem Inv.count (h : Inv P ops S B0 σ av us a l L0 E L a' w) : E.length ≤ (opsOf σ).length := by
  have := length_le_of_nodup (E.map (·.1)) (opsOf σ) h.nd1 fun x hx => by
    obtain ⟨e, he, rfl⟩ := List.mem_map.1 hx
    obtain ⟨e1, e2, _⟩ := h.early e he
    exact apartTo_mem (h.pend _ _ e1 e2).2
  simpa using this
end
theorem nodup_inj {E : List (Nat × Nat × Fd)} (h : (E.map (·.2.1)).Nodup) {x y : Nat × Nat × Fd} (hx : x ∈ E) (hy : y ∈ E) (hxy : x.2.1 = y.2.1) : x = y := by
  induction E with
  | nil => cases hx
  | cons e E ih =>
    rw [List.map_cons, List.nodup_cons] at h
    rcases List.mem_cons.1 hx with h1 | h1 <;> rcases List.mem_cons.1 hy with h2 | h2
    · rw [h1, h2]
    · exact absurd (List.mem_map.2 ⟨y, h2, by rw [← h1]; exact hxy.symm⟩) h.1
    · exact absurd (List.mem_map.2 ⟨x, h1, by rw [← h2]; exact hxy⟩) h.1
    · exact ih h.2 h1 h2
theorem ab_sound {B0 f0 : Nat} {LE : Array Bool} {Fin : Act → List SF → Prop} (hns : Region.noSelect ops = true) (hSb : ∀ w w', S w → Below w.heap.size w w' → S w') (hQ1 : ∀ d v c a w, Q (.panic c) (a.put d v) w → Q (.panic c) a w) (hQ2 : ∀ d v c a w, Q (.panic c) a w → Q (.panic c) (a.put d v) w)
    (hFin : ∀ a l, Fin a l → ∀ w, Env w l → S w → wpAnyH P md ops Q S f0 LE a w) :
    ∀ (f : Nat) (σ : List St) (av : List (Nat × Fd)) (us : List Nat) (a : Act) (l : List SF) (L0 : Array Bool) (E : List (Nat × Nat × Fd)) (L : Array Bool) (a' : Act) (w : World),
      abS P ops Q S B0 Fin σ av us a l → okF md ops LE σ (av.map (·.1)) L0 = true → Inv P ops S B0 σ av us a l L0 E L a' w → (opsOf σ).length + f0 ≤ f + E.length → wpAnyH P md ops Q S f L a' w := by
  have hs := Region.noSelect_spec hns
  have hQ2' : ∀ (E : List (Nat × Nat × Fd)) (a a' : Act), Pts ops E a a' → ∀ c w, Q (.panic c) a w → Q (.panic c) a' w := by
    intro E a a' h
    induction h with
    | nil a => exact fun c w h => h
    | cons j b d h ih => exact fun c w h' => hQ2 _ _ _ _ _ (ih c w h')
  intro f
  induction f using Nat.strongRecOn with
  | ind f ihf =>
  intro σ
  induction σ with
  | nil =>
    intro av us a l L0 E L a' w hab hok h hf
    simp only [okF, Bool.and_eq_true, beq_iff_eq] at hok
    obtain ⟨rfl, hall⟩ := hok
    have hE : E = [] := by
      cases E with
      | nil => rfl
      | cons e E =>
        exfalso
        obtain ⟨e1, e2, _⟩ := h.early e List.mem_cons_self
        have h1 := List.all_eq_true.1 hall e.1 (List.contains_iff_mem.1 (mem_lookup e1))
        rw [getD_tf (getD_size e2)] at e2
        rw [e2] at h1; cases h1
    subst hE
    have hp := h.pts
    cases hp
    rw [h.rel.nil_eq]
    refine wpAnyH_le ?_ (hFin a l hab w h.env h.s)
    simpa [opsOf] using hf
  | cons st σ ih =>
    intro av us a l L0 E L a' w hab hok h hf
    cases st with
    | av j =>
      obtain ⟨d, hrun, hab⟩ := hab
      simp only [okF, Bool.and_eq_true, Bool.not_eq_true'] at hok
      obtain ⟨⟨⟨k1, k2⟩, k3⟩, k4⟩ := hok
      have hjs : j < ops.size := by obtain ⟨o, ho, _⟩ := hrun; exact (Array.getElem?_eq_some_iff.1 ho).1
      have hne : ∀ k d', av.lookup k = some d' → (k == j) = false := fun k d' hk => by
        rw [beq_eq_false_iff_ne]; rintro rfl
        rw [mem_lookup hk] at k1; cases k1
      refine ih ((j, d) :: av) us a l L0 E L a' w hab k4 ?_ hf
      exact { h with
        avlt := fun k hk => by
          rw [List.map_cons, List.contains_cons, Bool.or_eq_true, beq_iff_eq] at hk
          rcases hk with rfl | hk
          · exact hjs
          · exact h.avlt k hk
        early := fun e he => by
          obtain ⟨e1, e2⟩ := h.early e he
          exact ⟨by rw [List.lookup_cons, hne _ _ e1]; exact e1, e2⟩
        pend := fun k d' hk hl => by
          rw [List.lookup_cons] at hk
          cases hkj : k == j with
          | true =>
            rw [hkj] at hk
            cases hk
            obtain rfl : k = j := by simpa using hkj
            exact ⟨hrun, k3⟩
          | false =>
            rw [hkj] at hk
            exact h.pend k d' hk hl }
    | op i =>
      have hlen : (opsOf (.op i :: σ)).length = (opsOf σ).length + 1 := rfl
      cases hav : av.lookup i with
      | some d =>
        have hab' := hab
        simp only [abS, hav] at hab
        have hci := mem_lookup hav
        have hok' := hok
        simp only [okF, hci, Bool.and_eq_true, beq_iff_eq] at hok
        obtain ⟨⟨k1, k2⟩, k3⟩ := hok
        have k2 : i ∈ Region.ready md ops L0 := by simpa using k2
        have hi0 : L0.getD i true = false := (mem_ready.1 k2).1
        have his : i < L0.size := getD_size hi0
        by_cases hiE : i ∈ E.map (·.1)
        · obtain ⟨⟨i', b, d'⟩, he, rfl⟩ := List.mem_map.1 hiE
          obtain ⟨e1, e2, e3, e4, e5⟩ := h.early _ he
          simp only at e1 e2 e3 e4 e5 hav his hi0 hci k1 k2 k3 hab ⊢
          rw [hav] at e1
          cases e1
          obtain ⟨⟨oi, hoi, _⟩, _⟩ := h.pend i' d hav hi0
          have hpj : ∀ j dj, av.lookup j = some dj → L0.getD j true = false → j ≠ i' → apart2 ops j i' = true ∧ apartTo ops j σ = true := fun j dj hj hl hne => by
            have := (h.pend j dj hj hl).2
            unfold apartTo at this
            rw [if_neg (fun e => hne e.symm), Bool.and_eq_true] at this
            exact this
          refine ih av (b :: us) _ _ (L0.setIfInBounds i' true) (E.filter fun e => e.1 != i') L a' w (hab b e4 e5) k3 ?_ ?_
          · exact {
              size := by simp [h.size]
              avlt := h.avlt
              rel := h.rel.drop his hiE
              pts := h.pts.remove he (fun e he hne t ht ht2 => by
                obtain ⟨f1, f2, _⟩ := h.early e he
                obtain ⟨⟨oe, hoe, _⟩, _⟩ := h.pend e.1 _ f1 f2
                have hap := (apart2_spec hoe hoi (hpj e.1 _ f1 f2 hne).1).2
                have hd1 : oi.dst = some t := by unfold dstOf at ht; rw [hoi] at ht; exact ht
                have hd2 : oe.dst = some t := by unfold dstOf at ht2; rw [hoe] at ht2; exact ht2
                exact (Oper.apart_spec hap).2.1 t hd1 hd2) h.nd1
              early := fun e he' => by
                obtain ⟨he1, he2⟩ := List.mem_filter.1 he'
                rw [bne_iff_ne] at he2
                obtain ⟨f1, f2, f3, f4, f5⟩ := h.early e he1
                refine ⟨f1, by rw [getD_set_ne true (fun h => he2 h.symm)]; exact f2, f3, f4, fun hm => ?_⟩
                rcases List.mem_cons.1 hm with hm | hm
                · have hnd := h.nd2
                  have : e = (i', b, d) := nodup_inj hnd he1 he hm
                  exact he2 (by rw [this])
                · exact f5 hm
              nd1 := (List.filter_sublist.map _).nodup h.nd1
              nd2 := (List.filter_sublist.map _).nodup h.nd2
              pend := fun j dj hj hl => by
                have hne : j ≠ i' := by
                  rintro rfl
                  rw [getD_tf (by simpa using his), getD_set L0 j j his] at hl
                  simp at hl
                rw [getD_set_ne true (fun h => hne h.symm)] at hl
                obtain ⟨p1, p2⟩ := hpj j dj hj hl hne
                refine ⟨(h.pend j dj hj hl).1.put hs _ _ (fun oj hoj t ht => ?_), p2⟩
                have hd1 : oi.dst = some t := by unfold dstOf at ht; rw [hoi] at ht; exact ht
                exact (Oper.apart_spec (apart2_spec hoj hoi p1).2).1 t hd1
              used := fun c hc => by
                rcases List.mem_cons.1 hc with rfl | hc
                · exact e3.lt
                · exact h.used c hc
              base := h.base
              env := ⟨e3, h.env⟩
              s := h.s }
          · have := filter_len (i := i') h.nd1
            rw [hlen] at hf
            omega
        · have hcnt : E.length ≤ (opsOf σ).length := by
            have := length_le_of_nodup (E.map (·.1)) (opsOf σ) h.nd1 fun x hx => by
              obtain ⟨e, he, rfl⟩ := List.mem_map.1 hx
              obtain ⟨e1, e2, _⟩ := h.early e he
              rcases List.mem_cons.1 (apartTo_mem (h.pend _ _ e1 e2).2) with h1 | h1
              · exact absurd (h1 ▸ hx) hiE
              · exact h1
            simpa using this
          obtain ⟨g, rfl⟩ : ∃ g, f = g + 1 := ⟨f - 1, by rw [hlen] at hf; omega⟩
          have hrd := h.ready k2 hiE
          refine ⟨fun h0 => (by rw [h0] at hrd; cases hrd), fun k hk => ?_⟩
          cases hkav : av.lookup k with
          | some dk =>
            refine h.step hs hSb hk hkav _ (fun L' a1 w1 hinv hL' hs1 => ⟨hs1, ?_⟩)
            rw [← hL']
            exact ihf g (Nat.lt_succ_self g) (.op i :: σ) av us a l L0 _ L' a1 w1 hab' hok' hinv (by rw [List.length_cons]; omega)
          | none =>
            exfalso
            have hkn : (av.map (·.1)).contains k = false := by
              rw [Bool.eq_false_iff]; intro hc
              obtain ⟨d', hd'⟩ := lookup_mem hc
              rw [hkav] at hd'; cases hd'
            have := h.next hk hkn ((av.map (·.1)).filter (· != i)) (fun j hj => List.contains_iff_mem.2 (List.mem_filter.1 hj).1) (fun e he => List.mem_filter.2 ⟨List.contains_iff_mem.1 (mem_lookup (h.early e he).1), by rw [bne_iff_ne]; exact fun h1 => hiE (List.mem_map.2 ⟨e, he, h1⟩)⟩)
            rw [k1] at this
            obtain rfl : k = i := by simpa using this
            rw [hci] at hkn; cases hkn
      | none =>
        have hci : (av.map (·.1)).contains i = false := by
          rw [Bool.eq_false_iff]; intro hc
          obtain ⟨d', hd'⟩ := lookup_mem hc
          rw [hav] at hd'; cases hd'
        have hiE : i ∉ E.map (·.1) := fun hm => by
          obtain ⟨e, he, rfl⟩ := List.mem_map.1 hm
          rw [(h.early e he).1] at hav; cases hav
        have hcnt : E.length ≤ (opsOf σ).length := by
          have := length_le_of_nodup (E.map (·.1)) (opsOf σ) h.nd1 fun x hx => by
            obtain ⟨e, he, rfl⟩ := List.mem_map.1 hx
            obtain ⟨e1, e2, _⟩ := h.early e he
            rcases List.mem_cons.1 (apartTo_mem (h.pend _ _ e1 e2).2) with h1 | h1
            · exact absurd (h1 ▸ hx) hiE
            · exact h1
          simpa using this
        obtain ⟨g, rfl⟩ : ∃ g, f = g + 1 := ⟨f - 1, by rw [hlen] at hf; omega⟩
        have hab' := hab
        have hok' := hok
        cases hoi : ops[i]? with
        | none => simp only [abS, hav, hoi] at hab
        | some oi =>
          simp only [abS, hav, hoi] at hab
          have hpj : ∀ j dj, av.lookup j = some dj → L0.getD j true = false → apart2 ops j i = true ∧ apartTo ops j σ = true := fun j dj hj hl => by
            have := (h.pend j dj hj hl).2
            unfold apartTo at this
            rw [if_neg (fun e => by rw [e, hj] at hav; cases hav), Bool.and_eq_true] at this
            exact this
          have hex := h.pts.exec oi (fun cs b => hs i oi cs b hoi) fun e he t ht => by
            obtain ⟨e1, e2, _⟩ := h.early e he
            obtain ⟨⟨oe, hoe, _⟩, _⟩ := h.pend e.1 _ e1 e2
            have hd' : oe.dst = some t := by unfold dstOf at ht; rw [hoe] at ht; exact ht
            exact (Oper.apart_spec (apart2_spec hoe hoi (hpj e.1 _ e1 e2).1).1).1 t hd'
          have hptsd : ∀ u, Pts ops E (a.put oi.dst u) (a'.put oi.dst u) := fun u => h.pts.put _ _ fun e he t ht ht2 => by
            obtain ⟨e1, e2, _⟩ := h.early e he
            obtain ⟨⟨oe, hoe, _⟩, _⟩ := h.pend e.1 _ e1 e2
            have hd2 : oe.dst = some t := by unfold dstOf at ht2; rw [hoe] at ht2; exact ht2
            exact (Oper.apart_spec (apart2_spec hoe hoi (hpj e.1 _ e1 e2).1).2).2.1 t ht hd2
          have hinv : ∀ (u : Value) (l' : List SF) (w' : World), i < L0.size → Env w' l' → Below w.heap.size w w' → Inv P ops S B0 σ av us (a.put oi.dst u) l' (L0.setIfInBounds i true) E (L.setIfInBounds i true) (a'.put oi.dst u) w' := fun u l' w' his hE' hb => {
            size := by simp [h.size]
            avlt := h.avlt
            rel := h.rel.set his
            pts := hptsd u
            early := fun e he => by
              obtain ⟨f1, f2, f3, f4, f5⟩ := h.early e he
              exact ⟨f1, by rw [getD_set_ne true (fun h1 => hiE (List.mem_map.2 ⟨e, he, h1.symm⟩))]; exact f2, f3.below hb, f4, f5⟩
            nd1 := h.nd1
            nd2 := h.nd2
            pend := fun j dj hj hl => by
              have hne : i ≠ j := by rintro rfl; rw [hav] at hj; cases hj
              rw [getD_set_ne true hne] at hl
              obtain ⟨p1, p2⟩ := hpj j dj hj hl
              exact ⟨(h.pend j dj hj hl).1.put hs _ _ (fun oj hoj t ht => (Oper.apart_spec (apart2_spec hoj hoi p1).2).1 t ht), p2⟩
            used := fun c hc => Nat.lt_of_lt_of_le (h.used c hc) hb.size
            base := Nat.le_trans h.base hb.size
            env := hE'
            s := hSb _ _ h.s hb }
          by_cases hp : isPure oi = true
          · rw [if_pos hp] at hab
            obtain ⟨v, hy, hab⟩ := hab
            simp only [okF, hci, hoi, Option.map_some, hp, Bool.and_eq_true] at hok
            obtain ⟨⟨k1, k2⟩, k3⟩ := hok
            have k2 : i ∈ Region.ready md ops L0 := by simpa using k2
            have his : i < L0.size := getD_size (mem_ready.1 k2).1
            refine wpAnyH_first hoi hs (hQ1 oi.dst v) g L a' w ?_ (h.ready k2 hiE) (hy.of_same hex.1 hex.2) h.s ?_
            · intro j oj hj hne hun hno
              refine Region.free_spec hoi k1 j oj hj hne ?_ hno
              have hjs := getD_size hun
              rw [getD_tf hjs, h.rel.2, Bool.or_eq_false_iff] at hun
              rw [getD_tf (by rw [← h.rel.1]; exact hjs)]; exact hun.1
            · exact ihf g (Nat.lt_succ_self g) σ av us _ l _ E _ _ w hab k3 (hinv v l w his h.env (Below.refl _ _)) (by rw [hlen] at hf; omega)
          · rw [if_neg hp] at hab
            have hp' : isPure oi = false := by simpa using hp
            simp only [okF, hci, hoi, Option.map_some, hp', Bool.and_eq_true, beq_iff_eq] at hok
            obtain ⟨⟨k1, k2⟩, k3⟩ := hok
            have k2 : i ∈ Region.ready md ops L0 := by simpa using k2
            have his : i < L0.size := getD_size (mem_ready.1 k2).1
            have hrd := h.ready k2 hiE
            refine ⟨fun h0 => (by rw [h0] at hrd; cases hrd), fun k hk => ?_⟩
            cases hkav : av.lookup k with
            | some dk =>
              refine h.step hs hSb hk hkav _ (fun L' a1 w1 hinv hL' hs1 => ⟨hs1, ?_⟩)
              rw [← hL']
              exact ihf g (Nat.lt_succ_self g) (.op i :: σ) av us a l L0 _ L' a1 w1 hab' hok' hinv (by rw [List.length_cons]; omega)
            | none =>
              have hkn : (av.map (·.1)).contains k = false := by
                rw [Bool.eq_false_iff]; intro hc
                obtain ⟨d', hd'⟩ := lookup_mem hc
                rw [hkav] at hd'; cases hd'
              have := h.next hk hkn (av.map (·.1)) (fun j hj => List.contains_iff_mem.2 hj) (fun e he => List.contains_iff_mem.1 (mem_lookup (h.early e he).1))
              rw [k1] at this
              obtain rfl : k = i := by simpa using this
              refine wpOp_mono ?_ (wpOp_move hoi hex.1 hex.2 (fun c w h' => hQ2' E a a' h.pts c w h') (hab w h.env h.s))
              rintro a1 w1 (⟨u, rfl, hb, _, l', hE', hab2⟩ | ⟨dd, hb, ⟨u, hu⟩, _⟩)
              · exact ⟨hSb _ _ h.s hb, ihf g (Nat.lt_succ_self g) σ av us _ l' _ E _ _ w1 hab2 k3 (hinv u l' w1 his hE' hb) (by rw [hlen] at hf; omega)⟩
              · exfalso
                have := congrArg Act.defers hu
                rw [Act.put_defers', Act.put_defers'] at this
                have := congrArg List.length this
                simp at this
/-- A region that draws: the walk σ up to what is listed in LE, where one operation at a time is left. -/
theorem wp_schedF {l : List SF} {id : Nat} {a : Act} {w : World} (E : Env w l) (σ : List St) (f0 : Nat) (LE : Array Bool) (hm : P.follows .mixedOrders = true) (hs : Region.noSelect ops = true)
    (hok : okF .any ops LE σ [] (Array.replicate ops.size false) = true) (hf : ((opsOf σ).length + f0 == ops.size) = true) (hQ1 : ∀ d v c a w, Q (.panic c) (a.put d v) w → Q (.panic c) a w) (hQ2 : ∀ d v c a w, Q (.panic c) a w → Q (.panic c) (a.put d v) w)
    (h : abS P ops Q (fun w => Env w l) w.heap.size (fun a' l' => ∀ w', Env w' l' → wpAnyH P .any ops Q (fun w => Env w l) f0 LE a' w') σ [] [] a l) : (Code.region id ops true).wp P Q a w := by
  refine wp_region_held (S := fun w => Env w l) hm ?_
  refine ab_sound (md := .any) (f0 := f0) (LE := LE) (B0 := w.heap.size) hs (fun _ _ h hb => h.below hb) hQ1 hQ2 (fun a l' h w hE _ => h w hE) ops.size σ [] [] a l (Array.replicate ops.size false) [] _ a w.drew h hok ?_ (by have := beq_iff_eq.1 hf; simp; omega)
  exact {
    size := by simp
    avlt := fun j h => by simp at h
    rel := ⟨rfl, fun k => by simp⟩
    pts := .nil a
    early := fun e h => by cases h
    nd1 := List.nodup_nil
    nd2 := List.nodup_nil
    pend := fun j d h => by simp at h
    used := fun c h => by cases h
    base := Nat.le_refl _
    env := E.drew
    s := E.drew }
section
variable {B0 : Nat} {Fin : Act → List SF → Prop} {σ : List St} {av : List (Nat × Fd)} {us : List Nat} {l : List SF} {o : Oper} {i k : Nat} {v : Value} {fr : List Value}
/-- An operation may come up from now on. -/
theorem FA {a : Act} (d : Fd) (hr : RunF P ops S i d a) (h : abS P ops Q S B0 Fin σ ((i, d) :: av) us a l) : abS P ops Q S B0 Fin (.av i :: σ) av us a l := ⟨d, hr, h⟩
/-- A quiet operation. -/
theorem FP (hl : av.lookup i = none) (ho : ops[i]? = some o) (hp : isPure o = true) (hg : Region.wanted o (yielded ops fr.toArray) = true) (hd : o.dst = some k) (hr : ∀ w, S w → (execOp (evl fr) o).run P w = .ok (.value v) w)
    (h : abS P ops Q S B0 Fin σ av us ⟨(fr.set k v).toArray, []⟩ l) : abS P ops Q S B0 Fin (.op i :: σ) av us ⟨fr.toArray, []⟩ l := by
  simp only [abS, hl, ho]
  rw [if_pos hp]
  exact ⟨v, .inl ⟨hg, by rw [eval_evl]; exact hr⟩, by rw [put_some fr k v hd]; exact h⟩
/-- What is left behind an operation with effects. -/
structure KF (P : Program) (ops : Array Oper) (Q : Exit → Act → World → Prop) (S : World → Prop) (B0 : Nat) (Fin : Act → List SF → Prop) (σ : List St) (av : List (Nat × Fd)) (us : List Nat) (o : Oper) (a : Act) (w : World) (a' : Act) (w' : World) : Prop where
  b : Below w.heap.size w w'
  u : ∃ u, a' = a.put o.dst u
  h : ∃ l', Env w' l' ∧ abS P ops Q S B0 Fin σ av us a' l'
theorem kF {w w' : World} {l' : List SF} (hb : Below w.heap.size w w') (E : Env w' l') (hd : o.dst = some k) (h : abS P ops Q S B0 Fin σ av us ⟨(fr.set k v).toArray, []⟩ l') : KF P ops Q S B0 Fin σ av us o ⟨fr.toArray, []⟩ w (Act.put ⟨fr.toArray, []⟩ o.dst v) w' :=
  ⟨hb, ⟨v, rfl⟩, l', E, by rw [put_some fr k v hd]; exact h⟩
/-- An operation with effects that makes new memory at most. -/
theorem FE (hl : av.lookup i = none) (ho : ops[i]? = some o) (hp : isPure o = false) (hg : Region.wanted o (yielded ops fr.toArray) = true)
    (h : ∀ w, Env w l → o.wp P ⟨fr.toArray, []⟩ w (KF P ops Q S B0 Fin σ av us o ⟨fr.toArray, []⟩ w) Q) : abS P ops Q S B0 Fin (.op i :: σ) av us ⟨fr.toArray, []⟩ l := by
  simp only [abS, hl, ho]
  rw [if_neg (by simp [hp])]
  intro w hE _
  unfold wpOp
  simp only [ho]
  rw [if_pos hg]
  exact .inl (Oper.wp_mono (fun a' w' h' => ⟨h'.b, h'.u, h'.h⟩) (h w hE))
/-- A floating operation, at last. -/
theorem FF {d : Fd} (hl : av.lookup i = some d) (hd : dstOf ops i = some k) (h : ∀ b, B0 ≤ b → b ∉ us → abS P ops Q S B0 Fin σ av (b :: us) ⟨(fr.set k (d.vf b)).toArray, []⟩ (fX b d.T d.cs :: l)) : abS P ops Q S B0 Fin (.op i :: σ) av us ⟨fr.toArray, []⟩ l := by
  simp only [abS, hl]
  intro b h1 h2
  have := h b h1 h2
  rw [← put_some (o := ⟨some k, .nilCheck (.tmp 0), 0, "", #[], none⟩) fr k (d.vf b) rfl] at this
  rw [hd]; exact this
/-- An alloc. -/
theorem RunF.alloc {T n : Nat} {zs : List Value} {a : Act} (hA : Ag P T n zs) (ho : ops[i]? = some o) (hop : o.op = .alloc T) (hg : o.guard = none) : RunF P ops S i ⟨fun b => .pointer (some ⟨b, 0, none⟩), T, zs⟩ a := by
  refine ⟨o, ho, by unfold Region.wanted; rw [hg], fun w _ => ?_⟩
  have hi := hA.i
  unfold execOp; rw [hop]
  cases hq : P.info? T with
  | none => simp [hq] at hi
  | some i =>
    simp [hq] at hi
    simp [Instr.alloc, zeroValue, typeInfo, hq, hi.1, newVar, newRow, Sem.run_bind, Value.cells, newObj]
    rfl
end
end
end Go.Proofs.YtndpjfhhigpbhaaGreat
