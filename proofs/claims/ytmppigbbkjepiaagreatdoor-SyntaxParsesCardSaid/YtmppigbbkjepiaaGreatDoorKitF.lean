/- Helping facts of KitF; no other conditions. -/
import Derived.Test.YtmppigbbkjepiaaGreatDoorDecim
namespace Go.Proofs.YtmppigbbkjepiaaGreatDoor
open Go.RowKit W
variable {B0 b i j k : Nat} {L L0 : Array Bool} {a a' : Act} {l l' : List SF} {oj ok : Oper} {p : Prop} {w w' : World}
theorem Zkc (h : p := by
 have := LW (E.map (·.1)) (VW σ) h.nd1 fun x hx => by
  obtain ⟨e, D, rfl⟩ := List.mem_map.1 hx
  obtain ⟨e1, e2, _⟩ := h.early e D
  rcases List.mem_cons.1 (SS (h.pend _ _ e1 e2).2) with h1 | h1
  . exact absurd (h1 ▸ hx) G
  exact h1
 simpa using this
 ) : p := h
theorem ZAT (h : p := by
 refine h.step hs hSb J U _ (fun L' a1 w1 I ak ac => ⟨ac, ?_⟩)
 rw [<- ak]
 exact ihf g (Nat.lt_succ_self g) (.op i :: σ) av us a l L0 _ L' a1 w1 a7 a5 I (by rw [List.length_cons]; omega)
 ) : p := h
theorem ZJH (h : p := by
 rw [Bool.eq_false_iff]; intro hc
 obtain ⟨d', H⟩ := YS hc
 rw [U] at H; cases H
 ) : p := h
structure Fd where
 vf : Nat -> Value
 T : Nat
 cs : List Value
inductive St where
 | op (i : Nat)
 | av (j : Nat)
section
variable {P : Program} {md : Region.Mode} {ops : Array Oper} {Q : Exit -> Act -> World -> Prop} {S : World -> Prop}
def RunF (P : Program) (ops : Array Oper) (S : World -> Prop) (j : Nat) (d : Fd) (a : Act) : Prop :=
 ∃ o, ops[j]? = some o /\ Region.wanted o (yielded ops a.tmps) = true /\ ∀ w, S w -> (execOp a.eval o).run P w = .ok (.value (d.vf w.heap.size)) (w.alloc (.cells d.cs.toArray d.T))
def TM (ops : Array Oper) (i : Nat) : Option Tmp := (ops[i]?).bind (·.dst)
def qD (P : Program) (ops : Array Oper) (Q : Exit -> Act -> World -> Prop) (S : World -> Prop) (B0 : Nat) (Fin : Act -> List SF -> Prop) : List St -> List (Nat × Fd) -> List Nat -> Act -> List SF -> Prop
 | [], _, _, a, l => Fin a l
 | .av j :: σ, av, us, a, l => ∃ d, RunF P ops S j d a /\ qD P ops Q S B0 Fin σ ((j, d) :: av) us a l
 | .op i :: σ, av, us, a, l => match av.lookup i with
   | some d => ∀ b, B0 <= b -> b ∉ us -> qD P ops Q S B0 Fin σ av (b :: us) (a.put (TM ops i) (d.vf b)) (fX b d.T d.cs :: l)
   | none => match ops[i]? with
     | none => False
     | some o => if LH o = true then ∃ v, YieldsIf P ops S o v a /\ qD P ops Q S B0 Fin σ av us (a.put o.dst v) l
       else ∀ w, Env w l -> S w -> wpOp P ops Q i (fun a' w' => Below w.heap.size w w' /\ (∃ u, a' = a.put o.dst u) /\ ∃ l' us', Env w' l' /\ (∀ c ∈ us', c ∈ us ∨ w.heap.size <= c /\ c < w'.heap.size) /\ qD P ops Q S B0 Fin σ av us' a' l') a w
def YY (ops : Array Oper) (j k : Nat) : Bool := match ops[j]?, ops[k]? with
 | some oj, some ok => oj.apart ops ok && ok.apart ops oj
 | _, _ => false
def OC (ops : Array Oper) (j : Nat) : List St -> Bool
 | [] => false
 | .op k :: σ => if k = j then true else YY ops j k && OC ops j σ
 | .av _ :: σ => OC ops j σ
def dC (L : Array Bool) (l : List Nat) : Array Bool := l.foldl (fun L i => L.setIfInBounds i true) L
def Uv (md : Region.Mode) (ops : Array Oper) (LE : Array Bool) : List St -> List Nat -> Array Bool -> Bool
 | [], AV, L0 => L0 == LE && AV.all fun j => L0.getD j false
 | .av j :: σ, AV, L0 => !AV.contains j && !L0.getD j true && OC ops j σ && Uv md ops LE σ (j :: AV) L0
 | .op i :: σ, AV, L0 => (match AV.contains i with
   | true => Region.ready md ops (dC L0 (AV.filter (· != i))) == [i] && (Region.ready md ops L0).contains i
   | false => match (ops[i]?).map LH with
     | some true => Region.free md ops L0 i && (Region.ready md ops L0).contains i
     | some false => Region.ready md ops (dC L0 AV) == [i] && (Region.ready md ops L0).contains i
     | none => false) && Uv md ops LE σ AV (L0.setIfInBounds i true)
def VW : List St -> List Nat
 | [] => []
 | .op i :: σ => i :: VW σ
 | .av _ :: σ => VW σ
inductive Pts (ops : Array Oper) : List (Nat × Nat × Fd) -> Act -> Act -> Prop
 | nil (a : Act) : Pts ops [] a a
 | cons {E : List (Nat × Nat × Fd)} {a a' : Act} (j b : Nat) (d : Fd) (h : Pts ops E a a') : Pts ops ((j, b, d) :: E) a (a'.put (TM ops j) (d.vf b))
theorem Pts.put {E : List (Nat × Nat × Fd)} (h : Pts ops E a a') (x : Option Tmp) (v : Value) (hx : ∀ e ∈ E, ∀ t, x = some t -> TM ops e.1 ≠ some t) : Pts ops E (a.put x v) (a'.put x v) := by
 induction h with
 | nil a => exact .nil _
 | cons j b d h ih =>
   have l := ih fun e k => hx e (List.mem_cons_of_mem _ k)
   have f := Pts.cons j b d l
   rw [Act.put_comm _ _ _ (hx (j, b, d) List.mem_cons_self)] at f
   exact f
theorem Pts.remove {E : List (Nat × Nat × Fd)} (h : Pts ops E a a') {d : Fd} (hm : (j, b, d) ∈ E) (hn : ∀ e ∈ E, e.1 ≠ j -> ∀ t, TM ops j = some t -> TM ops e.1 ≠ some t) (hnd : (E.map (·.1)).Nodup) :
 Pts ops (E.filter fun e => e.1 != j) (a.put (TM ops j) (d.vf b)) a' := by
 induction h with
 | nil a => cases hm
 | cons k c d' h ih =>
   rename_i E a a'
   rw [List.map_cons, List.nodup_cons] at hnd
   by_cases o : k = j
   . subst o
     have q : E.filter (fun e => e.1 != k) = E := List.filter_eq_self.2 fun e l => by
      rw [bne_iff_ne]; rintro f; exact hnd.1 (List.mem_map.2 ⟨e, l, f⟩)
     have l : (k, b, d) = (k, c, d') := by
      rcases List.mem_cons.1 hm with f | f
      . exact f
      exact absurd (List.mem_map.2 ⟨_, f, rfl⟩) hnd.1
     cases l
     rw [List.filter_cons_of_neg AH, q]
     refine Pts.put h _ _ fun e l t p => hn e (List.mem_cons_of_mem _ l) (fun f => hnd.1 (List.mem_map.2 ⟨e, l, f⟩)) t p
   rcases List.mem_cons.1 hm with f | f
   . cases f; exact absurd rfl o
   rw [List.filter_cons_of_pos (by simpa using o)]
   exact .cons k c d' (ih f (fun e l => hn e (List.mem_cons_of_mem _ l)) hnd.2)
theorem Pts.exec {E : List (Nat × Nat × Fd)} (h : Pts ops E a a') (o : Oper) (hs : ∀ cs b, o.op ≠ .select cs b) (hx : ∀ e ∈ E, ∀ t, TM ops e.1 = some t -> t ∉ o.looksAt ops) :
 execOp a'.eval o = execOp a.eval o /\ Region.wanted o (yielded ops a'.tmps) = Region.wanted o (yielded ops a.tmps) := by
 induction h with
 | nil a => exact ⟨rfl, rfl⟩
 | cons j b d h ih =>
   have k := ih fun e l => hx e (List.mem_cons_of_mem _ l)
   have f := hx (j, b, d) List.mem_cons_self
   exact ⟨(execOp_put o hs _ _ _ f).trans k.1, (wanted_put o _ _ _ f).trans k.2⟩
theorem Ib {o : Oper} (ho : ops[i]? = some o) {a1 a2 : Act} {w : World} (he : execOp a2.eval o = execOp a1.eval o) (hw : Region.wanted o (yielded ops a2.tmps) = Region.wanted o (yielded ops a1.tmps))
 (hQ : ∀ c w, Q (.panic c) a1 w -> Q (.panic c) a2 w) {K : Act -> World -> Prop} (h : wpOp P ops Q i K a1 w) :
 wpOp P ops Q i (fun a' w' => (∃ u, a' = a2.put o.dst u /\ K (a1.put o.dst u) w') ∨ ∃ d, K (({ a1 with defers := d :: a1.defers } : Act).put o.dst undef) w') a2 w := by
 unfold wpOp at *
 simp only [ho] at *
 rw [hw]
 split
 . rename_i hg
   simp only [hg, if_true] at h
   rcases h with h | ⟨l, k⟩
   case inr => exact .inr ⟨by unfold Oper.asks at *; rw [he]; exact l, k⟩
   refine .inl ?_
   unfold Oper.wp at *
   rw [he]
   generalize (execOp a1.eval o).run P w = r at *
   cases r with
   | ok n w' =>
     cases n <;> simp only [Oper.upon] at h ⊢
     case value u => exact .inl ⟨u, rfl, h⟩
     case skip => exact .inl ⟨undef, rfl, h⟩
     case defer d => exact .inr ⟨d, h⟩
     case enter f args =>
      refine Calls.mono h fun e p he => ?_
      cases e with
      | returned u => exact .inl ⟨u, rfl, he⟩
      | panicked c => exact hQ _ _ he
      | outgrown => exact he
     case row row args => exact Rows.mono h fun u p he => .inl ⟨u, rfl, he⟩
   | halt x w' =>
     cases x <;> simp only [Oper.upon] at h ⊢
     case panic u => exact hQ _ _ h
 rename_i hg
 simp only [hg] at h
 exact .inl ⟨undef, rfl, h⟩
def RelL (L0 : Array Bool) (E : List (Nat × Nat × Fd)) (L : Array Bool) : Prop := L.size = L0.size /\ ∀ k, L.getD k false = (L0.getD k false || (E.map (·.1)).contains k)
theorem XQ (L : Array Bool) (i k : Nat) (h : i < L.size) : (L.setIfInBounds i true).getD k false = (decide (i = k) || L.getD k false) := by
 by_cases e : i = k
 . subst e; simp [h]
 rw [getD_set_ne false e]; simp [e]
theorem RJ (h : k < L.size) : L.getD k true = L.getD k false := by simp [h]
theorem PI (h : L.getD k true = false) : k < L.size := by
 rcases Nat.lt_or_ge k L.size with e | e
 . exact e
 simp [Array.getElem?_eq_none e] at h
theorem dB : ∀ (l : List Nat) (L : Array Bool) (k : Nat), (∀ i ∈ l, i < L.size) -> (dC L l).size = L.size /\ (dC L l).getD k false = (L.getD k false || l.contains k)
 | [], L, k, _ => by simp [dC]
 | i :: l, L, k, h => by
   have h0 := h i List.mem_cons_self
   have ih := dB l (L.setIfInBounds i true) k (fun j hj => by rw [Array.size_setIfInBounds]; exact h j (List.mem_cons_of_mem _ hj))
   unfold dC at ih ⊢
   rw [List.foldl_cons, ih.1, ih.2, Array.size_setIfInBounds, XQ L i k h0]
   refine ⟨O, ?_⟩
   rw [List.contains_cons]
   have e : (k == i) = decide (i = k) := by rw [Bool.eq_iff_iff, beq_iff_eq, decide_eq_true_eq]; exact eq_comm
   rw [e]
   cases decide (i = k) <;> cases L.getD k false <;> simp
theorem RelL.set {E : List (Nat × Nat × Fd)} (h : RelL L0 E L) (hi : i < L0.size) : RelL (L0.setIfInBounds i true) E (L.setIfInBounds i true) := by
 refine ⟨by simp [h.1], fun k => ?_⟩
 rw [XQ L i k (by rw [h.1]; exact hi), XQ L0 i k hi, h.2 k]
 cases decide (i = k) <;> cases L0.getD k false <;> simp
theorem RelL.add {E : List (Nat × Nat × Fd)} (h : RelL L0 E L) {d : Fd} (hi : i < L0.size) : RelL L0 ((i, b, d) :: E) (L.setIfInBounds i true) := by
 refine ⟨by simp [h.1], fun k => ?_⟩
 rw [XQ L i k (by rw [h.1]; exact hi), h.2 k, List.map_cons, List.contains_cons]
 have e : (k == i) = decide (i = k) := by rw [Bool.eq_iff_iff, beq_iff_eq, decide_eq_true_eq]; exact eq_comm
 rw [e]
 cases decide (i = k) <;> cases L0.getD k false <;> simp
theorem RelL.drop {E : List (Nat × Nat × Fd)} (h : RelL L0 E L) (hi : i < L0.size) (hm : i ∈ E.map (·.1)) : RelL (L0.setIfInBounds i true) (E.filter fun e => e.1 != i) L := by
 refine ⟨by simp [h.1], fun k => ?_⟩
 rw [XQ L0 i k hi, h.2 k]
 by_cases f : i = k
 . subst f
   have : (E.map (·.1)).contains i = true := by simpa using hm
   rw [this]; simp
 have : (E.map (·.1)).contains k = ((E.filter fun e => e.1 != i).map (·.1)).contains k := by
  rw [Bool.eq_iff_iff, List.contains_iff_mem, List.contains_iff_mem, List.mem_map, List.mem_map]
  constructor
  . rintro ⟨e, l, rfl⟩; exact ⟨e, List.mem_filter.2 ⟨l, by rw [bne_iff_ne]; exact fun h => f h.symm⟩, rfl⟩
  rintro ⟨e, l, rfl⟩; exact ⟨e, (List.mem_filter.1 l).1, rfl⟩
 rw [this]; simp [f]
theorem LW : ∀ (A B : List Nat), A.Nodup -> (∀ x ∈ A, x ∈ B) -> A.length <= B.length
 | [], B, _, _ => Nat.zero_le _
 | a :: A, B, hn, hs => by
   rw [List.nodup_cons] at hn
   have ha := hs a List.mem_cons_self
   have ih := LW A (B.erase a) hn.2 fun x hx => (List.mem_erase_of_ne (fun (h : x = a) => hn.1 (h ▸ hx))).2 (hs x (List.mem_cons_of_mem _ hx))
   rw [List.length_erase_of_mem ha] at ih
   have : 0 < B.length := List.length_pos_of_mem ha
   rw [List.length_cons]; omega
theorem jO : ∀ (f : Nat) (L : Array Bool) (a : Act) (w : World), wpAnyH P md ops Q S f L a w -> wpAnyH P md ops Q S (f + 1) L a w
 | 0, L, a, w, h => ⟨fun _ => h.2, fun i hi => by rw [h.1] at hi; cases hi⟩
 | f + 1, L, a, w, h => ⟨h.1, fun i hi => wpOp_mono (fun a' w' h' => ⟨h'.1, jO f _ a' w' h'.2⟩) (h.2 i hi)⟩
theorem Ic {f g : Nat} (hfg : f <= g) (h : wpAnyH P md ops Q S f L a w) : wpAnyH P md ops Q S g L a w := by
 induction hfg with
 | refl => exact h
 | step _ ih => exact jO _ _ _ _ ih
theorem NR (hj : ops[j]? = some oj) (hk : ops[k]? = some ok) (h : YY ops j k = true) : oj.apart ops ok = true /\ ok.apart ops oj = true := by
 unfold YY at h
 simp only [hj, hk, Bool.and_eq_true] at h
 exact h
theorem SS {j : Nat} : ∀ {σ : List St}, OC ops j σ = true -> j ∈ VW σ
 | [], h => by cases h
 | .op k :: σ, h => by
   unfold OC at h
   by_cases hk : k = j
   . subst hk; exact List.mem_cons_self
   rw [if_neg hk, Bool.and_eq_true] at h
   exact List.mem_cons_of_mem _ (SS h.2)
 | .av _ :: σ, h => SS (σ := σ) h
theorem aX {j k : Nat} (hne : j ≠ k) : ∀ {σ : List St}, OC ops j σ = true -> OC ops k σ = true -> YY ops j k = true ∨ YY ops k j = true
 | [], h, _ => by cases h
 | .op i :: σ, h1, h2 => by
   unfold OC at h1 h2
   by_cases hi : i = j
   . subst hi
     rw [if_neg hne, Bool.and_eq_true] at h2
     exact .inr h2.1
   by_cases hk : i = k
   . subst hk
     rw [if_neg hi, Bool.and_eq_true] at h1
     exact .inl h1.1
   rw [if_neg hi, Bool.and_eq_true] at h1
   rw [if_neg hk, Bool.and_eq_true] at h2
   exact aX hne h1.2 h2.2
 | .av _ :: σ, h1, h2 => aX (σ := σ) hne h1 h2
theorem Ad (h : YY ops j k = true ∨ YY ops k j = true) (hj : ops[j]? = some oj) (hk : ops[k]? = some ok) : oj.apart ops ok = true /\ ok.apart ops oj = true := by
 rcases h with h | h
 . exact NR hj hk h
 exact (NR hk hj h).symm
theorem RunF.put {j : Nat} {d : Fd} (h : RunF P ops S j d a) (hs : ∀ (j : Nat) (o : Oper) cs b, ops[j]? = some o -> o.op ≠ .select cs b) (x : Option Tmp) (v : Value) (hx : ∀ o, ops[j]? = some o -> ∀ t, x = some t -> t ∉ o.looksAt ops) : RunF P ops S j d (a.put x v) := by
 obtain ⟨o, e, f, k⟩ := h
 refine ⟨o, e, (wanted_put o a x v (hx o e)).trans f, fun w h => ?_⟩
 rw [execOp_put o (fun cs b => hs j o cs b e) a x v (hx o e)]
 exact k w h
structure Inv (P : Program) (ops : Array Oper) (S : World -> Prop) (B0 : Nat) (σ : List St) (av : List (Nat × Fd)) (us : List Nat) (a : Act) (l : List SF) (L0 : Array Bool) (E : List (Nat × Nat × Fd)) (L : Array Bool) (a' : Act) (w : World) : Prop where
 size : L0.size = ops.size
 avlt : ∀ j, (av.map (·.1)).contains j = true -> j < ops.size
 rel : RelL L0 E L
 pts : Pts ops E a a'
 early : ∀ e ∈ E, av.lookup e.1 = some e.2.2 /\ L0.getD e.1 true = false /\ Bx w e.2.1 e.2.2.T e.2.2.cs /\ B0 <= e.2.1 /\ e.2.1 ∉ us
 nd1 : (E.map (·.1)).Nodup
 nd2 : (E.map (·.2.1)).Nodup
 pend : ∀ j d, av.lookup j = some d -> L0.getD j true = false -> RunF P ops S j d a /\ OC ops j σ = true
 used : ∀ c ∈ us, c < w.heap.size
 base : B0 <= w.heap.size
 env : Env w l
 s : S w
theorem YS {j : Nat} : ∀ {av : List (Nat × Fd)}, (av.map (·.1)).contains j = true -> ∃ d, av.lookup j = some d
 | [], h => by simp at h
 | (k, d) :: av, h => by
   rw [List.lookup_cons]
   by_cases hk : j = k
   . subst hk; exact ⟨d, by simp⟩
   rw [List.map_cons, List.contains_cons] at h
   have : (j == k) = false := by simpa using hk
   rw [this, Bool.false_or] at h
   rw [this]
   exact YS h
theorem QZ {j : Nat} {d : Fd} : ∀ {av : List (Nat × Fd)}, av.lookup j = some d -> (av.map (·.1)).contains j = true
 | [], h => by simp at h
 | (k, d') :: av, h => by
   rw [List.map_cons, List.contains_cons]
   rw [List.lookup_cons] at h
   by_cases hk : j = k
   . simp [hk]
   have : (j == k) = false := by simpa using hk
   rw [this] at h ⊢
   rw [Bool.false_or]
   exact QZ h
theorem Inv.step {σ : List St} {av : List (Nat × Fd)} {us : List Nat} {E : List (Nat × Nat × Fd)} {w : World} (h : Inv P ops S B0 σ av us a l L0 E L a' w)
 (hs : ∀ (j : Nat) (o : Oper) cs b, ops[j]? = some o -> o.op ≠ .select cs b) (hSb : ∀ w w', S w -> Below w.heap.size w w' -> S w') (hk : k ∈ Region.ready md ops L) {d : Fd} (hd : av.lookup k = some d) (K : Act -> World -> Prop)
 (hK : ∀ L' a1 w1, Inv P ops S B0 σ av us a l L0 ((k, w.heap.size, d) :: E) L' a1 w1 -> L' = L.setIfInBounds k true -> S w1 -> K a1 w1) : wpOp P ops Q k K a' w := by
 obtain ⟨u, o, D, a3⟩ := mem_ready.1 hk
 have p : k < L.size := PI u
 have X : L.getD k false = false := by rw [<- RJ p]; exact u
 have q := h.rel.2 k
 rw [X] at q
 have q := q.symm
 rw [Bool.or_eq_false_iff] at q
 have G : L0.getD k true = false := by rw [RJ (by rw [<- h.rel.1]; exact p)]; exact q.1
 have F : k ∉ E.map (·.1) := by
  have := q.2
  intro U
  rw [List.contains_iff_mem.2 U] at this
  cases this
 obtain ⟨⟨o', C, hw, y⟩, a2⟩ := h.pend k d hd G
 rw [D] at C
 cases C
 have H := h.pts.exec o (fun cs b => hs k o cs b D) fun e f t N => by
  obtain ⟨e1, e2, _⟩ := h.early e f
  obtain ⟨⟨oe, B, _⟩, I⟩ := h.pend e.1 _ e1 e2
  have R : e.1 ≠ k := fun h1 => F (List.mem_map.2 ⟨e, f, h1⟩)
  have := (Ad (aX R I a2) B D).1
  have a0 : oe.dst = some t := by unfold TM at N; rw [B] at N; exact N
  exact (Oper.apart_spec this).1 t a0
 unfold wpOp
 simp only [D]
 rw [if_pos (H.2.trans hw)]
 refine .inl (DV (by rw [H.1]; exact y w h.s) ?_)
 have J : Below w.heap.size w (w.alloc (.cells d.cs.toArray d.T)) := (Below.refl _ _).alloc (Nat.le_refl _) _
 have v : (w.alloc (.cells d.cs.toArray d.T)).heap.size = w.heap.size + 1 := by simp
 have Y : o.dst = TM ops k := by unfold TM; rw [D]; rfl
 refine hK (L.setIfInBounds k true) _ _ ?_ O (hSb _ _ h.s J)
 exact {
  size := h.size
  avlt := h.avlt
  rel := h.rel.add (by rw [<- h.rel.1]; exact p)
  pts := by rw [Y]; exact .cons k w.heap.size d h.pts
  early := fun e f => by
   rcases List.mem_cons.1 f with rfl | f
   . exact ⟨hd, G, KS w d.T d.cs, h.base, fun hu => Nat.lt_irrefl _ (h.used _ hu)⟩
   obtain ⟨e1, e2, e3, e4, e5⟩ := h.early e f
   exact ⟨e1, e2, e3.below J, e4, e5⟩
  nd1 := by rw [List.map_cons, List.nodup_cons]; exact ⟨F, h.nd1⟩
  nd2 := by
   rw [List.map_cons, List.nodup_cons]
   refine ⟨fun U => ?_, h.nd2⟩
   obtain ⟨e, f, h1⟩ := List.mem_map.1 U
   have := (h.early e f).2.2.1.lt
   rw [h1] at this
   exact Nat.lt_irrefl _ this
  pend := h.pend
  used := fun c hc => by rw [v]; have := h.used c hc; omega
  base := by rw [v]; have := h.base; omega
  env := h.env.below J
  s := hSb _ _ h.s J }
theorem oU {i : Nat} : ∀ {E : List (Nat × Nat × Fd)}, (E.map (·.1)).Nodup -> E.length <= (E.filter fun e => e.1 != i).length + 1
 | [], _ => Nat.zero_le _
 | e :: E, h => by
   rw [List.map_cons, List.nodup_cons] at h
   by_cases he : e.1 = i
   . have hE : E.filter (fun e => e.1 != i) = E := List.filter_eq_self.2 fun x hx => by
      rw [bne_iff_ne]; rintro h1; exact h.1 (List.mem_map.2 ⟨x, hx, h1.trans he.symm⟩)
     rw [List.filter_cons_of_neg (by simp [he]), hE]; exact Nat.le_refl _
   rw [List.filter_cons_of_pos (by simpa using he), List.length_cons, List.length_cons]
   have := oU (i := i) h.2
   omega
theorem RelL.nil_eq (h : RelL L0 [] L) : L = L0 := by
 refine Array.ext h.1 fun k f e => ?_
 have := h.2 k
 simpa [f, e] using this
section
variable {B0 : Nat} {σ : List St} {av : List (Nat × Fd)} {us : List Nat} {a : Act} {l : List SF} {L0 : Array Bool} {E : List (Nat × Nat × Fd)} {L : Array Bool} {a' : Act} {w : World}
theorem Inv.next (h : Inv P ops S B0 σ av us a l L0 E L a' w) (hk : k ∈ Region.ready md ops L) (hn : (av.map (·.1)).contains k = false) (AV : List Nat) (hAV : ∀ j ∈ AV, (av.map (·.1)).contains j = true) (hE : ∀ e ∈ E, e.1 ∈ AV) :
 k ∈ Region.ready md ops (dC L0 AV) := by
 have q : ∀ j ∈ AV, j < L0.size := fun j H => by rw [h.size]; exact h.avlt j (hAV j H)
 obtain ⟨p, o, G, u⟩ := mem_ready.1 hk
 have t : k < L.size := PI p
 have y : L.getD k false = false := by rw [<- RJ t]; exact p
 have C := (h.rel.2 k).symm
 rw [y, Bool.or_eq_false_iff] at C
 refine mem_ready.2 ⟨?_, o, G, fun e I N => ?_⟩
 . obtain ⟨D, B⟩ := dB AV L0 k q
   rw [RJ (by rw [D, <- h.rel.1]; exact t), B, C.1, Bool.false_or]
   rw [Bool.eq_false_iff]
   intro J
   rw [hAV k (List.contains_iff_mem.1 J)] at hn
   cases hn
 obtain ⟨D, B⟩ := dB AV L0 e.on q
 have f := u e I N
 rw [h.rel.2, Bool.or_eq_true] at f
 rw [B, Bool.or_eq_true]
 rcases f with f | f
 . exact .inl f
 refine .inr ?_
 obtain ⟨x, F, v⟩ := List.mem_map.1 (List.contains_iff_mem.1 f)
 rw [<- v]
 exact List.contains_iff_mem.2 (hE x F)
theorem Inv.ready (h : Inv P ops S B0 σ av us a l L0 E L a' w) (hi : i ∈ Region.ready md ops L0) (hE : i ∉ E.map (·.1)) : i ∈ Region.ready md ops L := by
 obtain ⟨f, o, q, k⟩ := mem_ready.1 hi
 have p : i < L0.size := PI f
 refine mem_ready.2 ⟨?_, o, q, fun e t v => by rw [h.rel.2, k e t v]; rfl⟩
 rw [RJ (by rw [h.rel.1]; exact p), h.rel.2, <- RJ p, f, Bool.false_or, Bool.eq_false_iff]
 intro u
 exact hE (List.contains_iff_mem.1 u)
theorem Inv.count (h : Inv P ops S B0 σ av us a l L0 E L a' w) : E.length <= (VW σ).length := by
 have := LW (E.map (·.1)) (VW σ) h.nd1 fun x f => by
  obtain ⟨e, k, rfl⟩ := List.mem_map.1 f
  obtain ⟨e1, e2, _⟩ := h.early e k
  exact SS (h.pend _ _ e1 e2).2
 simpa using this
end
theorem Jw {E : List (Nat × Nat × Fd)} (h : (E.map (·.2.1)).Nodup) {x y : Nat × Nat × Fd} (hx : x ∈ E) (hy : y ∈ E) (hxy : x.2.1 = y.2.1) : x = y := by
 induction E with
 | nil => cases hx
 | cons e E ih =>
   rw [List.map_cons, List.nodup_cons] at h
   rcases List.mem_cons.1 hx with k | k <;> rcases List.mem_cons.1 hy with f | f
   . rw [k, f]
   . exact absurd (List.mem_map.2 ⟨y, f, by rw [<- k]; exact hxy.symm⟩) h.1
   . exact absurd (List.mem_map.2 ⟨x, k, by rw [<- f]; exact hxy⟩) h.1
   exact ih h.2 k f
theorem Rz {f0 : Nat} {LE : Array Bool} {Fin : Act -> List SF -> Prop} (hns : Region.noSelect ops = true) (hSb : ∀ w w', S w -> Below w.heap.size w w' -> S w') (hQ1 : ∀ d v c a w, Q (.panic c) (a.put d v) w -> Q (.panic c) a w) (hQ2 : ∀ d v c a w, Q (.panic c) a w -> Q (.panic c) (a.put d v) w)
 (hFin : ∀ a l, Fin a l -> ∀ w, Env w l -> S w -> wpAnyH P md ops Q S f0 LE a w) :
 ∀ (f : Nat) (σ : List St) (av : List (Nat × Fd)) (us : List Nat) (a : Act) (l : List SF) (L0 : Array Bool) (E : List (Nat × Nat × Fd)) (L : Array Bool) (a' : Act) (w : World),
  qD P ops Q S B0 Fin σ av us a l -> Uv md ops LE σ (av.map (·.1)) L0 = true -> Inv P ops S B0 σ av us a l L0 E L a' w -> (VW σ).length + f0 <= f + E.length -> wpAnyH P md ops Q S f L a' w := by
 have hs := Region.noSelect_spec hns
 have aq : ∀ (E : List (Nat × Nat × Fd)) (a a' : Act), Pts ops E a a' -> ∀ c w, Q (.panic c) a w -> Q (.panic c) a' w := by
  intro E a a' h
  induction h with
  | nil a => exact fun c w h => h
  | cons j b d h ih => exact fun c w h' => hQ2 _ _ _ _ _ (ih c w h')
 intro f
 induction f using Nat.strongRecOn with
 | ind f ihf =>
 intro σ
 induction σ with
 | nil =>
   intro av us a l L0 E L a' w p y h hf
   simp only [Uv, Bool.and_eq_true, beq_iff_eq] at y
   obtain ⟨rfl, ao⟩ := y
   have hE : E = [] := by
    cases E with
    | nil => rfl
    | cons e E =>
      exfalso
      obtain ⟨e1, e2, _⟩ := h.early e List.mem_cons_self
      have h1 := List.all_eq_true.1 ao e.1 (List.contains_iff_mem.1 (QZ e1))
      rw [RJ (PI e2)] at e2
      rw [e2] at h1; cases h1
   subst hE
   have hp := h.pts
   cases hp
   rw [h.rel.nil_eq]
   refine Ic ?_ (hFin a l p w h.env h.s)
   simpa [VW] using hf
 | cons st σ ih =>
   intro av us a l L0 E L a' w p y h hf
   cases st with
   | av j =>
     obtain ⟨d, aa, p⟩ := p
     simp only [Uv, Bool.and_eq_true, Bool.not_eq_true'] at y
     obtain ⟨⟨⟨k1, X⟩, k3⟩, k4⟩ := y
     have a8 : j < ops.size := by obtain ⟨o, ho, _⟩ := aa; exact (Array.getElem?_eq_some_iff.1 ho).1
     have C : ∀ k d', av.lookup k = some d' -> (k == j) = false := fun k d' J => by
      rw [beq_eq_false_iff_ne]; rintro rfl
      rw [QZ J] at k1; cases k1
     refine ih ((j, d) :: av) us a l L0 E L a' w p k4 ?_ hf
     exact { h with
      avlt := fun k J => by
       rw [List.map_cons, List.contains_cons, Bool.or_eq_true, beq_iff_eq] at J
       rcases J with rfl | J
       . exact a8
       exact h.avlt k J
      early := fun e D => by
       obtain ⟨e1, e2⟩ := h.early e D
       exact ⟨by rw [List.lookup_cons, C _ _ e1]; exact e1, e2⟩
      pend := fun k d' J hl => by
       rw [List.lookup_cons] at J
       cases af : k == j with
       | true =>
         rw [af] at J
         cases J
         obtain rfl : k = j := by simpa using af
         exact ⟨aa, k3⟩
       | false =>
         rw [af] at J
         exact h.pend k d' J hl }
   | op i =>
     have T : (VW (.op i :: σ)).length = (VW σ).length + 1 := rfl
     cases B : av.lookup i with
     | some d =>
       have a7 := p
       simp only [qD, B] at p
       have a3 := QZ B
       have a5 := y
       simp only [Uv, a3, Bool.and_eq_true, beq_iff_eq] at y
       obtain ⟨⟨k1, X⟩, k3⟩ := y
       have X : i ∈ Region.ready md ops L0 := by simpa using X
       have ag : L0.getD i true = false := (mem_ready.1 X).1
       have F : i < L0.size := PI ag
       by_cases G : i ∈ E.map (·.1)
       . obtain ⟨⟨i', b, d'⟩, D, rfl⟩ := List.mem_map.1 G
         obtain ⟨e1, e2, e3, e4, e5⟩ := h.early _ D
         simp only at e1 e2 e3 e4 e5 B F ag a3 k1 X k3 p ⊢
         rw [B] at e1
         cases e1
         obtain ⟨⟨oi, q, _⟩, _⟩ := h.pend i' d B ag
         have a2 : ∀ j dj, av.lookup j = some dj -> L0.getD j true = false -> j ≠ i' -> YY ops j i' = true /\ OC ops j σ = true := fun j dj N hl C => by
          have := (h.pend j dj N hl).2
          unfold OC at this
          rw [if_neg (fun e => C e.symm), Bool.and_eq_true] at this
          exact this
         refine ih av (b :: us) _ _ (L0.setIfInBounds i' true) (E.filter fun e => e.1 != i') L a' w (p b e4 e5) k3 ?_ ?_
         . exact {
            size := by simp [h.size]
            avlt := h.avlt
            rel := h.rel.drop F G
            pts := h.pts.remove D (fun e D C t ht Y => by
             obtain ⟨f1, f2, _⟩ := h.early e D
             obtain ⟨⟨oe, R, _⟩, _⟩ := h.pend e.1 _ f1 f2
             have az := (NR R q (a2 e.1 _ f1 f2 C).1).2
             have aj : oi.dst = some t := by unfold TM at ht; rw [q] at ht; exact ht
             have ai : oe.dst = some t := by unfold TM at Y; rw [R] at Y; exact Y
             exact (Oper.apart_spec az).2.1 t aj ai) h.nd1
            early := fun e ay => by
             obtain ⟨am, ah⟩ := List.mem_filter.1 ay
             rw [bne_iff_ne] at ah
             obtain ⟨f1, f2, f3, f4, f5⟩ := h.early e am
             refine ⟨f1, by rw [getD_set_ne true (fun h => ah h.symm)]; exact f2, f3, f4, fun hm => ?_⟩
             rcases List.mem_cons.1 hm with hm | hm
             . have ax := h.nd2
               have : e = (i', b, d) := Jw ax am D hm
               exact ah (by rw [this])
             exact f5 hm
            nd1 := (List.filter_sublist.map _).nodup h.nd1
            nd2 := (List.filter_sublist.map _).nodup h.nd2
            pend := fun j dj N hl => by
             have C : j ≠ i' := by
              rintro rfl
              rw [RJ (by simpa using F), XQ L0 j j F] at hl
              simp at hl
             rw [getD_set_ne true (fun h => C h.symm)] at hl
             obtain ⟨p1, p2⟩ := a2 j dj N hl C
             refine ⟨(h.pend j dj N hl).1.put hs _ _ (fun oj ae t ht => ?_), p2⟩
             have aj : oi.dst = some t := by unfold TM at ht; rw [q] at ht; exact ht
             exact (Oper.apart_spec (NR ae q p1).2).1 t aj
            used := fun c hc => by
             rcases List.mem_cons.1 hc with rfl | hc
             . exact e3.lt
             exact h.used c hc
            base := h.base
            env := ⟨e3, h.env⟩
            s := h.s }
         have := oU (i := i') h.nd1
         rw [T] at hf
         omega
       have an : E.length <= (VW σ).length := by
        exact Zkc
       obtain ⟨g, rfl⟩ : ∃ g, f = g + 1 := ⟨f - 1, by rw [T] at hf; omega⟩
       have a4 := h.ready X G
       refine ⟨fun h0 => (by rw [h0] at a4; cases a4), fun k J => ?_⟩
       cases U : av.lookup k with
       | some dk =>
         exact ZAT
       | none =>
         exfalso
         have a6 : (av.map (·.1)).contains k = false := by
          exact ZJH
         have := h.next J a6 ((av.map (·.1)).filter (· != i)) (fun j N => List.contains_iff_mem.2 (List.mem_filter.1 N).1) (fun e D => List.mem_filter.2 ⟨List.contains_iff_mem.1 (QZ (h.early e D).1), by rw [bne_iff_ne]; exact fun h1 => G (List.mem_map.2 ⟨e, D, h1⟩)⟩)
         rw [k1] at this
         obtain rfl : k = i := by simpa using this
         rw [a3] at a6; cases a6
     | none =>
       have a3 : (av.map (·.1)).contains i = false := by
        rw [Bool.eq_false_iff]; intro hc
        obtain ⟨d', H⟩ := YS hc
        rw [B] at H; cases H
       have G : i ∉ E.map (·.1) := fun hm => by
        obtain ⟨e, D, rfl⟩ := List.mem_map.1 hm
        rw [(h.early e D).1] at B; cases B
       have an : E.length <= (VW σ).length := by
        exact Zkc
       obtain ⟨g, rfl⟩ : ∃ g, f = g + 1 := ⟨f - 1, by rw [T] at hf; omega⟩
       have a7 := p
       have a5 := y
       cases q : ops[i]? with
       | none => simp only [qD, B, q] at p
       | some oi =>
         simp only [qD, B, q] at p
         have a2 : ∀ j dj, av.lookup j = some dj -> L0.getD j true = false -> YY ops j i = true /\ OC ops j σ = true := fun j dj N hl => by
          have := (h.pend j dj N hl).2
          unfold OC at this
          rw [if_neg (fun e => by rw [e, N] at B; cases B), Bool.and_eq_true] at this
          exact this
         have a9 := h.pts.exec oi (fun cs b => hs i oi cs b q) fun e D t ht => by
          obtain ⟨e1, e2, _⟩ := h.early e D
          obtain ⟨⟨oe, R, _⟩, _⟩ := h.pend e.1 _ e1 e2
          have H : oe.dst = some t := by unfold TM at ht; rw [R] at ht; exact ht
          exact (Oper.apart_spec (NR R q (a2 e.1 _ e1 e2).1).1).1 t H
         have ad : ∀ u, Pts ops E (a.put oi.dst u) (a'.put oi.dst u) := fun u => h.pts.put _ _ fun e D t ht Y => by
          obtain ⟨e1, e2, _⟩ := h.early e D
          obtain ⟨⟨oe, R, _⟩, _⟩ := h.pend e.1 _ e1 e2
          have ai : oe.dst = some t := by unfold TM at Y; rw [R] at Y; exact Y
          exact (Oper.apart_spec (NR R q (a2 e.1 _ e1 e2).1).2).2.1 t ht ai
         have I : ∀ (u : Value) (l' : List SF) (w' : World) (a0 : List Nat), (∀ c ∈ a0, c ∈ us ∨ w.heap.size <= c /\ c < w'.heap.size) -> i < L0.size -> Env w' l' -> Below w.heap.size w w' -> Inv P ops S B0 σ av a0 (a.put oi.dst u) l' (L0.setIfInBounds i true) E (L.setIfInBounds i true) (a'.put oi.dst u) w' := fun u l' w' a0 hu F al hb => {
          size := by simp [h.size]
          avlt := h.avlt
          rel := h.rel.set F
          pts := ad u
          early := fun e D => by
           obtain ⟨f1, f2, f3, f4, f5⟩ := h.early e D
           exact ⟨f1, by rw [getD_set_ne true (fun h1 => G (List.mem_map.2 ⟨e, D, h1.symm⟩))]; exact f2, f3.below hb, f4, fun hc => (hu _ hc).elim f5 fun g => by have := f3.lt; omega⟩
          nd1 := h.nd1
          nd2 := h.nd2
          pend := fun j dj N hl => by
           have C : i ≠ j := by rintro rfl; rw [B] at N; cases N
           rw [getD_set_ne true C] at hl
           obtain ⟨p1, p2⟩ := a2 j dj N hl
           exact ⟨(h.pend j dj N hl).1.put hs _ _ (fun oj ae t ht => (Oper.apart_spec (NR ae q p1).2).1 t ht), p2⟩
          used := fun c hc => (hu c hc).elim (fun g => Nat.lt_of_lt_of_le (h.used c g) hb.size) fun g => g.2
          base := Nat.le_trans h.base hb.size
          env := al
          s := hSb _ _ h.s hb }
         by_cases hp : LH oi = true
         . rw [if_pos hp] at p
           obtain ⟨v, hy, p⟩ := p
           simp only [Uv, a3, q, Option.map_some, hp, Bool.and_eq_true] at y
           obtain ⟨⟨k1, X⟩, k3⟩ := y
           have X : i ∈ Region.ready md ops L0 := by simpa using X
           have F : i < L0.size := PI (mem_ready.1 X).1
           refine wpAnyH_first q hs (hQ1 oi.dst v) g L a' w ?_ (h.ready X G) (hy.of_same a9.1 a9.2) h.s ?_
           . intro j oj N C ab aw
             refine Region.free_spec q k1 j oj N C ?_ aw
             have a8 := PI ab
             rw [RJ a8, h.rel.2, Bool.or_eq_false_iff] at ab
             rw [RJ (by rw [<- h.rel.1]; exact a8)]; exact ab.1
           exact ihf g (Nat.lt_succ_self g) σ av us _ l _ E _ _ w p k3 (I v l w us (fun c hc => .inl hc) F h.env (Below.refl _ _)) (by rw [T] at hf; omega)
         rw [if_neg hp] at p
         have au : LH oi = false := by simpa using hp
         simp only [Uv, a3, q, Option.map_some, au, Bool.and_eq_true, beq_iff_eq] at y
         obtain ⟨⟨k1, X⟩, k3⟩ := y
         have X : i ∈ Region.ready md ops L0 := by simpa using X
         have F : i < L0.size := PI (mem_ready.1 X).1
         have a4 := h.ready X G
         refine ⟨fun h0 => (by rw [h0] at a4; cases a4), fun k J => ?_⟩
         cases U : av.lookup k with
         | some dk =>
           exact ZAT
         | none =>
           have a6 : (av.map (·.1)).contains k = false := by
            exact ZJH
           have := h.next J a6 (av.map (·.1)) (fun j N => List.contains_iff_mem.2 N) (fun e D => List.contains_iff_mem.1 (QZ (h.early e D).1))
           rw [k1] at this
           obtain rfl : k = i := by simpa using this
           refine wpOp_mono ?_ (Ib q a9.1 a9.2 (fun c w h' => aq E a a' h.pts c w h') (p w h.env h.s))
           rintro a1 w1 (⟨u, rfl, hb, _, l', a0, al, ar, ap⟩ | ⟨dd, hb, ⟨u, hu⟩, _⟩)
           . exact ⟨hSb _ _ h.s hb, ihf g (Nat.lt_succ_self g) σ av a0 _ l' _ E _ _ w1 ap k3 (I u l' w1 a0 ar F al hb) (by rw [T] at hf; omega)⟩
           exfalso
           have := congrArg Act.defers hu
           rw [ZM, ZM] at this
           have := congrArg List.length this
           simp at this
theorem QT {id : Nat} {a : Act} {w : World} (E : Env w l) (σ : List St) (f0 : Nat) (LE : Array Bool) (hm : P.follows .mixedOrders = true) (hs : Region.noSelect ops = true)
 (hok : Uv .any ops LE σ [] (Array.replicate ops.size false) = true) (hf : ((VW σ).length + f0 == ops.size) = true) (hQ1 : ∀ d v c a w, Q (.panic c) (a.put d v) w -> Q (.panic c) a w) (hQ2 : ∀ d v c a w, Q (.panic c) a w -> Q (.panic c) (a.put d v) w)
 (h : qD P ops Q (fun w => Env w l) w.heap.size (fun a' l' => ∀ w', Env w' l' -> wpAnyH P .any ops Q (fun w => Env w l) f0 LE a' w') σ [] [] a l) : (Code.region id ops true).wp P Q a w := by
 refine wp_region_held (S := fun w => Env w l) hm ?_
 refine Rz (md := .any) (f0 := f0) (LE := LE) (B0 := w.heap.size) hs (fun _ _ h f => h.below f) hQ1 hQ2 (fun a l' h w o _ => h w o) ops.size σ [] [] a l (Array.replicate ops.size false) [] _ a w.drew h hok ?_ (by have := beq_iff_eq.1 hf; simp; omega)
 exact {
  size := by simp
  avlt := fun j h => by simp at h
  rel := ⟨rfl, fun k => by simp⟩
  pts := .nil a
  early := fun e h => by cases h
  nd1 := List.nodup_nil
  nd2 := List.nodup_nil
  pend := fun j d h => by simp at h
  used := fun c h => by cases h
  base := Nat.le_refl _
  env := E.drew
  s := E.drew }
section
variable {B0 : Nat} {Fin : Act -> List SF -> Prop} {σ : List St} {av : List (Nat × Fd)} {us : List Nat} {l : List SF} {o : Oper} {i k : Nat} {v : Value} {fr : List Value}
theorem FA (d : Fd) (hr : RunF P ops S i d a) (h : qD P ops Q S B0 Fin σ ((i, d) :: av) us a l) : qD P ops Q S B0 Fin (.av i :: σ) av us a l := ⟨d, hr, h⟩
theorem FP (hl : av.lookup i = none) (ho : ops[i]? = some o) (hp : LH o = true) (hg : Region.wanted o (yielded ops fr.toArray) = true) (hd : o.dst = some k) (hr : ∀ w, S w -> (execOp (MN fr) o).run P w = .ok (.value v) w)
 (h : qD P ops Q S B0 Fin σ av us ⟨(fr.set k v).toArray, []⟩ l) : qD P ops Q S B0 Fin (.op i :: σ) av us ⟨fr.toArray, []⟩ l := by
 simp only [qD, hl, ho]
 rw [if_pos hp]
 exact ⟨v, .inl ⟨hg, by rw [QB]; exact hr⟩, by rw [PR fr k v hd]; exact h⟩
structure KF (P : Program) (ops : Array Oper) (Q : Exit -> Act -> World -> Prop) (S : World -> Prop) (B0 : Nat) (Fin : Act -> List SF -> Prop) (σ : List St) (av : List (Nat × Fd)) (us : List Nat) (o : Oper) (a : Act) (w : World) (a' : Act) (w' : World) : Prop where
 b : Below w.heap.size w w'
 u : ∃ u, a' = a.put o.dst u
 h : ∃ l' us', Env w' l' /\ (∀ c ∈ us', c ∈ us ∨ w.heap.size <= c /\ c < w'.heap.size) /\ qD P ops Q S B0 Fin σ av us' a' l'
theorem kF (hb : Below w.heap.size w w') (E : Env w' l') (hd : o.dst = some k) (h : qD P ops Q S B0 Fin σ av us ⟨(fr.set k v).toArray, []⟩ l') : KF P ops Q S B0 Fin σ av us o ⟨fr.toArray, []⟩ w (Act.put ⟨fr.toArray, []⟩ o.dst v) w' :=
 ⟨hb, ⟨v, rfl⟩, l', us, E, fun _ hc => .inl hc, by rw [PR fr k v hd]; exact h⟩
theorem kF2 (hb : Below w.heap.size w w') (E : Env w' l') (hd : o.dst = some k) (h : qD P ops Q S B0 Fin σ av (us ++ List.range' w.heap.size (w'.heap.size - w.heap.size)) ⟨(fr.set k v).toArray, []⟩ l') : KF P ops Q S B0 Fin σ av us o ⟨fr.toArray, []⟩ w (Act.put ⟨fr.toArray, []⟩ o.dst v) w' :=
 ⟨hb, ⟨v, rfl⟩, l', us ++ List.range' w.heap.size (w'.heap.size - w.heap.size), E, fun c hc => (List.mem_append.1 hc).imp id fun g => (by rw [List.mem_range'_1] at g; have := hb.size; omega), by rw [PR fr k v hd]; exact h⟩
theorem FE (hl : av.lookup i = none) (ho : ops[i]? = some o) (hp : LH o = false) (hg : Region.wanted o (yielded ops fr.toArray) = true)
 (h : ∀ w, Env w l -> o.wp P ⟨fr.toArray, []⟩ w (KF P ops Q S B0 Fin σ av us o ⟨fr.toArray, []⟩ w) Q) : qD P ops Q S B0 Fin (.op i :: σ) av us ⟨fr.toArray, []⟩ l := by
 simp only [qD, hl, ho]
 rw [if_neg (by simp [hp])]
 intro w f _
 unfold wpOp
 simp only [ho]
 rw [if_pos hg]
 exact .inl (Oper.wp_mono (fun p k e => ⟨e.b, e.u, e.h⟩) (h w f))
theorem FF {d : Fd} (hl : av.lookup i = some d) (hd : TM ops i = some k) (h : ∀ b, B0 <= b -> b ∉ us -> qD P ops Q S B0 Fin σ av (b :: us) ⟨(fr.set k (d.vf b)).toArray, []⟩ (fX b d.T d.cs :: l)) : qD P ops Q S B0 Fin (.op i :: σ) av us ⟨fr.toArray, []⟩ l := by
 simp only [qD, hl]
 intro b f e
 have := h b f e
 rw [<- PR (o := ⟨some k, .nilCheck (.tmp 0), 0, "", #[], none⟩) fr k (d.vf b) rfl] at this
 rw [hd]; exact this
theorem RunF.alloc {T n : Nat} {zs : List Value} (hA : Ag P T n zs) (ho : ops[i]? = some o) (hop : o.op = .alloc T) (hg : o.guard = none) : RunF P ops S i ⟨fun b => .pointer (some ⟨b, 0, none⟩), T, zs⟩ a := by
 refine ⟨o, ho, by unfold Region.wanted; rw [hg], fun w _ => ?_⟩
 have f := hA.i
 unfold execOp; rw [hop]
 cases e : P.info? T with
 | none => simp [e] at f
 | some i =>
   simp [e] at f
   simp [Instr.alloc, zeroValue, typeInfo, e, f.1, newVar, newRow, Sem.run_bind, Value.cells, newObj]
   rfl
end
end
end Go.Proofs.YtmppigbbkjepiaaGreatDoor
