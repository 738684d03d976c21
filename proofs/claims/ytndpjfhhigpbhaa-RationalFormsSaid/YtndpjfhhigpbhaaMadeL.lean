/- Facts for the walk of the reference's Made. -/
import Derived.Test.YtndpjfhhigpbhaaLawB
namespace Go.Proofs.Ytndpjfhhigpbhaa
open Go.RowKit W
/-- These facts last where a block that they allow is written, whatever it holds. -/
def Pl : List SF → Prop
  | [] => True
  | f :: l => (∀ w w' b, f.p w → f.ok b → Onl b w w' → f.p w') ∧ Pl l
theorem Env.pl {w w' : World} {b : Nat} : ∀ {l : List SF}, Pl l → Env w l → Ok b l → Onl b w w' → Env w' l
  | [], _, _, _, _ => trivial
  | _ :: _, hp, h, ho, hb => ⟨hp.1 _ _ _ h.1 ho.1 hb, Env.pl hp.2 h.2 ho.2 hb⟩
theorem plX {b T : Nat} {cs : List Value} : ∀ w w' c, (fX b T cs).p w → (fX b T cs).ok c → Onl c w w' → (fX b T cs).p w' := fun _ _ _ h ho hb => Bx.onl h ho hb
theorem plB {b : Nat} {n : Bool} {s : Value} : ∀ w w' c, (fB b n s).p w → (fB b n s).ok c → Onl c w w' → (fB b n s).p w' := fun _ _ _ h ho hb => Bx.onl h ho hb
theorem plW {w0 : World} : ∀ w w' c, (fW w0).p w → (fW w0).ok c → Onl c w w' → (fW w0).p w' := fun _ _ _ h ho hb => hb.below h ho
/-- append to a row of words of the call's own. -/
theorem Oper.wp_appendW {o : Oper} {a : Act} {w : World} {K : Act → World → Prop} {Q : Exit → Act → World → Prop} (s x : Operand)
    (ho : o.op = .call { callee := .builtin .append, args := #[s, x], argTypes := #[22, 22] })
    (base : Nat) {l : List SF} (v : Value) (n : Nat) (xs : List Value) (hs : a.eval s = v) (hown : RowG w base 70 1 (fun _ => True) v n xs) (E : Env w l) (hpl : Pl l) (hok : ∀ g, v.ownBlock = some g → base ≤ g → Ok g l)
    (ad : Addr) (m c : Nat) (news : List Value) (hx : a.eval x = .slice (some ad) m c) (hl : news.length = m * 1) (hnews : ∀ j u, news[j]? = some u → w.cell? (ad.add j) = some u) (h1 : ∀ u ∈ news, u.oneCell' = true)
    (h63 : n + m ≤ maxLen) (hbytes : (n + m) * 4 ≤ 140737488355328) (hbase : base ≤ w.heap.size)
    (h : ∀ v' w', RowG w' base 70 1 (fun _ => True) v' (n + m) (xs ++ news) → Env w' l → K (a.put o.dst v') w') : o.wp Try.prog a w K Q := by
  obtain ⟨i0, hi, hz0, hz1, hz2⟩ := info_parts info27
  obtain ⟨v', w', hr, h2, h3⟩ := run_append_G (P := Try.prog) (w := w) base 22 o.type 70 i0 (.int .u32 0) 1 4 Try.underlying22 hi hz0 hz1 hz2 rfl (by decide) (fun _ => True) (fun _ _ => trivial) v n xs hown ad m c news hl hnews h1 (fun _ _ => trivial) h63 hbytes hbase
  unfold Oper.wp execOp
  simp only [ho, resolve, invoke, builtin, Sem.run_bind, Sem.run_pure, Result.andThen_ok, List.map_toArray, List.map_cons, List.map_nil, hs, hx, hr]
  refine h v' w' h2 ?_
  rcases h3 with ⟨h3, _⟩ | ⟨g, hg, _, h3⟩
  · exact E.below h3
  · exact E.pl hpl (hok g hg (hown.blk hg).1) h3
/-- The cells of words. -/
def wcs (l : List Nat) : List Value := l.map fun x => Value.int .u32 ((x : Nat) : Int)
section
variable {P : Program} {o : Oper} {a : Act} {w : World} {K : Act → World → Prop} {Q : Exit → Act → World → Prop}
theorem Oper.wp_lit0 (ho : o.op = .buildSlice 22 0 #[])
    (h : ∀ b w', b = w.heap.size → w'.heap.size = w.heap.size + 1 → Below w.heap.size w w' → (∀ base, base ≤ b → RowG w' base 70 1 (fun _ => True) (.slice (some ⟨b, 0, none⟩) 0 0) 0 []) → K (a.put o.dst (.slice (some ⟨b, 0, none⟩) 0 0)) w') : o.wp Try.prog a w K Q := by
  have hr : (execOp a.eval o).run Try.prog w = .ok (.value (.slice (some ⟨w.heap.size, 0, none⟩) 0 0)) (w.alloc (.cells #[] 70)) := by
    unfold execOp; rw [ho]
    simp [go_sem, Instr.buildSlice]
  refine Oper.wp_of_val hr (h _ _ rfl (by simp) ((Below.refl _ _).alloc (Nat.le_refl _) _) fun base hb => ⟨rfl, .inr ⟨w.heap.size, 0, #[], rfl, hb, ?_, Nat.le_refl _, by unfold maxLen; omega, rfl, rfl, fun u hu => by cases hu⟩⟩)
  unfold World.alloc; simp
end
theorem isAgg_u32 (w : World) : (isAgg 70).run Try.prog w = .ok false w := by
  simp [go_sem]
end Go.Proofs.Ytndpjfhhigpbhaa
