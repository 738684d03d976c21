/- Facts for the walk of the reference's Made. -/
import Derived.Test.YtjgmfdenicbniaaLawB
namespace Go.Proofs.Ytjgmfdenicbniaa
open Go.RowKit W

/-- These facts last where a block that they allow is written, whatever it holds. -/
def Pl : List SF → Prop
  | [] => True
  | f :: l => (∀ w w' b, f.p w → f.ok b → Onl b w w' → f.p w') ∧ Pl l
theorem Env.pl {w w' : World} {b : Nat} : ∀ {l : List SF}, Pl l → Env w l → Ok b l → Onl b w w' → Env w' l
  | [], _, _, _, _ => trivial
  | _ :: _, hp, h, ho, hb => ⟨hp.1 _ _ _ h.1 ho.1 hb, Env.pl hp.2 h.2 ho.2 hb⟩
theorem plX {b T : Nat} {cs : List Value} : ∀ w w' c, (fX b T cs).p w → (fX b T cs).ok c → Onl c w w' → (fX b T cs).p w' := fun _ _ _ h ho hb => Bx.onl h ho hb
theorem plB {b : Nat} {n : Bool} {s : Value} : ∀ w w' c, (fB b n s).p w → (fB b n s).ok c → Onl c w w' → (fB b n s).p w' := fun _ _ _ h ho hb => Bx.onl h ho hb
theorem plW {w0 : World} : ∀ w w' c, (fW w0).p w → (fW w0).ok c → Onl c w w' → (fW w0).p w' := fun _ _ _ h ho hb => hb.below h ho
/-- append to a row of words of the call's own. -/
theorem Oper.wp_appendW {o : Oper} {a : Act} {w : World} {K : Act → World → Prop} {Q : Exit → Act → World → Prop} (s x : Operand)
    (ho : o.op = .call { callee := .builtin .append, args := #[s, x], argTypes := #[22, 22] })
    (base : Nat) {l : List SF} (v : Value) (n : Nat) (xs : List Value) (hs : a.eval s = v) (hown : RowG w base 27 1 (fun _ => True) v n xs) (E : Env w l) (hpl : Pl l) (hok : ∀ g, v.ownBlock = some g → base ≤ g → Ok g l)
    (ad : Addr) (m c : Nat) (news : List Value) (hx : a.eval x = .slice (some ad) m c) (hl : news.length = m * 1) (hnews : ∀ j u, news[j]? = some u → w.cell? (ad.add j) = some u) (h1 : ∀ u ∈ news, u.oneCell' = true)
    (h63 : n + m ≤ maxLen) (hbytes : (n + m) * 4 ≤ 140737488355328) (hbase : base ≤ w.heap.size)
    (h : ∀ v' w', RowG w' base 27 1 (fun _ => True) v' (n + m) (xs ++ news) → Env w' l → K (a.put o.dst v') w') : o.wp Try.prog a w K Q := by
  obtain ⟨i0, hi, hz0, hz1, hz2⟩ := info_parts info27
  obtain ⟨v', w', hr, h2, h3⟩ := run_append_G (P := Try.prog) (w := w) base 22 o.type 27 i0 (.int .u32 0) 1 4 Try.underlying22 hi hz0 hz1 hz2 rfl (by decide) (fun _ => True) (fun _ _ => trivial) v n xs hown ad m c news hl hnews h1 (fun _ _ => trivial) h63 hbytes hbase
  unfold Oper.wp execOp
  simp only [ho, resolve, invoke, builtin, Sem.run_bind, Sem.run_pure, Result.andThen_ok, List.map_toArray, List.map_cons, List.map_nil, hs, hx, hr]
  refine h v' w' h2 ?_
  rcases h3 with ⟨h3, _⟩ | ⟨g, hg, _, h3⟩
  · exact E.below h3
  · exact E.pl hpl (hok g hg (hown.blk hg).1) h3
/-- The cells of words. -/
def wcs (l : List Nat) : List Value := l.map fun x => Value.int .u32 ((x : Nat) : Int)
theorem wcs_append (a b : List Nat) : wcs (a ++ b) = wcs a ++ wcs b := by simp [wcs]
theorem RowG.sl {w : World} {base n : Nat} {G : Value → Prop} {v : Value} {l : List Nat} (h : RowG w base 27 1 G v n (wcs l)) (hw : Wd l) : Sl w v l := by
  have hn : l.length = n := by have := h.1; simpa [wcs] using this
  subst hn
  exact OwnA.sl (base := base) h.own hw
theorem Sl.at {w : World} {v : Value} {l : List Nat} {i : Nat} (h : Sl w v l) (hi : i < l.length) : ∃ b off cap, v = .slice (some ⟨b, off, none⟩) l.length cap ∧ w.cell? ⟨b, off + i * 1, none⟩ = some (.int .u32 ((gd l i : Nat) : Int)) := by
  obtain ⟨ao, cap, rfl, _, _, _, _, h4⟩ := h
  obtain ⟨b, off, rfl, hc⟩ := h4 i hi
  exact ⟨b, off, cap, rfl, by rw [Nat.mul_one]; exact hc⟩
/-- The integer that Made makes. -/
def mkI (n : Bool) (l : List Nat) (k : Nat) : Int := sgnI n (val (l.take k))
theorem mkI_fits {n : Bool} {l : List Nat} {k : Nat} (hw : Wd l) : Fits (mkI n l k) k := by
  refine Fits_lt ?_
  unfold mkI
  rw [sgnI_abs]
  exact Nat.lt_of_lt_of_le (val_lt (Wd_take hw k)) (Nat.pow_le_pow_right (by decide) (by rw [List.length_take]; omega))
theorem AgRaw : Ag Try.prog 25 2 [.bool false, .slice none 0 0] := ⟨⟨_, Try.underlying25, rfl⟩, by kernel_rfl, rfl⟩
section
variable {ρ : Operand → Value} {o : Oper} {w : World}
theorem run_fieldRaw0 {x : Operand} {b : Nat} (ho : o.op = .fieldAddr 25 x 0) (hx : ρ x = .pointer (some ⟨b, 0, none⟩)) : (execOp ρ o).run Try.prog w = .ok (.value (.pointer (some ⟨b, 0, none⟩))) w := by
  unfold execOp; rw [ho]
  simp [hx, go_sem]
theorem run_fieldRaw1 {x : Operand} {b : Nat} (ho : o.op = .fieldAddr 25 x 1) (hx : ρ x = .pointer (some ⟨b, 0, none⟩)) : (execOp ρ o).run Try.prog w = .ok (.value (.pointer (some ⟨b, 1, none⟩))) w := by
  unfold execOp; rw [ho]
  simp [hx, go_sem]
end
section
variable {P : Program} {o : Oper} {a : Act} {w : World} {K : Act → World → Prop} {Q : Exit → Act → World → Prop}
theorem Oper.wp_lit0 (ho : o.op = .buildSlice 22 0 #[])
    (h : ∀ b w', b = w.heap.size → w'.heap.size = w.heap.size + 1 → Below w.heap.size w w' → (∀ base, base ≤ b → RowG w' base 27 1 (fun _ => True) (.slice (some ⟨b, 0, none⟩) 0 0) 0 []) → K (a.put o.dst (.slice (some ⟨b, 0, none⟩) 0 0)) w') : o.wp Try.prog a w K Q := by
  have hr : (execOp a.eval o).run Try.prog w = .ok (.value (.slice (some ⟨w.heap.size, 0, none⟩) 0 0)) (w.alloc (.cells #[] 27)) := by
    unfold execOp; rw [ho]
    simp [go_sem, Instr.buildSlice]
  refine Oper.wp_of_val hr (h _ _ rfl (by simp) ((Below.refl _ _).alloc (Nat.le_refl _) _) fun base hb => ⟨rfl, .inr ⟨w.heap.size, 0, #[], rfl, hb, ?_, Nat.le_refl _, by unfold maxLen; omega, rfl, rfl, fun u hu => by cases hu⟩⟩)
  unfold World.alloc; simp
theorem Oper.wp_litw {x : Operand} {v : Int} (ho : o.op = .buildSlice 22 1 #[(0, x)]) (hx : a.eval x = .int .u32 v)
    (h : ∀ b w', b = w.heap.size → w'.heap.size = w.heap.size + 1 → Below w.heap.size w w' → Bx w' b 27 [.int .u32 v] → K (a.put o.dst (.slice (some ⟨b, 0, none⟩) 1 1)) w') : o.wp Try.prog a w K Q := by
  have hr : ∀ ρ : Operand → Value, ρ x = .int .u32 v → (execOp ρ o).run Try.prog w = .ok (.value (.slice (some ⟨w.heap.size, 0, none⟩) 1 1)) (w.alloc (.cells #[.int .u32 v] 27)) := by
    intro ρ hx
    unfold execOp; rw [ho]
    simp [go_sem, Instr.buildSlice, hx]
  have hr := hr _ hx
  exact Oper.wp_of_val hr (h _ _ rfl (by simp) ((Below.refl _ _).alloc (Nat.le_refl _) _) (bx_alloc w _ [.int .u32 v]))
end
theorem isAgg_u32 (w : World) : (isAgg 27).run Try.prog w = .ok false w := by
  simp [go_sem]
end Go.Proofs.Ytjgmfdenicbniaa
