/- Walks by default scripts: one word walks on as far as the rules reach. Plain facts on the reading of decimal digits. Walk: integer.decimal. (Printed by g_parse.py.) -/
import Derived.Test.YtmppigbbkjepiaaGreatDoorKitC
import Derived.Test.YtmppigbbkjepiaaGreatDoorTxtL
namespace Go.Proofs.YtmppigbbkjepiaaGreatDoor
open Go.Proofs.Tryz
open Go.RowKit W
section
variable {P : Program} {ops : Array Oper} {Q : Exit → Act → World → Prop} {rest : List Oper} {o : Oper} {w : World} {l : List Value} {v : Value} {i : Nat}
def IQ (l : List Value) : Operand → Option Value
  | .tmp t => l[t]?
  | .const v => some v
  | _ => none
theorem CL {x : Operand} (h : IQ l x = some v) : KE l x = v := by
  cases x <;> simp_all [IQ, KE]
def Ef (ops : Array Oper) (l : List Value) (o : Oper) : Option Bool :=
  match o.guard with
  | none => some true
  | some (j, b) =>
    match ops[j]? with
    | some q =>
      match q.dst with
      | some d =>
        match l[d]? with
        | some (.bool c) => some (c == b)
        | some (.tuple _) => some false
        | _ => none
      | none => none
    | none => none
theorem UB {c : Bool} (h : Ef ops l o = some c) : Region.wanted o (yielded ops l.toArray) = c := by
  unfold Ef at h
  unfold Region.wanted
  split at h
  · rename_i e; rw [e]; simpa using h
  · rename_i j b e
    rw [e]; simp only
    split at h
    · rename_i q e2
      split at h
      · rename_i d e3
        split at h
        · rename_i c' e4
          have hy : yielded ops l.toArray j = some c' := by simp [yielded, e2, e3, e4]
          rw [hy]
          simp at h; subst h
          cases c' <;> cases b <;> rfl
        · rename_i e4
          have hy : yielded ops l.toArray j = none := by simp [yielded, e2, e3, e4]
          rw [hy]
          simp at h; subst h; rfl
        · cases h
      · cases h
    · cases h
theorem gV (hr : (execOp (KE l) o).run P w = .ok (.value v) w) (hd : o.dst = some i) (hg : Ef ops l o = some true) (h : WL P ops Q rest (l.set i v) w) : WL P ops Q (o :: rest) l w := V (UB hg) hd hr h
theorem Oj (hg : Ef ops l o = some false) (hd : o.dst = some i) (h : WL P ops Q rest (l.set i undef) w) : WL P ops Q (o :: rest) l w := L0C (UB hg) hd h
theorem isWL (h : WL P ops Q (o :: rest) l w) : WL P ops Q (o :: rest) l w := h
theorem isKW {a : Act} (h : KW P ops Q rest a w) : KW P ops Q rest a w := h
theorem Ht {c : Operand} {x y : Code} {a : Act} (h : (Code.cond c x y).wp P Q a w) : (Code.cond c x y).wp P Q a w := h
end
section
variable {P : Program} {md : Region.Mode} {ops : Array Oper} {Q : Exit → Act → World → Prop} {S1 S2 : World → Prop} {rest : List Nat} {o : Oper} {w : World} {l : List Value} {v : Value} {i k : Nat} {r : List Oper}
theorem sR (h : ops.toList.drop k = o :: r) : ops[k]? = some o := by
  have := congrArg List.head? h
  simpa [List.head?_drop] using this
theorem gS (ho : ops.toList.drop k = o :: r) (hr : ∀ w, S1 w → (execOp (KE l) o).run P w = .ok (.value v) w) (hd : o.dst = some i) (hg : Ef ops l o = some true) (hp : JK o = true) (ht : UM md ops [] k = true)
    (h : DJ P md ops Q [] S1 S2 rest false ⟨(l.set i v).toArray, []⟩ w) : DJ P md ops Q [] S1 S2 (k :: rest) false ⟨l.toArray, []⟩ w := SW (sR ho) hp ht (UB hg) hd hr h
theorem gS0 (ho : ops.toList.drop k = o :: r) (hg : Ef ops l o = some false) (hd : o.dst = some i) (hS : S1 w)
    (h : DJ P md ops Q [] S1 S2 rest false ⟨(l.set i undef).toArray, []⟩ w) : DJ P md ops Q [] S1 S2 (k :: rest) false ⟨l.toArray, []⟩ w := S0 (sR ho) (UB hg) hS (by rw [OX l i undef hd]; exact h)
theorem isS (h : DJ P md ops Q [] S1 S2 (k :: rest) false ⟨l.toArray, []⟩ w) : DJ P md ops Q [] S1 S2 (k :: rest) false ⟨l.toArray, []⟩ w := h
end
section
variable {P : Program} {md : Region.Mode} {ops : Array Oper} {Q : Exit → Act → World → Prop} {S1 S2 : World → Prop} {B : List Nat} {ph : Bool} {rest : List Nat} {w : World} {l : List Value} {v : Value} {i : Nat} {d : Option Nat}
theorem kS (hd : d = some i) (h : DJ P md ops Q B S1 S2 rest ph ⟨(l.set i v).toArray, []⟩ w) : DJ P md ops Q B S1 S2 rest ph (Act.put ⟨l.toArray, []⟩ d v) w := by subst hd; simpa [Act.put] using h
theorem kS0 (hd : d = none) (h : DJ P md ops Q B S1 S2 rest ph ⟨l.toArray, []⟩ w) : DJ P md ops Q B S1 S2 rest ph (Act.put ⟨l.toArray, []⟩ d v) w := by subst hd; exact h
theorem isSP (h : DJ P md ops Q B S1 S2 rest ph (Act.put ⟨l.toArray, []⟩ d v) w) : DJ P md ops Q B S1 S2 rest ph (Act.put ⟨l.toArray, []⟩ d v) w := h
end
section
variable {P : Program} {w : World} {l : List Value} {v : Value} {x y c t : Operand} {k : IntKind} {m n : Int} {b : Bool} {tt tt' ty : TypeId} {d : Option Nat} {ps : String} {af : Array Edge} {g : Option (Nat × Bool)}
theorem rMove (hx : IQ l x = some v) : (execOp (KE l) ⟨d, .move x, ty, ps, af, g⟩).run P w = .ok (.value v) w := GY rfl (CL hx)
theorem rAss (hx : IQ l x = some v) : (execOp (KE l) ⟨d, .assign x, ty, ps, af, g⟩).run P w = .ok (.value v) w := MT rfl (CL hx)
theorem rPick (hc : IQ l c = some (.bool b)) (hx : IQ l (cond b x y) = some v) : (execOp (KE l) ⟨d, .pick c x y, ty, ps, af, g⟩).run P w = .ok (.value v) w := Ft rfl (CL hc) (by cases b <;> exact CL hx)
theorem rExt {a : Array Value} {j : Nat} (hx : IQ l t = some (.tuple a)) (hk : a.toList[j]? = some v) : (execOp (KE l) ⟨d, .extract t j, ty, ps, af, g⟩).run P w = .ok (.value v) w := VV (vs := a.toList) rfl (by rw [CL hx]) hk
theorem rNotT (hx : IQ l x = some (.bool true)) : (execOp (KE l) ⟨d, .unOp .not tt x, ty, ps, af, g⟩).run P w = .ok (.value (.bool false)) w := TR rfl (CL hx)
theorem rNotF (hx : IQ l x = some (.bool false)) : (execOp (KE l) ⟨d, .unOp .not tt x, ty, ps, af, g⟩).run P w = .ok (.value (.bool true)) w := TR rfl (CL hx)
theorem rLt (hx : IQ l x = some (.int k m)) (hy : IQ l y = some (.int k n)) (hc : decide (m < n) = b) : (execOp (KE l) ⟨d, .binOp .lss tt x y tt', ty, ps, af, g⟩).run P w = .ok (.value (.bool b)) w := MD rfl (CL hx) (CL hy) hc
theorem rLe (hx : IQ l x = some (.int k m)) (hy : IQ l y = some (.int k n)) (hc : decide (m ≤ n) = b) : (execOp (KE l) ⟨d, .binOp .leq tt x y tt', ty, ps, af, g⟩).run P w = .ok (.value (.bool b)) w := NJ rfl (CL hx) (CL hy) hc
theorem rGt (hx : IQ l x = some (.int k m)) (hy : IQ l y = some (.int k n)) (hc : decide (m > n) = b) : (execOp (KE l) ⟨d, .binOp .gtr tt x y tt', ty, ps, af, g⟩).run P w = .ok (.value (.bool b)) w := TV rfl (CL hx) (CL hy) hc
theorem rGe (hx : IQ l x = some (.int k m)) (hy : IQ l y = some (.int k n)) (hc : decide (m ≥ n) = b) : (execOp (KE l) ⟨d, .binOp .geq tt x y tt', ty, ps, af, g⟩).run P w = .ok (.value (.bool b)) w := Ku rfl (CL hx) (CL hy) hc
theorem rEq (hx : IQ l x = some (.int k m)) (hy : IQ l y = some (.int k n)) (hc : decide (m = n) = b) : (execOp (KE l) ⟨d, .binOp .eql tt x y tt', ty, ps, af, g⟩).run P w = .ok (.value (.bool b)) w := GQ rfl (CL hx) (CL hy) (by rw [← hc, Bool.eq_iff_iff]; simp)
theorem rNe (hx : IQ l x = some (.int k m)) (hy : IQ l y = some (.int k n)) (hc : decide (¬ m = n) = b) : (execOp (KE l) ⟨d, .binOp .neq tt x y tt', ty, ps, af, g⟩).run P w = .ok (.value (.bool b)) w := TS rfl (CL hx) (CL hy) (by rw [← hc, Bool.eq_iff_iff]; simp)
theorem rInc {a : Nat} (hx : IQ l x = some (.int .i64 ↑a)) (hy : IQ l y = some (.int .i64 1)) (h : a < 9223372036854775807) : (execOp (KE l) ⟨d, .binOp .add tt x y tt', ty, ps, af, g⟩).run P w = .ok (.value (.int .i64 ↑(a + 1))) w :=
  JJ rfl (CL hx) (CL hy) (ST Z Z)
theorem rAddN {a b : Nat} (hx : IQ l x = some (.int .i64 ↑a)) (hy : IQ l y = some (.int .i64 ↑b)) (h : a + b < 9223372036854775808) : (execOp (KE l) ⟨d, .binOp .add tt x y tt', ty, ps, af, g⟩).run P w = .ok (.value (.int .i64 ↑(a + b))) w :=
  JJ rfl (CL hx) (CL hy) (ST Z h)
theorem rLenS {s : ByteArray} (hx : IQ l x = some (.string s)) : (execOp (KE l) ⟨d, .call { callee := .builtin .len, args := #[x], argTypes := #[9] }, ty, ps, af, g⟩).run prog w = .ok (.value (.int .i64 ↑s.size)) w := qQ rfl (CL hx)
section
variable {h j TB : Nat} {cs : List Value}
theorem Pw (hx : IQ l x = some (.pointer (some ⟨h, j, none⟩))) (hb : Bx w h TB cs) (hi : cs[j]? = some v) : (execOp (KE l) ⟨d, .load 60 x, ty, ps, af, g⟩).run prog w = .ok (.value v) w := CR rfl sD (CL hx) hb hi
theorem Px (hx : IQ l x = some (.pointer (some ⟨h, j, none⟩))) (hb : Bx w h TB cs) (hi : cs[j]? = some v) : (execOp (KE l) ⟨d, .load 4 x, ty, ps, af, g⟩).run prog w = .ok (.value v) w := CR rfl ZF (CL hx) hb hi
theorem Pr (hx : IQ l x = some (.pointer (some ⟨h, 0, none⟩))) (hb : Bx w h 62 cs) (hn : cs.length = 2) : (execOp (KE l) ⟨d, .load 62 x, ty, ps, af, g⟩).run prog w = .ok (.value (.agg cs.toArray)) w := CT FM rfl (CL hx) hb hn
theorem rFI0 (hx : IQ l x = some (.pointer (some ⟨h, 0, none⟩))) : (execOp (KE l) ⟨d, .fieldAddr 62 x 0, ty, ps, af, g⟩).run prog w = .ok (.value (.pointer (some ⟨h, 0, none⟩))) w := qS rfl (CL hx)
theorem rFI1 (hx : IQ l x = some (.pointer (some ⟨h, 0, none⟩))) : (execOp (KE l) ⟨d, .fieldAddr 62 x 1, ty, ps, af, g⟩).run prog w = .ok (.value (.pointer (some ⟨h, 1, none⟩))) w := qR rfl (CL hx)
end
end
section
variable {w : World} {f : SF} {L : List SF} {p : Prop}
theorem pe0 (E : Env w (f :: L)) : f.p w := E.1
theorem pe1 (h : Env w L → p) (E : Env w (f :: L)) : p := h E.2
theorem peE (h : Env w L → p) (E : Env w L) : p := h E
theorem peI (E : Env w L) (h : Env w L → p) : p := h E
theorem peC (h : f.p w) (E : Env w L) : Env w (f :: L) := ⟨h, E⟩
end
section
variable {P : Program} {fn : Func} {w : World} {l : List Value} {i j k : Nat} {u v x : Value}
theorem rs1 (h : fn.results = #[.tmp i]) (hv : l[i]? = some v) : (results fn l.toArray).run P w = .ok v w := by
  unfold results; rw [h]; simp [hv]
theorem rs2 (h : fn.results = #[.tmp i, .tmp j]) (hv : l[i]? = some v) (hu : l[j]? = some u) : (results fn l.toArray).run P w = .ok (.tuple #[v, u]) w := by
  unfold results; rw [h]; simp [hv, hu]
theorem rs3 (h : fn.results = #[.tmp i, .tmp j, .tmp k]) (hv : l[i]? = some v) (hu : l[j]? = some u) (hx : l[k]? = some x) : (results fn l.toArray).run P w = .ok (.tuple #[v, u, x]) w := by
  unfold results; rw [h]; simp [hv, hu, hx]
theorem bR {R : Ending → World → Prop} (hR : R (.returned v) w) (hr : (results fn l.toArray).run P w = .ok v w := by first | exact rs1 rfl rfl | exact rs2 rfl rfl rfl | exact rs3 rfl rfl rfl rfl | fail) : bodyPost P fn R .ret ⟨l.toArray, []⟩ w := AP hr rfl hR
end
theorem sE {P : Program} {ops : Array Oper} {Q : Exit → Act → World → Prop} {l : List SF} {id : Nat} {a : Act} {w : World} (E : Env w l) (σ : List Nat) (h : DJ P .any ops Q [] (fun w => Env w l) (fun w => Env w l) σ false a w.drew) (hQ : ∀ d v c a w, Q (.panic c) (a.put d v) w → Q (.panic c) a w := by intro d v c a w h; cases d <;> exact h) (hm : P.follows .mixedOrders = true := by kernel_rfl) (hs : Region.noSelect ops = true := by kernel_rfl) (hl : (σ.length == ops.size) = true := by kernel_rfl) (hk : PX .any ops [] (Array.replicate ops.size false) σ = true := by kernel_rfl) : (Code.region id ops true).wp P Q a w := Az E σ hm hs hl hk hQ h
structure Hold (q : Prop) : Prop where
  out : q
theorem zA {p : Prop} (h : p := by
  first
  | assumption
  | (refine peI (by first | exact hS | exact E | fail) ?_)
    repeat (first | exact pe0 | refine pe1 ?_)
    done
  | (refine peI (by first | exact E | fail) ?_)
    repeat (first | exact pe0 | refine pe1 ?_)
    done
  | fail) : p := h
theorem zB {p : Prop} (h : p := by
  first
  | (with_reducible assumption)
  | (refine peI (by first | exact E | fail) ?_)
    repeat (first | (with_reducible exact pe0) | refine pe1 ?_)
    done
  | fail) : p := h
theorem zE {p : Prop} (h : p := by
  repeat (first | (with_reducible exact Env.nil _) | refine peC (by first | exact zB | exact zA | fail) ?_)
  done) : p := h
theorem zQ {p : Prop} (h : p := by first | (with_reducible exact FW) | ((with_reducible apply CN); omega) | ((with_reducible apply Hb); omega) | fail) : p := h
theorem zK {p : Prop} (h : p := by
  repeat (first
  | refine And.intro (by first
    | ((with_reducible apply CS); omega)
    | ((with_reducible apply okB); omega)
    | ((with_reducible apply JD); omega)
    | ((with_reducible apply UO); omega)
    | ((with_reducible apply EC); exact zQ)
    | exact True.intro
    | ((with_reducible apply PC); assumption; exact zQ)
    | ((with_reducible apply okAl); exact zA; omega; exact zQ)
    | ((with_reducible apply EA) <;> omega)
    | ((with_reducible apply KL) <;> omega)
    | ((with_reducible apply okDf); omega)
    | ((with_reducible apply okM); omega)
    | ((with_reducible apply okI); omega)
    | fail) ?_
  | exact True.intro)
  done) : p := h
theorem zC {p : Prop} (h : p := by first | exact decide_eq_true Z | exact decide_eq_false Z | fail) : p := h
theorem zR {p : Prop} (h : p := by first
  | (with_reducible apply rMove); exact rfl
  | (with_reducible apply rAss); exact rfl
  | (with_reducible apply rPick); exact rfl; exact rfl
  | (with_reducible apply rExt); exact rfl; exact rfl
  | (with_reducible apply rNotT); exact rfl
  | (with_reducible apply rNotF); exact rfl
  | (with_reducible apply rLt); exact rfl; exact rfl; exact zC
  | (with_reducible apply rEq); exact rfl; exact rfl; exact zC
  | (with_reducible apply rNe); exact rfl; exact rfl; exact zC
  | (with_reducible apply rLe); exact rfl; exact rfl; exact zC
  | (with_reducible apply rGt); exact rfl; exact rfl; exact zC
  | (with_reducible apply rGe); exact rfl; exact rfl; exact zC
  | (with_reducible apply rInc); exact rfl; exact rfl; omega
  | (with_reducible apply rLenS); exact rfl
  | (with_reducible apply rAddN); exact rfl; exact rfl; omega
  | (with_reducible apply Pw); exact rfl; exact zA; exact rfl
  | (with_reducible apply Px); exact rfl; exact zA; exact rfl
  | (with_reducible apply Pr); exact rfl; exact zA; exact rfl
  | (with_reducible apply rFI0); exact rfl
  | (with_reducible apply rFI1); exact rfl
  | exact qZ rfl
  | fail) : p := h
theorem zS {p q : Prop} (k : q) (h : Hold q → p := by
  intro hq
  first
  | (with_reducible refine isWL ?_)
    first
    | refine gV zR rfl rfl ?_
    | refine Oj rfl rfl ?_
    | fail
  | (with_reducible refine isKW ?_)
    first
    | refine kw rfl ?_
    | refine kn rfl ?_
    | fail
  | (with_reducible refine WN ?_)
    (try change Code.wp _ _ _ _ _)
  | (with_reducible refine AM ?_)
  | (with_reducible refine RL ?_)
  | (with_reducible refine Ht ?_)
    first
    | refine AN rfl ?_
    | refine AO rfl ?_
    | fail
  | (with_reducible refine isS ?_)
    first
    | refine gS rfl (fun w hS => zR) rfl rfl rfl rfl ?_
    | refine gS0 rfl rfl rfl (by first | exact E | exact E.2 | exact E.2.2 | exact E.2.2.2 | exact E.2.2.2.2 | exact E.2.2.2.2.2 | exact E.2.2.2.2.2.2 | fail) ?_
    | fail
  | (with_reducible refine isSP ?_)
    first
    | refine kS rfl ?_
    | refine kS0 rfl ?_
    | fail
  | (with_reducible refine SN ?_)
    (try change Code.wp _ _ _ _ _)
  | (with_reducible refine AT ?_)
    (try change Code.wp _ _ _ _ _)
  | (with_reducible refine AS ?_)
  | (with_reducible refine AW ?_)
    (try change Code.wp _ _ _ _ _)
  | (with_reducible refine AU ?_)
    (try refine bR ?_)
  | (fail_if_success (with_reducible change Code.wp _ _ _ _ _))
    change Code.wp _ _ _ _ _
  | fail
  exact hq.out) : p := h ⟨k⟩
theorem zG {p q : Prop} (k : q) (h : Hold q → p := by
  intro hq
  repeat (refine zS ?_; (try (refine zS ?_; (try (refine zS ?_; (try refine zS ?_))))); (try simp only [q2,q3]))
  (try simp only [Act.put,q1,q2,q3])
  exact hq.out) : p := h ⟨k⟩
end Go.Proofs.YtmppigbbkjepiaaGreatDoor
namespace Go.Proofs.YtmppigbbkjepiaaGreatDoor
open W
def KH (l : List UInt8) : List Nat := l.map fun b => b.toNat - 48
def IW (l : List UInt8) : Bool := !l.isEmpty && !(l.head? == some 48 && decide (1 < l.length)) && l.all fun b => decide (48 ≤ b.toNat) && decide (b.toNat ≤ 57)
theorem dO {l : List UInt8} (h : l.length = 0) : IW l = false := by
  rw [List.eq_nil_of_length_eq_zero h]; rfl
theorem vL {l : List UInt8} {b : UInt8} (h0 : l[0]? = some b) (hb : b.toNat = 48) (h1 : 1 < l.length) : IW l = false := by
  have : b = 48 := UInt8.toNat_inj.1 (by rw [hb]; rfl)
  subst this
  unfold IW
  rw [List.head?_eq_getElem?, h0]
  simp [h1]
theorem XO {l : List UInt8} {b : UInt8} {i : Nat} (h : l[i]? = some b) (hb : b.toNat < 48 ∨ 57 < b.toNat) : IW l = false := by
  unfold IW
  have : (l.all fun b => decide (48 ≤ b.toNat) && decide (b.toNat ≤ 57)) = false := by
    rw [List.all_eq_false]
    refine ⟨b, List.mem_of_getElem? h, ?_⟩
    simp; omega
  rw [this, Bool.and_false]
theorem ZA {l : List UInt8} (h0 : 0 < l.length) (h1 : (∀ b, l[0]? = some b → b.toNat = 48 → ¬ 1 < l.length)) (h : ∀ i b, i < l.length → l[i]? = some b → 48 ≤ b.toNat ∧ b.toNat ≤ 57) : IW l = true := by
  unfold IW
  have p : l.isEmpty = false := by cases l <;> simp at h0 ⊢
  have o : (l.head? == some 48 && decide (1 < l.length)) = false := by
    rw [Bool.and_eq_false_iff]
    by_cases e : l.head? = some 48
    · right
      rw [decide_eq_false_iff_not]
      exact h1 48 (by rw [← List.head?_eq_getElem?]; exact e) rfl
    · left; rw [beq_eq_false_iff_ne]; exact e
  have e3 : (l.all fun b => decide (48 ≤ b.toNat) && decide (b.toNat ≤ 57)) = true := by
    rw [List.all_eq_true]
    intro b k
    obtain ⟨i, f, rfl⟩ := List.getElem_of_mem k
    have := h i l[i] f (List.getElem?_eq_getElem f)
    simp; omega
  rw [p, o, e3]; rfl
theorem QB {l : List UInt8} (h : IW l = true) : ∀ b ∈ l, 48 ≤ b.toNat ∧ b.toNat ≤ 57 := by
  unfold IW at h
  simp only [Bool.and_eq_true] at h
  intro b e
  have := List.all_eq_true.1 h.2 b e
  simpa using this
theorem XN {l : List UInt8} (h : IW l = true) : 0 < l.length := by
  rcases Nat.eq_zero_or_pos l.length with e | e
  · rw [dO e] at h; cases h
  · exact e
theorem Re {l : List UInt8} (h : IW l = true) : Dg (KH l) := by
  intro d e
  obtain ⟨b, f, rfl⟩ := List.mem_map.1 e
  have := QB h b f
  omega
theorem pF {l : List UInt8} (h : ∀ b ∈ l, 48 ≤ b.toNat ∧ b.toNat ≤ 57) : ZQ (KH l) = l := by
  unfold ZQ KH
  rw [List.map_map]
  conv => rhs; rw [← List.map_id l]
  apply List.map_congr_left
  intro b e
  have := h b e
  simp only [Function.comp, id]
  rw [show 48 + (b.toNat - 48) = b.toNat by omega]
  simp
theorem Mu {l : List Nat} (h : Dg l) : KH (ZQ l) = l := by
  unfold ZQ KH
  rw [List.map_map]
  conv => rhs; rw [← List.map_id l]
  apply List.map_congr_left
  intro d e
  have := h d e
  simp only [Function.comp, id, UInt8.toNat_ofNat']
  omega
theorem Rf {l : List UInt8} (h : IW l = true) : Cn (KH l) := by
  have k := XN h
  refine ⟨fun e => ?_, fun e => ?_⟩
  · have := congrArg List.length e
    simp [KH] at this
    subst this; simp at k
  · unfold IW at h
    simp only [Bool.and_eq_true, Bool.not_eq_true', Bool.and_eq_false_iff] at h
    have o := h.1.2
    have q := List.all_eq_true.1 h.2
    cases l with
    | nil => simp at k
    | cons b l =>
      have p := q b AG
      simp only [Bool.and_eq_true, decide_eq_true_eq] at p
      simp only [KH, List.map_cons, List.head?_cons, Option.some.injEq] at e
      have f : b = 48 := UInt8.toNat_inj.1 (by show b.toNat = 48; omega)
      subst f
      simp at o
      simp [KH, o]
theorem pD {l : List UInt8} (h : IW l = true) : KH l = VG (DE (KH l)) := wI _ _ rfl (Re h) (Rf h)
theorem Ro (n : Nat) : IW (ZQ (VG n)) = true := by
  have p := OJ n
  have k := Rg n
  refine ZA ?_ ?_ ?_
  · simp [ZQ, List.length_pos_iff.2 k.1]
  · intro b f t
    cases h : VG n with
    | nil => exact absurd h k.1
    | cons d l =>
      rw [h] at f p k
      simp only [ZQ, List.map_cons, List.getElem?_cons_zero, Option.some.injEq] at f
      have q := (Dg_cons.1 p).1
      have e := congrArg UInt8.toNat f
      rw [UInt8.toNat_ofNat'] at e
      have o : d = 0 := by omega
      have := k.2 (by simp [o])
      simp [ZQ] at this ⊢
      omega
  · intro i b v f
    have u := List.mem_of_getElem? f
    obtain ⟨d, h, rfl⟩ := List.mem_map.1 u
    have := p d h
    rw [UInt8.toNat_ofNat']
    omega
def DQ (l : List UInt8) : Option Int :=
  if l.head? = some 45 then (if IW l.tail = true ∧ l.tail ≠ [48] then some (-(DE (KH l.tail) : Int)) else none)
  else if IW l = true then some (DE (KH l) : Int) else none
theorem Bf {l : List UInt8} (h : IW l = true) (h0 : l ≠ [48]) : 0 < DE (KH l) := by
  rcases Nat.eq_zero_or_pos (DE (KH l)) with e | e
  · exfalso
    have k := pD h
    rw [e, OI 0 Z] at k
    have f := pF (QB h)
    rw [k] at f
    exact h0 f.symm
  · exact e
theorem KZ {l : List UInt8} {z : Int} (h : DQ l = some z) : PE z = l := by
  unfold DQ at h
  by_cases f : l.head? = some 45
  · rw [if_pos f] at h
    by_cases e : IW l.tail = true ∧ l.tail ≠ [48]
    · rw [if_pos e] at h
      simp only [Option.some.injEq] at h
      have o := Bf e.1 e.2
      have k : z < 0 := by omega
      unfold PE
      rw [if_pos k, show z.natAbs = DE (KH l.tail) by omega, ← pD e.1, pF (QB e.1)]
      cases l with
      | nil => simp at f
      | cons b l => simp at f ⊢; exact f.symm
    · rw [if_neg e] at h; cases h
  · rw [if_neg f] at h
    by_cases e : IW l = true
    · rw [if_pos e] at h
      simp only [Option.some.injEq] at h
      unfold PE
      rw [if_neg Z, show z.natAbs = DE (KH l) by omega, ← pD e, pF (QB e)]; rfl
    · rw [if_neg e] at h; cases h
theorem XM (z : Int) : DQ (PE z) = some z := by
  have t := jS (OJ z.natAbs)
  have p := Ro z.natAbs
  have h := Mu (OJ z.natAbs)
  unfold DQ PE
  by_cases o : z < 0
  · rw [if_pos o]
    have k : ZQ (VG z.natAbs) ≠ [48] := by
      intro e
      have q := congrArg KH e
      rw [h] at q
      have e3 := congrArg DE q
      rw [PZ] at e3
      have : DE (KH [48]) = 0 := rfl
      omega
    have l : ([(45 : UInt8)] ++ ZQ (VG z.natAbs)).head? = some 45 := rfl
    have f : ([(45 : UInt8)] ++ ZQ (VG z.natAbs)).tail = ZQ (VG z.natAbs) := rfl
    rw [if_pos l, f, if_pos ⟨p, k⟩, h, PZ]
    congr 1; omega
  · rw [if_neg o, List.nil_append, if_neg t, if_pos p, h, PZ]
    congr 1; omega
theorem YZ {l : List UInt8} (h : DQ l = none) (z : Int) : PE z ≠ l := by
  rintro rfl; rw [XM] at h; cases h
theorem RK {s : ByteArray} {i : Nat} (h : i < s.size) : ∃ b, s[i]? = some b ∧ s.data.toList[i]? = some b := by
  refine ⟨s[i], by simp [h], ?_⟩
  have e : i < s.data.size := h
  rw [Array.getElem?_toList, Array.getElem?_eq_getElem e]; rfl
theorem HH (s : ByteArray) : s.data.toList.length = s.size := by rw [Array.length_toList]; rfl
theorem VM (s : ByteArray) (j : Nat) (_h : j ≤ s.size) : (s.extract j s.size).data.toList = s.data.toList.drop j := by
  have e : s.data.toList.length = s.size := HH s
  rw [ByteArray.data_extract, Array.toList_extract, List.extract_eq_take_drop]
  rw [List.take_of_length_le]
  rw [List.length_drop, e]
  exact Nat.le_refl _
end Go.Proofs.YtmppigbbkjepiaaGreatDoor
namespace Go.Proofs.YtmppigbbkjepiaaGreatDoor
open Go.Proofs.Tryz
open Go.RowKit W
theorem TW {ρ : Operand → Value} {o : Oper} {w : World} {P : Program} {t t' : TypeId} {x y : Operand} {a b : ByteArray} {c : Bool} (ho : o.op = .binOp .eql t x y t') (hx : ρ x = .string a) (hy : ρ y = .string b) (hc : (a.data.toList == b.data.toList) = c) : (execOp ρ o).run P w = .ok (.value (.bool c)) w := by
  unfold execOp; rw [ho]
  simp only [hx, hy, eqGuard_at_string, binOp, Op.stringOp, Sem.run_bind, Sem.run_pure, Result.andThen_ok, ByteArray.toList_eq, hc]
theorem Bq {s : ByteArray} (h : s.size = 0) : s = ⟨#[]⟩ := by
  apply ByteArray.ext
  exact Array.eq_empty_of_size_eq_zero h
theorem qI {s : ByteArray} (h : s.size = 0) : (s.data.toList == (⟨#[]⟩ : ByteArray).data.toList) = true := by
  rw [beq_iff_eq, Bq h]
theorem TN {s : ByteArray} (h : ¬ s.size = 0) : (s.data.toList == (⟨#[]⟩ : ByteArray).data.toList) = false := by
  rw [beq_eq_false_iff_ne]; intro e; apply h; rw [← HH, e]; rfl
theorem sU {l : List UInt8} {i : Nat} {b : UInt8} (h : ∀ j b, j < i → l[j]? = some b → 48 ≤ b.toNat ∧ b.toNat ≤ 57) (hb : l[i]? = some b) (h1 : 48 ≤ b.toNat) (h2 : b.toNat ≤ 57) :
    ∀ j b, j < i + 1 → l[j]? = some b → 48 ≤ b.toNat ∧ b.toNat ≤ 57 := by
  intro j c k f
  by_cases e : j = i
  · subst e; rw [hb] at f; cases f; exact ⟨h1, h2⟩
  · exact h j c Z f
set_option maxRecDepth 100000 in
set_option maxHeartbeats 4000000 in
theorem Db (s : ByteArray) (w : World) (hs9 : s.size ≤ 1000000) :
    Calls prog 173 #[.string s] w (JO w (IW s.data.toList)) := by
 have E := Env.start w
 go_enter func173, ntmps173
 by_cases N : s.size = 0
 case pos =>
  refine zG ?_
  refine V (v := .bool true) O O (TW O O O (qI N)) ?_
  refine zG ?_
  exact ⟨by rw [dO (by rw [HH]; exact N)], E.1⟩
 obtain ⟨c, Y, P⟩ := RK (i := 0) (s := s) Z
 by_cases R : c.toNat = 48
 case neg =>
  refine zG ?_
  refine V (v := .bool false) O O (TW O O O (TN N)) ?_
  refine zG ?_
  refine V (v := .int .u8 ↑c.toNat) O O (GP (j := 0) O underlying9 O O O Y) ?_
  refine zG ?_
  refine wp_loop_ghost (fun X a U => ∃ (i : Nat) (T S F D C B z y u t q p o l k : Value), a = ⟨#[.string s, undef, T, S, .string s, .bool false, .bool false, .string s, .int .u8 ↑c.toNat, .bool false, .bool false, undef, undef, undef, .bool false, .bool false, .string s, .int .i64 ↑s.size, .int .i64 ↑i, F, D, C, B, z, y, u, t, q, p, o, l, k], []⟩ ∧ Env U [fW w] ∧ X = s.size - i ∧ i ≤ s.size ∧ ∀ j b, j < i → s.data.toList[j]? = some b → 48 ≤ b.toNat ∧ b.toNat ≤ 57) (s.size) ⟨0, _, _, _, _, _, _, _, _, _, _, _, _, _, _, _, O, zE, O, ⟨Nat.zero_le _, fun j b G => absurd G (Nat.not_lt_zero _)⟩⟩ ?_
  rintro m2 _ w2 ⟨i, T, S, F, D, C, B, z, y, u, t, q, p, o, l, k, rfl, E, a1, J⟩
  by_cases hi : i = s.size
  case pos =>
   refine zG ?_
   exact ⟨by rw [ZA (by rw [HH]; omega) (fun b e h => absurd (by rw [P] at e; cases e; exact h) R) (fun j b G e => J.2 j b (by rw [HH] at G; omega) e)], E.1⟩
  have H : i < s.size := by have := J.1; omega
  obtain ⟨b, e, f⟩ := RK H
  by_cases Q : b.toNat < 48
  case pos =>
   refine zG ?_
   refine V (v := .int .u8 ↑b.toNat) O O (GP (j := i) O underlying9 O O O e) ?_
   refine zG ?_
   exact ⟨by rw [XO f Z], E.1⟩
  by_cases a0 : 57 < b.toNat
  case pos =>
   refine zG ?_
   refine V (v := .int .u8 ↑b.toNat) O O (GP (j := i) O underlying9 O O O e) ?_
   refine zG ?_
   refine V (v := .int .u8 ↑b.toNat) O O (GP (j := i) O underlying9 O O O e) ?_
   refine zG ?_
   exact ⟨by rw [XO f Z], E.1⟩
  refine zG ?_
  refine V (v := .int .u8 ↑b.toNat) O O (GP (j := i) O underlying9 O O O e) ?_
  refine zG ?_
  refine V (v := .int .u8 ↑b.toNat) O O (GP (j := i) O underlying9 O O O e) ?_
  refine zG ?_
  exact ⟨_, Z, i + 1, _, _, _, _, _, _, _, _, _, _, _, _, _, _, _, rfl, zE, rfl, ⟨by omega, sU J.2 f Z Z⟩⟩
 by_cases h1 : 1 < s.size
 case pos =>
  refine zG ?_
  refine V (v := .bool false) O O (TW O O O (TN N)) ?_
  refine zG ?_
  refine V (v := .int .u8 ↑c.toNat) O O (GP (j := 0) O underlying9 O O O Y) ?_
  refine zG ?_
  exact ⟨by rw [vL P R (by rw [HH]; exact h1)], E.1⟩
 refine zG ?_
 refine V (v := .bool false) O O (TW O O O (TN N)) ?_
 refine zG ?_
 refine V (v := .int .u8 ↑c.toNat) O O (GP (j := 0) O underlying9 O O O Y) ?_
 refine zG ?_
 refine wp_loop_ghost (fun X a U => ∃ (i : Nat) (T S F D C B z y u t q p o l k : Value), a = ⟨#[.string s, undef, T, S, .string s, .bool false, .bool false, .string s, .int .u8 ↑c.toNat, .bool true, .bool true, .string s, .int .i64 ↑s.size, .bool false, .bool false, .bool false, .string s, .int .i64 ↑s.size, .int .i64 ↑i, F, D, C, B, z, y, u, t, q, p, o, l, k], []⟩ ∧ Env U [fW w] ∧ X = s.size - i ∧ i ≤ s.size ∧ ∀ j b, j < i → s.data.toList[j]? = some b → 48 ≤ b.toNat ∧ b.toNat ≤ 57) (s.size) ⟨0, _, _, _, _, _, _, _, _, _, _, _, _, _, _, _, O, zE, O, ⟨Nat.zero_le _, fun j b G => absurd G (Nat.not_lt_zero _)⟩⟩ ?_
 rintro m1 _ w1 ⟨i, T, S, F, D, C, B, z, y, u, t, q, p, o, l, k, rfl, E, a2, L⟩
 by_cases hi : i = s.size
 case pos =>
  refine zG ?_
  exact ⟨by rw [ZA (by rw [HH]; omega) (fun b e h => by rw [HH]; exact h1) (fun j b G e => L.2 j b (by rw [HH] at G; omega) e)], E.1⟩
 have H : i < s.size := by have := L.1; omega
 obtain ⟨b, e, f⟩ := RK H
 by_cases Q : b.toNat < 48
 case pos =>
  refine zG ?_
  refine V (v := .int .u8 ↑b.toNat) O O (GP (j := i) O underlying9 O O O e) ?_
  refine zG ?_
  exact ⟨by rw [XO f Z], E.1⟩
 by_cases a0 : 57 < b.toNat
 case pos =>
  refine zG ?_
  refine V (v := .int .u8 ↑b.toNat) O O (GP (j := i) O underlying9 O O O e) ?_
  refine zG ?_
  refine V (v := .int .u8 ↑b.toNat) O O (GP (j := i) O underlying9 O O O e) ?_
  refine zG ?_
  exact ⟨by rw [XO f Z], E.1⟩
 refine zG ?_
 refine V (v := .int .u8 ↑b.toNat) O O (GP (j := i) O underlying9 O O O e) ?_
 refine zG ?_
 refine V (v := .int .u8 ↑b.toNat) O O (GP (j := i) O underlying9 O O O e) ?_
 refine zG ?_
 exact ⟨_, Z, i + 1, _, _, _, _, _, _, _, _, _, _, _, _, _, _, _, rfl, zE, rfl, ⟨by omega, sU L.2 f Z Z⟩⟩
end Go.Proofs.YtmppigbbkjepiaaGreatDoor
