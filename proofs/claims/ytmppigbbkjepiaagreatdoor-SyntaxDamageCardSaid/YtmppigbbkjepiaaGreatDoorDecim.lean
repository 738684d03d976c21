/- Helping facts of Auto; no other conditions. Helping facts of ParM; no other conditions. Helping facts of Decim; no other conditions. -/
import Derived.Test.YtmppigbbkjepiaaGreatDoorKitC
namespace Go.Proofs.YtmppigbbkjepiaaGreatDoor
open Go.Proofs.Tryz
open Go.RowKit W
section
variable {P : Program} {ops : Array Oper} {Q : Exit → Act → World → Prop} {rest : List Oper} {o : Oper} {w : World} {l : List Value} {v : Value} {i : Nat}
def IW (l : List Value) : Operand → Option Value
  | .tmp t => l[t]?
  | .const v => some v
  | _ => none
theorem CO {x : Operand} (h : IW l x = some v) : KL l x = v := by
  cases x <;> simp_all [IW, KL]
def Iw (ops : Array Oper) (l : List Value) (o : Oper) : Option Bool :=
  match o.guard with
  | none => some true
  | some (j, b) =>
    match ops[j]? with
    | some q =>
      match q.dst with
      | some d =>
        match l[d]? with
        | some (.bool c) => some (c == b)
        | some (.tuple _) => some false
        | _ => none
      | none => none
    | none => none
theorem VJ {c : Bool} (h : Iw ops l o = some c) : Region.wanted o (yielded ops l.toArray) = c := by
  unfold Iw at h
  unfold Region.wanted
  split at h
  · rename_i e; rw [e]; simpa using h
  · rename_i j b e
    rw [e]; simp only
    split at h
    · rename_i q e2
      split at h
      · rename_i d e3
        split at h
        · rename_i c' e4
          have hy : yielded ops l.toArray j = some c' := by simp [yielded, e2, e3, e4]
          rw [hy]
          simp at h; subst h
          cases c' <;> cases b <;> rfl
        · rename_i e4
          have hy : yielded ops l.toArray j = none := by simp [yielded, e2, e3, e4]
          rw [hy]
          simp at h; subst h; rfl
        · cases h
      · cases h
    · cases h
theorem gV (hr : (execOp (KL l) o).run P w = .ok (.value v) w) (hd : o.dst = some i) (hg : Iw ops l o = some true) (h : WL P ops Q rest (l.set i v) w) : WL P ops Q (o :: rest) l w := V (VJ hg) hd hr h
theorem Ud (hg : Iw ops l o = some false) (hd : o.dst = some i) (h : WL P ops Q rest (l.set i undef) w) : WL P ops Q (o :: rest) l w := L0C (VJ hg) hd h
theorem isWL (h : WL P ops Q (o :: rest) l w) : WL P ops Q (o :: rest) l w := h
theorem isKW {a : Act} (h : KW P ops Q rest a w) : KW P ops Q rest a w := h
theorem Mn {c : Operand} {x y : Code} {a : Act} (h : (Code.cond c x y).wp P Q a w) : (Code.cond c x y).wp P Q a w := h
end
section
variable {P : Program} {md : Region.Mode} {ops : Array Oper} {Q : Exit → Act → World → Prop} {S1 S2 : World → Prop} {rest : List Nat} {o : Oper} {w : World} {l : List Value} {v : Value} {i k : Nat} {r : List Oper}
theorem uX (h : ops.toList.drop k = o :: r) : ops[k]? = some o := by
  have := congrArg List.head? h
  simpa [List.head?_drop] using this
theorem gS (ho : ops.toList.drop k = o :: r) (hr : ∀ w, S1 w → (execOp (KL l) o).run P w = .ok (.value v) w) (hd : o.dst = some i) (hg : Iw ops l o = some true) (hp : JU o = true) (ht : VT md ops [] k = true)
    (h : DJ P md ops Q [] S1 S2 rest false ⟨(l.set i v).toArray, []⟩ w) : DJ P md ops Q [] S1 S2 (k :: rest) false ⟨l.toArray, []⟩ w := SW (uX ho) hp ht (VJ hg) hd hr h
theorem gS0 (ho : ops.toList.drop k = o :: r) (hg : Iw ops l o = some false) (hd : o.dst = some i) (hS : S1 w)
    (h : DJ P md ops Q [] S1 S2 rest false ⟨(l.set i undef).toArray, []⟩ w) : DJ P md ops Q [] S1 S2 (k :: rest) false ⟨l.toArray, []⟩ w := S0 (uX ho) (VJ hg) hS (by rw [OE l i undef hd]; exact h)
theorem isS (h : DJ P md ops Q [] S1 S2 (k :: rest) false ⟨l.toArray, []⟩ w) : DJ P md ops Q [] S1 S2 (k :: rest) false ⟨l.toArray, []⟩ w := h
end
section
variable {P : Program} {md : Region.Mode} {ops : Array Oper} {Q : Exit → Act → World → Prop} {S1 S2 : World → Prop} {B : List Nat} {ph : Bool} {rest : List Nat} {w : World} {l : List Value} {v : Value} {i : Nat} {d : Option Nat}
theorem kS (hd : d = some i) (h : DJ P md ops Q B S1 S2 rest ph ⟨(l.set i v).toArray, []⟩ w) : DJ P md ops Q B S1 S2 rest ph (Act.put ⟨l.toArray, []⟩ d v) w := by subst hd; simpa [Act.put] using h
theorem kS0 (hd : d = none) (h : DJ P md ops Q B S1 S2 rest ph ⟨l.toArray, []⟩ w) : DJ P md ops Q B S1 S2 rest ph (Act.put ⟨l.toArray, []⟩ d v) w := by subst hd; exact h
theorem isSP (h : DJ P md ops Q B S1 S2 rest ph (Act.put ⟨l.toArray, []⟩ d v) w) : DJ P md ops Q B S1 S2 rest ph (Act.put ⟨l.toArray, []⟩ d v) w := h
end
section
variable {P : Program} {w : World} {l : List Value} {v : Value} {x y c t : Operand} {k : IntKind} {m n : Int} {b : Bool} {tt tt' ty : TypeId} {d : Option Nat} {ps : String} {af : Array Edge} {g : Option (Nat × Bool)}
theorem rMove (hx : IW l x = some v) : (execOp (KL l) ⟨d, .move x, ty, ps, af, g⟩).run P w = .ok (.value v) w := GE rfl (CO hx)
theorem rAss (hx : IW l x = some v) : (execOp (KL l) ⟨d, .assign x, ty, ps, af, g⟩).run P w = .ok (.value v) w := KH rfl (CO hx)
theorem rPick (hc : IW l c = some (.bool b)) (hx : IW l (cond b x y) = some v) : (execOp (KL l) ⟨d, .pick c x y, ty, ps, af, g⟩).run P w = .ok (.value v) w := Kh rfl (CO hc) (by cases b <;> exact CO hx)
theorem rExt {a : Array Value} {j : Nat} (hx : IW l t = some (.tuple a)) (hk : a.toList[j]? = some v) : (execOp (KL l) ⟨d, .extract t j, ty, ps, af, g⟩).run P w = .ok (.value v) w := XA (vs := a.toList) rfl (by rw [CO hx]) hk
theorem rNotT (hx : IW l x = some (.bool true)) : (execOp (KL l) ⟨d, .unOp .not tt x, ty, ps, af, g⟩).run P w = .ok (.value (.bool false)) w := UY rfl (CO hx)
theorem rNotF (hx : IW l x = some (.bool false)) : (execOp (KL l) ⟨d, .unOp .not tt x, ty, ps, af, g⟩).run P w = .ok (.value (.bool true)) w := UY rfl (CO hx)
theorem rLt (hx : IW l x = some (.int k m)) (hy : IW l y = some (.int k n)) (hc : decide (m < n) = b) : (execOp (KL l) ⟨d, .binOp .lss tt x y tt', ty, ps, af, g⟩).run P w = .ok (.value (.bool b)) w := PN rfl (CO hx) (CO hy) hc
theorem rLe (hx : IW l x = some (.int k m)) (hy : IW l y = some (.int k n)) (hc : decide (m ≤ n) = b) : (execOp (KL l) ⟨d, .binOp .leq tt x y tt', ty, ps, af, g⟩).run P w = .ok (.value (.bool b)) w := PO rfl (CO hx) (CO hy) hc
theorem rGt (hx : IW l x = some (.int k m)) (hy : IW l y = some (.int k n)) (hc : decide (m > n) = b) : (execOp (KL l) ⟨d, .binOp .gtr tt x y tt', ty, ps, af, g⟩).run P w = .ok (.value (.bool b)) w := VB rfl (CO hx) (CO hy) hc
theorem rGe (hx : IW l x = some (.int k m)) (hy : IW l y = some (.int k n)) (hc : decide (m ≥ n) = b) : (execOp (KL l) ⟨d, .binOp .geq tt x y tt', ty, ps, af, g⟩).run P w = .ok (.value (.bool b)) w := Px rfl (CO hx) (CO hy) hc
theorem rEq (hx : IW l x = some (.int k m)) (hy : IW l y = some (.int k n)) (hc : decide (m = n) = b) : (execOp (KL l) ⟨d, .binOp .eql tt x y tt', ty, ps, af, g⟩).run P w = .ok (.value (.bool b)) w := EW rfl (CO hx) (CO hy) (by rw [← hc, Bool.eq_iff_iff]; simp)
theorem rNe (hx : IW l x = some (.int k m)) (hy : IW l y = some (.int k n)) (hc : decide (¬ m = n) = b) : (execOp (KL l) ⟨d, .binOp .neq tt x y tt', ty, ps, af, g⟩).run P w = .ok (.value (.bool b)) w := UZ rfl (CO hx) (CO hy) (by rw [← hc, Bool.eq_iff_iff]; simp)
theorem rInc {a : Nat} (hx : IW l x = some (.int .i64 ↑a)) (hy : IW l y = some (.int .i64 1)) (h : a < 9223372036854775807) : (execOp (KL l) ⟨d, .binOp .add tt x y tt', ty, ps, af, g⟩).run P w = .ok (.value (.int .i64 ↑(a + 1))) w :=
  JD rfl (CO hx) (CO hy) (LM AA AA)
theorem rAddN {a b : Nat} (hx : IW l x = some (.int .i64 ↑a)) (hy : IW l y = some (.int .i64 ↑b)) (h : a + b < 9223372036854775808) : (execOp (KL l) ⟨d, .binOp .add tt x y tt', ty, ps, af, g⟩).run P w = .ok (.value (.int .i64 ↑(a + b))) w :=
  JD rfl (CO hx) (CO hy) (LM AA h)
theorem rLenS {s : ByteArray} (hx : IW l x = some (.string s)) : (execOp (KL l) ⟨d, .call { callee := .builtin .len, args := #[x], argTypes := #[9] }, ty, ps, af, g⟩).run prog w = .ok (.value (.int .i64 ↑s.size)) w := tE rfl (CO hx)
section
variable {h j TB : Nat} {cs : List Value}
theorem Vm (hx : IW l x = some (.pointer (some ⟨h, j, none⟩))) (hb : Bx w h TB cs) (hi : cs[j]? = some v) : (execOp (KL l) ⟨d, .load 60 x, ty, ps, af, g⟩).run prog w = .ok (.value v) w := CP rfl uL (CO hx) hb hi
theorem Vn (hx : IW l x = some (.pointer (some ⟨h, j, none⟩))) (hb : Bx w h TB cs) (hi : cs[j]? = some v) : (execOp (KL l) ⟨d, .load 4 x, ty, ps, af, g⟩).run prog w = .ok (.value v) w := CP rfl aJ (CO hx) hb hi
theorem Vi (hx : IW l x = some (.pointer (some ⟨h, 0, none⟩))) (hb : Bx w h 62 cs) (hn : cs.length = 2) : (execOp (KL l) ⟨d, .load 62 x, ty, ps, af, g⟩).run prog w = .ok (.value (.agg cs.toArray)) w := CT FU rfl (CO hx) hb hn
theorem rFI0 (hx : IW l x = some (.pointer (some ⟨h, 0, none⟩))) : (execOp (KL l) ⟨d, .fieldAddr 62 x 0, ty, ps, af, g⟩).run prog w = .ok (.value (.pointer (some ⟨h, 0, none⟩))) w := tG rfl (CO hx)
theorem rFI1 (hx : IW l x = some (.pointer (some ⟨h, 0, none⟩))) : (execOp (KL l) ⟨d, .fieldAddr 62 x 1, ty, ps, af, g⟩).run prog w = .ok (.value (.pointer (some ⟨h, 1, none⟩))) w := tF rfl (CO hx)
end
end
section
variable {w : World} {f : SF} {L : List SF} {p : Prop}
theorem pe0 (E : Env w (f :: L)) : f.p w := E.1
theorem pe1 (h : Env w L → p) (E : Env w (f :: L)) : p := h E.2
theorem peE (h : Env w L → p) (E : Env w L) : p := h E
theorem peI (E : Env w L) (h : Env w L → p) : p := h E
theorem peC (h : f.p w) (E : Env w L) : Env w (f :: L) := ⟨h, E⟩
end
section
variable {P : Program} {fn : Func} {w : World} {l : List Value} {i j k : Nat} {u v x : Value}
theorem rs1 (h : fn.results = #[.tmp i]) (hv : l[i]? = some v) : (results fn l.toArray).run P w = .ok v w := by
  unfold results; rw [h]; simp [hv]
theorem rs2 (h : fn.results = #[.tmp i, .tmp j]) (hv : l[i]? = some v) (hu : l[j]? = some u) : (results fn l.toArray).run P w = .ok (.tuple #[v, u]) w := by
  unfold results; rw [h]; simp [hv, hu]
theorem rs3 (h : fn.results = #[.tmp i, .tmp j, .tmp k]) (hv : l[i]? = some v) (hu : l[j]? = some u) (hx : l[k]? = some x) : (results fn l.toArray).run P w = .ok (.tuple #[v, u, x]) w := by
  unfold results; rw [h]; simp [hv, hu, hx]
theorem bR {R : Ending → World → Prop} (hR : R (.returned v) w) (hr : (results fn l.toArray).run P w = .ok v w := by first | exact rs1 rfl rfl | exact rs2 rfl rfl rfl | exact rs3 rfl rfl rfl rfl | fail) : bodyPost P fn R .ret ⟨l.toArray, []⟩ w := AQ hr rfl hR
end
theorem sE {P : Program} {ops : Array Oper} {Q : Exit → Act → World → Prop} {l : List SF} {id : Nat} {a : Act} {w : World} (E : Env w l) (σ : List Nat) (h : DJ P .any ops Q [] (fun w => Env w l) (fun w => Env w l) σ false a w.drew) (hQ : ∀ d v c a w, Q (.panic c) (a.put d v) w → Q (.panic c) a w := by intro d v c a w h; cases d <;> exact h) (hm : P.follows .mixedOrders = true := by kernel_rfl) (hs : Region.noSelect ops = true := by kernel_rfl) (hl : (σ.length == ops.size) = true := by kernel_rfl) (hk : QV .any ops [] (Array.replicate ops.size false) σ = true := by kernel_rfl) : (Code.region id ops true).wp P Q a w := Ef E σ hm hs hl hk hQ h
structure Hold (q : Prop) : Prop where
  out : q
theorem zA {p : Prop} (h : p := by
  first
  | assumption
  | (refine peI (by first | exact hS | exact E | fail) ?_)
    repeat (first | exact pe0 | refine pe1 ?_)
    done
  | (refine peI (by first | exact E | fail) ?_)
    repeat (first | exact pe0 | refine pe1 ?_)
    done
  | fail) : p := h
theorem zB {p : Prop} (h : p := by
  first
  | (with_reducible assumption)
  | (refine peI (by first | exact E | fail) ?_)
    repeat (first | (with_reducible exact pe0) | refine pe1 ?_)
    done
  | fail) : p := h
theorem zE {p : Prop} (h : p := by
  repeat (first | (with_reducible exact Env.nil _) | refine peC (by first | exact zB | exact zA | fail) ?_)
  done) : p := h
theorem zQ {p : Prop} (h : p := by first | (with_reducible exact GH) | ((with_reducible apply CJ); omega) | ((with_reducible apply MP); omega) | fail) : p := h
theorem zK {p : Prop} (h : p := by
  repeat (first
  | refine And.intro (by first
    | ((with_reducible apply CQ); omega)
    | ((with_reducible apply okB); omega)
    | ((with_reducible apply IS); omega)
    | ((with_reducible apply SI); omega)
    | ((with_reducible apply DR); exact zQ)
    | exact True.intro
    | ((with_reducible apply MT); assumption; exact zQ)
    | ((with_reducible apply okAl); exact zA; omega; exact zQ)
    | ((with_reducible apply EG) <;> omega)
    | ((with_reducible apply LC) <;> omega)
    | ((with_reducible apply okDf); omega)
    | ((with_reducible apply okM); omega)
    | ((with_reducible apply okI); omega)
    | fail) ?_
  | exact True.intro)
  done) : p := h
theorem zC {p : Prop} (h : p := by first | exact decide_eq_true AA | exact decide_eq_false AA | fail) : p := h
theorem zR {p : Prop} (h : p := by first
  | (with_reducible apply rMove); exact rfl
  | (with_reducible apply rAss); exact rfl
  | (with_reducible apply rPick); exact rfl; exact rfl
  | (with_reducible apply rExt); exact rfl; exact rfl
  | (with_reducible apply rNotT); exact rfl
  | (with_reducible apply rNotF); exact rfl
  | (with_reducible apply rLt); exact rfl; exact rfl; exact zC
  | (with_reducible apply rEq); exact rfl; exact rfl; exact zC
  | (with_reducible apply rNe); exact rfl; exact rfl; exact zC
  | (with_reducible apply rLe); exact rfl; exact rfl; exact zC
  | (with_reducible apply rGt); exact rfl; exact rfl; exact zC
  | (with_reducible apply rGe); exact rfl; exact rfl; exact zC
  | (with_reducible apply rInc); exact rfl; exact rfl; omega
  | (with_reducible apply rLenS); exact rfl
  | (with_reducible apply rAddN); exact rfl; exact rfl; omega
  | (with_reducible apply Vm); exact rfl; exact zA; exact rfl
  | (with_reducible apply Vn); exact rfl; exact zA; exact rfl
  | (with_reducible apply Vi); exact rfl; exact zA; exact rfl
  | (with_reducible apply rFI0); exact rfl
  | (with_reducible apply rFI1); exact rfl
  | exact tM rfl
  | fail) : p := h
theorem zS {p q : Prop} (k : q) (h : Hold q → p := by
  intro hq
  first
  | (with_reducible refine isWL ?_)
    first
    | refine gV zR rfl rfl ?_
    | refine Ud rfl rfl ?_
    | fail
  | (with_reducible refine isKW ?_)
    first
    | refine kw rfl ?_
    | refine kn rfl ?_
    | fail
  | (with_reducible refine WN ?_)
    (try change Code.wp _ _ _ _ _)
  | (with_reducible refine AN ?_)
  | (with_reducible refine RL ?_)
  | (with_reducible refine Mn ?_)
    first
    | refine AO rfl ?_
    | refine AP rfl ?_
    | fail
  | (with_reducible refine isS ?_)
    first
    | refine gS rfl (fun w hS => zR) rfl rfl rfl rfl ?_
    | refine gS0 rfl rfl rfl (by first | exact E | exact E.2 | exact E.2.2 | exact E.2.2.2 | exact E.2.2.2.2 | exact E.2.2.2.2.2 | exact E.2.2.2.2.2.2 | fail) ?_
    | fail
  | (with_reducible refine isSP ?_)
    first
    | refine kS rfl ?_
    | refine kS0 rfl ?_
    | fail
  | (with_reducible refine SN ?_)
    (try change Code.wp _ _ _ _ _)
  | (with_reducible refine AU ?_)
    (try change Code.wp _ _ _ _ _)
  | (with_reducible refine AT ?_)
  | (with_reducible refine AX ?_)
    (try change Code.wp _ _ _ _ _)
  | (with_reducible refine AW ?_)
    (try refine bR ?_)
  | (fail_if_success (with_reducible change Code.wp _ _ _ _ _))
    change Code.wp _ _ _ _ _
  | fail
  exact hq.out) : p := h ⟨k⟩
theorem zG {p q : Prop} (k : q) (h : Hold q → p := by
  intro hq
  repeat (refine zS ?_; (try (refine zS ?_; (try (refine zS ?_; (try refine zS ?_))))); (try simp only [q2,q3]))
  (try simp only [Act.put,q1,q2,q3])
  exact hq.out) : p := h ⟨k⟩
theorem zM {p : Prop} (h : p := by first | (with_reducible exact FM) | ((with_reducible apply IsI.now); exact zA) | fail) : p := h
theorem oB {w w' : World} {b T : Nat} {cs : List Value} {n : Bool} {s : Value} {L : List SF} (E : Env w L) (x : Bx w b T cs) (o : Onl b w w') (y : Bx w' b 62 [.bool n, s]) (k : Ok b L := by exact zK) (h : SJ cs := by exact zM) : Env w' (fB b n s :: L) := (E.onl (x.noW h) k o).b y
theorem oX {w w' : World} {b T T' : Nat} {cs ds : List Value} {L : List SF} (E : Env w L) (x : Bx w b T cs) (o : Onl b w w') (y : Bx w' b T' ds) (k : Ok b L := by exact zK) (h : SJ cs := by exact zM) : Env w' (fX b T' ds :: L) := (E.onl (x.noW h) k o).x y
end Go.Proofs.YtmppigbbkjepiaaGreatDoor
namespace Go.Proofs.YtmppigbbkjepiaaGreatDoor
open W
def LB (l : List UInt8) : List Nat := l.map fun b => b.toNat - 48
def JE (l : List UInt8) : Bool := !l.isEmpty && !(l.head? == some 48 && decide (1 < l.length)) && l.all fun b => decide (48 ≤ b.toNat) && decide (b.toNat ≤ 57)
theorem gF {l : List UInt8} (h : l.length = 0) : JE l = false := by
  rw [List.eq_nil_of_length_eq_zero h]; rfl
theorem yE {l : List UInt8} {b : UInt8} (h0 : l[0]? = some b) (hb : b.toNat = 48) (h1 : 1 < l.length) : JE l = false := by
  have : b = 48 := UInt8.toNat_inj.1 (by rw [hb]; rfl)
  subst this
  unfold JE
  rw [List.head?_eq_getElem?, h0]
  simp [h1]
theorem YV {l : List UInt8} {b : UInt8} {i : Nat} (h : l[i]? = some b) (hb : b.toNat < 48 ∨ 57 < b.toNat) : JE l = false := by
  unfold JE
  have : (l.all fun b => decide (48 ≤ b.toNat) && decide (b.toNat ≤ 57)) = false := by
    rw [List.all_eq_false]
    refine ⟨b, List.mem_of_getElem? h, ?_⟩
    simp; omega
  rw [this, Bool.and_false]
theorem aF {l : List UInt8} (h0 : 0 < l.length) (h1 : (∀ b, l[0]? = some b → b.toNat = 48 → ¬ 1 < l.length)) (h : ∀ i b, i < l.length → l[i]? = some b → 48 ≤ b.toNat ∧ b.toNat ≤ 57) : JE l = true := by
  unfold JE
  have e1 : l.isEmpty = false := by cases l <;> simp at h0 ⊢
  have e2 : (l.head? == some 48 && decide (1 < l.length)) = false := by
    rw [Bool.and_eq_false_iff]
    by_cases e : l.head? = some 48
    · right
      rw [decide_eq_false_iff_not]
      exact h1 48 (by rw [← List.head?_eq_getElem?]; exact e) rfl
    · left; rw [beq_eq_false_iff_ne]; exact e
  have e3 : (l.all fun b => decide (48 ≤ b.toNat) && decide (b.toNat ≤ 57)) = true := by
    rw [List.all_eq_true]
    intro b k
    obtain ⟨i, f, rfl⟩ := List.getElem_of_mem k
    have := h i l[i] f (List.getElem?_eq_getElem f)
    simp; omega
  rw [e1, e2, e3]; rfl
theorem NT {l : List UInt8} (h : JE l = true) : ∀ b ∈ l, 48 ≤ b.toNat ∧ b.toNat ≤ 57 := by
  unfold JE at h
  simp only [Bool.and_eq_true] at h
  intro b e
  have := List.all_eq_true.1 h.2 b e
  simpa using this
theorem YU {l : List UInt8} (h : JE l = true) : 0 < l.length := by
  rcases Nat.eq_zero_or_pos l.length with e | e
  · rw [gF e] at h; cases h
  · exact e
theorem Ws {l : List UInt8} (h : JE l = true) : Dg (LB l) := by
  intro d e
  obtain ⟨b, f, rfl⟩ := List.mem_map.1 e
  have := NT h b f
  omega
theorem rN {l : List UInt8} (h : ∀ b ∈ l, 48 ≤ b.toNat ∧ b.toNat ≤ 57) : aQ (LB l) = l := by
  unfold aQ LB
  rw [List.map_map]
  conv => rhs; rw [← List.map_id l]
  apply List.map_congr_left
  intro b e
  have := h b e
  simp only [Function.comp, id]
  rw [show 48 + (b.toNat - 48) = b.toNat by omega]
  simp
theorem Sf {l : List Nat} (h : Dg l) : LB (aQ l) = l := by
  unfold aQ LB
  rw [List.map_map]
  conv => rhs; rw [← List.map_id l]
  apply List.map_congr_left
  intro d e
  have := h d e
  simp only [Function.comp, id, UInt8.toNat_ofNat']
  omega
theorem Wt {l : List UInt8} (h : JE l = true) : Cn (LB l) := by
  have k := YU h
  refine ⟨fun e => ?_, fun e => ?_⟩
  · have := congrArg List.length e
    simp [LB] at this
    subst this; simp at k
  · unfold JE at h
    simp only [Bool.and_eq_true, Bool.not_eq_true', Bool.and_eq_false_iff] at h
    have o := h.1.2
    have q := List.all_eq_true.1 h.2
    cases l with
    | nil => simp at k
    | cons b l =>
      have p := q b AH
      simp only [Bool.and_eq_true, decide_eq_true_eq] at p
      simp only [LB, List.map_cons, List.head?_cons, Option.some.injEq] at e
      have f : b = 48 := UInt8.toNat_inj.1 (by show b.toNat = 48; omega)
      subst f
      simp at o
      simp [LB, o]
theorem rL {l : List UInt8} (h : JE l = true) : LB l = WM (DE (LB l)) := zV _ _ rfl (Ws h) (Wt h)
theorem zY (n : Nat) : JE (aQ (WM n)) = true := by
  have p := OO n
  have k := Wu n
  refine aF ?_ ?_ ?_
  · simp [aQ, List.length_pos_iff.2 k.1]
  · intro b f t
    cases h : WM n with
    | nil => exact absurd h k.1
    | cons d l =>
      rw [h] at f p k
      simp only [aQ, List.map_cons, List.getElem?_cons_zero, Option.some.injEq] at f
      have q := (Dg_cons.1 p).1
      have e := congrArg UInt8.toNat f
      rw [UInt8.toNat_ofNat'] at e
      have o : d = 0 := by omega
      have := k.2 (by simp [o])
      simp [aQ] at this ⊢
      omega
  · intro i b v f
    have u := List.mem_of_getElem? f
    obtain ⟨d, h, rfl⟩ := List.mem_map.1 u
    have := p d h
    rw [UInt8.toNat_ofNat']
    omega
def DP (l : List UInt8) : Option Int :=
  if l.head? = some 45 then (if JE l.tail = true ∧ l.tail ≠ [48] then some (-(DE (LB l.tail) : Int)) else none)
  else if JE l = true then some (DE (LB l) : Int) else none
theorem Eo {l : List UInt8} (h : JE l = true) (h0 : l ≠ [48]) : 0 < DE (LB l) := by
  rcases Nat.eq_zero_or_pos (DE (LB l)) with e | e
  · exfalso
    have k := rL h
    rw [e, ON 0 AA] at k
    have f := rN (NT h)
    rw [k] at f
    exact h0 f.symm
  · exact e
theorem LU {l : List UInt8} {z : Int} (h : DP l = some z) : txt z = l := by
  unfold DP at h
  by_cases f : l.head? = some 45
  · rw [if_pos f] at h
    by_cases e : JE l.tail = true ∧ l.tail ≠ [48]
    · rw [if_pos e] at h
      simp only [Option.some.injEq] at h
      have o := Eo e.1 e.2
      have k : z < 0 := by omega
      unfold txt
      rw [if_pos k, show z.natAbs = DE (LB l.tail) by omega, ← rL e.1, rN (NT e.1)]
      cases l with
      | nil => simp at f
      | cons b l => simp at f ⊢; exact f.symm
    · rw [if_neg e] at h; cases h
  · rw [if_neg f] at h
    by_cases e : JE l = true
    · rw [if_pos e] at h
      simp only [Option.some.injEq] at h
      unfold txt
      rw [if_neg AA, show z.natAbs = DE (LB l) by omega, ← rL e, rN (NT e)]; rfl
    · rw [if_neg e] at h; cases h
theorem UF (z : Int) : DP (txt z) = some z := by
  have q := dD (OO z.natAbs)
  have p := zY z.natAbs
  have h := Sf (OO z.natAbs)
  unfold DP txt
  by_cases o : z < 0
  · rw [if_pos o]
    have k : aQ (WM z.natAbs) ≠ [48] := by
      intro e
      have e2 := congrArg LB e
      rw [h] at e2
      have e3 := congrArg DE e2
      rw [QY] at e3
      have : DE (LB [48]) = 0 := rfl
      omega
    have l : ([(45 : UInt8)] ++ aQ (WM z.natAbs)).head? = some 45 := rfl
    have f : ([(45 : UInt8)] ++ aQ (WM z.natAbs)).tail = aQ (WM z.natAbs) := rfl
    rw [if_pos l, f, if_pos ⟨p, k⟩, h, QY]
    congr 1; omega
  · rw [if_neg o, List.nil_append, if_neg q, if_pos p, h, QY]
    congr 1; omega
theorem aE {l : List UInt8} (h : DP l = none) (z : Int) : txt z ≠ l := by
  rintro rfl; rw [UF] at h; cases h
theorem SS {s : ByteArray} {i : Nat} (h : i < s.size) : ∃ b, s[i]? = some b ∧ s.data.toList[i]? = some b := by
  refine ⟨s[i], by simp [h], ?_⟩
  have e : i < s.data.size := h
  rw [Array.getElem?_toList, Array.getElem?_eq_getElem e]; rfl
theorem IA (s : ByteArray) : s.data.toList.length = s.size := by rw [Array.length_toList]; rfl
theorem WQ (s : ByteArray) (j : Nat) (_h : j ≤ s.size) : (s.extract j s.size).data.toList = s.data.toList.drop j := by
  have e : s.data.toList.length = s.size := IA s
  rw [ByteArray.data_extract, Array.toList_extract, List.extract_eq_take_drop]
  rw [List.take_of_length_le]
  rw [List.length_drop, e]
  exact Nat.le_refl _
end Go.Proofs.YtmppigbbkjepiaaGreatDoor
namespace Go.Proofs.YtmppigbbkjepiaaGreatDoor
open Go.Proofs.Tryz
open Go.RowKit W
theorem VC {ρ : Operand → Value} {o : Oper} {w : World} {P : Program} {t t' : TypeId} {x y : Operand} {a b : ByteArray} {c : Bool} (ho : o.op = .binOp .eql t x y t') (hx : ρ x = .string a) (hy : ρ y = .string b) (hc : (a.data.toList == b.data.toList) = c) : (execOp ρ o).run P w = .ok (.value (.bool c)) w := by
  unfold execOp; rw [ho]
  simp only [hx, hy, eqGuard_at_string, binOp, Op.stringOp, Sem.run_bind, Sem.run_pure, Result.andThen_ok, ByteArray.toList_eq, hc]
theorem Fc {s : ByteArray} (h : s.size = 0) : s = ⟨#[]⟩ := by
  apply ByteArray.ext
  exact Array.eq_empty_of_size_eq_zero h
theorem sX {s : ByteArray} (h : s.size = 0) : (s.data.toList == (⟨#[]⟩ : ByteArray).data.toList) = true := by
  rw [beq_iff_eq, Fc h]
theorem UV {s : ByteArray} (h : ¬ s.size = 0) : (s.data.toList == (⟨#[]⟩ : ByteArray).data.toList) = false := by
  rw [beq_eq_false_iff_ne]; intro e; apply h; rw [← IA, e]; rfl
theorem vC {l : List UInt8} {i : Nat} {b : UInt8} (h : ∀ j b, j < i → l[j]? = some b → 48 ≤ b.toNat ∧ b.toNat ≤ 57) (hb : l[i]? = some b) (h1 : 48 ≤ b.toNat) (h2 : b.toNat ≤ 57) :
    ∀ j b, j < i + 1 → l[j]? = some b → 48 ≤ b.toNat ∧ b.toNat ≤ 57 := by
  intro j c k f
  by_cases e : j = i
  · subst e; rw [hb] at f; cases f; exact ⟨h1, h2⟩
  · exact h j c AA f
set_option maxRecDepth 100000 in
set_option maxHeartbeats 4000000 in
theorem Ho (s : ByteArray) (w : World) (hs9 : s.size ≤ 1000000) :
    Calls prog 173 #[.string s] w (NP w (JE s.data.toList)) := by
 have E := Env.start w
 go_enter func173, ntmps173
 by_cases L : s.size = 0
 case pos =>
  refine zG ?_
  refine V (v := .bool true) O O (VC O O O (sX L)) ?_
  refine zG ?_
  exact ⟨by rw [gF (by rw [IA]; exact L)], E.1⟩
 obtain ⟨c, X, N⟩ := SS (i := 0) (s := s) AA
 by_cases Q : c.toNat = 48
 case neg =>
  refine zG ?_
  refine V (v := .bool false) O O (VC O O O (UV L)) ?_
  refine zG ?_
  refine V (v := .int .u8 ↑c.toNat) O O (GW (j := 0) O underlying9 O O O X) ?_
  refine zG ?_
  refine wp_loop_ghost (fun U a T => ∃ (i : Nat) (S R F D C B z y u t q p o l k : Value), a = ⟨#[.string s, undef, S, R, .string s, .bool false, .bool false, .string s, .int .u8 ↑c.toNat, .bool false, .bool false, undef, undef, undef, .bool false, .bool false, .string s, .int .i64 ↑s.size, .int .i64 ↑i, F, D, C, B, z, y, u, t, q, p, o, l, k], []⟩ ∧ Env T [fW w] ∧ U = s.size - i ∧ i ≤ s.size ∧ ∀ j b, j < i → s.data.toList[j]? = some b → 48 ≤ b.toNat ∧ b.toNat ≤ 57) (s.size) ⟨0, _, _, _, _, _, _, _, _, _, _, _, _, _, _, _, O, zE, O, ⟨Nat.zero_le _, fun j b G => absurd G (Nat.not_lt_zero _)⟩⟩ ?_
  rintro m2 _ w2 ⟨i, S, R, F, D, C, B, z, y, u, t, q, p, o, l, k, rfl, E, a0, I⟩
  by_cases hi : i = s.size
  case pos =>
   refine zG ?_
   exact ⟨by rw [aF (by rw [IA]; omega) (fun b e h => absurd (by rw [N] at e; cases e; exact h) Q) (fun j b G e => I.2 j b (by rw [IA] at G; omega) e)], E.1⟩
  have H : i < s.size := by have := I.1; omega
  obtain ⟨b, e, f⟩ := SS H
  by_cases P : b.toNat < 48
  case pos =>
   refine zG ?_
   refine V (v := .int .u8 ↑b.toNat) O O (GW (j := i) O underlying9 O O O e) ?_
   refine zG ?_
   exact ⟨by rw [YV f AA], E.1⟩
  by_cases Y : 57 < b.toNat
  case pos =>
   refine zG ?_
   refine V (v := .int .u8 ↑b.toNat) O O (GW (j := i) O underlying9 O O O e) ?_
   refine zG ?_
   refine V (v := .int .u8 ↑b.toNat) O O (GW (j := i) O underlying9 O O O e) ?_
   refine zG ?_
   exact ⟨by rw [YV f AA], E.1⟩
  refine zG ?_
  refine V (v := .int .u8 ↑b.toNat) O O (GW (j := i) O underlying9 O O O e) ?_
  refine zG ?_
  refine V (v := .int .u8 ↑b.toNat) O O (GW (j := i) O underlying9 O O O e) ?_
  refine zG ?_
  exact ⟨_, AA, i + 1, _, _, _, _, _, _, _, _, _, _, _, _, _, _, _, rfl, zE, rfl, ⟨by omega, vC I.2 f AA AA⟩⟩
 by_cases h1 : 1 < s.size
 case pos =>
  refine zG ?_
  refine V (v := .bool false) O O (VC O O O (UV L)) ?_
  refine zG ?_
  refine V (v := .int .u8 ↑c.toNat) O O (GW (j := 0) O underlying9 O O O X) ?_
  refine zG ?_
  exact ⟨by rw [yE N Q (by rw [IA]; exact h1)], E.1⟩
 refine zG ?_
 refine V (v := .bool false) O O (VC O O O (UV L)) ?_
 refine zG ?_
 refine V (v := .int .u8 ↑c.toNat) O O (GW (j := 0) O underlying9 O O O X) ?_
 refine zG ?_
 refine wp_loop_ghost (fun U a T => ∃ (i : Nat) (S R F D C B z y u t q p o l k : Value), a = ⟨#[.string s, undef, S, R, .string s, .bool false, .bool false, .string s, .int .u8 ↑c.toNat, .bool true, .bool true, .string s, .int .i64 ↑s.size, .bool false, .bool false, .bool false, .string s, .int .i64 ↑s.size, .int .i64 ↑i, F, D, C, B, z, y, u, t, q, p, o, l, k], []⟩ ∧ Env T [fW w] ∧ U = s.size - i ∧ i ≤ s.size ∧ ∀ j b, j < i → s.data.toList[j]? = some b → 48 ≤ b.toNat ∧ b.toNat ≤ 57) (s.size) ⟨0, _, _, _, _, _, _, _, _, _, _, _, _, _, _, _, O, zE, O, ⟨Nat.zero_le _, fun j b G => absurd G (Nat.not_lt_zero _)⟩⟩ ?_
 rintro m1 _ w1 ⟨i, S, R, F, D, C, B, z, y, u, t, q, p, o, l, k, rfl, E, a1, J⟩
 by_cases hi : i = s.size
 case pos =>
  refine zG ?_
  exact ⟨by rw [aF (by rw [IA]; omega) (fun b e h => by rw [IA]; exact h1) (fun j b G e => J.2 j b (by rw [IA] at G; omega) e)], E.1⟩
 have H : i < s.size := by have := J.1; omega
 obtain ⟨b, e, f⟩ := SS H
 by_cases P : b.toNat < 48
 case pos =>
  refine zG ?_
  refine V (v := .int .u8 ↑b.toNat) O O (GW (j := i) O underlying9 O O O e) ?_
  refine zG ?_
  exact ⟨by rw [YV f AA], E.1⟩
 by_cases Y : 57 < b.toNat
 case pos =>
  refine zG ?_
  refine V (v := .int .u8 ↑b.toNat) O O (GW (j := i) O underlying9 O O O e) ?_
  refine zG ?_
  refine V (v := .int .u8 ↑b.toNat) O O (GW (j := i) O underlying9 O O O e) ?_
  refine zG ?_
  exact ⟨by rw [YV f AA], E.1⟩
 refine zG ?_
 refine V (v := .int .u8 ↑b.toNat) O O (GW (j := i) O underlying9 O O O e) ?_
 refine zG ?_
 refine V (v := .int .u8 ↑b.toNat) O O (GW (j := i) O underlying9 O O O e) ?_
 refine zG ?_
 exact ⟨_, AA, i + 1, _, _, _, _, _, _, _, _, _, _, _, _, _, _, _, rfl, zE, rfl, ⟨by omega, vC J.2 f AA AA⟩⟩
end Go.Proofs.YtmppigbbkjepiaaGreatDoor
