/- Helping facts of Auto; no other conditions. Helping facts of ParM; no other conditions. Helping facts of Decim; no other conditions. -/
import Derived.Test.YtmppigbbkjepiaaGreatDoorKitC
namespace Go.Proofs.YtmppigbbkjepiaaGreatDoor
open Go.Proofs.Tryz
open Go.RowKit W
variable {L : List SF} {P : Program} {T i : Nat} {a : Act} {b : UInt8} {c : Bool} {cs : List Value} {l : List UInt8} {p q : Prop} {s : ByteArray} {w w' : World} {x : Operand}
theorem ZUa (h : p := by
 refine zG ?_
 refine V (v := .int .u8 ↑b.toNat) O O (IC (j := i) O underlying9 O O O e) ?_
 exact ZuB
 ) : p := h
theorem ZuB (h : p := by
 refine zG ?_
 refine V (v := .int .u8 ↑b.toNat) O O (IC (j := i) O underlying9 O O O e) ?_
 refine zG ?_
 exact ⟨by rw [aB f AA], E.1⟩
 ) : p := h
section
variable {P : Program} {ops : Array Oper} {Q : Exit -> Act -> World -> Prop} {rest : List Oper} {o : Oper} {w : World} {l : List Value} {v : Value} {i : Nat}
def JM (l : List Value) : Operand -> Option Value
 | .tmp t => l[t]?
 | .const v => some v
 | _ => none
theorem CQ (h : JM l x = some v) : LO l x = v := by
 cases x <;> simp_all [JM, LO]
def Kt (ops : Array Oper) (l : List Value) (o : Oper) : Option Bool :=
 match o.guard with
 | none => some true
 | some (j, b) =>
   match ops[j]? with
   | some q =>
     match q.dst with
     | some d =>
       match l[d]? with
       | some (.bool c) => some (c == b)
       | some (.tuple _) => some false
       | _ => none
     | none => none
   | none => none
theorem WJ (h : Kt ops l o = some c) : Region.wanted o (yielded ops l.toArray) = c := by
 unfold Kt at h
 unfold Region.wanted
 split at h
 . rename_i e; rw [e]; simpa using h
 rename_i j b e
 rw [e]; simp only
 split at h
 . rename_i q e2
   split at h
   . rename_i d e3
     split at h
     . rename_i c' e4
       have hy : yielded ops l.toArray j = some c' := by simp [yielded, e2, e3, e4]
       rw [hy]
       simp at h; subst h
       cases c' <;> cases b <;> rfl
     . rename_i e4
       have hy : yielded ops l.toArray j = none := by simp [yielded, e2, e3, e4]
       rw [hy]
       simp at h; subst h; rfl
     cases h
   cases h
 cases h
theorem gV (hr : (execOp (LO l) o).run P w = .ok (.value v) w) (hd : o.dst = some i) (hg : Kt ops l o = some true) (h : WL P ops Q rest (l.set i v) w) : WL P ops Q (o :: rest) l w := V (WJ hg) hd hr h
theorem Xh (hg : Kt ops l o = some false) (hd : o.dst = some i) (h : WL P ops Q rest (l.set i undef) w) : WL P ops Q (o :: rest) l w := L0C (WJ hg) hd h
theorem isWL (h : WL P ops Q (o :: rest) l w) : WL P ops Q (o :: rest) l w := h
theorem isKW (h : KW P ops Q rest a w) : KW P ops Q rest a w := h
theorem Pe {c : Operand} {x y : Code} (h : (Code.cond c x y).wp P Q a w) : (Code.cond c x y).wp P Q a w := h
end
section
variable {P : Program} {md : Region.Mode} {ops : Array Oper} {Q : Exit -> Act -> World -> Prop} {S1 S2 : World -> Prop} {rest : List Nat} {o : Oper} {w : World} {l : List Value} {v : Value} {i k : Nat} {r : List Oper}
theorem xX (h : ops.toList.drop k = o :: r) : ops[k]? = some o := by
 have := congrArg List.head? h
 simpa [List.head?_drop] using this
theorem gS (ho : ops.toList.drop k = o :: r) (hr : ∀ w, S1 w -> (execOp (LO l) o).run P w = .ok (.value v) w) (hd : o.dst = some i) (hg : Kt ops l o = some true) (hp : KG o = true) (ht : WX md ops [] k = true)
 (h : DM P md ops Q [] S1 S2 rest false ⟨(l.set i v).toArray, []⟩ w) : DM P md ops Q [] S1 S2 (k :: rest) false ⟨l.toArray, []⟩ w := SW (xX ho) hp ht (WJ hg) hd hr h
theorem gS0 (ho : ops.toList.drop k = o :: r) (hg : Kt ops l o = some false) (hd : o.dst = some i) (hS : S1 w)
 (h : DM P md ops Q [] S1 S2 rest false ⟨(l.set i undef).toArray, []⟩ w) : DM P md ops Q [] S1 S2 (k :: rest) false ⟨l.toArray, []⟩ w := S0 (xX ho) (WJ hg) hS (by rw [OY l i undef hd]; exact h)
theorem isS (h : DM P md ops Q [] S1 S2 (k :: rest) false ⟨l.toArray, []⟩ w) : DM P md ops Q [] S1 S2 (k :: rest) false ⟨l.toArray, []⟩ w := h
end
section
variable {P : Program} {md : Region.Mode} {ops : Array Oper} {Q : Exit -> Act -> World -> Prop} {S1 S2 : World -> Prop} {B : List Nat} {ph : Bool} {rest : List Nat} {w : World} {l : List Value} {v : Value} {i : Nat} {d : Option Nat}
theorem kS (hd : d = some i) (h : DM P md ops Q B S1 S2 rest ph ⟨(l.set i v).toArray, []⟩ w) : DM P md ops Q B S1 S2 rest ph (Act.put ⟨l.toArray, []⟩ d v) w := by subst hd; simpa [Act.put] using h
theorem kS0 (hd : d = none) (h : DM P md ops Q B S1 S2 rest ph ⟨l.toArray, []⟩ w) : DM P md ops Q B S1 S2 rest ph (Act.put ⟨l.toArray, []⟩ d v) w := by subst hd; exact h
theorem isSP (h : DM P md ops Q B S1 S2 rest ph (Act.put ⟨l.toArray, []⟩ d v) w) : DM P md ops Q B S1 S2 rest ph (Act.put ⟨l.toArray, []⟩ d v) w := h
end
section
variable {P : Program} {w : World} {l : List Value} {v : Value} {x y c t : Operand} {k : IntKind} {m n : Int} {b : Bool} {tt tt' ty : TypeId} {d : Option Nat} {ps : String} {af : Array Edge} {g : Option (Nat × Bool)}
theorem rMove (hx : JM l x = some v) : (execOp (LO l) ⟨d, .move x, ty, ps, af, g⟩).run P w = .ok (.value v) w := EV rfl (CQ hx)
theorem rAss (hx : JM l x = some v) : (execOp (LO l) ⟨d, .assign x, ty, ps, af, g⟩).run P w = .ok (.value v) w := IF rfl (CQ hx)
theorem rPick (hc : JM l c = some (.bool b)) (hx : JM l (cond b x y) = some v) : (execOp (LO l) ⟨d, .pick c x y, ty, ps, af, g⟩).run P w = .ok (.value v) w := Mi rfl (CQ hc) (by cases b <;> exact CQ hx)
theorem rExt {a : Array Value} {j : Nat} (hx : JM l t = some (.tuple a)) (hk : a.toList[j]? = some v) : (execOp (LO l) ⟨d, .extract t j, ty, ps, af, g⟩).run P w = .ok (.value v) w := JR (vs := a.toList) rfl (by rw [CQ hx]) hk
theorem rNotT (hx : JM l x = some (.bool true)) : (execOp (LO l) ⟨d, .unOp .not tt x, ty, ps, af, g⟩).run P w = .ok (.value (.bool false)) w := dE rfl (CQ hx)
theorem rNotF (hx : JM l x = some (.bool false)) : (execOp (LO l) ⟨d, .unOp .not tt x, ty, ps, af, g⟩).run P w = .ok (.value (.bool true)) w := dE rfl (CQ hx)
theorem rLt (hx : JM l x = some (.int k m)) (hy : JM l y = some (.int k n)) (hc : decide (m < n) = b) : (execOp (LO l) ⟨d, .binOp .lss tt x y tt', ty, ps, af, g⟩).run P w = .ok (.value (.bool b)) w := JH rfl (CQ hx) (CQ hy) hc
theorem rLe (hx : JM l x = some (.int k m)) (hy : JM l y = some (.int k n)) (hc : decide (m <= n) = b) : (execOp (LO l) ⟨d, .binOp .leq tt x y tt', ty, ps, af, g⟩).run P w = .ok (.value (.bool b)) w := OW rfl (CQ hx) (CQ hy) hc
theorem rGt (hx : JM l x = some (.int k m)) (hy : JM l y = some (.int k n)) (hc : decide (m > n) = b) : (execOp (LO l) ⟨d, .binOp .gtr tt x y tt', ty, ps, af, g⟩).run P w = .ok (.value (.bool b)) w := RS rfl (CQ hx) (CQ hy) hc
theorem rGe (hx : JM l x = some (.int k m)) (hy : JM l y = some (.int k n)) (hc : decide (m >= n) = b) : (execOp (LO l) ⟨d, .binOp .geq tt x y tt', ty, ps, af, g⟩).run P w = .ok (.value (.bool b)) w := sP rfl (CQ hx) (CQ hy) hc
theorem rEq (hx : JM l x = some (.int k m)) (hy : JM l y = some (.int k n)) (hc : decide (m = n) = b) : (execOp (LO l) ⟨d, .binOp .eql tt x y tt', ty, ps, af, g⟩).run P w = .ok (.value (.bool b)) w := EU rfl (CQ hx) (CQ hy) (by rw [<- hc, Bool.eq_iff_iff]; simp)
theorem rNe (hx : JM l x = some (.int k m)) (hy : JM l y = some (.int k n)) (hc : decide (¬ m = n) = b) : (execOp (LO l) ⟨d, .binOp .neq tt x y tt', ty, ps, af, g⟩).run P w = .ok (.value (.bool b)) w := VW rfl (CQ hx) (CQ hy) (by rw [<- hc, Bool.eq_iff_iff]; simp)
theorem rInc {a : Nat} (hx : JM l x = some (.int .i64 ↑a)) (hy : JM l y = some (.int .i64 1)) (h : a < 9223372036854775807) : (execOp (LO l) ⟨d, .binOp .add tt x y tt', ty, ps, af, g⟩).run P w = .ok (.value (.int .i64 ↑(a + 1))) w :=
 IY rfl (CQ hx) (CQ hy) (JP AA AA)
theorem rAddN {a b : Nat} (hx : JM l x = some (.int .i64 ↑a)) (hy : JM l y = some (.int .i64 ↑b)) (h : a + b < 9223372036854775808) : (execOp (LO l) ⟨d, .binOp .add tt x y tt', ty, ps, af, g⟩).run P w = .ok (.value (.int .i64 ↑(a + b))) w :=
 IY rfl (CQ hx) (CQ hy) (JP AA h)
theorem rLenS (hx : JM l x = some (.string s)) : (execOp (LO l) ⟨d, .call { callee := .builtin .len, args := #[x], argTypes := #[9] }, ty, ps, af, g⟩).run prog w = .ok (.value (.int .i64 ↑s.size)) w := vY rfl (CQ hx)
section
variable {h j TB : Nat} {cs : List Value}
theorem Ym (hx : JM l x = some (.pointer (some ⟨h, j, none⟩))) (hb : Bx w h TB cs) (hi : cs[j]? = some v) : (execOp (LO l) ⟨d, .load 60 x, ty, ps, af, g⟩).run prog w = .ok (.value v) w := CP rfl xF (CQ hx) hb hi
theorem Yn (hx : JM l x = some (.pointer (some ⟨h, j, none⟩))) (hb : Bx w h TB cs) (hi : cs[j]? = some v) : (execOp (LO l) ⟨d, .load 4 x, ty, ps, af, g⟩).run prog w = .ok (.value v) w := CP rfl bW (CQ hx) hb hi
theorem Yi (hx : JM l x = some (.pointer (some ⟨h, 0, none⟩))) (hb : Bx w h 62 cs) (hn : cs.length = 2) : (execOp (LO l) ⟨d, .load 62 x, ty, ps, af, g⟩).run prog w = .ok (.value (.agg cs.toArray)) w := CY GD rfl (CQ hx) hb hn
theorem rFI0 (hx : JM l x = some (.pointer (some ⟨h, 0, none⟩))) : (execOp (LO l) ⟨d, .fieldAddr 62 x 0, ty, ps, af, g⟩).run prog w = .ok (.value (.pointer (some ⟨h, 0, none⟩))) w := wA rfl (CQ hx)
theorem rFI1 (hx : JM l x = some (.pointer (some ⟨h, 0, none⟩))) : (execOp (LO l) ⟨d, .fieldAddr 62 x 1, ty, ps, af, g⟩).run prog w = .ok (.value (.pointer (some ⟨h, 1, none⟩))) w := vZ rfl (CQ hx)
end
end
section
variable {w : World} {f : SF} {L : List SF} {p : Prop}
theorem pe0 (E : Env w (f :: L)) : f.p w := E.1
theorem pe1 (h : Env w L -> p) (E : Env w (f :: L)) : p := h E.2
theorem peE (h : Env w L -> p) (E : Env w L) : p := h E
theorem peI (E : Env w L) (h : Env w L -> p) : p := h E
theorem peC (h : f.p w) (E : Env w L) : Env w (f :: L) := ⟨h, E⟩
end
section
variable {P : Program} {fn : Func} {w : World} {l : List Value} {i j k : Nat} {u v x : Value}
theorem rs1 (h : fn.results = #[.tmp i]) (hv : l[i]? = some v) : (results fn l.toArray).run P w = .ok v w := by
 unfold results; rw [h]; simp [hv]
theorem rs2 (h : fn.results = #[.tmp i, .tmp j]) (hv : l[i]? = some v) (hu : l[j]? = some u) : (results fn l.toArray).run P w = .ok (.tuple #[v, u]) w := by
 unfold results; rw [h]; simp [hv, hu]
theorem rs3 (h : fn.results = #[.tmp i, .tmp j, .tmp k]) (hv : l[i]? = some v) (hu : l[j]? = some u) (hx : l[k]? = some x) : (results fn l.toArray).run P w = .ok (.tuple #[v, u, x]) w := by
 unfold results; rw [h]; simp [hv, hu, hx]
theorem bR {R : Ending -> World -> Prop} (hR : R (.returned v) w) (hr : (results fn l.toArray).run P w = .ok v w := by first | exact rs1 rfl rfl | exact rs2 rfl rfl rfl | exact rs3 rfl rfl rfl rfl | fail) : bodyPost P fn R .ret ⟨l.toArray, []⟩ w := AQ hr rfl hR
end
theorem sE {ops : Array Oper} {Q : Exit -> Act -> World -> Prop} {l : List SF} {id : Nat} {a : Act} {w : World} (E : Env w l) (σ : List Nat) (h : DM P .any ops Q [] (fun w => Env w l) (fun w => Env w l) σ false a w.drew) (hQ : ∀ d v c a w, Q (.panic c) (a.put d v) w -> Q (.panic c) a w := by intro d v c a w h; cases d <;> exact h) (hm : P.follows .mixedOrders = true := by kernel_rfl) (hs : Region.noSelect ops = true := by kernel_rfl) (hl : (σ.length == ops.size) = true := by kernel_rfl) (hk : RU .any ops [] (Array.replicate ops.size false) σ = true := by kernel_rfl) : (Code.region id ops true).wp P Q a w := Hc E σ hm hs hl hk hQ h
structure Hold (q : Prop) : Prop where
 out : q
theorem zA (h : p := by
 first
 | assumption
 | (refine peI (by first | exact hS | exact E | fail) ?_)
   repeat (first | exact pe0 | refine pe1 ?_)
   done
 | (refine peI (by first | exact E | fail) ?_)
   repeat (first | exact pe0 | refine pe1 ?_)
   done
 | fail) : p := h
theorem zB (h : p := by
 first
 | (with_reducible assumption)
 | (refine peI (by first | exact E | fail) ?_)
   repeat (first | (with_reducible exact pe0) | refine pe1 ?_)
   done
 | fail) : p := h
theorem zE (h : p := by
 repeat (first | (with_reducible exact Env.nil _) | refine peC (by first | exact zB | exact zA | fail) ?_)
 done) : p := h
theorem zQ (h : p := by first | (with_reducible exact GI) | ((with_reducible apply CJ); omega) | ((with_reducible apply NG); omega) | fail) : p := h
theorem zK (h : p := by
 repeat (first
 | refine And.intro (by first
   | ((with_reducible apply CT); omega)
   | ((with_reducible apply okB); omega)
   | ((with_reducible apply IK); omega)
   | ((with_reducible apply QU); omega)
   | ((with_reducible apply DP); exact zQ)
   | exact True.intro
   | ((with_reducible apply NK); assumption; exact zQ)
   | ((with_reducible apply okAl); exact zA; omega; exact zQ)
   | ((with_reducible apply EP) <;> omega)
   | ((with_reducible apply LS) <;> omega)
   | ((with_reducible apply okDf); omega)
   | ((with_reducible apply okM); omega)
   | ((with_reducible apply okI); omega)
   | fail) ?_
 | exact True.intro)
 done) : p := h
theorem zC (h : p := by first | exact decide_eq_true AA | exact decide_eq_false AA | fail) : p := h
theorem zR (h : p := by first
 | (with_reducible apply rMove); exact rfl
 | (with_reducible apply rAss); exact rfl
 | (with_reducible apply rPick); exact rfl; exact rfl
 | (with_reducible apply rExt); exact rfl; exact rfl
 | (with_reducible apply rNotT); exact rfl
 | (with_reducible apply rNotF); exact rfl
 | (with_reducible apply rLt); exact rfl; exact rfl; exact zC
 | (with_reducible apply rEq); exact rfl; exact rfl; exact zC
 | (with_reducible apply rNe); exact rfl; exact rfl; exact zC
 | (with_reducible apply rLe); exact rfl; exact rfl; exact zC
 | (with_reducible apply rGt); exact rfl; exact rfl; exact zC
 | (with_reducible apply rGe); exact rfl; exact rfl; exact zC
 | (with_reducible apply rInc); exact rfl; exact rfl; omega
 | (with_reducible apply rLenS); exact rfl
 | (with_reducible apply rAddN); exact rfl; exact rfl; omega
 | (with_reducible apply Ym); exact rfl; exact zA; exact rfl
 | (with_reducible apply Yn); exact rfl; exact zA; exact rfl
 | (with_reducible apply Yi); exact rfl; exact zA; exact rfl
 | (with_reducible apply rFI0); exact rfl
 | (with_reducible apply rFI1); exact rfl
 | exact wH rfl
 | fail) : p := h
theorem zS (k : q) (h : Hold q -> p := by
 intro hq
 first
 | (with_reducible refine isWL ?_)
   first
   | refine gV zR rfl rfl ?_
   | refine Xh rfl rfl ?_
   | fail
 | (with_reducible refine isKW ?_)
   first
   | refine kw rfl ?_
   | refine kn rfl ?_
   | fail
 | (with_reducible refine WN ?_)
   (try change Code.wp _ _ _ _ _)
 | (with_reducible refine AN ?_)
 | (with_reducible refine RL ?_)
 | (with_reducible refine Pe ?_)
   first
   | refine AO rfl ?_
   | refine AP rfl ?_
   | fail
 | (with_reducible refine isS ?_)
   first
   | refine gS rfl (fun w hS => zR) rfl rfl rfl rfl ?_
   | refine gS0 rfl rfl rfl (by first | exact E | exact E.2 | exact E.2.2 | exact E.2.2.2 | exact E.2.2.2.2 | exact E.2.2.2.2.2 | exact E.2.2.2.2.2.2 | fail) ?_
   | fail
 | (with_reducible refine isSP ?_)
   first
   | refine kS rfl ?_
   | refine kS0 rfl ?_
   | fail
 | (with_reducible refine SN ?_)
   (try change Code.wp _ _ _ _ _)
 | (with_reducible refine AU ?_)
   (try change Code.wp _ _ _ _ _)
 | (with_reducible refine AT ?_)
 | (with_reducible refine AX ?_)
   (try change Code.wp _ _ _ _ _)
 | (with_reducible refine AW ?_)
   (try refine bR ?_)
 | (fail_if_success (with_reducible change Code.wp _ _ _ _ _))
   change Code.wp _ _ _ _ _
 | fail
 exact hq.out) : p := h ⟨k⟩
theorem zG (k : q) (h : Hold q -> p := by
 intro hq
 repeat (refine zS ?_; (try (refine zS ?_; (try (refine zS ?_; (try refine zS ?_))))); (try simp only [q2,q3]))
 (try simp only [Act.put,q1,q2,q3])
 exact hq.out) : p := h ⟨k⟩
theorem zM (h : p := by first | (with_reducible exact FV) | ((with_reducible apply IsI.now); exact zA) | fail) : p := h
theorem oB {b : Nat} {n : Bool} {s : Value} (E : Env w L) (x : Bx w b T cs) (o : Onl b w w') (y : Bx w' b 62 [.bool n, s]) (k : Ok b L := by exact zK) (h : TU cs := by exact zM) : Env w' (fB b n s :: L) := (E.onl (x.noW h) k o).b y
theorem oX {b T' : Nat} {ds : List Value} (E : Env w L) (x : Bx w b T cs) (o : Onl b w w') (y : Bx w' b T' ds) (k : Ok b L := by exact zK) (h : TU cs := by exact zM) : Env w' (fX b T' ds :: L) := (E.onl (x.noW h) k o).x y
def LP (l : List UInt8) : List Nat := l.map fun b => b.toNat - 48
def JS (l : List UInt8) : Bool := !l.isEmpty && !(l.head? == some 48 && decide (1 < l.length)) && l.all fun b => decide (48 <= b.toNat) && decide (b.toNat <= 57)
theorem jB (h : l.length = 0) : JS l = false := by
 rw [List.eq_nil_of_length_eq_zero h]; rfl
theorem Br (h0 : l[0]? = some b) (hb : b.toNat = 48) (h1 : 1 < l.length) : JS l = false := by
 have : b = 48 := UInt8.toNat_inj.1 (by rw [hb]; rfl)
 subst this
 unfold JS
 rw [List.head?_eq_getElem?, h0]
 simp [h1]
theorem aB (h : l[i]? = some b) (hb : b.toNat < 48 ∨ 57 < b.toNat) : JS l = false := by
 unfold JS
 have : (l.all fun b => decide (48 <= b.toNat) && decide (b.toNat <= 57)) = false := by
  rw [List.all_eq_false]
  refine ⟨b, List.mem_of_getElem? h, ?_⟩
  simp; omega
 rw [this, Bool.and_false]
theorem bS (h0 : 0 < l.length) (h1 : (∀ b, l[0]? = some b -> b.toNat = 48 -> ¬ 1 < l.length)) (h : ∀ i b, i < l.length -> l[i]? = some b -> 48 <= b.toNat /\ b.toNat <= 57) : JS l = true := by
 unfold JS
 have e1 : l.isEmpty = false := by cases l <;> simp at h0 ⊢
 have e2 : (l.head? == some 48 && decide (1 < l.length)) = false := by
  rw [Bool.and_eq_false_iff]
  by_cases e : l.head? = some 48
  . right
    rw [decide_eq_false_iff_not]
    exact h1 48 (by rw [<- List.head?_eq_getElem?]; exact e) rfl
  left; rw [beq_eq_false_iff_ne]; exact e
 have e3 : (l.all fun b => decide (48 <= b.toNat) && decide (b.toNat <= 57)) = true := by
  rw [List.all_eq_true]
  intro b k
  obtain ⟨i, f, rfl⟩ := List.getElem_of_mem k
  have := h i l[i] f (List.getElem?_eq_getElem f)
  simp; omega
 rw [e1, e2, e3]; rfl
theorem OL {l : List UInt8} (h : JS l = true) : ∀ b ∈ l, 48 <= b.toNat /\ b.toNat <= 57 := by
 unfold JS at h
 simp only [Bool.and_eq_true] at h
 intro b e
 have := List.all_eq_true.1 h.2 b e
 simpa using this
theorem aA (h : JS l = true) : 0 < l.length := by
 rcases Nat.eq_zero_or_pos l.length with e | e
 . rw [jB e] at h; cases h
 exact e
theorem Zw (h : JS l = true) : Dg (LP l) := by
 intro d e
 obtain ⟨b, f, rfl⟩ := List.mem_map.1 e
 have := OL h b f
 omega
theorem uF {l : List UInt8} (h : ∀ b ∈ l, 48 <= b.toNat /\ b.toNat <= 57) : XG (LP l) = l := by
 unfold XG LP
 rw [List.map_map]
 conv => rhs; rw [<- List.map_id l]
 apply List.map_congr_left
 intro b e
 have := h b e
 simp only [Function.comp, id]
 rw [show 48 + (b.toNat - 48) = b.toNat by omega]
 simp
theorem Vk {l : List Nat} (h : Dg l) : LP (XG l) = l := by
 unfold XG LP
 rw [List.map_map]
 conv => rhs; rw [<- List.map_id l]
 apply List.map_congr_left
 intro d e
 have := h d e
 simp only [Function.comp, id, UInt8.toNat_ofNat']
 omega
theorem Zx (h : JS l = true) : Cn (LP l) := by
 have k := aA h
 refine ⟨fun e => ?_, fun e => ?_⟩
 . have := congrArg List.length e
   simp [LP] at this
   subst this; simp at k
 unfold JS at h
 simp only [Bool.and_eq_true, Bool.not_eq_true', Bool.and_eq_false_iff] at h
 have o := h.1.2
 have q := List.all_eq_true.1 h.2
 cases l with
 | nil => simp at k
 | cons b l =>
   have p := q b AH
   simp only [Bool.and_eq_true, decide_eq_true_eq] at p
   simp only [LP, List.map_cons, List.head?_cons, Option.some.injEq] at e
   have f : b = 48 := UInt8.toNat_inj.1 (by show b.toNat = 48; omega)
   subst f
   simp at o
   simp [LP, o]
theorem uC (h : JS l = true) : LP l = VO (DI (LP l)) := Cr _ _ rfl (Zw h) (Zx h)
theorem Cv (n : Nat) : JS (XG (VO n)) = true := by
 have p := PL n
 have k := Zy n
 refine bS ?_ ?_ ?_
 . simp [XG, List.length_pos_iff.2 k.1]
 . intro b f t
   cases h : VO n with
   | nil => exact absurd h k.1
   | cons d l =>
     rw [h] at f p k
     simp only [XG, List.map_cons, List.getElem?_cons_zero, Option.some.injEq] at f
     have q := (Dg_cons.1 p).1
     have e := congrArg UInt8.toNat f
     rw [UInt8.toNat_ofNat'] at e
     have o : d = 0 := by omega
     have := k.2 (by simp [o])
     simp [XG] at this ⊢
     omega
 intro i b v f
 have u := List.mem_of_getElem? f
 obtain ⟨d, h, rfl⟩ := List.mem_map.1 u
 have := p d h
 rw [UInt8.toNat_ofNat']
 omega
def DW (l : List UInt8) : Option Int :=
 if l.head? = some 45 then (if JS l.tail = true /\ l.tail ≠ [48] then some (-(DI (LP l.tail) : Int)) else none)
 else if JS l = true then some (DI (LP l) : Int) else none
theorem Hj (h : JS l = true) (h0 : l ≠ [48]) : 0 < DI (LP l) := by
 rcases Nat.eq_zero_or_pos (DI (LP l)) with e | e
 . exfalso
   have k := uC h
   rw [e, PK 0 AA] at k
   have f := uF (OL h)
   rw [k] at f
   exact h0 f.symm
 exact e
theorem MJ {z : Int} (h : DW l = some z) : txt z = l := by
 unfold DW at h
 by_cases f : l.head? = some 45
 . rw [if_pos f] at h
   by_cases e : JS l.tail = true /\ l.tail ≠ [48]
   . rw [if_pos e] at h
     simp only [Option.some.injEq] at h
     have o := Hj e.1 e.2
     have k : z < 0 := by omega
     unfold txt
     rw [if_pos k, show z.natAbs = DI (LP l.tail) by omega, <- uC e.1, uF (OL e.1)]
     cases l with
     | nil => simp at f
     | cons b l => simp at f ⊢; exact f.symm
   rw [if_neg e] at h; cases h
 rw [if_neg f] at h
 by_cases e : JS l = true
 . rw [if_pos e] at h
   simp only [Option.some.injEq] at h
   unfold txt
   rw [if_neg AA, show z.natAbs = DI (LP l) by omega, <- uC e, uF (OL e)]; rfl
 rw [if_neg e] at h; cases h
theorem VD (z : Int) : DW (txt z) = some z := by
 have q := fO (PL z.natAbs)
 have p := Cv z.natAbs
 have h := Vk (PL z.natAbs)
 unfold DW txt
 by_cases o : z < 0
 . rw [if_pos o]
   have k : XG (VO z.natAbs) ≠ [48] := by
    intro e
    have e2 := congrArg LP e
    rw [h] at e2
    have e3 := congrArg DI e2
    rw [RX] at e3
    have : DI (LP [48]) = 0 := rfl
    omega
   have l : ([(45 : UInt8)] ++ XG (VO z.natAbs)).head? = some 45 := rfl
   have f : ([(45 : UInt8)] ++ XG (VO z.natAbs)).tail = XG (VO z.natAbs) := rfl
   rw [if_pos l, f, if_pos ⟨p, k⟩, h, RX]
   congr 1; omega
 rw [if_neg o, List.nil_append, if_neg q, if_pos p, h, RX]
 congr 1; omega
theorem bQ (h : DW l = none) (z : Int) : txt z ≠ l := by
 rintro rfl; rw [VD] at h; cases h
theorem TX (h : i < s.size) : ∃ b, s[i]? = some b /\ s.data.toList[i]? = some b := by
 refine ⟨s[i], by simp [h], ?_⟩
 have e : i < s.data.size := h
 rw [Array.getElem?_toList, Array.getElem?_eq_getElem e]; rfl
theorem IB (s : ByteArray) : s.data.toList.length = s.size := by rw [Array.length_toList]; rfl
theorem XY (s : ByteArray) (j : Nat) (_h : j <= s.size) : (s.extract j s.size).data.toList = s.data.toList.drop j := by
 have e : s.data.toList.length = s.size := IB s
 rw [ByteArray.data_extract, Array.toList_extract, List.extract_eq_take_drop]
 rw [List.take_of_length_le]
 rw [List.length_drop, e]
 exact Nat.le_refl _
theorem VZ {ρ : Operand -> Value} {o : Oper} {t t' : TypeId} {y : Operand} {a b : ByteArray} (ho : o.op = .binOp .eql t x y t') (hx : ρ x = .string a) (hy : ρ y = .string b) (hc : (a.data.toList == b.data.toList) = c) : (execOp ρ o).run P w = .ok (.value (.bool c)) w := by
 unfold execOp; rw [ho]
 simp only [hx, hy, eqGuard_at_string, binOp, Op.stringOp, Sem.run_bind, Sem.run_pure, Result.andThen_ok, ByteArray.toList_eq, hc]
theorem Hx (h : s.size = 0) : s = ⟨#[]⟩ := by
 apply ByteArray.ext
 exact Array.eq_empty_of_size_eq_zero h
theorem vP (h : s.size = 0) : (s.data.toList == (⟨#[]⟩ : ByteArray).data.toList) = true := by
 rw [beq_iff_eq, Hx h]
theorem VT (h : ¬ s.size = 0) : (s.data.toList == (⟨#[]⟩ : ByteArray).data.toList) = false := by
 rw [beq_eq_false_iff_ne]; intro e; apply h; rw [<- IB, e]; rfl
theorem yB {b : UInt8} (h : ∀ j b, j < i -> l[j]? = some b -> 48 <= b.toNat /\ b.toNat <= 57) (hb : l[i]? = some b) (h1 : 48 <= b.toNat) (h2 : b.toNat <= 57) :
 ∀ j b, j < i + 1 -> l[j]? = some b -> 48 <= b.toNat /\ b.toNat <= 57 := by
 intro j c k f
 by_cases e : j = i
 . subst e; rw [hb] at f; cases f; exact ⟨h1, h2⟩
 exact h j c AA f
set_option maxRecDepth 100000 in
set_option maxHeartbeats 4000000 in
theorem Js (s : ByteArray) (w : World) (hs9 : s.size <= 1000000) :
 Calls prog 173 #[.string s] w (LI w (JS s.data.toList)) := by
 have E := Env.start w
 go_enter func173, ntmps173
 by_cases L : s.size = 0
 . refine zG ?_
   refine V (v := .bool true) O O (VZ O O O (vP L)) ?_
   refine zG ?_
   exact ⟨by rw [jB (by rw [IB]; exact L)], E.1⟩
 obtain ⟨c, X, N⟩ := TX (i := 0) (s := s) AA
 by_cases Q : c.toNat = 48
 case neg =>
  refine zG ?_
  refine V (v := .bool false) O O (VZ O O O (VT L)) ?_
  refine zG ?_
  refine V (v := .int .u8 ↑c.toNat) O O (IC (j := 0) O underlying9 O O O X) ?_
  refine zG ?_
  refine wp_loop_ghost (fun U a T => ∃ (i : Nat) (S R F D C B z y u t q p o l k : Value), a = ⟨#[.string s, undef, S, R, .string s, .bool false, .bool false, .string s, .int .u8 ↑c.toNat, .bool false, .bool false, undef, undef, undef, .bool false, .bool false, .string s, .int .i64 ↑s.size, .int .i64 ↑i, F, D, C, B, z, y, u, t, q, p, o, l, k], []⟩ /\ Env T [fW w] /\ U = s.size - i /\ i <= s.size /\ ∀ j b, j < i -> s.data.toList[j]? = some b -> 48 <= b.toNat /\ b.toNat <= 57) (s.size) ⟨0, _, _, _, _, _, _, _, _, _, _, _, _, _, _, _, O, zE, O, ⟨Nat.zero_le _, fun j b G => absurd G (Nat.not_lt_zero _)⟩⟩ ?_
  rintro m2 _ w2 ⟨i, S, R, F, D, C, B, z, y, u, t, q, p, o, l, k, rfl, E, a0, I⟩
  by_cases hi : i = s.size
  . refine zG ?_
    exact ⟨by rw [bS (by rw [IB]; omega) (fun b e h => absurd (by rw [N] at e; cases e; exact h) Q) (fun j b G e => I.2 j b (by rw [IB] at G; omega) e)], E.1⟩
  have H : i < s.size := by have := I.1; omega
  obtain ⟨b, e, f⟩ := TX H
  by_cases P : b.toNat < 48
  . exact ZuB
  by_cases Y : 57 < b.toNat
  . exact ZUa
  refine zG ?_
  refine V (v := .int .u8 ↑b.toNat) O O (IC (j := i) O underlying9 O O O e) ?_
  refine zG ?_
  refine V (v := .int .u8 ↑b.toNat) O O (IC (j := i) O underlying9 O O O e) ?_
  refine zG ?_
  exact ⟨_, AA, i + 1, _, _, _, _, _, _, _, _, _, _, _, _, _, _, _, rfl, zE, rfl, ⟨by omega, yB I.2 f AA AA⟩⟩
 by_cases h1 : 1 < s.size
 . refine zG ?_
   refine V (v := .bool false) O O (VZ O O O (VT L)) ?_
   refine zG ?_
   refine V (v := .int .u8 ↑c.toNat) O O (IC (j := 0) O underlying9 O O O X) ?_
   refine zG ?_
   exact ⟨by rw [Br N Q (by rw [IB]; exact h1)], E.1⟩
 refine zG ?_
 refine V (v := .bool false) O O (VZ O O O (VT L)) ?_
 refine zG ?_
 refine V (v := .int .u8 ↑c.toNat) O O (IC (j := 0) O underlying9 O O O X) ?_
 refine zG ?_
 refine wp_loop_ghost (fun U a T => ∃ (i : Nat) (S R F D C B z y u t q p o l k : Value), a = ⟨#[.string s, undef, S, R, .string s, .bool false, .bool false, .string s, .int .u8 ↑c.toNat, .bool true, .bool true, .string s, .int .i64 ↑s.size, .bool false, .bool false, .bool false, .string s, .int .i64 ↑s.size, .int .i64 ↑i, F, D, C, B, z, y, u, t, q, p, o, l, k], []⟩ /\ Env T [fW w] /\ U = s.size - i /\ i <= s.size /\ ∀ j b, j < i -> s.data.toList[j]? = some b -> 48 <= b.toNat /\ b.toNat <= 57) (s.size) ⟨0, _, _, _, _, _, _, _, _, _, _, _, _, _, _, _, O, zE, O, ⟨Nat.zero_le _, fun j b G => absurd G (Nat.not_lt_zero _)⟩⟩ ?_
 rintro m1 _ w1 ⟨i, S, R, F, D, C, B, z, y, u, t, q, p, o, l, k, rfl, E, a1, J⟩
 by_cases hi : i = s.size
 . refine zG ?_
   exact ⟨by rw [bS (by rw [IB]; omega) (fun b e h => by rw [IB]; exact h1) (fun j b G e => J.2 j b (by rw [IB] at G; omega) e)], E.1⟩
 have H : i < s.size := by have := J.1; omega
 obtain ⟨b, e, f⟩ := TX H
 by_cases P : b.toNat < 48
 . exact ZuB
 by_cases Y : 57 < b.toNat
 . exact ZUa
 refine zG ?_
 refine V (v := .int .u8 ↑b.toNat) O O (IC (j := i) O underlying9 O O O e) ?_
 refine zG ?_
 refine V (v := .int .u8 ↑b.toNat) O O (IC (j := i) O underlying9 O O O e) ?_
 refine zG ?_
 exact ⟨_, AA, i + 1, _, _, _, _, _, _, _, _, _, _, _, _, _, _, _, rfl, zE, rfl, ⟨by omega, yB J.2 f AA AA⟩⟩
end Go.Proofs.YtmppigbbkjepiaaGreatDoor
