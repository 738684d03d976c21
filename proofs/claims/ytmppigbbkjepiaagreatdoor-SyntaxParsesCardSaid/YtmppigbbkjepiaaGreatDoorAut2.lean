/- Helping facts of Aut2; no other conditions. -/
import Derived.Test.YtmppigbbkjepiaaGreatDoorKitR
namespace Go.Proofs.YtmppigbbkjepiaaGreatDoor
open Go.Proofs.Tryz
open Go.RowKit W
variable {L : List SF} {S : Nat -> Prop} {T a b base c j t : Nat} {cs : List Value} {p q : Prop} {v : Value} {w w' : World} {α : Type}
section
variable {P : Program} {w : World} {l : List Value} {v : Value} {x y c t : Operand} {k : IntKind} {m n : Int} {b : Bool} {tt tt' ty T : TypeId} {d : Option Nat} {ps : String} {af : Array Edge} {g : Option (Nat × Bool)}
theorem rLenB {a : Bs} (hx : KA l x = some (.string (bs a))) : (execOp (MN l) ⟨d, .call { callee := .builtin .len, args := #[x], argTypes := #[9] }, ty, ps, af, g⟩).run prog w = .ok (.value (.int .i64 ↑a.length)) w := Nv rfl (CQ hx)
theorem rLenR {T t : TypeId} {ao : Option Addr} {n c : Nat} (hT : P.underlying T = some (.slice t)) (hx : KA l x = some (.slice ao n c)) : (execOp (MN l) ⟨d, .call { callee := .builtin .len, args := #[x], argTypes := #[T] }, ty, ps, af, g⟩).run P w = .ok (.value (.int .i64 ↑n)) w := Nt rfl hT (CQ hx)
theorem rNil {a : Addr} (hx : KA l x = some (.pointer (some a))) : (execOp (MN l) ⟨d, .nilCheck x, ty, ps, af, g⟩).run P w = .ok (.value (.pointer (some a))) w := tN rfl (CQ hx)
theorem rCat {a b : Bs} (hx : KA l x = some (.string (bs a))) (hy : KA l y = some (.string (bs b))) (hs : a.length + b.length <= 9223372036854775807) : (execOp (MN l) ⟨d, .binOp .add tt x y tt', ty, ps, af, g⟩).run P w = .ok (.value (.string (bs (a ++ b)))) w := Nw rfl (CQ hx) (CQ hy) hs
theorem rIxB {a : Bs} {b : UInt8} (hx : KA l x = some (.string (bs a))) (hy : KA l y = some (.int k ((j : Nat) : Int))) (hb : a[j]? = some b) : (execOp (MN l) ⟨d, .index 9 x y, ty, ps, af, g⟩).run prog w = .ok (.value (.int .u8 ↑b.toNat)) w := Ts rfl underlying9 (CQ hx) (CQ hy) rfl hb
theorem rIdxM {h o : Nat} (hx : KA l x = some (.pointer (some ⟨h, o, none⟩))) (hy : KA l y = some (.int .i64 ↑j)) (hj : j < 8) : (execOp (MN l) ⟨d, .indexAddr 67 x y, ty, ps, af, g⟩).run prog w = .ok (.value (.pointer (some ⟨h, o + j * 1, none⟩))) w := EV (j := j) rfl underlying67 Z (CQ hx) (CQ hy) rfl hj
section
variable {h j o TB : Nat} {cs : List Value}
theorem Ua (hx : KA l x = some (.pointer (some ⟨h, j, none⟩))) (hb : Bx w h TB cs) (hi : cs[j]? = some v) : (execOp (MN l) ⟨d, .load 28 x, ty, ps, af, g⟩).run prog w = .ok (.value v) w := CR rfl NN (CQ hx) hb hi
theorem Tx (hx : KA l x = some (.pointer (some ⟨h, a, none⟩))) (hb : (fC h o cs).p w) (ha : a = o + j) (hi : cs[j]? = some v) : (execOp (MN l) ⟨d, .load 28 x, ty, ps, af, g⟩).run prog w = .ok (.value v) w := by subst ha; exact GH rfl NN (CQ hx) (hb.1 j _ hi)
theorem Tz (hx : KA l x = some (.pointer (some ⟨h, j, none⟩))) (hb : Bx w h TB cs) (hi : cs[j]? = some v) : (execOp (MN l) ⟨d, .load 30 x, ty, ps, af, g⟩).run prog w = .ok (.value v) w := CR rfl dQ (CQ hx) hb hi
theorem Tw (hx : KA l x = some (.pointer (some ⟨h, a, none⟩))) (hb : (fC h o cs).p w) (ha : a = o + j) (hi : cs[j]? = some v) : (execOp (MN l) ⟨d, .load 30 x, ty, ps, af, g⟩).run prog w = .ok (.value v) w := by subst ha; exact GH rfl dQ (CQ hx) (hb.1 j _ hi)
theorem Zb (hx : KA l x = some (.pointer (some ⟨h, j, none⟩))) (hb : Bx w h TB cs) (hi : cs[j]? = some v) : (execOp (MN l) ⟨d, .load 9 x, ty, ps, af, g⟩).run prog w = .ok (.value v) w := CR rfl iZ (CQ hx) hb hi
theorem Yw (hx : KA l x = some (.pointer (some ⟨h, a, none⟩))) (hb : (fC h o cs).p w) (ha : a = o + j) (hi : cs[j]? = some v) : (execOp (MN l) ⟨d, .load 9 x, ty, ps, af, g⟩).run prog w = .ok (.value v) w := by subst ha; exact GH rfl iZ (CQ hx) (hb.1 j _ hi)
theorem Zd (hx : KA l x = some (.pointer (some ⟨h, j, none⟩))) (hb : Bx w h TB cs) (hi : cs[j]? = some v) : (execOp (MN l) ⟨d, .load 46 x, ty, ps, af, g⟩).run prog w = .ok (.value v) w := CR rfl jA (CQ hx) hb hi
theorem Yy (hx : KA l x = some (.pointer (some ⟨h, a, none⟩))) (hb : (fC h o cs).p w) (ha : a = o + j) (hi : cs[j]? = some v) : (execOp (MN l) ⟨d, .load 46 x, ty, ps, af, g⟩).run prog w = .ok (.value v) w := by subst ha; exact GH rfl jA (CQ hx) (hb.1 j _ hi)
theorem Ou (hx : KA l x = some (.pointer (some ⟨h, j, none⟩))) (hb : Bx w h TB cs) (hi : cs[j]? = some v) : (execOp (MN l) ⟨d, .load 32 x, ty, ps, af, g⟩).run prog w = .ok (.value v) w := CR rfl LQ (CQ hx) hb hi
theorem Om (hx : KA l x = some (.pointer (some ⟨h, a, none⟩))) (hb : (fC h o cs).p w) (ha : a = o + j) (hi : cs[j]? = some v) : (execOp (MN l) ⟨d, .load 32 x, ty, ps, af, g⟩).run prog w = .ok (.value v) w := by subst ha; exact GH rfl LQ (CQ hx) (hb.1 j _ hi)
theorem Zc (hx : KA l x = some (.pointer (some ⟨h, j, none⟩))) (hb : Bx w h TB cs) (hi : cs[j]? = some v) : (execOp (MN l) ⟨d, .load 3 x, ty, ps, af, g⟩).run prog w = .ok (.value v) w := CR rfl CW (CQ hx) hb hi
theorem Yx (hx : KA l x = some (.pointer (some ⟨h, a, none⟩))) (hb : (fC h o cs).p w) (ha : a = o + j) (hi : cs[j]? = some v) : (execOp (MN l) ⟨d, .load 3 x, ty, ps, af, g⟩).run prog w = .ok (.value v) w := by subst ha; exact GH rfl CW (CQ hx) (hb.1 j _ hi)
theorem Ub (hx : KA l x = some (.pointer (some ⟨h, j, none⟩))) (hb : Bx w h TB cs) (hi : cs[j]? = some v) : (execOp (MN l) ⟨d, .load 4 x, ty, ps, af, g⟩).run prog w = .ok (.value v) w := CR rfl dR (CQ hx) hb hi
theorem Ty (hx : KA l x = some (.pointer (some ⟨h, a, none⟩))) (hb : (fC h o cs).p w) (ha : a = o + j) (hi : cs[j]? = some v) : (execOp (MN l) ⟨d, .load 4 x, ty, ps, af, g⟩).run prog w = .ok (.value v) w := by subst ha; exact GH rfl dR (CQ hx) (hb.1 j _ hi)
theorem Ov (hx : KA l x = some (.pointer (some ⟨h, j, none⟩))) (hb : Bx w h TB cs) (hi : cs[j]? = some v) : (execOp (MN l) ⟨d, .load 42 x, ty, ps, af, g⟩).run prog w = .ok (.value v) w := CR rfl kD (CQ hx) hb hi
theorem Oo (hx : KA l x = some (.pointer (some ⟨h, a, none⟩))) (hb : (fC h o cs).p w) (ha : a = o + j) (hi : cs[j]? = some v) : (execOp (MN l) ⟨d, .load 42 x, ty, ps, af, g⟩).run prog w = .ok (.value v) w := by subst ha; exact GH rfl kD (CQ hx) (hb.1 j _ hi)
theorem Ot (hx : KA l x = some (.pointer (some ⟨h, j, none⟩))) (hb : Bx w h TB cs) (hi : cs[j]? = some v) : (execOp (MN l) ⟨d, .load 22 x, ty, ps, af, g⟩).run prog w = .ok (.value v) w := CR rfl kC (CQ hx) hb hi
theorem Ol (hx : KA l x = some (.pointer (some ⟨h, a, none⟩))) (hb : (fC h o cs).p w) (ha : a = o + j) (hi : cs[j]? = some v) : (execOp (MN l) ⟨d, .load 22 x, ty, ps, af, g⟩).run prog w = .ok (.value v) w := by subst ha; exact GH rfl kC (CQ hx) (hb.1 j _ hi)
theorem Oq (hx : KA l x = some (.pointer (some ⟨h, j, none⟩))) (hb : Bx w h TB cs) (hi : cs[j]? = some v) : (execOp (MN l) ⟨d, .load 41 x, ty, ps, af, g⟩).run prog w = .ok (.value v) w := CR rfl kB (CQ hx) hb hi
theorem Oj (hx : KA l x = some (.pointer (some ⟨h, a, none⟩))) (hb : (fC h o cs).p w) (ha : a = o + j) (hi : cs[j]? = some v) : (execOp (MN l) ⟨d, .load 41 x, ty, ps, af, g⟩).run prog w = .ok (.value v) w := by subst ha; exact GH rfl kB (CQ hx) (hb.1 j _ hi)
theorem rL_R (hx : KA l x = some (.pointer (some ⟨h, 0, none⟩))) (hb : Bx w h 64 cs) (hn : cs.length = 4) : (execOp (MN l) ⟨d, .load 64 x, ty, ps, af, g⟩).run prog w = .ok (.value (.agg cs.toArray)) w := CU EY rfl (CQ hx) hb hn
theorem rL_E (hx : KA l x = some (.pointer (some ⟨h, 0, none⟩))) (hb : Bx w h 83 cs) (hn : cs.length = 2) : (execOp (MN l) ⟨d, .load 83 x, ty, ps, af, g⟩).run prog w = .ok (.value (.agg cs.toArray)) w := CU LS rfl (CQ hx) hb hn
theorem rL_Sy (hx : KA l x = some (.pointer (some ⟨h, 0, none⟩))) (hb : Bx w h 48 cs) (hn : cs.length = 4) : (execOp (MN l) ⟨d, .load 48 x, ty, ps, af, g⟩).run prog w = .ok (.value (.agg cs.toArray)) w := CU JK rfl (CQ hx) hb hn
theorem rL_T (hx : KA l x = some (.pointer (some ⟨h, 0, none⟩))) (hb : Bx w h 88 cs) (hn : cs.length = 12) : (execOp (MN l) ⟨d, .load 88 x, ty, ps, af, g⟩).run prog w = .ok (.value (.agg cs.toArray)) w := CU FQ rfl (CQ hx) hb hn
theorem rL_M (hx : KA l x = some (.pointer (some ⟨h, 0, none⟩))) (hb : Bx w h 67 cs) (hn : cs.length = 8) : (execOp (MN l) ⟨d, .load 67 x, ty, ps, af, g⟩).run prog w = .ok (.value (.agg cs.toArray)) w := CU ST rfl (CQ hx) hb hn
theorem qH (hx : KA l x = some (.pointer (some ⟨h, j, none⟩))) (hj : j + 0 = o) : (execOp (MN l) ⟨d, .fieldAddr 88 x 0, ty, ps, af, g⟩).run prog w = .ok (.value (.pointer (some ⟨h, o, none⟩))) w := JH rfl (CQ hx) hj
theorem qG (hx : KA l x = some (.pointer (some ⟨h, j, none⟩))) (hj : j + 4 = o) : (execOp (MN l) ⟨d, .fieldAddr 88 x 1, ty, ps, af, g⟩).run prog w = .ok (.value (.pointer (some ⟨h, o, none⟩))) w := QV rfl (CQ hx) hj
theorem tW (hx : KA l x = some (.pointer (some ⟨h, j, none⟩))) (hj : j + 0 = o) : (execOp (MN l) ⟨d, .fieldAddr 64 x 0, ty, ps, af, g⟩).run prog w = .ok (.value (.pointer (some ⟨h, o, none⟩))) w := kM rfl (CQ hx) hj
theorem tV (hx : KA l x = some (.pointer (some ⟨h, j, none⟩))) (hj : j + 2 = o) : (execOp (MN l) ⟨d, .fieldAddr 64 x 1, ty, ps, af, g⟩).run prog w = .ok (.value (.pointer (some ⟨h, o, none⟩))) w := kL rfl (CQ hx) hj
theorem fU (hx : KA l x = some (.pointer (some ⟨h, j, none⟩))) (hj : j + 0 = o) : (execOp (MN l) ⟨d, .fieldAddr 83 x 0, ty, ps, af, g⟩).run prog w = .ok (.value (.pointer (some ⟨h, o, none⟩))) w := aA rfl (CQ hx) hj
theorem fT (hx : KA l x = some (.pointer (some ⟨h, j, none⟩))) (hj : j + 1 = o) : (execOp (MN l) ⟨d, .fieldAddr 83 x 1, ty, ps, af, g⟩).run prog w = .ok (.value (.pointer (some ⟨h, o, none⟩))) w := ZZ rfl (CQ hx) hj
theorem kR (hx : KA l x = some (.pointer (some ⟨h, j, none⟩))) (hj : j + 0 = o) : (execOp (MN l) ⟨d, .fieldAddr 48 x 0, ty, ps, af, g⟩).run prog w = .ok (.value (.pointer (some ⟨h, o, none⟩))) w := UJ rfl (CQ hx) hj
theorem kQ (hx : KA l x = some (.pointer (some ⟨h, j, none⟩))) (hj : j + 1 = o) : (execOp (MN l) ⟨d, .fieldAddr 48 x 1, ty, ps, af, g⟩).run prog w = .ok (.value (.pointer (some ⟨h, o, none⟩))) w := dF rfl (CQ hx) hj
theorem kP (hx : KA l x = some (.pointer (some ⟨h, j, none⟩))) (hj : j + 2 = o) : (execOp (MN l) ⟨d, .fieldAddr 48 x 2, ty, ps, af, g⟩).run prog w = .ok (.value (.pointer (some ⟨h, o, none⟩))) w := dE rfl (CQ hx) hj
theorem kO (hx : KA l x = some (.pointer (some ⟨h, j, none⟩))) (hj : j + 3 = o) : (execOp (MN l) ⟨d, .fieldAddr 48 x 3, ty, ps, af, g⟩).run prog w = .ok (.value (.pointer (some ⟨h, o, none⟩))) w := dD rfl (CQ hx) hj
theorem dI (hx : KA l x = some (.pointer (some ⟨h, j, none⟩))) (hj : j + 0 = o) : (execOp (MN l) ⟨d, .fieldAddr 115 x 0, ty, ps, af, g⟩).run prog w = .ok (.value (.pointer (some ⟨h, o, none⟩))) w := ZO rfl (CQ hx) hj
theorem dH (hx : KA l x = some (.pointer (some ⟨h, j, none⟩))) (hj : j + 4 = o) : (execOp (MN l) ⟨d, .fieldAddr 115 x 1, ty, ps, af, g⟩).run prog w = .ok (.value (.pointer (some ⟨h, o, none⟩))) w := ZN rfl (CQ hx) hj
theorem aG (hx : KA l x = some (.pointer (some ⟨h, j, none⟩))) (hj : j + 0 = o) : (execOp (MN l) ⟨d, .fieldAddr 105 x 0, ty, ps, af, g⟩).run prog w = .ok (.value (.pointer (some ⟨h, o, none⟩))) w := XL rfl (CQ hx) hj
theorem aF (hx : KA l x = some (.pointer (some ⟨h, j, none⟩))) (hj : j + 1 = o) : (execOp (MN l) ⟨d, .fieldAddr 105 x 1, ty, ps, af, g⟩).run prog w = .ok (.value (.pointer (some ⟨h, o, none⟩))) w := XK rfl (CQ hx) hj
end
end
theorem okAl {e : El α} {L : List α} (h : (fA e t base S v L).p w) (hc : c < base) (hs : ¬ S c) : (fA e t base S v L).ok c := Jv (fun g => by have := (Acc.lt h.1 g).1; omega) hs
theorem zU (h : p := by first | exact underlying28 | exact underlying30 | exact underlying46 | exact underlying42 | exact underlying60 | exact underlying152 | exact underlying22 | exact underlying41 | fail) : p := h
theorem zO (h : a = b + c := by first | exact (Nat.add_zero _).symm | exact rfl | fail) : a = b + c := h
theorem yR (h : p := by first
 | (with_reducible apply rLenB); exact rfl
 | exact zR
 | (with_reducible apply rLenR); exact zU; exact rfl
 | (with_reducible apply rNil); exact rfl
 | (with_reducible apply rCat); exact rfl; exact rfl; (try simp only [List.length_append, List.length_cons, List.length_nil]); omega
 | (with_reducible apply rIxB); exact rfl; exact rfl; assumption
 | (with_reducible apply rIdxM); exact rfl; exact rfl; omega
 | (with_reducible apply Ua); exact rfl; exact zA; exact rfl
 | (with_reducible apply Tx); exact rfl; exact zA; exact zO; exact rfl
 | (with_reducible apply Tz); exact rfl; exact zA; exact rfl
 | (with_reducible apply Tw); exact rfl; exact zA; exact zO; exact rfl
 | (with_reducible apply Zb); exact rfl; exact zA; exact rfl
 | (with_reducible apply Yw); exact rfl; exact zA; exact zO; exact rfl
 | (with_reducible apply Zd); exact rfl; exact zA; exact rfl
 | (with_reducible apply Yy); exact rfl; exact zA; exact zO; exact rfl
 | (with_reducible apply Ou); exact rfl; exact zA; exact rfl
 | (with_reducible apply Om); exact rfl; exact zA; exact zO; exact rfl
 | (with_reducible apply Zc); exact rfl; exact zA; exact rfl
 | (with_reducible apply Yx); exact rfl; exact zA; exact zO; exact rfl
 | (with_reducible apply Ub); exact rfl; exact zA; exact rfl
 | (with_reducible apply Ty); exact rfl; exact zA; exact zO; exact rfl
 | (with_reducible apply Ov); exact rfl; exact zA; exact rfl
 | (with_reducible apply Oo); exact rfl; exact zA; exact zO; exact rfl
 | (with_reducible apply Ot); exact rfl; exact zA; exact rfl
 | (with_reducible apply Ol); exact rfl; exact zA; exact zO; exact rfl
 | (with_reducible apply Oq); exact rfl; exact zA; exact rfl
 | (with_reducible apply Oj); exact rfl; exact zA; exact zO; exact rfl
 | (with_reducible apply rL_R); exact rfl; exact zA; exact rfl
 | (with_reducible apply rL_E); exact rfl; exact zA; exact rfl
 | (with_reducible apply rL_Sy); exact rfl; exact zA; exact rfl
 | (with_reducible apply rL_T); exact rfl; exact zA; first | exact rfl | exact CF (by assumption) | exact DG (by assumption) | fail
 | (with_reducible apply rL_M); exact rfl; exact zA; first | exact rfl | exact CF (by assumption) | exact DG (by assumption) | fail
 | (with_reducible apply qH); exact rfl; exact rfl
 | (with_reducible apply qG); exact rfl; exact rfl
 | (with_reducible apply tW); exact rfl; exact rfl
 | (with_reducible apply tV); exact rfl; exact rfl
 | (with_reducible apply fU); exact rfl; exact rfl
 | (with_reducible apply fT); exact rfl; exact rfl
 | (with_reducible apply kR); exact rfl; exact rfl
 | (with_reducible apply kQ); exact rfl; exact rfl
 | (with_reducible apply kP); exact rfl; exact rfl
 | (with_reducible apply kO); exact rfl; exact rfl
 | (with_reducible apply dI); exact rfl; exact rfl
 | (with_reducible apply dH); exact rfl; exact rfl
 | (with_reducible apply aG); exact rfl; exact rfl
 | (with_reducible apply aF); exact rfl; exact rfl
 | exact xD rfl
 | exact xI rfl
 | exact xK rfl
 | exact xF rfl
 | exact tP rfl
 | fail) : p := h
section
variable {Q : Exit -> Act -> World -> Prop} {ops : Array Oper} {rest : List Oper} {md : Region.Mode} {S1 S2 : World -> Prop} {sch : List Nat} {r : List Oper} {o : Oper} {w : World} {l : List Value} {i q : Nat} {ao : Option Addr} {b off len cap j : Nat} {x y : Operand}
theorem Lv (ho : o.op = .indexAddr 28 x y) (hx : KA l x = some (.slice ao len cap)) (hao : ao = some ⟨b, off, none⟩) (hy : KA l y = some (.int .i64 ↑j)) (hj : j < len) (h : WL prog ops Q rest (l.set i (.pointer (some ⟨b, off + j * 12, none⟩))) w) (hd : o.dst = some i := by first | exact rfl | fail) (hg : Lq ops l o = some true := by first | exact rfl | fail) : WL prog ops Q (o :: rest) l w := gV (SY ho underlying28 Z (CQ hx) hao (CQ hy) rfl hj) hd hg h
theorem lD (hq : ops.toList.drop q = o :: r) (ho : o.op = .indexAddr 28 x y) (hx : KA l x = some (.slice ao len cap)) (hao : ao = some ⟨b, off, none⟩) (hy : KA l y = some (.int .i64 ↑j)) (hj : j < len) (h : DT prog md ops Q [] S1 S2 sch false ⟨(l.set i (.pointer (some ⟨b, off + j * 12, none⟩))).toArray, []⟩ w) (hd : o.dst = some i := by first | exact rfl | fail) (hg : Lq ops l o = some true := by first | exact rfl | fail) (hp : LH o = true := by first | exact rfl | fail) (ht : ZE md ops [] q = true := by first | exact rfl | fail) : DT prog md ops Q [] S1 S2 (q :: sch) false ⟨l.toArray, []⟩ w := gS hq (fun _ _ => SY ho underlying28 Z (CQ hx) hao (CQ hy) rfl hj) hd hg hp ht h
theorem OL (ho : o.op = .indexAddr 30 x y) (hx : KA l x = some (.slice ao len cap)) (hao : ao = some ⟨b, off, none⟩) (hy : KA l y = some (.int .i64 ↑j)) (hj : j < len) (h : WL prog ops Q rest (l.set i (.pointer (some ⟨b, off + j * 1, none⟩))) w) (hd : o.dst = some i := by first | exact rfl | fail) (hg : Lq ops l o = some true := by first | exact rfl | fail) : WL prog ops Q (o :: rest) l w := gV (SY ho underlying30 Z (CQ hx) hao (CQ hy) rfl hj) hd hg h
theorem Af (hq : ops.toList.drop q = o :: r) (ho : o.op = .indexAddr 30 x y) (hx : KA l x = some (.slice ao len cap)) (hao : ao = some ⟨b, off, none⟩) (hy : KA l y = some (.int .i64 ↑j)) (hj : j < len) (h : DT prog md ops Q [] S1 S2 sch false ⟨(l.set i (.pointer (some ⟨b, off + j * 1, none⟩))).toArray, []⟩ w) (hd : o.dst = some i := by first | exact rfl | fail) (hg : Lq ops l o = some true := by first | exact rfl | fail) (hp : LH o = true := by first | exact rfl | fail) (ht : ZE md ops [] q = true := by first | exact rfl | fail) : DT prog md ops Q [] S1 S2 (q :: sch) false ⟨l.toArray, []⟩ w := gS hq (fun _ _ => SY ho underlying30 Z (CQ hx) hao (CQ hy) rfl hj) hd hg hp ht h
theorem Yb (ho : o.op = .indexAddr 46 x y) (hx : KA l x = some (.slice ao len cap)) (hao : ao = some ⟨b, off, none⟩) (hy : KA l y = some (.int .i64 ↑j)) (hj : j < len) (h : WL prog ops Q rest (l.set i (.pointer (some ⟨b, off + j * 2, none⟩))) w) (hd : o.dst = some i := by first | exact rfl | fail) (hg : Lq ops l o = some true := by first | exact rfl | fail) : WL prog ops Q (o :: rest) l w := gV (SY ho underlying46 Z (CQ hx) hao (CQ hy) rfl hj) hd hg h
theorem iC (hq : ops.toList.drop q = o :: r) (ho : o.op = .indexAddr 46 x y) (hx : KA l x = some (.slice ao len cap)) (hao : ao = some ⟨b, off, none⟩) (hy : KA l y = some (.int .i64 ↑j)) (hj : j < len) (h : DT prog md ops Q [] S1 S2 sch false ⟨(l.set i (.pointer (some ⟨b, off + j * 2, none⟩))).toArray, []⟩ w) (hd : o.dst = some i := by first | exact rfl | fail) (hg : Lq ops l o = some true := by first | exact rfl | fail) (hp : LH o = true := by first | exact rfl | fail) (ht : ZE md ops [] q = true := by first | exact rfl | fail) : DT prog md ops Q [] S1 S2 (q :: sch) false ⟨l.toArray, []⟩ w := gS hq (fun _ _ => SY ho underlying46 Z (CQ hx) hao (CQ hy) rfl hj) hd hg hp ht h
end
theorem yS (k : q) (h : Hold q -> p := by
 intro hq
 first
 | (with_reducible refine isWL ?_)
   first
   | refine gV yR rfl rfl ?_
   | refine Xt rfl rfl ?_
   | fail
 | (with_reducible refine isKW ?_)
   first
   | refine kw rfl ?_
   | refine kn rfl ?_
   | fail
 | (with_reducible refine WN ?_)
   (try change Code.wp _ _ _ _ _)
 | (with_reducible refine AN ?_)
 | (with_reducible refine RL ?_)
 | (with_reducible refine Qf ?_)
   first
   | refine AO rfl ?_
   | refine AP rfl ?_
   | fail
 | (with_reducible refine isS ?_)
   first
   | refine gS rfl (fun w hS => yR) rfl rfl rfl rfl ?_
   | refine gS0 rfl rfl rfl (by first | exact E | exact E.2 | exact E.2.2 | exact E.2.2.2 | exact E.2.2.2.2 | exact E.2.2.2.2.2 | exact E.2.2.2.2.2.2 | fail) ?_
   | fail
 | (with_reducible refine isSP ?_)
   first
   | refine kS rfl ?_
   | refine kS0 rfl ?_
   | fail
 | (with_reducible refine SN ?_)
   (try change Code.wp _ _ _ _ _)
 | (with_reducible refine AU ?_)
   (try change Code.wp _ _ _ _ _)
 | (with_reducible refine AT ?_)
 | (with_reducible refine AX ?_)
   (try change Code.wp _ _ _ _ _)
 | (with_reducible refine AW ?_)
   (try refine bR ?_)
 | (fail_if_success (with_reducible change Code.wp _ _ _ _ _))
   change Code.wp _ _ _ _ _
 | fail
 exact hq.out) : p := h ⟨k⟩
theorem yG (k : q) (h : Hold q -> p := by
 intro hq
 repeat (refine yS ?_; (try (refine yS ?_; (try (refine yS ?_; (try refine yS ?_))))); (try simp only [q2,q3]))
 (try simp only [Act.put,q1,q2,q3])
 exact hq.out) : p := h ⟨k⟩
theorem nwA {e : El α} {L : List α} (h : (fA e t base S v L).p w) : ∀ k, v ≠ .int .u32 k := Acc.nw h.1
theorem zSet (h : p := by first | exact zQ | exact hS2r | exact hSr | exact hS2e _ hg | exact hS2n _ hg | exact hSe _ hg | exact hSn _ hg | exact (fun h => by have := hS2l _ h; omega) | exact (fun h => by have := hS2T _ h; omega) | exact (fun h => by have := hSl _ h; omega) | exact (fun h => by have := hST2 _ h; omega) | fail) : p := h
theorem zL (h : p := by
 repeat (first
 | exact True.intro
 | refine And.intro (by first
   | exact True.intro
   | ((with_reducible apply GO); omega)
   | ((with_reducible apply okB); omega)
   | ((with_reducible apply OP); omega)
   | ((with_reducible apply TJ); omega)
   | ((with_reducible apply FV); exact zSet)
   | ((with_reducible apply Jv); assumption; exact zSet)
   | ((with_reducible apply okAl); exact zA; omega; exact zSet)
   | ((with_reducible apply LA) <;> omega)
   | ((with_reducible apply Ju) <;> omega)
   | ((with_reducible apply okDf); omega)
   | ((with_reducible apply okM); omega)
   | ((with_reducible apply okI); omega)
   | ((with_reducible apply Zn); omega)
   | ((with_reducible apply okRd); omega)
   | ((with_reducible apply okTw); omega)
   | ((with_reducible apply okSv); omega)
   | ((with_reducible apply okSy); omega)
   | assumption
   | ((with_reducible apply xU); omega)
   | exact hkA _ hg
   | fail) ?_)
 done) : p := h
theorem zN (h : p := by first
 | exact zM
 | ((with_reducible apply LM) <;> exact zM)
 | ((with_reducible apply Bh) <;> exact zM)
 | exact Bh (M := zeroM) EZ EZ
 | (repeat (first | (with_reducible exact uC) | refine PS (by first | assumption | simp | ((with_reducible refine nwA (e := ?_) (t := ?_) (base := ?_) (S := ?_) (L := ?_) (w := ?_) ?_); exact zA) | fail) ?_)); done
 | fail) : p := h
theorem oC {n : Bool} {s : Value} (E : Env w L) (x : Bx w b T cs) (o : Onl b w w') (y : Bx w' b 62 [.bool n, s]) (k : Ok b L := by exact zL) (h : UP cs := by exact zN) : Env w' (fB b n s :: L) := (E.onl (x.noW h) k o).b y
theorem oY {T' : Nat} {ds : List Value} (E : Env w L) (x : Bx w b T cs) (o : Onl b w w') (y : Bx w' b T' ds) (k : Ok b L := by exact zL) (h : UP cs := by exact zN) : Env w' (fX b T' ds :: L) := (E.onl (x.noW h) k o).x y
end Go.Proofs.YtmppigbbkjepiaaGreatDoor
