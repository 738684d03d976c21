/- Walks by default scripts: structs, rows and strings of chapter 44. -/
import Derived.Test.YtmppigbbkjepiaaGreatDoorKitR
namespace Go.Proofs.YtmppigbbkjepiaaGreatDoor
open Go.Proofs.Tryz
open Go.RowKit W
section
variable {P : Program} {w : World} {l : List Value} {v : Value} {x y c t : Operand} {k : IntKind} {m n : Int} {b : Bool} {tt tt' ty T : TypeId} {d : Option Nat} {ps : String} {af : Array Edge} {g : Option (Nat × Bool)}
theorem rLenB {a : Bs} (hx : IQ l x = some (.string (bs a))) : (execOp (KE l) ⟨d, .call { callee := .builtin .len, args := #[x], argTypes := #[9] }, ty, ps, af, g⟩).run prog w = .ok (.value (.int .i64 ↑a.length)) w := Gb rfl (CL hx)
theorem rLenR {T t : TypeId} {ao : Option Addr} {n c : Nat} (hT : P.underlying T = some (.slice t)) (hx : IQ l x = some (.slice ao n c)) : (execOp (KE l) ⟨d, .call { callee := .builtin .len, args := #[x], argTypes := #[T] }, ty, ps, af, g⟩).run P w = .ok (.value (.int .i64 ↑n)) w := Fz rfl hT (CL hx)
theorem rNil {a : Addr} (hx : IQ l x = some (.pointer (some a))) : (execOp (KE l) ⟨d, .nilCheck x, ty, ps, af, g⟩).run P w = .ok (.value (.pointer (some a))) w := nS rfl (CL hx)
theorem rCat {a b : Bs} (hx : IQ l x = some (.string (bs a))) (hy : IQ l y = some (.string (bs b))) (hs : a.length + b.length ≤ 9223372036854775807) : (execOp (KE l) ⟨d, .binOp .add tt x y tt', ty, ps, af, g⟩).run P w = .ok (.value (.string (bs (a ++ b)))) w := Gc rfl (CL hx) (CL hy) hs
theorem rIxB {a : Bs} {j : Nat} {b : UInt8} (hx : IQ l x = some (.string (bs a))) (hy : IQ l y = some (.int k ((j : Nat) : Int))) (hb : a[j]? = some b) : (execOp (KE l) ⟨d, .index 9 x y, ty, ps, af, g⟩).run prog w = .ok (.value (.int .u8 ↑b.toNat)) w := Kt rfl underlying9 (CL hx) (CL hy) rfl hb
theorem rIdxM {h o j : Nat} (hx : IQ l x = some (.pointer (some ⟨h, o, none⟩))) (hy : IQ l y = some (.int .i64 ↑j)) (hj : j < 8) : (execOp (KE l) ⟨d, .indexAddr 67 x y, ty, ps, af, g⟩).run prog w = .ok (.value (.pointer (some ⟨h, o + j * 1, none⟩))) w := DX (j := j) rfl underlying67 I (CL hx) (CL hy) rfl hj
section
variable {h j o TB : Nat} {cs : List Value}
theorem Lb (hx : IQ l x = some (.pointer (some ⟨h, j, none⟩))) (hb : Bx w h TB cs) (hi : cs[j]? = some v) : (execOp (KE l) ⟨d, .load 28 x, ty, ps, af, g⟩).run prog w = .ok (.value v) w := CR rfl LB (CL hx) hb hi
theorem Ky {a : Nat} (hx : IQ l x = some (.pointer (some ⟨h, a, none⟩))) (hb : (fC h o cs).p w) (ha : a = o + j) (hi : cs[j]? = some v) : (execOp (KE l) ⟨d, .load 28 x, ty, ps, af, g⟩).run prog w = .ok (.value v) w := by subst ha; exact IT rfl LB (CL hx) (hb.1 j _ hi)
theorem La (hx : IQ l x = some (.pointer (some ⟨h, j, none⟩))) (hb : Bx w h TB cs) (hi : cs[j]? = some v) : (execOp (KE l) ⟨d, .load 30 x, ty, ps, af, g⟩).run prog w = .ok (.value v) w := CR rfl jE (CL hx) hb hi
theorem Kx {a : Nat} (hx : IQ l x = some (.pointer (some ⟨h, a, none⟩))) (hb : (fC h o cs).p w) (ha : a = o + j) (hi : cs[j]? = some v) : (execOp (KE l) ⟨d, .load 30 x, ty, ps, af, g⟩).run prog w = .ok (.value v) w := by subst ha; exact IT rfl jE (CL hx) (hb.1 j _ hi)
theorem Py (hx : IQ l x = some (.pointer (some ⟨h, j, none⟩))) (hb : Bx w h TB cs) (hi : cs[j]? = some v) : (execOp (KE l) ⟨d, .load 9 x, ty, ps, af, g⟩).run prog w = .ok (.value v) w := CR rfl mJ (CL hx) hb hi
theorem Pt {a : Nat} (hx : IQ l x = some (.pointer (some ⟨h, a, none⟩))) (hb : (fC h o cs).p w) (ha : a = o + j) (hi : cs[j]? = some v) : (execOp (KE l) ⟨d, .load 9 x, ty, ps, af, g⟩).run prog w = .ok (.value v) w := by subst ha; exact IT rfl mJ (CL hx) (hb.1 j _ hi)
theorem Qa (hx : IQ l x = some (.pointer (some ⟨h, j, none⟩))) (hb : Bx w h TB cs) (hi : cs[j]? = some v) : (execOp (KE l) ⟨d, .load 46 x, ty, ps, af, g⟩).run prog w = .ok (.value v) w := CR rfl cJ (CL hx) hb hi
theorem Pv {a : Nat} (hx : IQ l x = some (.pointer (some ⟨h, a, none⟩))) (hb : (fC h o cs).p w) (ha : a = o + j) (hi : cs[j]? = some v) : (execOp (KE l) ⟨d, .load 46 x, ty, ps, af, g⟩).run prog w = .ok (.value v) w := by subst ha; exact IT rfl cJ (CL hx) (hb.1 j _ hi)
theorem Gq (hx : IQ l x = some (.pointer (some ⟨h, j, none⟩))) (hb : Bx w h TB cs) (hi : cs[j]? = some v) : (execOp (KE l) ⟨d, .load 32 x, ty, ps, af, g⟩).run prog w = .ok (.value v) w := CR rfl JQ (CL hx) hb hi
theorem Gk {a : Nat} (hx : IQ l x = some (.pointer (some ⟨h, a, none⟩))) (hb : (fC h o cs).p w) (ha : a = o + j) (hi : cs[j]? = some v) : (execOp (KE l) ⟨d, .load 32 x, ty, ps, af, g⟩).run prog w = .ok (.value v) w := by subst ha; exact IT rfl JQ (CL hx) (hb.1 j _ hi)
theorem Pz (hx : IQ l x = some (.pointer (some ⟨h, j, none⟩))) (hb : Bx w h TB cs) (hi : cs[j]? = some v) : (execOp (KE l) ⟨d, .load 3 x, ty, ps, af, g⟩).run prog w = .ok (.value v) w := CR rfl DD (CL hx) hb hi
theorem Pu {a : Nat} (hx : IQ l x = some (.pointer (some ⟨h, a, none⟩))) (hb : (fC h o cs).p w) (ha : a = o + j) (hi : cs[j]? = some v) : (execOp (KE l) ⟨d, .load 3 x, ty, ps, af, g⟩).run prog w = .ok (.value v) w := by subst ha; exact IT rfl DD (CL hx) (hb.1 j _ hi)
theorem Lc (hx : IQ l x = some (.pointer (some ⟨h, j, none⟩))) (hb : Bx w h TB cs) (hi : cs[j]? = some v) : (execOp (KE l) ⟨d, .load 4 x, ty, ps, af, g⟩).run prog w = .ok (.value v) w := CR rfl ZF (CL hx) hb hi
theorem Kz {a : Nat} (hx : IQ l x = some (.pointer (some ⟨h, a, none⟩))) (hb : (fC h o cs).p w) (ha : a = o + j) (hi : cs[j]? = some v) : (execOp (KE l) ⟨d, .load 4 x, ty, ps, af, g⟩).run prog w = .ok (.value v) w := by subst ha; exact IT rfl ZF (CL hx) (hb.1 j _ hi)
theorem Gr (hx : IQ l x = some (.pointer (some ⟨h, j, none⟩))) (hb : Bx w h TB cs) (hi : cs[j]? = some v) : (execOp (KE l) ⟨d, .load 42 x, ty, ps, af, g⟩).run prog w = .ok (.value v) w := CR rfl dU (CL hx) hb hi
theorem Gl {a : Nat} (hx : IQ l x = some (.pointer (some ⟨h, a, none⟩))) (hb : (fC h o cs).p w) (ha : a = o + j) (hi : cs[j]? = some v) : (execOp (KE l) ⟨d, .load 42 x, ty, ps, af, g⟩).run prog w = .ok (.value v) w := by subst ha; exact IT rfl dU (CL hx) (hb.1 j _ hi)
theorem Gp (hx : IQ l x = some (.pointer (some ⟨h, j, none⟩))) (hb : Bx w h TB cs) (hi : cs[j]? = some v) : (execOp (KE l) ⟨d, .load 22 x, ty, ps, af, g⟩).run prog w = .ok (.value v) w := CR rfl dT (CL hx) hb hi
theorem Gj {a : Nat} (hx : IQ l x = some (.pointer (some ⟨h, a, none⟩))) (hb : (fC h o cs).p w) (ha : a = o + j) (hi : cs[j]? = some v) : (execOp (KE l) ⟨d, .load 22 x, ty, ps, af, g⟩).run prog w = .ok (.value v) w := by subst ha; exact IT rfl dT (CL hx) (hb.1 j _ hi)
theorem Gm (hx : IQ l x = some (.pointer (some ⟨h, j, none⟩))) (hb : Bx w h TB cs) (hi : cs[j]? = some v) : (execOp (KE l) ⟨d, .load 41 x, ty, ps, af, g⟩).run prog w = .ok (.value v) w := CR rfl dS (CL hx) hb hi
theorem Gi {a : Nat} (hx : IQ l x = some (.pointer (some ⟨h, a, none⟩))) (hb : (fC h o cs).p w) (ha : a = o + j) (hi : cs[j]? = some v) : (execOp (KE l) ⟨d, .load 41 x, ty, ps, af, g⟩).run prog w = .ok (.value v) w := by subst ha; exact IT rfl dS (CL hx) (hb.1 j _ hi)
theorem rL_R (hx : IQ l x = some (.pointer (some ⟨h, 0, none⟩))) (hb : Bx w h 64 cs) (hn : cs.length = 4) : (execOp (KE l) ⟨d, .load 64 x, ty, ps, af, g⟩).run prog w = .ok (.value (.agg cs.toArray)) w := CT GI rfl (CL hx) hb hn
theorem rL_E (hx : IQ l x = some (.pointer (some ⟨h, 0, none⟩))) (hb : Bx w h 83 cs) (hn : cs.length = 2) : (execOp (KE l) ⟨d, .load 83 x, ty, ps, af, g⟩).run prog w = .ok (.value (.agg cs.toArray)) w := CT PB rfl (CL hx) hb hn
theorem rL_Sy (hx : IQ l x = some (.pointer (some ⟨h, 0, none⟩))) (hb : Bx w h 48 cs) (hn : cs.length = 4) : (execOp (KE l) ⟨d, .load 48 x, ty, ps, af, g⟩).run prog w = .ok (.value (.agg cs.toArray)) w := CT RE rfl (CL hx) hb hn
theorem rL_T (hx : IQ l x = some (.pointer (some ⟨h, 0, none⟩))) (hb : Bx w h 88 cs) (hn : cs.length = 12) : (execOp (KE l) ⟨d, .load 88 x, ty, ps, af, g⟩).run prog w = .ok (.value (.agg cs.toArray)) w := CT JW rfl (CL hx) hb hn
theorem rL_M (hx : IQ l x = some (.pointer (some ⟨h, 0, none⟩))) (hb : Bx w h 67 cs) (hn : cs.length = 8) : (execOp (KE l) ⟨d, .load 67 x, ty, ps, af, g⟩).run prog w = .ok (.value (.agg cs.toArray)) w := CT PR rfl (CL hx) hb hn
theorem kO (hx : IQ l x = some (.pointer (some ⟨h, j, none⟩))) (hj : j + 0 = o) : (execOp (KE l) ⟨d, .fieldAddr 88 x 0, ty, ps, af, g⟩).run prog w = .ok (.value (.pointer (some ⟨h, o, none⟩))) w := JI rfl (CL hx) hj
theorem kN (hx : IQ l x = some (.pointer (some ⟨h, j, none⟩))) (hj : j + 4 = o) : (execOp (KE l) ⟨d, .fieldAddr 88 x 1, ty, ps, af, g⟩).run prog w = .ok (.value (.pointer (some ⟨h, o, none⟩))) w := TE rfl (CL hx) hj
theorem nY (hx : IQ l x = some (.pointer (some ⟨h, j, none⟩))) (hj : j + 0 = o) : (execOp (KE l) ⟨d, .fieldAddr 64 x 0, ty, ps, af, g⟩).run prog w = .ok (.value (.pointer (some ⟨h, o, none⟩))) w := eM rfl (CL hx) hj
theorem nX (hx : IQ l x = some (.pointer (some ⟨h, j, none⟩))) (hj : j + 2 = o) : (execOp (KE l) ⟨d, .fieldAddr 64 x 1, ty, ps, af, g⟩).run prog w = .ok (.value (.pointer (some ⟨h, o, none⟩))) w := eL rfl (CL hx) hj
theorem aK (hx : IQ l x = some (.pointer (some ⟨h, j, none⟩))) (hj : j + 0 = o) : (execOp (KE l) ⟨d, .fieldAddr 83 x 0, ty, ps, af, g⟩).run prog w = .ok (.value (.pointer (some ⟨h, o, none⟩))) w := VU rfl (CL hx) hj
theorem aJ (hx : IQ l x = some (.pointer (some ⟨h, j, none⟩))) (hj : j + 1 = o) : (execOp (KE l) ⟨d, .fieldAddr 83 x 1, ty, ps, af, g⟩).run prog w = .ok (.value (.pointer (some ⟨h, o, none⟩))) w := VT rfl (CL hx) hj
theorem eQ (hx : IQ l x = some (.pointer (some ⟨h, j, none⟩))) (hj : j + 0 = o) : (execOp (KE l) ⟨d, .fieldAddr 48 x 0, ty, ps, af, g⟩).run prog w = .ok (.value (.pointer (some ⟨h, o, none⟩))) w := YV rfl (CL hx) hj
theorem eP (hx : IQ l x = some (.pointer (some ⟨h, j, none⟩))) (hj : j + 1 = o) : (execOp (KE l) ⟨d, .fieldAddr 48 x 1, ty, ps, af, g⟩).run prog w = .ok (.value (.pointer (some ⟨h, o, none⟩))) w := YU rfl (CL hx) hj
theorem eO (hx : IQ l x = some (.pointer (some ⟨h, j, none⟩))) (hj : j + 2 = o) : (execOp (KE l) ⟨d, .fieldAddr 48 x 2, ty, ps, af, g⟩).run prog w = .ok (.value (.pointer (some ⟨h, o, none⟩))) w := YT rfl (CL hx) hj
theorem eN (hx : IQ l x = some (.pointer (some ⟨h, j, none⟩))) (hj : j + 3 = o) : (execOp (KE l) ⟨d, .fieldAddr 48 x 3, ty, ps, af, g⟩).run prog w = .ok (.value (.pointer (some ⟨h, o, none⟩))) w := YS rfl (CL hx) hj
theorem YY (hx : IQ l x = some (.pointer (some ⟨h, j, none⟩))) (hj : j + 0 = o) : (execOp (KE l) ⟨d, .fieldAddr 115 x 0, ty, ps, af, g⟩).run prog w = .ok (.value (.pointer (some ⟨h, o, none⟩))) w := VA rfl (CL hx) hj
theorem YX (hx : IQ l x = some (.pointer (some ⟨h, j, none⟩))) (hj : j + 4 = o) : (execOp (KE l) ⟨d, .fieldAddr 115 x 1, ty, ps, af, g⟩).run prog w = .ok (.value (.pointer (some ⟨h, o, none⟩))) w := UZ rfl (CL hx) hj
theorem VY (hx : IQ l x = some (.pointer (some ⟨h, j, none⟩))) (hj : j + 0 = o) : (execOp (KE l) ⟨d, .fieldAddr 105 x 0, ty, ps, af, g⟩).run prog w = .ok (.value (.pointer (some ⟨h, o, none⟩))) w := TD rfl (CL hx) hj
theorem VX (hx : IQ l x = some (.pointer (some ⟨h, j, none⟩))) (hj : j + 1 = o) : (execOp (KE l) ⟨d, .fieldAddr 105 x 1, ty, ps, af, g⟩).run prog w = .ok (.value (.pointer (some ⟨h, o, none⟩))) w := TC rfl (CL hx) hj
end
end
theorem okAl {α : Type} {e : El α} {t base c : Nat} {S : Nat → Prop} {v : Value} {L : List α} {w : World} (h : (fA e t base S v L).p w) (hc : c < base) (hs : ¬ S c) : (fA e t base S v L).ok c := PC (fun g => by have := (Acc.lt h.1 g).1; omega) hs
theorem zU {p : Prop} (h : p := by first | exact underlying28 | exact underlying30 | exact underlying46 | exact underlying42 | exact underlying60 | exact underlying152 | exact underlying22 | exact underlying41 | fail) : p := h
theorem zO {a b c : Nat} (h : a = b + c := by first | exact (Nat.add_zero _).symm | exact rfl | fail) : a = b + c := h
theorem yR {p : Prop} (h : p := by first
  | (with_reducible apply rLenB); exact rfl
  | exact zR
  | (with_reducible apply rLenR); exact zU; exact rfl
  | (with_reducible apply rNil); exact rfl
  | (with_reducible apply rCat); exact rfl; exact rfl; (try simp only [List.length_append, List.length_cons, List.length_nil]); omega
  | (with_reducible apply rIxB); exact rfl; exact rfl; assumption
  | (with_reducible apply rIdxM); exact rfl; exact rfl; omega
  | (with_reducible apply Lb); exact rfl; exact zA; exact rfl
  | (with_reducible apply Ky); exact rfl; exact zA; exact zO; exact rfl
  | (with_reducible apply La); exact rfl; exact zA; exact rfl
  | (with_reducible apply Kx); exact rfl; exact zA; exact zO; exact rfl
  | (with_reducible apply Py); exact rfl; exact zA; exact rfl
  | (with_reducible apply Pt); exact rfl; exact zA; exact zO; exact rfl
  | (with_reducible apply Qa); exact rfl; exact zA; exact rfl
  | (with_reducible apply Pv); exact rfl; exact zA; exact zO; exact rfl
  | (with_reducible apply Gq); exact rfl; exact zA; exact rfl
  | (with_reducible apply Gk); exact rfl; exact zA; exact zO; exact rfl
  | (with_reducible apply Pz); exact rfl; exact zA; exact rfl
  | (with_reducible apply Pu); exact rfl; exact zA; exact zO; exact rfl
  | (with_reducible apply Lc); exact rfl; exact zA; exact rfl
  | (with_reducible apply Kz); exact rfl; exact zA; exact zO; exact rfl
  | (with_reducible apply Gr); exact rfl; exact zA; exact rfl
  | (with_reducible apply Gl); exact rfl; exact zA; exact zO; exact rfl
  | (with_reducible apply Gp); exact rfl; exact zA; exact rfl
  | (with_reducible apply Gj); exact rfl; exact zA; exact zO; exact rfl
  | (with_reducible apply Gm); exact rfl; exact zA; exact rfl
  | (with_reducible apply Gi); exact rfl; exact zA; exact zO; exact rfl
  | (with_reducible apply rL_R); exact rfl; exact zA; exact rfl
  | (with_reducible apply rL_E); exact rfl; exact zA; exact rfl
  | (with_reducible apply rL_Sy); exact rfl; exact zA; exact rfl
  | (with_reducible apply rL_T); exact rfl; exact zA; first | exact rfl | exact CJ (by assumption) | exact DA (by assumption) | fail
  | (with_reducible apply rL_M); exact rfl; exact zA; first | exact rfl | exact CJ (by assumption) | exact DA (by assumption) | fail
  | (with_reducible apply kO); exact rfl; exact rfl
  | (with_reducible apply kN); exact rfl; exact rfl
  | (with_reducible apply nY); exact rfl; exact rfl
  | (with_reducible apply nX); exact rfl; exact rfl
  | (with_reducible apply aK); exact rfl; exact rfl
  | (with_reducible apply aJ); exact rfl; exact rfl
  | (with_reducible apply eQ); exact rfl; exact rfl
  | (with_reducible apply eP); exact rfl; exact rfl
  | (with_reducible apply eO); exact rfl; exact rfl
  | (with_reducible apply eN); exact rfl; exact rfl
  | (with_reducible apply YY); exact rfl; exact rfl
  | (with_reducible apply YX); exact rfl; exact rfl
  | (with_reducible apply VY); exact rfl; exact rfl
  | (with_reducible apply VX); exact rfl; exact rfl
  | exact qU rfl
  | exact qY rfl
  | exact rA rfl
  | exact qW rfl
  | exact nU rfl
  | fail) : p := h
section
variable {Q : Exit → Act → World → Prop} {ops : Array Oper} {rest : List Oper} {md : Region.Mode} {S1 S2 : World → Prop} {sch : List Nat} {r : List Oper} {o : Oper} {w : World} {l : List Value} {i q : Nat} {ao : Option Addr} {b off len cap j : Nat} {x y : Operand}
theorem tZ (ho : o.op = .indexAddr 28 x y) (hx : IQ l x = some (.slice ao len cap)) (hao : ao = some ⟨b, off, none⟩) (hy : IQ l y = some (.int .i64 ↑j)) (hj : j < len) (h : WL prog ops Q rest (l.set i (.pointer (some ⟨b, off + j * 12, none⟩))) w) (hd : o.dst = some i := by first | exact rfl | fail) (hg : Ef ops l o = some true := by first | exact rfl | fail) : WL prog ops Q (o :: rest) l w := gV (QK ho underlying28 I (CL hx) hao (CL hy) rfl hj) hd hg h
theorem fE (hq : ops.toList.drop q = o :: r) (ho : o.op = .indexAddr 28 x y) (hx : IQ l x = some (.slice ao len cap)) (hao : ao = some ⟨b, off, none⟩) (hy : IQ l y = some (.int .i64 ↑j)) (hj : j < len) (h : DJ prog md ops Q [] S1 S2 sch false ⟨(l.set i (.pointer (some ⟨b, off + j * 12, none⟩))).toArray, []⟩ w) (hd : o.dst = some i := by first | exact rfl | fail) (hg : Ef ops l o = some true := by first | exact rfl | fail) (hp : JK o = true := by first | exact rfl | fail) (ht : UM md ops [] q = true := by first | exact rfl | fail) : DJ prog md ops Q [] S1 S2 (q :: sch) false ⟨l.toArray, []⟩ w := gS hq (fun _ _ => QK ho underlying28 I (CL hx) hao (CL hy) rfl hj) hd hg hp ht h
theorem mZ (ho : o.op = .indexAddr 30 x y) (hx : IQ l x = some (.slice ao len cap)) (hao : ao = some ⟨b, off, none⟩) (hy : IQ l y = some (.int .i64 ↑j)) (hj : j < len) (h : WL prog ops Q rest (l.set i (.pointer (some ⟨b, off + j * 1, none⟩))) w) (hd : o.dst = some i := by first | exact rfl | fail) (hg : Ef ops l o = some true := by first | exact rfl | fail) : WL prog ops Q (o :: rest) l w := gV (QK ho underlying30 I (CL hx) hao (CL hy) rfl hj) hd hg h
theorem Ot (hq : ops.toList.drop q = o :: r) (ho : o.op = .indexAddr 30 x y) (hx : IQ l x = some (.slice ao len cap)) (hao : ao = some ⟨b, off, none⟩) (hy : IQ l y = some (.int .i64 ↑j)) (hj : j < len) (h : DJ prog md ops Q [] S1 S2 sch false ⟨(l.set i (.pointer (some ⟨b, off + j * 1, none⟩))).toArray, []⟩ w) (hd : o.dst = some i := by first | exact rfl | fail) (hg : Ef ops l o = some true := by first | exact rfl | fail) (hp : JK o = true := by first | exact rfl | fail) (ht : UM md ops [] q = true := by first | exact rfl | fail) : DJ prog md ops Q [] S1 S2 (q :: sch) false ⟨l.toArray, []⟩ w := gS hq (fun _ _ => QK ho underlying30 I (CL hx) hao (CL hy) rfl hj) hd hg hp ht h
theorem Ou (ho : o.op = .indexAddr 46 x y) (hx : IQ l x = some (.slice ao len cap)) (hao : ao = some ⟨b, off, none⟩) (hy : IQ l y = some (.int .i64 ↑j)) (hj : j < len) (h : WL prog ops Q rest (l.set i (.pointer (some ⟨b, off + j * 2, none⟩))) w) (hd : o.dst = some i := by first | exact rfl | fail) (hg : Ef ops l o = some true := by first | exact rfl | fail) : WL prog ops Q (o :: rest) l w := gV (QK ho underlying46 I (CL hx) hao (CL hy) rfl hj) hd hg h
theorem OB (hq : ops.toList.drop q = o :: r) (ho : o.op = .indexAddr 46 x y) (hx : IQ l x = some (.slice ao len cap)) (hao : ao = some ⟨b, off, none⟩) (hy : IQ l y = some (.int .i64 ↑j)) (hj : j < len) (h : DJ prog md ops Q [] S1 S2 sch false ⟨(l.set i (.pointer (some ⟨b, off + j * 2, none⟩))).toArray, []⟩ w) (hd : o.dst = some i := by first | exact rfl | fail) (hg : Ef ops l o = some true := by first | exact rfl | fail) (hp : JK o = true := by first | exact rfl | fail) (ht : UM md ops [] q = true := by first | exact rfl | fail) : DJ prog md ops Q [] S1 S2 (q :: sch) false ⟨l.toArray, []⟩ w := gS hq (fun _ _ => QK ho underlying46 I (CL hx) hao (CL hy) rfl hj) hd hg hp ht h
end
theorem yS {p q : Prop} (k : q) (h : Hold q → p := by
  intro hq
  first
  | (with_reducible refine isWL ?_)
    first
    | refine gV yR rfl rfl ?_
    | refine Oj rfl rfl ?_
    | fail
  | (with_reducible refine isKW ?_)
    first
    | refine kw rfl ?_
    | refine kn rfl ?_
    | fail
  | (with_reducible refine WN ?_)
    (try change Code.wp _ _ _ _ _)
  | (with_reducible refine AM ?_)
  | (with_reducible refine RL ?_)
  | (with_reducible refine Ht ?_)
    first
    | refine AN rfl ?_
    | refine AO rfl ?_
    | fail
  | (with_reducible refine isS ?_)
    first
    | refine gS rfl (fun w hS => yR) rfl rfl rfl rfl ?_
    | refine gS0 rfl rfl rfl (by first | exact E | exact E.2 | exact E.2.2 | exact E.2.2.2 | exact E.2.2.2.2 | exact E.2.2.2.2.2 | exact E.2.2.2.2.2.2 | fail) ?_
    | fail
  | (with_reducible refine isSP ?_)
    first
    | refine kS rfl ?_
    | refine kS0 rfl ?_
    | fail
  | (with_reducible refine SN ?_)
    (try change Code.wp _ _ _ _ _)
  | (with_reducible refine AT ?_)
    (try change Code.wp _ _ _ _ _)
  | (with_reducible refine AS ?_)
  | (with_reducible refine AW ?_)
    (try change Code.wp _ _ _ _ _)
  | (with_reducible refine AU ?_)
    (try refine bR ?_)
  | (fail_if_success (with_reducible change Code.wp _ _ _ _ _))
    change Code.wp _ _ _ _ _
  | fail
  exact hq.out) : p := h ⟨k⟩
theorem yG {p q : Prop} (k : q) (h : Hold q → p := by
  intro hq
  repeat (refine yS ?_; (try (refine yS ?_; (try (refine yS ?_; (try refine yS ?_))))); (try simp only [q2,q3]))
  (try simp only [Act.put,q1,q2,q3])
  exact hq.out) : p := h ⟨k⟩
end Go.Proofs.YtmppigbbkjepiaaGreatDoor
