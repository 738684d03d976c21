/- Helping facts of Aut2; no other conditions. -/
import Derived.Test.YtmppigbbkjepiaaGreatDoorKitR
namespace Go.Proofs.YtmppigbbkjepiaaGreatDoor
open Go.Proofs.Tryz
open Go.RowKit W
section
variable {P : Program} {w : World} {l : List Value} {v : Value} {x y c t : Operand} {k : IntKind} {m n : Int} {b : Bool} {tt tt' ty T : TypeId} {d : Option Nat} {ps : String} {af : Array Edge} {g : Option (Nat × Bool)}
theorem rLenB {a : Bs} (hx : IW l x = some (.string (bs a))) : (execOp (KL l) ⟨d, .call { callee := .builtin .len, args := #[x], argTypes := #[9] }, ty, ps, af, g⟩).run prog w = .ok (.value (.int .i64 ↑a.length)) w := Kp rfl (CO hx)
theorem rLenR {T t : TypeId} {ao : Option Addr} {n c : Nat} (hT : P.underlying T = some (.slice t)) (hx : IW l x = some (.slice ao n c)) : (execOp (KL l) ⟨d, .call { callee := .builtin .len, args := #[x], argTypes := #[T] }, ty, ps, af, g⟩).run P w = .ok (.value (.int .i64 ↑n)) w := Kn rfl hT (CO hx)
theorem rNil {a : Addr} (hx : IW l x = some (.pointer (some a))) : (execOp (KL l) ⟨d, .nilCheck x, ty, ps, af, g⟩).run P w = .ok (.value (.pointer (some a))) w := pV rfl (CO hx)
theorem rCat {a b : Bs} (hx : IW l x = some (.string (bs a))) (hy : IW l y = some (.string (bs b))) (hs : a.length + b.length ≤ 9223372036854775807) : (execOp (KL l) ⟨d, .binOp .add tt x y tt', ty, ps, af, g⟩).run P w = .ok (.value (.string (bs (a ++ b)))) w := Kr rfl (CO hx) (CO hy) hs
theorem rIxB {a : Bs} {j : Nat} {b : UInt8} (hx : IW l x = some (.string (bs a))) (hy : IW l y = some (.int k ((j : Nat) : Int))) (hb : a[j]? = some b) : (execOp (KL l) ⟨d, .index 9 x y, ty, ps, af, g⟩).run prog w = .ok (.value (.int .u8 ↑b.toNat)) w := Pw rfl underlying9 (CO hx) (CO hy) rfl hb
theorem rIdxM {h o j : Nat} (hx : IW l x = some (.pointer (some ⟨h, o, none⟩))) (hy : IW l y = some (.int .i64 ↑j)) (hj : j < 8) : (execOp (KL l) ⟨d, .indexAddr 67 x y, ty, ps, af, g⟩).run prog w = .ok (.value (.pointer (some ⟨h, o + j * 1, none⟩))) w := DS (j := j) rfl underlying67 Z (CO hx) (CO hy) rfl hj
section
variable {h j o TB : Nat} {cs : List Value}
theorem Qg (hx : IW l x = some (.pointer (some ⟨h, j, none⟩))) (hb : Bx w h TB cs) (hi : cs[j]? = some v) : (execOp (KL l) ⟨d, .load 28 x, ty, ps, af, g⟩).run prog w = .ok (.value v) w := CP rfl MA (CO hx) hb hi
theorem Qc {a : Nat} (hx : IW l x = some (.pointer (some ⟨h, a, none⟩))) (hb : (fC h o cs).p w) (ha : a = o + j) (hi : cs[j]? = some v) : (execOp (KL l) ⟨d, .load 28 x, ty, ps, af, g⟩).run prog w = .ok (.value v) w := by subst ha; exact GF rfl MA (CO hx) (hb.1 j _ hi)
theorem Qf (hx : IW l x = some (.pointer (some ⟨h, j, none⟩))) (hb : Bx w h TB cs) (hi : cs[j]? = some v) : (execOp (KL l) ⟨d, .load 30 x, ty, ps, af, g⟩).run prog w = .ok (.value v) w := CP rfl aI (CO hx) hb hi
theorem Qb {a : Nat} (hx : IW l x = some (.pointer (some ⟨h, a, none⟩))) (hb : (fC h o cs).p w) (ha : a = o + j) (hi : cs[j]? = some v) : (execOp (KL l) ⟨d, .load 30 x, ty, ps, af, g⟩).run prog w = .ok (.value v) w := by subst ha; exact GF rfl aI (CO hx) (hb.1 j _ hi)
theorem Vo (hx : IW l x = some (.pointer (some ⟨h, j, none⟩))) (hb : Bx w h TB cs) (hi : cs[j]? = some v) : (execOp (KL l) ⟨d, .load 9 x, ty, ps, af, g⟩).run prog w = .ok (.value v) w := CP rfl oL (CO hx) hb hi
theorem Vj {a : Nat} (hx : IW l x = some (.pointer (some ⟨h, a, none⟩))) (hb : (fC h o cs).p w) (ha : a = o + j) (hi : cs[j]? = some v) : (execOp (KL l) ⟨d, .load 9 x, ty, ps, af, g⟩).run prog w = .ok (.value v) w := by subst ha; exact GF rfl oL (CO hx) (hb.1 j _ hi)
theorem Vq (hx : IW l x = some (.pointer (some ⟨h, j, none⟩))) (hb : Bx w h TB cs) (hi : cs[j]? = some v) : (execOp (KL l) ⟨d, .load 46 x, ty, ps, af, g⟩).run prog w = .ok (.value v) w := CP rfl eP (CO hx) hb hi
theorem Vl {a : Nat} (hx : IW l x = some (.pointer (some ⟨h, a, none⟩))) (hb : (fC h o cs).p w) (ha : a = o + j) (hi : cs[j]? = some v) : (execOp (KL l) ⟨d, .load 46 x, ty, ps, af, g⟩).run prog w = .ok (.value v) w := by subst ha; exact GF rfl eP (CO hx) (hb.1 j _ hi)
theorem Lf (hx : IW l x = some (.pointer (some ⟨h, j, none⟩))) (hb : Bx w h TB cs) (hi : cs[j]? = some v) : (execOp (KL l) ⟨d, .load 32 x, ty, ps, af, g⟩).run prog w = .ok (.value v) w := CP rfl KB (CO hx) hb hi
theorem La {a : Nat} (hx : IW l x = some (.pointer (some ⟨h, a, none⟩))) (hb : (fC h o cs).p w) (ha : a = o + j) (hi : cs[j]? = some v) : (execOp (KL l) ⟨d, .load 32 x, ty, ps, af, g⟩).run prog w = .ok (.value v) w := by subst ha; exact GF rfl KB (CO hx) (hb.1 j _ hi)
theorem Vp (hx : IW l x = some (.pointer (some ⟨h, j, none⟩))) (hb : Bx w h TB cs) (hi : cs[j]? = some v) : (execOp (KL l) ⟨d, .load 3 x, ty, ps, af, g⟩).run prog w = .ok (.value v) w := CP rfl DA (CO hx) hb hi
theorem Vk {a : Nat} (hx : IW l x = some (.pointer (some ⟨h, a, none⟩))) (hb : (fC h o cs).p w) (ha : a = o + j) (hi : cs[j]? = some v) : (execOp (KL l) ⟨d, .load 3 x, ty, ps, af, g⟩).run prog w = .ok (.value v) w := by subst ha; exact GF rfl DA (CO hx) (hb.1 j _ hi)
theorem Qh (hx : IW l x = some (.pointer (some ⟨h, j, none⟩))) (hb : Bx w h TB cs) (hi : cs[j]? = some v) : (execOp (KL l) ⟨d, .load 4 x, ty, ps, af, g⟩).run prog w = .ok (.value v) w := CP rfl aJ (CO hx) hb hi
theorem Qe {a : Nat} (hx : IW l x = some (.pointer (some ⟨h, a, none⟩))) (hb : (fC h o cs).p w) (ha : a = o + j) (hi : cs[j]? = some v) : (execOp (KL l) ⟨d, .load 4 x, ty, ps, af, g⟩).run prog w = .ok (.value v) w := by subst ha; exact GF rfl aJ (CO hx) (hb.1 j _ hi)
theorem Lg (hx : IW l x = some (.pointer (some ⟨h, j, none⟩))) (hb : Bx w h TB cs) (hi : cs[j]? = some v) : (execOp (KL l) ⟨d, .load 42 x, ty, ps, af, g⟩).run prog w = .ok (.value v) w := CP rfl gL (CO hx) hb hi
theorem Lb {a : Nat} (hx : IW l x = some (.pointer (some ⟨h, a, none⟩))) (hb : (fC h o cs).p w) (ha : a = o + j) (hi : cs[j]? = some v) : (execOp (KL l) ⟨d, .load 42 x, ty, ps, af, g⟩).run prog w = .ok (.value v) w := by subst ha; exact GF rfl gL (CO hx) (hb.1 j _ hi)
theorem Ld (hx : IW l x = some (.pointer (some ⟨h, j, none⟩))) (hb : Bx w h TB cs) (hi : cs[j]? = some v) : (execOp (KL l) ⟨d, .load 22 x, ty, ps, af, g⟩).run prog w = .ok (.value v) w := CP rfl gK (CO hx) hb hi
theorem Kz {a : Nat} (hx : IW l x = some (.pointer (some ⟨h, a, none⟩))) (hb : (fC h o cs).p w) (ha : a = o + j) (hi : cs[j]? = some v) : (execOp (KL l) ⟨d, .load 22 x, ty, ps, af, g⟩).run prog w = .ok (.value v) w := by subst ha; exact GF rfl gK (CO hx) (hb.1 j _ hi)
theorem Lc (hx : IW l x = some (.pointer (some ⟨h, j, none⟩))) (hb : Bx w h TB cs) (hi : cs[j]? = some v) : (execOp (KL l) ⟨d, .load 41 x, ty, ps, af, g⟩).run prog w = .ok (.value v) w := CP rfl XL (CO hx) hb hi
theorem Ky {a : Nat} (hx : IW l x = some (.pointer (some ⟨h, a, none⟩))) (hb : (fC h o cs).p w) (ha : a = o + j) (hi : cs[j]? = some v) : (execOp (KL l) ⟨d, .load 41 x, ty, ps, af, g⟩).run prog w = .ok (.value v) w := by subst ha; exact GF rfl XL (CO hx) (hb.1 j _ hi)
theorem rL_R (hx : IW l x = some (.pointer (some ⟨h, 0, none⟩))) (hb : Bx w h 64 cs) (hn : cs.length = 4) : (execOp (KL l) ⟨d, .load 64 x, ty, ps, af, g⟩).run prog w = .ok (.value (.agg cs.toArray)) w := CT GV rfl (CO hx) hb hn
theorem rL_E (hx : IW l x = some (.pointer (some ⟨h, 0, none⟩))) (hb : Bx w h 83 cs) (hn : cs.length = 2) : (execOp (KL l) ⟨d, .load 83 x, ty, ps, af, g⟩).run prog w = .ok (.value (.agg cs.toArray)) w := CT OY rfl (CO hx) hb hn
theorem rL_Sy (hx : IW l x = some (.pointer (some ⟨h, 0, none⟩))) (hb : Bx w h 48 cs) (hn : cs.length = 4) : (execOp (KL l) ⟨d, .load 48 x, ty, ps, af, g⟩).run prog w = .ok (.value (.agg cs.toArray)) w := CT LK rfl (CO hx) hb hn
theorem rL_T (hx : IW l x = some (.pointer (some ⟨h, 0, none⟩))) (hb : Bx w h 88 cs) (hn : cs.length = 12) : (execOp (KL l) ⟨d, .load 88 x, ty, ps, af, g⟩).run prog w = .ok (.value (.agg cs.toArray)) w := CT KP rfl (CO hx) hb hn
theorem rL_M (hx : IW l x = some (.pointer (some ⟨h, 0, none⟩))) (hb : Bx w h 67 cs) (hn : cs.length = 8) : (execOp (KL l) ⟨d, .load 67 x, ty, ps, af, g⟩).run prog w = .ok (.value (.agg cs.toArray)) w := CT QX rfl (CO hx) hb hn
theorem mH (hx : IW l x = some (.pointer (some ⟨h, j, none⟩))) (hj : j + 0 = o) : (execOp (KL l) ⟨d, .fieldAddr 88 x 0, ty, ps, af, g⟩).run prog w = .ok (.value (.pointer (some ⟨h, o, none⟩))) w := JT rfl (CO hx) hj
theorem mG (hx : IW l x = some (.pointer (some ⟨h, j, none⟩))) (hj : j + 4 = o) : (execOp (KL l) ⟨d, .fieldAddr 88 x 1, ty, ps, af, g⟩).run prog w = .ok (.value (.pointer (some ⟨h, o, none⟩))) w := UE rfl (CO hx) hj
theorem qB (hx : IW l x = some (.pointer (some ⟨h, j, none⟩))) (hj : j + 0 = o) : (execOp (KL l) ⟨d, .fieldAddr 64 x 0, ty, ps, af, g⟩).run prog w = .ok (.value (.pointer (some ⟨h, o, none⟩))) w := gU rfl (CO hx) hj
theorem qA (hx : IW l x = some (.pointer (some ⟨h, j, none⟩))) (hj : j + 2 = o) : (execOp (KL l) ⟨d, .fieldAddr 64 x 1, ty, ps, af, g⟩).run prog w = .ok (.value (.pointer (some ⟨h, o, none⟩))) w := gT rfl (CO hx) hj
theorem bV (hx : IW l x = some (.pointer (some ⟨h, j, none⟩))) (hj : j + 0 = o) : (execOp (KL l) ⟨d, .fieldAddr 83 x 0, ty, ps, af, g⟩).run prog w = .ok (.value (.pointer (some ⟨h, o, none⟩))) w := WZ rfl (CO hx) hj
theorem bU (hx : IW l x = some (.pointer (some ⟨h, j, none⟩))) (hj : j + 1 = o) : (execOp (KL l) ⟨d, .fieldAddr 83 x 1, ty, ps, af, g⟩).run prog w = .ok (.value (.pointer (some ⟨h, o, none⟩))) w := WY rfl (CO hx) hj
theorem gZ (hx : IW l x = some (.pointer (some ⟨h, j, none⟩))) (hj : j + 0 = o) : (execOp (KL l) ⟨d, .fieldAddr 48 x 0, ty, ps, af, g⟩).run prog w = .ok (.value (.pointer (some ⟨h, o, none⟩))) w := ZX rfl (CO hx) hj
theorem gY (hx : IW l x = some (.pointer (some ⟨h, j, none⟩))) (hj : j + 1 = o) : (execOp (KL l) ⟨d, .fieldAddr 48 x 1, ty, ps, af, g⟩).run prog w = .ok (.value (.pointer (some ⟨h, o, none⟩))) w := ZW rfl (CO hx) hj
theorem gX (hx : IW l x = some (.pointer (some ⟨h, j, none⟩))) (hj : j + 2 = o) : (execOp (KL l) ⟨d, .fieldAddr 48 x 2, ty, ps, af, g⟩).run prog w = .ok (.value (.pointer (some ⟨h, o, none⟩))) w := ZV rfl (CO hx) hj
theorem gW (hx : IW l x = some (.pointer (some ⟨h, j, none⟩))) (hj : j + 3 = o) : (execOp (KL l) ⟨d, .fieldAddr 48 x 3, ty, ps, af, g⟩).run prog w = .ok (.value (.pointer (some ⟨h, o, none⟩))) w := RJ rfl (CO hx) hj
theorem aC (hx : IW l x = some (.pointer (some ⟨h, j, none⟩))) (hj : j + 0 = o) : (execOp (KL l) ⟨d, .fieldAddr 115 x 0, ty, ps, af, g⟩).run prog w = .ok (.value (.pointer (some ⟨h, o, none⟩))) w := WE rfl (CO hx) hj
theorem aB (hx : IW l x = some (.pointer (some ⟨h, j, none⟩))) (hj : j + 4 = o) : (execOp (KL l) ⟨d, .fieldAddr 115 x 1, ty, ps, af, g⟩).run prog w = .ok (.value (.pointer (some ⟨h, o, none⟩))) w := WD rfl (CO hx) hj
theorem XF (hx : IW l x = some (.pointer (some ⟨h, j, none⟩))) (hj : j + 0 = o) : (execOp (KL l) ⟨d, .fieldAddr 105 x 0, ty, ps, af, g⟩).run prog w = .ok (.value (.pointer (some ⟨h, o, none⟩))) w := UD rfl (CO hx) hj
theorem XE (hx : IW l x = some (.pointer (some ⟨h, j, none⟩))) (hj : j + 1 = o) : (execOp (KL l) ⟨d, .fieldAddr 105 x 1, ty, ps, af, g⟩).run prog w = .ok (.value (.pointer (some ⟨h, o, none⟩))) w := UC rfl (CO hx) hj
end
end
theorem okAl {α : Type} {e : El α} {t base c : Nat} {S : Nat → Prop} {v : Value} {L : List α} {w : World} (h : (fA e t base S v L).p w) (hc : c < base) (hs : ¬ S c) : (fA e t base S v L).ok c := MT (fun g => by have := (Acc.lt h.1 g).1; omega) hs
theorem zU {p : Prop} (h : p := by first | exact underlying28 | exact underlying30 | exact underlying46 | exact underlying42 | exact underlying60 | exact underlying152 | exact underlying22 | exact underlying41 | fail) : p := h
theorem zO {a b c : Nat} (h : a = b + c := by first | exact (Nat.add_zero _).symm | exact rfl | fail) : a = b + c := h
theorem yR {p : Prop} (h : p := by first
  | (with_reducible apply rLenB); exact rfl
  | exact zR
  | (with_reducible apply rLenR); exact zU; exact rfl
  | (with_reducible apply rNil); exact rfl
  | (with_reducible apply rCat); exact rfl; exact rfl; (try simp only [List.length_append, List.length_cons, List.length_nil]); omega
  | (with_reducible apply rIxB); exact rfl; exact rfl; assumption
  | (with_reducible apply rIdxM); exact rfl; exact rfl; omega
  | (with_reducible apply Qg); exact rfl; exact zA; exact rfl
  | (with_reducible apply Qc); exact rfl; exact zA; exact zO; exact rfl
  | (with_reducible apply Qf); exact rfl; exact zA; exact rfl
  | (with_reducible apply Qb); exact rfl; exact zA; exact zO; exact rfl
  | (with_reducible apply Vo); exact rfl; exact zA; exact rfl
  | (with_reducible apply Vj); exact rfl; exact zA; exact zO; exact rfl
  | (with_reducible apply Vq); exact rfl; exact zA; exact rfl
  | (with_reducible apply Vl); exact rfl; exact zA; exact zO; exact rfl
  | (with_reducible apply Lf); exact rfl; exact zA; exact rfl
  | (with_reducible apply La); exact rfl; exact zA; exact zO; exact rfl
  | (with_reducible apply Vp); exact rfl; exact zA; exact rfl
  | (with_reducible apply Vk); exact rfl; exact zA; exact zO; exact rfl
  | (with_reducible apply Qh); exact rfl; exact zA; exact rfl
  | (with_reducible apply Qe); exact rfl; exact zA; exact zO; exact rfl
  | (with_reducible apply Lg); exact rfl; exact zA; exact rfl
  | (with_reducible apply Lb); exact rfl; exact zA; exact zO; exact rfl
  | (with_reducible apply Ld); exact rfl; exact zA; exact rfl
  | (with_reducible apply Kz); exact rfl; exact zA; exact zO; exact rfl
  | (with_reducible apply Lc); exact rfl; exact zA; exact rfl
  | (with_reducible apply Ky); exact rfl; exact zA; exact zO; exact rfl
  | (with_reducible apply rL_R); exact rfl; exact zA; exact rfl
  | (with_reducible apply rL_E); exact rfl; exact zA; exact rfl
  | (with_reducible apply rL_Sy); exact rfl; exact zA; exact rfl
  | (with_reducible apply rL_T); exact rfl; exact zA; first | exact rfl | exact CM (by assumption) | exact DC (by assumption) | fail
  | (with_reducible apply rL_M); exact rfl; exact zA; first | exact rfl | exact CM (by assumption) | exact DC (by assumption) | fail
  | (with_reducible apply mH); exact rfl; exact rfl
  | (with_reducible apply mG); exact rfl; exact rfl
  | (with_reducible apply qB); exact rfl; exact rfl
  | (with_reducible apply qA); exact rfl; exact rfl
  | (with_reducible apply bV); exact rfl; exact rfl
  | (with_reducible apply bU); exact rfl; exact rfl
  | (with_reducible apply gZ); exact rfl; exact rfl
  | (with_reducible apply gY); exact rfl; exact rfl
  | (with_reducible apply gX); exact rfl; exact rfl
  | (with_reducible apply gW); exact rfl; exact rfl
  | (with_reducible apply aC); exact rfl; exact rfl
  | (with_reducible apply aB); exact rfl; exact rfl
  | (with_reducible apply XF); exact rfl; exact rfl
  | (with_reducible apply XE); exact rfl; exact rfl
  | exact tH rfl
  | exact tL rfl
  | exact tN rfl
  | exact tJ rfl
  | exact pW rfl
  | fail) : p := h
section
variable {Q : Exit → Act → World → Prop} {ops : Array Oper} {rest : List Oper} {md : Region.Mode} {S1 S2 : World → Prop} {sch : List Nat} {r : List Oper} {o : Oper} {w : World} {l : List Value} {i q : Nat} {ao : Option Addr} {b off len cap j : Nat} {x y : Operand}
theorem Ja (ho : o.op = .indexAddr 28 x y) (hx : IW l x = some (.slice ao len cap)) (hao : ao = some ⟨b, off, none⟩) (hy : IW l y = some (.int .i64 ↑j)) (hj : j < len) (h : WL prog ops Q rest (l.set i (.pointer (some ⟨b, off + j * 12, none⟩))) w) (hd : o.dst = some i := by first | exact rfl | fail) (hg : Iw ops l o = some true := by first | exact rfl | fail) : WL prog ops Q (o :: rest) l w := gV (NL ho underlying28 Z (CO hx) hao (CO hy) rfl hj) hd hg h
theorem lS (hq : ops.toList.drop q = o :: r) (ho : o.op = .indexAddr 28 x y) (hx : IW l x = some (.slice ao len cap)) (hao : ao = some ⟨b, off, none⟩) (hy : IW l y = some (.int .i64 ↑j)) (hj : j < len) (h : DJ prog md ops Q [] S1 S2 sch false ⟨(l.set i (.pointer (some ⟨b, off + j * 12, none⟩))).toArray, []⟩ w) (hd : o.dst = some i := by first | exact rfl | fail) (hg : Iw ops l o = some true := by first | exact rfl | fail) (hp : JU o = true := by first | exact rfl | fail) (ht : VT md ops [] q = true := by first | exact rfl | fail) : DJ prog md ops Q [] S1 S2 (q :: sch) false ⟨l.toArray, []⟩ w := gS hq (fun _ _ => NL ho underlying28 Z (CO hx) hao (CO hy) rfl hj) hd hg hp ht h
theorem iD (ho : o.op = .indexAddr 30 x y) (hx : IW l x = some (.slice ao len cap)) (hao : ao = some ⟨b, off, none⟩) (hy : IW l y = some (.int .i64 ↑j)) (hj : j < len) (h : WL prog ops Q rest (l.set i (.pointer (some ⟨b, off + j * 1, none⟩))) w) (hd : o.dst = some i := by first | exact rfl | fail) (hg : Iw ops l o = some true := by first | exact rfl | fail) : WL prog ops Q (o :: rest) l w := gV (NL ho underlying30 Z (CO hx) hao (CO hy) rfl hj) hd hg h
theorem aSS (hq : ops.toList.drop q = o :: r) (ho : o.op = .indexAddr 30 x y) (hx : IW l x = some (.slice ao len cap)) (hao : ao = some ⟨b, off, none⟩) (hy : IW l y = some (.int .i64 ↑j)) (hj : j < len) (h : DJ prog md ops Q [] S1 S2 sch false ⟨(l.set i (.pointer (some ⟨b, off + j * 1, none⟩))).toArray, []⟩ w) (hd : o.dst = some i := by first | exact rfl | fail) (hg : Iw ops l o = some true := by first | exact rfl | fail) (hp : JU o = true := by first | exact rfl | fail) (ht : VT md ops [] q = true := by first | exact rfl | fail) : DJ prog md ops Q [] S1 S2 (q :: sch) false ⟨l.toArray, []⟩ w := gS hq (fun _ _ => NL ho underlying30 Z (CO hx) hao (CO hy) rfl hj) hd hg hp ht h
theorem Uj (ho : o.op = .indexAddr 46 x y) (hx : IW l x = some (.slice ao len cap)) (hao : ao = some ⟨b, off, none⟩) (hy : IW l y = some (.int .i64 ↑j)) (hj : j < len) (h : WL prog ops Q rest (l.set i (.pointer (some ⟨b, off + j * 2, none⟩))) w) (hd : o.dst = some i := by first | exact rfl | fail) (hg : Iw ops l o = some true := by first | exact rfl | fail) : WL prog ops Q (o :: rest) l w := gV (NL ho underlying46 Z (CO hx) hao (CO hy) rfl hj) hd hg h
theorem dI (hq : ops.toList.drop q = o :: r) (ho : o.op = .indexAddr 46 x y) (hx : IW l x = some (.slice ao len cap)) (hao : ao = some ⟨b, off, none⟩) (hy : IW l y = some (.int .i64 ↑j)) (hj : j < len) (h : DJ prog md ops Q [] S1 S2 sch false ⟨(l.set i (.pointer (some ⟨b, off + j * 2, none⟩))).toArray, []⟩ w) (hd : o.dst = some i := by first | exact rfl | fail) (hg : Iw ops l o = some true := by first | exact rfl | fail) (hp : JU o = true := by first | exact rfl | fail) (ht : VT md ops [] q = true := by first | exact rfl | fail) : DJ prog md ops Q [] S1 S2 (q :: sch) false ⟨l.toArray, []⟩ w := gS hq (fun _ _ => NL ho underlying46 Z (CO hx) hao (CO hy) rfl hj) hd hg hp ht h
end
theorem yS {p q : Prop} (k : q) (h : Hold q → p := by
  intro hq
  first
  | (with_reducible refine isWL ?_)
    first
    | refine gV yR rfl rfl ?_
    | refine Ud rfl rfl ?_
    | fail
  | (with_reducible refine isKW ?_)
    first
    | refine kw rfl ?_
    | refine kn rfl ?_
    | fail
  | (with_reducible refine WN ?_)
    (try change Code.wp _ _ _ _ _)
  | (with_reducible refine AN ?_)
  | (with_reducible refine RL ?_)
  | (with_reducible refine Mn ?_)
    first
    | refine AO rfl ?_
    | refine AP rfl ?_
    | fail
  | (with_reducible refine isS ?_)
    first
    | refine gS rfl (fun w hS => yR) rfl rfl rfl rfl ?_
    | refine gS0 rfl rfl rfl (by first | exact E | exact E.2 | exact E.2.2 | exact E.2.2.2 | exact E.2.2.2.2 | exact E.2.2.2.2.2 | exact E.2.2.2.2.2.2 | fail) ?_
    | fail
  | (with_reducible refine isSP ?_)
    first
    | refine kS rfl ?_
    | refine kS0 rfl ?_
    | fail
  | (with_reducible refine SN ?_)
    (try change Code.wp _ _ _ _ _)
  | (with_reducible refine AU ?_)
    (try change Code.wp _ _ _ _ _)
  | (with_reducible refine AT ?_)
  | (with_reducible refine AX ?_)
    (try change Code.wp _ _ _ _ _)
  | (with_reducible refine AW ?_)
    (try refine bR ?_)
  | (fail_if_success (with_reducible change Code.wp _ _ _ _ _))
    change Code.wp _ _ _ _ _
  | fail
  exact hq.out) : p := h ⟨k⟩
theorem yG {p q : Prop} (k : q) (h : Hold q → p := by
  intro hq
  repeat (refine yS ?_; (try (refine yS ?_; (try (refine yS ?_; (try refine yS ?_))))); (try simp only [q2,q3]))
  (try simp only [Act.put,q1,q2,q3])
  exact hq.out) : p := h ⟨k⟩
theorem zN {p : Prop} (h : p := by first
  | exact zM
  | ((with_reducible apply PY) <;> exact zM)
  | ((with_reducible apply RF) <;> exact zM)
  | exact RF (M := zeroM) FM FM
  | (repeat (first | (with_reducible exact EB) | refine CL (by first | assumption | simp) ?_)); done
  | fail) : p := h
theorem oC {w w' : World} {b T : Nat} {cs : List Value} {n : Bool} {s : Value} {L : List SF} (E : Env w L) (x : Bx w b T cs) (o : Onl b w w') (y : Bx w' b 62 [.bool n, s]) (k : Ok b L := by exact zK) (h : SJ cs := by exact zN) : Env w' (fB b n s :: L) := (E.onl (x.noW h) k o).b y
theorem oY {w w' : World} {b T T' : Nat} {cs ds : List Value} {L : List SF} (E : Env w L) (x : Bx w b T cs) (o : Onl b w w') (y : Bx w' b T' ds) (k : Ok b L := by exact zK) (h : SJ cs := by exact zN) : Env w' (fX b T' ds :: L) := (E.onl (x.noW h) k o).x y
end Go.Proofs.YtmppigbbkjepiaaGreatDoor
