/- Helping facts of OpnS; no other conditions. -/
import Derived.Test.YtmppigbbkjepiaaGreatDoorSame32
import Derived.SliceStrings
namespace Go.Proofs.YtmppigbbkjepiaaGreatDoor
open Go.Proofs.Tryz
open Go.ChangeShapes Go.WideShapes Go.ChangeAt Go.RowKit Go.Joins W
variable {H : Type} {W : World} {v : Value}
theorem Wp {a : Addr} (h : W.cell? a = some v) : a.block < W.heap.size /\ a.spot = none := by
 unfold World.cell? at h
 split at h
 . rename_i hb
   split at h
   . cases h
   rename_i hs
   exact ⟨(Array.getElem?_eq_some_iff.1 hb).1, by simpa using hs⟩
 cases h
theorem Wt (s : ByteArray) : bs s.data.toList = s := by cases s; simp [bs]
theorem Iq {enc : TypeId × Value -> H} {fuel : Nat} {c : Value} {x : DataW H × List MemPlace} (h : DataW.trod enc prog W 0 (fun _ => true) true fuel 30 [c] = some x) : ∃ l, IsR elS (DL W.heap.size) W c l := by
 rcases open_strings underlying30 underlying9 Z h with ⟨t, _⟩ | ⟨a, len, D, F, t, _, B, C, f, _, I, _⟩
 . simp only [List.cons.injEq, and_true] at t
   subst t
   exact ⟨[], IsR.nil _ _ _⟩
 simp only [List.cons.injEq, and_true] at t
 subst t
 simp only [if_true] at f
 refine ⟨(F.take len).map fun s => s.data.toList, some a, D, ?_, ?_, C, fun i x G => ?_⟩
 . rw [List.length_map, List.length_take, f, Nat.min_eq_left B]
 . rw [List.length_map, List.length_take]; omega
 rw [List.getElem?_map, Option.map_eq_some_iff] at G
 obtain ⟨s, P, rfl⟩ := G
 obtain ⟨R, p⟩ := List.getElem?_eq_some_iff.1 P
 rw [List.length_take] at R
 have q := I i AA
 have J := I 0 AA
 rw [Addr.add_zero'] at J
 obtain ⟨S, v⟩ := Wp J
 obtain ⟨b, o, L⟩ := a
 have k : L = none := v
 subst k
 have N : F.getD i ByteArray.empty = s := by
  rw [List.getElem_take] at p
  rw [List.getD_eq_getElem?_getD, List.getElem?_eq_getElem AA, p]; rfl
 rw [N] at q
 refine ⟨b, o, [.string (bs s.data.toList)], O, S, fun j y u => ?_, O⟩
 have Q : j = 0 := by
  have := (List.getElem?_eq_some_iff.1 u).1
  simp at this; omega
 subst Q
 simp only [List.getElem?_cons_zero, Option.some.injEq] at u
 subst u
 rw [Wt]
 have e : (⟨b, o + i * elS.sz + 0, none⟩ : Addr) = (⟨b, o, none⟩ : Addr).add i := by
  rw [Addr.add_lit]; show (⟨b, o + i * 1 + 0, none⟩ : Addr) = _; simp
 rw [e]; exact q
set_option maxRecDepth 100000 in
theorem Jt {enc : TypeId × Value -> H} {r : Reach} {b0 : Nat} {d : DataW H} {p : List MemPlace} (hv : Value.okWide prog W r b0 30 v) (h : DataW.Trod enc prog W 0 (fun _ => true) true 30 v d p) :
 ∃ vl, v = vl /\ ∃ l, IsR elS (DL W.heap.size) W vl l := by
 obtain ⟨o, len, k, rfl⟩ := okWide_slice underlying30 hv
 obtain ⟨e, f⟩ := h
 exact ⟨_, rfl, Iq f⟩
theorem Cu {a : Int} (h : (Lit.int .u16 a).wf = true) : ∃ n : Nat, a = (n : Int) /\ n < 65536 := by
 have e : 0 <= a /\ a < 65536 := by
  simp [Lit.wf, IntKind.min, IntKind.max, IntKind.signed, IntKind.bits] at h
  omega
 exact ⟨a.toNat, by omega, by omega⟩
end Go.Proofs.YtmppigbbkjepiaaGreatDoor
