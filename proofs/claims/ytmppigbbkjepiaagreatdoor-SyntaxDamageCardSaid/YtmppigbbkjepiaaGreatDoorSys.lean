/- Helping facts of Names; no other conditions. Helping facts of KitM; no other conditions. Helping facts of SysL; no other conditions. Helping facts of KitH; no other conditions. Helping facts of Sys; no other conditions. -/
import Derived.Test.YtmppigbbkjepiaaGreatDoorPoly
import Derived.Carry
import Derived.MapKept
import Derived.Test.YtmppigbbkjepiaaGreatDoorShelf
set_option maxHeartbeats 8000000
set_option maxRecDepth 100000
namespace Go.Proofs.YtmppigbbkjepiaaGreatDoor
open Go.Proofs.Tryz
open Go.RowKit W
theorem DN {b : Bool} {c : Bool} (h : c = b) : Ending.returned (.bool b) = .returned (.bool c) := by rw [h]
theorem RQ (c : Int) (w : World) :
    Calls prog 141 #[.int .i32 c] w (NP w (ZD c)) := by
 have E := Env.start w
 go_enter func141, ntmps141
 by_cases h : 48 ≤ c
 case neg =>
  by_cases e : c = 95
  case pos =>
   exfalso
   refine yG ?_
   omega
  refine yG ?_
  exact ⟨DN (Kt AA), E.1⟩
 by_cases f : c ≤ 57
 case pos =>
  refine yG ?_
  exact ⟨DN (Bk AA), E.1⟩
 by_cases e : c = 95
 case neg =>
  refine yG ?_
  exact ⟨DN (Kt AA), E.1⟩
 refine yG ?_
 exact ⟨DN (Bk AA), E.1⟩
theorem kZ (s : Bs) (w : World) :
    Calls prog 94 #[.string (bs s)] w (NP w (LZ s)) := by
 have E := Env.start w
 go_enter func94, ntmps94
 by_cases ak : ((s.length : Nat) : Int) < 1
 case pos =>
  refine yG ?_
  exact ⟨DN (yW AA), E.1⟩
 by_cases aj : ((s.length : Nat) : Int) > 12
 case pos =>
  refine yG ?_
  exact ⟨DN (Ha AA), E.1⟩
 refine yG ?_
 refine EF O (mY (s := (bs s)) O underlying9 O ?_)
 intro b1 w1 ac z1 d1 x1
 have l1 : w.heap.size ≤ b1 := by rw [ac]; exact E.1.size
 replace E := E.below d1
 replace E := E.it x1
 refine yG ?_
 refine wp_loop_ghost (fun mz a w' => ∃ (i : Nat) (g2 P g4 g5 a7 a6 a4 a3 a2 a1 a0 Y X U T S R Q N L J I H G F D C B z y v u t : Value), a = ⟨#[.string (bs s), undef, g2, P, g4, g5, .string (bs s), .int .i64 ↑s.length, .bool false, .bool false, .string (bs s), .int .i64 ↑s.length, .bool false, .bool false, .string (bs s), .pointer (some ⟨b1, 0, none⟩), a7, a6, a4, a3, a2, a1, a0, Y, X, U, T, S, R, Q, N, L, J, I, H, G, F, D, C, B, z, y, v, u, t], []⟩ ∧ Env w' [fIt b1 (bs s) i, fW w] ∧ mz = s.length - i ∧ (i ≤ s.length ∧ Gp s i)) (s.length) ⟨0, _, _, _, _, _, _, _, _, _, _, _, _, _, _, _, _, _, _, _, _, _, _, _, _, _, _, _, _, _, _, _, _, _, O, zE, O, ⟨Nat.zero_le _, Gm s⟩⟩ ?_
 rintro m2 _ w2 ⟨i, g2, P, g4, g5, a7, a6, a4, a3, a2, a1, a0, Y, X, U, T, S, R, Q, N, L, J, I, H, G, F, D, C, B, z, y, v, u, t, rfl, E, l, q⟩
 obtain ⟨q, p⟩ := q
 by_cases hi : i < s.length
 case neg =>
  refine yG ?_
  refine EF O (iE O O E.1 (by rw [EX]; exact hi) ?_)
  refine yG ?_
  exact ⟨DN (Mm AA AA p AA), E.2.1⟩
 obtain ⟨b, e⟩ : ∃ b, s[i]? = some b := ⟨_, List.getElem?_eq_getElem hi⟩
 by_cases o : b.toNat < 128
 case neg =>
  obtain ⟨c, n, hd, hc⟩ : ∃ c n, Utf8.decode (bs s) i = (c, n) ∧ 128 ≤ c := ⟨_, _, rfl, vE s e o⟩
  have a8 := E.1
  refine yG ?_
  replace E := WJ E
  refine EF O (dQ (pos := i) O O a8 hd (by rw [EX]; exact hi) ?_)
  intro ae ab a9
  replace E := (E.onl (tZ a8) zK ab).it a9
  by_cases k : i = 0
  case pos =>
   refine yG ?_
   exact ⟨DN (QB e (uP o)), E.2.1⟩
  refine yG ?_
  refine EF O (CA GL O (CU (Fu hc) (RQ ((c : Nat) : Int) _)) O E ?_)
  intro ad al E
  refine yG ?_
  exact ⟨DN (QB e (uP o)), E.2.1⟩
 have P := E.1
 refine yG ?_
 replace E := WJ E
 refine EF O (dQ (pos := i) O O P (zT s e o) (by rw [EX]; exact hi) ?_)
 intro w3 o3 y3
 replace E := (E.onl (tZ P) zK o3).it y3
 by_cases ai : 65 ≤ ((b.toNat : Nat) : Int)
 case neg =>
  by_cases aa : 97 ≤ ((b.toNat : Nat) : Int)
  case pos =>
   exfalso
   refine yG ?_
   omega
  have h : WG ((b.toNat : Nat) : Int) = false := yM AA
  by_cases k : i = 0
  case pos =>
   refine yG ?_
   exact ⟨DN (QB e (qW k h)), E.2.1⟩
  by_cases f : ZD ((b.toNat : Nat) : Int) = true
  case neg =>
   refine yG ?_
   refine EF O (CA GL O (CU (ET f) (RQ ((b.toNat : Nat) : Int) _)) O E ?_)
   intro af am E
   refine yG ?_
   exact ⟨DN (QB e (pY k h (ET f))), E.2.1⟩
  refine yG ?_
  refine EF O (CA GL O (CU f (RQ ((b.toNat : Nat) : Int) _)) O E ?_)
  intro w9 d9 E
  refine yG ?_
  exact ⟨_, (by rw [l]; omega), (i + 1), _, _, _, _, _, _, _, _, _, _, _, _, _, _, _, _, _, _, _, _, _, _, _, _, _, _, _, _, _, _, _, _, _, O, zE, O, ⟨by omega, UG p e (xL k f)⟩⟩
 by_cases ah : ((b.toNat : Nat) : Int) ≤ 90
 case pos =>
  have h : WG ((b.toNat : Nat) : Int) = true := Cd AA
  refine yG ?_
  exact ⟨_, (by rw [l]; omega), (i + 1), _, _, _, _, _, _, _, _, _, _, _, _, _, _, _, _, _, _, _, _, _, _, _, _, _, _, _, _, _, _, _, _, _, O, zE, O, ⟨by omega, UG p e (Mc h)⟩⟩
 by_cases aa : 97 ≤ ((b.toNat : Nat) : Int)
 case neg =>
  have h : WG ((b.toNat : Nat) : Int) = false := yM AA
  by_cases k : i = 0
  case pos =>
   refine yG ?_
   exact ⟨DN (QB e (qW k h)), E.2.1⟩
  by_cases f : ZD ((b.toNat : Nat) : Int) = true
  case neg =>
   refine yG ?_
   refine EF O (CA GL O (CU (ET f) (RQ ((b.toNat : Nat) : Int) _)) O E ?_)
   intro w8 d8 E
   refine yG ?_
   exact ⟨DN (QB e (pY k h (ET f))), E.2.1⟩
  refine yG ?_
  refine EF O (CA GL O (CU f (RQ ((b.toNat : Nat) : Int) _)) O E ?_)
  intro w7 d7 E
  refine yG ?_
  exact ⟨_, (by rw [l]; omega), (i + 1), _, _, _, _, _, _, _, _, _, _, _, _, _, _, _, _, _, _, _, _, _, _, _, _, _, _, _, _, _, _, _, _, _, O, zE, O, ⟨by omega, UG p e (xL k f)⟩⟩
 by_cases ag : ((b.toNat : Nat) : Int) ≤ 122
 case pos =>
  have h : WG ((b.toNat : Nat) : Int) = true := Cd AA
  refine yG ?_
  exact ⟨_, (by rw [l]; omega), (i + 1), _, _, _, _, _, _, _, _, _, _, _, _, _, _, _, _, _, _, _, _, _, _, _, _, _, _, _, _, _, _, _, _, _, O, zE, O, ⟨by omega, UG p e (Mc h)⟩⟩
 have h : WG ((b.toNat : Nat) : Int) = false := yM AA
 by_cases k : i = 0
 case pos =>
  refine yG ?_
  exact ⟨DN (QB e (qW k h)), E.2.1⟩
 by_cases f : ZD ((b.toNat : Nat) : Int) = true
 case neg =>
  refine yG ?_
  refine EF O (CA GL O (CU (ET f) (RQ ((b.toNat : Nat) : Int) _)) O E ?_)
  intro w6 d6 E
  refine yG ?_
  exact ⟨DN (QB e (pY k h (ET f))), E.2.1⟩
 refine yG ?_
 refine EF O (CA GL O (CU f (RQ ((b.toNat : Nat) : Int) _)) O E ?_)
 intro w5 d5 E
 refine yG ?_
 exact ⟨_, (by rw [l]; omega), (i + 1), _, _, _, _, _, _, _, _, _, _, _, _, _, _, _, _, _, _, _, _, _, _, _, _, _, _, _, _, _, _, _, _, _, O, zE, O, ⟨by omega, UG p e (xL k f)⟩⟩
def yZ (l : List Bs) (x : Bs) : Int := match l.idxOf? x with
  | some i => ((i : Nat) : Int)
  | none => -1
theorem oN {l : List Bs} {x : Bs} (h : x ∉ l) : yZ l x = -1 := by
  unfold yZ
  have : l.idxOf? x = none := by
    rw [List.idxOf?, List.findIdx?_eq_none_iff]
    intro y f
    simp only [beq_eq_false_iff_ne, ne_eq]
    exact fun e => h (e ▸ f)
  rw [this]
theorem Hd {l : List Bs} {x : Bs} (h : x ∈ l) : ∃ i, l.idxOf? x = some i ∧ i < l.length := by
  cases e : l.idxOf? x with
  | none =>
    rw [List.idxOf?, List.findIdx?_eq_none_iff] at e
    have := e x h
    simp at this
  | some i =>
    refine ⟨i, O, ?_⟩
    rw [List.idxOf?, List.findIdx?_eq_some_iff_getElem] at e
    exact e.1
def gG (l : List Bs) (i : Nat) : Prop := (∀ v ∈ l.take i, LZ v = true) ∧ (l.take i).Nodup
theorem kP (l : List Bs) : gG l 0 := ⟨fun v h => by simp at h, by simp⟩
theorem kQ {l : List Bs} {i : Nat} {x : Bs} (h : gG l i) (hx : l[i]? = some x) (hn : LZ x = true) (hd : x ∉ l.take i) : gG l (i + 1) := by
  unfold gG
  rw [MF hx]
  refine ⟨fun v k => ?_, ?_⟩
  · rcases List.mem_append.1 k with g | g
    · exact h.1 v g
    · simp at g; rw [g]; exact hn
  · rw [List.nodup_append]
    refine ⟨h.2, by simp, fun a o b f e => ?_⟩
    simp at f; subst e f; exact hd o
theorem uG {l : List Bs} {k : Nat} (h : l.length > k) : DF k l = false := by
  cases e : DF k l with
  | false => rfl
  | true => have := IY e; omega
theorem uF {l : List Bs} {k i : Nat} {x : Bs} (hx : l[i]? = some x) (hn : LZ x = false) : DF k l = false := by
  cases e : DF k l with
  | false => rfl
  | true => have := FV e x (List.mem_of_getElem? hx); rw [hn] at this; cases this
theorem Cg {l : List Bs} {k i : Nat} {x : Bs} (hx : l[i]? = some x) (hd : x ∈ l.take i) : DF k l = false := by
  cases e : DF k l with
  | false => rfl
  | true =>
    have p := gJ e
    obtain ⟨j, q, f⟩ := List.mem_take_iff_getElem.1 hd
    have h := (List.getElem?_eq_some_iff.1 hx).1
    have o := (List.pairwise_iff_getElem.1 p) j i AA h AA
    exact absurd (by rw [f]; exact ((List.getElem?_eq_some_iff.1 hx).2).symm) o
theorem Cf {l : List Bs} {k i : Nat} (h : gG l i) (hi : ¬ i < l.length) (hk : ¬ l.length > k) : DF k l = true := by
  unfold gG at h
  rw [KZ hi] at h
  unfold DF
  simp only [Bool.and_eq_true, decide_eq_true_eq, List.all_eq_true]
  exact ⟨⟨by omega, h.1⟩, h.2⟩
end Go.Proofs.YtmppigbbkjepiaaGreatDoor
namespace Go.Proofs.YtmppigbbkjepiaaGreatDoor
open Go.Proofs.Tryz
open Go.RowKit W
def SetM {α : Type} (mk : α → Value) (w : World) (b : Nat) (ks : List α) : Prop := ∃ es clock, w.heap[b]? = some (.map es clock) ∧ es.toList.map (fun e => (e.key, e.val)) = ks.map fun x => (mk x, Value.bool true)
theorem SetM.of {α : Type} {mk : α → Value} {w w' : World} {b : Nat} {ks : List α} (h : SetM mk w b ks) (hb : w'.heap[b]? = w.heap[b]?) : SetM mk w' b ks := by
  obtain ⟨k, c, f, e⟩ := h
  exact ⟨k, c, hb.trans f, e⟩
theorem SetM.lt {α : Type} {mk : α → Value} {w : World} {b : Nat} {ks : List α} (h : SetM mk w b ks) : b < w.heap.size := by
  obtain ⟨f, c, e, _⟩ := h
  exact (Array.getElem?_eq_some_iff.1 e).1
theorem SetM.noW {α : Type} {mk : α → Value} {w : World} {b : Nat} {ks : List α} (h : SetM mk w b ks) : wK w b := by
  obtain ⟨k, c, f, _⟩ := h
  intro o n e
  simp [World.cell?, f] at e
def fM {α : Type} (mk : α → Value) (b : Nat) (ks : List α) : SF := ⟨fun w => SetM mk w b ks, fun c => c ≠ b, fun h hb => h.of (hb.block b h.lt), fun h _ ho hb => h.of (hb.block b (Ne.symm ho))⟩
theorem okM {α : Type} {mk : α → Value} {b c : Nat} {ks : List α} (h : c ≠ b) : (fM mk b ks).ok c := h
theorem Env.m {α : Type} {mk : α → Value} {b : Nat} {ks : List α} {w : World} {L : List SF} (E : Env w L) (h : SetM mk w b ks) : Env w (fM mk b ks :: L) := ⟨h, E⟩
structure KeyT {α : Type} (P : Program) (T k e : TypeId) (d : TypeDesc) (mk : α → Value) (eq : α → α → Bool) : Prop where
  ht : P.underlying T = some (.map k e)
  hk : P.underlying k = some d
  hd : d = .string ∨ ∃ q, d = .int q
  he : ∀ w, (zeroValue e).run P w = .ok (.bool false) w
  eq : ∀ x y, Instr.sameNow d (mk x) (mk y) = some (eq x y)
theorem KeyT.check {α : Type} {P : Program} {T k e : TypeId} {d : TypeDesc} {mk : α → Value} {eq : α → α → Bool} (K : KeyT P T k e d mk eq) (b : Bool) (v : Value) (w : World) : (Instr.checkKey b 10000 k v).run P w = .ok () w := by
  unfold Instr.checkKey
  rw [Sem.run_bind, run_underlying K.hk w]
  rcases K.hd with rfl | ⟨q, rfl⟩ <;> simp
theorem uS {α : Type} {d : TypeDesc} {mk : α → Value} {eq : α → α → Bool} (heq : ∀ x y, Instr.sameNow d (mk x) (mk y) = some (eq x y)) {x : α} : ∀ (es : List MapEntry) (ks : List α) (i : Nat), es.map (fun e => (e.key, e.val)) = ks.map (fun y => (mk y, Value.bool true)) →
    (ks.any (eq x) = true → ∃ j, Instr.findNow d (mk x) es i = some (some (j, .bool true))) ∧ (ks.any (eq x) = false → Instr.findNow d (mk x) es i = some none)
  | [], [], i, _ => ⟨fun h => by simp at h, fun _ => rfl⟩
  | [], _ :: _, i, h => by simp at h
  | _ :: _, [], i, h => by simp at h
  | e :: es, y :: ks, i, h => by
    simp only [List.map_cons, List.cons.injEq, Prod.mk.injEq] at h
    obtain ⟨⟨h1, h2⟩, h3⟩ := h
    obtain ⟨g1, g2⟩ := uS heq (x := x) es ks (i + 1) h3
    simp only [Instr.findNow, h1, h2, heq, List.any_cons]
    cases hxy : eq x y with
    | true => exact ⟨fun _ => ⟨i, rfl⟩, fun h => by simp at h⟩
    | false => exact ⟨fun h => g1 (by simpa using h), fun h => g2 (by simpa using h)⟩
theorem nR {α : Type} {P : Program} {T k e : TypeId} {d : TypeDesc} {mk : α → Value} {eq : α → α → Bool} (K : KeyT P T k e d mk eq) {w : World} {es : List MapEntry} {ks : List α} {v : α} (h : es.map (fun e => (e.key, e.val)) = ks.map fun x => (mk x, Value.bool true)) :
    (ks.any (eq v) = true → ∃ j, (Instr.findKey k (mk v) es).run P w = .ok (some (j, .bool true)) w) ∧ (ks.any (eq v) = false → (Instr.findKey k (mk v) es).run P w = .ok none w) := by
  obtain ⟨p, o⟩ := uS K.eq (x := v) es ks 0 h
  constructor
  · intro f
    obtain ⟨j, l⟩ := p f
    exact ⟨j, by unfold Instr.findKey; rw [Sem.run_bind, run_underlying K.hk w]; simp [l]⟩
  · intro f
    unfold Instr.findKey
    rw [Sem.run_bind, run_underlying K.hk w]
    simp [o f]
theorem KA {α : Type} {P : Program} {T k e : TypeId} {d : TypeDesc} {mk : α → Value} {eq : α → α → Bool} (K : KeyT P T k e d mk eq) {ρ : Operand → Value} {o : Oper} {w : World} {x y : Operand} {b : Nat} {ks : List α} {v : α} {c : Bool}
    (ho : o.op = .lookup T x y false) (hx : ρ x = .map (some b)) (hy : ρ y = mk v) (h : SetM mk w b ks) (hc : ks.any (eq v) = c) : (execOp ρ o).run P w = .ok (.value (.bool c)) w := by
  obtain ⟨z, cl, q, p⟩ := h
  obtain ⟨u, t⟩ := nR K (w := w) (v := v) p
  have f : (getObj b).run P w = .ok (.map z cl) w := by simp [getObj, Sem.run, q]
  unfold execOp; rw [ho]
  cases c with
  | true =>
    obtain ⟨j, l⟩ := u hc
    simp [hx, hy, Instr.lookup, run_underlying K.ht, f, K.check, l]
  | false =>
    simp [hx, hy, Instr.lookup, run_underlying K.ht, f, K.check, t hc, K.he]
section
variable {o : Oper} {a : Act} {w : World} {K : Act → World → Prop} {Q : Exit → Act → World → Prop}
theorem VY {α : Type} {P : Program} {T : TypeId} (mk : α → Value) (ho : o.op = .makeMap T none)
    (h : ∀ b w', b = w.heap.size → w'.heap.size = w.heap.size + 1 → Below w.heap.size w w' → SetM mk w' b [] → K (a.put o.dst (.map (some b))) w') : o.wp P a w K Q := by
  refine DI (v := .map (some w.heap.size)) (w' := w.alloc (.map #[] 0)) ?_ (h _ _ O AH ((Below.refl _ _).alloc (Nat.le_refl _) _) ⟨#[], 0, heap_alloc_new w _, O⟩)
  unfold execOp; rw [ho]
  simp [run_makeMap]
theorem IN {α : Type} {P : Program} {T k e : TypeId} {d : TypeDesc} {mk : α → Value} {eq : α → α → Bool} (KT : KeyT P T k e d mk eq) {x y z : Operand} {b : Nat} {ks : List α} {v : α} (ho : o.op = .mapUpdate T x y z) (hx : a.eval x = .map (some b)) (hy : a.eval y = mk v) (hz : a.eval z = .bool true)
    (hs : SetM mk w b ks) (hc : ks.any (eq v) = false) (h : ∀ w', Onl b w w' → SetM mk w' b (ks ++ [v]) → K (a.put o.dst undef) w') : o.wp P a w K Q := by
  obtain ⟨p, cl, l, q⟩ := hs
  obtain ⟨_, C⟩ := nR KT (w := w) (v := v) q
  have f := (Array.getElem?_eq_some_iff.1 l).1
  have B : (getObj b).run P w = .ok (.map p cl) w := by simp [getObj, Sem.run, l]
  have t : (Instr.mapUpdate T (.map (some b)) (mk v) (.bool true)).run P w = .ok () { w with heap := w.heap.setIfInBounds b (.map (p.push { key := mk v, val := .bool true, born := cl }) (cl + 1)) } := by
    simp [Instr.mapUpdate, run_underlying KT.ht, B, KT.check, C hc, setObj, Sem.run, l]
  unfold Oper.wp execOp
  simp only [ho, hx, hy, hz, Sem.run_bind, t]
  refine h _ ⟨O, O, O, by simp, fun j u => by simp [Ne.symm u]⟩ ⟨p.push { key := mk v, val := .bool true, born := cl }, cl + 1, by simp [f], by simp [q]⟩
end
def mkS (x : Bs) : Value := .string (bs x)
def mkN (n : Nat) : Value := .int .i64 ↑n
theorem Xa (a b : Bs) : (bs a == bs b) = decide (a = b) := by
  rw [Bool.eq_iff_iff, MapKept.bytes_beq, decide_eq_true_eq]
  exact ⟨rO, fun h => by rw [h]⟩
theorem Xt : KeyT prog 150 9 4 .string mkS (fun x y => decide (x = y)) := ⟨underlying150, underlying9, .inl rfl, fun w => by kernel_rfl, fun x y => by unfold mkS Instr.sameNow; simp only [Xa]⟩
theorem mZ : KeyT prog 151 3 4 (.int .i64) mkN (fun x y => decide (x = y)) := ⟨underlying151, underlying3, .inr ⟨_, rfl⟩, fun w => by kernel_rfl, fun x y => by
  unfold mkN Instr.sameNow
  simp only [if_true, Option.some.injEq]
  rw [Bool.eq_iff_iff, beq_iff_eq, decide_eq_true_eq]; omega⟩
theorem Dm {α : Type} [DecidableEq α] {ks : List α} {x : α} (h : x ∈ ks) : (ks.any fun y => decide (x = y)) = true := List.any_eq_true.2 ⟨x, h, by simp⟩
theorem OQ {α : Type} [DecidableEq α] {ks : List α} {x : α} (h : x ∉ ks) : (ks.any fun y => decide (x = y)) = false := by
  rw [List.any_eq_false]
  intro y f e
  simp at e
  subst e; exact h f
end Go.Proofs.YtmppigbbkjepiaaGreatDoor
namespace Go.Proofs.YtmppigbbkjepiaaGreatDoor
open Go.Proofs.Tryz
open Go.RowKit W
theorem Az {m : List Nat} {i : Nat} (h : 0 < me m i) : ∀ k, i < k → 2 ^ i ≤ LQ m k
  | 0, hk => absurd hk (Nat.not_lt_zero _)
  | k + 1, hk => by
    unfold LQ
    by_cases e : i = k
    · subst e; rw [if_pos h]; exact Nat.right_le_or
    · have := Az h k AA
      split
      · exact Nat.le_trans this Nat.left_le_or
      · exact this
theorem nL {m : List Nat} {n : Nat} (h : within n m) : ∀ k, LQ m (n + k) = LQ m n
  | 0 => rfl
  | k + 1 => by
    rw [← Nat.add_assoc, ← wU (by rw [h (n + k) AA]; omega)]; exact nL h k
theorem sV {m : List Nat} {n : Nat} (hm : EK m) : LQ m 8 < 2 ^ n ↔ within n m := by
  constructor
  · intro h i k
    by_cases f : i < 8
    · rcases Nat.eq_zero_or_pos (me m i) with e | e
      · exact e
      · have o := Az e 8 f
        have l := Nat.pow_le_pow_right (n := 2) AE k
        omega
    · unfold me; simp [List.getD_eq_getElem?_getD, List.getElem?_eq_none (by rw [hm.1]; omega : m.length ≤ i)]
  · intro h
    by_cases f : n ≤ 8
    · have := nL h (8 - n)
      rw [show n + (8 - n) = 8 by omega] at this
      rw [this]; exact bG m n
    · exact Nat.lt_trans (bG m 8) (Nat.pow_lt_pow_right AE AA)
theorem or_lt {a b n : Nat} : a ||| b < 2 ^ n ↔ a < 2 ^ n ∧ b < 2 ^ n :=
  ⟨fun h => ⟨Nat.lt_of_le_of_lt Nat.left_le_or h, Nat.lt_of_le_of_lt Nat.right_le_or h⟩, fun h => Nat.or_lt_two_pow h.1 h.2⟩
theorem KC {p : List Tm} {n : Nat} (hp : EJ p) : EA p < 2 ^ n ↔ ∀ t ∈ p, within n t.2 := by
  have h : ∀ (p : List Tm) (s : Nat), (∀ t ∈ p, EK t.2) → (p.foldl (fun s t => s ||| LQ t.2 8) s < 2 ^ n ↔ s < 2 ^ n ∧ ∀ t ∈ p, within n t.2) := by
    intro p
    induction p with
    | nil => intro s _; simp
    | cons t p ih =>
      intro s l
      rw [List.foldl_cons, ih _ (fun u o => l u (by simp [o])), or_lt, sV (l t AH)]
      simp only [List.mem_cons, forall_eq_or_imp]
      constructor
      · rintro ⟨⟨k, f⟩, e⟩; exact ⟨k, f, e⟩
      · rintro ⟨k, f, e⟩; exact ⟨⟨k, f⟩, e⟩
  have := h p 0 (fun t q => (hp.1 t q).2)
  unfold EA
  rw [this]
  exact ⟨fun h => h.2, fun h => ⟨Nat.two_pow_pos n, h⟩⟩
structure Sy where
  vars : List Bs
  eqs : List (Nat × List Tm)
  neqs : List (Nat × List Tm)
  next : Nat
def MB (n : Nat) (p : List Tm) : Bool := decide (EA p < 2 ^ n) && decide (WK p ≤ 12)
def FT (l : List (Nat × List Tm)) : List Nat := l.map (·.1)
def JO (n next : Nat) (l : List (Nat × List Tm)) : Bool := decide (l.length ≤ 12) && (l.all fun e => decide (1 ≤ e.1) && decide (e.1 < next) && MB n e.2) && decide ((FT l).Pairwise (· < ·))
def JN (s : Sy) : Bool := DF 4 s.vars && decide (1 ≤ s.next) && decide (s.next ≤ 1000000) && JO s.vars.length s.next s.eqs && JO s.vars.length s.next s.neqs && decide (∀ i ∈ FT s.eqs, i ∉ FT s.neqs)
def SE (l : List (Nat × List Tm)) : Prop := ∀ e ∈ l, EJ e.2 ∧ (∀ t ∈ e.2, FitQ t.1 1000000) ∧ e.2.length ≤ 1000000
theorem bE {s : Sy} (h : DF 4 s.vars = false) : JN s = false := by simp [JN, h]
theorem sU {s : Sy} (h : s.next < 1 ∨ 1000000 < s.next) : JN s = false := by
  unfold JN
  rcases h with h | h
  · simp [show ¬ 1 ≤ s.next by omega]
  · simp [show ¬ s.next ≤ 1000000 by omega]
def kT (n next : Nat) (l : List (Nat × List Tm)) (i : Nat) : Prop := (∀ e ∈ l.take i, 1 ≤ e.1 ∧ e.1 < next ∧ MB n e.2 = true) ∧ (FT (l.take i)).Pairwise (· < ·)
theorem yP (n next : Nat) (l : List (Nat × List Tm)) : kT n next l 0 := ⟨fun e h => by simp at h, by simp [FT]⟩
theorem MX (l : List (Nat × List Tm)) (e : Nat × List Tm) : FT (l ++ [e]) = FT l ++ [e.1] := by simp [FT]
theorem Qk {l : List Nat} {a : Nat} (h : (l ++ [a]).Pairwise (· < ·)) : ∀ x ∈ l ++ [a], x ≤ a := by
  intro x e
  rcases List.mem_append.1 e with g | g
  · exact Nat.le_of_lt ((List.pairwise_append.1 h).2.2 x g a AH)
  · simp at g; omega
theorem kR {n next : Nat} {l : List (Nat × List Tm)} {i id : Nat} {p : List Tm} (h : kT n next l i) (hx : l[i]? = some (id, p)) (h1 : 1 ≤ id) (h2 : id < next) (h3 : MB n p = true) (hp : 0 < i → ∀ id' p', l[i - 1]? = some (id', p') → id' < id) : kT n next l (i + 1) := by
  unfold kT
  rw [MF hx]
  refine ⟨fun e t => ?_, ?_⟩
  · rcases List.mem_append.1 t with g | g
    · exact h.1 e g
    · simp at g; subst g; exact ⟨h1, h2, h3⟩
  · rw [MX, List.pairwise_append]
    refine ⟨h.2, by simp, fun x f y k => ?_⟩
    simp at k; subst k
    cases i with
    | zero => simp [FT] at f
    | succ i =>
      have u := (List.getElem?_eq_some_iff.1 hx).1
      obtain ⟨⟨id', p'⟩, o⟩ : ∃ e, l[i]? = some e := ⟨_, List.getElem?_eq_getElem AA⟩
      have v := hp AA id' p' (by simpa using o)
      have q := h.2
      rw [MF o, MX] at q f
      have := Qk q x f
      simp at this; omega
theorem Ri {n next : Nat} {l : List (Nat × List Tm)} (h : l.length > 12) : JO n next l = false := by simp [JO, show ¬ l.length ≤ 12 by omega]
theorem qV {n next : Nat} {l : List (Nat × List Tm)} {i id : Nat} {p : List Tm} (hx : l[i]? = some (id, p)) (h : id < 1 ∨ next ≤ id ∨ MB n p = false) : JO n next l = false := by
  cases e : JO n next l with
  | false => rfl
  | true =>
    unfold JO at e
    simp only [Bool.and_eq_true, decide_eq_true_eq, List.all_eq_true] at e
    have := e.1.2 _ (List.mem_of_getElem? hx)
    simp only at this
    rcases h with h | h | h
    · omega
    · omega
    · rw [h] at this; simp at this
theorem Ch {n next : Nat} {l : List (Nat × List Tm)} {i j id id' : Nat} {p p' : List Tm} (hx : l[i]? = some (id, p)) (hy : l[j]? = some (id', p')) (hij : j < i) (h : id ≤ id') : JO n next l = false := by
  cases e : JO n next l with
  | false => rfl
  | true =>
    unfold JO at e
    simp only [Bool.and_eq_true, decide_eq_true_eq] at e
    have y := e.2
    have u := (List.getElem?_eq_some_iff.1 hx)
    have t := (List.getElem?_eq_some_iff.1 hy)
    obtain ⟨q, o⟩ := u
    obtain ⟨k, f⟩ := t
    have v := (List.pairwise_iff_getElem.1 y) j i (by simpa [FT] using k) (by simpa [FT] using q) hij
    simp [FT, o, f] at v
    omega
theorem Rh {n next : Nat} {l : List (Nat × List Tm)} {i : Nat} (h : kT n next l i) (hi : ¬ i < l.length) (hl : ¬ l.length > 12) : JO n next l = true := by
  unfold kT at h
  rw [KZ hi] at h
  unfold JO
  simp only [Bool.and_eq_true, decide_eq_true_eq, List.all_eq_true]
  exact ⟨⟨by omega, fun e f => ⟨⟨(h.1 e f).1, (h.1 e f).2.1⟩, (h.1 e f).2.2⟩⟩, h.2⟩
def Ci (s : Sy) (j : Nat) (l : List (Nat × List Tm)) (base : List Nat) : Prop := (j = 0 ∧ l = s.eqs ∧ base = []) ∨ (j = 1 ∧ l = s.neqs ∧ base = FT s.eqs ∧ JO s.vars.length s.next s.eqs = true)
theorem UU {s : Sy} {j : Nat} {l : List (Nat × List Tm)} {base : List Nat} (h : Ci s j l base) (hl : JO s.vars.length s.next l = false) : JN s = false := by
  unfold JN
  rcases h with ⟨_, rfl, _⟩ | ⟨_, rfl, _⟩ <;> simp [hl]
theorem Rr {l : List (Nat × List Tm)} {id : Nat} (h : id ∈ FT l) : ∃ (j : Nat) (p : List Tm), l[j]? = some (id, p) := by
  unfold FT at h
  obtain ⟨⟨a, p⟩, f, rfl⟩ := List.mem_map.1 h
  obtain ⟨j, e⟩ := List.getElem?_of_mem f
  exact ⟨j, p, e⟩
theorem Pm {s : Sy} {j i id : Nat} {l : List (Nat × List Tm)} {base : List Nat} {p : List Tm} (h : Ci s j l base) (hx : l[i]? = some (id, p)) (hd : id ∈ base ++ FT (l.take i)) : JN s = false := by
  have own : id ∈ FT (l.take i) → JN s = false := by
    intro g
    obtain ⟨k, q, o⟩ := Rr g
    have e : k < i := by
      have := (List.getElem?_eq_some_iff.1 o).1
      simp at this; omega
    rw [List.getElem?_take, if_pos e] at o
    exact UU h (Ch hx o e (Nat.le_refl _))
  rcases List.mem_append.1 hd with g | g
  · rcases h with ⟨_, _, rfl⟩ | ⟨_, rfl, rfl, _⟩
    · cases g
    · unfold JN
      have : ¬ ∀ i ∈ FT s.eqs, i ∉ FT s.neqs := fun f => f id g (by unfold FT; exact List.mem_map.2 ⟨_, List.mem_of_getElem? hx, rfl⟩)
      simp [this]
  · exact own g
theorem Ay {s : Sy} (h1 : DF 4 s.vars = true) (h2 : ¬ s.next < 1) (h3 : ¬ s.next > 1000000) (h4 : JO s.vars.length s.next s.eqs = true) (h5 : JO s.vars.length s.next s.neqs = true) (h6 : ∀ i ∈ FT s.neqs, i ∉ FT s.eqs) : JN s = true := by
  unfold JN
  simp only [Bool.and_eq_true, decide_eq_true_eq]
  exact ⟨⟨⟨⟨⟨h1, by omega⟩, by omega⟩, h4⟩, h5⟩, fun i f e => h6 i e f⟩
theorem YX {S : Nat → Prop} {w : World} {ao : Option Addr} {n cap : Nat} {l : List Bs} (h : IsR elS S w (.slice ao n cap) l) (hl : l ≠ []) : n = l.length ∧ n ≤ cap ∧ cap ≤ maxLen ∧ ∃ b off, ao = some ⟨b, off, none⟩ ∧ S b ∧ ∀ j x, l[j]? = some x → w.cell? ⟨b, off + j, none⟩ = some (.string (bs x)) := by
  obtain ⟨_, _, o, q, p⟩ := h.shp
  cases o
  refine ⟨O, q, p, ?_⟩
  cases l with
  | nil => exact absurd rfl hl
  | cons x0 r =>
    obtain ⟨b, off, _, e1, e2, _, _⟩ := h.at (i := 0) (x := x0) rfl
    refine ⟨b, off, e1, e2, fun j x k => ?_⟩
    obtain ⟨t, f, cs, e3, _, e4, e5⟩ := h.at k
    rw [e1] at e3
    cases e3
    have e : cs = [.string (bs x)] := e5
    subst e
    have := e4 0 _ rfl
    rw [show elS.sz = 1 from rfl, Nat.mul_one] at this
    exact this
theorem Rq (l : List Bs) (x : Bs) : Lib.idxOfS (l.map bs) (bs x) = yZ l x := by
  by_cases h : x ∈ l
  · obtain ⟨i, p, k⟩ := Hd h
    unfold yZ
    rw [p]
    rw [List.idxOf?, List.findIdx?_eq_some_iff_getElem] at p
    obtain ⟨_, v, u⟩ := p
    have q : l[i] = x := by simpa using v
    have := Lib.idxOfS_hit (l.map bs) (l.map bs).length i (bs x) (by simpa using k) (Nat.le_refl _) (by simp [List.getD_eq_getElem?_getD, k, q]) (fun j o => by
      have f : j < l.length := by omega
      have t : ¬ l[j] = x := by simpa using u j o
      simp only [List.getD_eq_getElem?_getD, List.getElem?_map, List.getElem?_eq_getElem f, Option.map_some, Option.getD_some]
      exact fun e => t (rO e))
    rw [List.take_length] at this
    exact this
  · rw [oN h]
    have := Lib.idxOfS_miss (l.map bs) (l.map bs).length (bs x) (fun j o => by
      have f : j < l.length := by simpa using o
      simp only [List.getD_eq_getElem?_getD, List.getElem?_map, List.getElem?_eq_getElem f, Option.map_some, Option.getD_some]
      exact fun e => h (rO e ▸ List.getElem_mem f))
    rw [List.take_length] at this
    exact this
theorem uW {w : World} {b off : Nat} {l : List Bs} (h : ∀ (j : Nat) x, l[j]? = some x → w.cell? ⟨b, off + j, none⟩ = some (.string (bs x))) : ∀ j, j < (l.map bs).length → w.cell? ⟨b, off + j, none⟩ = some (.string ((l.map bs).getD j ByteArray.empty)) := by
  intro j f
  have e : j < l.length := by simpa using f
  rw [h j l[j] (List.getElem?_eq_getElem e)]
  simp [List.getD_eq_getElem?_getD, e]
theorem Ec (v : Value) (l : List Bs) (x : Bs) (w : World) (h : IsR elS (DD w.heap.size) w v l) : Calls prog 125 #[v, .string (bs x)] w (dK w (yZ l x)) := by
  obtain ⟨u, f, rfl, z, t⟩ := h.shp
  by_cases o : l = []
  · subst o
    refine (Tryz.slices_Index_string_empty u f (bs x) w).mono ?_
    rintro e p ⟨rfl, rfl⟩
    exact ⟨by rw [oN AH]; rfl, Below.refl _ _⟩
  · obtain ⟨_, _, _, b, k, rfl, _, q⟩ := YX h o
    have y : (l.map bs).length = l.length := List.length_map _
    have := Tryz.slices_Index_string b k l.length f (l.map bs) (bs x) w AA (by unfold maxLen at t; omega) (uW q)
    refine this.mono ?_
    rintro e p ⟨rfl, rfl⟩
    refine ⟨?_, Below.refl _ _⟩
    rw [List.take_of_length_le AA, Rq]
theorem mA (v : Value) (l : List Bs) (x : Bs) (w : World) (h : IsR elS (DD w.heap.size) w v l) : Calls prog 79 #[v, .string (bs x)] w (NP w (decide (x ∈ l))) := by
  obtain ⟨u, f, rfl, B, t⟩ := h.shp
  by_cases o : l = []
  · subst o
    refine (Tryz.slices_Contains_string_empty u f (bs x) w).mono ?_
    rintro e p ⟨rfl, rfl⟩
    exact ⟨by simp, Below.refl _ _⟩
  · obtain ⟨_, _, _, b, k, rfl, _, q⟩ := YX h o
    have z : (l.map bs).length = l.length := List.length_map _
    have := Tryz.slices_Contains_string b k l.length f (l.map bs) (bs x) w AA (by unfold maxLen at t; omega) (uW q)
    refine this.mono ?_
    rintro e p ⟨rfl, rfl⟩
    refine ⟨?_, Below.refl _ _⟩
    rw [List.take_of_length_le AA]
    congr 2
    rw [Bool.eq_iff_iff, Lib.containsS_iff, decide_eq_true_eq, List.mem_map]
    exact ⟨fun ⟨y, hy, e⟩ => rO e ▸ hy, fun h => ⟨x, h, rfl⟩⟩
end Go.Proofs.YtmppigbbkjepiaaGreatDoor
namespace Go.Proofs.YtmppigbbkjepiaaGreatDoor
open Go.Proofs.Tryz
open Go.RowKit W
section
variable {P : Program} {ρ : Operand → Value} {o : Oper} {w : World} {t t' : TypeId} {x y : Operand}
theorem OC {k yk : IntKind} {m n : Nat} {c : Int} (ho : o.op = .binOp .shr t x y t') (hx : ρ x = .int k ((m : Nat) : Int)) (hy : ρ y = .int yk ((n : Nat) : Int)) (hc : ((m / 2 ^ (min n k.bits) : Nat) : Int) = c) : (execOp ρ o).run P w = .ok (.value (.int k c)) w := by
  subst hc
  unfold execOp; rw [ho]
  have e : ¬ ((n : Int) < 0) := by omega
  simp only [hx, hy, eqGuard_at_int, binOp_shr, Op.shift, if_neg e, Int.toNat_natCast]
  simp only [Sem.run_bind, Sem.run_pure, Result.andThen_ok]
  congr 3
  rw [Int.fdiv_eq_ediv_of_nonneg _ (by exact Int.pow_nonneg AE)]
  simp
end
theorem WT {m n b : Nat} (hm : m < 2 ^ b) : (((m / 2 ^ (min n b) : Nat) : Int) == 0) = decide (m < 2 ^ n) := by
  rw [Bool.eq_iff_iff, beq_iff_eq, decide_eq_true_eq]
  have f := Nat.two_pow_pos (min n b)
  have h : m / 2 ^ (min n b) = 0 ↔ m < 2 ^ (min n b) := by rw [Nat.div_eq_zero_iff]; omega
  have k : m < 2 ^ (min n b) ↔ m < 2 ^ n := by
    by_cases e : n ≤ b
    · rw [Nat.min_eq_left e]
    · rw [Nat.min_eq_right AA]
      have := Nat.pow_lt_pow_right (a := 2) AE (show b < n by omega)
      omega
  omega
theorem Pu {ρ : Operand → Value} {o : Oper} {w : World} {x y : Operand} {u v : Option Addr} {m n c d : Nat} (ho : o.op = .buildSlice 152 2 #[(0, x), (1, y)]) (hx : ρ x = .slice u m c) (hy : ρ y = .slice v n d) :
    (execOp ρ o).run prog w = .ok (.value (.slice (some ⟨w.heap.size, 0, none⟩) 2 2)) (w.alloc (.cells #[.slice u m c, .slice v n d] 46)) := by
  unfold execOp; rw [ho]
  simp [go_sem, Instr.buildSlice, hx, hy]
theorem wC {o : Oper} {a : Act} {w : World} {K : Act → World → Prop} {Q : Exit → Act → World → Prop} {x y : Operand} {u v : Option Addr} {m n c d : Nat} (ho : o.op = .buildSlice 152 2 #[(0, x), (1, y)]) (hx : a.eval x = .slice u m c) (hy : a.eval y = .slice v n d)
    (h : ∀ b w', b = w.heap.size → w'.heap.size = w.heap.size + 1 → Below w.heap.size w w' → Bx w' b 46 [.slice u m c, .slice v n d] → K (a.put o.dst (.slice (some ⟨b, 0, none⟩) 2 2)) w') : o.wp prog a w K Q :=
  DI (Pu ho hx hy) (h _ _ rfl AH ((Below.refl _ _).alloc (Nat.le_refl _) _) (HO w _ [.slice u m c, .slice v n d]))
end Go.Proofs.YtmppigbbkjepiaaGreatDoor
namespace Go.Proofs.YtmppigbbkjepiaaGreatDoor
open Go.Proofs.Tryz
open Go.RowKit W
theorem Mv {n : Nat} {p : List Tm} (h1 : EA p < 2 ^ n) (h2 : WK p ≤ 12) : MB n p = true := by unfold MB; rw [decide_eq_true h1, decide_eq_true h2]; rfl
theorem Cp {n : Nat} {p : List Tm} (h : ¬ EA p < 2 ^ n ∨ ¬ WK p ≤ 12) : MB n p = false := by
  unfold MB
  rcases h with h | h
  · rw [decide_eq_false h]; rfl
  · rw [decide_eq_false h, Bool.and_false]
theorem jA (p : List Tm) : IntKind.i64.wrap ((EA p : Nat) : Int) = ((EA p : Nat) : Int) := by have := WP p; exact LM rfl AA
theorem jG (p : List Tm) : EA p < 2 ^ IntKind.i64.bits := Nat.lt_of_lt_of_le (WP p) AE
theorem Aq (p : List Tm) : EA p < 2 ^ IntKind.u8.bits := WP p
theorem Nm {p : Prop} [Decidable p] {b : Bool} (h : b = decide p) (hp : p) : b = true := by rw [h, decide_eq_true hp]
theorem Uh {p : Prop} [Decidable p] {b : Bool} (h : b = decide p) (hp : ¬ p) : b = false := by rw [h, decide_eq_false hp]
set_option maxRecDepth 100000 in
set_option maxHeartbeats 8000000 in
theorem rD (vp : Value) (p : List Tm) (n : Nat) (w : World) (hRp : IsR JP (DD w.heap.size) w vp p) (hp : EJ p) (hF : ∀ t ∈ p, FitQ t.1 1000000) (hL : p.length ≤ 1000000) :
    Calls prog 95 #[vp, .int .i64 ↑n] w (NP w (MB n p)) := by
 have E := Env.start w
 obtain ⟨o, h, rfl, l, k⟩ := hRp.shp
 replace E := E.r hRp (DK _)
 go_enter func95, ntmps95
 by_cases e : EA p < 2 ^ n
 case neg =>
  refine yG ?_
  refine EF O (CA HJ O (YD _ p _ (BW E.1) hp hF hL) O E ?_)
  intro u H E
  refine yG ?_
  refine EF O (BZ IK O (dO _ p _ (BW E.1) hL) O E ?_)
  intro q G E
  refine yG ?_
  refine V (v := .int .i64 ↑(EA p)) Z O (EO O O O underlying3 (jA p)) ?_
  refine yG ?_
  refine V (v := .int .i64 ((EA p / 2 ^ (min n IntKind.i64.bits) : Nat) : Int)) Z O (OC (m := EA p) (n := n) O O O O) ?_
  refine V Z O (EW (c := false) O O O (Uh (WT (jG p)) e)) ?_
  refine yG ?_
  exact ⟨DN (Cp (.inl e)), E.2.1⟩
 by_cases f : WK p ≤ 12
 case pos =>
  refine yG ?_
  refine EF O (CA HJ O (YD _ p _ (BW E.1) hp hF hL) O E ?_)
  intro F Q E
  refine yG ?_
  refine EF O (BZ IK O (dO _ p _ (BW E.1) hL) O E ?_)
  intro D P E
  refine yG ?_
  refine V (v := .int .i64 ↑(EA p)) Z O (EO O O O underlying3 (jA p)) ?_
  refine yG ?_
  refine V (v := .int .i64 ((EA p / 2 ^ (min n IntKind.i64.bits) : Nat) : Int)) Z O (OC (m := EA p) (n := n) O O O O) ?_
  refine V Z O (EW (c := true) O O O (Nm (WT (jG p)) e)) ?_
  refine yG ?_
  refine EF O (BZ EL O (NW _ p _ (BW E.1) hL) O E ?_)
  intro C N E
  refine yG ?_
  exact ⟨DN (Mv e f), E.2.1⟩
 refine yG ?_
 refine EF O (CA HJ O (YD _ p _ (BW E.1) hp hF hL) O E ?_)
 intro B L E
 refine yG ?_
 refine EF O (BZ IK O (dO _ p _ (BW E.1) hL) O E ?_)
 intro z J E
 refine yG ?_
 refine V (v := .int .i64 ↑(EA p)) Z O (EO O O O underlying3 (jA p)) ?_
 refine yG ?_
 refine V (v := .int .i64 ((EA p / 2 ^ (min n IntKind.i64.bits) : Nat) : Int)) Z O (OC (m := EA p) (n := n) O O O O) ?_
 refine V Z O (EW (c := true) O O O (Nm (WT (jG p)) e)) ?_
 refine yG ?_
 refine EF O (BZ EL O (NW _ p _ (BW E.1) hL) O E ?_)
 intro y I E
 refine yG ?_
 exact ⟨DN (Cp (.inr f)), E.2.1⟩
end Go.Proofs.YtmppigbbkjepiaaGreatDoor
