/- Names and lists of names: package system's isName, the reference's. (Printed by g_names.py.) Sets: maps from names or numbers to true. -/
import Derived.Test.YtmppigbbkjepiaaGreatDoorPoly
import Derived.Carry
import Derived.MapKept
set_option maxHeartbeats 8000000
set_option maxRecDepth 100000
namespace Go.Proofs.YtmppigbbkjepiaaGreatDoor
open Go.Proofs.Tryz
open Go.RowKit W
theorem CP {b : Bool} {c : Bool} (h : c = b) : Ending.returned (.bool b) = .returned (.bool c) := by rw [h]
theorem QP (c : Int) (w : World) :
    Calls prog 141 #[.int .i32 c] w (JO w (XV c)) := by
 have E := Env.start w
 go_enter func141, ntmps141
 by_cases h : 48 ≤ c
 case neg =>
  by_cases e : c = 95
  case pos =>
   exfalso
   refine yG ?_
   omega
  refine yG ?_
  exact ⟨CP (nW Z), E.1⟩
 by_cases f : c ≤ 57
 case pos =>
  refine yG ?_
  exact ⟨CP (fT Z), E.1⟩
 by_cases e : c = 95
 case neg =>
  refine yG ?_
  exact ⟨CP (nW Z), E.1⟩
 refine yG ?_
 exact ⟨CP (fT Z), E.1⟩
theorem QO (c : Nat) (w : World) :
    Calls prog 118 #[.int .u8 ↑c] w (JO w (SH ((c : Nat) : Int))) := by
 have E := Env.start w
 go_enter func118, ntmps118
 by_cases k : ((c : Nat) : Int) ≥ 65
 case neg =>
  by_cases e : ((c : Nat) : Int) ≥ 97
  case pos =>
   exfalso
   refine yG ?_
   omega
  refine yG ?_
  exact ⟨CP (cH Z), E.1⟩
 by_cases h : ((c : Nat) : Int) ≤ 90
 case pos =>
  refine yG ?_
  exact ⟨CP (gC Z), E.1⟩
 by_cases e : ((c : Nat) : Int) ≥ 97
 case neg =>
  refine yG ?_
  exact ⟨CP (cH Z), E.1⟩
 by_cases f : ((c : Nat) : Int) ≤ 122
 case neg =>
  refine yG ?_
  exact ⟨CP (cH Z), E.1⟩
 refine yG ?_
 exact ⟨CP (gC Z), E.1⟩
theorem jD (s : Bs) (w : World) :
    Calls prog 94 #[.string (bs s)] w (JO w (QQ s)) := by
 have E := Env.start w
 go_enter func94, ntmps94
 by_cases ak : ((s.length : Nat) : Int) < 1
 case pos =>
  refine yG ?_
  exact ⟨CP (jC Z), E.1⟩
 by_cases aj : ((s.length : Nat) : Int) > 12
 case pos =>
  refine yG ?_
  exact ⟨CP (mH Z), E.1⟩
 refine yG ?_
 refine EF O (lE (s := (bs s)) O underlying9 O ?_)
 intro b1 w1 ab z1 d1 x1
 have l1 : w.heap.size ≤ b1 := by rw [ab]; exact E.1.size
 replace E := E.below d1
 clear ab z1 d1
 replace E := E.it x1
 clear x1
 refine yG ?_
 refine wp_loop_ghost (fun mz a w' => ∃ (i : Nat) (g2 t g4 g5 aa a9 a8 a7 a6 a5 a4 a3 a2 a1 a0 Y X U T S R Q P N L J H G F D C B z : Value), a = ⟨#[.string (bs s), undef, g2, t, g4, g5, .string (bs s), .int .i64 ↑s.length, .bool false, .bool false, .string (bs s), .int .i64 ↑s.length, .bool false, .bool false, .string (bs s), .pointer (some ⟨b1, 0, none⟩), aa, a9, a8, a7, a6, a5, a4, a3, a2, a1, a0, Y, X, U, T, S, R, Q, P, N, L, J, H, G, F, D, C, B, z], []⟩ ∧ Env w' [fIt b1 (bs s) i, fW w] ∧ mz = s.length - i ∧ (i ≤ s.length ∧ vN s i)) (s.length) ⟨0, _, _, _, _, _, _, _, _, _, _, _, _, _, _, _, _, _, _, _, _, _, _, _, _, _, _, _, _, _, _, _, _, _, O, zE, O, ⟨Nat.zero_le _, mC s⟩⟩ ?_
 rintro m2 _ w2 ⟨i, g2, t, g4, g5, aa, a9, a8, a7, a6, a5, a4, a3, a2, a1, a0, Y, X, U, T, S, R, Q, P, N, L, J, H, G, F, D, C, B, z, rfl, E, l, y⟩
 obtain ⟨y, q⟩ := y
 by_cases hi : i < s.length
 case neg =>
  refine yG ?_
  refine EF O (fJ O O E.1 (by rw [FH]; exact hi) ?_)
  refine yG ?_
  exact ⟨CP (rZ Z Z q Z), E.2.1⟩
 obtain ⟨b, e⟩ : ∃ b, s[i]? = some b := ⟨_, List.getElem?_eq_getElem hi⟩
 by_cases o : b.toNat < 128
 case neg =>
  obtain ⟨c, n, hd, hc⟩ : ∃ c n, Utf8.decode (bs s) i = (c, n) ∧ 128 ≤ c := ⟨_, _, rfl, sX s e o⟩
  have p := E.1
  refine yG ?_
  replace E := Sp E
  refine EF O (bT (pos := i) O O p hd (by rw [FH]; exact hi) ?_)
  intro ae v u
  replace E := (E.onl (rQ p) zK v).it u
  clear p v u
  by_cases k : i = 0
  case pos =>
   refine yG ?_
   exact ⟨CP (LA e (sH o)), E.2.1⟩
  refine yG ?_
  refine EF O (BY GC O (CQ (Cg hc) (QP ((c : Nat) : Int) _)) O E ?_)
  clear E
  intro ad _ E
  refine yG ?_
  exact ⟨CP (LA e (sH o)), E.2.1⟩
 have t := E.1
 refine yG ?_
 replace E := Sp E
 refine EF O (bT (pos := i) O O t (wH s e o) (by rw [FH]; exact hi) ?_)
 intro w3 o3 y3
 replace E := (E.onl (rQ t) zK o3).it y3
 clear t o3 y3
 by_cases ai : 65 ≤ ((b.toNat : Nat) : Int)
 case neg =>
  by_cases ac : 97 ≤ ((b.toNat : Nat) : Int)
  case pos =>
   exfalso
   refine yG ?_
   omega
  have h : SH ((b.toNat : Nat) : Int) = false := cH Z
  by_cases k : i = 0
  case pos =>
   refine yG ?_
   exact ⟨CP (LA e (gG k h)), E.2.1⟩
  by_cases f : XV ((b.toNat : Nat) : Int) = true
  case neg =>
   refine yG ?_
   refine EF O (BY GC O (CQ (DF f) (QP ((b.toNat : Nat) : Int) _)) O E ?_)
   clear E
   intro af _ E
   refine yG ?_
   exact ⟨CP (LA e (aF k h (DF f))), E.2.1⟩
  refine yG ?_
  refine EF O (BY GC O (CQ f (QP ((b.toNat : Nat) : Int) _)) O E ?_)
  clear E
  intro w9 _ E
  refine yG ?_
  exact ⟨_, (by rw [l]; omega), (i + 1), _, _, _, _, _, _, _, _, _, _, _, _, _, _, _, _, _, _, _, _, _, _, _, _, _, _, _, _, _, _, _, _, _, O, zE, O, ⟨by omega, LN q e (iH k f)⟩⟩
 by_cases ah : ((b.toNat : Nat) : Int) ≤ 90
 case pos =>
  have h : SH ((b.toNat : Nat) : Int) = true := gC Z
  refine yG ?_
  exact ⟨_, (by rw [l]; omega), (i + 1), _, _, _, _, _, _, _, _, _, _, _, _, _, _, _, _, _, _, _, _, _, _, _, _, _, _, _, _, _, _, _, _, _, O, zE, O, ⟨by omega, LN q e (oQ h)⟩⟩
 by_cases ac : 97 ≤ ((b.toNat : Nat) : Int)
 case neg =>
  have h : SH ((b.toNat : Nat) : Int) = false := cH Z
  by_cases k : i = 0
  case pos =>
   refine yG ?_
   exact ⟨CP (LA e (gG k h)), E.2.1⟩
  by_cases f : XV ((b.toNat : Nat) : Int) = true
  case neg =>
   refine yG ?_
   refine EF O (BY GC O (CQ (DF f) (QP ((b.toNat : Nat) : Int) _)) O E ?_)
   clear E
   intro w8 _ E
   refine yG ?_
   exact ⟨CP (LA e (aF k h (DF f))), E.2.1⟩
  refine yG ?_
  refine EF O (BY GC O (CQ f (QP ((b.toNat : Nat) : Int) _)) O E ?_)
  clear E
  intro w7 _ E
  refine yG ?_
  exact ⟨_, (by rw [l]; omega), (i + 1), _, _, _, _, _, _, _, _, _, _, _, _, _, _, _, _, _, _, _, _, _, _, _, _, _, _, _, _, _, _, _, _, _, O, zE, O, ⟨by omega, LN q e (iH k f)⟩⟩
 by_cases ag : ((b.toNat : Nat) : Int) ≤ 122
 case pos =>
  have h : SH ((b.toNat : Nat) : Int) = true := gC Z
  refine yG ?_
  exact ⟨_, (by rw [l]; omega), (i + 1), _, _, _, _, _, _, _, _, _, _, _, _, _, _, _, _, _, _, _, _, _, _, _, _, _, _, _, _, _, _, _, _, _, O, zE, O, ⟨by omega, LN q e (oQ h)⟩⟩
 have h : SH ((b.toNat : Nat) : Int) = false := cH Z
 by_cases k : i = 0
 case pos =>
  refine yG ?_
  exact ⟨CP (LA e (gG k h)), E.2.1⟩
 by_cases f : XV ((b.toNat : Nat) : Int) = true
 case neg =>
  refine yG ?_
  refine EF O (BY GC O (CQ (DF f) (QP ((b.toNat : Nat) : Int) _)) O E ?_)
  clear E
  intro w6 _ E
  refine yG ?_
  exact ⟨CP (LA e (aF k h (DF f))), E.2.1⟩
 refine yG ?_
 refine EF O (BY GC O (CQ f (QP ((b.toNat : Nat) : Int) _)) O E ?_)
 clear E
 intro w5 _ E
 refine yG ?_
 exact ⟨_, (by rw [l]; omega), (i + 1), _, _, _, _, _, _, _, _, _, _, _, _, _, _, _, _, _, _, _, _, _, _, _, _, _, _, _, _, _, _, _, _, _, O, zE, O, ⟨by omega, LN q e (iH k f)⟩⟩
theorem Au (s : Bs) (w : World) :
    Calls prog 75 #[.string (bs s)] w (JO w (QQ s)) := by
 have E := Env.start w
 go_enter func75, ntmps75
 by_cases a7 : ((s.length : Nat) : Int) < 1
 case pos =>
  refine yG ?_
  exact ⟨CP (jC Z), E.1⟩
 by_cases a6 : ((s.length : Nat) : Int) > 12
 case pos =>
  refine yG ?_
  exact ⟨CP (mH Z), E.1⟩
 obtain ⟨b0, k⟩ : ∃ b, s[0]? = some b := ⟨_, List.getElem?_eq_getElem (show 0 < s.length by omega)⟩
 by_cases e : SH ((b0.toNat : Nat) : Int) = true
 case neg =>
  refine yG ?_
  refine EF O (BY GF O (CQ (DF e) (QO b0.toNat _)) O E ?_)
  clear E
  intro w8 _ E
  refine yG ?_
  exact ⟨CP (LA k (gG rfl (DF e))), E.1⟩
 refine yG ?_
 refine EF O (BY GF O (CQ e (QO b0.toNat _)) O E ?_)
 clear E
 intro w1 _ E
 refine yG ?_
 refine wp_loop_ghost (fun mz a w' => ∃ (i : Nat) (g2 a5 a4 a3 a2 a1 a0 Y X U T S R Q P N L J H G F D C B z y v u t q p : Value), a = ⟨#[.string (bs s), undef, g2, .int .i64 ↑i, .string (bs s), .int .i64 ↑s.length, .bool false, .bool false, .string (bs s), .int .i64 ↑s.length, .bool false, .bool false, .bool false, .string (bs s), .int .u8 ↑b0.toNat, .bool true, .bool false, .bool false, a5, a4, a3, a2, a1, a0, Y, X, U, T, S, R, Q, P, N, L, J, H, G, F, D, C, B, z, y, v, u, t, q, p], []⟩ ∧ Env w' [fW w] ∧ mz = s.length - i ∧ (i ≤ s.length ∧ 1 ≤ i ∧ vN s i)) ((s.length - 1)) ⟨1, _, _, _, _, _, _, _, _, _, _, _, _, _, _, _, _, _, _, _, _, _, _, _, _, _, _, _, _, _, _, _, O, zE, O, ⟨by omega, by decide, LN (mC s) k (oQ e)⟩⟩ ?_
 rintro m2 _ w2 ⟨i, g2, a5, a4, a3, a2, a1, a0, Y, X, U, T, S, R, Q, P, N, L, J, H, G, F, D, C, B, z, y, v, u, t, q, p, rfl, E, h, o⟩
 obtain ⟨o, hJ⟩ := o
 by_cases hi : i < s.length
 case neg =>
  refine yG ?_
  exact ⟨CP (rZ Z Z hJ.2 Z), E.1⟩
 obtain ⟨b, l⟩ : ∃ b, s[i]? = some b := ⟨_, List.getElem?_eq_getElem (show i < s.length by omega)⟩
 by_cases f : SH ((b.toNat : Nat) : Int) = true
 case pos =>
  refine yG ?_
  refine EF O (BY GF O (CQ f (QO b.toNat _)) O E ?_)
  clear E
  intro w3 _ E
  refine yG ?_
  exact ⟨_, (by rw [h]; omega), (i + 1), _, _, _, _, _, _, _, _, _, _, _, _, _, _, _, _, _, _, _, _, _, _, _, _, _, _, _, _, _, _, _, O, zE, O, ⟨by omega, by omega, LN hJ.2 l (oQ f)⟩⟩
 by_cases h1 : ((b.toNat : Nat) : Int) ≥ 48
 case neg =>
  by_cases h3 : ((b.toNat : Nat) : Int) ≠ 95
  case neg =>
   exfalso
   omega
  refine yG ?_
  refine EF O (BY GF O (CQ (DF f) (QO b.toNat _)) O E ?_)
  clear E
  intro w7 _ E
  refine yG ?_
  exact ⟨CP (LA l (aF Z (DF f) (nW Z))), E.1⟩
 by_cases h2 : ((b.toNat : Nat) : Int) ≤ 57
 case pos =>
  refine yG ?_
  refine EF O (BY GF O (CQ (DF f) (QO b.toNat _)) O E ?_)
  clear E
  intro w4 _ E
  refine yG ?_
  exact ⟨_, (by rw [h]; omega), (i + 1), _, _, _, _, _, _, _, _, _, _, _, _, _, _, _, _, _, _, _, _, _, _, _, _, _, _, _, _, _, _, _, O, zE, O, ⟨by omega, by omega, LN hJ.2 l (iH Z (fT Z))⟩⟩
 by_cases h3 : ((b.toNat : Nat) : Int) ≠ 95
 case pos =>
  refine yG ?_
  refine EF O (BY GF O (CQ (DF f) (QO b.toNat _)) O E ?_)
  clear E
  intro w5 _ E
  refine yG ?_
  exact ⟨CP (LA l (aF Z (DF f) (nW Z))), E.1⟩
 refine yG ?_
 refine EF O (BY GF O (CQ (DF f) (QO b.toNat _)) O E ?_)
 clear E
 intro w6 _ E
 refine yG ?_
 exact ⟨_, (by rw [h]; omega), (i + 1), _, _, _, _, _, _, _, _, _, _, _, _, _, _, _, _, _, _, _, _, _, _, _, _, _, _, _, _, _, _, _, O, zE, O, ⟨by omega, by omega, LN hJ.2 l (iH Z (fT Z))⟩⟩
def vY (l : List Bs) (x : Bs) : Int := match l.idxOf? x with
  | some i => ((i : Nat) : Int)
  | none => -1
theorem mL {l : List Bs} {x : Bs} (h : x ∉ l) : vY l x = -1 := by
  unfold vY
  have : l.idxOf? x = none := by
    rw [List.idxOf?, List.findIdx?_eq_none_iff]
    intro y f
    simp only [beq_eq_false_iff_ne, ne_eq]
    exact fun e => h (e ▸ f)
  rw [this]
theorem Cu {l : List Bs} {x : Bs} (h : x ∈ l) : ∃ i, l.idxOf? x = some i ∧ i < l.length := by
  cases e : l.idxOf? x with
  | none =>
    rw [List.idxOf?, List.findIdx?_eq_none_iff] at e
    have := e x h
    simp at this
  | some i =>
    refine ⟨i, O, ?_⟩
    rw [List.idxOf?, List.findIdx?_eq_some_iff_getElem] at e
    exact e.1
theorem kP {l : List Bs} {x y : Bs} {i : Nat} (h : y ∉ l.take i) (hx : l[i]? = some x) (hne : ¬ x = y) : y ∉ l.take (i + 1) := by
  rw [JR hx]
  intro g
  rcases List.mem_append.1 g with g | g
  · exact h g
  · simp at g; exact hne g.symm
def aT (l : List Bs) (i : Nat) : Prop := (∀ v ∈ l.take i, QQ v = true) ∧ (l.take i).Nodup
theorem ZB (l : List Bs) : aT l 0 := ⟨fun v h => by simp at h, by simp⟩
theorem ZC {l : List Bs} {i : Nat} {x : Bs} (h : aT l i) (hx : l[i]? = some x) (hn : QQ x = true) (hd : x ∉ l.take i) : aT l (i + 1) := by
  unfold aT
  rw [JR hx]
  refine ⟨fun v k => ?_, ?_⟩
  · rcases List.mem_append.1 k with g | g
    · exact h.1 v g
    · simp at g; rw [g]; exact hn
  · rw [List.nodup_append]
    refine ⟨h.2, by simp, fun a o b f e => ?_⟩
    simp at f; subst e f; exact hd o
theorem iX {l : List Bs} {k : Nat} (h : l.length > k) : DS k l = false := by
  cases e : DS k l with
  | false => rfl
  | true => have := KD e; omega
theorem iW {l : List Bs} {k i : Nat} {x : Bs} (hx : l[i]? = some x) (hn : QQ x = false) : DS k l = false := by
  cases e : DS k l with
  | false => rfl
  | true => have := WD e x (List.mem_of_getElem? hx); rw [hn] at this; cases this
theorem oM {l : List Bs} {k i : Nat} {x : Bs} (hx : l[i]? = some x) (hd : x ∈ l.take i) : DS k l = false := by
  cases e : DS k l with
  | false => rfl
  | true =>
    have p := sC e
    obtain ⟨j, q, f⟩ := List.mem_take_iff_getElem.1 hd
    have h := (List.getElem?_eq_some_iff.1 hx).1
    have o := (List.pairwise_iff_getElem.1 p) j i Z h Z
    exact absurd (by rw [f]; exact ((List.getElem?_eq_some_iff.1 hx).2).symm) o
theorem oL {l : List Bs} {k i : Nat} (h : aT l i) (hi : ¬ i < l.length) (hk : ¬ l.length > k) : DS k l = true := by
  unfold aT at h
  rw [IA hi] at h
  unfold DS
  simp only [Bool.and_eq_true, decide_eq_true_eq, List.all_eq_true]
  exact ⟨⟨by omega, h.1⟩, h.2⟩
end Go.Proofs.YtmppigbbkjepiaaGreatDoor
namespace Go.Proofs.YtmppigbbkjepiaaGreatDoor
open Go.Proofs.Tryz
open Go.RowKit W
def SetM {α : Type} (mk : α → Value) (w : World) (b : Nat) (ks : List α) : Prop := ∃ es clock, w.heap[b]? = some (.map es clock) ∧ es.toList.map (fun e => (e.key, e.val)) = ks.map fun x => (mk x, Value.bool true)
theorem SetM.of {α : Type} {mk : α → Value} {w w' : World} {b : Nat} {ks : List α} (h : SetM mk w b ks) (hb : w'.heap[b]? = w.heap[b]?) : SetM mk w' b ks := by
  obtain ⟨k, c, f, e⟩ := h
  exact ⟨k, c, hb.trans f, e⟩
theorem SetM.lt {α : Type} {mk : α → Value} {w : World} {b : Nat} {ks : List α} (h : SetM mk w b ks) : b < w.heap.size := by
  obtain ⟨f, c, e, _⟩ := h
  exact (Array.getElem?_eq_some_iff.1 e).1
theorem SetM.noW {α : Type} {mk : α → Value} {w : World} {b : Nat} {ks : List α} (h : SetM mk w b ks) : wZ w b := by
  obtain ⟨k, c, f, _⟩ := h
  intro o n e
  simp [World.cell?, f] at e
def fM {α : Type} (mk : α → Value) (b : Nat) (ks : List α) : SF := ⟨fun w => SetM mk w b ks, fun c => c ≠ b, fun h hb => h.of (hb.block b h.lt), fun h _ ho hb => h.of (hb.block b (Ne.symm ho))⟩
theorem okM {α : Type} {mk : α → Value} {b c : Nat} {ks : List α} (h : c ≠ b) : (fM mk b ks).ok c := h
theorem Env.m {α : Type} {mk : α → Value} {b : Nat} {ks : List α} {w : World} {L : List SF} (E : Env w L) (h : SetM mk w b ks) : Env w (fM mk b ks :: L) := ⟨h, E⟩
structure KeyT {α : Type} (P : Program) (T k e : TypeId) (d : TypeDesc) (mk : α → Value) (eq : α → α → Bool) : Prop where
  ht : P.underlying T = some (.map k e)
  hk : P.underlying k = some d
  hd : d = .string ∨ ∃ q, d = .int q
  he : ∀ w, (zeroValue e).run P w = .ok (.bool false) w
  eq : ∀ x y, Instr.sameNow d (mk x) (mk y) = some (eq x y)
theorem KeyT.check {α : Type} {P : Program} {T k e : TypeId} {d : TypeDesc} {mk : α → Value} {eq : α → α → Bool} (K : KeyT P T k e d mk eq) (b : Bool) (v : Value) (w : World) : (Instr.checkKey b 10000 k v).run P w = .ok () w := by
  unfold Instr.checkKey
  rw [Sem.run_bind, run_underlying K.hk w]
  rcases K.hd with rfl | ⟨q, rfl⟩ <;> simp
theorem sO {α : Type} {d : TypeDesc} {mk : α → Value} {eq : α → α → Bool} (heq : ∀ x y, Instr.sameNow d (mk x) (mk y) = some (eq x y)) {x : α} : ∀ (es : List MapEntry) (ks : List α) (i : Nat), es.map (fun e => (e.key, e.val)) = ks.map (fun y => (mk y, Value.bool true)) →
    (ks.any (eq x) = true → ∃ j, Instr.findNow d (mk x) es i = some (some (j, .bool true))) ∧ (ks.any (eq x) = false → Instr.findNow d (mk x) es i = some none)
  | [], [], i, _ => ⟨fun h => by simp at h, fun _ => rfl⟩
  | [], _ :: _, i, h => by simp at h
  | _ :: _, [], i, h => by simp at h
  | e :: es, y :: ks, i, h => by
    simp only [List.map_cons, List.cons.injEq, Prod.mk.injEq] at h
    obtain ⟨⟨h1, h2⟩, h3⟩ := h
    obtain ⟨g1, g2⟩ := sO heq (x := x) es ks (i + 1) h3
    simp only [Instr.findNow, h1, h2, heq, List.any_cons]
    cases hxy : eq x y with
    | true => exact ⟨fun _ => ⟨i, rfl⟩, fun h => by simp at h⟩
    | false => exact ⟨fun h => g1 (by simpa using h), fun h => g2 (by simpa using h)⟩
theorem lT {α : Type} {P : Program} {T k e : TypeId} {d : TypeDesc} {mk : α → Value} {eq : α → α → Bool} (K : KeyT P T k e d mk eq) {w : World} {es : List MapEntry} {ks : List α} {v : α} (h : es.map (fun e => (e.key, e.val)) = ks.map fun x => (mk x, Value.bool true)) :
    (ks.any (eq v) = true → ∃ j, (Instr.findKey k (mk v) es).run P w = .ok (some (j, .bool true)) w) ∧ (ks.any (eq v) = false → (Instr.findKey k (mk v) es).run P w = .ok none w) := by
  obtain ⟨p, o⟩ := sO K.eq (x := v) es ks 0 h
  constructor
  · intro f
    obtain ⟨j, l⟩ := p f
    exact ⟨j, by unfold Instr.findKey; rw [Sem.run_bind, run_underlying K.hk w]; simp [l]⟩
  · intro f
    unfold Instr.findKey
    rw [Sem.run_bind, run_underlying K.hk w]
    simp [o f]
theorem JP {α : Type} {P : Program} {T k e : TypeId} {d : TypeDesc} {mk : α → Value} {eq : α → α → Bool} (K : KeyT P T k e d mk eq) {ρ : Operand → Value} {o : Oper} {w : World} {x y : Operand} {b : Nat} {ks : List α} {v : α} {c : Bool}
    (ho : o.op = .lookup T x y false) (hx : ρ x = .map (some b)) (hy : ρ y = mk v) (h : SetM mk w b ks) (hc : ks.any (eq v) = c) : (execOp ρ o).run P w = .ok (.value (.bool c)) w := by
  obtain ⟨z, cl, q, p⟩ := h
  obtain ⟨u, t⟩ := lT K (w := w) (v := v) p
  have f : (getObj b).run P w = .ok (.map z cl) w := by simp [getObj, Sem.run, q]
  unfold execOp; rw [ho]
  cases c with
  | true =>
    obtain ⟨j, l⟩ := u hc
    simp [hx, hy, Instr.lookup, run_underlying K.ht, f, K.check, l]
  | false =>
    simp [hx, hy, Instr.lookup, run_underlying K.ht, f, K.check, t hc, K.he]
section
variable {o : Oper} {a : Act} {w : World} {K : Act → World → Prop} {Q : Exit → Act → World → Prop}
theorem UW {α : Type} {P : Program} {T : TypeId} (mk : α → Value) (ho : o.op = .makeMap T none)
    (h : ∀ b w', b = w.heap.size → w'.heap.size = w.heap.size + 1 → Below w.heap.size w w' → SetM mk w' b [] → K (a.put o.dst (.map (some b))) w') : o.wp P a w K Q := by
  refine DT (v := .map (some w.heap.size)) (w' := w.alloc (.map #[] 0)) ?_ (h _ _ O AG ((Below.refl _ _).alloc (Nat.le_refl _) _) ⟨#[], 0, heap_alloc_new w _, O⟩)
  unfold execOp; rw [ho]
  simp [run_makeMap]
theorem II {α : Type} {P : Program} {T k e : TypeId} {d : TypeDesc} {mk : α → Value} {eq : α → α → Bool} (KT : KeyT P T k e d mk eq) {x y z : Operand} {b : Nat} {ks : List α} {v : α} (ho : o.op = .mapUpdate T x y z) (hx : a.eval x = .map (some b)) (hy : a.eval y = mk v) (hz : a.eval z = .bool true)
    (hs : SetM mk w b ks) (hc : ks.any (eq v) = false) (h : ∀ w', Onl b w w' → SetM mk w' b (ks ++ [v]) → K (a.put o.dst undef) w') : o.wp P a w K Q := by
  obtain ⟨p, cl, l, q⟩ := hs
  obtain ⟨_, C⟩ := lT KT (w := w) (v := v) q
  have f := (Array.getElem?_eq_some_iff.1 l).1
  have B : (getObj b).run P w = .ok (.map p cl) w := by simp [getObj, Sem.run, l]
  have t : (Instr.mapUpdate T (.map (some b)) (mk v) (.bool true)).run P w = .ok () { w with heap := w.heap.setIfInBounds b (.map (p.push { key := mk v, val := .bool true, born := cl }) (cl + 1)) } := by
    simp [Instr.mapUpdate, run_underlying KT.ht, B, KT.check, C hc, setObj, Sem.run, l]
  unfold Oper.wp execOp
  simp only [ho, hx, hy, hz, Sem.run_bind, t]
  refine h _ ⟨O, O, O, by simp, fun j u => by simp [Ne.symm u]⟩ ⟨p.push { key := mk v, val := .bool true, born := cl }, cl + 1, by simp [f], by simp [q]⟩
end
def mkS (x : Bs) : Value := .string (bs x)
def mkN (n : Nat) : Value := .int .i64 ↑n
theorem Rq (a b : Bs) : (bs a == bs b) = decide (a = b) := by
  rw [Bool.eq_iff_iff, MapKept.bytes_beq, decide_eq_true_eq]
  exact ⟨pG, fun h => by rw [h]⟩
theorem Sk : KeyT prog 150 9 4 .string mkS (fun x y => decide (x = y)) := ⟨underlying150, underlying9, .inl rfl, fun w => by kernel_rfl, fun x y => by unfold mkS Instr.sameNow; simp only [Rq]⟩
theorem lF : KeyT prog 151 3 4 (.int .i64) mkN (fun x y => decide (x = y)) := ⟨underlying151, underlying3, .inr ⟨_, rfl⟩, fun w => by kernel_rfl, fun x y => by
  unfold mkN Instr.sameNow
  simp only [if_true, Option.some.injEq]
  rw [Bool.eq_iff_iff, beq_iff_eq, decide_eq_true_eq]; omega⟩
theorem Af {α : Type} [DecidableEq α] {ks : List α} {x : α} (h : x ∈ ks) : (ks.any fun y => decide (x = y)) = true := List.any_eq_true.2 ⟨x, h, by simp⟩
theorem NU {α : Type} [DecidableEq α] {ks : List α} {x : α} (h : x ∉ ks) : (ks.any fun y => decide (x = y)) = false := by
  rw [List.any_eq_false]
  intro y f e
  simp at e
  subst e; exact h f
end Go.Proofs.YtmppigbbkjepiaaGreatDoor
