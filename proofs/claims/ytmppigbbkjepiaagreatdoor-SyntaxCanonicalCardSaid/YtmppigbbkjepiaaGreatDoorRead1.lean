/- Reading numbers, factors and terms. (Printed by g_read1.py.) -/
import Derived.Test.YtmppigbbkjepiaaGreatDoorPolyT
set_option maxHeartbeats 8000000
set_option maxRecDepth 100000
namespace Go.Proofs.YtmppigbbkjepiaaGreatDoor
open Go.Proofs.Tryz
open Go.RowKit W
theorem tP (s : Bs) (w : World) (hs : s.length ≤ 4000) (h : DQ s = none) : Calls prog 137 #[.string (bs s)] w (bM w 0 3) := UJ (bs s) w (by rw [FH]; exact hs) (by rw [FI]; exact h)
theorem SC (s : Bs) (z : Int) (w : World) (hs : s.length ≤ 4000) (h : DQ s = some z) : Calls prog 137 #[.string (bs s)] w (bM w z 0) := JV (bs s) z w (by rw [FH]; exact hs) (by rw [FI]; exact h)
theorem wY (s : Bs) (w : World) (hs : 4000 < s.length) (hs2 : s.length ≤ 1000000) : Calls prog 137 #[.string (bs s)] w (bM w 0 2) := by
  refine (pL (bs s) w (by rw [FH]; exact hs2)).mono ?_
  have := FH s
  rintro e k (⟨_, f⟩ | ⟨h, _⟩ | ⟨h, _⟩)
  · exact f
  · omega
  · omega
theorem Qc {x : Rat} (h : (qT x).length ≤ 4000) : FitQ x 4000 := by
  unfold qT NI at h
  split at h
  · rename_i h1
    rw [MR] at h
    exact ⟨NC h (XM _), by rw [h1]; exact (LU (m := 4) AD : Fits 1 4).mono AD⟩
  · have e : (OS x.num ++ ⟨#[47]⟩ ++ OS ((x.den : Nat) : Int)).data.toList = PE x.num ++ [47] ++ PE ((x.den : Nat) : Int) := by
      rw [← MR, ← MR]; simp
    rw [e, List.length_append, List.length_append] at h
    exact ⟨NC Z (XM _), NC Z (XM _)⟩
theorem iS {l : Bs} {x : Rat} (hl : l.length ≤ 4000) (h : PG l = some x) : FitQ x 4000 := by
  have := dM h
  exact Qc (by unfold qT; rw [← this]; exact hl)
theorem tN (s : Bs) (x : Rat) (w : World) (hs : s.length ≤ 4000) (h : PG s = some x) : Calls prog 89 #[.string (bs s)] w (Aq w x.num ((x.den : Nat) : Int) 0) := by
  refine (Av (bs s) w).mono fun e q o => ?_
  have k : bs s = NI x := by rw [dM h, Ab]
  rcases o with ⟨p, _⟩ | ⟨_, f, _⟩ | ⟨y, _, f, l⟩
  · rw [FH] at p; omega
  · exact absurd k (f x)
  · have : x = y := Eo (k.symm.trans f)
    subst this; exact l
theorem tO (s : Bs) (w : World) (hs : s.length ≤ 4000) (h : PG s = none) : Calls prog 89 #[.string (bs s)] w (Aq w 0 0 3) := by
  refine (Av (bs s) w).mono fun e p k => ?_
  rcases k with ⟨o, _⟩ | ⟨_, _, f⟩ | ⟨y, _, l, _⟩
  · rw [FH] at o; omega
  · exact f
  · exact absurd (by rw [← l, FI] : s = (NI y).data.toList) (rN h y)
theorem Dy (va : Value) (x : Int) (w : World) (ha : IsI w va x) (h : x < -9223372036854775808 ∨ 9223372036854775807 < x) : Calls prog 147 #[va] w (RetS w 0 false) := by
  have := Ao va x w ha
  rwa [(ZZ h).1, (ZZ h).2] at this
def aP (o : Option Nat) : Nat × Bool := match o with
  | some n => (n, true)
  | none => (0, false)
theorem iU {x : Nat × Bool} {n : Nat} {b : Bool} (h : x = (n, b)) : Ending.returned (.tuple #[.int .i64 ↑n, .bool b]) = .returned (.tuple #[.int .i64 ↑x.1, .bool x.2]) := by rw [h]
theorem iT {o : Option Nat} (h : o = none) : aP o = (0, false) := by rw [h]; rfl
theorem mS {k n : Nat} (hk : 0 < k) (h : n < 10 ^ k) : (VG n).length ≤ k := by
  induction k generalizing n with
  | zero => omega
  | succ k ih =>
    by_cases f : n < 10
    · rw [OI n f]; simp
    · rw [UE n Z, List.length_append]
      have e : 0 < k := by
        rcases Nat.eq_zero_or_pos k with rfl | g
        · simp at h; omega
        · exact g
      have := ih (n := n / 10) e (by rw [Nat.pow_succ] at h; omega)
      simp only [List.length_cons, List.length_nil]; omega
theorem Pq {lo hi : Nat} {l : Bs} (hh : hi ≤ 1000000) (hl : 4000 < l.length) : FC lo hi l = none := by
  cases h : FC lo hi l with
  | none => rfl
  | some n =>
    exfalso
    obtain ⟨e, _, o⟩ := MU Z h
    have f := mS (k := 7) (n := n) AD Z
    rw [e] at hl
    unfold PE at hl
    rw [if_neg Z, List.nil_append, Int.natAbs_natCast] at hl
    unfold ZQ at hl
    rw [List.length_map] at hl
    omega
theorem Kw {lo hi : Int} {l : Bs} (h : DQ l = none) : FC lo hi l = none := by unfold FC; rw [h]
theorem uZ {lo hi z : Int} {l : Bs} (h : DQ l = some z) (hz : ¬ (lo ≤ z ∧ z ≤ hi)) : FC lo hi l = none := by unfold FC; rw [h]; simp only; rw [if_neg hz]
theorem Pp {lo hi z : Int} {l : Bs} (h : DQ l = some z) (h1 : lo ≤ z) (h2 : z ≤ hi) (h0 : 0 ≤ z) : Ending.returned (.tuple #[.int .i64 z, .bool true]) = .returned (.tuple #[.int .i64 ↑((aP (FC lo hi l)).1), .bool (aP (FC lo hi l)).2]) := by
  unfold FC; rw [h]; simp only; rw [if_pos ⟨h1, h2⟩]; simp only [aP]; rw [Int.toNat_of_nonneg h0]
theorem NK (s : Bs) (lo : Nat) (hi : Nat) (w : World) (hs : s.length ≤ 1000000) (hh : hi ≤ 1000000) :
    Calls prog 101 #[.string (bs s), .int .i64 ↑lo, .int .i64 ↑hi] w (FX w (.tuple #[.int .i64 ↑((aP (FC lo hi s)).1), .bool (aP (FC lo hi s)).2])) := by
 have E := Env.start w
 go_enter func101, ntmps101
 by_cases hb : 4000 < s.length
 case pos =>
  refine yG ?_
  refine EF O (DP DH O (wY s _ hb hs) O E ?_)
  clear E
  intro w1 n1 s1 _ E
  refine yG ?_
  refine EF O (CA FM O ?_)
  intro b2 w2 F z2 d2 S
  have l2 : w.heap.size ≤ b2 := by rw [F]; exact E.2.1.size
  replace E := E.below d2
  clear F z2 d2
  refine yG ?_
  refine EF O (BX FM O O O S O O (IsI.one E.1) ?_)
  intro w3 o3 y3
  replace E := (E.onl (S.noW CW) zK o3).b y3
  clear S o3 y3
  refine yG ?_
  exact ⟨iU (n := 0) (b := false) (iT (Pq hh hb)), E.2.2.1⟩
 by_cases e : DQ s = none
 case pos =>
  refine yG ?_
  refine EF O (DP DH O (tP s _ Z e) O E ?_)
  clear E
  intro w4 n4 s4 _ E
  refine yG ?_
  refine EF O (CA FM O ?_)
  intro b5 w5 D z5 d5 R
  have l5 : w.heap.size ≤ b5 := by rw [D]; exact E.2.1.size
  replace E := E.below d5
  clear D z5 d5
  refine yG ?_
  refine EF O (BX FM O O O R O O (IsI.one E.1) ?_)
  intro w6 o6 y6
  replace E := (E.onl (R.noW CW) zK o6).b y6
  clear R o6 y6
  refine yG ?_
  exact ⟨iU (n := 0) (b := false) (iT (Kw e)), E.2.2.1⟩
 obtain ⟨z, e⟩ := Option.ne_none_iff_exists'.1 e
 by_cases am : -9223372036854775808 ≤ z ∧ z ≤ 9223372036854775807
 case neg =>
  refine yG ?_
  refine EF O (DP DH O (SC s z _ Z e) O E ?_)
  clear E
  intro a3 ag ad _ E
  refine yG ?_
  refine EF O (CA FM O ?_)
  intro T a2 f L G l
  have aj : w.heap.size ≤ T := by rw [f]; exact E.2.1.size
  replace E := E.below G
  clear f L G
  refine yG ?_
  refine EF O (BX FM O O O l O O (IsI.one E.1) ?_)
  intro a1 v q
  replace E := (E.onl (l.noW CW) zK v).b q
  clear l v q
  refine yG ?_
  refine EF O (NX LP O (Dy _ z _ E.2.1 Z) O E ?_)
  clear E
  intro a0 _ E
  refine yG ?_
  exact ⟨iU (n := 0) (b := false) (iT (uZ e Z)), E.2.2.1⟩
 by_cases h2 : z < ((lo : Nat) : Int)
 case pos =>
  refine yG ?_
  refine EF O (DP DH O (SC s z _ Z e) O E ?_)
  clear E
  intro w7 n7 s7 _ E
  refine yG ?_
  refine EF O (CA FM O ?_)
  intro b8 w8 C z8 d8 Q
  have l8 : w.heap.size ≤ b8 := by rw [C]; exact E.2.1.size
  replace E := E.below d8
  clear C z8 d8
  refine yG ?_
  refine EF O (BX FM O O O Q O O (IsI.one E.1) ?_)
  intro w9 o9 Y
  replace E := (E.onl (Q.noW CW) zK o9).b Y
  clear Q o9 Y
  refine yG ?_
  refine EF O (NX LP O (kA _ z _ E.2.1 Z Z) O E ?_)
  clear E
  intro ac _ E
  refine yG ?_
  exact ⟨iU (n := 0) (b := false) (iT (uZ e Z)), E.2.2.1⟩
 by_cases h3 : z > ((hi : Nat) : Int)
 case neg =>
  refine yG ?_
  refine EF O (DP DH O (SC s z _ Z e) O E ?_)
  clear E
  intro a7 ah ae _ E
  refine yG ?_
  refine EF O (CA FM O ?_)
  intro U a6 h N H o
  have ak : w.heap.size ≤ U := by rw [h]; exact E.2.1.size
  replace E := E.below H
  clear h N H
  refine yG ?_
  refine EF O (BX FM O O O o O O (IsI.one E.1) ?_)
  intro a5 y t
  replace E := (E.onl (o.noW CW) zK y).b t
  clear o y t
  refine yG ?_
  refine EF O (NX LP O (kA _ z _ E.2.1 Z Z) O E ?_)
  clear E
  intro a4 _ E
  refine yG ?_
  exact ⟨Pp e Z Z Z, E.2.2.1⟩
 refine yG ?_
 refine EF O (DP DH O (SC s z _ Z e) O E ?_)
 clear E
 intro ab ai af _ E
 refine yG ?_
 refine EF O (CA FM O ?_)
 intro X aa k P J p
 have al : w.heap.size ≤ X := by rw [k]; exact E.2.1.size
 replace E := E.below J
 clear k P J
 refine yG ?_
 refine EF O (BX FM O O O p O O (IsI.one E.1) ?_)
 intro a9 B u
 replace E := (E.onl (p.noW CW) zK B).b u
 clear p B u
 refine yG ?_
 refine EF O (NX LP O (kA _ z _ E.2.1 Z Z) O E ?_)
 clear E
 intro a8 _ E
 refine yG ?_
 exact ⟨iU (n := 0) (b := false) (iT (uZ e Z)), E.2.2.1⟩
theorem ZP (s : Bs) (b : UInt8) (w : World) (hs : s.length ≤ 1000000) (hG : Glob w) (h : LX b s = none) : Calls prog 52 #[.string (bs s), .string (bs [b])] w (FX w (.tuple #[.string (bs s), .string (bs []), .bool false])) := by
  have := tV s [b] w hs hG
  rwa [sZ h] at this
theorem ZO (s : Bs) (b : UInt8) (x y : Bs) (w : World) (hs : s.length ≤ 1000000) (hG : Glob w) (h : LX b s = some (x, y)) : Calls prog 52 #[.string (bs s), .string (bs [b])] w (FX w (.tuple #[.string (bs x), .string (bs y), .bool true])) := by
  have := tV s [b] w hs hG
  rwa [sY h] at this
theorem dX (vl : Value) (l : List Bs) (x : Bs) (v : Nat) (w : World) (h : IsR elS (DI w.heap.size) w vl l) (hv : l.idxOf? x = some v) : Calls prog 125 #[vl, .string (bs x)] w (XY w ((v : Nat) : Int)) := by
  have := Ax vl l x w h
  unfold vY at this
  rwa [hv] at this
theorem bX (vl : Value) (l : List Bs) (x : Bs) (w : World) (h : IsR elS (DI w.heap.size) w vl l) (hv : l.idxOf? x = none) : Calls prog 125 #[vl, .string (bs x)] w (XY w (-1)) := by
  have := Ax vl l x w h
  unfold vY at this
  rwa [hv] at this
def bD (l : List Bs) (x : Bs) : Nat × Nat × Bool := match LX 94 x with
  | none => match l.idxOf? x with
    | none => (0, 0, false)
    | some v => (v, 1, true)
  | some (a, d) => match l.idxOf? a with
    | none => (0, 0, false)
    | some v => (v, (aP (FC 2 65535 d)).1, (aP (FC 2 65535 d)).2)
theorem oW {x : Nat × Nat × Bool} {v n : Nat} {b : Bool} (h : x = (v, n, b)) : Ending.returned (.tuple #[.int .i64 ↑v, .int .i64 ↑n, .bool b]) = .returned (.tuple #[.int .i64 ↑x.1, .int .i64 ↑x.2.1, .bool x.2.2]) := by rw [h]
theorem Oo {l : List Bs} {x : Bs} (h : LX 94 x = none) (h2 : l.idxOf? x = none) : bD l x = (0, 0, false) := by unfold bD; simp only [h, h2]
theorem Om {l : List Bs} {x : Bs} {v : Nat} (h : LX 94 x = none) (h2 : l.idxOf? x = some v) : bD l x = (v, 1, true) := by unfold bD; simp only [h, h2]
theorem Ol {l : List Bs} {x a d : Bs} (h : LX 94 x = some (a, d)) (h2 : l.idxOf? a = none) : bD l x = (0, 0, false) := by unfold bD; simp only [h, h2]
theorem Hz {l : List Bs} {x a d : Bs} {v : Nat} (h : LX 94 x = some (a, d)) (h2 : l.idxOf? a = some v) : bD l x = (v, (aP (FC 2 65535 d)).1, (aP (FC 2 65535 d)).2) := by unfold bD; simp only [h, h2]
theorem Ic {l : List Bs} {x : Bs} {v n : Nat} (h : RQ l x = some (v, n)) : bD l x = (v, n, true) := by
  unfold RQ at h
  cases f : LX 94 x with
  | none =>
    rw [f] at h
    cases e : l.idxOf? x with
    | none => simp [e] at h
    | some u => simp only [e, Option.map_some, Option.some.injEq, Prod.mk.injEq] at h; obtain ⟨rfl, rfl⟩ := h; exact Om f e
  | some p =>
    obtain ⟨a, d⟩ := p
    rw [f] at h
    cases e : l.idxOf? a with
    | none => simp [e] at h
    | some u =>
      cases o : FC 2 65535 d with
      | none => simp [e, o] at h
      | some k =>
        simp only [e, o, Option.some.injEq, Prod.mk.injEq] at h
        obtain ⟨rfl, rfl⟩ := h
        rw [Hz f e, o]; rfl
theorem zL {l : List Bs} {x : Bs} (h : RQ l x = none) : ∃ v n, bD l x = (v, n, false) := by
  unfold RQ at h
  cases f : LX 94 x with
  | none =>
    rw [f] at h
    cases e : l.idxOf? x with
    | none => exact ⟨_, _, Oo f e⟩
    | some u => simp [e] at h
  | some p =>
    obtain ⟨a, d⟩ := p
    rw [f] at h
    cases e : l.idxOf? a with
    | none => exact ⟨_, _, Ol f e⟩
    | some u =>
      cases o : FC 2 65535 d with
      | none => exact ⟨_, _, by rw [Hz f e, o]; rfl⟩
      | some k => simp [e, o] at h
theorem Mx {b : UInt8} {x a d : Bs} (h : LX b x = some (a, d)) : a.length ≤ x.length ∧ d.length ≤ x.length := by
  obtain ⟨rfl, _⟩ := cutB_some.1 h
  simp; omega
theorem aG (s : Bs) (vl : Value) (l : List Bs) (w : World) (hRl : IsR elS (DI w.heap.size) w vl l) (hs : s.length ≤ 1000000) (hG : Glob w) :
    Calls prog 90 #[.string (bs s), vl] w (FX w (.tuple #[.int .i64 ↑((bD l s).1), .int .i64 ↑((bD l s).2.1), .bool (bD l s).2.2])) := by
 have E := Env.start w
 obtain ⟨q, k, rfl, p, o⟩ := hRl.shp
 replace E := E.r hRl (DM _)
 clear hRl
 replace E := E.gl hG
 go_enter func90, ntmps90
 by_cases e : LX 94 s = none
 case pos =>
  by_cases f : l.idxOf? s = none
  case pos =>
   refine yG ?_
   refine EF O (BZ ID O (ZP s 94 _ hs E.1.1 e) O E ?_)
   clear E
   intro G _ E
   refine yG ?_
   refine EF O (CH EL O (bX _ l s _ (BV E.2.1) f) O E ?_)
   clear E
   intro F _ E
   refine yG ?_
   exact ⟨oW (v := 0) (n := 0) (b := false) (Oo e f), E.2.2.1⟩
  obtain ⟨v, h⟩ := Option.ne_none_iff_exists'.1 f
  refine yG ?_
  refine EF O (BZ ID O (ZP s 94 _ hs E.1.1 e) O E ?_)
  clear E
  intro D _ E
  refine yG ?_
  refine EF O (CH EL O (dX _ l s v _ (BV E.2.1) h) O E ?_)
  clear E
  intro C _ E
  refine yG ?_
  exact ⟨oW (v := v) (n := 1) (b := true) (Om e h), E.2.2.1⟩
 obtain ⟨⟨a, d⟩, e⟩ := Option.ne_none_iff_exists'.1 e
 by_cases f : l.idxOf? a = none
 case pos =>
  refine yG ?_
  refine EF O (BZ ID O (ZO s 94 a d _ hs E.1.1 e) O E ?_)
  clear E
  intro B _ E
  refine yG ?_
  refine EF O (CH EL O (bX _ l a _ (BV E.2.1) f) O E ?_)
  clear E
  intro z _ E
  refine yG ?_
  exact ⟨oW (v := 0) (n := 0) (b := false) (Ol e f), E.2.2.1⟩
 obtain ⟨v, h⟩ := Option.ne_none_iff_exists'.1 f
 refine yG ?_
 refine EF O (BZ ID O (ZO s 94 a d _ hs E.1.1 e) O E ?_)
 clear E
 intro y _ E
 refine yG ?_
 refine EF O (CH EL O (dX _ l a v _ (BV E.2.1) h) O E ?_)
 clear E
 intro u _ E
 refine yG ?_
 refine EF O (BZ GM O (NK d 2 65535 _ (by have := Mx e; omega) AD) O E ?_)
 clear E
 intro t _ E
 refine yG ?_
 exact ⟨oW (v := v) (n := _) (b := _) (Hz e h), E.2.2.1⟩
end Go.Proofs.YtmppigbbkjepiaaGreatDoor
