/- Helping facts of KitO; no other conditions. Helping facts of Rat3; no other conditions. Helping facts of Entry; no other conditions. Helping facts of MulM; no other conditions. Helping facts of AddP; no other conditions. -/
import Derived.Test.YtmppigbbkjepiaaGreatDoorKitP
import Derived.Test.YtmppigbbkjepiaaGreatDoorRows
import Derived.ProofKit
import Derived.Lib.SmallJoins
import Derived.Carry
import Derived.Test.YtmppigbbkjepiaaGreatDoorSynR
namespace Go.Proofs.YtmppigbbkjepiaaGreatDoor
theorem Acc.own {α : Type} {e : El α} {t base : Nat} {S : Nat → Prop} {w : World} {v : Value} {l : List α} (h : Acc e t base S w v l) : ∀ g, v.ownBlock = some g → ¬ S g := by
  obtain ⟨_, _, _, f⟩ := h; exact f
end Go.Proofs.YtmppigbbkjepiaaGreatDoor
namespace Go.Proofs.YtmppigbbkjepiaaGreatDoor
open Go.RowKit W
theorem Nz {x y : Rat} (h : x = y) : (eX x y == 0) = true := by
  rcases eW x y with ⟨g, _⟩ | ⟨_, e⟩ | ⟨g, _⟩
  · subst h; exact absurd g Rat.lt_irrefl
  · rw [e]; rfl
  · subst h; exact absurd g Rat.lt_irrefl
theorem Ny {x y : Rat} (h : ¬ x = y) : (eX x y == 0) = false := by
  rcases eW x y with ⟨_, e⟩ | ⟨g, _⟩ | ⟨_, e⟩
  · rw [e]; rfl
  · exact absurd g h
  · rw [e]; rfl
end Go.Proofs.YtmppigbbkjepiaaGreatDoor
namespace Go.Proofs.YtmppigbbkjepiaaGreatDoor
open Go.Proofs.Tryz
open Go.ChangeShapes Go.WideShapes Go.ChangeAt Go.RowKit Go.Joins W
theorem Tryz.own : ownKnob prog.godebug = none := by kernel_rfl
theorem Tryz.laidOut : laidOutB prog = true := by kernel_rfl
theorem PM {H : Type} {enc : TypeId × Value → H} {W W' : World} (hb : Below W.heap.size W W') : ∀ {ts : List TypeId} {vs : List Value} {ds : List (DataW H)} {ps : List MemPlace},
    DataW.TrodAll enc prog W 0 (fun _ => true) true ts vs ds ps → (∀ t ∈ ts, prog.readableRec t = true ∧ t < prog.types.size) → (∀ x ∈ ps, x.block < W.heap.size) →
    DataW.TrodAll enc prog W' 0 (fun b => decide (b < W.heap.size)) true ts vs ds ps
  | [], [], [], _, h, _, _ => h
  | t :: ts, v :: vs, d :: ds, ps, h, hr, hlt => by
    obtain ⟨p, q, h1, h2, rfl⟩ := h
    refine ⟨p, q, Below.trod Tryz.laidOut (hr t AH).1 (hr t AH).2 h1 hb (fun x hx => hlt x (List.mem_append_left _ hx)), PM hb h2 (fun t ht => hr t (List.mem_cons_of_mem _ ht)) (fun x hx => hlt x (List.mem_append_right _ hx)), O⟩
  | [], _ :: _, _, _, h, _, _ => absurd h (by simp [DataW.TrodAll])
  | [], [], _ :: _, _, h, _, _ => absurd h (by simp [DataW.TrodAll])
  | _ :: _, [], _, _, h, _, _ => absurd h (by simp [DataW.TrodAll])
  | _ :: _, _ :: _, [], _, h, _, _ => absurd h (by simp [DataW.TrodAll])
end Go.Proofs.YtmppigbbkjepiaaGreatDoor
namespace Go.Proofs.YtmppigbbkjepiaaGreatDoor
open Go.Proofs.Tryz
open Go.RowKit W
def OG (p q : List Nat) (i : Nat) : List Nat := (List.range 8).map fun j => if j < i then me p j + me q j else me p j
def lT (p q : List Nat) : Prop := ∀ i, me p i + me q i ≤ 65535
theorem PP (p q : List Nat) (i : Nat) : (OG p q i).length = 8 := by simp [OG]
theorem kO (p q : List Nat) (i : Nat) {j : Nat} (hj : j < 8) : me (OG p q i) j = if j < i then me p j + me q j else me p j := by
  rw [RP (by rw [PP]; exact hj)]; simp [OG]
theorem QE {p q : List Nat} (hs : lT p q) (i : Nat) : EK (OG p q i) := by
  refine ⟨PP p q i, fun e f => ?_⟩
  obtain ⟨j, _, rfl⟩ := List.mem_map.1 f
  have := hs j
  split <;> omega
theorem Lr {p : List Nat} (hp : EK p) (q : List Nat) : OG p q 0 = p := by
  refine List.ext_getElem (by rw [PP, hp.1]) fun i e f => ?_
  rw [← RP e, ← RP f, kO p q 0 (by rw [PP] at e; exact e)]; simp
theorem Ls (p q : List Nat) {i : Nat} (hi : i < 8) : me (OG p q i) i = me p i := by rw [kO p q i hi]; simp
theorem Ra (p q : List Nat) {i : Nat} (_ : i < 8) : (GP (OG p q i)).set (0 + i * 1) (.int .i64 ↑(me p i + me q i)) = GP (OG p q (i + 1)) := by
  rw [Nat.zero_add, Nat.mul_one]
  unfold GP
  rw [← List.map_set]
  congr 1
  refine List.ext_getElem (by rw [List.length_set, PP, PP]) fun j k f => ?_
  have e : j < 8 := by rw [PP] at f; exact f
  rw [List.getElem_set]
  have e1 := kO p q (i + 1) e
  have e2 := kO p q i e
  rw [RP f] at e1
  rw [RP (by rw [PP]; exact e)] at e2
  rw [e1, e2]
  by_cases h : i = j
  · subst h; simp
  · rw [if_neg h]
    by_cases g : j < i
    · rw [if_pos g, if_pos AA]
    · rw [if_neg g, if_neg AA]
theorem qN : EK [0, 0, 0, 0, 0, 0, 0, 0] := by refine ⟨rfl, ?_⟩; decide
theorem qQ (m : List Nat) : ∀ v ∈ GP m, v.oneCell' = true := by
  intro v e
  obtain ⟨_, _, rfl⟩ := List.mem_map.1 e
  rfl
theorem sY (w : World) : (sizeOf 3).run prog w = .ok 1 w := by kernel_rfl
theorem cB (m : List Nat) : SJ (GP m) := by
  intro c f n e
  obtain ⟨_, _, rfl⟩ := List.mem_map.1 f
  cases e
set_option maxRecDepth 100000 in
set_option maxHeartbeats 4000000 in
theorem Ts (p q : List Nat) (w : World) (hq : EK q) (hs : lT p q) :
    Calls prog 56 #[.agg (GP (OG p q 0)).toArray, .agg (GP q).toArray] w (GJ w (.tuple #[.agg (GP (OG p q 8)).toArray, .int .i64 0])) := by
 have E := Env.start w
 go_enter func56, ntmps56
 refine zG ?_
 refine EF O (CI (cs := GP (OG p q 0)) O O ?_)
 intro h w1 e1 z1 d1 x1
 have l1 : w.heap.size ≤ h := by rw [e1]; exact E.1.size
 replace E := E.below d1
 clear e1
 replace E := E.x x1
 refine zG ?_
 refine EF O (CI (cs := GP q) O O ?_)
 intro f w2 e2 z2 d2 Y
 have P : h < f := by rw [e2]; exact Bx.lt E.1
 replace E := E.below d2
 clear e2
 replace E := E.x Y
 refine zG ?_
 refine EF O (CB QX O ?_)
 intro F w3 e3 z3 d3 X
 have N : f < F := by rw [e3]; exact Bx.lt E.1
 replace E := E.below d3
 clear e3
 replace E := E.x X
 refine zG ?_
 refine wp_loop_ghost (fun mz a w' => ∃ (i : Nat) (T S R D C B z y u t l k : Value), a = ⟨#[.agg (GP (OG p q 0)).toArray, .agg (GP q).toArray, .pointer (some ⟨h, 0, none⟩), .pointer (some ⟨f, 0, none⟩), .pointer (some ⟨F, 0, none⟩), .int .i64 0, .int .i64 ↑i, T, S, R, D, C, B, z, y, u, t, l, k, undef, undef, undef, undef, undef], []⟩ ∧ Env w' [fX F (67) (GP [0, 0, 0, 0, 0, 0, 0, 0]), fX f (67) (GP q), fX h (67) (GP (OG p q i)), fW w] ∧ mz = 8 - i ∧ i ≤ 8) (8) ⟨0, _, _, _, _, _, _, _, _, _, _, _, _, O, zE, O, AA⟩ ?_
 rintro m4 _ w4 ⟨i, T, S, R, D, C, B, z, y, u, t, l, k, rfl, E, H, a0⟩
 by_cases Q : i < 8
 case neg =>
  refine zG ?_
  refine V O O (CT QX O O E.2.2.1 (DC (QE hs i))) ?_
  refine zG ?_
  refine EF O (CA iA O (Il (OG p q i) _ (QE hs i)) O E ?_)
  intro w7 d7 E
  refine zG ?_
  refine V O O (CT QX O O E.2.2.1 (DC (QE hs i))) ?_
  have J := E.1
  replace E := WJ E
  refine zG ?_
  refine EF O (BY QX O O O J (by first | rfl | exact DC qN) (DC (QE hs i)) (qQ _) ?_)
  intro w8 o8 U
  replace E := (E.onl (J.noW (cB (m := [0, 0, 0, 0, 0, 0, 0, 0]))) zK o8).x U
  have G := CY QX E.1 (DC (QE hs i))
  refine zG ?_
  exact AQ (v := .tuple #[.agg (GP (OG p q i)).toArray, .int .i64 0]) (by simp [results, results56, asAddr, G]) O ⟨(by rw [show i = 8 by omega]), e3 E⟩
 refine zG ?_
 refine TW (l2 := [fX F (67) (GP [0, 0, 0, 0, 0, 0, 0, 0]), fX f (67) (GP q), fW w]) E (fun w E => zE) ([8]) ([0, 1, 2, 3, 4, 5, 6, 7, 8]) Z Z Z Z AF ?_
 replace E := E.drew
 refine SP (o := ⟨some 11, _, _, _, _, _⟩) (v := .int .i64 ↑i) O O O O (fun w e => GE O O) ?_
 refine zG ?_
 refine SP (o := ⟨some 12, _, _, _, _, _⟩) (v := .pointer (some ⟨h, 0 + i * 1, none⟩)) O O O O (fun w e => DS (j := i) O underlying67 Z O O O AA) ?_
 refine zG ?_
 refine SP (o := ⟨some 13, _, _, _, _, _⟩) (v := .int .i64 ↑(me (OG p q i) i)) O O O O (fun w e => CP O DA O (e.2.2.1) (GA (QE hs i) AA)) ?_
 refine zG ?_
 refine SP (o := ⟨some 14, _, _, _, _, _⟩) (v := .int .i64 ↑i) O O O O (fun w e => GE O O) ?_
 refine zG ?_
 refine SP (o := ⟨some 15, _, _, _, _, _⟩) (v := .pointer (some ⟨f, 0 + i * 1, none⟩)) O O O O (fun w e => DS (j := i) O underlying67 Z O O O AA) ?_
 refine zG ?_
 refine SP (o := ⟨some 16, _, _, _, _, _⟩) (v := .int .i64 ↑(me q i)) O O O O (fun w e => CP O DA O (e.2.1) (GA hq AA)) ?_
 refine zG ?_
 refine SP (o := ⟨some 17, _, _, _, _, _⟩) (v := .int .i64 ↑(me p i + me q i)) O O O O (fun w e => JD O O O (by rw [Ls p q Q]; have := hs i; rw [JK AA]; omega)) ?_
 refine zG ?_
 refine SP (o := ⟨some 18, _, _, _, _, _⟩) (v := .pointer (some ⟨h, 0 + i * 1, none⟩)) O O O O (fun w e => DS (j := i) O underlying67 Z O O O AA) ?_
 have L := E.2.2.1
 refine zG ?_
 replace E := (Env.x (Env.x (Env.ww (Env.nil _) (e3 E)) E.2.1) E.1)
 refine S1b (o := ⟨none, _, _, _, _, _⟩) O O O O (Oper.wp_storeAt (v := .int .i64 ↑(me p i + me q i)) O sY O O O O L (by rw [DC (QE hs i)]; omega) ?_)
 intro w6 o6 I
 rw [Ra p q Q] at I
 replace E := (E.onl (L.noW (cB _)) zK o6).x I
 refine ⟨E.2, ?_⟩
 refine zG ?_
 exact ⟨_, (by rw [H]; omega), (i + 1), _, _, _, _, _, _, _, _, _, _, _, _, O, zE, O, AA⟩
end Go.Proofs.YtmppigbbkjepiaaGreatDoor
namespace Go.Proofs.YtmppigbbkjepiaaGreatDoor
open W
def LD : List Tm → List Tm → List Tm
  | [], q => q
  | t :: p, [] => t :: p
  | t :: p, u :: q => if 0 < EI t.2 u.2 then t :: LD p (u :: q) else if EI t.2 u.2 < 0 then u :: LD (t :: p) q else if t.1 + u.1 = 0 then LD p q else (t.1 + u.1, t.2) :: LD p q
termination_by p q => p.length + q.length
theorem dF (p : List Tm) : LD p [] = p := by cases p <;> rw [LD]
theorem pE (q : List Tm) : LD [] q = q := by rw [LD]
theorem Dt {t u : Tm} {p q : List Tm} (h : 0 < EI t.2 u.2) : LD (t :: p) (u :: q) = t :: LD p (u :: q) := by rw [LD, if_pos h]
theorem Ds {t u : Tm} {p q : List Tm} (h : ¬ 0 < EI t.2 u.2) (h2 : EI t.2 u.2 < 0) : LD (t :: p) (u :: q) = u :: LD (t :: p) q := by rw [LD, if_neg h, if_pos h2]
theorem Oh {t u : Tm} {p q : List Tm} (h : ¬ 0 < EI t.2 u.2) (h2 : ¬ EI t.2 u.2 < 0) (h3 : t.1 + u.1 = 0) : LD (t :: p) (u :: q) = LD p q := by rw [LD, if_neg h, if_neg h2, if_pos h3]
theorem Dr {t u : Tm} {p q : List Tm} (h : ¬ 0 < EI t.2 u.2) (h2 : ¬ EI t.2 u.2 < 0) (h3 : ¬ t.1 + u.1 = 0) : LD (t :: p) (u :: q) = (t.1 + u.1, t.2) :: LD p q := by rw [LD, if_neg h, if_neg h2, if_neg h3]
theorem lN : ∀ {a b : List Nat}, a.length = b.length → (EI a b = 0 ↔ a = b)
  | [], [], _ => by simp [EI]
  | x :: a, y :: b, h => by
    have h' : a.length = b.length := by simpa using h
    have := lN h'
    unfold EI
    by_cases h1 : x < y
    · simp [h1]; omega
    · by_cases h2 : y < x
      · simp [h1, h2]; omega
      · have : x = y := by omega
        subst this; simp [this]
  | [], _ :: _, h => by simp at h
  | _ :: _, [], h => by simp at h
theorem UN {P : List Tm → List Tm → List Tm → Prop} (h1 : ∀ q, P [] q q) (h2 : ∀ p, P p [] p) (h3 : ∀ t u p q r, 0 < EI t.2 u.2 → P p (u :: q) r → P (t :: p) (u :: q) (t :: r))
    (h4 : ∀ t u p q r, EI t.2 u.2 < 0 → P (t :: p) q r → P (t :: p) (u :: q) (u :: r)) (h5 : ∀ t u p q r, EI t.2 u.2 = 0 → t.1 + u.1 = 0 → P p q r → P (t :: p) (u :: q) r)
    (h6 : ∀ t u p q r, EI t.2 u.2 = 0 → t.1 + u.1 ≠ 0 → P p q r → P (t :: p) (u :: q) ((t.1 + u.1, t.2) :: r)) : ∀ (n : Nat) (p q : List Tm), p.length + q.length ≤ n → P p q (LD p q)
  | _, [], q, _ => by rw [pE]; exact h1 q
  | _, t :: p, [], _ => by rw [dF]; exact h2 _
  | 0, t :: p, u :: q, hn => by simp at hn
  | n + 1, t :: p, u :: q, hn => by
    by_cases g1 : 0 < EI t.2 u.2
    · rw [Dt g1]; exact h3 t u p q _ g1 (UN h1 h2 h3 h4 h5 h6 n p (u :: q) (by simp at hn ⊢; omega))
    · by_cases g2 : EI t.2 u.2 < 0
      · rw [Ds g1 g2]; exact h4 t u p q _ g2 (UN h1 h2 h3 h4 h5 h6 n (t :: p) q (by simp at hn ⊢; omega))
      · have ih := UN h1 h2 h3 h4 h5 h6 n p q (by simp at hn ⊢; omega)
        by_cases g3 : t.1 + u.1 = 0
        · rw [Oh g1 g2 g3]; exact h5 t u p q _ AA g3 ih
        · rw [Dr g1 g2 g3]; exact h6 t u p q _ AA g3 ih
theorem lR {A B C : Tm → Prop} (ha : ∀ t, A t → C t) (hb : ∀ t, B t → C t) (hab : ∀ t u, A t → B u → EI t.2 u.2 = 0 → t.1 + u.1 ≠ 0 → C (t.1 + u.1, t.2)) {p q : List Tm} (hp : ∀ t ∈ p, A t) (hq : ∀ t ∈ q, B t) : ∀ t ∈ LD p q, C t := by
  refine UN (P := fun p q r => (∀ t ∈ p, A t) → (∀ t ∈ q, B t) → ∀ t ∈ r, C t) ?_ ?_ ?_ ?_ ?_ ?_ _ p q (Nat.le_refl _) hp hq
  · intro q _ h t v; exact hb t (h t v)
  · intro p h _ t v; exact ha t (h t v)
  · intro t u p q r _ o l k x f
    rcases List.mem_cons.1 f with rfl | f
    · exact ha _ (l _ AH)
    · exact o (fun y e => l y (by simp [e])) k x f
  · intro t u p q r _ o l k x f
    rcases List.mem_cons.1 f with rfl | f
    · exact hb _ (k _ AH)
    · exact o l (fun y e => k y (by simp [e])) x f
  · intro t u p q r _ _ o l k
    exact o (fun y e => l y (by simp [e])) (fun y e => k y (by simp [e]))
  · intro t u p q r D z o l k x f
    rcases List.mem_cons.1 f with rfl | f
    · exact hab t u (l t AH) (k u AH) D z
    · exact o (fun y e => l y (by simp [e])) (fun y e => k y (by simp [e])) x f
theorem vP (p q : List Tm) : (LD p q).length ≤ p.length + q.length := by
  refine UN (P := fun p q r => r.length ≤ p.length + q.length) ?_ ?_ ?_ ?_ ?_ ?_ _ p q (Nat.le_refl _) <;> intros <;> simp only [List.length_cons, List.length_nil] at * <;> omega
def Tv (M : List Nat) (p : List Tm) : Prop := ∀ t, p.head? = some t → EI M t.2 = 1
theorem It {t : Tm} {p : List Tm} : wH (t :: p) ↔ Tv t.2 p ∧ wH p := by
  constructor
  · intro h
    refine ⟨fun u k => h 0 t u O ?_, fun i a b e f => h (i + 1) a b e f⟩
    rw [List.head?_eq_getElem?] at k; exact k
  · rintro ⟨o, l⟩ i a b e f
    cases i with
    | zero => simp at e; subst e; exact o b (by rw [List.head?_eq_getElem?]; exact f)
    | succ i => exact l i a b e f
theorem aP : ∀ {a b c : List Nat}, a.length = b.length → b.length = c.length → EI a b = 1 → EI b c = 1 → EI a c = 1
  | [], [], [], _, _, h, _ => by simp [EI] at h
  | x :: a, y :: b, z :: c, h1, h2, g1, g2 => by
    have h1' : a.length = b.length := by simpa using h1
    have h2' : b.length = c.length := by simpa using h2
    unfold EI at g1 g2 ⊢
    by_cases e1 : x < y
    · simp [e1] at g1
    · by_cases e2 : y < z
      · simp [e2] at g2
      · rw [if_neg e1] at g1; rw [if_neg e2] at g2
        rw [if_neg AA]
        by_cases e3 : y < x
        · rw [if_pos AA]
        · by_cases e4 : z < y
          · rw [if_pos AA]
          · rw [if_neg e3] at g1; rw [if_neg e4] at g2
            rw [if_neg AA]
            exact aP h1' h2' g1 g2
  | [], [], _ :: _, _, h, _, _ => by simp at h
  | [], _ :: _, _, h, _, _, _ => by simp at h
  | _ :: _, [], _, h, _, _, _ => by simp at h
  | _ :: _, _ :: _, [], _, h, _, _ => by simp at h
theorem PolyOk_cons {t : Tm} {p : List Tm} : EJ (t :: p) ↔ (t.1 ≠ 0 ∧ EK t.2) ∧ Tv t.2 p ∧ EJ p := by
  unfold EJ
  rw [It]
  simp only [List.mem_cons, forall_eq_or_imp]
  constructor
  · rintro ⟨⟨k, h⟩, f, e⟩; exact ⟨k, f, h, e⟩
  · rintro ⟨k, f, h, e⟩; exact ⟨⟨k, h⟩, f, e⟩
theorem Td {p q : List Tm} (hp : EJ p) (hq : EJ q) : EJ (LD p q) := by
  have L : EJ p → EJ q → EJ (LD p q) ∧ ∀ M, M.length = 8 → Tv M p → Tv M q → Tv M (LD p q) := by
    refine UN (P := fun p q r => EJ p → EJ q → EJ r ∧ ∀ M, M.length = 8 → Tv M p → Tv M q → Tv M r) ?_ ?_ ?_ ?_ ?_ ?_ _ p q (Nat.le_refl _)
    · exact fun q _ h => ⟨h, fun _ _ _ h => h⟩
    · exact fun p h _ => ⟨h, fun _ _ h _ => h⟩
    · intro t u p q r H z F D
      obtain ⟨k, G, o⟩ := PolyOk_cons.1 F
      obtain ⟨y, v⟩ := z o D
      have C : EI t.2 u.2 = 1 := by rcases YZ t.2 u.2 with e | e | e <;> omega
      refine ⟨PolyOk_cons.2 ⟨k, v _ k.2.1 G (fun x f => ?_), y⟩, fun M _ l _ x f => ?_⟩
      · simp at f; subst f; exact C
      · simp at f; subst f; exact l _ rfl
    · intro t u p q r H z F D
      obtain ⟨k, G, o⟩ := PolyOk_cons.1 D
      obtain ⟨y, v⟩ := z F o
      have C : EI u.2 t.2 = 1 := by rw [ZA t.2 u.2]; rcases YZ t.2 u.2 with e | e | e <;> omega
      refine ⟨PolyOk_cons.2 ⟨k, v _ k.2.1 (fun x f => ?_) G, y⟩, fun M _ _ l x f => ?_⟩
      · simp at f; subst f; exact C
      · simp at f; subst f; exact l _ rfl
    · intro t u p q r H Q z F D
      obtain ⟨k, G, o⟩ := PolyOk_cons.1 F
      obtain ⟨I, N, J⟩ := PolyOk_cons.1 D
      obtain ⟨y, v⟩ := z o J
      have R : t.2 = u.2 := (lN (by rw [k.2.1, I.2.1])).1 H
      refine ⟨y, fun M l T S => v M l (fun x f => ?_) (fun x f => ?_)⟩
      · have B : x ∈ p := List.mem_of_mem_head? f
        exact aP (by rw [l, k.2.1]) (by rw [k.2.1, (o.1 x B).2.1]) (T t rfl) (G x f)
      · have B : x ∈ q := List.mem_of_mem_head? f
        exact aP (by rw [l, I.2.1]) (by rw [I.2.1, (J.1 x B).2.1]) (S u rfl) (N x f)
    · intro t u p q r H Q z F D
      obtain ⟨k, G, o⟩ := PolyOk_cons.1 F
      obtain ⟨I, N, J⟩ := PolyOk_cons.1 D
      obtain ⟨y, v⟩ := z o J
      have R : t.2 = u.2 := (lN (by rw [k.2.1, I.2.1])).1 H
      refine ⟨PolyOk_cons.2 ⟨⟨Q, k.2⟩, v _ k.2.1 G (by show Tv t.2 q; rw [R]; exact N), y⟩, fun M _ l _ x f => ?_⟩
      simp at f; subst f; exact l t rfl
  exact (L hp hq).1
def KD (c : Rat) (m : List Nat) (p : List Tm) : List Tm := if c = 0 then [] else p.map fun t => (c * t.1, OG m t.2 8)
theorem fL {c : Rat} {m : List Nat} {p : List Tm} (h : c = 0) : KD c m p = [] := by unfold KD; rw [if_pos h]
theorem ZQ (c : Rat) (m : List Nat) (p : List Tm) : (KD c m p).length ≤ p.length := by unfold KD; split <;> simp
theorem sQ {c : Rat} {m : List Nat} {p : List Tm} {i : Nat} {t : Tm} (h : ¬ c = 0) (hx : p[i]? = some t) : KD c m (p.take (i + 1)) = KD c m (p.take i) ++ [(c * t.1, OG m t.2 8)] := by
  unfold KD; rw [if_neg h, if_neg h]
  have e := (List.getElem?_eq_some_iff.1 hx).1
  rw [List.take_succ_eq_append_getElem e, List.map_append, (List.getElem?_eq_some_iff.1 hx).2]; rfl
theorem Gu {m : List Nat} (hm : EK m) : OG zeroM m 8 = m := by
  refine List.ext_getElem (by rw [PP, hm.1]) fun i f h => ?_
  have e : i < 8 := by rw [PP] at f; exact f
  rw [← RP f, ← RP h, kO zeroM m 8 e, if_pos e]
  have : me zeroM i = 0 := by
    have : ∀ j, j < 8 → me zeroM j = 0 := by decide
    exact this i e
  omega
def RH (c : Rat) (p : List Tm) : List Tm := KD c zeroM p
theorem Fk {c : Rat} {p : List Tm} (hp : ∀ t ∈ p, EK t.2) (h : ¬ c = 0) : RH c p = p.map fun t => (c * t.1, t.2) := by
  unfold RH KD; rw [if_neg h]
  refine List.map_congr_left fun t e => ?_
  rw [Gu (hp t e)]
def Ux (p q : List Tm) : List Tm := LD p (RH ((-1 : Int) : Rat) q)
def MR (c : Rat) : List Tm := if c = 0 then [] else [(c, zeroM)]
end Go.Proofs.YtmppigbbkjepiaaGreatDoor
