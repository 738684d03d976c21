/- Helping facts of IsL; no other conditions. Helping facts of AddP; no other conditions. Helping facts of SysR; no other conditions. -/
import Derived.Test.YtmppigbbkjepiaaGreatDoorSysV
namespace Go.Proofs.YtmppigbbkjepiaaGreatDoor
open Go.Proofs.Tryz
open Go.RowKit W
variable {c : Rat} {i id k : Nat} {m : List Nat}
theorem Y1T {p : Prop} (h : p := by simp only; omega) : p := h
theorem IR : Fn prog 79 := ⟨_, func79, by kernel_rfl, rfl⟩
theorem FH : Fn prog 125 := ⟨_, func125, by kernel_rfl, rfl⟩
theorem IZ : Fn prog 52 := ⟨_, func52, by kernel_rfl, rfl⟩
theorem JV : Fn prog 41 := ⟨_, func41, by kernel_rfl, rfl⟩
theorem JU : Fn prog 148 := ⟨_, func148, by kernel_rfl, rfl⟩
theorem VF : Fn prog 87 := ⟨_, func87, by kernel_rfl, rfl⟩
theorem NW : Fn prog 49 := ⟨_, func49, by kernel_rfl, rfl⟩
theorem JO : Fn prog 50 := ⟨_, func50, by kernel_rfl, rfl⟩
set_option maxRecDepth 100000 in
set_option maxHeartbeats 8000000 in
theorem YT (vl : Value) (l : List Bs) (w : World) (hRl : IsR elS (CX w.heap.size) w vl l) (hL : l.length <= 1000000) :
 Calls prog 36 #[vl] w (LI w (DL 8 l)) := by
 have E := Env.start w
 obtain ⟨o, f, rfl, a1, a0⟩ := hRl.shp
 replace E := E.r hRl (DF _)
 go_enter func36, ntmps36
 by_cases hk : ((l.length : Nat) : Int) > 8
 . refine yG ?_
   exact ⟨CS (dZ AA), E.2.1⟩
 refine yG ?_
 refine wp_loop_ghost (fun Y a U => ∃ (i : Nat) (p : List Value), p = a.tmps.toList /\ a = ⟨(.slice o l.length f :: gr p 1 4 (.slice o l.length f :: .int .i64 ↑l.length :: .bool false :: .slice o l.length f :: .int .i64 ↑l.length :: .int .i64 ↑i :: gr p 11 17 [])).toArray, []⟩ /\ Env U [fR elS (CX w.heap.size) (.slice o l.length f) l, fW w] /\ Y = l.length - i /\ (i <= l.length /\ aW l i)) (l.length) ⟨0, _, O, O, zE, O, ⟨Nat.zero_le _, WE l⟩⟩ ?_
 rintro m1 _ w1 ⟨i, p, -, rfl, E, C, u⟩
 dsimp only [gr, Nat.reduceAdd]
 obtain ⟨u, I⟩ := u
 by_cases H : i < l.length
 case neg =>
  refine yG ?_
  exact ⟨CS (kW I H AA), E.2.1⟩
 obtain ⟨k, h⟩ : ∃ x, l[i]? = some x := ⟨_, List.getElem?_eq_getElem H⟩
 obtain ⟨z, X, _, q, G, F, B⟩ := IsR.at E.1.1 h
 obtain rfl := (show _ = [Value.string (bs k)] from B)
 have D : z < _ := E.1.2 _ G
 replace E := E.c F D
 by_cases t : LD k = true
 case neg =>
  refine yG ?_
  refine fY O O q O (List.getElem?_eq_some_iff.1 h).1 ?_
  refine yG ?_
  refine EF O (JX (s := (bs k)) O O ?_)
  intro J w9 e9 z9 d9 P
  replace E := E.below d9
  clear e9
  replace E := E.x P
  refine yG ?_
  refine V (v := .agg #[.slice (some ⟨J, 0, none⟩) 1 1, .slice none 0 0, .slice none 0 0, .int .i64 1]) O O (OI O O O) ?_
  refine yG ?_
  refine EF O (CA IH O (CU ((sD k).trans (DE t)) (TR (.slice (some ⟨J, 0, none⟩) 1 1) ([k]) (.slice none 0 0) ([]) (.slice none 0 0) ([]) 1 _ (IsR.lit1 E.1 O) (IsR.nil _ _ _) (IsR.nil _ _ _) NM NM AH)) O E ?_)
  intro T a2 E
  refine yG ?_
  exact ⟨CS (dY h (DE t)), e3 E⟩
 by_cases y : k ∈ l.take i
 case pos =>
  refine yG ?_
  refine fY O O q O (List.getElem?_eq_some_iff.1 h).1 ?_
  refine yG ?_
  refine EF O (JX (s := (bs k)) O O ?_)
  intro N w3 e3 z3 d3 R
  replace E := E.below d3
  clear e3
  replace E := E.x R
  refine yG ?_
  refine V (v := .agg #[.slice (some ⟨N, 0, none⟩) 1 1, .slice none 0 0, .slice none 0 0, .int .i64 1]) O O (OI O O O) ?_
  refine yG ?_
  refine EF O (CA IH O (CU ((sD k).trans t) (TR (.slice (some ⟨N, 0, none⟩) 1 1) ([k]) (.slice none 0 0) ([]) (.slice none 0 0) ([]) 1 _ (IsR.lit1 E.1 O) (IsR.nil _ _ _) (IsR.nil _ _ _) NM NM AH)) O E ?_)
  intro w4 d4 E
  refine yG ?_
  refine V (v := .slice o i f) Z O (QQ (i := i) (sz := 1) O underlying30 Z O O O AA) ?_
  replace E := E.r (e := elS) (S := CX w.heap.size) (IsR.take E.2.2.1.1 AA) (E.2.2.1.2)
  refine yG ?_
  refine EF O (CA IR O (CU (decide_eq_true y) (oV _ (l.take i) k _ (BW E.1))) O E ?_)
  intro w5 d5 E
  refine yG ?_
  exact ⟨CS (kX h y), e4 E⟩
 refine yG ?_
 refine fY O O q O (List.getElem?_eq_some_iff.1 h).1 ?_
 refine yG ?_
 refine EF O (JX (s := (bs k)) O O ?_)
 intro L w6 e6 z6 d6 Q
 replace E := E.below d6
 clear e6
 replace E := E.x Q
 refine yG ?_
 refine V (v := .agg #[.slice (some ⟨L, 0, none⟩) 1 1, .slice none 0 0, .slice none 0 0, .int .i64 1]) O O (OI O O O) ?_
 refine yG ?_
 refine EF O (CA IH O (CU ((sD k).trans t) (TR (.slice (some ⟨L, 0, none⟩) 1 1) ([k]) (.slice none 0 0) ([]) (.slice none 0 0) ([]) 1 _ (IsR.lit1 E.1 O) (IsR.nil _ _ _) (IsR.nil _ _ _) NM NM AH)) O E ?_)
 intro w7 d7 E
 refine yG ?_
 refine V (v := .slice o i f) Z O (QQ (i := i) (sz := 1) O underlying30 Z O O O AA) ?_
 replace E := E.r (e := elS) (S := CX w.heap.size) (IsR.take E.2.2.1.1 AA) (E.2.2.1.2)
 refine yG ?_
 refine EF O (CA IR O (CU (decide_eq_false y) (oV _ (l.take i) k _ (BW E.1))) O E ?_)
 intro w8 d8 E
 refine yG ?_
 exact ⟨_, (by rw [C]; omega), (i + 1), _, O, O, zE, O, ⟨by omega, WF I h t y⟩⟩
def KZ : List Tm -> List Tm -> List Tm
 | [], q => q
 | t :: p, [] => t :: p
 | t :: p, u :: q => if 0 < ES t.2 u.2 then t :: KZ p (u :: q) else if ES t.2 u.2 < 0 then u :: KZ (t :: p) q else if t.1 + u.1 = 0 then KZ p q else (t.1 + u.1, t.2) :: KZ p q
termination_by p q => p.length + q.length
theorem fQ (p : List Tm) : KZ p [] = p := by cases p <;> rw [KZ]
theorem rV (q : List Tm) : KZ [] q = q := by rw [KZ]
theorem Gm {t u : Tm} {p q : List Tm} (h : 0 < ES t.2 u.2) : KZ (t :: p) (u :: q) = t :: KZ p (u :: q) := by rw [KZ, if_pos h]
theorem Gl {t u : Tm} {p q : List Tm} (h : ¬ 0 < ES t.2 u.2) (h2 : ES t.2 u.2 < 0) : KZ (t :: p) (u :: q) = u :: KZ (t :: p) q := by rw [KZ, if_neg h, if_pos h2]
theorem Qt {t u : Tm} {p q : List Tm} (h : ¬ 0 < ES t.2 u.2) (h2 : ¬ ES t.2 u.2 < 0) (h3 : t.1 + u.1 = 0) : KZ (t :: p) (u :: q) = KZ p q := by rw [KZ, if_neg h, if_neg h2, if_pos h3]
theorem Gk {t u : Tm} {p q : List Tm} (h : ¬ 0 < ES t.2 u.2) (h2 : ¬ ES t.2 u.2 < 0) (h3 : ¬ t.1 + u.1 = 0) : KZ (t :: p) (u :: q) = (t.1 + u.1, t.2) :: KZ p q := by rw [KZ, if_neg h, if_neg h2, if_neg h3]
theorem oI : ∀ {a b : List Nat}, a.length = b.length -> (ES a b = 0 ↔ a = b)
 | [], [], _ => by simp [ES]
 | x :: a, y :: b, h => by
   have h' : a.length = b.length := by simpa using h
   have := oI h'
   unfold ES
   by_cases h1 : x < y
   . simp [h1]; omega
   by_cases h2 : y < x
   . simp [h1, h2]; omega
   have : x = y := by omega
   subst this; simp [this]
 | [], _ :: _, h => by simp at h
 | _ :: _, [], h => by simp at h
theorem VK {P : List Tm -> List Tm -> List Tm -> Prop} (h1 : ∀ q, P [] q q) (h2 : ∀ p, P p [] p) (h3 : ∀ t u p q r, 0 < ES t.2 u.2 -> P p (u :: q) r -> P (t :: p) (u :: q) (t :: r))
 (h4 : ∀ t u p q r, ES t.2 u.2 < 0 -> P (t :: p) q r -> P (t :: p) (u :: q) (u :: r)) (h5 : ∀ t u p q r, ES t.2 u.2 = 0 -> t.1 + u.1 = 0 -> P p q r -> P (t :: p) (u :: q) r)
 (h6 : ∀ t u p q r, ES t.2 u.2 = 0 -> t.1 + u.1 ≠ 0 -> P p q r -> P (t :: p) (u :: q) ((t.1 + u.1, t.2) :: r)) : ∀ (n : Nat) (p q : List Tm), p.length + q.length <= n -> P p q (KZ p q)
 | _, [], q, _ => by rw [rV]; exact h1 q
 | _, t :: p, [], _ => by rw [fQ]; exact h2 _
 | 0, t :: p, u :: q, hn => by simp at hn
 | n + 1, t :: p, u :: q, hn => by
   by_cases g1 : 0 < ES t.2 u.2
   . rw [Gm g1]; exact h3 t u p q _ g1 (VK h1 h2 h3 h4 h5 h6 n p (u :: q) (by simp at hn ⊢; omega))
   by_cases g2 : ES t.2 u.2 < 0
   . rw [Gl g1 g2]; exact h4 t u p q _ g2 (VK h1 h2 h3 h4 h5 h6 n (t :: p) q (by simp at hn ⊢; omega))
   have ih := VK h1 h2 h3 h4 h5 h6 n p q (by simp at hn ⊢; omega)
   by_cases g3 : t.1 + u.1 = 0
   . rw [Qt g1 g2 g3]; exact h5 t u p q _ AA g3 ih
   rw [Gk g1 g2 g3]; exact h6 t u p q _ AA g3 ih
theorem fT {A B C : Tm -> Prop} (ha : ∀ t, A t -> C t) (hb : ∀ t, B t -> C t) (hab : ∀ t u, A t -> B u -> ES t.2 u.2 = 0 -> t.1 + u.1 ≠ 0 -> C (t.1 + u.1, t.2)) {p q : List Tm} (hp : ∀ t ∈ p, A t) (hq : ∀ t ∈ q, B t) : ∀ t ∈ KZ p q, C t := by
 refine VK (P := fun p q r => (∀ t ∈ p, A t) -> (∀ t ∈ q, B t) -> ∀ t ∈ r, C t) ?_ ?_ ?_ ?_ ?_ ?_ _ p q (Nat.le_refl _) hp hq
 . intro q _ h t v; exact hb t (h t v)
 . intro p h _ t v; exact ha t (h t v)
 . intro t u p q r _ o l k x f
   rcases List.mem_cons.1 f with rfl | f
   . exact ha _ (l _ AH)
   exact o (fun y e => l y (by simp [e])) k x f
 . intro t u p q r _ o l k x f
   rcases List.mem_cons.1 f with rfl | f
   . exact hb _ (k _ AH)
   exact o l (fun y e => k y (by simp [e])) x f
 . intro t u p q r _ _ o l k
   exact o (fun y e => l y (by simp [e])) (fun y e => k y (by simp [e]))
 intro t u p q r D z o l k x f
 rcases List.mem_cons.1 f with rfl | f
 . exact hab t u (l t AH) (k u AH) D z
 exact o (fun y e => l y (by simp [e])) (fun y e => k y (by simp [e])) x f
theorem oN (p q : List Tm) : (KZ p q).length <= p.length + q.length := by
 refine VK (P := fun p q r => r.length <= p.length + q.length) ?_ ?_ ?_ ?_ ?_ ?_ _ p q (Nat.le_refl _) <;> intros <;> simp only [List.length_cons, List.length_nil] at * <;> omega
def Wy (M : List Nat) (p : List Tm) : Prop := ∀ t, p.head? = some t -> ES M t.2 = 1
theorem Kq {t : Tm} {p : List Tm} : zT (t :: p) ↔ Wy t.2 p /\ zT p := by
 constructor
 . intro h
   refine ⟨fun u k => h 0 t u O ?_, fun i a b e f => h (i + 1) a b e f⟩
   rw [List.head?_eq_getElem?] at k; exact k
 rintro ⟨o, l⟩ i a b e f
 cases i with
 | zero => simp at e; subst e; exact o b (by rw [List.head?_eq_getElem?]; exact f)
 | succ i => exact l i a b e f
theorem cB : ∀ {a b c : List Nat}, a.length = b.length -> b.length = c.length -> ES a b = 1 -> ES b c = 1 -> ES a c = 1
 | [], [], [], _, _, h, _ => by simp [ES] at h
 | x :: a, y :: b, z :: c, h1, h2, g1, g2 => by
   have h1' : a.length = b.length := by simpa using h1
   have h2' : b.length = c.length := by simpa using h2
   unfold ES at g1 g2 ⊢
   by_cases e1 : x < y
   . simp [e1] at g1
   by_cases e2 : y < z
   . simp [e2] at g2
   rw [if_neg e1] at g1; rw [if_neg e2] at g2
   rw [if_neg AA]
   by_cases e3 : y < x
   . rw [if_pos AA]
   by_cases e4 : z < y
   . rw [if_pos AA]
   rw [if_neg e3] at g1; rw [if_neg e4] at g2
   rw [if_neg AA]
   exact cB h1' h2' g1 g2
 | [], [], _ :: _, _, h, _, _ => by simp at h
 | [], _ :: _, _, h, _, _, _ => by simp at h
 | _ :: _, [], _, h, _, _, _ => by simp at h
 | _ :: _, _ :: _, [], _, h, _, _ => by simp at h
theorem PolyOk_cons {t : Tm} {p : List Tm} : ED (t :: p) ↔ (t.1 ≠ 0 /\ EG t.2) /\ Wy t.2 p /\ ED p := by
 unfold ED
 rw [Kq]
 simp only [List.mem_cons, forall_eq_or_imp]
 constructor
 . rintro ⟨⟨k, h⟩, f, e⟩; exact ⟨k, f, h, e⟩
 rintro ⟨k, f, h, e⟩; exact ⟨⟨k, h⟩, f, e⟩
theorem Gj {p q : List Tm} (hp : ED p) (hq : ED q) : ED (KZ p q) := by
 have L : ED p -> ED q -> ED (KZ p q) /\ ∀ M, M.length = 8 -> Wy M p -> Wy M q -> Wy M (KZ p q) := by
  refine VK (P := fun p q r => ED p -> ED q -> ED r /\ ∀ M, M.length = 8 -> Wy M p -> Wy M q -> Wy M r) ?_ ?_ ?_ ?_ ?_ ?_ _ p q (Nat.le_refl _)
  . exact fun q _ h => ⟨h, fun _ _ _ h => h⟩
  . exact fun p h _ => ⟨h, fun _ _ h _ => h⟩
  . intro t u p q r H z F D
    obtain ⟨k, G, o⟩ := PolyOk_cons.1 F
    obtain ⟨y, v⟩ := z o D
    have C : ES t.2 u.2 = 1 := by rcases aG t.2 u.2 with e | e | e <;> omega
    refine ⟨PolyOk_cons.2 ⟨k, v _ k.2.1 G (fun x f => ?_), y⟩, fun M _ l _ x f => ?_⟩
    . simp at f; subst f; exact C
    simp at f; subst f; exact l _ rfl
  . intro t u p q r H z F D
    obtain ⟨k, G, o⟩ := PolyOk_cons.1 D
    obtain ⟨y, v⟩ := z F o
    have C : ES u.2 t.2 = 1 := by rw [aH t.2 u.2]; rcases aG t.2 u.2 with e | e | e <;> omega
    refine ⟨PolyOk_cons.2 ⟨k, v _ k.2.1 (fun x f => ?_) G, y⟩, fun M _ _ l x f => ?_⟩
    . simp at f; subst f; exact C
    simp at f; subst f; exact l _ rfl
  . intro t u p q r H Q z F D
    obtain ⟨k, G, o⟩ := PolyOk_cons.1 F
    obtain ⟨I, N, J⟩ := PolyOk_cons.1 D
    obtain ⟨y, v⟩ := z o J
    have R : t.2 = u.2 := (oI (by rw [k.2.1, I.2.1])).1 H
    refine ⟨y, fun M l T S => v M l (fun x f => ?_) (fun x f => ?_)⟩
    . have B : x ∈ p := List.mem_of_mem_head? f
      exact cB (by rw [l, k.2.1]) (by rw [k.2.1, (o.1 x B).2.1]) (T t rfl) (G x f)
    have B : x ∈ q := List.mem_of_mem_head? f
    exact cB (by rw [l, I.2.1]) (by rw [I.2.1, (J.1 x B).2.1]) (S u rfl) (N x f)
  intro t u p q r H Q z F D
  obtain ⟨k, G, o⟩ := PolyOk_cons.1 F
  obtain ⟨I, N, J⟩ := PolyOk_cons.1 D
  obtain ⟨y, v⟩ := z o J
  have R : t.2 = u.2 := (oI (by rw [k.2.1, I.2.1])).1 H
  refine ⟨PolyOk_cons.2 ⟨⟨Q, k.2⟩, v _ k.2.1 G (by show Wy t.2 q; rw [R]; exact N), y⟩, fun M _ l _ x f => ?_⟩
  simp at f; subst f; exact l t rfl
 exact (L hp hq).1
def JY (c : Rat) (m : List Nat) (p : List Tm) : List Tm := if c = 0 then [] else p.map fun t => (c * t.1, OR m t.2 8)
theorem XX {p : List Tm} (h : c = 0) : JY c m p = [] := by unfold JY; rw [if_pos h]
theorem VR (c : Rat) (m : List Nat) (p : List Tm) : (JY c m p).length <= p.length := by unfold JY; split <;> simp
theorem vJ {p : List Tm} {t : Tm} (h : ¬ c = 0) (hx : p[i]? = some t) : JY c m (p.take (i + 1)) = JY c m (p.take i) ++ [(c * t.1, OR m t.2 8)] := by
 unfold JY; rw [if_neg h, if_neg h]
 have e := (List.getElem?_eq_some_iff.1 hx).1
 rw [List.take_succ_eq_append_getElem e, List.map_append, (List.getElem?_eq_some_iff.1 hx).2]; rfl
theorem Jb (hm : EG m) : OR zeroM m 8 = m := by
 refine List.ext_getElem (by rw [NU, hm.1]) fun i f h => ?_
 have e : i < 8 := by rw [NU] at f; exact f
 rw [<- QV f, <- QV h, hH zeroM m 8 e, if_pos e]
 have : me zeroM i = 0 := by
  have : ∀ j, j < 8 -> me zeroM j = 0 := by decide
  exact this i e
 omega
def SX (c : Rat) (p : List Tm) : List Tm := JY c zeroM p
theorem Ie {p : List Tm} (hp : ∀ t ∈ p, EG t.2) (h : ¬ c = 0) : SX c p = p.map fun t => (c * t.1, t.2) := by
 unfold SX JY; rw [if_neg h]
 refine List.map_congr_left fun t e => ?_
 rw [Jb (hp t e)]
def Xz (p q : List Tm) : List Tm := KZ p (SX ((-1 : Int) : Rat) q)
def KY (c : Rat) : List Tm := if c = 0 then [] else [(c, zeroM)]
theorem wX {α : Type} {l : List α} {x : α} (h : l[k]? = some x) (hk : k < i) : x ∈ l.take i := by
 obtain ⟨f, e⟩ := List.getElem?_eq_some_iff.1 h
 exact List.mem_take_iff_getElem.2 ⟨k, by omega, e⟩
theorem Hs {s : Sy} {p p' : List Tm} (h1 : s.eqs[i]? = some (id, p)) (h2 : s.neqs[k]? = some (id, p')) : GH s = false := by
 unfold GH
 have : ¬ ∀ i ∈ EL s.eqs, i ∉ EL s.neqs := fun f => f id (List.mem_map.2 ⟨_, List.mem_of_getElem? h1, rfl⟩) (List.mem_map.2 ⟨_, List.mem_of_getElem? h2, rfl⟩)
 simp [this]
theorem Sj {s : Sy} (h : ID s.vars.length s.next s.eqs = false) : GH s = false := by simp [GH, h]
theorem Lj {s : Sy} (h : ID s.vars.length s.next s.neqs = false) : GH s = false := by simp [GH, h]
theorem Cw {q r : List (Nat × List Tm)} {i : Nat} {p : List Tm} (h : ∀ x ∈ EL (q.take i), x ∉ EL r) (hx : q[i]? = some (id, p)) (hn : id ∉ EL r) : ∀ x ∈ EL (q.take (i + 1)), x ∉ EL r := oA h hx hn
theorem Nw {r : List (Nat × List Tm)} {id' : Nat} {p : List Tm} (h : id ∉ EL (r.take k)) (hx : r[k]? = some (id', p)) (hn : ¬ id = id') : id ∉ EL (r.take (k + 1)) := by
 rw [JG hx, QW]
 intro g
 rcases List.mem_append.1 g with g | g
 . exact h g
 simp at g; exact hn g
theorem Nx {r : List (Nat × List Tm)} (h : id ∉ EL (r.take k)) (hk : ¬ k < r.length) : id ∉ EL r := by rw [GQ hk] at h; exact h
theorem Cx {q r : List (Nat × List Tm)} {i : Nat} (h : ∀ x ∈ EL (q.take i), x ∉ EL r) (hi : ¬ i < q.length) : ∀ x ∈ EL r, x ∉ EL q := by
 rw [GQ hi] at h
 exact fun x e f => h x f e
set_option maxRecDepth 100000 in
set_option maxHeartbeats 8000000 in
theorem yV (vv : Value) (v : List Bs) (vq : Value) (q : List (Nat × List Tm)) (vr : Value) (r : List (Nat × List Tm)) (n : Nat) (w : World) (hRv : IsR elS (CX w.heap.size) w vv v) (hRq : IsR MS (CX w.heap.size) w vq q) (hRr : IsR MS (CX w.heap.size) w vr r) (hOq : PR q) (hOr : PR r) (hL : v.length <= 1000000) (hLq : q.length <= 1000000) (hLr : r.length <= 1000000) :
 Calls prog 29 #[.agg #[vv, vq, vr, .int .i64 ↑n]] w (LI w (GH ⟨v, q, r, n⟩)) := by
 have E := Env.start w
 obtain ⟨F, y, rfl, bq, bn⟩ := hRv.shp
 replace E := E.r hRv (DF _)
 obtain ⟨z, t, rfl, bt, bp⟩ := hRq.shp
 replace E := E.r hRq (DF _)
 obtain ⟨C, u, rfl, br, bo⟩ := hRr.shp
 replace E := E.r hRr (DF _)
 go_enter func29, ntmps29
 refine yG ?_
 refine EF O (CI (cs := [.slice F v.length y, .slice z q.length t, .slice C r.length u, .int .i64 ↑n]) O O ?_)
 intro B w1 e1 z1 d1 x1
 have l1 : w.heap.size <= B := by rw [e1]; exact (e3 E).size
 replace E := E.below d1
 clear e1
 replace E := E.x x1
 by_cases bk : ((v.length : Nat) : Int) > 4
 . refine yG ?_
   exact ⟨CS (SO (s := (⟨v, q, r, n⟩ : Sy)) (dZ (l := v) AA)), e4 E⟩
 by_cases bm : ((n : Nat) : Int) < 1
 . refine yG ?_
   exact ⟨CS (cV (s := (⟨v, q, r, n⟩ : Sy)) (.inl Y1T)), e4 E⟩
 by_cases bl : ((n : Nat) : Int) > 1000000
 . refine yG ?_
   exact ⟨CS (cV (s := (⟨v, q, r, n⟩ : Sy)) (.inr Y1T)), e4 E⟩
 by_cases X : ID v.length n q = true
 case neg =>
  refine yG ?_
  refine EF O (CA MO O (CU (DE X) (gA (.slice z q.length t) q v.length n _ (BW E.2.2.1) hOq AA hLq)) O E ?_)
  intro bb bw E
  refine yG ?_
  exact ⟨CS (Sj (s := (⟨v, q, r, n⟩ : Sy)) (DE X)), e4 E⟩
 by_cases a0 : ID v.length n r = true
 case neg =>
  refine yG ?_
  refine EF O (CA MO O (CU X (gA (.slice z q.length t) q v.length n _ (BW E.2.2.1) hOq AA hLq)) O E ?_)
  intro bd c0 E
  refine yG ?_
  refine EF O (CA MO O (CU (DE a0) (gA (.slice C r.length u) r v.length n _ (BW E.2.1) hOr AA hLr)) O E ?_)
  intro bc bx E
  refine yG ?_
  exact ⟨CS (Lj (s := (⟨v, q, r, n⟩ : Sy)) (DE a0)), e4 E⟩
 refine yG ?_
 refine EF O (CA MO O (CU X (gA (.slice z q.length t) q v.length n _ (BW E.2.2.1) hOq AA hLq)) O E ?_)
 intro w2 d2 E
 refine yG ?_
 refine EF O (CA MO O (CU a0 (gA (.slice C r.length u) r v.length n _ (BW E.2.1) hOr AA hLr)) O E ?_)
 intro w3 d3 E
 refine yG ?_
 refine wp_loop_ghost (fun mz a w' => ∃ (i : Nat) (f : List Value), f = a.tmps.toList /\ a = ⟨(.agg #[.slice F v.length y, .slice z q.length t, .slice C r.length u, .int .i64 ↑n] :: .pointer (some ⟨B, 0, none⟩) :: (CF f 2) :: .int .i64 ↑v.length :: .int .i64 ↑i :: (CF f 5) :: undef :: undef :: .pointer (some ⟨B, 0, none⟩) :: .slice F v.length y :: .int .i64 ↑v.length :: .int .i64 ↑v.length :: .bool false :: .bool false :: .pointer (some ⟨B, 3, none⟩) :: .int .i64 ↑n :: .bool false :: .bool false :: .bool false :: .pointer (some ⟨B, 3, none⟩) :: .int .i64 ↑n :: .bool false :: .bool false :: .bool false :: .pointer (some ⟨B, 1, none⟩) :: .slice z q.length t :: .int .i64 ↑v.length :: .pointer (some ⟨B, 3, none⟩) :: .int .i64 ↑n :: .bool true :: .bool false :: .bool false :: .bool false :: .pointer (some ⟨B, 2, none⟩) :: .slice C r.length u :: .int .i64 ↑v.length :: .pointer (some ⟨B, 3, none⟩) :: .int .i64 ↑n :: .bool true :: .bool false :: .bool false :: gr f 41 28 (undef :: undef :: undef :: undef :: undef :: undef :: undef :: undef :: undef :: undef :: undef :: undef :: undef :: undef :: undef :: undef :: undef :: undef :: undef :: undef :: undef :: undef :: undef :: undef :: undef :: undef :: undef :: [])).toArray, []⟩ /\ Env w' [fX B (48) ([.slice F v.length y, .slice z q.length t, .slice C r.length u, .int .i64 ↑n]), fR MS (CX w.heap.size) (.slice C r.length u) r, fR MS (CX w.heap.size) (.slice z q.length t) q, fR elS (CX w.heap.size) (.slice F v.length y) v, fW w] /\ mz = v.length - i /\ (i <= v.length /\ aW v i)) (v.length) ⟨0, _, O, O, zE, O, ⟨Nat.zero_le _, WE v⟩⟩ ?_
 rintro m4 _ w4 ⟨i, f, -, rfl, E, b2, au⟩
 dsimp only [gr, Nat.reduceAdd]
 obtain ⟨au, hJ⟩ := au
 by_cases hi : i < v.length
 case pos =>
  obtain ⟨R, J⟩ : ∃ x, v[i]? = some x := ⟨_, List.getElem?_eq_getElem hi⟩
  obtain ⟨Y, ag, _, a1, aq, b6, ax⟩ := IsR.at (e3 E).1 J
  obtain rfl := (show _ = [Value.string (bs R)] from ax)
  have b4 : Y < _ := (e3 E).2 _ aq
  replace E := E.c b6 b4
  have bv : Y < w.heap.size := aq
  refine yG ?_
  refine wp_loop_ghost (fun mz a w' => ∃ (k : Nat) (D : List Value), a = ⟨#[.agg #[.slice F v.length y, .slice z q.length t, .slice C r.length u, .int .i64 ↑n], .pointer (some ⟨B, 0, none⟩), CF D 0, .int .i64 ↑v.length, .int .i64 ↑i, .int .i64 ↑k, undef, undef, .pointer (some ⟨B, 0, none⟩), .slice F v.length y, .int .i64 ↑v.length, .int .i64 ↑v.length, .bool false, .bool false, .pointer (some ⟨B, 3, none⟩), .int .i64 ↑n, .bool false, .bool false, .bool false, .pointer (some ⟨B, 3, none⟩), .int .i64 ↑n, .bool false, .bool false, .bool false, .pointer (some ⟨B, 1, none⟩), .slice z q.length t, .int .i64 ↑v.length, .pointer (some ⟨B, 3, none⟩), .int .i64 ↑n, .bool true, .bool false, .bool false, .bool false, .pointer (some ⟨B, 2, none⟩), .slice C r.length u, .int .i64 ↑v.length, .pointer (some ⟨B, 3, none⟩), .int .i64 ↑n, .bool true, .bool false, .bool false, .int .i64 ↑i, .int .i64 ↑v.length, .bool true, CF f 44, CF f 45, CF D 1, CF D 2, CF D 3, CF D 4, CF D 5, CF D 6, CF D 7, CF D 8, CF D 9, CF D 10, CF D 11, CF D 12, CF D 13, CF D 14, CF D 15, CF D 16, CF f 62, CF f 63, CF f 64, CF f 65, CF f 66, CF f 67, CF f 68, undef, undef, undef, undef, undef, undef, undef, undef, undef, undef, undef, undef, undef, undef, undef, undef, undef, undef, undef, undef, undef, undef, undef, undef, undef, undef, undef], []⟩ /\ Env w' [fC Y (ag + i * 1) [.string (bs R)], fX B (48) ([.slice F v.length y, .slice z q.length t, .slice C r.length u, .int .i64 ↑n]), fR MS (CX w.heap.size) (.slice C r.length u) r, fR MS (CX w.heap.size) (.slice z q.length t) q, fR elS (CX w.heap.size) (.slice F v.length y) v, fW w] /\ mz = i - k /\ (k <= i /\ R ∉ v.take k)) (i) ⟨0, [CF f 2, CF f 46, CF f 47, CF f 48, CF f 49, CF f 50, CF f 51, CF f 52, CF f 53, CF f 54, CF f 55, CF f 56, CF f 57, CF f 58, CF f 59, CF f 60, CF f 61], O, zE, O, ⟨Nat.zero_le _, by simp⟩⟩ ?_
  rintro m6 _ w6 ⟨k, D, rfl, E, b0, ar⟩
  obtain ⟨ar, hK⟩ := ar
  by_cases hk : k < i
  case neg =>
   have hd : R ∉ v.take i := by rw [show k = i by omega] at hK; exact hK
   by_cases hn : LD R = true
   case neg =>
    refine yG ?_
    refine fY O O a1 O (List.getElem?_eq_some_iff.1 J).1 ?_
    refine yG ?_
    refine EF O (CA MP O (CU (DE hn) (gF R _)) O E ?_)
    intro w9 d9 E
    refine yG ?_
    exact ⟨CS (SO (s := (⟨v, q, r, n⟩ : Sy)) (dY (l := v) J (DE hn))), e5 E⟩
   refine yG ?_
   refine fY O O a1 O (List.getElem?_eq_some_iff.1 J).1 ?_
   refine yG ?_
   refine EF O (CA MP O (CU hn (gF R _)) O E ?_)
   intro w8 d8 E
   refine yG ?_
   exact ⟨_, (by rw [b2]; omega), (i + 1), _, O, O, zE, O, ⟨by omega, WF hJ J hn hd⟩⟩
  obtain ⟨x7, U⟩ : ∃ x, v[k]? = some x := ⟨_, List.getElem?_eq_getElem (show k < v.length by omega)⟩
  obtain ⟨ae, av, _, ao, ap, b5, aw⟩ := IsR.at (e4 E).1 U
  obtain rfl := (show _ = [Value.string (bs x7)] from aw)
  have b3 : ae < _ := (e4 E).2 _ ap
  replace E := E.c b5 b3
  have bu : ae < w.heap.size := ap
  by_cases he : R = x7
  case pos =>
   refine yG ?_
   refine sE E [0,1,2,3,4,5,6,7,8,9,10] ?_
   replace E := E.drew
   refine yG ?_
   refine Wh O O O a1 O (List.getElem?_eq_some_iff.1 J).1 ?_
   refine yG ?_
   refine Wh O O O ao O (List.getElem?_eq_some_iff.1 U).1 ?_
   refine yG ?_
   refine SW O O O O O (fun w hS => FT (a := R) (b := x7) (c := true) O O O (by rw [beq_iff_eq]; exact he)) ?_
   refine yG ?_
   exact ⟨CS (SO (s := (⟨v, q, r, n⟩ : Sy)) (kX (l := v) J (wX (by rw [he]; exact U) hk))), e6 E⟩
  refine yG ?_
  refine sE E [0,1,2,3,4,5,6,7,8,9,10] ?_
  replace E := E.drew
  refine yG ?_
  refine Wh O O O a1 O (List.getElem?_eq_some_iff.1 J).1 ?_
  refine yG ?_
  refine Wh O O O ao O (List.getElem?_eq_some_iff.1 U).1 ?_
  refine yG ?_
  refine SW O O O O O (fun w hS => FT (a := R) (b := x7) (c := false) O O O (by rw [beq_eq_false_iff_ne]; exact he)) ?_
  refine yG ?_
  exact ⟨_, (by rw [b0]; omega), (k + 1), [CF D 0, .int .i64 ↑k, .int .i64 ↑i, .bool true, .int .i64 ↑k, .int .i64 ↑(k + 1), .pointer (some ⟨B, 0, none⟩), .slice F v.length y, .int .i64 ↑i, .pointer (some ⟨Y, ag + i * 1, none⟩), .string (bs R), .pointer (some ⟨B, 0, none⟩), .slice F v.length y, .int .i64 ↑k, .pointer (some ⟨ae, av + k * 1, none⟩), .string (bs x7), .bool false], O, zE, O, ⟨by omega, aV hK U (fun e => he e.symm)⟩⟩
 have aj : DL 4 v = true := kW hJ hi AA
 refine yG ?_
 refine wp_loop_ghost (fun mz a w' => ∃ (I : Nat) (o : List Value), a = ⟨#[.agg #[.slice F v.length y, .slice z q.length t, .slice C r.length u, .int .i64 ↑n], .pointer (some ⟨B, 0, none⟩), CF o 0, .int .i64 ↑v.length, .int .i64 ↑i, CF f 5, .int .i64 ↑I, CF o 1, .pointer (some ⟨B, 0, none⟩), .slice F v.length y, .int .i64 ↑v.length, .int .i64 ↑v.length, .bool false, .bool false, .pointer (some ⟨B, 3, none⟩), .int .i64 ↑n, .bool false, .bool false, .bool false, .pointer (some ⟨B, 3, none⟩), .int .i64 ↑n, .bool false, .bool false, .bool false, .pointer (some ⟨B, 1, none⟩), .slice z q.length t, .int .i64 ↑v.length, .pointer (some ⟨B, 3, none⟩), .int .i64 ↑n, .bool true, .bool false, .bool false, .bool false, .pointer (some ⟨B, 2, none⟩), .slice C r.length u, .int .i64 ↑v.length, .pointer (some ⟨B, 3, none⟩), .int .i64 ↑n, .bool true, .bool false, .bool false, .int .i64 ↑i, .int .i64 ↑v.length, .bool false, CF f 44, CF f 45, CF f 46, CF f 47, CF f 48, CF f 49, CF f 50, CF f 51, CF f 52, CF f 53, CF f 54, CF f 55, CF f 56, CF f 57, CF f 58, CF f 59, CF f 60, CF f 61, CF f 62, CF f 63, CF f 64, CF f 65, CF f 66, CF f 67, CF f 68, CF o 2, CF o 3, CF o 4, CF o 5, CF o 6, CF o 7, CF o 8, CF o 9, CF o 10, CF o 11, CF o 12, CF o 13, CF o 14, CF o 15, CF o 16, CF o 17, CF o 18, CF o 19, CF o 20, CF o 21, CF o 22, CF o 23, CF o 24, CF o 25, CF o 26, CF o 27, CF o 28], []⟩ /\ Env w' [fX B (48) ([.slice F v.length y, .slice z q.length t, .slice C r.length u, .int .i64 ↑n]), fR MS (CX w.heap.size) (.slice C r.length u) r, fR MS (CX w.heap.size) (.slice z q.length t) q, fR elS (CX w.heap.size) (.slice F v.length y) v, fW w] /\ mz = q.length - I /\ (I <= q.length /\ ∀ x ∈ EL (q.take I), x ∉ EL r)) (q.length) ⟨0, [CF f 2, undef, undef, undef, undef, undef, undef, undef, undef, undef, undef, undef, undef, undef, undef, undef, undef, undef, undef, undef, undef, undef, undef, undef, undef, undef, undef, undef, undef], O, zE, O, ⟨Nat.zero_le _, fun x h => by simp [EL] at h⟩⟩ ?_
 rintro bj _ bg ⟨I, o, rfl, E, ai, ad⟩
 obtain ⟨ad, hJ⟩ := ad
 by_cases hi : I < q.length
 case neg =>
  refine yG ?_
  exact ⟨CS (sC (s := (⟨v, q, r, n⟩ : Sy)) aj Y1T Y1T X a0 (Cx hJ hi)), e4 E⟩
 obtain ⟨⟨H, af⟩, N⟩ : ∃ x, q[I]? = some x := ⟨_, List.getElem?_eq_getElem hi⟩
 obtain ⟨G, S, _, a9, ab, an, ⟨_, rfl, a7⟩⟩ := IsR.at E.2.2.1.1 N
 obtain ⟨a4, a3, rfl, az, _⟩ := a7.shp
 have al : G < _ := E.2.2.1.2 _ ab
 replace E := (E.r a7 E.2.2.1.2).c an al
 have ba : G < w.heap.size := ab
 refine yG ?_
 refine wp_loop_ghost (fun mz a w' => ∃ (P : Nat) (p : List Value), a = ⟨#[.agg #[.slice F v.length y, .slice z q.length t, .slice C r.length u, .int .i64 ↑n], .pointer (some ⟨B, 0, none⟩), CF p 0, .int .i64 ↑v.length, .int .i64 ↑i, CF f 5, .int .i64 ↑I, .int .i64 ↑P, .pointer (some ⟨B, 0, none⟩), .slice F v.length y, .int .i64 ↑v.length, .int .i64 ↑v.length, .bool false, .bool false, .pointer (some ⟨B, 3, none⟩), .int .i64 ↑n, .bool false, .bool false, .bool false, .pointer (some ⟨B, 3, none⟩), .int .i64 ↑n, .bool false, .bool false, .bool false, .pointer (some ⟨B, 1, none⟩), .slice z q.length t, .int .i64 ↑v.length, .pointer (some ⟨B, 3, none⟩), .int .i64 ↑n, .bool true, .bool false, .bool false, .bool false, .pointer (some ⟨B, 2, none⟩), .slice C r.length u, .int .i64 ↑v.length, .pointer (some ⟨B, 3, none⟩), .int .i64 ↑n, .bool true, .bool false, .bool false, .int .i64 ↑i, .int .i64 ↑v.length, .bool false, CF f 44, CF f 45, CF f 46, CF f 47, CF f 48, CF f 49, CF f 50, CF f 51, CF f 52, CF f 53, CF f 54, CF f 55, CF f 56, CF f 57, CF f 58, CF f 59, CF f 60, CF f 61, CF f 62, CF f 63, CF f 64, CF f 65, CF f 66, CF f 67, CF f 68, .int .i64 ↑I, .pointer (some ⟨B, 1, none⟩), .slice z q.length t, .int .i64 ↑q.length, .bool true, CF o 7, CF o 8, CF p 1, CF p 2, CF p 3, CF p 4, CF p 5, CF p 6, CF p 7, CF p 8, CF p 9, CF p 10, CF p 11, CF p 12, CF p 13, CF p 14, CF p 15, CF p 16, CF p 17, CF p 18, CF p 19, CF p 20], []⟩ /\ Env w' [fC G (S + I * 2) [.int .i64 ↑H, .slice a4 af.length a3], fR JL (CX w.heap.size) (.slice a4 af.length a3) af, fX B (48) ([.slice F v.length y, .slice z q.length t, .slice C r.length u, .int .i64 ↑n]), fR MS (CX w.heap.size) (.slice C r.length u) r, fR MS (CX w.heap.size) (.slice z q.length t) q, fR elS (CX w.heap.size) (.slice F v.length y) v, fW w] /\ mz = r.length - P /\ (P <= r.length /\ H ∉ EL (r.take P))) (r.length) ⟨0, [CF o 0, CF o 9, CF o 10, CF o 11, CF o 12, CF o 13, CF o 14, CF o 15, CF o 16, CF o 17, CF o 18, CF o 19, CF o 20, CF o 21, CF o 22, CF o 23, CF o 24, CF o 25, CF o 26, CF o 27, CF o 28], O, zE, O, ⟨Nat.zero_le _, by simp [EL]⟩⟩ ?_
 rintro bi _ bf ⟨P, p, rfl, E, ah, ac⟩
 obtain ⟨ac, hK⟩ := ac
 by_cases hk : P < r.length
 case neg =>
  refine yG ?_
  exact ⟨_, (by rw [ai]; omega), (I + 1), [CF p 0, .int .i64 ↑P, .int .i64 ↑I, .pointer (some ⟨B, 1, none⟩), .slice z q.length t, .int .i64 ↑q.length, .bool true, .int .i64 ↑I, .int .i64 ↑(I + 1), .int .i64 ↑P, .pointer (some ⟨B, 2, none⟩), .slice C r.length u, .int .i64 ↑r.length, .bool false, CF p 6, CF p 7, CF p 8, CF p 9, CF p 10, CF p 11, CF p 12, CF p 13, CF p 14, CF p 15, CF p 16, CF p 17, CF p 18, CF p 19, CF p 20], O, zE, O, ⟨by omega, Cw hJ N (Nx hK hk)⟩⟩
 obtain ⟨⟨T, bh⟩, L⟩ : ∃ x, r[P]? = some x := ⟨_, List.getElem?_eq_getElem hk⟩
 obtain ⟨Q, a2, _, a8, aa, am, ⟨_, rfl, a6⟩⟩ := IsR.at (e3 E).1 L
 obtain ⟨b8, b7, rfl, ay, _⟩ := a6.shp
 have ak : Q < _ := (e3 E).2 _ aa
 replace E := (E.r a6 (e3 E).2).c am ak
 have b9 : Q < w.heap.size := aa
 by_cases he : ((H : Nat) : Int) = ((T : Nat) : Int)
 . refine yG ?_
   refine sE E [0,1,2,3,4,5,6,7,8,9,10,11,12] ?_
   replace E := E.drew
   refine yG ?_
   refine RO O O O a9 O (List.getElem?_eq_some_iff.1 N).1 ?_
   refine yG ?_
   refine RO O O O a8 O (List.getElem?_eq_some_iff.1 L).1 ?_
   refine yG ?_
   exact ⟨CS (Hs (s := (⟨v, q, r, n⟩ : Sy)) N (by rw [show H = T by omega]; exact L)), e8 E⟩
 refine yG ?_
 refine sE E [0,1,2,3,4,5,6,7,8,9,10,11,12] ?_
 replace E := E.drew
 refine yG ?_
 refine RO O O O a9 O (List.getElem?_eq_some_iff.1 N).1 ?_
 refine yG ?_
 refine RO O O O a8 O (List.getElem?_eq_some_iff.1 L).1 ?_
 refine yG ?_
 exact ⟨_, (by rw [ah]; omega), (P + 1), [CF p 0, .int .i64 ↑P, .pointer (some ⟨B, 2, none⟩), .slice C r.length u, .int .i64 ↑r.length, .bool true, .int .i64 ↑P, .int .i64 ↑(P + 1), .pointer (some ⟨B, 1, none⟩), .slice z q.length t, .int .i64 ↑I, .pointer (some ⟨G, S + I * 2, none⟩), .pointer (some ⟨G, S + I * 2, none⟩), .int .i64 ↑H, .pointer (some ⟨B, 2, none⟩), .slice C r.length u, .int .i64 ↑P, .pointer (some ⟨Q, a2 + P * 2, none⟩), .pointer (some ⟨Q, a2 + P * 2, none⟩), .int .i64 ↑T, .bool false], O, zE, O, ⟨by omega, Nw hK L AA⟩⟩
end Go.Proofs.YtmppigbbkjepiaaGreatDoor
