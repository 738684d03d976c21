/- Lists of variables: package syntax's isList; the reference's Valid. (Printed by g_sys.py.) Valid systems: the reference's Valid. (Printed by g_sys.py.) -/
import Derived.Test.YtmppigbbkjepiaaGreatDoorSysV
namespace Go.Proofs.YtmppigbbkjepiaaGreatDoor
open Go.Proofs.Tryz
open Go.RowKit W
theorem HJ : Fn prog 79 := ⟨_, func79, by kernel_rfl, rfl⟩
theorem EL : Fn prog 125 := ⟨_, func125, by kernel_rfl, rfl⟩
theorem ID : Fn prog 52 := ⟨_, func52, by kernel_rfl, rfl⟩
theorem IZ : Fn prog 41 := ⟨_, func41, by kernel_rfl, rfl⟩
theorem IY : Fn prog 148 := ⟨_, func148, by kernel_rfl, rfl⟩
theorem TH : Fn prog 87 := ⟨_, func87, by kernel_rfl, rfl⟩
theorem MJ : Fn prog 49 := ⟨_, func49, by kernel_rfl, rfl⟩
theorem IU : Fn prog 50 := ⟨_, func50, by kernel_rfl, rfl⟩
set_option maxRecDepth 100000 in
set_option maxHeartbeats 8000000 in
theorem WE (vl : Value) (l : List Bs) (w : World) (hRl : IsR elS (DI w.heap.size) w vl l) (hL : l.length ≤ 1000000) :
    Calls prog 36 #[vl] w (JO w (DS 8 l)) := by
 have E := Env.start w
 obtain ⟨p, h, rfl, a3, a2⟩ := hRl.shp
 replace E := E.r hRl (DM _)
 clear hRl
 go_enter func36, ntmps36
 by_cases hk : ((l.length : Nat) : Int) > 8
 case pos =>
  refine yG ?_
  exact ⟨CP (iX Z), E.2.1⟩
 refine yG ?_
 refine wp_loop_ghost (fun mz a w' => ∃ (i : Nat) (f : List Value), f = a.tmps.toList ∧ a = ⟨#[.slice p l.length h, undef, CC f 2, CC f 3, CC f 4, .slice p l.length h, .int .i64 ↑l.length, .bool false, .slice p l.length h, .int .i64 ↑l.length, .int .i64 ↑i, CC f 11, CC f 12, CC f 13, CC f 14, CC f 15, CC f 16, CC f 17, CC f 18, CC f 19, CC f 20, CC f 21, CC f 22, CC f 23, CC f 24, CC f 25, CC f 26, CC f 27], []⟩ ∧ Env w' [fR elS (DI w.heap.size) (.slice p l.length h) l, fW w] ∧ mz = l.length - i ∧ (i ≤ l.length ∧ aT l i)) (l.length) ⟨0, _, O, O, zE, O, ⟨Nat.zero_le _, ZB l⟩⟩ ?_
 rintro m1 _ w1 ⟨i, f, -, rfl, E, C, u⟩
 obtain ⟨u, P⟩ := u
 by_cases N : i < l.length
 case neg =>
  refine yG ?_
  exact ⟨CP (oL P N Z), E.2.1⟩
 obtain ⟨o, k⟩ : ∃ x, l[i]? = some x := ⟨_, List.getElem?_eq_getElem N⟩
 obtain ⟨z, a1, _, q, G, F, B⟩ := IsR.at E.1.1 k
 obtain rfl := (show _ = [Value.string (bs o)] from B)
 have D : z < _ := E.1.2 _ G
 replace E := E.c F D
 by_cases t : QQ o = true
 case neg =>
  refine yG ?_
  refine mZ O O q O (List.getElem?_eq_some_iff.1 k).1 ?_
  refine yG ?_
  refine EF O (JB (s := (bs o)) O O ?_)
  intro U w9 e9 z9 Q H
  replace E := (E.below Q).x H
  clear e9 z9 Q H
  refine yG ?_
  refine V (v := .agg #[.slice (some ⟨U, 0, none⟩) 1 1, .slice none 0 0, .slice none 0 0, .int .i64 1]) O O (OU O O O) ?_
  refine yG ?_
  refine EF O (BY GU O (CQ ((nL o).trans (DF t)) (QZ (.slice (some ⟨U, 0, none⟩) 1 1) ([o]) (.slice none 0 0) ([]) (.slice none 0 0) ([]) 1 _ (IsR.lit1 E.1 O) (IsR.nil _ _ _) (IsR.nil _ _ _) LZ LZ AG)) O E ?_)
  clear E
  intro a0 _ E
  refine yG ?_
  exact ⟨CP (iW k (DF t)), e3 E⟩
 by_cases y : o ∈ l.take i
 case pos =>
  refine yG ?_
  refine mZ O O q O (List.getElem?_eq_some_iff.1 k).1 ?_
  refine yG ?_
  refine EF O (JB (s := (bs o)) O O ?_)
  intro Y w3 e3 z3 T L
  replace E := (E.below T).x L
  clear e3 z3 T L
  refine yG ?_
  refine V (v := .agg #[.slice (some ⟨Y, 0, none⟩) 1 1, .slice none 0 0, .slice none 0 0, .int .i64 1]) O O (OU O O O) ?_
  refine yG ?_
  refine EF O (BY GU O (CQ ((nL o).trans t) (QZ (.slice (some ⟨Y, 0, none⟩) 1 1) ([o]) (.slice none 0 0) ([]) (.slice none 0 0) ([]) 1 _ (IsR.lit1 E.1 O) (IsR.nil _ _ _) (IsR.nil _ _ _) LZ LZ AG)) O E ?_)
  clear E
  intro w4 _ E
  refine yG ?_
  refine V (v := .slice p i h) I O (dH (i := i) (sz := 1) O underlying30 I O O O Z) ?_
  replace E := E.r (e := elS) (S := DI w.heap.size) (IsR.take E.2.2.1.1 Z) (E.2.2.1.2)
  refine yG ?_
  refine EF O (BY HJ O (CQ (decide_eq_true y) (kJ _ (l.take i) o _ (BV E.1))) O E ?_)
  clear E
  intro w5 _ E
  refine yG ?_
  exact ⟨CP (oM k y), e4 E⟩
 refine yG ?_
 refine mZ O O q O (List.getElem?_eq_some_iff.1 k).1 ?_
 refine yG ?_
 refine EF O (JB (s := (bs o)) O O ?_)
 intro X w6 e6 z6 R J
 replace E := (E.below R).x J
 clear e6 z6 R J
 refine yG ?_
 refine V (v := .agg #[.slice (some ⟨X, 0, none⟩) 1 1, .slice none 0 0, .slice none 0 0, .int .i64 1]) O O (OU O O O) ?_
 refine yG ?_
 refine EF O (BY GU O (CQ ((nL o).trans t) (QZ (.slice (some ⟨X, 0, none⟩) 1 1) ([o]) (.slice none 0 0) ([]) (.slice none 0 0) ([]) 1 _ (IsR.lit1 E.1 O) (IsR.nil _ _ _) (IsR.nil _ _ _) LZ LZ AG)) O E ?_)
 clear E
 intro w7 _ E
 refine yG ?_
 refine V (v := .slice p i h) I O (dH (i := i) (sz := 1) O underlying30 I O O O Z) ?_
 replace E := E.r (e := elS) (S := DI w.heap.size) (IsR.take E.2.2.1.1 Z) (E.2.2.1.2)
 refine yG ?_
 refine EF O (BY HJ O (CQ (decide_eq_false y) (kJ _ (l.take i) o _ (BV E.1))) O E ?_)
 clear E
 intro w8 _ E
 refine yG ?_
 exact ⟨_, (by rw [C]; omega), (i + 1), _, O, O, zE, O, ⟨by omega, ZC P k t y⟩⟩
end Go.Proofs.YtmppigbbkjepiaaGreatDoor
namespace Go.Proofs.YtmppigbbkjepiaaGreatDoor
open Go.Proofs.Tryz
open Go.RowKit W
theorem rW {α : Type} {l : List α} {k i : Nat} {x : α} (h : l[k]? = some x) (hk : k < i) : x ∈ l.take i := by
  obtain ⟨f, e⟩ := List.getElem?_eq_some_iff.1 h
  exact List.mem_take_iff_getElem.2 ⟨k, by omega, e⟩
theorem Bl {s : Sy} {i k id : Nat} {p p' : List Tm} (h1 : s.eqs[i]? = some (id, p)) (h2 : s.neqs[k]? = some (id, p')) : GO s = false := by
  unfold GO
  have : ¬ ∀ i ∈ EM s.eqs, i ∉ EM s.neqs := fun f => f id (List.mem_map.2 ⟨_, List.mem_of_getElem? h1, rfl⟩) (List.mem_map.2 ⟨_, List.mem_of_getElem? h2, rfl⟩)
  simp [this]
theorem Kh {s : Sy} (h : IN s.vars.length s.next s.eqs = false) : GO s = false := by simp [GO, h]
theorem Et {s : Sy} (h : IN s.vars.length s.next s.neqs = false) : GO s = false := by simp [GO, h]
theorem wO {q r : List (Nat × List Tm)} {i id : Nat} {p : List Tm} (h : ∀ x ∈ EM (q.take i), x ∉ EM r) (hx : q[i]? = some (id, p)) (hn : id ∉ EM r) : ∀ x ∈ EM (q.take (i + 1)), x ∉ EM r := jN h hx hn
theorem Hd {r : List (Nat × List Tm)} {k id id' : Nat} {p : List Tm} (h : id ∉ EM (r.take k)) (hx : r[k]? = some (id', p)) (hn : ¬ id = id') : id ∉ EM (r.take (k + 1)) := by
  rw [JR hx, OZ]
  intro g
  rcases List.mem_append.1 g with g | g
  · exact h g
  · simp at g; exact hn g
theorem He {r : List (Nat × List Tm)} {k id : Nat} (h : id ∉ EM (r.take k)) (hk : ¬ k < r.length) : id ∉ EM r := by rw [IA hk] at h; exact h
theorem wP {q r : List (Nat × List Tm)} {i : Nat} (h : ∀ x ∈ EM (q.take i), x ∉ EM r) (hi : ¬ i < q.length) : ∀ x ∈ EM r, x ∉ EM q := by
  rw [IA hi] at h
  exact fun x e f => h x f e
set_option maxRecDepth 100000 in
set_option maxHeartbeats 8000000 in
theorem tK (vv : Value) (v : List Bs) (vq : Value) (q : List (Nat × List Tm)) (vr : Value) (r : List (Nat × List Tm)) (n : Nat) (w : World) (hRv : IsR elS (DI w.heap.size) w vv v) (hRq : IsR NH (DI w.heap.size) w vq q) (hRr : IsR NH (DI w.heap.size) w vr r) (hOq : MZ q) (hOr : MZ r) (hL : v.length ≤ 1000000) (hLq : q.length ≤ 1000000) (hLr : r.length ≤ 1000000) :
    Calls prog 29 #[.agg #[vv, vq, vr, .int .i64 ↑n]] w (JO w (GO ⟨v, q, r, n⟩)) := by
 have E := Env.start w
 obtain ⟨F, y, rfl, bo, bl⟩ := hRv.shp
 replace E := E.r hRv (DM _)
 clear hRv
 obtain ⟨z, t, rfl, bq, bn⟩ := hRq.shp
 replace E := E.r hRq (DM _)
 clear hRq
 obtain ⟨B, u, rfl, bp, bm⟩ := hRr.shp
 replace E := E.r hRr (DM _)
 clear hRr
 go_enter func29, ntmps29
 refine yG ?_
 refine EF O (CI (cs := [.slice F v.length y, .slice z q.length t, .slice B r.length u, .int .i64 ↑n]) O O ?_)
 intro C w1 e1 z1 d1 x1
 replace E := (E.below d1).x x1
 clear e1 z1 d1 x1
 by_cases bi : ((v.length : Nat) : Int) > 4
 case pos =>
  refine yG ?_
  exact ⟨CP (QG (s := (⟨v, q, r, n⟩ : Sy)) (iX (l := v) Z)), e4 E⟩
 by_cases bk : ((n : Nat) : Int) < 1
 case pos =>
  refine yG ?_
  exact ⟨CP (ZX (s := (⟨v, q, r, n⟩ : Sy)) (.inl (by simp only; omega))), e4 E⟩
 by_cases bj : ((n : Nat) : Int) > 1000000
 case pos =>
  refine yG ?_
  exact ⟨CP (ZX (s := (⟨v, q, r, n⟩ : Sy)) (.inr (by simp only; omega))), e4 E⟩
 by_cases Y : IN v.length n q = true
 case neg =>
  refine yG ?_
  refine EF O (BY LD O (CQ (DF Y) (bL (.slice z q.length t) q v.length n _ (BV E.2.2.1) hOq Z hLq)) O E ?_)
  clear E
  intro b9 _ E
  refine yG ?_
  exact ⟨CP (Kh (s := (⟨v, q, r, n⟩ : Sy)) (DF Y)), e4 E⟩
 by_cases a0 : IN v.length n r = true
 case neg =>
  refine yG ?_
  refine EF O (BY LD O (CQ Y (bL (.slice z q.length t) q v.length n _ (BV E.2.2.1) hOq Z hLq)) O E ?_)
  clear E
  intro bb _ E
  refine yG ?_
  refine EF O (BY LD O (CQ (DF a0) (bL (.slice B r.length u) r v.length n _ (BV E.2.1) hOr Z hLr)) O E ?_)
  clear E
  intro ba _ E
  refine yG ?_
  exact ⟨CP (Et (s := (⟨v, q, r, n⟩ : Sy)) (DF a0)), e4 E⟩
 refine yG ?_
 refine EF O (BY LD O (CQ Y (bL (.slice z q.length t) q v.length n _ (BV E.2.2.1) hOq Z hLq)) O E ?_)
 clear E
 intro w2 _ E
 refine yG ?_
 refine EF O (BY LD O (CQ a0 (bL (.slice B r.length u) r v.length n _ (BV E.2.1) hOr Z hLr)) O E ?_)
 clear E
 intro w3 _ E
 refine yG ?_
 refine wp_loop_ghost (fun mz a w' => ∃ (i : Nat) (f : List Value), f = a.tmps.toList ∧ a = ⟨#[.agg #[.slice F v.length y, .slice z q.length t, .slice B r.length u, .int .i64 ↑n], .pointer (some ⟨C, 0, none⟩), CC f 2, .int .i64 ↑v.length, .int .i64 ↑i, CC f 5, undef, undef, .pointer (some ⟨C, 0, none⟩), .slice F v.length y, .int .i64 ↑v.length, .int .i64 ↑v.length, .bool false, .bool false, .pointer (some ⟨C, 3, none⟩), .int .i64 ↑n, .bool false, .bool false, .bool false, .pointer (some ⟨C, 3, none⟩), .int .i64 ↑n, .bool false, .bool false, .bool false, .pointer (some ⟨C, 1, none⟩), .slice z q.length t, .int .i64 ↑v.length, .pointer (some ⟨C, 3, none⟩), .int .i64 ↑n, .bool true, .bool false, .bool false, .bool false, .pointer (some ⟨C, 2, none⟩), .slice B r.length u, .int .i64 ↑v.length, .pointer (some ⟨C, 3, none⟩), .int .i64 ↑n, .bool true, .bool false, .bool false, CC f 41, CC f 42, CC f 43, CC f 44, CC f 45, CC f 46, CC f 47, CC f 48, CC f 49, CC f 50, CC f 51, CC f 52, CC f 53, CC f 54, CC f 55, CC f 56, CC f 57, CC f 58, CC f 59, CC f 60, CC f 61, CC f 62, CC f 63, CC f 64, CC f 65, CC f 66, CC f 67, CC f 68, undef, undef, undef, undef, undef, undef, undef, undef, undef, undef, undef, undef, undef, undef, undef, undef, undef, undef, undef, undef, undef, undef, undef, undef, undef, undef, undef], []⟩ ∧ Env w' [fX C (48) ([.slice F v.length y, .slice z q.length t, .slice B r.length u, .int .i64 ↑n]), fR NH (DI w.heap.size) (.slice B r.length u) r, fR NH (DI w.heap.size) (.slice z q.length t) q, fR elS (DI w.heap.size) (.slice F v.length y) v, fW w] ∧ mz = v.length - i ∧ (i ≤ v.length ∧ aT v i)) (v.length) ⟨0, _, O, O, zE, O, ⟨Nat.zero_le _, ZB v⟩⟩ ?_
 rintro m4 _ w4 ⟨i, f, -, rfl, E, az, aq⟩
 obtain ⟨aq, hJ⟩ := aq
 by_cases hi : i < v.length
 case pos =>
  obtain ⟨R, J⟩ : ∃ x, v[i]? = some x := ⟨_, List.getElem?_eq_getElem hi⟩
  obtain ⟨ab, ad, _, a1, b6, b4, av⟩ := IsR.at (e3 E).1 J
  obtain rfl := (show _ = [Value.string (bs R)] from av)
  have b2 : ab < _ := (e3 E).2 _ b6
  replace E := E.c b4 b2
  refine yG ?_
  refine wp_loop_ghost (fun mz a w' => ∃ (k : Nat) (D : List Value), a = ⟨#[.agg #[.slice F v.length y, .slice z q.length t, .slice B r.length u, .int .i64 ↑n], .pointer (some ⟨C, 0, none⟩), CC D 0, .int .i64 ↑v.length, .int .i64 ↑i, .int .i64 ↑k, undef, undef, .pointer (some ⟨C, 0, none⟩), .slice F v.length y, .int .i64 ↑v.length, .int .i64 ↑v.length, .bool false, .bool false, .pointer (some ⟨C, 3, none⟩), .int .i64 ↑n, .bool false, .bool false, .bool false, .pointer (some ⟨C, 3, none⟩), .int .i64 ↑n, .bool false, .bool false, .bool false, .pointer (some ⟨C, 1, none⟩), .slice z q.length t, .int .i64 ↑v.length, .pointer (some ⟨C, 3, none⟩), .int .i64 ↑n, .bool true, .bool false, .bool false, .bool false, .pointer (some ⟨C, 2, none⟩), .slice B r.length u, .int .i64 ↑v.length, .pointer (some ⟨C, 3, none⟩), .int .i64 ↑n, .bool true, .bool false, .bool false, .int .i64 ↑i, .int .i64 ↑v.length, .bool true, CC f 44, CC f 45, CC D 1, CC D 2, CC D 3, CC D 4, CC D 5, CC D 6, CC D 7, CC D 8, CC D 9, CC D 10, CC D 11, CC D 12, CC D 13, CC D 14, CC D 15, CC D 16, CC f 62, CC f 63, CC f 64, CC f 65, CC f 66, CC f 67, CC f 68, undef, undef, undef, undef, undef, undef, undef, undef, undef, undef, undef, undef, undef, undef, undef, undef, undef, undef, undef, undef, undef, undef, undef, undef, undef, undef, undef], []⟩ ∧ Env w' [fC ab (ad + i * 1) [.string (bs R)], fX C (48) ([.slice F v.length y, .slice z q.length t, .slice B r.length u, .int .i64 ↑n]), fR NH (DI w.heap.size) (.slice B r.length u) r, fR NH (DI w.heap.size) (.slice z q.length t) q, fR elS (DI w.heap.size) (.slice F v.length y) v, fW w] ∧ mz = i - k ∧ (k ≤ i ∧ R ∉ v.take k)) (i) ⟨0, [CC f 2, CC f 46, CC f 47, CC f 48, CC f 49, CC f 50, CC f 51, CC f 52, CC f 53, CC f 54, CC f 55, CC f 56, CC f 57, CC f 58, CC f 59, CC f 60, CC f 61], O, zE, O, ⟨Nat.zero_le _, by simp⟩⟩ ?_
  rintro m6 _ w6 ⟨k, D, rfl, E, ay, ap⟩
  obtain ⟨ap, hK⟩ := ap
  by_cases hk : k < i
  case neg =>
   have hd : R ∉ v.take i := by rw [show k = i by omega] at hK; exact hK
   by_cases hn : QQ R = true
   case neg =>
    refine yG ?_
    refine mZ O O a1 O (List.getElem?_eq_some_iff.1 J).1 ?_
    refine yG ?_
    refine EF O (BY WI O (CQ (DF hn) (Au R _)) O E ?_)
    clear E
    intro w9 _ E
    refine yG ?_
    exact ⟨CP (QG (s := (⟨v, q, r, n⟩ : Sy)) (iW (l := v) J (DF hn))), e5 E⟩
   refine yG ?_
   refine mZ O O a1 O (List.getElem?_eq_some_iff.1 J).1 ?_
   refine yG ?_
   refine EF O (BY WI O (CQ hn (Au R _)) O E ?_)
   clear E
   intro w8 _ E
   refine yG ?_
   exact ⟨_, (by rw [az]; omega), (i + 1), _, O, O, zE, O, ⟨by omega, ZC hJ J hn hd⟩⟩
  obtain ⟨x7, X⟩ : ∃ x, v[k]? = some x := ⟨_, List.getElem?_eq_getElem (show k < v.length by omega)⟩
  obtain ⟨ae, ar, _, am, b5, b3, au⟩ := IsR.at (e4 E).1 X
  obtain rfl := (show _ = [Value.string (bs x7)] from au)
  have b0 : ae < _ := (e4 E).2 _ b5
  replace E := E.c b3 b0
  by_cases he : R = x7
  case pos =>
   refine yG ?_
   refine sE E [0,1,2,3,4,5,6,7,8,9,10] ?_
   replace E := E.drew
   refine yG ?_
   refine Ot O O O a1 O (List.getElem?_eq_some_iff.1 J).1 ?_
   refine yG ?_
   refine Ot O O O am O (List.getElem?_eq_some_iff.1 X).1 ?_
   refine yG ?_
   refine SW O O O O O (fun w hS => JY (a := R) (b := x7) (c := true) O O O (by rw [beq_iff_eq]; exact he)) ?_
   refine yG ?_
   exact ⟨CP (QG (s := (⟨v, q, r, n⟩ : Sy)) (oM (l := v) J (rW (by rw [he]; exact X) hk))), e6 E⟩
  refine yG ?_
  refine sE E [0,1,2,3,4,5,6,7,8,9,10] ?_
  replace E := E.drew
  refine yG ?_
  refine Ot O O O a1 O (List.getElem?_eq_some_iff.1 J).1 ?_
  refine yG ?_
  refine Ot O O O am O (List.getElem?_eq_some_iff.1 X).1 ?_
  refine yG ?_
  refine SW O O O O O (fun w hS => JY (a := R) (b := x7) (c := false) O O O (by rw [beq_eq_false_iff_ne]; exact he)) ?_
  refine yG ?_
  exact ⟨_, (by rw [ay]; omega), (k + 1), [CC D 0, .int .i64 ↑k, .int .i64 ↑i, .bool true, .int .i64 ↑k, .int .i64 ↑(k + 1), .pointer (some ⟨C, 0, none⟩), .slice F v.length y, .int .i64 ↑i, .pointer (some ⟨ab, ad + i * 1, none⟩), .string (bs R), .pointer (some ⟨C, 0, none⟩), .slice F v.length y, .int .i64 ↑k, .pointer (some ⟨ae, ar + k * 1, none⟩), .string (bs x7), .bool false], O, zE, O, ⟨by omega, kP hK X (fun e => he e.symm)⟩⟩
 have ah : DS 4 v = true := oL hJ hi Z
 refine yG ?_
 refine wp_loop_ghost (fun mz a w' => ∃ (H : Nat) (o : List Value), a = ⟨#[.agg #[.slice F v.length y, .slice z q.length t, .slice B r.length u, .int .i64 ↑n], .pointer (some ⟨C, 0, none⟩), CC o 0, .int .i64 ↑v.length, .int .i64 ↑i, CC f 5, .int .i64 ↑H, CC o 1, .pointer (some ⟨C, 0, none⟩), .slice F v.length y, .int .i64 ↑v.length, .int .i64 ↑v.length, .bool false, .bool false, .pointer (some ⟨C, 3, none⟩), .int .i64 ↑n, .bool false, .bool false, .bool false, .pointer (some ⟨C, 3, none⟩), .int .i64 ↑n, .bool false, .bool false, .bool false, .pointer (some ⟨C, 1, none⟩), .slice z q.length t, .int .i64 ↑v.length, .pointer (some ⟨C, 3, none⟩), .int .i64 ↑n, .bool true, .bool false, .bool false, .bool false, .pointer (some ⟨C, 2, none⟩), .slice B r.length u, .int .i64 ↑v.length, .pointer (some ⟨C, 3, none⟩), .int .i64 ↑n, .bool true, .bool false, .bool false, .int .i64 ↑i, .int .i64 ↑v.length, .bool false, CC f 44, CC f 45, CC f 46, CC f 47, CC f 48, CC f 49, CC f 50, CC f 51, CC f 52, CC f 53, CC f 54, CC f 55, CC f 56, CC f 57, CC f 58, CC f 59, CC f 60, CC f 61, CC f 62, CC f 63, CC f 64, CC f 65, CC f 66, CC f 67, CC f 68, CC o 2, CC o 3, CC o 4, CC o 5, CC o 6, CC o 7, CC o 8, CC o 9, CC o 10, CC o 11, CC o 12, CC o 13, CC o 14, CC o 15, CC o 16, CC o 17, CC o 18, CC o 19, CC o 20, CC o 21, CC o 22, CC o 23, CC o 24, CC o 25, CC o 26, CC o 27, CC o 28], []⟩ ∧ Env w' [fX C (48) ([.slice F v.length y, .slice z q.length t, .slice B r.length u, .int .i64 ↑n]), fR NH (DI w.heap.size) (.slice B r.length u) r, fR NH (DI w.heap.size) (.slice z q.length t) q, fR elS (DI w.heap.size) (.slice F v.length y) v, fW w] ∧ mz = q.length - H ∧ (H ≤ q.length ∧ ∀ x ∈ EM (q.take H), x ∉ EM r)) (q.length) ⟨0, [CC f 2, undef, undef, undef, undef, undef, undef, undef, undef, undef, undef, undef, undef, undef, undef, undef, undef, undef, undef, undef, undef, undef, undef, undef, undef, undef, undef, undef, undef], O, zE, O, ⟨Nat.zero_le _, fun x h => by simp [EM] at h⟩⟩ ?_
 rintro bh _ bd ⟨H, o, rfl, E, ag, aa⟩
 obtain ⟨aa, hJ⟩ := aa
 by_cases hi : H < q.length
 case neg =>
  refine yG ?_
  exact ⟨CP (nJ (s := (⟨v, q, r, n⟩ : Sy)) ah (by simp only; omega) (by simp only; omega) Y a0 (wP hJ hi)), e4 E⟩
 obtain ⟨⟨G, ac⟩, N⟩ : ∃ x, q[H]? = some x := ⟨_, List.getElem?_eq_getElem hi⟩
 obtain ⟨Q, S, _, a8, ao, al, ⟨_, rfl, a6⟩⟩ := IsR.at E.2.2.1.1 N
 obtain ⟨a4, a3, rfl, ax, _⟩ := a6.shp
 have aj : Q < _ := E.2.2.1.2 _ ao
 replace E := (E.r a6 E.2.2.1.2).c al aj
 refine yG ?_
 refine wp_loop_ghost (fun mz a w' => ∃ (P : Nat) (p : List Value), a = ⟨#[.agg #[.slice F v.length y, .slice z q.length t, .slice B r.length u, .int .i64 ↑n], .pointer (some ⟨C, 0, none⟩), CC p 0, .int .i64 ↑v.length, .int .i64 ↑i, CC f 5, .int .i64 ↑H, .int .i64 ↑P, .pointer (some ⟨C, 0, none⟩), .slice F v.length y, .int .i64 ↑v.length, .int .i64 ↑v.length, .bool false, .bool false, .pointer (some ⟨C, 3, none⟩), .int .i64 ↑n, .bool false, .bool false, .bool false, .pointer (some ⟨C, 3, none⟩), .int .i64 ↑n, .bool false, .bool false, .bool false, .pointer (some ⟨C, 1, none⟩), .slice z q.length t, .int .i64 ↑v.length, .pointer (some ⟨C, 3, none⟩), .int .i64 ↑n, .bool true, .bool false, .bool false, .bool false, .pointer (some ⟨C, 2, none⟩), .slice B r.length u, .int .i64 ↑v.length, .pointer (some ⟨C, 3, none⟩), .int .i64 ↑n, .bool true, .bool false, .bool false, .int .i64 ↑i, .int .i64 ↑v.length, .bool false, CC f 44, CC f 45, CC f 46, CC f 47, CC f 48, CC f 49, CC f 50, CC f 51, CC f 52, CC f 53, CC f 54, CC f 55, CC f 56, CC f 57, CC f 58, CC f 59, CC f 60, CC f 61, CC f 62, CC f 63, CC f 64, CC f 65, CC f 66, CC f 67, CC f 68, .int .i64 ↑H, .pointer (some ⟨C, 1, none⟩), .slice z q.length t, .int .i64 ↑q.length, .bool true, CC o 7, CC o 8, CC p 1, CC p 2, CC p 3, CC p 4, CC p 5, CC p 6, CC p 7, CC p 8, CC p 9, CC p 10, CC p 11, CC p 12, CC p 13, CC p 14, CC p 15, CC p 16, CC p 17, CC p 18, CC p 19, CC p 20], []⟩ ∧ Env w' [fC Q (S + H * 2) [.int .i64 ↑G, .slice a4 ac.length a3], fR KG (DI w.heap.size) (.slice a4 ac.length a3) ac, fX C (48) ([.slice F v.length y, .slice z q.length t, .slice B r.length u, .int .i64 ↑n]), fR NH (DI w.heap.size) (.slice B r.length u) r, fR NH (DI w.heap.size) (.slice z q.length t) q, fR elS (DI w.heap.size) (.slice F v.length y) v, fW w] ∧ mz = r.length - P ∧ (P ≤ r.length ∧ G ∉ EM (r.take P))) (r.length) ⟨0, [CC o 0, CC o 9, CC o 10, CC o 11, CC o 12, CC o 13, CC o 14, CC o 15, CC o 16, CC o 17, CC o 18, CC o 19, CC o 20, CC o 21, CC o 22, CC o 23, CC o 24, CC o 25, CC o 26, CC o 27, CC o 28], O, zE, O, ⟨Nat.zero_le _, by simp [EM]⟩⟩ ?_
 rintro bg _ bc ⟨P, p, rfl, E, af, a9⟩
 obtain ⟨a9, hK⟩ := a9
 by_cases hk : P < r.length
 case neg =>
  refine yG ?_
  exact ⟨_, (by rw [ag]; omega), (H + 1), [CC p 0, .int .i64 ↑P, .int .i64 ↑H, .pointer (some ⟨C, 1, none⟩), .slice z q.length t, .int .i64 ↑q.length, .bool true, .int .i64 ↑H, .int .i64 ↑(H + 1), .int .i64 ↑P, .pointer (some ⟨C, 2, none⟩), .slice B r.length u, .int .i64 ↑r.length, .bool false, CC p 6, CC p 7, CC p 8, CC p 9, CC p 10, CC p 11, CC p 12, CC p 13, CC p 14, CC p 15, CC p 16, CC p 17, CC p 18, CC p 19, CC p 20], O, zE, O, ⟨by omega, wO hJ N (He hK hk)⟩⟩
 obtain ⟨⟨U, bf⟩, L⟩ : ∃ x, r[P]? = some x := ⟨_, List.getElem?_eq_getElem hk⟩
 obtain ⟨T, a2, _, a7, an, ak, ⟨_, rfl, a5⟩⟩ := IsR.at (e3 E).1 L
 obtain ⟨b8, b7, rfl, aw, _⟩ := a5.shp
 have ai : T < _ := (e3 E).2 _ an
 replace E := (E.r a5 (e3 E).2).c ak ai
 by_cases he : ((G : Nat) : Int) = ((U : Nat) : Int)
 case pos =>
  refine yG ?_
  refine sE E [0,1,2,3,4,5,6,7,8,9,10,11,12] ?_
  replace E := E.drew
  refine yG ?_
  refine OB O O O a8 O (List.getElem?_eq_some_iff.1 N).1 ?_
  refine yG ?_
  refine OB O O O a7 O (List.getElem?_eq_some_iff.1 L).1 ?_
  refine yG ?_
  exact ⟨CP (Bl (s := (⟨v, q, r, n⟩ : Sy)) N (by rw [show G = U by omega]; exact L)), e8 E⟩
 refine yG ?_
 refine sE E [0,1,2,3,4,5,6,7,8,9,10,11,12] ?_
 replace E := E.drew
 refine yG ?_
 refine OB O O O a8 O (List.getElem?_eq_some_iff.1 N).1 ?_
 refine yG ?_
 refine OB O O O a7 O (List.getElem?_eq_some_iff.1 L).1 ?_
 refine yG ?_
 exact ⟨_, (by rw [af]; omega), (P + 1), [CC p 0, .int .i64 ↑P, .pointer (some ⟨C, 2, none⟩), .slice B r.length u, .int .i64 ↑r.length, .bool true, .int .i64 ↑P, .int .i64 ↑(P + 1), .pointer (some ⟨C, 1, none⟩), .slice z q.length t, .int .i64 ↑H, .pointer (some ⟨Q, S + H * 2, none⟩), .pointer (some ⟨Q, S + H * 2, none⟩), .int .i64 ↑G, .pointer (some ⟨C, 2, none⟩), .slice B r.length u, .int .i64 ↑P, .pointer (some ⟨T, a2 + P * 2, none⟩), .pointer (some ⟨T, a2 + P * 2, none⟩), .int .i64 ↑U, .bool false], O, zE, O, ⟨by omega, Hd hK L Z⟩⟩
end Go.Proofs.YtmppigbbkjepiaaGreatDoor
