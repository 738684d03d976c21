/- Helping facts of Rdr; no other conditions. -/
import Derived.Test.YtmppigbbkjepiaaGreatDoorKitV
namespace Go.Proofs.YtmppigbbkjepiaaGreatDoor
open Go.Proofs.Tryz
open Go.RowKit W
theorem jW {vars : List Bs} : ∀ (ws : List Bs) (i at_ : Nat) (neg : Bool) (p q : List Tm) (k e : Nat), (∀ w ∈ ws, w.length ≤ 4000) → (∀ t ∈ p, FitQ t.1 4000) → PF vars ws i at_ neg p = (q, k, e) → (∀ t ∈ q, FitQ t.1 4000) ∧ q.length ≤ p.length + ws.length
  | [], i, at_, neg, p, q, k, e, _, hp, h => by
    unfold PF at h
    split at h
    · simp only [Prod.mk.injEq] at h; rw [← h.1]; exact ⟨fun t ht => (by cases ht), by simp⟩
    · simp only [Prod.mk.injEq] at h; rw [← h.1]; exact ⟨hp, by simp⟩
  | w :: ws, i, at_, neg, p, q, k, e, hw, hp, h => by
    rw [PF] at h
    split at h
    · split at h
      · have := jW ws _ _ _ p q k e (fun x hx => hw x (by simp [hx])) hp h
        exact ⟨this.1, by simp; omega⟩
      · simp only [Prod.mk.injEq] at h; rw [← h.1]; exact ⟨fun t ht => (by cases ht), by simp⟩
    · cases hr : ZZ vars (OA i neg w).1 with
      | none => simp only [hr, Prod.mk.injEq] at h; rw [← h.1]; exact ⟨fun t ht => (by cases ht), by simp⟩
      | some cm =>
        obtain ⟨c, m⟩ := cm
        simp only [hr] at h
        have hc : FitQ c 4000 := iL (Nat.le_trans Ns (hw w AH)) hr
        split at h
        · simp only [Prod.mk.injEq] at h; rw [← h.1]; exact ⟨fun t ht => (by cases ht), by simp⟩
        · have := jW ws _ _ _ _ q k e (fun x hx => hw x (by simp [hx])) (fun t ht => by
            rcases List.mem_append.1 ht with g | g
            · exact hp t g
            · simp at g; subst g; show FitQ (xF _ c) 4000; unfold xF; split
              · exact YG hc
              · exact hc) h
          refine ⟨this.1, ?_⟩
          have h2 := this.2
          simp only [List.length_append, List.length_cons, List.length_nil] at h2 ⊢; omega
theorem eN {vars : List Bs} {s : Bs} {p : List Tm} {n e : Nat} (h : FC vars s = (p, n, e)) : (∀ t ∈ p, FitQ t.1 4000) ∧ p.length ≤ 4001 := by
  unfold FC at h
  split at h
  · simp only [Prod.mk.injEq] at h; rw [← h.1]; exact ⟨fun t f => (by cases f), by simp⟩
  · split at h
    · simp only [Prod.mk.injEq] at h; rw [← h.1]; exact ⟨fun t f => (by cases f), by simp⟩
    · split at h
      · simp only [Prod.mk.injEq] at h; rw [← h.1]; exact ⟨fun t f => (by cases f), by simp⟩
      · rename_i h1 h2 h3
        obtain ⟨o, l⟩ := jW (EM 32 s) 0 0 false [] p n e (fun w k => by have := YO k; omega) (fun t f => by cases f) h
        have := WR 32 s
        exact ⟨o, by simp at l; omega⟩
structure RsBd (r : Rs) : Prop where
  vars : r.vars.length ≤ 4
  last : r.last ≤ 999999
  next : r.next ≤ 1000000
  fit : ∀ b, ∀ e ∈ r.lst b, (∀ t ∈ e.2, FitQ t.1 4000) ∧ e.2.length ≤ 4001
theorem Uk : RsBd vU := ⟨AE, AE, AE, fun b e he => (by cases b <;> cases he)⟩
theorem Bw {r r' : Rs} {id : Nat} {neq : Bool} {t : Bs} (h : RsBd r) (hi : id ≤ 999999) (hp : bX r id neq t = some r') : RsBd r' := by
  unfold bX at hp
  split at hp
  · simp only [Option.some.injEq] at hp; subst hp
    refine ⟨by rw [KU]; exact h.vars, by rw [OR]; exact hi, by rw [XZ]; exact h.next, fun b e f => ?_⟩
    by_cases k : b = neq
    · subst k; rw [iP] at f
      rcases List.mem_append.1 f with g | g
      · exact h.fit _ e g
      · simp at g; subst g
        cases l : FC r.vars t with
        | mk p ne => obtain ⟨n, e⟩ := ne; exact eN l
    · rw [cG k] at f; exact h.fit b e f
  · cases hp
theorem Ng {r r' : Rs} {l : Bs} (h : RsBd r) (he : KM r l = some r') : RsBd r' := by
  unfold KM at he
  split at he
  · cases he
  · cases e : FI ((r.last + 1 : Nat) : Int) 999999 (Lib.cut l colB).1 with
    | none => simp only [e, reduceCtorEq] at he
    | some id =>
      simp only [e] at he
      obtain ⟨_, _, f⟩ := NM AA e
      split at he
      · exact Bw h AA he
      · split at he
        · exact Bw h AA he
        · cases he
theorem Rk {r r' : Rs} {n : Nat} {l : Bs} (h : RsBd r) (he : FS n r l = some r') : RsBd r' := by
  unfold FS at he
  split at he
  · obtain ⟨q, p, _, o⟩ := Ao he
    subst o
    exact ⟨IY p, h.last, h.next, fun b e k => h.fit b e (by cases b <;> exact k)⟩
  · split at he
    · cases he
    · split at he
      · unfold oD at he
        cases f : FI ((r.last + 1 : Nat) : Int) 1000000 (Lib.trimPrefix l nxB) with
        | none => rw [f] at he; cases he
        | some m =>
          obtain ⟨_, _, t⟩ := NM AA f
          simp only [f, Option.map_some, Option.some.injEq] at he
          subst he
          exact ⟨h.vars, h.last, by show m ≤ 1000000; omega, fun b e k => h.fit b e (by cases b <;> exact k)⟩
      · exact Ng h he
theorem xK : ∀ {ls : List Bs} {n : Nat} {r r' : Rs}, RsBd r → IV ls n r = some r' → RsBd r'
  | [], n, r, r', h, hr => by simp only [IV, Option.some.injEq] at hr; subst hr; exact h
  | x :: l, n, r, r', h, hr => by
    cases hx : FS (n + 1) r x with
    | none => simp [IV, hx] at hr
    | some r1 =>
      simp only [IV, hx] at hr
      exact xK (Rk h hx) hr
theorem Nr (s sep : Bs) : (Lib.cut s sep).1.length ≤ s.length := by
  unfold Lib.cut; split
  · rw [List.length_take]; omega
  · exact Nat.le_refl _
theorem Nq (s sep : Bs) : (Lib.cut s sep).2.1.length ≤ s.length := by
  unfold Lib.cut; split
  · rw [List.length_drop]; omega
  · simp
theorem nG (s p : Bs) : (Lib.trimSuffix s p).length ≤ s.length := by
  unfold Lib.trimSuffix; split
  · rw [List.length_take]; omega
  · exact Nat.le_refl _
theorem Eu (s p : Bs) : (Lib.trimPrefix s p).length ≤ s.length := by
  unfold Lib.trimPrefix; split
  · rw [List.length_drop]; omega
  · exact Nat.le_refl _
theorem sP {s p : Bs} (h : Lib.hasSuffix s p = false) : Lib.trimSuffix s p = s := by unfold Lib.trimSuffix; rw [if_neg (by rw [h]; simp)]
theorem en_1 {r : Rs} {l d t : Bs} (h : Lib.cut l colB = (d, t, false)) : KM r l = none := by unfold KM; rw [h, if_pos rfl]
theorem en_2 {r : Rs} {l d t : Bs} (h : Lib.cut l colB = (d, t, true)) (h2 : FI ((r.last + 1 : Nat) : Int) 999999 d = none) : KM r l = none := by unfold KM; rw [h, if_neg AH]; simp only [h2]
theorem en_3 {r : Rs} {l d t : Bs} {id : Nat} (h : Lib.cut l colB = (d, t, true)) (h2 : FI ((r.last + 1 : Nat) : Int) 999999 d = some id) (h3 : Lib.hasSuffix t oE = false) (h4 : Lib.hasSuffix t rH = false) : KM r l = none := by
  unfold KM; rw [h, if_neg AH]; simp only [h2, h3, h4]; simp
theorem Sb {r : Rs} {l d t u : Bs} {id : Nat} (h : Lib.cut l colB = (d, t, true)) (h2 : FI ((r.last + 1 : Nat) : Int) 999999 d = some id) (h3 : Lib.hasSuffix t oE = true) (h4 : Lib.trimSuffix t oE = u) : KM r l = bX r id true u := by
  unfold KM; rw [h, if_neg AH]; simp only [h2, h3, h4]; simp
theorem Sa {r : Rs} {l d t u : Bs} {id : Nat} (h : Lib.cut l colB = (d, t, true)) (h2 : FI ((r.last + 1 : Nat) : Int) 999999 d = some id) (h3 : Lib.hasSuffix t oE = false) (h4 : Lib.hasSuffix t rH = true) (h5 : Lib.trimSuffix t rH = u) : KM r l = bX r id false u := by
  unfold KM; rw [h, if_neg AH]; simp only [h2, h3, h4, h5]; simp
theorem nX {r : Rs} {id : Nat} {neq : Bool} {u : Bs} {p : List Tm} {n e : Nat} (h : FC r.vars u = (p, n, e)) (h1 : e ≠ 0 ∨ ¬ WK p ≤ 12 ∨ ¬ (r.lst neq).length < 12) : bX r id neq u = none := by
  unfold bX; rw [h, if_neg]
  rintro ⟨l, k, f⟩
  rcases h1 with h1 | h1 | h1
  · exact h1 l
  · exact h1 k
  · exact h1 f
theorem Lk {r : Rs} {id : Nat} {neq : Bool} {u : Bs} {p : List Tm} {n : Nat} (h : FC r.vars u = (p, n, 0)) (h1 : WK p ≤ 12) (h2 : (r.lst neq).length < 12) : bX r id neq u = some (r.add (neq, id, p)) := by
  unfold bX; rw [h, if_pos ⟨rfl, h1, h2⟩]
theorem PD {r : Nat} {w w' : World} {o : Option Rs} (h : o = none) (hb : Below r w w') : gN r w o (.returned (.bool false)) w' := by subst h; exact ⟨false, rfl, hb, rfl⟩
theorem iK {r : Nat} {w w' : World} {o : Option Rs} {st : Rs} (h : o = some st) (hb : Below r w w') (hr : RdrAt r w' st) : gN r w o (.returned (.bool true)) w' := by subst h; exact ⟨true, rfl, hb, rfl, hr⟩
theorem Glob.be {n : Nat} {w w' : World} (h : Glob w) (hn : 2 ≤ n) (hb : Below n w w') : Glob w' := by
  refine ⟨?_, ?_⟩
  · have f := h.pow
    unfold Lib.TabIs World.var? at *
    rw [XM] at *
    simp only [Option.bind_some] at *
    rw [hb.block 1 AA]; exact f
  · obtain ⟨m, e⟩ := h.max
    exact ⟨m, (World.cell?_of_block (hb.block 0 AA)).trans e⟩
theorem Jk {l : List Bs} (h : DF 4 l = true) : JN ⟨l, [], [], 1⟩ = true := by unfold JN; simp [h, JO, FT]
theorem Ur {r : Rs} {t x : Bs} {l : List Bs} (h1 : (EM 32 t).head? = some x) (hx : x = vaB) (h2 : (EM 32 t).tail = l) (h3 : DF 4 l = true) : TX r t = some ⟨l, r.eqs, r.neqs, r.next, r.last⟩ := by unfold TX; rw [h1, h2, hx, if_pos ⟨rfl, h3⟩]
theorem Ut {r : Rs} {t x : Bs} (h1 : (EM 32 t).head? = some x) (hx : ¬ x = vaB) : TX r t = none := by unfold TX; rw [h1, if_neg (fun g => hx (Option.some.inj g.1))]
theorem Us {r : Rs} {t : Bs} {l : List Bs} (h2 : (EM 32 t).tail = l) (h3 : DF 4 l = false) : TX r t = none := by unfold TX; rw [h2, if_neg (fun g => by rw [h3] at g; exact absurd g.2 AE)]
theorem li_1 {n : Nat} {r : Rs} {t : Bs} (h : n = 1) : FS n r t = TX r t := by unfold FS; rw [if_pos h]
theorem li_2 {n : Nat} {r : Rs} {t : Bs} (h : ¬ n = 1) (h0 : ¬ r.next = 0) : FS n r t = none := by unfold FS; rw [if_neg h, if_pos h0]
theorem li_3 {n : Nat} {r : Rs} {t u : Bs} (h : ¬ n = 1) (h0 : r.next = 0) (hp : Lib.hasPrefix t nxB = true) (hu : Lib.trimPrefix t nxB = u) (hm : FI ((r.last + 1 : Nat) : Int) 1000000 u = none) : FS n r t = none := by
  unfold FS; rw [if_neg h, if_neg AA, if_pos hp, hu]; unfold oD; rw [hm]; rfl
theorem li_4 {n m : Nat} {r : Rs} {t u : Bs} (h : ¬ n = 1) (h0 : r.next = 0) (hp : Lib.hasPrefix t nxB = true) (hu : Lib.trimPrefix t nxB = u) (hm : FI ((r.last + 1 : Nat) : Int) 1000000 u = some m) : FS n r t = some ⟨r.vars, r.eqs, r.neqs, m, r.last⟩ := by
  unfold FS; rw [if_neg h, if_neg AA, if_pos hp, hu]; unfold oD; rw [hm]; rfl
theorem li_5 {n : Nat} {r : Rs} {t : Bs} (h : ¬ n = 1) (h0 : r.next = 0) (hp : Lib.hasPrefix t nxB = false) : FS n r t = KM r t := by
  unfold FS; rw [if_neg h, if_neg AA, if_neg (by rw [hp]; simp)]
set_option maxRecDepth 100000 in
set_option maxHeartbeats 8000000 in
theorem Ry (r : Nat) (vars : List Bs) (eqs neqs : List En) (next last : Nat) (t : Bs) (w : World) (hR : RdrAt r w ⟨vars, eqs, neqs, next, last⟩) (ht : t.length ≤ 1000000) (hG : Glob w) (hr2 : 2 ≤ r) (hvl : vars.length ≤ 1000000) (hla : last ≤ 1000000) :
    Calls prog 102 #[.pointer (some ⟨r, 0, none⟩), .string (bs t)] w (gN r w (KM ⟨vars, eqs, neqs, next, last⟩ t)) := by
 obtain ⟨S, vv, ve, vn, hX, hT⟩ := hR
 dsimp only at hX hT
 have c3 : r ≤ w.heap.size := Nat.le_of_lt hX.lt
 have bi : ¬ S r := fun h => Nat.lt_irrefl _ (hT.set _ h).1
 have b4 := hT.lt
 have bk := hT.eqs.own
 have bj := hT.neqs.own
 have ao := hT.apart
 obtain ⟨bh, b3, b2, _, bl⟩ := hT
 obtain ⟨a0, I, rfl, cu, ct⟩ := bh.shp
 obtain ⟨a2, L, rfl⟩ := b3.shp
 obtain ⟨a1, J, rfl⟩ := b2.shp
 obtain ⟨rb, a7⟩ : ∃ n, n = r + 1 := ⟨_, rfl⟩
 rw [← a7] at b3 b2
 have E := YH c3
 replace E := ((((((E.gl hG).sz (show rb ≤ w.heap.size by have := hX.lt; omega)).x hX).r bh b4).a b3 b4).a b2 b4)
 go_enter func102, ntmps102
 obtain ⟨d1, P, o1, B⟩ : ∃ a b c, Lib.cut t colB = (a, b, c) := ⟨_, _, _, rfl⟩
 have aq := Nr t colB
 have ap := Nq t colB
 rw [B] at aq ap
 refine yG ?_
 simp only at aq ap
 refine yG ?_
 refine EF O (BZ IJ O ((by have C := wI t ([58, 32]) w ht (e5 E).1; rw [(show Lib.cut t [58, 32] = _ from B)] at C; exact C)) O E ?_)
 intro w1 _ E
 cases o1 with
 | false =>
  refine yG ?_
  exact (PD (en_1 B) (e6 E))
 | true =>
  cases G : FI ((last + 1 : Nat) : Int) 999999 d1 with
  | none =>
   refine yG ?_
   refine EF O (BZ GT O ((by have C := OD d1 (last + 1) 999999 w1 AA AE; rw [show cA (FI ((last + 1 : Nat) : Int) ((999999 : Nat) : Int) d1) = (0, false) from by rw [show FI ((last + 1 : Nat) : Int) ((999999 : Nat) : Int) d1 = _ from G]; rfl] at C; exact C)) O E ?_)
   intro w2 d2 E
   refine yG ?_
   exact (PD (en_2 B G) (e6 E))
  | some id =>
   obtain ⟨_, cd, cc⟩ := NM AA G
   refine yG ?_
   refine EF O (BZ GT O ((by have C := OD d1 (last + 1) 999999 w1 AA AE; rw [show cA (FI ((last + 1 : Nat) : Int) ((999999 : Nat) : Int) d1) = (id, true) from by rw [show FI ((last + 1 : Nat) : Int) ((999999 : Nat) : Int) d1 = _ from G]; rfl] at C; exact C)) O E ?_)
   intro w3 d3 E
   obtain ⟨ua, R⟩ : ∃ a, Lib.trimSuffix P oE = a := ⟨_, rfl⟩
   have bf := nG P oE
   rw [R] at bf
   cases H : Lib.hasSuffix P oE with
   | false =>
    have Y := sP H
    rw [R] at Y
    replace Y := Y.symm
    subst Y
    refine yG ?_
    refine EF O (BZ JG O ((by have C := TM P ([32, 33, 61, 32, 48]) w3 AA; rw [(show Lib.trimSuffix P [32, 33, 61, 32, 48] = _ from R), (show Lib.hasSuffix P [32, 33, 61, 32, 48] = _ from H)] at C; exact C)) O E ?_)
    intro w4 d4 E
    obtain ⟨ub, Q⟩ : ∃ a, Lib.trimSuffix P rH = a := ⟨_, rfl⟩
    have bd := nG P rH
    rw [Q] at bd
    cases T : Lib.hasSuffix P rH with
    | false =>
     have X := sP T
     rw [Q] at X
     replace X := X.symm
     subst X
     refine yG ?_
     refine EF O (BZ JG O ((by have C := TM P ([32, 61, 32, 48]) w4 AA; rw [(show Lib.trimSuffix P [32, 61, 32, 48] = _ from Q), (show Lib.hasSuffix P [32, 61, 32, 48] = _ from T)] at C; exact C)) O E ?_)
     intro w5 d5 E
     refine yG ?_
     exact (PD (en_3 B G H T) (e6 E))
    | true =>
     refine yG ?_
     refine EF O (BZ JG O ((by have C := TM P ([32, 61, 32, 48]) w4 AA; rw [(show Lib.trimSuffix P [32, 61, 32, 48] = _ from Q), (show Lib.hasSuffix P [32, 61, 32, 48] = _ from T)] at C; exact C)) O E ?_)
     intro w6 d6 E
     obtain ⟨p, pos, er, F⟩ : ∃ a b c, FC vars ub = (a, b, c) := ⟨_, _, _, rfl⟩
     obtain ⟨c6, c5⟩ := eN F
     have ay := fun g y => (E.2.1.1.lt (g := g) y).2
     have ax := fun g y => (E.1.1.lt (g := g) y).2
     have c4 := Bx.lt (e3 E)
     refine yG ?_
     refine EF O (IQ (r := (p, pos, er)) II O (by rw [← F]; exact aT ub _ vars _ ((BW E.2.2.1)) hvl AA (e5 E).1) O E ?_)
     intro w7 v7 d7 f7 E
     replace E := E.sz (Nat.le_refl w7.heap.size)
     have c8 := f7
     obtain ⟨av, au, rfl, cb, _⟩ := f7.shp
     replace E := E.r (e := JP) (S := DX w6.heap.size w7.heap.size) c8 (fun _ g => g.2)
     by_cases a9 : er = 0
     case neg =>
      refine yG ?_
      exact (PD ((Sa B G H T Q).trans (nX F (.inl a9))) (e8 E))
     subst a9
     by_cases aa : WK p ≤ 12
     case neg =>
      refine yG ?_
      refine EF O (BZ EL O (NW _ p _ (BW E.1) AA) O E ?_)
      intro cm d0 E
      refine yG ?_
      exact (PD ((Sa B G H T Q).trans (nX F (.inr (.inl aa)))) (e8 E))
     by_cases a8 : eqs.length < 12
     case neg =>
      refine yG ?_
      refine EF O (BZ EL O (NW _ p _ (BW E.1) AA) O E ?_)
      intro cn da E
      refine yG ?_
      exact (PD ((Sa B G H T Q).trans (nX F (.inr (.inr a8)))) (e8 E))
     refine yG ?_
     refine EF O (BZ EL O (NW _ p _ (BW E.1) AA) O E ?_)
     intro w8 d8 E
     obtain ⟨U, D⟩ : ∃ f, f = (fun k => S k ∨ DX w6.heap.size w7.heap.size k) := ⟨_, rfl⟩
     have b1 : IsR elS U w8 (.slice a0 vars.length I) vars := by rw [D]; exact (e4 E).1.mono (fun _ => .inl)
     have ae : Acc NY 83 rb U w8 (.slice a2 eqs.length L) eqs := by rw [D]; exact (e3 E).1.mono (fun _ => .inl) (fun g y hs => hs.elim (bk g y) (fun N => by have := ay g y; have := N.1; omega))
     have ad : Acc NY 83 rb U w8 (.slice a1 neqs.length J) neqs := by rw [D]; exact E.2.2.1.1.mono (fun _ => .inl) (fun g y hs => hs.elim (bj g y) (fun N => by have := ax g y; have := N.1; omega))
     have ac : IsR JP U w8 (.slice av p.length au) p := by rw [D]; exact E.1.1.mono (fun _ => .inr)
     have z : ¬ U r := by rw [D]; exact fun h => h.elim bi (fun N => by have := N.1; omega)
     have o : ∀ k, U k → k < w8.heap.size := by rw [D]; exact fun k h => h.elim (fun g => (e3 E).2 k g) (fun N => E.1.2 k N)
     have ab : ∀ k, U k → r < k := by rw [D]; exact fun k h => h.elim (fun g => (bl k g).1) (fun N => by have := N.1; omega)
     have u := ae.own
     have q := ad.own
     replace E := (((((((GB (Env.x (GB (GB (GB (Env.nil _) (e8 E)) (e7 E)) (e6 E)) (e5 E)) E.2.1)).r b1 o)).r ac o)).a ae o).a ad o
     refine yG ?_
     refine V (v := .agg #[.int .i64 ↑id, .slice av p.length au]) O O (RK O O O) ?_
     refine yG ?_
     refine EF O (DT (cs := [.int .i64 ↑id, .slice av p.length au]) underlying46 OY O AE AE O O ?_)
     intro b9 w9 c9 z9 d9 x9
     have aw : ((.slice a2 eqs.length L) : Value).ownBlock ≠ some b9 := fun h => by have := (Acc.lt E.2.1.1 h).2; omega
     have c2 : rb ≤ b9 := by rw [c9]; exact CR (e6 E)
     replace E := E.below d9
     replace E := E.x x9
     have ag := E.2.2.1
     have bc := Acc.nw ag.1
     refine yG ?_
     replace E := mC E
     have b0 := fun g y => (E.2.1.1.lt (g := g) y).2
     refine EF O (QW (x := (id, p)) Tp O (l := eqs) O ag.1 ag.2 E (fun g y h1 h2 => ⟨CQ (fun e => aw (e ▸ y)), MT (fun h => ao g y h) (by first | exact z | exact u _ y | exact q _ y | exact (fun h => by have := o _ h; omega)), DR (by first | exact z | exact u _ y | exact q _ y | exact (fun h => by have := o _ h; omega)), DR (by first | exact z | exact u _ y | exact q _ y | exact (fun h => by have := o _ h; omega)), BX, CQ AA, BX, EG AA, qI AA, BX⟩) O E.1 (⟨_, O, E.2.2.1.1⟩) (by unfold maxLen; omega) AA (CR (e6 E)) ?_)
     intro ai cq al E
     have an : ∀ g, (ai : Value).ownBlock = some g → ((.slice a1 neqs.length J) : Value).ownBlock = some g → False := fun g h1 h2 => al g (b0 g h2) (fun h3 => ao g h3 h2) h1
     have u := E.1.1.own
     have b8 := e6 E
     refine yG ?_
     replace E := uY E
     refine yG ?_
     refine EF O (CF (v := ai) O Z (Acc.one E.1.1) O O b8 AH ?_)
     intro cp c1 bu
     replace E := (E.onl (b8.noW (CL AH (CL bc (CL (Acc.nw E.2.2.1.1) (CL AH (CL AH EB)))))) ⟨MT (fun h => by have := (Acc.lt E.1.1 h).1; omega) (by first | exact z | exact u _ y | exact q _ y | exact (fun h => by have := o _ h; omega)), CQ AA, MT (fun h => by have := (Acc.lt E.2.2.1.1 h).1; omega) (by first | exact z | exact u _ y | exact q _ y | exact (fun h => by have := o _ h; omega)), DR (by first | exact z | exact u _ y | exact q _ y | exact (fun h => by have := o _ h; omega)), DR (by first | exact z | exact u _ y | exact q _ y | exact (fun h => by have := o _ h; omega)), BX, BX, EG AA, qI AA, BX⟩ c1).x (cs := [.slice a0 vars.length I, ai, .slice a1 neqs.length J, .int .i64 ↑next, .int .i64 ↑last]) bu
     have b7 := E.1
     refine yG ?_
     replace E := WJ E
     refine yG ?_
     refine EF O (CF (v := .int .i64 ↑id) O Z O O O b7 AH ?_)
     intro co c0 bt
     replace E := (E.onl (b7.noW (CL AH (CL (Acc.nw E.1.1) (CL (Acc.nw E.2.2.1.1) (CL AH (CL AH EB)))))) ⟨MT (fun h => by have := (Acc.lt E.1.1 h).1; omega) (by first | exact z | exact u _ y | exact q _ y | exact (fun h => by have := o _ h; omega)), CQ AA, MT (fun h => by have := (Acc.lt E.2.2.1.1 h).1; omega) (by first | exact z | exact u _ y | exact q _ y | exact (fun h => by have := o _ h; omega)), DR (by first | exact z | exact u _ y | exact q _ y | exact (fun h => by have := o _ h; omega)), DR (by first | exact z | exact u _ y | exact q _ y | exact (fun h => by have := o _ h; omega)), BX, BX, EG AA, qI AA, BX⟩ c0).x (cs := [.slice a0 vars.length I, ai, .slice a1 neqs.length J, .int .i64 ↑next, .int .i64 ↑id]) bt
     refine yG ?_
     exact (iK ((Sa B G H T Q).trans (Lk F aa a8)) (e9 E) ⟨U, _, _, _, E.1, ⟨(e5 E).1, (by rw [← a7]; exact E.2.1.1), (by rw [← a7]; exact (e3 E).1), an, fun k h => ⟨ab k h, (e5 E).2 k h⟩⟩⟩)
   | true =>
    refine yG ?_
    refine EF O (BZ JG O ((by have C := TM P ([32, 33, 61, 32, 48]) w3 AA; rw [(show Lib.trimSuffix P [32, 33, 61, 32, 48] = _ from R), (show Lib.hasSuffix P [32, 33, 61, 32, 48] = _ from H)] at C; exact C)) O E ?_)
    intro ba cz E
    obtain ⟨p, pos, er, F⟩ : ∃ a b c, FC vars ua = (a, b, c) := ⟨_, _, _, rfl⟩
    obtain ⟨c6, c5⟩ := eN F
    have ay := fun g y => (E.2.1.1.lt (g := g) y).2
    have ax := fun g y => (E.1.1.lt (g := g) y).2
    have c4 := Bx.lt (e3 E)
    refine yG ?_
    refine EF O (IQ (r := (p, pos, er)) II O (by rw [← F]; exact aT ua _ vars _ ((BW E.2.2.1)) hvl AA (e5 E).1) O E ?_)
    intro ar cr cy bm E
    replace E := E.sz (Nat.le_refl ar.heap.size)
    have bg := bm
    obtain ⟨a6, a4, rfl, c7, _⟩ := bm.shp
    replace E := E.r (e := JP) (S := DX ba.heap.size ar.heap.size) bg (fun _ g => g.2)
    by_cases a9 : er = 0
    case neg =>
     refine yG ?_
     exact (PD ((Sb B G H R).trans (nX F (.inl a9))) (e8 E))
    subst a9
    by_cases aa : WK p ≤ 12
    case neg =>
     refine yG ?_
     refine EF O (BZ EL O (NW _ p _ (BW E.1) AA) O E ?_)
     intro cf cv E
     refine yG ?_
     exact (PD ((Sb B G H R).trans (nX F (.inr (.inl aa)))) (e8 E))
    by_cases a8 : neqs.length < 12
    case neg =>
     refine yG ?_
     refine EF O (BZ EL O (NW _ p _ (BW E.1) AA) O E ?_)
     intro cg cw E
     refine yG ?_
     exact (PD ((Sb B G H R).trans (nX F (.inr (.inr a8)))) (e8 E))
    refine yG ?_
    refine EF O (BZ EL O (NW _ p _ (BW E.1) AA) O E ?_)
    intro a3 cx E
    obtain ⟨U, D⟩ : ∃ f, f = (fun k => S k ∨ DX ba.heap.size ar.heap.size k) := ⟨_, rfl⟩
    have b1 : IsR elS U a3 (.slice a0 vars.length I) vars := by rw [D]; exact (e4 E).1.mono (fun _ => .inl)
    have ae : Acc NY 83 rb U a3 (.slice a2 eqs.length L) eqs := by rw [D]; exact (e3 E).1.mono (fun _ => .inl) (fun g y hs => hs.elim (bk g y) (fun N => by have := ay g y; have := N.1; omega))
    have ad : Acc NY 83 rb U a3 (.slice a1 neqs.length J) neqs := by rw [D]; exact E.2.2.1.1.mono (fun _ => .inl) (fun g y hs => hs.elim (bj g y) (fun N => by have := ax g y; have := N.1; omega))
    have ac : IsR JP U a3 (.slice a6 p.length a4) p := by rw [D]; exact E.1.1.mono (fun _ => .inr)
    have z : ¬ U r := by rw [D]; exact fun h => h.elim bi (fun N => by have := N.1; omega)
    have o : ∀ k, U k → k < a3.heap.size := by rw [D]; exact fun k h => h.elim (fun g => (e3 E).2 k g) (fun N => E.1.2 k N)
    have ab : ∀ k, U k → r < k := by rw [D]; exact fun k h => h.elim (fun g => (bl k g).1) (fun N => by have := N.1; omega)
    have u := ae.own
    have q := ad.own
    replace E := (((((((GB (Env.x (GB (GB (GB (Env.nil _) (e8 E)) (e7 E)) (e6 E)) (e5 E)) E.2.1)).r b1 o)).r ac o)).a ae o).a ad o
    refine yG ?_
    refine V (v := .agg #[.int .i64 ↑id, .slice a6 p.length a4]) O O (RK O O O) ?_
    refine yG ?_
    refine EF O (DT (cs := [.int .i64 ↑id, .slice a6 p.length a4]) underlying46 OY O AE AE O O ?_)
    intro bo ck bn ce ca bv
    have aj : ((.slice a1 neqs.length J) : Value).ownBlock ≠ some bo := fun h => by have := (Acc.lt E.1.1 h).2; omega
    have bp : rb ≤ bo := by rw [bn]; exact CR (e6 E)
    replace E := E.below ca
    replace E := E.x bv
    have af := E.2.1
    have bb := Acc.nw af.1
    refine yG ?_
    replace E := XQ E
    have az := fun g y => (E.2.1.1.lt (g := g) y).2
    refine EF O (QW (x := (id, p)) Tp O (l := neqs) O af.1 af.2 E (fun g y h1 h2 => ⟨CQ (fun e => aj (e ▸ y)), MT (fun h => (fun g h1 h2 => ao g h2 h1) g y h) (by first | exact z | exact u _ y | exact q _ y | exact (fun h => by have := o _ h; omega)), DR (by first | exact z | exact u _ y | exact q _ y | exact (fun h => by have := o _ h; omega)), DR (by first | exact z | exact u _ y | exact q _ y | exact (fun h => by have := o _ h; omega)), BX, CQ AA, BX, EG AA, qI AA, BX⟩) O E.1 (⟨_, O, E.2.2.1.1⟩) (by unfold maxLen; omega) AA (CR (e6 E)) ?_)
    intro ah cj ak E
    have am : ∀ g, (ah : Value).ownBlock = some g → ((.slice a2 eqs.length L) : Value).ownBlock = some g → False := fun g h1 h2 => ak g (az g h2) (fun h3 => (fun g h1 h2 => ao g h2 h1) g h3 h2) h1
    have q := E.1.1.own
    have b6 := e6 E
    refine yG ?_
    replace E := uY E
    refine yG ?_
    refine EF O (CF (v := ah) O Z (Acc.one E.1.1) O O b6 AH ?_)
    intro ci bx br
    replace E := (E.onl (b6.noW (CL AH (CL (Acc.nw E.2.2.1.1) (CL bb (CL AH (CL AH EB)))))) ⟨MT (fun h => by have := (Acc.lt E.1.1 h).1; omega) (by first | exact z | exact u _ y | exact q _ y | exact (fun h => by have := o _ h; omega)), CQ AA, MT (fun h => by have := (Acc.lt E.2.2.1.1 h).1; omega) (by first | exact z | exact u _ y | exact q _ y | exact (fun h => by have := o _ h; omega)), DR (by first | exact z | exact u _ y | exact q _ y | exact (fun h => by have := o _ h; omega)), DR (by first | exact z | exact u _ y | exact q _ y | exact (fun h => by have := o _ h; omega)), BX, BX, EG AA, qI AA, BX⟩ bx).x (cs := [.slice a0 vars.length I, .slice a2 eqs.length L, ah, .int .i64 ↑next, .int .i64 ↑last]) br
    have b5 := E.1
    refine yG ?_
    replace E := WJ E
    refine yG ?_
    refine EF O (CF (v := .int .i64 ↑id) O Z O O O b5 AH ?_)
    intro ch bw bq
    replace E := (E.onl (b5.noW (CL AH (CL (Acc.nw E.2.2.1.1) (CL (Acc.nw E.1.1) (CL AH (CL AH EB)))))) ⟨MT (fun h => by have := (Acc.lt E.1.1 h).1; omega) (by first | exact z | exact u _ y | exact q _ y | exact (fun h => by have := o _ h; omega)), CQ AA, MT (fun h => by have := (Acc.lt E.2.2.1.1 h).1; omega) (by first | exact z | exact u _ y | exact q _ y | exact (fun h => by have := o _ h; omega)), DR (by first | exact z | exact u _ y | exact q _ y | exact (fun h => by have := o _ h; omega)), DR (by first | exact z | exact u _ y | exact q _ y | exact (fun h => by have := o _ h; omega)), BX, BX, EG AA, qI AA, BX⟩ bw).x (cs := [.slice a0 vars.length I, .slice a2 eqs.length L, ah, .int .i64 ↑next, .int .i64 ↑id]) bq
    refine yG ?_
    exact (iK ((Sb B G H R).trans (Lk F aa a8)) (e9 E) ⟨U, _, _, _, E.1, ⟨(e5 E).1, (by rw [← a7]; exact (e3 E).1), (by rw [← a7]; exact E.2.1.1), (fun g h1 h2 => am g h2 h1), fun k h => ⟨ab k h, (e5 E).2 k h⟩⟩⟩)
end Go.Proofs.YtmppigbbkjepiaaGreatDoor
