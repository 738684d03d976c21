/- The reader of systems: its methods vars, entry and line. (Printed by g_rdr.py.) -/
import Derived.Test.YtmppigbbkjepiaaGreatDoorKitV
namespace Go.Proofs.YtmppigbbkjepiaaGreatDoor
open Go.Proofs.Tryz
open Go.RowKit W
theorem iL {vars : List Bs} : ∀ (ws : List Bs) (i at_ : Nat) (neg : Bool) (p q : List Tm) (k e : Nat), (∀ w ∈ ws, w.length ≤ 4000) → (∀ t ∈ p, FitQ t.1 4000) → OW vars ws i at_ neg p = (q, k, e) → (∀ t ∈ q, FitQ t.1 4000) ∧ q.length ≤ p.length + ws.length
  | [], i, at_, neg, p, q, k, e, _, hp, h => by
    unfold OW at h
    split at h
    · simp only [Prod.mk.injEq] at h; rw [← h.1]; exact ⟨fun t ht => (by cases ht), by simp⟩
    · simp only [Prod.mk.injEq] at h; rw [← h.1]; exact ⟨hp, by simp⟩
  | w :: ws, i, at_, neg, p, q, k, e, hw, hp, h => by
    rw [OW] at h
    split at h
    · split at h
      · have := iL ws _ _ _ p q k e (fun x hx => hw x (by simp [hx])) hp h
        exact ⟨this.1, by simp; omega⟩
      · simp only [Prod.mk.injEq] at h; rw [← h.1]; exact ⟨fun t ht => (by cases ht), by simp⟩
    · cases hr : cG vars (PQ i neg w).1 with
      | none => simp only [hr, Prod.mk.injEq] at h; rw [← h.1]; exact ⟨fun t ht => (by cases ht), by simp⟩
      | some cm =>
        obtain ⟨c, m⟩ := cm
        simp only [hr] at h
        have hc : FitQ c 4000 := fZ (Nat.le_trans Io (hw w AG)) hr
        split at h
        · simp only [Prod.mk.injEq] at h; rw [← h.1]; exact ⟨fun t ht => (by cases ht), by simp⟩
        · have := iL ws _ _ _ _ q k e (fun x hx => hw x (by simp [hx])) (fun t ht => by
            rcases List.mem_append.1 ht with g | g
            · exact hp t g
            · simp at g; subst g; show FitQ (Bw _ c) 4000; unfold Bw; split
              · exact WZ hc
              · exact hc) h
          refine ⟨this.1, ?_⟩
          have h2 := this.2
          simp only [List.length_append, List.length_cons, List.length_nil] at h2 ⊢; omega
theorem XK {vars : List Bs} {s : Bs} {p : List Tm} {n e : Nat} (h : EV vars s = (p, n, e)) : (∀ t ∈ p, FitQ t.1 4000) ∧ p.length ≤ 4001 := by
  unfold EV at h
  split at h
  · simp only [Prod.mk.injEq] at h; rw [← h.1]; exact ⟨fun t f => (by cases f), by simp⟩
  · split at h
    · simp only [Prod.mk.injEq] at h; rw [← h.1]; exact ⟨fun t f => (by cases f), by simp⟩
    · split at h
      · simp only [Prod.mk.injEq] at h; rw [← h.1]; exact ⟨fun t f => (by cases f), by simp⟩
      · rename_i h1 h2 h3
        obtain ⟨o, l⟩ := iL (EN 32 s) 0 0 false [] p n e (fun w k => by have := XG k; omega) (fun t f => by cases f) h
        have := VN 32 s
        exact ⟨o, by simp at l; omega⟩
structure RsBd (r : Rs) : Prop where
  vars : r.vars.length ≤ 4
  last : r.last ≤ 999999
  next : r.next ≤ 1000000
  fit : ∀ b, ∀ e ∈ r.lst b, (∀ t ∈ e.2, FitQ t.1 4000) ∧ e.2.length ≤ 4001
theorem Ov : RsBd wT := ⟨AD, AD, AD, fun b e he => (by cases b <;> cases he)⟩
theorem yK {r r' : Rs} {id : Nat} {neq : Bool} {t : Bs} (h : RsBd r) (hi : id ≤ 999999) (hp : eS r id neq t = some r') : RsBd r' := by
  unfold eS at hp
  split at hp
  · simp only [Option.some.injEq] at hp; subst hp
    refine ⟨by rw [bI]; exact h.vars, by rw [jW]; exact hi, by rw [jV]; exact h.next, fun b e f => ?_⟩
    by_cases k : b = neq
    · subst k; rw [gD] at f
      rcases List.mem_append.1 f with g | g
      · exact h.fit _ e g
      · simp at g; subst g
        cases l : EV r.vars t with
        | mk p ne => obtain ⟨n, e⟩ := ne; exact XK l
    · rw [aS k] at f; exact h.fit b e f
  · cases hp
theorem Ih {r r' : Rs} {l : Bs} (h : RsBd r) (he : LG r l = some r') : RsBd r' := by
  unfold LG at he
  split at he
  · cases he
  · cases e : FC ((r.last + 1 : Nat) : Int) 999999 (Lib.cut l PA).1 with
    | none => simp only [e, reduceCtorEq] at he
    | some id =>
      simp only [e] at he
      obtain ⟨_, _, f⟩ := MU Z e
      split at he
      · exact yK h Z he
      · split at he
        · exact yK h Z he
        · cases he
theorem Lz {r r' : Rs} {n : Nat} {l : Bs} (h : RsBd r) (he : IP n r l = some r') : RsBd r' := by
  unfold IP at he
  split at he
  · obtain ⟨q, p, _, o⟩ := xJ he
    subst o
    exact ⟨KD p, h.last, h.next, fun b e k => h.fit b e (by cases b <;> exact k)⟩
  · split at he
    · cases he
    · split at he
      · unfold rS at he
        cases f : FC ((r.last + 1 : Nat) : Int) 1000000 (Lib.trimPrefix l vM) with
        | none => rw [f] at he; cases he
        | some m =>
          obtain ⟨_, _, t⟩ := MU Z f
          simp only [f, Option.map_some, Option.some.injEq] at he
          subst he
          exact ⟨h.vars, h.last, by show m ≤ 1000000; omega, fun b e k => h.fit b e (by cases b <;> exact k)⟩
      · exact Ih h he
theorem uV : ∀ {ls : List Bs} {n : Nat} {r r' : Rs}, RsBd r → KR ls n r = some r' → RsBd r'
  | [], n, r, r', h, hr => by simp only [KR, Option.some.injEq] at hr; subst hr; exact h
  | x :: l, n, r, r', h, hr => by
    cases hx : IP (n + 1) r x with
    | none => simp [KR, hx] at hr
    | some r1 =>
      simp only [KR, hx] at hr
      exact uV (Lz h hx) hr
theorem Im (s sep : Bs) : (Lib.cut s sep).1.length ≤ s.length := by
  unfold Lib.cut; split
  · rw [List.length_take]; omega
  · exact Nat.le_refl _
theorem Il (s sep : Bs) : (Lib.cut s sep).2.1.length ≤ s.length := by
  unfold Lib.cut; split
  · rw [List.length_drop]; omega
  · simp
theorem lM (s p : Bs) : (Lib.trimSuffix s p).length ≤ s.length := by
  unfold Lib.trimSuffix; split
  · rw [List.length_take]; omega
  · exact Nat.le_refl _
theorem Bi (s p : Bs) : (Lib.trimPrefix s p).length ≤ s.length := by
  unfold Lib.trimPrefix; split
  · rw [List.length_drop]; omega
  · exact Nat.le_refl _
theorem qA {s p : Bs} (h : Lib.hasSuffix s p = false) : Lib.trimSuffix s p = s := by unfold Lib.trimSuffix; rw [if_neg (by rw [h]; simp)]
theorem en_1 {r : Rs} {l d t : Bs} (h : Lib.cut l PA = (d, t, false)) : LG r l = none := by unfold LG; rw [h, if_pos rfl]
theorem en_2 {r : Rs} {l d t : Bs} (h : Lib.cut l PA = (d, t, true)) (h2 : FC ((r.last + 1 : Nat) : Int) 999999 d = none) : LG r l = none := by unfold LG; rw [h, if_neg AG]; simp only [h2]
theorem en_3 {r : Rs} {l d t : Bs} {id : Nat} (h : Lib.cut l PA = (d, t, true)) (h2 : FC ((r.last + 1 : Nat) : Int) 999999 d = some id) (h3 : Lib.hasSuffix t tX = false) (h4 : Lib.hasSuffix t wC = false) : LG r l = none := by
  unfold LG; rw [h, if_neg AG]; simp only [h2, h3, h4]; simp
theorem Mr {r : Rs} {l d t u : Bs} {id : Nat} (h : Lib.cut l PA = (d, t, true)) (h2 : FC ((r.last + 1 : Nat) : Int) 999999 d = some id) (h3 : Lib.hasSuffix t tX = true) (h4 : Lib.trimSuffix t tX = u) : LG r l = eS r id true u := by
  unfold LG; rw [h, if_neg AG]; simp only [h2, h3, h4]; simp
theorem Mq {r : Rs} {l d t u : Bs} {id : Nat} (h : Lib.cut l PA = (d, t, true)) (h2 : FC ((r.last + 1 : Nat) : Int) 999999 d = some id) (h3 : Lib.hasSuffix t tX = false) (h4 : Lib.hasSuffix t wC = true) (h5 : Lib.trimSuffix t wC = u) : LG r l = eS r id false u := by
  unfold LG; rw [h, if_neg AG]; simp only [h2, h3, h4, h5]; simp
theorem lY {r : Rs} {id : Nat} {neq : Bool} {u : Bs} {p : List Tm} {n e : Nat} (h : EV r.vars u = (p, n, e)) (h1 : e ≠ 0 ∨ ¬ RH p ≤ 12 ∨ ¬ (r.lst neq).length < 12) : eS r id neq u = none := by
  unfold eS; rw [h, if_neg]
  rintro ⟨l, k, f⟩
  rcases h1 with h1 | h1 | h1
  · exact h1 l
  · exact h1 k
  · exact h1 f
theorem Gw {r : Rs} {id : Nat} {neq : Bool} {u : Bs} {p : List Tm} {n : Nat} (h : EV r.vars u = (p, n, 0)) (h1 : RH p ≤ 12) (h2 : (r.lst neq).length < 12) : eS r id neq u = some (r.add (neq, id, p)) := by
  unfold eS; rw [h, if_pos ⟨rfl, h1, h2⟩]
theorem OD {r : Nat} {w w' : World} {o : Option Rs} (h : o = none) (hb : Below r w w') : dW r w o (.returned (.bool false)) w' := by subst h; exact ⟨false, rfl, hb, rfl⟩
theorem fY {r : Nat} {w w' : World} {o : Option Rs} {st : Rs} (h : o = some st) (hb : Below r w w') (hr : RdrAt r w' st) : dW r w o (.returned (.bool true)) w' := by subst h; exact ⟨true, rfl, hb, rfl, hr⟩
theorem Glob.be {n : Nat} {w w' : World} (h : Glob w) (hn : 2 ≤ n) (hb : Below n w w') : Glob w' := by
  refine ⟨?_, ?_⟩
  · have f := h.pow
    unfold Lib.TabIs World.var? at *
    rw [WF] at *
    simp only [Option.bind_some] at *
    rw [hb.block 1 Z]; exact f
  · obtain ⟨m, e⟩ := h.max
    exact ⟨m, (World.cell?_of_block (hb.block 0 Z)).trans e⟩
theorem Es {l : List Bs} (h : DS 4 l = true) : GO ⟨l, [], [], 1⟩ = true := by unfold GO; simp [h, IN, EM]
theorem Pb {r : Rs} {t x : Bs} {l : List Bs} (h1 : (EN 32 t).head? = some x) (hx : x = vaB) (h2 : (EN 32 t).tail = l) (h3 : DS 4 l = true) : VI r t = some ⟨l, r.eqs, r.neqs, r.next, r.last⟩ := by unfold VI; rw [h1, h2, hx, if_pos ⟨rfl, h3⟩]
theorem Pd {r : Rs} {t x : Bs} (h1 : (EN 32 t).head? = some x) (hx : ¬ x = vaB) : VI r t = none := by unfold VI; rw [h1, if_neg (fun g => hx (Option.some.inj g.1))]
theorem Pc {r : Rs} {t : Bs} {l : List Bs} (h2 : (EN 32 t).tail = l) (h3 : DS 4 l = false) : VI r t = none := by unfold VI; rw [h2, if_neg (fun g => by rw [h3] at g; exact absurd g.2 AD)]
theorem li_1 {n : Nat} {r : Rs} {t : Bs} (h : n = 1) : IP n r t = VI r t := by unfold IP; rw [if_pos h]
theorem li_2 {n : Nat} {r : Rs} {t : Bs} (h : ¬ n = 1) (h0 : ¬ r.next = 0) : IP n r t = none := by unfold IP; rw [if_neg h, if_pos h0]
theorem li_3 {n : Nat} {r : Rs} {t u : Bs} (h : ¬ n = 1) (h0 : r.next = 0) (hp : Lib.hasPrefix t vM = true) (hu : Lib.trimPrefix t vM = u) (hm : FC ((r.last + 1 : Nat) : Int) 1000000 u = none) : IP n r t = none := by
  unfold IP; rw [if_neg h, if_neg Z, if_pos hp, hu]; unfold rS; rw [hm]; rfl
theorem li_4 {n m : Nat} {r : Rs} {t u : Bs} (h : ¬ n = 1) (h0 : r.next = 0) (hp : Lib.hasPrefix t vM = true) (hu : Lib.trimPrefix t vM = u) (hm : FC ((r.last + 1 : Nat) : Int) 1000000 u = some m) : IP n r t = some ⟨r.vars, r.eqs, r.neqs, m, r.last⟩ := by
  unfold IP; rw [if_neg h, if_neg Z, if_pos hp, hu]; unfold rS; rw [hm]; rfl
theorem li_5 {n : Nat} {r : Rs} {t : Bs} (h : ¬ n = 1) (h0 : r.next = 0) (hp : Lib.hasPrefix t vM = false) : IP n r t = LG r t := by
  unfold IP; rw [if_neg h, if_neg Z, if_neg (by rw [hp]; simp)]
set_option maxRecDepth 100000 in
set_option maxHeartbeats 8000000 in
theorem Mo (r : Nat) (vars : List Bs) (eqs neqs : List En) (next last : Nat) (t : Bs) (w : World) (hR : RdrAt r w ⟨vars, eqs, neqs, next, last⟩) (ht : t.length ≤ 1000000) (hG : Glob w) (hr2 : 2 ≤ r) (hvl : vars.length ≤ 1000000) (hla : last ≤ 1000000) :
    Calls prog 102 #[.pointer (some ⟨r, 0, none⟩), .string (bs t)] w (dW r w (LG ⟨vars, eqs, neqs, next, last⟩ t)) := by
 obtain ⟨S, vv, ve, vn, hX, hT⟩ := hR
 dsimp only at hX hT
 have c5 : r ≤ w.heap.size := Nat.le_of_lt hX.lt
 have bt : ¬ S r := fun h => Nat.lt_irrefl _ (hT.set _ h).1
 have bb := hT.lt
 have bv := hT.eqs.own
 have bu := hT.neqs.own
 have ap := hT.apart
 obtain ⟨ba, ar, aq, _, bw⟩ := hT
 obtain ⟨a4, J, rfl, ct, cr⟩ := ba.shp
 obtain ⟨a6, N, rfl⟩ := ar.shp
 obtain ⟨a5, L, rfl⟩ := aq.shp
 obtain ⟨rb, aa⟩ : ∃ n, n = r + 1 := ⟨_, rfl⟩
 rw [← aa] at ar aq
 have E := XA c5
 replace E := ((((((E.gl hG).sz (show rb ≤ w.heap.size by have := hX.lt; omega)).x hX).r ba bb).a ar bb).a aq bb)
 clear hX ba ar aq
 go_enter func102, ntmps102
 obtain ⟨d1, Q, o1, B⟩ : ∃ a b c, Lib.cut t PA = (a, b, c) := ⟨_, _, _, rfl⟩
 have av := Im t PA
 have au := Il t PA
 rw [B] at av au
 refine yG ?_
 simp only at av au
 refine yG ?_
 refine EF O (BZ ID O ((by have C := tV t ([58, 32]) w ht (e5 E).1; rw [(show Lib.cut t [58, 32] = _ from B)] at C; exact C)) O E ?_)
 clear E
 intro w1 _ E
 cases o1 with
 | false =>
  refine yG ?_
  exact (OD (en_1 B) (e6 E))
 | true =>
  cases G : FC ((last + 1 : Nat) : Int) 999999 d1 with
  | none =>
   refine yG ?_
   refine EF O (BZ GM O ((by have C := NK d1 (last + 1) 999999 w1 Z AD; rw [show aP (FC ((last + 1 : Nat) : Int) ((999999 : Nat) : Int) d1) = (0, false) from by rw [show FC ((last + 1 : Nat) : Int) ((999999 : Nat) : Int) d1 = _ from G]; rfl] at C; exact C)) O E ?_)
   clear E
   intro w2 _ E
   refine yG ?_
   exact (OD (en_2 B G) (e6 E))
  | some id =>
   obtain ⟨_, cd, cc⟩ := MU Z G
   refine yG ?_
   refine EF O (BZ GM O ((by have C := NK d1 (last + 1) 999999 w1 Z AD; rw [show aP (FC ((last + 1 : Nat) : Int) ((999999 : Nat) : Int) d1) = (id, true) from by rw [show FC ((last + 1 : Nat) : Int) ((999999 : Nat) : Int) d1 = _ from G]; rfl] at C; exact C)) O E ?_)
   clear E
   intro w3 _ E
   obtain ⟨ua, T⟩ : ∃ a, Lib.trimSuffix Q tX = a := ⟨_, rfl⟩
   have bq := lM Q tX
   rw [T] at bq
   cases H : Lib.hasSuffix Q tX with
   | false =>
    have a3 := qA H
    rw [T] at a3
    replace a3 := a3.symm
    subst a3
    refine yG ?_
    refine EF O (BZ IY O ((by have C := SD Q ([32, 33, 61, 32, 48]) w3 Z; rw [(show Lib.trimSuffix Q [32, 33, 61, 32, 48] = _ from T), (show Lib.hasSuffix Q [32, 33, 61, 32, 48] = _ from H)] at C; exact C)) O E ?_)
    clear E
    intro w4 _ E
    obtain ⟨ub, R⟩ : ∃ a, Lib.trimSuffix Q wC = a := ⟨_, rfl⟩
    have bp := lM Q wC
    rw [R] at bp
    cases U : Lib.hasSuffix Q wC with
    | false =>
     have a2 := qA U
     rw [R] at a2
     replace a2 := a2.symm
     subst a2
     refine yG ?_
     refine EF O (BZ IY O ((by have C := SD Q ([32, 61, 32, 48]) w4 Z; rw [(show Lib.trimSuffix Q [32, 61, 32, 48] = _ from R), (show Lib.hasSuffix Q [32, 61, 32, 48] = _ from U)] at C; exact C)) O E ?_)
     clear E
     intro w5 _ E
     refine yG ?_
     exact (OD (en_3 B G H U) (e6 E))
    | true =>
     refine yG ?_
     refine EF O (BZ IY O ((by have C := SD Q ([32, 61, 32, 48]) w4 Z; rw [(show Lib.trimSuffix Q [32, 61, 32, 48] = _ from R), (show Lib.hasSuffix Q [32, 61, 32, 48] = _ from U)] at C; exact C)) O E ?_)
     clear E
     intro w6 _ E
     obtain ⟨p, pos, er, F⟩ : ∃ a b c, EV vars ub = (a, b, c) := ⟨_, _, _, rfl⟩
     obtain ⟨c8, c7⟩ := XK F
     have b6 := fun g y => (E.2.1.1.lt (g := g) y).2
     have b5 := fun g y => (E.1.1.lt (g := g) y).2
     have c6 := Bx.lt (e3 E)
     refine yG ?_
     refine EF O (LJ (r := (p, pos, er)) LC O (by rw [← F]; exact kD ub _ vars _ ((BV E.2.2.1)) hvl Z (e5 E).1) O E ?_)
     clear E
     intro w7 v7 _ f7 E
     replace E := E.sz (Nat.le_refl w7.heap.size)
     have ca := f7
     obtain ⟨b3, b2, rfl, cb, _⟩ := f7.shp
     replace E := E.r (e := KG) (S := GL w6.heap.size w7.heap.size) ca (fun _ g => g.2)
     by_cases ac : er = 0
     case neg =>
      refine yG ?_
      exact (OD ((Mq B G H U R).trans (lY F (.inl ac))) (e8 E))
     subst ac
     by_cases ad : RH p ≤ 12
     case neg =>
      refine yG ?_
      refine EF O (BZ EB O (NF _ p _ (BV E.1) Z) O E ?_)
      clear E
      intro ck _ E
      refine yG ?_
      exact (OD ((Mq B G H U R).trans (lY F (.inr (.inl ad)))) (e8 E))
     by_cases ab : eqs.length < 12
     case neg =>
      refine yG ?_
      refine EF O (BZ EB O (NF _ p _ (BV E.1) Z) O E ?_)
      clear E
      intro cm _ E
      refine yG ?_
      exact (OD ((Mq B G H U R).trans (lY F (.inr (.inr ab)))) (e8 E))
     refine yG ?_
     refine EF O (BZ EB O (NF _ p _ (BV E.1) Z) O E ?_)
     clear E
     intro w8 _ E
     obtain ⟨Y, D⟩ : ∃ f, f = (fun k => S k ∨ GL w6.heap.size w7.heap.size k) := ⟨_, rfl⟩
     have ae : IsR elS Y w8 (.slice a4 vars.length J) vars := by rw [D]; exact (e4 E).1.mono (fun _ => .inl)
     have a1 : Acc NH 83 rb Y w8 (.slice a6 eqs.length N) eqs := by rw [D]; exact (e3 E).1.mono (fun _ => .inl) (fun g y hs => hs.elim (bv g y) (fun P => by have := b6 g y; have := P.1; omega))
     have a0 : Acc NH 83 rb Y w8 (.slice a5 neqs.length L) neqs := by rw [D]; exact E.2.2.1.1.mono (fun _ => .inl) (fun g y hs => hs.elim (bu g y) (fun P => by have := b5 g y; have := P.1; omega))
     have X : IsR KG Y w8 (.slice b3 p.length b2) p := by rw [D]; exact E.1.1.mono (fun _ => .inr)
     have z : ¬ Y r := by rw [D]; exact fun h => h.elim bt (fun P => by have := P.1; omega)
     have o : ∀ k, Y k → k < w8.heap.size := by rw [D]; exact fun k h => h.elim (fun g => (e3 E).2 k g) (fun P => E.1.2 k P)
     have af : ∀ k, Y k → r < k := by rw [D]; exact fun k h => h.elim (fun g => (bw k g).1) (fun P => by have := P.1; omega)
     have u := a1.own
     have q := a0.own
     replace E := (((((((RD (Env.x (RD (RD (RD (Env.nil _) (e8 E)) (e7 E)) (e6 E)) (e5 E)) E.2.1)).r ae o)).r X o)).a a1 o).a a0 o
     clear X ae a1 a0
     refine yG ?_
     refine V (v := .agg #[.int .i64 ↑id, .slice b3 p.length b2]) O O (TX O O O) ?_
     refine yG ?_
     refine EF O (DY (cs := [.int .i64 ↑id, .slice b3 p.length b2]) underlying46 PB O AD AD O O ?_)
     intro b9 w9 bz z9 d9 x9
     have b4 : ((.slice a6 eqs.length N) : Value).ownBlock ≠ some b9 := fun h => by have := (Acc.lt E.2.1.1 h).2; omega
     have c4 : rb ≤ b9 := by rw [bz]; exact CU (e6 E)
     replace E := (E.below d9).x x9
     clear bz z9 d9 x9
     have ah := E.2.2.1
     have bo := Acc.nw ah.1
     refine yG ?_
     replace E := Sq E
     have b8 := fun g y => (E.2.1.1.lt (g := g) y).2
     refine EF O (bV (x := (id, p)) RT_E O (l := eqs) O ah.1 ah.2 E (fun g y h1 h2 => ⟨CS (fun e => b4 (e ▸ y)), PC (fun h => ap g y h) (by first | exact z | exact u _ y | exact q _ y | exact (fun h => by have := o _ h; omega)), EC (by first | exact z | exact u _ y | exact q _ y | exact (fun h => by have := o _ h; omega)), EC (by first | exact z | exact u _ y | exact q _ y | exact (fun h => by have := o _ h; omega)), BW, CS Z, BW, EA Z, oD Z, BW⟩) O E.1 (⟨_, O, E.2.2.1.1⟩) (by unfold maxLen; omega) Z (CU (e6 E)) ?_)
     clear E
     intro aj cp am E
     have ao : ∀ g, (aj : Value).ownBlock = some g → ((.slice a5 neqs.length L) : Value).ownBlock = some g → False := fun g h1 h2 => am g (b8 g h2) (fun h3 => ap g h3 h2) h1
     have u := E.1.1.own
     have b0 := e6 E
     refine yG ?_
     replace E := Ss E
     refine yG ?_
     refine EF O (CF (v := aj) O I (Acc.one E.1.1) O O b0 AG ?_)
     intro co bm bg
     replace E := (E.onl (b0.noW (CE AG (CE bo (CE (Acc.nw E.2.2.1.1) (CE AG (CE AG CX)))))) ⟨PC (fun h => by have := (Acc.lt E.1.1 h).1; omega) (by first | exact z | exact u _ y | exact q _ y | exact (fun h => by have := o _ h; omega)), CS Z, PC (fun h => by have := (Acc.lt E.2.2.1.1 h).1; omega) (by first | exact z | exact u _ y | exact q _ y | exact (fun h => by have := o _ h; omega)), EC (by first | exact z | exact u _ y | exact q _ y | exact (fun h => by have := o _ h; omega)), EC (by first | exact z | exact u _ y | exact q _ y | exact (fun h => by have := o _ h; omega)), BW, BW, EA Z, oD Z, BW⟩ bm).x (cs := [.slice a4 vars.length J, aj, .slice a5 neqs.length L, .int .i64 ↑next, .int .i64 ↑last]) bg
     clear b0 bm bg
     have az := E.1
     refine yG ?_
     replace E := Sp E
     refine yG ?_
     refine EF O (CF (v := .int .i64 ↑id) O I O O O az AG ?_)
     intro cn bl bf
     replace E := (E.onl (az.noW (CE AG (CE (Acc.nw E.1.1) (CE (Acc.nw E.2.2.1.1) (CE AG (CE AG CX)))))) ⟨PC (fun h => by have := (Acc.lt E.1.1 h).1; omega) (by first | exact z | exact u _ y | exact q _ y | exact (fun h => by have := o _ h; omega)), CS Z, PC (fun h => by have := (Acc.lt E.2.2.1.1 h).1; omega) (by first | exact z | exact u _ y | exact q _ y | exact (fun h => by have := o _ h; omega)), EC (by first | exact z | exact u _ y | exact q _ y | exact (fun h => by have := o _ h; omega)), EC (by first | exact z | exact u _ y | exact q _ y | exact (fun h => by have := o _ h; omega)), BW, BW, EA Z, oD Z, BW⟩ bl).x (cs := [.slice a4 vars.length J, aj, .slice a5 neqs.length L, .int .i64 ↑next, .int .i64 ↑id]) bf
     clear az bl bf
     refine yG ?_
     exact (fY ((Mq B G H U R).trans (Gw F ad ab)) (e9 E) ⟨Y, _, _, _, E.1, ⟨(e5 E).1, (by rw [← aa]; exact E.2.1.1), (by rw [← aa]; exact (e3 E).1), ao, fun k h => ⟨af k h, (e5 E).2 k h⟩⟩⟩)
   | true =>
    refine yG ?_
    refine EF O (BZ IY O ((by have C := SD Q ([32, 33, 61, 32, 48]) w3 Z; rw [(show Lib.trimSuffix Q [32, 33, 61, 32, 48] = _ from T), (show Lib.hasSuffix Q [32, 33, 61, 32, 48] = _ from H)] at C; exact C)) O E ?_)
    clear E
    intro bi _ E
    obtain ⟨p, pos, er, F⟩ : ∃ a b c, EV vars ua = (a, b, c) := ⟨_, _, _, rfl⟩
    obtain ⟨c8, c7⟩ := XK F
    have b6 := fun g y => (E.2.1.1.lt (g := g) y).2
    have b5 := fun g y => (E.1.1.lt (g := g) y).2
    have c6 := Bx.lt (e3 E)
    refine yG ?_
    refine EF O (LJ (r := (p, pos, er)) LC O (by rw [← F]; exact kD ua _ vars _ ((BV E.2.2.1)) hvl Z (e5 E).1) O E ?_)
    clear E
    intro b1 cq _ bx E
    replace E := E.sz (Nat.le_refl b1.heap.size)
    have br := bx
    obtain ⟨a9, a8, rfl, c9, _⟩ := bx.shp
    replace E := E.r (e := KG) (S := GL bi.heap.size b1.heap.size) br (fun _ g => g.2)
    by_cases ac : er = 0
    case neg =>
     refine yG ?_
     exact (OD ((Mr B G H T).trans (lY F (.inl ac))) (e8 E))
    subst ac
    by_cases ad : RH p ≤ 12
    case neg =>
     refine yG ?_
     refine EF O (BZ EB O (NF _ p _ (BV E.1) Z) O E ?_)
     clear E
     intro ce _ E
     refine yG ?_
     exact (OD ((Mr B G H T).trans (lY F (.inr (.inl ad)))) (e8 E))
    by_cases ab : neqs.length < 12
    case neg =>
     refine yG ?_
     refine EF O (BZ EB O (NF _ p _ (BV E.1) Z) O E ?_)
     clear E
     intro cf _ E
     refine yG ?_
     exact (OD ((Mr B G H T).trans (lY F (.inr (.inr ab)))) (e8 E))
    refine yG ?_
    refine EF O (BZ EB O (NF _ p _ (BV E.1) Z) O E ?_)
    clear E
    intro a7 _ E
    obtain ⟨Y, D⟩ : ∃ f, f = (fun k => S k ∨ GL bi.heap.size b1.heap.size k) := ⟨_, rfl⟩
    have ae : IsR elS Y a7 (.slice a4 vars.length J) vars := by rw [D]; exact (e4 E).1.mono (fun _ => .inl)
    have a1 : Acc NH 83 rb Y a7 (.slice a6 eqs.length N) eqs := by rw [D]; exact (e3 E).1.mono (fun _ => .inl) (fun g y hs => hs.elim (bv g y) (fun P => by have := b6 g y; have := P.1; omega))
    have a0 : Acc NH 83 rb Y a7 (.slice a5 neqs.length L) neqs := by rw [D]; exact E.2.2.1.1.mono (fun _ => .inl) (fun g y hs => hs.elim (bu g y) (fun P => by have := b5 g y; have := P.1; omega))
    have X : IsR KG Y a7 (.slice a9 p.length a8) p := by rw [D]; exact E.1.1.mono (fun _ => .inr)
    have z : ¬ Y r := by rw [D]; exact fun h => h.elim bt (fun P => by have := P.1; omega)
    have o : ∀ k, Y k → k < a7.heap.size := by rw [D]; exact fun k h => h.elim (fun g => (e3 E).2 k g) (fun P => E.1.2 k P)
    have af : ∀ k, Y k → r < k := by rw [D]; exact fun k h => h.elim (fun g => (bw k g).1) (fun P => by have := P.1; omega)
    have u := a1.own
    have q := a0.own
    replace E := (((((((RD (Env.x (RD (RD (RD (Env.nil _) (e8 E)) (e7 E)) (e6 E)) (e5 E)) E.2.1)).r ae o)).r X o)).a a1 o).a a0 o
    clear X ae a1 a0
    refine yG ?_
    refine V (v := .agg #[.int .i64 ↑id, .slice a9 p.length a8]) O O (TX O O O) ?_
    refine yG ?_
    refine EF O (DY (cs := [.int .i64 ↑id, .slice a9 p.length a8]) underlying46 PB O AD AD O O ?_)
    intro c1 cj aw c3 c0 bh
    have ak : ((.slice a5 neqs.length L) : Value).ownBlock ≠ some c1 := fun h => by have := (Acc.lt E.1.1 h).2; omega
    have c2 : rb ≤ c1 := by rw [aw]; exact CU (e6 E)
    replace E := (E.below c0).x bh
    clear aw c3 c0 bh
    have ag := E.2.1
    have bn := Acc.nw ag.1
    refine yG ?_
    replace E := So E
    have b7 := fun g y => (E.2.1.1.lt (g := g) y).2
    refine EF O (bV (x := (id, p)) RT_E O (l := neqs) O ag.1 ag.2 E (fun g y h1 h2 => ⟨CS (fun e => ak (e ▸ y)), PC (fun h => (fun g h1 h2 => ap g h2 h1) g y h) (by first | exact z | exact u _ y | exact q _ y | exact (fun h => by have := o _ h; omega)), EC (by first | exact z | exact u _ y | exact q _ y | exact (fun h => by have := o _ h; omega)), EC (by first | exact z | exact u _ y | exact q _ y | exact (fun h => by have := o _ h; omega)), BW, CS Z, BW, EA Z, oD Z, BW⟩) O E.1 (⟨_, O, E.2.2.1.1⟩) (by unfold maxLen; omega) Z (CU (e6 E)) ?_)
    clear E
    intro ai ci al E
    have an : ∀ g, (ai : Value).ownBlock = some g → ((.slice a6 eqs.length N) : Value).ownBlock = some g → False := fun g h1 h2 => al g (b7 g h2) (fun h3 => (fun g h1 h2 => ap g h2 h1) g h3 h2) h1
    have q := E.1.1.own
    have ay := e6 E
    refine yG ?_
    replace E := Ss E
    refine yG ?_
    refine EF O (CF (v := ai) O I (Acc.one E.1.1) O O ay AG ?_)
    intro ch bk bd
    replace E := (E.onl (ay.noW (CE AG (CE (Acc.nw E.2.2.1.1) (CE bn (CE AG (CE AG CX)))))) ⟨PC (fun h => by have := (Acc.lt E.1.1 h).1; omega) (by first | exact z | exact u _ y | exact q _ y | exact (fun h => by have := o _ h; omega)), CS Z, PC (fun h => by have := (Acc.lt E.2.2.1.1 h).1; omega) (by first | exact z | exact u _ y | exact q _ y | exact (fun h => by have := o _ h; omega)), EC (by first | exact z | exact u _ y | exact q _ y | exact (fun h => by have := o _ h; omega)), EC (by first | exact z | exact u _ y | exact q _ y | exact (fun h => by have := o _ h; omega)), BW, BW, EA Z, oD Z, BW⟩ bk).x (cs := [.slice a4 vars.length J, .slice a6 eqs.length N, ai, .int .i64 ↑next, .int .i64 ↑last]) bd
    clear ay bk bd
    have ax := E.1
    refine yG ?_
    replace E := Sp E
    refine yG ?_
    refine EF O (CF (v := .int .i64 ↑id) O I O O O ax AG ?_)
    intro cg bj bc
    replace E := (E.onl (ax.noW (CE AG (CE (Acc.nw E.2.2.1.1) (CE (Acc.nw E.1.1) (CE AG (CE AG CX)))))) ⟨PC (fun h => by have := (Acc.lt E.1.1 h).1; omega) (by first | exact z | exact u _ y | exact q _ y | exact (fun h => by have := o _ h; omega)), CS Z, PC (fun h => by have := (Acc.lt E.2.2.1.1 h).1; omega) (by first | exact z | exact u _ y | exact q _ y | exact (fun h => by have := o _ h; omega)), EC (by first | exact z | exact u _ y | exact q _ y | exact (fun h => by have := o _ h; omega)), EC (by first | exact z | exact u _ y | exact q _ y | exact (fun h => by have := o _ h; omega)), BW, BW, EA Z, oD Z, BW⟩ bj).x (cs := [.slice a4 vars.length J, .slice a6 eqs.length N, ai, .int .i64 ↑next, .int .i64 ↑id]) bc
    clear ax bj bc
    refine yG ?_
    exact (fY ((Mr B G H T).trans (Gw F ad ab)) (e9 E) ⟨Y, _, _, _, E.1, ⟨(e5 E).1, (by rw [← aa]; exact (e3 E).1), (by rw [← aa]; exact E.2.1.1), (fun g h1 h2 => an g h2 h1), fun k h => ⟨af k h, (e5 E).2 k h⟩⟩⟩)
end Go.Proofs.YtmppigbbkjepiaaGreatDoor
