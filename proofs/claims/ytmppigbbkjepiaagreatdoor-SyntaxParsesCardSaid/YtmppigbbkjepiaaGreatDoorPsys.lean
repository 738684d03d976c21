/- Helping facts of Rdr; no other conditions. Helping facts of Rdr2; no other conditions. Helping facts of Psys; no other conditions. -/
import Derived.Test.YtmppigbbkjepiaaGreatDoorKitV
namespace Go.Proofs.YtmppigbbkjepiaaGreatDoor
open Go.Proofs.Tryz
open Go.RowKit W
variable {S : Nat -> Prop} {e id n r : Nat} {neq : Bool} {p : Prop} {ve vn vv : Value} {w w' w0 : World}
theorem Yjl (h : p := by rw [<- f]; exact E.2.1.1) : p := h
theorem YIs (h : p := by exact fun H => by have := H.1; omega) : p := h
theorem YRk (h : p := by have q := WI I ([32, 61, 32, 48]) w4 AA; rw [(show Lib.trimSuffix I [32, 61, 32, 48] = _ from J), (show Lib.hasSuffix I [32, 61, 32, 48] = _ from N)] at q; exact q) : p := h
theorem Ywl (h : p := by have q := WI I ([32, 33, 61, 32, 48]) w3 AA; rw [(show Lib.trimSuffix I [32, 33, 61, 32, 48] = _ from L), (show Lib.hasSuffix I [32, 33, 61, 32, 48] = _ from C)] at q; exact q) : p := h
theorem YGR (h : p := by have e := WJ t ([110, 101, 120, 116, 32]) w; rw [(show Lib.trimPrefix t [110, 101, 120, 116, 32] = _ from Q), (show Lib.hasPrefix t [110, 101, 120, 116, 32] = _ from l)] at e; exact e) : p := h
theorem YlN (h : p := by simp [results, results18, asAddr, r1]) : p := h
theorem YiE (h : p := by first | exact hS2r | exact hS2e _ hg | exact hS2n _ hg | exact (fun h => by have := hS2l _ h; omega)) : p := h
theorem ZLN (h : p := by
 unfold IL; rw [if_neg h, if_neg AA, if_pos hp, hu]; unfold xY; rw [hm]; rfl
 ) : p := h
theorem nR {vars : List Bs} : ∀ (ws : List Bs) (i at_ : Nat) (neg : Bool) (p q : List Tm) (k e : Nat), (∀ w ∈ ws, w.length <= 4000) -> (∀ t ∈ p, FitQ t.1 4000) -> SC vars ws i at_ neg p = (q, k, e) -> (∀ t ∈ q, FitQ t.1 4000) /\ q.length <= p.length + ws.length
 | [], i, at_, neg, p, q, k, e, _, hp, h => by
   unfold SC at h
   split at h
   . simp only [Prod.mk.injEq] at h; rw [<- h.1]; exact ⟨fun t ht => (by cases ht), by simp⟩
   simp only [Prod.mk.injEq] at h; rw [<- h.1]; exact ⟨hp, by simp⟩
 | w :: ws, i, at_, neg, p, q, k, e, hw, hp, h => by
   rw [SC] at h
   split at h
   . split at h
     . have := nR ws _ _ _ p q k e (fun x hx => hw x (by simp [hx])) hp h
       exact ⟨this.1, by simp; omega⟩
     simp only [Prod.mk.injEq] at h; rw [<- h.1]; exact ⟨fun t ht => (by cases ht), by simp⟩
   cases hr : cO vars (QR i neg w).1 with
   | none => simp only [hr, Prod.mk.injEq] at h; rw [<- h.1]; exact ⟨fun t ht => (by cases ht), by simp⟩
   | some cm =>
     obtain ⟨c, m⟩ := cm
     simp only [hr] at h
     have hc : FitQ c 4000 := VT (Nat.le_trans Ri (hw w AH)) hr
     split at h
     . simp only [Prod.mk.injEq] at h; rw [<- h.1]; exact ⟨fun t ht => (by cases ht), by simp⟩
     have := nR ws _ _ _ _ q k e (fun x hx => hw x (by simp [hx])) (fun t ht => by
      rcases List.mem_append.1 ht with g | g
      . exact hp t g
      simp at g; subst g; show FitQ (Iz _ c) 4000; unfold Iz; split
      . exact VK hc
      exact hc) h
     refine ⟨this.1, ?_⟩
     have h2 := this.2
     simp only [List.length_append, List.length_cons, List.length_nil] at h2 ⊢; omega
theorem TY {vars : List Bs} {s : Bs} {p : List Tm} (h : EE vars s = (p, n, e)) : (∀ t ∈ p, FitQ t.1 4000) /\ p.length <= 4001 := by
 unfold EE at h
 split at h
 . simp only [Prod.mk.injEq] at h; rw [<- h.1]; exact ⟨fun t f => (by cases f), by simp⟩
 split at h
 . simp only [Prod.mk.injEq] at h; rw [<- h.1]; exact ⟨fun t f => (by cases f), by simp⟩
 split at h
 . simp only [Prod.mk.injEq] at h; rw [<- h.1]; exact ⟨fun t f => (by cases f), by simp⟩
 rename_i h1 h2 h3
 obtain ⟨o, l⟩ := nR (DI 32 s) 0 0 false [] p n e (fun w k => by have := NV k; omega) (fun t f => by cases f) h
 have := PP 32 s
 exact ⟨o, by simp at l; omega⟩
structure RsBd (r : Rs) : Prop where
 vars : r.vars.length <= 4
 last : r.last <= 999999
 next : r.next <= 1000000
 fit : ∀ b, ∀ e ∈ r.lst b, (∀ t ∈ e.2, FitQ t.1 4000) /\ e.2.length <= 4001
theorem Sc : RsBd eO := ⟨AE, AE, AE, fun b e he => (by cases b <;> cases he)⟩
theorem Fm {r r' : Rs} {t : Bs} (h : RsBd r) (hi : id <= 999999) (hp : cB r id neq t = some r') : RsBd r' := by
 unfold cB at hp
 split at hp
 . simp only [Option.some.injEq] at hp; subst hp
   refine ⟨by rw [YB]; exact h.vars, by rw [iA]; exact hi, by rw [hZ]; exact h.next, fun b e f => ?_⟩
   by_cases k : b = neq
   . subst k; rw [lY] at f
     rcases List.mem_append.1 f with g | g
     . exact h.fit _ e g
     simp at g; subst g
     cases l : EE r.vars t with
     | mk p ne => obtain ⟨n, e⟩ := ne; exact TY l
   rw [gF k] at f; exact h.fit b e f
 cases hp
theorem Qz {r r' : Rs} {l : Bs} (h : RsBd r) (he : JP r l = some r') : RsBd r' := by
 unfold JP at he
 split at he
 . cases he
 cases e : EA ((r.last + 1 : Nat) : Int) 999999 (Lib.cut l JC).1 with
 | none => simp only [e, reduceCtorEq] at he
 | some id =>
   simp only [e] at he
   obtain ⟨_, _, f⟩ := IW AA e
   split at he
   . exact Fm h AA he
   split at he
   . exact Fm h AA he
   cases he
theorem Vf {r r' : Rs} {l : Bs} (h : RsBd r) (he : IL n r l = some r') : RsBd r' := by
 unfold IL at he
 split at he
 . obtain ⟨vs, p, _, o⟩ := Ei he
   subst o
   exact ⟨IG p, h.last, h.next, fun b e k => h.fit b e (by cases b <;> exact k)⟩
 split at he
 . cases he
 split at he
 . unfold xY at he
   cases f : EA ((r.last + 1 : Nat) : Int) 1000000 (Lib.trimPrefix l lW) with
   | none => rw [f] at he; cases he
   | some m =>
     obtain ⟨_, _, q⟩ := IW AA f
     simp only [f, Option.map_some, Option.some.injEq] at he
     subst he
     exact ⟨h.vars, h.last, by show m <= 1000000; omega, fun b e k => h.fit b e (by cases b <;> exact k)⟩
 exact Qz h he
theorem tQ : ∀ {ls : List Bs} {n : Nat} {r r' : Rs}, RsBd r -> JX ls n r = some r' -> RsBd r'
 | [], n, r, r', h, hr => by simp only [JX, Option.some.injEq] at hr; subst hr; exact h
 | x :: l, n, r, r', h, hr => by
   cases hx : IL (n + 1) r x with
   | none => simp [JX, hx] at hr
   | some r1 =>
     simp only [JX, hx] at hr
     exact tQ (Vf h hx) hr
theorem Rg (s sep : Bs) : (Lib.cut s sep).1.length <= s.length := by
 unfold Lib.cut; split
 . rw [List.length_take]; omega
 exact Nat.le_refl _
theorem Rf (s sep : Bs) : (Lib.cut s sep).2.1.length <= s.length := by
 unfold Lib.cut; split
 . rw [List.length_drop]; omega
 simp
theorem rF (s p : Bs) : (Lib.trimSuffix s p).length <= s.length := by
 unfold Lib.trimSuffix; split
 . rw [List.length_take]; omega
 exact Nat.le_refl _
theorem Ik (s p : Bs) : (Lib.trimPrefix s p).length <= s.length := by
 unfold Lib.trimPrefix; split
 . rw [List.length_drop]; omega
 exact Nat.le_refl _
theorem wG {s p : Bs} (h : Lib.hasSuffix s p = false) : Lib.trimSuffix s p = s := by unfold Lib.trimSuffix; rw [if_neg (by rw [h]; simp)]
theorem en_1 {r : Rs} {l d t : Bs} (h : Lib.cut l JC = (d, t, false)) : JP r l = none := by unfold JP; rw [h, if_pos rfl]
theorem en_2 {r : Rs} {l d t : Bs} (h : Lib.cut l JC = (d, t, true)) (h2 : EA ((r.last + 1 : Nat) : Int) 999999 d = none) : JP r l = none := by unfold JP; rw [h, if_neg AH]; simp only [h2]
theorem en_3 {r : Rs} {l d t : Bs} (h : Lib.cut l JC = (d, t, true)) (h2 : EA ((r.last + 1 : Nat) : Int) 999999 d = some id) (h3 : Lib.hasSuffix t NL = false) (h4 : Lib.hasSuffix t ZR = false) : JP r l = none := by
 unfold JP; rw [h, if_neg AH]; simp only [h2, h3, h4]; simp
theorem Vx {r : Rs} {l d t u : Bs} (h : Lib.cut l JC = (d, t, true)) (h2 : EA ((r.last + 1 : Nat) : Int) 999999 d = some id) (h3 : Lib.hasSuffix t NL = true) (h4 : Lib.trimSuffix t NL = u) : JP r l = cB r id true u := by
 unfold JP; rw [h, if_neg AH]; simp only [h2, h3, h4]; simp
theorem Vw {r : Rs} {l d t u : Bs} (h : Lib.cut l JC = (d, t, true)) (h2 : EA ((r.last + 1 : Nat) : Int) 999999 d = some id) (h3 : Lib.hasSuffix t NL = false) (h4 : Lib.hasSuffix t ZR = true) (h5 : Lib.trimSuffix t ZR = u) : JP r l = cB r id false u := by
 unfold JP; rw [h, if_neg AH]; simp only [h2, h3, h4, h5]; simp
theorem rV {r : Rs} {u : Bs} {p : List Tm} (h : EE r.vars u = (p, n, e)) (h1 : e ≠ 0 ∨ ¬ QQ p <= 12 ∨ ¬ (r.lst neq).length < 12) : cB r id neq u = none := by
 unfold cB; rw [h, if_neg]
 rintro ⟨l, k, f⟩
 rcases h1 with h1 | h1 | h1
 . exact h1 l
 . exact h1 k
 exact h1 f
theorem Pb {r : Rs} {u : Bs} {p : List Tm} (h : EE r.vars u = (p, n, 0)) (h1 : QQ p <= 12) (h2 : (r.lst neq).length < 12) : cB r id neq u = some (r.add (neq, id, p)) := by
 unfold cB; rw [h, if_pos ⟨rfl, h1, h2⟩]
theorem QX {o : Option Rs} (h : o = none) (hb : Below r w w') : kG r w o (.returned (.bool false)) w' := by subst h; exact ⟨false, rfl, hb, rfl⟩
theorem lS {o : Option Rs} {st : Rs} (h : o = some st) (hb : Below r w w') (hr : RdrAt r w' st) : kG r w o (.returned (.bool true)) w' := by subst h; exact ⟨true, rfl, hb, rfl, hr⟩
theorem Glob.be (h : Glob w) (hn : 2 <= n) (hb : Below n w w') : Glob w' := by
 refine ⟨?_, ?_⟩
 . have f := h.pow
   unfold Lib.TabIs World.var? at *
   rw [aP] at *
   simp only [Option.bind_some] at *
   rw [hb.block 1 AA]; exact f
 obtain ⟨m, e⟩ := h.max
 exact ⟨m, (World.cell?_of_block (hb.block 0 AA)).trans e⟩
theorem Mi {l : List Bs} (h : DM 4 l = true) : LD ⟨l, [], [], 1⟩ = true := by unfold LD; simp [h, LG, GT]
theorem Yh {r : Rs} {t x : Bs} {l : List Bs} (h1 : (DI 32 t).head? = some x) (hx : x = vaB) (h2 : (DI 32 t).tail = l) (h3 : DM 4 l = true) : XF r t = some ⟨l, r.eqs, r.neqs, r.next, r.last⟩ := by unfold XF; rw [h1, h2, hx, if_pos ⟨rfl, h3⟩]
theorem Yj {r : Rs} {t x : Bs} (h1 : (DI 32 t).head? = some x) (hx : ¬ x = vaB) : XF r t = none := by unfold XF; rw [h1, if_neg (fun g => hx (Option.some.inj g.1))]
theorem Yi {r : Rs} {t : Bs} {l : List Bs} (h2 : (DI 32 t).tail = l) (h3 : DM 4 l = false) : XF r t = none := by unfold XF; rw [h2, if_neg (fun g => by rw [h3] at g; exact absurd g.2 AE)]
theorem li_1 {r : Rs} {t : Bs} (h : n = 1) : IL n r t = XF r t := by unfold IL; rw [if_pos h]
theorem li_2 {r : Rs} {t : Bs} (h : ¬ n = 1) (h0 : ¬ r.next = 0) : IL n r t = none := by unfold IL; rw [if_neg h, if_pos h0]
theorem li_3 {r : Rs} {t u : Bs} (h : ¬ n = 1) (h0 : r.next = 0) (hp : Lib.hasPrefix t lW = true) (hu : Lib.trimPrefix t lW = u) (hm : EA ((r.last + 1 : Nat) : Int) 1000000 u = none) : IL n r t = none := by
 exact ZLN
theorem li_4 {m : Nat} {r : Rs} {t u : Bs} (h : ¬ n = 1) (h0 : r.next = 0) (hp : Lib.hasPrefix t lW = true) (hu : Lib.trimPrefix t lW = u) (hm : EA ((r.last + 1 : Nat) : Int) 1000000 u = some m) : IL n r t = some ⟨r.vars, r.eqs, r.neqs, m, r.last⟩ := by
 exact ZLN
theorem li_5 {r : Rs} {t : Bs} (h : ¬ n = 1) (h0 : r.next = 0) (hp : Lib.hasPrefix t lW = false) : IL n r t = JP r t := by
 unfold IL; rw [if_neg h, if_neg AA, if_neg (by rw [hp]; simp)]
set_option maxRecDepth 100000 in
set_option maxHeartbeats 8000000 in
theorem Vv (r : Nat) (vars : List Bs) (eqs neqs : List En) (next last : Nat) (t : Bs) (w : World) (hR : RdrAt r w ⟨vars, eqs, neqs, next, last⟩) (ht : t.length <= 1000000) (hG : Glob w) (hr2 : 2 <= r) (hvl : vars.length <= 1000000) (hla : last <= 1000000) :
 Calls prog 102 #[.pointer (some ⟨r, 0, none⟩), .string (bs t)] w (kG r w (JP ⟨vars, eqs, neqs, next, last⟩ t)) := by
 obtain ⟨S, vv, ve, vn, hX, hT⟩ := hR
 dsimp only at hX hT
 have bq : r <= w.heap.size := Nat.le_of_lt hX.lt
 have hSr : ¬ S r := fun h => Nat.lt_irrefl _ (hT.set _ h).1
 have hSl := hT.lt
 have hSe := hT.eqs.own
 have hSn := hT.neqs.own
 have aj := hT.apart
 obtain ⟨b7, ay, ax, _, b8⟩ := hT
 obtain ⟨U, D, rfl, ck, cj⟩ := b7.shp
 obtain ⟨Y, G, rfl⟩ := ay.shp
 obtain ⟨X, F, rfl⟩ := ax.shp
 obtain ⟨rb, a3⟩ : ∃ n, n = r + 1 := ⟨_, rfl⟩
 rw [<- a3] at ay ax
 have E := bG bq
 replace E := ((((((E.gl hG).sz (show rb <= w.heap.size by have := hX.lt; omega)).x hX).r b7 hSl).a ay hSl).a ax hSl)
 go_enter func102, ntmps102
 obtain ⟨d1, I, o1, o⟩ : ∃ a b c, Lib.cut t JC = (a, b, c) := ⟨_, _, _, rfl⟩
 have al := Rg t JC
 have ak := Rf t JC
 rw [o] at al ak
 refine yG ?_
 simp only at al ak
 refine yG ?_
 refine EF O (CC JL O ((by have q := Az t ([58, 32]) w ht (e5 E).1; rw [(show Lib.cut t [58, 32] = _ from o)] at q; exact q)) O E ?_)
 intro w1 _ E
 cases o1 with
 | false =>
  refine yG ?_
  exact (QX (en_1 o) (e6 E))
 | true =>
  cases B : EA ((last + 1 : Nat) : Int) 999999 d1 with
  | none =>
   refine yG ?_
   refine EF O (CC IR O ((by have q := PQ d1 (last + 1) 999999 w1 AA AE; rw [show gD (EA ((last + 1 : Nat) : Int) ((999999 : Nat) : Int) d1) = (0, false) from by rw [show EA ((last + 1 : Nat) : Int) ((999999 : Nat) : Int) d1 = _ from B]; rfl] at q; exact q)) O E ?_)
   intro w2 d2 E
   refine yG ?_
   exact (QX (en_2 o B) (e6 E))
  | some id =>
   obtain ⟨_, c5, c4⟩ := IW AA B
   refine yG ?_
   refine EF O (CC IR O ((by have q := PQ d1 (last + 1) 999999 w1 AA AE; rw [show gD (EA ((last + 1 : Nat) : Int) ((999999 : Nat) : Int) d1) = (id, true) from by rw [show EA ((last + 1 : Nat) : Int) ((999999 : Nat) : Int) d1 = _ from B]; rfl] at q; exact q)) O E ?_)
   intro w3 d3 E
   obtain ⟨ua, L⟩ : ∃ a, Lib.trimSuffix I NL = a := ⟨_, rfl⟩
   have b5 := rF I NL
   rw [L] at b5
   cases C : Lib.hasSuffix I NL with
   | false =>
    have R := wG C
    rw [L] at R
    replace R := R.symm
    subst R
    refine yG ?_
    refine EF O (CC KQ O (Ywl) O E ?_)
    intro w4 d4 E
    obtain ⟨ub, J⟩ : ∃ a, Lib.trimSuffix I ZR = a := ⟨_, rfl⟩
    have b4 := rF I ZR
    rw [J] at b4
    cases N : Lib.hasSuffix I ZR with
    | false =>
     have Q := wG N
     rw [J] at Q
     replace Q := Q.symm
     subst Q
     refine yG ?_
     refine EF O (CC KQ O (YRk) O E ?_)
     intro w5 d5 E
     refine yG ?_
     exact (QX (en_3 o B C N) (e6 E))
    | true =>
     refine yG ?_
     refine EF O (CC KQ O (YRk) O E ?_)
     intro w6 d6 E
     obtain ⟨p, pos, er, y⟩ : ∃ a b c, EE vars ub = (a, b, c) := ⟨_, _, _, rfl⟩
     obtain ⟨bu, bt⟩ := TY y
     have ar := fun g hg => (E.2.1.1.lt (g := g) hg).2
     have aq := fun g hg => (E.1.1.lt (g := g) hg).2
     have br := Bx.lt (e3 E)
     refine yG ?_
     refine EF O (HH (r := (p, pos, er)) LJ O (by rw [<- y]; exact jM ub _ vars _ ((BW E.2.2.1)) hvl AA (e5 E).1) O E ?_)
     intro w7 v7 d7 f7 E
     replace E := E.sz (Nat.le_refl w7.heap.size)
     have bw := f7
     obtain ⟨ao, an, rfl, c3, _⟩ := f7.shp
     replace E := E.r (e := JQ) (S := EM w6.heap.size w7.heap.size) bw (fun _ g => g.2)
     by_cases a5 : er = 0
     case neg =>
      refine yG ?_
      exact (QX ((Vw o B C N J).trans (rV y (.inl a5))) (e8 E))
     subst a5
     by_cases a6 : QQ p <= 12
     case neg =>
      refine yG ?_
      refine EF O (CC FH O (PM _ p _ (BW E.1) AA) O E ?_)
      intro cd cr E
      refine yG ?_
      exact (QX ((Vw o B C N J).trans (rV y (.inr (.inl a6)))) (e8 E))
     by_cases a4 : eqs.length < 12
     case neg =>
      refine yG ?_
      refine EF O (CC FH O (PM _ p _ (BW E.1) AA) O E ?_)
      intro ce ct E
      refine yG ?_
      exact (QX ((Vw o B C N J).trans (rV y (.inr (.inr a4)))) (e8 E))
     refine yG ?_
     refine EF O (CC FH O (PM _ p _ (BW E.1) AA) O E ?_)
     intro w8 d8 E
     obtain ⟨P, u⟩ : ∃ f, f = (fun k => S k ∨ EM w6.heap.size w7.heap.size k) := ⟨_, rfl⟩
     have aw : IsR elS P w8 (.slice U vars.length D) vars := by rw [u]; exact (e4 E).1.mono (fun _ => .inl)
     have a9 : Acc RB 83 rb P w8 (.slice Y eqs.length G) eqs := by rw [u]; exact (e3 E).1.mono (fun _ => .inl) (fun g hg hs => hs.elim (hSe g hg) (fun H => by have := ar g hg; have := H.1; omega))
     have a8 : Acc RB 83 rb P w8 (.slice X neqs.length F) neqs := by rw [u]; exact E.2.2.1.1.mono (fun _ => .inl) (fun g hg hs => hs.elim (hSn g hg) (fun H => by have := aq g hg; have := H.1; omega))
     have a7 : IsR JQ P w8 (.slice ao p.length an) p := by rw [u]; exact E.1.1.mono (fun _ => .inr)
     have hS2r : ¬ P r := by rw [u]; exact fun h => h.elim hSr YIs
     have hS2l : ∀ k, P k -> k < w8.heap.size := by rw [u]; exact fun k h => h.elim (fun g => (e3 E).2 k g) (fun H => E.1.2 k H)
     have hS2T : ∀ k, P k -> r < k := by rw [u]; exact fun k h => h.elim (fun g => (b8 k g).1) YIs
     have hS2e := a9.own
     have hS2n := a8.own
     replace E := (((((((JD (Env.x (JD (JD (JD (Env.nil _) (e8 E)) (e7 E)) (e6 E)) (e5 E)) E.2.1)).r aw hS2l)).r a7 hS2l)).a a9 hS2l).a a8 hS2l
     refine yG ?_
     refine V (v := .agg #[.int .i64 ↑id, .slice ao p.length an]) O O (KV O O O) ?_
     refine yG ?_
     refine EF O (DW (cs := [.int .i64 ↑id, .slice ao p.length an]) underlying46 LS O AE AE O O ?_)
     intro b9 w9 bx z9 d9 x9
     have ap : ((.slice Y eqs.length G) : Value).ownBlock ≠ some b9 := fun h => by have := (Acc.lt E.2.1.1 h).2; omega
     have bp : rb <= b9 := by rw [bx]; exact CS (e6 E)
     replace E := E.below d9
     replace E := E.x x9
     have ab := E.2.2.1
     have c2 := Acc.nw ab.1
     refine yG ?_
     replace E := VC E
     have av := fun g hg => (E.2.1.1.lt (g := g) hg).2
     refine EF O (TV (x := (id, p)) Xf O (l := eqs) O ab.1 ab.2 E (fun g hg h1 T => ⟨GO (fun e => ap (e ▸ hg)), Jv (fun h => aj g hg h) YiE, FV YiE, FV YiE, BX, GO AA, BX, LA AA, Zn AA, BX⟩) O E.1 (⟨_, O, E.2.2.1.1⟩) (by unfold maxLen; omega) AA (CS (e6 E)) ?_)
     intro ad ch ag E
     have ai : ∀ g, (ad : Value).ownBlock = some g -> ((.slice X neqs.length F) : Value).ownBlock = some g -> False := fun g h1 T => ag g (av g T) (fun h3 => aj g h3 T) h1
     have hS2e := E.1.1.own
     have b2 := e6 E
     refine yG ?_
     replace E := dW E
     refine yG ?_
     refine EF O (CI (v := ad) O Z (Acc.one E.1.1) O O b2 AH ?_)
     intro cg bo bj
     replace E := oY E b2 bo bj (ds := [.slice U vars.length D, ad, .slice X neqs.length F, .int .i64 ↑next, .int .i64 ↑last])
     have b1 := E.1
     refine yG ?_
     replace E := YE E
     refine yG ?_
     refine EF O (CI (v := .int .i64 ↑id) O Z O O O b1 AH ?_)
     intro cf bn bi
     have nvq := Acc.nw E.1.1
     replace E := oY E b1 bn bi (ds := [.slice U vars.length D, ad, .slice X neqs.length F, .int .i64 ↑next, .int .i64 ↑id])
     refine yG ?_
     exact (lS ((Vw o B C N J).trans (Pb y a6 a4)) (e9 E) ⟨P, _, _, _, E.1, ⟨(e5 E).1, (by rw [<- a3]; exact E.2.1.1), (by rw [<- a3]; exact (e3 E).1), ai, fun k h => ⟨hS2T k h, (e5 E).2 k h⟩⟩⟩)
   | true =>
    refine yG ?_
    refine EF O (CC KQ O (Ywl) O E ?_)
    intro b3 cq E
    obtain ⟨p, pos, er, y⟩ : ∃ a b c, EE vars ua = (a, b, c) := ⟨_, _, _, rfl⟩
    obtain ⟨bu, bt⟩ := TY y
    have ar := fun g hg => (E.2.1.1.lt (g := g) hg).2
    have aq := fun g hg => (E.1.1.lt (g := g) hg).2
    have br := Bx.lt (e3 E)
    refine yG ?_
    refine EF O (HH (r := (p, pos, er)) LJ O (by rw [<- y]; exact jM ua _ vars _ ((BW E.2.2.1)) hvl AA (e5 E).1) O E ?_)
    intro am ci cp ba E
    replace E := E.sz (Nat.le_refl am.heap.size)
    have b6 := ba
    obtain ⟨a2, a1, rfl, bv, _⟩ := ba.shp
    replace E := E.r (e := JQ) (S := EM b3.heap.size am.heap.size) b6 (fun _ g => g.2)
    by_cases a5 : er = 0
    case neg =>
     refine yG ?_
     exact (QX ((Vx o B C L).trans (rV y (.inl a5))) (e8 E))
    subst a5
    by_cases a6 : QQ p <= 12
    case neg =>
     refine yG ?_
     refine EF O (CC FH O (PM _ p _ (BW E.1) AA) O E ?_)
     intro c7 cm E
     refine yG ?_
     exact (QX ((Vx o B C L).trans (rV y (.inr (.inl a6)))) (e8 E))
    by_cases a4 : neqs.length < 12
    case neg =>
     refine yG ?_
     refine EF O (CC FH O (PM _ p _ (BW E.1) AA) O E ?_)
     intro c8 cn E
     refine yG ?_
     exact (QX ((Vx o B C L).trans (rV y (.inr (.inr a4)))) (e8 E))
    refine yG ?_
    refine EF O (CC FH O (PM _ p _ (BW E.1) AA) O E ?_)
    intro a0 co E
    obtain ⟨P, u⟩ : ∃ f, f = (fun k => S k ∨ EM b3.heap.size am.heap.size k) := ⟨_, rfl⟩
    have aw : IsR elS P a0 (.slice U vars.length D) vars := by rw [u]; exact (e4 E).1.mono (fun _ => .inl)
    have a9 : Acc RB 83 rb P a0 (.slice Y eqs.length G) eqs := by rw [u]; exact (e3 E).1.mono (fun _ => .inl) (fun g hg hs => hs.elim (hSe g hg) (fun H => by have := ar g hg; have := H.1; omega))
    have a8 : Acc RB 83 rb P a0 (.slice X neqs.length F) neqs := by rw [u]; exact E.2.2.1.1.mono (fun _ => .inl) (fun g hg hs => hs.elim (hSn g hg) (fun H => by have := aq g hg; have := H.1; omega))
    have a7 : IsR JQ P a0 (.slice a2 p.length a1) p := by rw [u]; exact E.1.1.mono (fun _ => .inr)
    have hS2r : ¬ P r := by rw [u]; exact fun h => h.elim hSr YIs
    have hS2l : ∀ k, P k -> k < a0.heap.size := by rw [u]; exact fun k h => h.elim (fun g => (e3 E).2 k g) (fun H => E.1.2 k H)
    have hS2T : ∀ k, P k -> r < k := by rw [u]; exact fun k h => h.elim (fun g => (b8 k g).1) YIs
    have hS2e := a9.own
    have hS2n := a8.own
    replace E := (((((((JD (Env.x (JD (JD (JD (Env.nil _) (e8 E)) (e7 E)) (e6 E)) (e5 E)) E.2.1)).r aw hS2l)).r a7 hS2l)).a a9 hS2l).a a8 hS2l
    refine yG ?_
    refine V (v := .agg #[.int .i64 ↑id, .slice a2 p.length a1]) O O (KV O O O) ?_
    refine yG ?_
    refine EF O (DW (cs := [.int .i64 ↑id, .slice a2 p.length a1]) underlying46 LS O AE AE O O ?_)
    intro bc cc bb c6 c0 bk
    have ae : ((.slice X neqs.length F) : Value).ownBlock ≠ some bc := fun h => by have := (Acc.lt E.1.1 h).2; omega
    have bf : rb <= bc := by rw [bb]; exact CS (e6 E)
    replace E := E.below c0
    replace E := E.x bk
    have aa := E.2.1
    have c1 := Acc.nw aa.1
    refine yG ?_
    replace E := QP E
    have au := fun g hg => (E.2.1.1.lt (g := g) hg).2
    refine EF O (TV (x := (id, p)) Xf O (l := neqs) O aa.1 aa.2 E (fun g hg h1 T => ⟨GO (fun e => ae (e ▸ hg)), Jv (fun h => (fun g h1 T => aj g T h1) g hg h) YiE, FV YiE, FV YiE, BX, GO AA, BX, LA AA, Zn AA, BX⟩) O E.1 (⟨_, O, E.2.2.1.1⟩) (by unfold maxLen; omega) AA (CS (e6 E)) ?_)
    intro ac cb af E
    have ah : ∀ g, (ac : Value).ownBlock = some g -> ((.slice Y eqs.length G) : Value).ownBlock = some g -> False := fun g h1 T => af g (au g T) (fun h3 => (fun g h1 T => aj g T h1) g h3 T) h1
    have hS2n := E.1.1.own
    have b0 := e6 E
    refine yG ?_
    replace E := dW E
    refine yG ?_
    refine EF O (CI (v := ac) O Z (Acc.one E.1.1) O O b0 AH ?_)
    intro ca bm bh
    replace E := oY E b0 bm bh (ds := [.slice U vars.length D, .slice Y eqs.length G, ac, .int .i64 ↑next, .int .i64 ↑last])
    have az := E.1
    refine yG ?_
    replace E := YE E
    refine yG ?_
    refine EF O (CI (v := .int .i64 ↑id) O Z O O O az AH ?_)
    intro c9 bl bg
    have nvq := Acc.nw E.1.1
    replace E := oY E az bl bg (ds := [.slice U vars.length D, .slice Y eqs.length G, ac, .int .i64 ↑next, .int .i64 ↑id])
    refine yG ?_
    exact (lS ((Vx o B C L).trans (Pb y a6 a4)) (e9 E) ⟨P, _, _, _, E.1, ⟨(e5 E).1, (by rw [<- a3]; exact (e3 E).1), (by rw [<- a3]; exact E.2.1.1), (fun g h1 T => ah g T h1), fun k h => ⟨hS2T k h, (e5 E).2 k h⟩⟩⟩)
set_option maxHeartbeats 8000000
set_option maxRecDepth 100000
theorem WU : Fn prog 100 := ⟨_, func100, by kernel_rfl, rfl⟩
theorem VL : Fn prog 102 := ⟨_, func102, by kernel_rfl, rfl⟩
theorem OK : Fn prog 53 := ⟨_, func53, by kernel_rfl, rfl⟩
theorem Ym (r : Nat) (vars : List Bs) (eqs neqs : List En) (next last : Nat) (t : Bs) (w : World) (hR : RdrAt r w ⟨vars, eqs, neqs, next, last⟩) (ht : t.length <= 1000000) (hG : Glob w) (hr2 : 2 <= r) (_ : vars.length <= 1000000) (_ : last <= 1000000) :
 Calls prog 100 #[.pointer (some ⟨r, 0, none⟩), .string (bs t)] w (kG r w (XF ⟨vars, eqs, neqs, next, last⟩ t)) := by
 obtain ⟨S, vv, ve, vn, hX, Q⟩ := hR
 dsimp only at hX Q
 have a7 : r <= w.heap.size := Nat.le_of_lt hX.lt
 have hSr : ¬ S r := fun h => Nat.lt_irrefl _ (Q.set _ h).1
 have hSl := Q.lt
 have hSe := Q.eqs.own
 have hSn := Q.neqs.own
 have ae := Q.apart
 obtain ⟨a1, P, N, _, af⟩ := Q
 obtain ⟨aq, ak, rfl, ap, an⟩ := a1.shp
 obtain ⟨a5, H, rfl⟩ := P.shp
 obtain ⟨a4, G, rfl⟩ := N.shp
 obtain ⟨rb, I⟩ : ∃ n, n = r + 1 := ⟨_, rfl⟩
 rw [<- I] at P N
 have E := bG a7
 replace E := ((((((E.gl hG).sz (show rb <= w.heap.size by have := hX.lt; omega)).x hX).r a1 hSl).a P hSl).a N hSl)
 go_enter func100, ntmps100
 obtain ⟨l, p⟩ : ∃ l, l = DI 32 t := ⟨_, rfl⟩
 have ao : l.length <= 1000001 := by rw [p]; have := PP 32 t; omega
 have ac : 1 <= l.length := by rw [p]; exact List.length_pos_iff.2 (PN 32 t)
 have aa := fun g hg => (E.2.1.1.lt (g := g) hg).2
 have a9 := fun g hg => (E.1.1.lt (g := g) hg).2
 have am := Bx.lt (e3 E)
 refine yG ?_
 refine EF O (DE XR O ((by have Y := Hs t 32 w AA (e5 E).1; rw [<- p] at Y; exact Y)) O E ?_)
 intro w1 v1 d1 f1 E
 replace E := E.sz (Nat.le_refl w1.heap.size)
 obtain ⟨X, o, rfl, aj, _⟩ := f1.shp
 replace E := E.r (e := elS) (S := EM w.heap.size w1.heap.size) f1 (fun _ g => g.2)
 obtain ⟨q, a0⟩ : ∃ a, Ba X (1 * 1) (decide (o = 1)) = a := ⟨_, rfl⟩
 refine yG ?_
 refine V (v := .slice q (l.length - 1) (o - 1)) O O (FK (i := 1) O underlying30 Z O O O AA a0) ?_
 replace E := E.r (e := elS) (S := EM w.heap.size w1.heap.size) (MF E.1.1 AA a0) (E.1.2)
 have x4 := e6 E
 refine yG ?_
 replace E := dW E
 refine yG ?_
 refine EF O (CI (v := .slice q (l.length - 1) (o - 1)) O Z O O O x4 AH ?_)
 intro U o3 y3
 replace E := oY E x4 o3 y3 (ds := [.slice q (l.length - 1) (o - 1), .slice a5 eqs.length H, .slice a4 neqs.length G, .int .i64 ↑next, .int .i64 ↑last])
 obtain ⟨T, y⟩ : ∃ x, l[0]? = some x := ⟨_, List.getElem?_eq_getElem ac⟩
 obtain ⟨a6, al, _, L, ag, ad, a8⟩ := IsR.at E.2.2.1.1 y
 obtain rfl := (show _ = [Value.string (bs T)] from a8)
 have ab : a6 < _ := E.2.2.1.2 _ ag
 replace E := E.c ad ab
 obtain ⟨R, u⟩ : ∃ f, f = (fun k => S k ∨ EM w.heap.size w1.heap.size k) := ⟨_, rfl⟩
 have ai : Acc RB 83 rb R U (.slice a5 eqs.length H) eqs := by rw [u]; exact (e6 E).1.mono (fun _ => .inl) (fun g hg hs => hs.elim (hSe g hg) (fun J => by have := aa g hg; have := J.1; omega))
 have ah : Acc RB 83 rb R U (.slice a4 neqs.length G) neqs := by rw [u]; exact (e5 E).1.mono (fun _ => .inl) (fun g hg hs => hs.elim (hSn g hg) (fun J => by have := a9 g hg; have := J.1; omega))
 have a3 : IsR elS R U (.slice q (l.length - 1) (o - 1)) (l.drop 1) := by rw [u]; exact E.2.2.1.1.mono (fun _ => .inr)
 have a2 : IsR elS R U (.slice X l.length o) l := by rw [u]; exact (e3 E).1.mono (fun _ => .inr)
 have hS2l : ∀ k, R k -> k < U.heap.size := by rw [u]; exact fun k h => h.elim (fun g => (e6 E).2 k g) (fun J => E.2.2.1.2 k J)
 have hS2T : ∀ k, R k -> r < k := by rw [u]; exact fun k h => h.elim (fun g => (af k g).1) (fun J => by have := J.1; omega)
 replace E := (((((((JD (Env.x (JD (JD (JD (JD (JD (Env.nil _) (RD E)) (e9 E)) (e8 E)) (e7 E)) (e4 E)) E.2.1) E.1)).r a3 hS2l)).r a2 hS2l)).a ai hS2l).a ah hS2l
 have F : (DI 32 t).head? = some T := by rw [<- p, List.head?_eq_getElem?]; exact y
 have D : (DI 32 t).tail = l.drop 1 := by rw [<- p, List.drop_one]
 by_cases B : T = vaB
 case neg =>
  refine yG ?_
  refine OL (j := 0) O O L O (List.getElem?_eq_some_iff.1 y).1 ?_
  refine yG ?_
  refine V O O (EO (a := T) (b := [118, 97, 114, 115]) (c := false) O O O (by rw [beq_eq_false_iff_ne]; exact B)) ?_
  refine yG ?_
  exact (QX (Yj F B) (RD E))
 by_cases C : DM 4 (l.drop 1) = true
 case neg =>
  refine yG ?_
  refine OL (j := 0) O O L O (List.getElem?_eq_some_iff.1 y).1 ?_
  refine yG ?_
  refine V O O (EO (a := T) (b := [118, 97, 114, 115]) (c := true) O O O (by rw [beq_iff_eq]; exact B)) ?_
  refine yG ?_
  refine V (v := .agg #[.slice q (l.length - 1) (o - 1), .slice none 0 0, .slice none 0 0, .int .i64 1]) Z O (RX O O O) ?_
  refine yG ?_
  refine EF O (CA IY O (CT (eY (DY C)) (VH (.slice q (l.length - 1) (o - 1)) (l.drop 1) (.slice none 0 0) ([]) (.slice none 0 0) ([]) 1 _ (BW (e3 E)) (IsR.nil _ _ _) (IsR.nil _ _ _) OJ OJ (by simp only [List.length_drop]; omega))) O E ?_)
  intro w7 d7 E
  refine yG ?_
  exact (QX (Yi D (DY C)) (RD E))
 refine yG ?_
 refine OL (j := 0) O O L O (List.getElem?_eq_some_iff.1 y).1 ?_
 refine yG ?_
 refine V O O (EO (a := T) (b := [118, 97, 114, 115]) (c := true) O O O (by rw [beq_iff_eq]; exact B)) ?_
 refine yG ?_
 refine V (v := .agg #[.slice q (l.length - 1) (o - 1), .slice none 0 0, .slice none 0 0, .int .i64 1]) Z O (RX O O O) ?_
 refine yG ?_
 refine EF O (CA IY O (CT (Mi C) (VH (.slice q (l.length - 1) (o - 1)) (l.drop 1) (.slice none 0 0) ([]) (.slice none 0 0) ([]) 1 _ (BW (e3 E)) (IsR.nil _ _ _) (IsR.nil _ _ _) OJ OJ (by simp only [List.length_drop]; omega))) O E ?_)
 intro w6 d6 E
 refine yG ?_
 exact (lS (Yh F B D C) (RD E) ⟨R, _, _, _, e5 E, ⟨(e3 E).1, (by rw [<- I]; exact E.2.1.1), (by rw [<- I]; exact E.1.1), ae, fun k h => ⟨hS2T k h, (e3 E).2 k h⟩⟩⟩)
theorem Pu (r : Nat) (n : Nat) (vars : List Bs) (eqs neqs : List En) (next last : Nat) (t : Bs) (w : World) (hR : RdrAt r w ⟨vars, eqs, neqs, next, last⟩) (ht : t.length <= 1000000) (hG : Glob w) (hr2 : 2 <= r) (hvl : vars.length <= 1000000) (hla : last <= 1000000) :
 Calls prog 53 #[.pointer (some ⟨r, 0, none⟩), .int .i64 ↑n, .string (bs t)] w (kG r w (IL n ⟨vars, eqs, neqs, next, last⟩ t)) := by
 obtain ⟨S, vv, ve, vn, Y, L⟩ := hR
 dsimp only at Y L
 have D : r <= w.heap.size := Nat.le_of_lt Y.lt
 have hSr : ¬ S r := fun h => Nat.lt_irrefl _ (L.set _ h).1
 have hSl := L.lt
 have hSe := L.eqs.own
 have hSn := L.neqs.own
 have H := L.apart
 obtain ⟨R, J, I, _, N⟩ := L
 obtain ⟨T, y, rfl, a4, a3⟩ := R.shp
 obtain ⟨X, C, rfl⟩ := J.shp
 obtain ⟨U, B, rfl⟩ := I.shp
 obtain ⟨rb, f⟩ : ∃ n, n = r + 1 := ⟨_, rfl⟩
 rw [<- f] at J I
 have E := bG D
 replace E := ((((((E.gl hG).sz (show rb <= w.heap.size by have := Y.lt; omega)).x Y).r R hSl).a J hSl).a I hSl)
 go_enter func53, ntmps53
 by_cases o : n = 1
 . refine yG ?_
   refine EF O (QL WU O (Ym r vars eqs neqs next last t _ ⟨S, _, _, _, e3 E, ⟨E.2.2.1.1, Yjl, (by rw [<- f]; exact E.1.1), H, fun k h => ⟨(fun k h => (N k h).1) k h, E.2.2.1.2 k h⟩⟩⟩ ht (e5 E).1 hr2 hvl hla) O ?_)
   intro w1 b1 a2 G
   replace E := (Env.nil w1).be (hn := D) ((e6 E).trans a2)
   refine yG ?_
   exact ⟨b1, rfl, E.1, by rw [li_1 o]; exact G⟩
 by_cases q : next = 0
 case neg =>
  refine yG ?_
  exact (QX (li_2 o q) (e6 E))
 obtain ⟨u, Q⟩ : ∃ a, Lib.trimPrefix t lW = a := ⟨_, rfl⟩
 have a0 := Ik t lW
 rw [Q] at a0
 cases l : Lib.hasPrefix t lW with
 | false =>
  refine yG ?_
  refine EF O (CC KR O (YGR) O E ?_)
  intro w2 d2 E
  refine yG ?_
  refine EF O (QL VL O (Vv r vars eqs neqs next last t _ ⟨S, _, _, _, e3 E, ⟨E.2.2.1.1, Yjl, (by rw [<- f]; exact E.1.1), H, fun k h => ⟨(fun k h => (N k h).1) k h, E.2.2.1.2 k h⟩⟩⟩ ht (e5 E).1 hr2 hvl hla) O ?_)
  intro w3 b3 a1 F
  replace E := (Env.nil w3).be (hn := D) ((e6 E).trans a1)
  refine yG ?_
  exact ⟨b3, rfl, E.1, by rw [li_5 o q l]; exact F⟩
 | true =>
  refine yG ?_
  refine EF O (CC KR O (YGR) O E ?_)
  intro w4 d4 E
  cases p : EA ((last + 1 : Nat) : Int) 1000000 u with
  | none =>
   refine yG ?_
   refine EF O (CC IR O ((by have e := PQ u (last + 1) 1000000 w4 AA AE; rw [show gD (EA ((last + 1 : Nat) : Int) ((1000000 : Nat) : Int) u) = (0, false) from by rw [show EA ((last + 1 : Nat) : Int) ((1000000 : Nat) : Int) u = _ from p]; rfl] at e; exact e)) O E ?_)
   intro w5 d5 E
   have x7 := e3 E
   refine yG ?_
   replace E := qC E
   refine yG ?_
   refine EF O (CI (v := .int .i64 ((0 : Nat) : Int)) O Z O O O x7 AH ?_)
   intro w6 o6 y6
   replace E := oY E x7 o6 y6 (ds := [.slice T vars.length y, .slice X eqs.length C, .slice U neqs.length B, .int .i64 ((0 : Nat) : Int), .int .i64 ↑last])
   refine yG ?_
   exact (QX (li_3 o q l Q p) (e6 E))
  | some m =>
   refine yG ?_
   refine EF O (CC IR O ((by have e := PQ u (last + 1) 1000000 w4 AA AE; rw [show gD (EA ((last + 1 : Nat) : Int) ((1000000 : Nat) : Int) u) = (m, true) from by rw [show EA ((last + 1 : Nat) : Int) ((1000000 : Nat) : Int) u = _ from p]; rfl] at e; exact e)) O E ?_)
   intro w8 d8 E
   have P := e3 E
   refine yG ?_
   replace E := qC E
   refine yG ?_
   refine EF O (CI (v := .int .i64 ↑m) O Z O O O P AH ?_)
   intro w9 o9 y9
   replace E := oY E P o9 y9 (ds := [.slice T vars.length y, .slice X eqs.length C, .slice U neqs.length B, .int .i64 ↑m, .int .i64 ↑last])
   refine yG ?_
   exact (lS (li_4 o q l Q p) (e6 E) ⟨S, _, _, _, E.1, ⟨(e3 E).1, (by rw [<- f]; exact E.2.2.1.1), Yjl, H, fun k h => ⟨(fun k h => (N k h).1) k h, (e3 E).2 k h⟩⟩⟩)
theorem Bx.be {b T : Nat} {cs : List Value} (h : Bx w b T cs) (hb : b < n) (hw : Below n w w') : Bx w' b T cs := by
 unfold Bx at *; rw [hw.block b hb]; exact h
def fTw (r : Nat) (S : Nat -> Prop) (vv ve vn : Value) (vars : List Bs) (eqs neqs : List En) : SF := ⟨fun w => Two r S w vv ve vn vars eqs neqs, fun c => c <= r, fun h hb => h.below hb, fun h hn ho hb => h.onl hn ho hb⟩
theorem Env.tw {L : List SF} {vars : List Bs} {eqs neqs : List En} (E : Env w L) (h : Two r S w vv ve vn vars eqs neqs) : Env w (fTw r S vv ve vn vars eqs neqs :: L) := ⟨h, E⟩
theorem okTw {c : Nat} {vars : List Bs} {eqs neqs : List En} (h : c <= r) : (fTw r S vv ve vn vars eqs neqs).ok c := h
theorem Og (h : Bx w r 115 [.slice none 0 0, .slice none 0 0, .slice none 0 0, .int .i64 0, .int .i64 0]) : RdrAt r w eO :=
 ⟨WW, _, _, _, h, ⟨IsR.nil _ _ _, Acc.nil _ _ _ _ _, Acc.nil _ _ _ _ _, fun g hg => by simp [Value.ownBlock] at hg, fun k hk => hk.elim⟩⟩
theorem RdrAt.box {st : Rs} (h : RdrAt r w st) : ∃ S aov lv cv aoe le ce aon ln cn, Bx w r 115 [.slice aov lv cv, .slice aoe le ce, .slice aon ln cn, .int .i64 ↑st.next, .int .i64 ↑st.last] /\ Two r S w (.slice aov lv cv) (.slice aoe le ce) (.slice aon ln cn) st.vars st.eqs st.neqs := by
 obtain ⟨S, k, o, l, f, e⟩ := h
 obtain ⟨aov, cv, rfl, _⟩ := e.vars.shp
 obtain ⟨aoe, ce, rfl⟩ := e.eqs.shp
 obtain ⟨aon, cn, rfl⟩ := e.neqs.shp
 exact ⟨S, _, _, _, _, _, _, _, _, _, f, e⟩
theorem Two.row {s : Sy} (h : Two r S w vv ve vn s.vars s.eqs s.neqs) (hr : w0.heap.size <= r) {n : Int} (hn : n = ((s.next : Nat) : Int)) : NewSy w0 s w (.agg #[vv, ve, vn, .int .i64 n]) := by subst hn; exact h.sy hr
theorem Fi {t : Bs} (h : 100000 < t.length) : HO t = (qQ, 0, 2) := by unfold HO; rw [if_pos h]
theorem Fj {t : Bs} {l1 rest : List Bs} {st : Rs} (h : ¬ 100000 < t.length) (hs : DI 10 t = l1 ++ rest) (hr : JX l1 0 eO = some st) (hne : rest ≠ []) : HO t = dS rest l1.length st := by
 unfold HO; rw [if_neg h, hs, uW hr hne, Nat.zero_add]
theorem Uk {t : Bs} {l1 : List Bs} {st : Rs} (h : ¬ 100000 < t.length) (hs : DI 10 t = l1 ++ DI 10 []) (hr : JX l1 0 eO = some st) (h0 : st.next = 0) : HO t = (qQ, l1.length + 1, 440) := by
 rw [Fj h hs hr (by simp [DI])]; simp [DI, dS, h0]
theorem Uj {t : Bs} {l1 : List Bs} {st : Rs} (h : ¬ 100000 < t.length) (hs : DI 10 t = l1 ++ DI 10 []) (hr : JX l1 0 eO = some st) (h0 : ¬ st.next = 0) : HO t = (st.sy, 0, 0) := by
 rw [Fj h hs hr (by simp [DI])]; simp [DI, dS, h0]
theorem Ui {t tt : Bs} {l1 : List Bs} {st : Rs} (h : ¬ 100000 < t.length) (hs : DI 10 t = l1 ++ DI 10 tt) (hr : JX l1 0 eO = some st) (hne : ¬ tt = []) (hc : KY 10 tt = none) : HO t = (qQ, l1.length + 1, 440) := by
 rw [Fj h hs hr (PN _ _), PO 10 (cutB_none.1 hc)]; simp [dS, hne]
theorem Ev {tt x y : Bs} (hc : KY 10 tt = some (x, y)) : DI 10 tt = x :: DI 10 y := by
 obtain ⟨rfl, e⟩ := cutB_some.1 hc; exact YL 10 e
theorem Zi {t tt x y : Bs} {l1 : List Bs} {st : Rs} (h : ¬ 100000 < t.length) (hs : DI 10 t = l1 ++ DI 10 tt) (hr : JX l1 0 eO = some st) (hc : KY 10 tt = some (x, y)) (hl : IL (l1.length + 1) st x = none) : HO t = (qQ, l1.length + 1, 440) := by
 rw [Fj h hs hr (PN _ _), Ev hc]
 cases e : DI 10 y with
 | nil => exact absurd e (PN _ _)
 | cons a b => simp only [dS, hl]
theorem Xo {t tt x y : Bs} {l1 : List Bs} {st st' : Rs} (hs : DI 10 t = l1 ++ DI 10 tt) (hr : JX l1 0 eO = some st) (hc : KY 10 tt = some (x, y)) (hl : IL (l1.length + 1) st x = some st') : DI 10 t = (l1 ++ [x]) ++ DI 10 y /\ JX (l1 ++ [x]) 0 eO = some st' := by
 refine ⟨by rw [hs, Ev hc]; simp, ?_⟩
 rw [xL hr]; simp only [JX, Nat.zero_add, hl]
theorem Zh {t tt : Bs} {l1 : List Bs} (hs : DI 10 t = l1 ++ DI 10 tt) : l1.length <= t.length := by
 have e := PP 10 t
 rw [hs, List.length_append] at e
 have := List.length_pos_iff.2 (PN 10 tt); omega
theorem OH {r : Ps} {s : Sy} {v : Value} (h : r = (s, n, e)) (hv : NewSy w0 s w' v) (hb : Below w0.heap.size w0 w') : Hv w0 r (.returned (.tuple #[v, .int .i64 ↑n, .int .i64 ↑e])) w' := by subst h; exact ⟨v, rfl, hv, hb⟩
set_option maxRecDepth 100000 in
set_option maxHeartbeats 8000000 in
theorem pW (t : Bs) (w : World) (hG : Glob w) :
 Calls prog 18 #[.string (bs t)] w (Hv w (HO t)) := by
 have E := Env.start w
 have ay := hG.two
 replace E := E.gl hG
 go_enter func18, ntmps18
 refine yG ?_
 refine EF O (BZ JK O ?_)
 intro Q w1 al z1 d1 u
 have o : w.heap.size <= Q := by rw [al]; exact E.2.1.size
 replace E := E.below d1
 by_cases C : 100000 < t.length
 . refine yG ?_
   refine EF O (BY JK O O O u O O (CG O (CG O (CG O (CG O DP)))) ?_)
   intro w2 o2 y2
   replace E := oY E u o2 y2 (ds := [.slice none 0 0, .slice none 0 0, .slice none 0 0, .int .i64 0])
   have r1 := CL JK E.1 rfl
   refine yG ?_
   exact AQ (v := .tuple #[.agg #[.slice none 0 0, .slice none 0 0, .slice none 0 0, .int .i64 0], .int .i64 0, .int .i64 2]) YlN O (OH (n := 0) (e := 2) (Fi C) (NewSy.zero _ _) E.2.2.1)
 refine yG ?_
 refine EF O (CM (cs := [.slice none 0 0, .slice none 0 0, .slice none 0 0, .int .i64 0, .int .i64 0]) O O ?_)
 intro H w4 ak z4 d4 x4
 have ao : Q < H := by rw [ak]; exact Bx.lt (u)
 replace E := E.below d4
 replace u := Bx.below u d4
 replace E := E.x x4
 replace E := E.x u
 have aw : w.heap.size <= Q := by omega
 have Y : Q < H := by omega
 have P : w.heap.size <= H := by omega
 have x5 := E.2.1
 refine yG ?_
 replace E := QP E
 replace E := E.rd (Og x5)
 refine yG ?_
 refine wp_loop_ghost (fun mz a w' => ∃ (B : Bs) (o : List Bs) (h : Rs) (n0 : Nat) (y : List Value), y = a.tmps.toList /\ a = ⟨(.string (bs B) :: undef :: .pointer (some ⟨Q, 0, none⟩) :: (CJ y 3) :: (CJ y 4) :: .pointer (some ⟨H, 0, none⟩) :: .int .i64 ↑n0 :: gr y 7 3 (.string (bs t) :: .int .i64 ↑t.length :: .bool false :: undef :: .agg #[.slice none 0 0, .slice none 0 0, .slice none 0 0, .int .i64 0, .int .i64 0] :: .pointer (some ⟨H, 0, none⟩) :: gr y 16 35 [])).toArray, []⟩ /\ Env w' [fRd H h, fX Q (48) ([.slice none 0 0, .slice none 0 0, .slice none 0 0, .int .i64 0]), fGl, fW w] /\ mz = B.length /\ (DI 10 t = o ++ DI 10 B /\ JX o 0 eO = some h /\ B.length <= t.length /\ n0 = o.length)) (t.length) ⟨t, [], eO, 0, _, O, O, zE, O, ⟨O, O, Nat.le_refl _, O⟩⟩ ?_
 rintro m6 _ w6 ⟨B, o, h, n0, y, -, rfl, E, ah, aj⟩
 dsimp only [gr, Nat.reduceAdd]
 obtain ⟨l, p, ax, a0⟩ := aj
 subst a0
 have ap := Zh l
 have N := tQ Sc p
 by_cases J : B = []
 case pos =>
  refine yG ?_
  refine V O O (FG (a := B) (b := []) (c := false) O O O (by rw [bne_eq_false_iff_eq]; exact J)) ?_
  rw [J] at l
  obtain ⟨S, a2, lv, cv, a4, le, ce, a3, ln, cn, hX, ai⟩ := E.1.box
  replace E := (((Env.x (JD (Env.ww (Env.nil _) (e3 E)) E.2.2.1) E.2.1)).tw ai).x hX
  by_cases a1 : h.next = 0
  case pos =>
   have x8 := E.2.2.1
   refine yG ?_
   replace E := VC E
   refine yG ?_
   refine EF O (BY JK O O O x8 O O (CG O (CG O (CG O (CG O DP)))) ?_)
   intro w7 o7 y7
   replace E := oY E x8 o7 y7 (ds := [.slice none 0 0, .slice none 0 0, .slice none 0 0, .int .i64 0])
   have r1 := CL JK E.1 rfl
   refine yG ?_
   exact AQ (v := .tuple #[.agg #[.slice none 0 0, .slice none 0 0, .slice none 0 0, .int .i64 0], .int .i64 ↑(o.length + 1), .int .i64 440]) YlN O (OH (n := o.length + 1) (e := 440) (Uk C l p a1) (NewSy.zero _ _) (e4 E))
  refine yG ?_
  refine V O O (CE JK O O (Cs.sub (Bx.cs E.1) 0 (Tv _ _ _ _ _)) O) ?_
  have U := E.2.2.1
  replace E := VC E
  refine yG ?_
  refine EF O (BY JK O O O U O O (CG O (CG O (CG O (CG O DP)))) ?_)
  intro av ae a7
  replace E := oY E U ae a7 (ds := [.slice a2 lv cv, .slice a4 le ce, .slice a3 ln cn, .int .i64 ↑h.next])
  have r1 := CL JK E.1 rfl
  refine yG ?_
  exact AQ (v := .tuple #[.agg #[.slice a2 lv cv, .slice a4 le ce, .slice a3 ln cn, .int .i64 ↑h.next], .int .i64 0, .int .i64 0]) YlN O (OH (n := 0) (e := 0) (Uj C l p a1) (Two.row (s := Rs.sy h) E.2.2.1 P O) (e4 E))
 refine yG ?_
 refine V O O (FG (a := B) (b := []) (c := true) O O O (by rw [bne_iff_ne]; exact J)) ?_
 cases q : KY 10 B with
 | none =>
  refine yG ?_
  refine EF O (CC JL O ((by have f := Az B ([10]) w6 AA E.2.2.1.1; rw [zX q] at f; exact f)) O E ?_)
  intro au b0 E
  have T := E.2.1
  refine yG ?_
  replace E := QP E
  refine yG ?_
  refine EF O (BY JK O O O T O O (CG O (CG O (CG O (CG O DP)))) ?_)
  intro ar ad a6
  replace E := oY E T ad a6 (ds := [.slice none 0 0, .slice none 0 0, .slice none 0 0, .int .i64 0])
  have r1 := CL JK E.1 rfl
  refine yG ?_
  exact AQ (v := .tuple #[.agg #[.slice none 0 0, .slice none 0 0, .slice none 0 0, .int .i64 0], .int .i64 ↑(o.length + 1), .int .i64 440]) YlN O (OH (n := o.length + 1) (e := 440) (Ui C l p J q) (NewSy.zero _ _) (e3 E))
 | some xy =>
  obtain ⟨u, y1⟩ := xy
  have af := (cutB_some.1 q).1
  have ag := congrArg List.length af
  simp only [List.length_append, List.length_cons] at ag
  refine yG ?_
  refine EF O (CC JL O ((by have f := Az B ([10]) w6 AA E.2.2.1.1; rw [zW q] at f; exact f)) O E ?_)
  intro I az E
  cases D : IL (o.length + 1) h u with
  | none =>
   refine yG ?_
   refine EF O (QL OK O (by have f : Calls prog 53 _ I (kG H I (IL (o.length + 1) h u)) := Pu H _ h.vars h.eqs h.neqs h.next h.last u _ E.1 AA E.2.2.1.1 AA (by have := N.vars; omega) (by have := N.last; omega); rw [D] at f; exact f) O ?_)
   intro a8 an G L
   replace E := ((((Env.nil a8).ww ((e3 E).trans (G.mono P))).gl ((E.2.2.1.1).be AA G)).x (E.2.1.be Y G))
   obtain rfl : an = false := L
   have R := E.1
   refine yG ?_
   replace E := YE E
   refine yG ?_
   refine EF O (BY JK O O O R O O (CG O (CG O (CG O (CG O DP)))) ?_)
   intro aq ac a5
   replace E := oY E R ac a5 (ds := [.slice none 0 0, .slice none 0 0, .slice none 0 0, .int .i64 0])
   have r1 := CL JK E.1 rfl
   refine yG ?_
   exact AQ (v := .tuple #[.agg #[.slice none 0 0, .slice none 0 0, .slice none 0 0, .int .i64 0], .int .i64 ↑(o.length + 1), .int .i64 440]) YlN O (OH (n := o.length + 1) (e := 440) (Zi C l p q D) (NewSy.zero _ _) E.2.2.1)
  | some st2 =>
   refine yG ?_
   refine EF O (QL OK O (by have f : Calls prog 53 _ I (kG H I (IL (o.length + 1) h u)) := Pu H _ h.vars h.eqs h.neqs h.next h.last u _ E.1 AA E.2.2.1.1 AA (by have := N.vars; omega) (by have := N.last; omega); rw [D] at f; exact f) O ?_)
   intro X am F k
   replace E := ((((Env.nil X).ww ((e3 E).trans (F.mono P))).gl ((E.2.2.1.1).be AA F)).x (E.2.1.be Y F))
   obtain ⟨rfl, k⟩ : am = true /\ RdrAt H X st2 := k
   replace E := E.rd k
   refine yG ?_
   exact ⟨_, (by rw [ah]; omega), y1, (o ++ [u]), st2, (o.length + 1), _, O, O, zE, O, ⟨(Xo l p q D).1, (Xo l p q D).2, by omega, by simp⟩⟩
end Go.Proofs.YtmppigbbkjepiaaGreatDoor
