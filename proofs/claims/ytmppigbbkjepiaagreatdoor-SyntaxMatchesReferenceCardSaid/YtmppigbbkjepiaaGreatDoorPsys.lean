/- Helping facts of Rdr; no other conditions. Helping facts of Rdr2; no other conditions. Helping facts of Psys; no other conditions. -/
import Derived.Test.YtmppigbbkjepiaaGreatDoorKitV
namespace Go.Proofs.YtmppigbbkjepiaaGreatDoor
open Go.Proofs.Tryz
open Go.RowKit W
variable {S : Nat -> Prop} {e id n r : Nat} {neq : Bool} {p : Prop} {ve vn vv : Value} {w w' w0 : World}
theorem Yjl (h : p := by rw [<- f]; exact E.2.1.1) : p := h
theorem YIp (h : p := by exact fun G => by have := G.1; omega) : p := h
theorem Yxq (h : p := by have q := UM H ([32, 61, 32, 48]) w4 AA; rw [(show Lib.trimSuffix H [32, 61, 32, 48] = _ from I), (show Lib.hasSuffix H [32, 61, 32, 48] = _ from L)] at q; exact q) : p := h
theorem YRI (h : p := by have q := UM H ([32, 33, 61, 32, 48]) w3 AA; rw [(show Lib.trimSuffix H [32, 33, 61, 32, 48] = _ from J), (show Lib.hasSuffix H [32, 33, 61, 32, 48] = _ from B)] at q; exact q) : p := h
theorem YYn (h : p := by have e := UN t ([110, 101, 120, 116, 32]) w; rw [(show Lib.trimPrefix t [110, 101, 120, 116, 32] = _ from P), (show Lib.hasPrefix t [110, 101, 120, 116, 32] = _ from l)] at e; exact e) : p := h
theorem YlN (h : p := by simp [results, results18, asAddr, r1]) : p := h
theorem YiE (h : p := by first | exact hS2r | exact hS2e _ hg | exact hS2n _ hg | exact (fun h => by have := hS2l _ h; omega)) : p := h
theorem ZzH (h : p := by
 unfold IL; rw [if_neg h, if_neg AA, if_pos hp, hu]; unfold wV; rw [hm]; rfl
 ) : p := h
theorem mN {vars : List Bs} : ∀ (ws : List Bs) (i at_ : Nat) (neg : Bool) (p q : List Tm) (k e : Nat), (∀ w ∈ ws, w.length <= 4000) -> (∀ t ∈ p, FitQ t.1 4000) -> QB vars ws i at_ neg p = (q, k, e) -> (∀ t ∈ q, FitQ t.1 4000) /\ q.length <= p.length + ws.length
 | [], i, at_, neg, p, q, k, e, _, hp, h => by
   unfold QB at h
   split at h
   . simp only [Prod.mk.injEq] at h; rw [<- h.1]; exact ⟨fun t ht => (by cases ht), by simp⟩
   simp only [Prod.mk.injEq] at h; rw [<- h.1]; exact ⟨hp, by simp⟩
 | w :: ws, i, at_, neg, p, q, k, e, hw, hp, h => by
   rw [QB] at h
   split at h
   . split at h
     . have := mN ws _ _ _ p q k e (fun x hx => hw x (by simp [hx])) hp h
       exact ⟨this.1, by simp; omega⟩
     simp only [Prod.mk.injEq] at h; rw [<- h.1]; exact ⟨fun t ht => (by cases ht), by simp⟩
   cases hr : bL vars (OT i neg w).1 with
   | none => simp only [hr, Prod.mk.injEq] at h; rw [<- h.1]; exact ⟨fun t ht => (by cases ht), by simp⟩
   | some cm =>
     obtain ⟨c, m⟩ := cm
     simp only [hr] at h
     have hc : FitQ c 4000 := kQ (Nat.le_trans Qg (hw w AH)) hr
     split at h
     . simp only [Prod.mk.injEq] at h; rw [<- h.1]; exact ⟨fun t ht => (by cases ht), by simp⟩
     have := mN ws _ _ _ _ q k e (fun x hx => hw x (by simp [hx])) (fun t ht => by
      rcases List.mem_append.1 ht with g | g
      . exact hp t g
      simp at g; subst g; show FitQ (Av _ c) 4000; unfold Av; split
      . exact QZ hc
      exact hc) h
     refine ⟨this.1, ?_⟩
     have h2 := this.2
     simp only [List.length_append, List.length_cons, List.length_nil] at h2 ⊢; omega
theorem gY {vars : List Bs} {s : Bs} {p : List Tm} (h : GO vars s = (p, n, e)) : (∀ t ∈ p, FitQ t.1 4000) /\ p.length <= 4001 := by
 unfold GO at h
 split at h
 . simp only [Prod.mk.injEq] at h; rw [<- h.1]; exact ⟨fun t f => (by cases f), by simp⟩
 split at h
 . simp only [Prod.mk.injEq] at h; rw [<- h.1]; exact ⟨fun t f => (by cases f), by simp⟩
 split at h
 . simp only [Prod.mk.injEq] at h; rw [<- h.1]; exact ⟨fun t f => (by cases f), by simp⟩
 rename_i h1 h2 h3
 obtain ⟨o, l⟩ := mN (FG 32 s) 0 0 false [] p n e (fun w k => by have := ZW k; omega) (fun t f => by cases f) h
 have := XZ 32 s
 exact ⟨o, by simp at l; omega⟩
structure RsBd (r : Rs) : Prop where
 vars : r.vars.length <= 4
 last : r.last <= 999999
 next : r.next <= 1000000
 fit : ∀ b, ∀ e ∈ r.lst b, (∀ t ∈ e.2, FitQ t.1 4000) /\ e.2.length <= 4001
theorem RsBd0 : RsBd Gv := ⟨AE, AE, AE, fun b e he => (by cases b <;> cases he)⟩
theorem Eo {r r' : Rs} {t : Bs} (h : RsBd r) (hi : id <= 999999) (hp : jV r id neq t = some r') : RsBd r' := by
 unfold jV at hp
 split at hp
 . simp only [Option.some.injEq] at hp; subst hp
   refine ⟨by rw [PO]; exact h.vars, by rw [TP]; exact hi, by rw [oM]; exact h.next, fun b e f => ?_⟩
   by_cases k : b = neq
   . subst k; rw [Ud] at f
     rcases List.mem_append.1 f with g | g
     . exact h.fit _ e g
     simp at g; subst g
     cases l : GO r.vars t with
     | mk p ne => obtain ⟨n, e⟩ := ne; exact gY l
   rw [Oq k] at f; exact h.fit b e f
 cases hp
theorem Qa {r r' : Rs} {l : Bs} (h : RsBd r) (he : MR r l = some r') : RsBd r' := by
 unfold MR at he
 split at he
 . cases he
 cases e : FY ((r.last + 1 : Nat) : Int) 999999 (Lib.cut l colB).1 with
 | none => simp only [e, reduceCtorEq] at he
 | some id =>
   simp only [e] at he
   obtain ⟨_, _, f⟩ := TE AA e
   split at he
   . exact Eo h AA he
   split at he
   . exact Eo h AA he
   cases he
theorem Uf {r r' : Rs} {l : Bs} (h : RsBd r) (he : IL n r l = some r') : RsBd r' := by
 unfold IL at he
 split at he
 . obtain ⟨q, p, _, o⟩ := Sc he
   subst o
   exact ⟨GR p, h.last, h.next, fun b e k => h.fit b e (by cases b <;> exact k)⟩
 split at he
 . cases he
 split at he
 . unfold wV at he
   cases f : FY ((r.last + 1 : Nat) : Int) 1000000 (Lib.trimPrefix l nxB) with
   | none => rw [f] at he; cases he
   | some m =>
     obtain ⟨_, _, t⟩ := TE AA f
     simp only [f, Option.map_some, Option.some.injEq] at he
     subst he
     exact ⟨h.vars, h.last, by show m <= 1000000; omega, fun b e k => h.fit b e (by cases b <;> exact k)⟩
 exact Qa h he
theorem Mq : ∀ {ls : List Bs} {n : Nat} {r r' : Rs}, RsBd r -> MW ls n r = some r' -> RsBd r'
 | [], n, r, r', h, hr => by simp only [MW, Option.some.injEq] at hr; subst hr; exact h
 | x :: l, n, r, r', h, hr => by
   cases hx : IL (n + 1) r x with
   | none => simp [MW, hx] at hr
   | some r1 =>
     simp only [MW, hx] at hr
     exact Mq (Uf h hx) hr
theorem Qf (s sep : Bs) : (Lib.cut s sep).1.length <= s.length := by
 unfold Lib.cut; split
 . rw [List.length_take]; omega
 exact Nat.le_refl _
theorem Qe (s sep : Bs) : (Lib.cut s sep).2.1.length <= s.length := by
 unfold Lib.cut; split
 . rw [List.length_drop]; omega
 simp
theorem qC (s p : Bs) : (Lib.trimSuffix s p).length <= s.length := by
 unfold Lib.trimSuffix; split
 . rw [List.length_take]; omega
 exact Nat.le_refl _
theorem Hn (s p : Bs) : (Lib.trimPrefix s p).length <= s.length := by
 unfold Lib.trimPrefix; split
 . rw [List.length_drop]; omega
 exact Nat.le_refl _
theorem vI {s p : Bs} (h : Lib.hasSuffix s p = false) : Lib.trimSuffix s p = s := by unfold Lib.trimSuffix; rw [if_neg (by rw [h]; simp)]
theorem en_1 {r : Rs} {l d t : Bs} (h : Lib.cut l colB = (d, t, false)) : MR r l = none := by unfold MR; rw [h, if_pos rfl]
theorem en_2 {r : Rs} {l d t : Bs} (h : Lib.cut l colB = (d, t, true)) (h2 : FY ((r.last + 1 : Nat) : Int) 999999 d = none) : MR r l = none := by unfold MR; rw [h, if_neg AH]; simp only [h2]
theorem en_3 {r : Rs} {l d t : Bs} (h : Lib.cut l colB = (d, t, true)) (h2 : FY ((r.last + 1 : Nat) : Int) 999999 d = some id) (h3 : Lib.hasSuffix t qX = false) (h4 : Lib.hasSuffix t tZ = false) : MR r l = none := by
 unfold MR; rw [h, if_neg AH]; simp only [h2, h3, h4]; simp
theorem Vg {r : Rs} {l d t u : Bs} (h : Lib.cut l colB = (d, t, true)) (h2 : FY ((r.last + 1 : Nat) : Int) 999999 d = some id) (h3 : Lib.hasSuffix t qX = true) (h4 : Lib.trimSuffix t qX = u) : MR r l = jV r id true u := by
 unfold MR; rw [h, if_neg AH]; simp only [h2, h3, h4]; simp
theorem Vf {r : Rs} {l d t u : Bs} (h : Lib.cut l colB = (d, t, true)) (h2 : FY ((r.last + 1 : Nat) : Int) 999999 d = some id) (h3 : Lib.hasSuffix t qX = false) (h4 : Lib.hasSuffix t tZ = true) (h5 : Lib.trimSuffix t tZ = u) : MR r l = jV r id false u := by
 unfold MR; rw [h, if_neg AH]; simp only [h2, h3, h4, h5]; simp
theorem qR {r : Rs} {u : Bs} {p : List Tm} (h : GO r.vars u = (p, n, e)) (h1 : e ≠ 0 ∨ ¬ US p <= 12 ∨ ¬ (r.lst neq).length < 12) : jV r id neq u = none := by
 unfold jV; rw [h, if_neg]
 rintro ⟨l, k, f⟩
 rcases h1 with h1 | h1 | h1
 . exact h1 l
 . exact h1 k
 exact h1 f
theorem Nm {r : Rs} {u : Bs} {p : List Tm} (h : GO r.vars u = (p, n, 0)) (h1 : US p <= 12) (h2 : (r.lst neq).length < 12) : jV r id neq u = some (r.add (neq, id, p)) := by
 unfold jV; rw [h, if_pos ⟨rfl, h1, h2⟩]
theorem PZ {o : Option Rs} (h : o = none) (hb : Below r w w') : jJ r w o (.returned (.bool false)) w' := by subst h; exact ⟨false, rfl, hb, rfl⟩
theorem kP {o : Option Rs} {st : Rs} (h : o = some st) (hb : Below r w w') (hr : RdrAt r w' st) : jJ r w o (.returned (.bool true)) w' := by subst h; exact ⟨true, rfl, hb, rfl, hr⟩
theorem Glob.be (h : Glob w) (hn : 2 <= n) (hb : Below n w w') : Glob w' := by
 refine ⟨?_, ?_⟩
 . have f := h.pow
   unfold Lib.TabIs World.var? at *
   rw [YV] at *
   simp only [Option.bind_some] at *
   rw [hb.block 1 AA]; exact f
 obtain ⟨m, e⟩ := h.max
 exact ⟨m, (World.cell?_of_block (hb.block 0 AA)).trans e⟩
theorem Li {l : List Bs} (h : DL 4 l = true) : GH ⟨l, [], [], 1⟩ = true := by unfold GH; simp [h, ID, EL]
theorem Xu {r : Rs} {t x : Bs} {l : List Bs} (h1 : (FG 32 t).head? = some x) (hx : x = vaB) (h2 : (FG 32 t).tail = l) (h3 : DL 4 l = true) : UX r t = some ⟨l, r.eqs, r.neqs, r.next, r.last⟩ := by unfold UX; rw [h1, h2, hx, if_pos ⟨rfl, h3⟩]
theorem Xw {r : Rs} {t x : Bs} (h1 : (FG 32 t).head? = some x) (hx : ¬ x = vaB) : UX r t = none := by unfold UX; rw [h1, if_neg (fun g => hx (Option.some.inj g.1))]
theorem Xv {r : Rs} {t : Bs} {l : List Bs} (h2 : (FG 32 t).tail = l) (h3 : DL 4 l = false) : UX r t = none := by unfold UX; rw [h2, if_neg (fun g => by rw [h3] at g; exact absurd g.2 AE)]
theorem li_1 {r : Rs} {t : Bs} (h : n = 1) : IL n r t = UX r t := by unfold IL; rw [if_pos h]
theorem li_2 {r : Rs} {t : Bs} (h : ¬ n = 1) (h0 : ¬ r.next = 0) : IL n r t = none := by unfold IL; rw [if_neg h, if_pos h0]
theorem li_3 {r : Rs} {t u : Bs} (h : ¬ n = 1) (h0 : r.next = 0) (hp : Lib.hasPrefix t nxB = true) (hu : Lib.trimPrefix t nxB = u) (hm : FY ((r.last + 1 : Nat) : Int) 1000000 u = none) : IL n r t = none := by
 exact ZzH
theorem li_4 {m : Nat} {r : Rs} {t u : Bs} (h : ¬ n = 1) (h0 : r.next = 0) (hp : Lib.hasPrefix t nxB = true) (hu : Lib.trimPrefix t nxB = u) (hm : FY ((r.last + 1 : Nat) : Int) 1000000 u = some m) : IL n r t = some ⟨r.vars, r.eqs, r.neqs, m, r.last⟩ := by
 exact ZzH
theorem li_5 {r : Rs} {t : Bs} (h : ¬ n = 1) (h0 : r.next = 0) (hp : Lib.hasPrefix t nxB = false) : IL n r t = MR r t := by
 unfold IL; rw [if_neg h, if_neg AA, if_neg (by rw [hp]; simp)]
set_option maxRecDepth 100000 in
set_option maxHeartbeats 8000000 in
theorem Vc (r : Nat) (vars : List Bs) (eqs neqs : List En) (next last : Nat) (t : Bs) (w : World) (hR : RdrAt r w ⟨vars, eqs, neqs, next, last⟩) (ht : t.length <= 1000000) (hG : Glob w) (hr2 : 2 <= r) (hvl : vars.length <= 1000000) (hla : last <= 1000000) :
 Calls prog 102 #[.pointer (some ⟨r, 0, none⟩), .string (bs t)] w (jJ r w (MR ⟨vars, eqs, neqs, next, last⟩ t)) := by
 obtain ⟨S, vv, ve, vn, hX, hT⟩ := hR
 dsimp only at hX hT
 have bp : r <= w.heap.size := Nat.le_of_lt hX.lt
 have hSr : ¬ S r := fun h => Nat.lt_irrefl _ (hT.set _ h).1
 have hSl := hT.lt
 have hSe := hT.eqs.own
 have hSn := hT.neqs.own
 have aj := hT.apart
 obtain ⟨b7, ay, ax, _, b8⟩ := hT
 obtain ⟨T, C, rfl, cj, ci⟩ := b7.shp
 obtain ⟨X, F, rfl⟩ := ay.shp
 obtain ⟨U, D, rfl⟩ := ax.shp
 obtain ⟨rb, a2⟩ : ∃ n, n = r + 1 := ⟨_, rfl⟩
 rw [<- a2] at ay ax
 have E := ZP bp
 replace E := ((((((E.gl hG).sz (show rb <= w.heap.size by have := hX.lt; omega)).x hX).r b7 hSl).a ay hSl).a ax hSl)
 go_enter func102, ntmps102
 obtain ⟨d1, H, o1, o⟩ : ∃ a b c, Lib.cut t colB = (a, b, c) := ⟨_, _, _, rfl⟩
 have al := Qf t colB
 have ak := Qe t colB
 rw [o] at al ak
 refine yG ?_
 simp only at al ak
 refine yG ?_
 refine EF O (BZ IZ O ((by have q := zV t ([58, 32]) w ht (e5 E).1; rw [(show Lib.cut t [58, 32] = _ from o)] at q; exact q)) O E ?_)
 intro w1 _ E
 cases o1 with
 | false =>
  refine yG ?_
  exact (PZ (en_1 o) (e6 E))
 | true =>
  cases z : FY ((last + 1 : Nat) : Int) 999999 d1 with
  | none =>
   refine yG ?_
   refine EF O (BZ HY O ((by have q := OX d1 (last + 1) 999999 w1 AA AE; rw [show dS (FY ((last + 1 : Nat) : Int) ((999999 : Nat) : Int) d1) = (0, false) from by rw [show FY ((last + 1 : Nat) : Int) ((999999 : Nat) : Int) d1 = _ from z]; rfl] at q; exact q)) O E ?_)
   intro w2 d2 E
   refine yG ?_
   exact (PZ (en_2 o z) (e6 E))
  | some id =>
   obtain ⟨_, c4, c3⟩ := TE AA z
   refine yG ?_
   refine EF O (BZ HY O ((by have q := OX d1 (last + 1) 999999 w1 AA AE; rw [show dS (FY ((last + 1 : Nat) : Int) ((999999 : Nat) : Int) d1) = (id, true) from by rw [show FY ((last + 1 : Nat) : Int) ((999999 : Nat) : Int) d1 = _ from z]; rfl] at q; exact q)) O E ?_)
   intro w3 d3 E
   obtain ⟨ua, J⟩ : ∃ a, Lib.trimSuffix H qX = a := ⟨_, rfl⟩
   have b5 := qC H qX
   rw [J] at b5
   cases B : Lib.hasSuffix H qX with
   | false =>
    have Q := vI B
    rw [J] at Q
    replace Q := Q.symm
    subst Q
    refine yG ?_
    refine EF O (BZ JU O (YRI) O E ?_)
    intro w4 d4 E
    obtain ⟨ub, I⟩ : ∃ a, Lib.trimSuffix H tZ = a := ⟨_, rfl⟩
    have b4 := qC H tZ
    rw [I] at b4
    cases L : Lib.hasSuffix H tZ with
    | false =>
     have P := vI L
     rw [I] at P
     replace P := P.symm
     subst P
     refine yG ?_
     refine EF O (BZ JU O (Yxq) O E ?_)
     intro w5 d5 E
     refine yG ?_
     exact (PZ (en_3 o z B L) (e6 E))
    | true =>
     refine yG ?_
     refine EF O (BZ JU O (Yxq) O E ?_)
     intro w6 d6 E
     obtain ⟨p, pos, er, y⟩ : ∃ a b c, GO vars ub = (a, b, c) := ⟨_, _, _, rfl⟩
     obtain ⟨bt, br⟩ := gY y
     have ar := fun g hg => (E.2.1.1.lt (g := g) hg).2
     have aq := fun g hg => (E.1.1.lt (g := g) hg).2
     have bq := Bx.lt (e3 E)
     refine yG ?_
     refine EF O (PV (r := (p, pos, er)) PC O (by rw [<- y]; exact uO ub _ vars _ ((BW E.2.2.1)) hvl AA (e5 E).1) O E ?_)
     intro w7 v7 d7 f7 E
     replace E := E.sz (Nat.le_refl w7.heap.size)
     have bv := f7
     obtain ⟨ao, an, rfl, c2, _⟩ := f7.shp
     replace E := E.r (e := JL) (S := EY w6.heap.size w7.heap.size) bv (fun _ g => g.2)
     by_cases a4 : er = 0
     case neg =>
      refine yG ?_
      exact (PZ ((Vf o z B L I).trans (qR y (.inl a4))) (e8 E))
     subst a4
     by_cases a6 : US p <= 12
     case neg =>
      refine yG ?_
      refine EF O (BZ EW O (OO _ p _ (BW E.1) AA) O E ?_)
      intro cc cq E
      refine yG ?_
      exact (PZ ((Vf o z B L I).trans (qR y (.inr (.inl a6)))) (e8 E))
     by_cases a3 : eqs.length < 12
     case neg =>
      refine yG ?_
      refine EF O (BZ EW O (OO _ p _ (BW E.1) AA) O E ?_)
      intro cd cr E
      refine yG ?_
      exact (PZ ((Vf o z B L I).trans (qR y (.inr (.inr a3)))) (e8 E))
     refine yG ?_
     refine EF O (BZ EW O (OO _ p _ (BW E.1) AA) O E ?_)
     intro w8 d8 E
     obtain ⟨N, u⟩ : ∃ f, f = (fun k => S k ∨ EY w6.heap.size w7.heap.size k) := ⟨_, rfl⟩
     have aw : IsR elS N w8 (.slice T vars.length C) vars := by rw [u]; exact (e4 E).1.mono (fun _ => .inl)
     have a9 : Acc MS 83 rb N w8 (.slice X eqs.length F) eqs := by rw [u]; exact (e3 E).1.mono (fun _ => .inl) (fun g hg hs => hs.elim (hSe g hg) (fun G => by have := ar g hg; have := G.1; omega))
     have a8 : Acc MS 83 rb N w8 (.slice U neqs.length D) neqs := by rw [u]; exact E.2.2.1.1.mono (fun _ => .inl) (fun g hg hs => hs.elim (hSn g hg) (fun G => by have := aq g hg; have := G.1; omega))
     have a7 : IsR JL N w8 (.slice ao p.length an) p := by rw [u]; exact E.1.1.mono (fun _ => .inr)
     have hS2r : ¬ N r := by rw [u]; exact fun h => h.elim hSr YIp
     have hS2l : ∀ k, N k -> k < w8.heap.size := by rw [u]; exact fun k h => h.elim (fun g => (e3 E).2 k g) (fun G => E.1.2 k G)
     have hS2T : ∀ k, N k -> r < k := by rw [u]; exact fun k h => h.elim (fun g => (b8 k g).1) YIp
     have hS2e := a9.own
     have hS2n := a8.own
     replace E := (((((((GJ (Env.x (GJ (GJ (GJ (Env.nil _) (e8 E)) (e7 E)) (e6 E)) (e5 E)) E.2.1)).r aw hS2l)).r a7 hS2l)).a a9 hS2l).a a8 hS2l
     refine yG ?_
     refine V (v := .agg #[.int .i64 ↑id, .slice ao p.length an]) O O (TC O O O) ?_
     refine yG ?_
     refine EF O (DZ (cs := [.int .i64 ↑id, .slice ao p.length an]) underlying46 NH O AE AE O O ?_)
     intro b9 w9 bw z9 d9 x9
     have ap : ((.slice X eqs.length F) : Value).ownBlock ≠ some b9 := fun h => by have := (Acc.lt E.2.1.1 h).2; omega
     have bo : rb <= b9 := by rw [bw]; exact CR (e6 E)
     replace E := E.below d9
     replace E := E.x x9
     have ab := E.2.2.1
     have c1 := Acc.nw ab.1
     refine yG ?_
     replace E := kB E
     have av := fun g hg => (E.2.1.1.lt (g := g) hg).2
     refine EF O (RW (x := (id, p)) Wr O (l := eqs) O ab.1 ab.2 E (fun g hg h1 R => ⟨CT (fun e => ap (e ▸ hg)), NK (fun h => aj g hg h) YiE, DP YiE, DP YiE, BX, CT AA, BX, EP AA, tC AA, BX⟩) O E.1 (⟨_, O, E.2.2.1.1⟩) (by unfold maxLen; omega) AA (CR (e6 E)) ?_)
     intro ad cg ag E
     have ai : ∀ g, (ad : Value).ownBlock = some g -> ((.slice U neqs.length D) : Value).ownBlock = some g -> False := fun g h1 R => ag g (av g R) (fun h3 => aj g h3 R) h1
     have hS2e := E.1.1.own
     have b2 := e6 E
     refine yG ?_
     replace E := xY E
     refine yG ?_
     refine EF O (CG (v := ad) O Z (Acc.one E.1.1) O O b2 AH ?_)
     intro cf bn bi
     replace E := oY E b2 bn bi (ds := [.slice T vars.length C, ad, .slice U neqs.length D, .int .i64 ↑next, .int .i64 ↑last])
     have b1 := E.1
     refine yG ?_
     replace E := VI E
     refine yG ?_
     refine EF O (CG (v := .int .i64 ↑id) O Z O O O b1 AH ?_)
     intro ce bm bh
     have nvq := Acc.nw E.1.1
     replace E := oY E b1 bm bh (ds := [.slice T vars.length C, ad, .slice U neqs.length D, .int .i64 ↑next, .int .i64 ↑id])
     refine yG ?_
     exact (kP ((Vf o z B L I).trans (Nm y a6 a3)) (e9 E) ⟨N, _, _, _, E.1, ⟨(e5 E).1, (by rw [<- a2]; exact E.2.1.1), (by rw [<- a2]; exact (e3 E).1), ai, fun k h => ⟨hS2T k h, (e5 E).2 k h⟩⟩⟩)
   | true =>
    refine yG ?_
    refine EF O (BZ JU O (YRI) O E ?_)
    intro b3 cp E
    obtain ⟨p, pos, er, y⟩ : ∃ a b c, GO vars ua = (a, b, c) := ⟨_, _, _, rfl⟩
    obtain ⟨bt, br⟩ := gY y
    have ar := fun g hg => (E.2.1.1.lt (g := g) hg).2
    have aq := fun g hg => (E.1.1.lt (g := g) hg).2
    have bq := Bx.lt (e3 E)
    refine yG ?_
    refine EF O (PV (r := (p, pos, er)) PC O (by rw [<- y]; exact uO ua _ vars _ ((BW E.2.2.1)) hvl AA (e5 E).1) O E ?_)
    intro am ch co ba E
    replace E := E.sz (Nat.le_refl am.heap.size)
    have b6 := ba
    obtain ⟨a1, a0, rfl, bu, _⟩ := ba.shp
    replace E := E.r (e := JL) (S := EY b3.heap.size am.heap.size) b6 (fun _ g => g.2)
    by_cases a4 : er = 0
    case neg =>
     refine yG ?_
     exact (PZ ((Vg o z B J).trans (qR y (.inl a4))) (e8 E))
    subst a4
    by_cases a6 : US p <= 12
    case neg =>
     refine yG ?_
     refine EF O (BZ EW O (OO _ p _ (BW E.1) AA) O E ?_)
     intro c6 ck E
     refine yG ?_
     exact (PZ ((Vg o z B J).trans (qR y (.inr (.inl a6)))) (e8 E))
    by_cases a3 : neqs.length < 12
    case neg =>
     refine yG ?_
     refine EF O (BZ EW O (OO _ p _ (BW E.1) AA) O E ?_)
     intro c7 cm E
     refine yG ?_
     exact (PZ ((Vg o z B J).trans (qR y (.inr (.inr a3)))) (e8 E))
    refine yG ?_
    refine EF O (BZ EW O (OO _ p _ (BW E.1) AA) O E ?_)
    intro Y cn E
    obtain ⟨N, u⟩ : ∃ f, f = (fun k => S k ∨ EY b3.heap.size am.heap.size k) := ⟨_, rfl⟩
    have aw : IsR elS N Y (.slice T vars.length C) vars := by rw [u]; exact (e4 E).1.mono (fun _ => .inl)
    have a9 : Acc MS 83 rb N Y (.slice X eqs.length F) eqs := by rw [u]; exact (e3 E).1.mono (fun _ => .inl) (fun g hg hs => hs.elim (hSe g hg) (fun G => by have := ar g hg; have := G.1; omega))
    have a8 : Acc MS 83 rb N Y (.slice U neqs.length D) neqs := by rw [u]; exact E.2.2.1.1.mono (fun _ => .inl) (fun g hg hs => hs.elim (hSn g hg) (fun G => by have := aq g hg; have := G.1; omega))
    have a7 : IsR JL N Y (.slice a1 p.length a0) p := by rw [u]; exact E.1.1.mono (fun _ => .inr)
    have hS2r : ¬ N r := by rw [u]; exact fun h => h.elim hSr YIp
    have hS2l : ∀ k, N k -> k < Y.heap.size := by rw [u]; exact fun k h => h.elim (fun g => (e3 E).2 k g) (fun G => E.1.2 k G)
    have hS2T : ∀ k, N k -> r < k := by rw [u]; exact fun k h => h.elim (fun g => (b8 k g).1) YIp
    have hS2e := a9.own
    have hS2n := a8.own
    replace E := (((((((GJ (Env.x (GJ (GJ (GJ (Env.nil _) (e8 E)) (e7 E)) (e6 E)) (e5 E)) E.2.1)).r aw hS2l)).r a7 hS2l)).a a9 hS2l).a a8 hS2l
    refine yG ?_
    refine V (v := .agg #[.int .i64 ↑id, .slice a1 p.length a0]) O O (TC O O O) ?_
    refine yG ?_
    refine EF O (DZ (cs := [.int .i64 ↑id, .slice a1 p.length a0]) underlying46 NH O AE AE O O ?_)
    intro bc cb bb c5 bx bj
    have ae : ((.slice U neqs.length D) : Value).ownBlock ≠ some bc := fun h => by have := (Acc.lt E.1.1 h).2; omega
    have bd : rb <= bc := by rw [bb]; exact CR (e6 E)
    replace E := E.below bx
    replace E := E.x bj
    have aa := E.2.1
    have c0 := Acc.nw aa.1
    refine yG ?_
    replace E := XS E
    have au := fun g hg => (E.2.1.1.lt (g := g) hg).2
    refine EF O (RW (x := (id, p)) Wr O (l := neqs) O aa.1 aa.2 E (fun g hg h1 R => ⟨CT (fun e => ae (e ▸ hg)), NK (fun h => (fun g h1 R => aj g R h1) g hg h) YiE, DP YiE, DP YiE, BX, CT AA, BX, EP AA, tC AA, BX⟩) O E.1 (⟨_, O, E.2.2.1.1⟩) (by unfold maxLen; omega) AA (CR (e6 E)) ?_)
    intro ac ca af E
    have ah : ∀ g, (ac : Value).ownBlock = some g -> ((.slice X eqs.length F) : Value).ownBlock = some g -> False := fun g h1 R => af g (au g R) (fun h3 => (fun g h1 R => aj g R h1) g h3 R) h1
    have hS2n := E.1.1.own
    have b0 := e6 E
    refine yG ?_
    replace E := xY E
    refine yG ?_
    refine EF O (CG (v := ac) O Z (Acc.one E.1.1) O O b0 AH ?_)
    intro c9 bl bg
    replace E := oY E b0 bl bg (ds := [.slice T vars.length C, .slice X eqs.length F, ac, .int .i64 ↑next, .int .i64 ↑last])
    have az := E.1
    refine yG ?_
    replace E := VI E
    refine yG ?_
    refine EF O (CG (v := .int .i64 ↑id) O Z O O O az AH ?_)
    intro c8 bk bf
    have nvq := Acc.nw E.1.1
    replace E := oY E az bk bf (ds := [.slice T vars.length C, .slice X eqs.length F, ac, .int .i64 ↑next, .int .i64 ↑id])
    refine yG ?_
    exact (kP ((Vg o z B J).trans (Nm y a6 a3)) (e9 E) ⟨N, _, _, _, E.1, ⟨(e5 E).1, (by rw [<- a2]; exact (e3 E).1), (by rw [<- a2]; exact E.2.1.1), (fun g h1 R => ah g R h1), fun k h => ⟨hS2T k h, (e5 E).2 k h⟩⟩⟩)
set_option maxHeartbeats 8000000
set_option maxRecDepth 100000
theorem UR : Fn prog 100 := ⟨_, func100, by kernel_rfl, rfl⟩
theorem TV : Fn prog 102 := ⟨_, func102, by kernel_rfl, rfl⟩
theorem NO : Fn prog 53 := ⟨_, func53, by kernel_rfl, rfl⟩
theorem Xy (r : Nat) (vars : List Bs) (eqs neqs : List En) (next last : Nat) (t : Bs) (w : World) (hR : RdrAt r w ⟨vars, eqs, neqs, next, last⟩) (ht : t.length <= 1000000) (hG : Glob w) (hr2 : 2 <= r) (_hvl : vars.length <= 1000000) (_hla : last <= 1000000) :
 Calls prog 100 #[.pointer (some ⟨r, 0, none⟩), .string (bs t)] w (jJ r w (UX ⟨vars, eqs, neqs, next, last⟩ t)) := by
 obtain ⟨S, vv, ve, vn, hX, P⟩ := hR
 dsimp only at hX P
 have a7 : r <= w.heap.size := Nat.le_of_lt hX.lt
 have hSr : ¬ S r := fun h => Nat.lt_irrefl _ (P.set _ h).1
 have hSl := P.lt
 have hSe := P.eqs.own
 have hSn := P.neqs.own
 have ae := P.apart
 obtain ⟨a0, N, L, _, af⟩ := P
 obtain ⟨aq, ak, rfl, ap, an⟩ := a0.shp
 obtain ⟨a4, G, rfl⟩ := N.shp
 obtain ⟨a3, F, rfl⟩ := L.shp
 obtain ⟨rb, H⟩ : ∃ n, n = r + 1 := ⟨_, rfl⟩
 rw [<- H] at N L
 have E := ZP a7
 replace E := ((((((E.gl hG).sz (show rb <= w.heap.size by have := hX.lt; omega)).x hX).r a0 hSl).a N hSl).a L hSl)
 go_enter func100, ntmps100
 obtain ⟨l, p⟩ : ∃ l, l = FG 32 t := ⟨_, rfl⟩
 have ao : l.length <= 1000001 := by rw [p]; have := XZ 32 t; omega
 have ac : 1 <= l.length := by rw [p]; exact List.length_pos_iff.2 (SR 32 t)
 have aa := fun g hg => (E.2.1.1.lt (g := g) hg).2
 have a9 := fun g hg => (E.1.1.lt (g := g) hg).2
 have am := Bx.lt (e3 E)
 refine yG ?_
 refine EF O (CZ VF O ((by have X := Gr t 32 w AA (e5 E).1; rw [<- p] at X; exact X)) O E ?_)
 intro w1 v1 d1 f1 E
 replace E := E.sz (Nat.le_refl w1.heap.size)
 obtain ⟨U, o, rfl, aj, _⟩ := f1.shp
 replace E := E.r (e := elS) (S := EY w.heap.size w1.heap.size) f1 (fun _ g => g.2)
 obtain ⟨q, Y⟩ : ∃ a, Dy U (1 * 1) (decide (o = 1)) = a := ⟨_, rfl⟩
 refine yG ?_
 refine V (v := .slice q (l.length - 1) (o - 1)) O O (IQ (i := 1) O underlying30 Z O O O AA Y) ?_
 replace E := E.r (e := elS) (S := EY w.heap.size w1.heap.size) (NQ E.1.1 AA Y) (E.1.2)
 have x4 := e6 E
 refine yG ?_
 replace E := xY E
 refine yG ?_
 refine EF O (CG (v := .slice q (l.length - 1) (o - 1)) O Z O O O x4 AH ?_)
 intro T o3 y3
 replace E := oY E x4 o3 y3 (ds := [.slice q (l.length - 1) (o - 1), .slice a4 eqs.length G, .slice a3 neqs.length F, .int .i64 ↑next, .int .i64 ↑last])
 obtain ⟨R, y⟩ : ∃ x, l[0]? = some x := ⟨_, List.getElem?_eq_getElem ac⟩
 obtain ⟨a6, al, _, J, ag, ad, a8⟩ := IsR.at E.2.2.1.1 y
 obtain rfl := (show _ = [Value.string (bs R)] from a8)
 have ab : a6 < _ := E.2.2.1.2 _ ag
 replace E := E.c ad ab
 obtain ⟨Q, u⟩ : ∃ f, f = (fun k => S k ∨ EY w.heap.size w1.heap.size k) := ⟨_, rfl⟩
 have ai : Acc MS 83 rb Q T (.slice a4 eqs.length G) eqs := by rw [u]; exact (e6 E).1.mono (fun _ => .inl) (fun g hg hs => hs.elim (hSe g hg) (fun I => by have := aa g hg; have := I.1; omega))
 have ah : Acc MS 83 rb Q T (.slice a3 neqs.length F) neqs := by rw [u]; exact (e5 E).1.mono (fun _ => .inl) (fun g hg hs => hs.elim (hSn g hg) (fun I => by have := a9 g hg; have := I.1; omega))
 have a2 : IsR elS Q T (.slice q (l.length - 1) (o - 1)) (l.drop 1) := by rw [u]; exact E.2.2.1.1.mono (fun _ => .inr)
 have a1 : IsR elS Q T (.slice U l.length o) l := by rw [u]; exact (e3 E).1.mono (fun _ => .inr)
 have hS2l : ∀ k, Q k -> k < T.heap.size := by rw [u]; exact fun k h => h.elim (fun g => (e6 E).2 k g) (fun I => E.2.2.1.2 k I)
 have hS2T : ∀ k, Q k -> r < k := by rw [u]; exact fun k h => h.elim (fun g => (af k g).1) (fun I => by have := I.1; omega)
 replace E := (((((((GJ (Env.x (GJ (GJ (GJ (GJ (GJ (Env.nil _) (RA E)) (e9 E)) (e8 E)) (e7 E)) (e4 E)) E.2.1) E.1)).r a2 hS2l)).r a1 hS2l)).a ai hS2l).a ah hS2l
 have D : (FG 32 t).head? = some R := by rw [<- p, List.head?_eq_getElem?]; exact y
 have C : (FG 32 t).tail = l.drop 1 := by rw [<- p, List.drop_one]
 by_cases z : R = vaB
 case neg =>
  refine yG ?_
  refine fY (j := 0) O O J O (List.getElem?_eq_some_iff.1 y).1 ?_
  refine yG ?_
  refine V O O (FT (a := R) (b := [118, 97, 114, 115]) (c := false) O O O (by rw [beq_eq_false_iff_ne]; exact z)) ?_
  refine yG ?_
  exact (PZ (Xw D z) (RA E))
 by_cases B : DL 4 (l.drop 1) = true
 case neg =>
  refine yG ?_
  refine fY (j := 0) O O J O (List.getElem?_eq_some_iff.1 y).1 ?_
  refine yG ?_
  refine V O O (FT (a := R) (b := [118, 97, 114, 115]) (c := true) O O O (by rw [beq_iff_eq]; exact z)) ?_
  refine yG ?_
  refine V (v := .agg #[.slice q (l.length - 1) (o - 1), .slice none 0 0, .slice none 0 0, .int .i64 1]) Z O (OI O O O) ?_
  refine yG ?_
  refine EF O (CA IH O (CU (SO (DE B)) (TR (.slice q (l.length - 1) (o - 1)) (l.drop 1) (.slice none 0 0) ([]) (.slice none 0 0) ([]) 1 _ (BW (e3 E)) (IsR.nil _ _ _) (IsR.nil _ _ _) NM NM (by simp only [List.length_drop]; omega))) O E ?_)
  intro w7 d7 E
  refine yG ?_
  exact (PZ (Xv C (DE B)) (RA E))
 refine yG ?_
 refine fY (j := 0) O O J O (List.getElem?_eq_some_iff.1 y).1 ?_
 refine yG ?_
 refine V O O (FT (a := R) (b := [118, 97, 114, 115]) (c := true) O O O (by rw [beq_iff_eq]; exact z)) ?_
 refine yG ?_
 refine V (v := .agg #[.slice q (l.length - 1) (o - 1), .slice none 0 0, .slice none 0 0, .int .i64 1]) Z O (OI O O O) ?_
 refine yG ?_
 refine EF O (CA IH O (CU (Li B) (TR (.slice q (l.length - 1) (o - 1)) (l.drop 1) (.slice none 0 0) ([]) (.slice none 0 0) ([]) 1 _ (BW (e3 E)) (IsR.nil _ _ _) (IsR.nil _ _ _) NM NM (by simp only [List.length_drop]; omega))) O E ?_)
 intro w6 d6 E
 refine yG ?_
 exact (kP (Xu D z C B) (RA E) ⟨Q, _, _, _, e5 E, ⟨(e3 E).1, (by rw [<- H]; exact E.2.1.1), (by rw [<- H]; exact E.1.1), ae, fun k h => ⟨hS2T k h, (e3 E).2 k h⟩⟩⟩)
theorem Ot (r : Nat) (n : Nat) (vars : List Bs) (eqs neqs : List En) (next last : Nat) (t : Bs) (w : World) (hR : RdrAt r w ⟨vars, eqs, neqs, next, last⟩) (ht : t.length <= 1000000) (hG : Glob w) (hr2 : 2 <= r) (hvl : vars.length <= 1000000) (hla : last <= 1000000) :
 Calls prog 53 #[.pointer (some ⟨r, 0, none⟩), .int .i64 ↑n, .string (bs t)] w (jJ r w (IL n ⟨vars, eqs, neqs, next, last⟩ t)) := by
 obtain ⟨S, vv, ve, vn, X, J⟩ := hR
 dsimp only at X J
 have C : r <= w.heap.size := Nat.le_of_lt X.lt
 have hSr : ¬ S r := fun h => Nat.lt_irrefl _ (J.set _ h).1
 have hSl := J.lt
 have hSe := J.eqs.own
 have hSn := J.neqs.own
 have G := J.apart
 obtain ⟨Q, I, H, _, L⟩ := J
 obtain ⟨R, y, rfl, a3, a2⟩ := Q.shp
 obtain ⟨U, B, rfl⟩ := I.shp
 obtain ⟨T, z, rfl⟩ := H.shp
 obtain ⟨rb, f⟩ : ∃ n, n = r + 1 := ⟨_, rfl⟩
 rw [<- f] at I H
 have E := ZP C
 replace E := ((((((E.gl hG).sz (show rb <= w.heap.size by have := X.lt; omega)).x X).r Q hSl).a I hSl).a H hSl)
 go_enter func53, ntmps53
 by_cases o : n = 1
 . refine yG ?_
   refine EF O (PU UR O (Xy r vars eqs neqs next last t _ ⟨S, _, _, _, e3 E, ⟨E.2.2.1.1, Yjl, (by rw [<- f]; exact E.1.1), G, fun k h => ⟨(fun k h => (L k h).1) k h, E.2.2.1.2 k h⟩⟩⟩ ht (e5 E).1 hr2 hvl hla) O ?_)
   intro w1 b1 a1 F
   replace E := (Env.nil w1).be (hn := C) ((e6 E).trans a1)
   refine yG ?_
   exact ⟨b1, rfl, E.1, by rw [li_1 o]; exact F⟩
 by_cases q : next = 0
 case neg =>
  refine yG ?_
  exact (PZ (li_2 o q) (e6 E))
 obtain ⟨u, P⟩ : ∃ a, Lib.trimPrefix t nxB = a := ⟨_, rfl⟩
 have Y := Hn t nxB
 rw [P] at Y
 cases l : Lib.hasPrefix t nxB with
 | false =>
  refine yG ?_
  refine EF O (BZ JV O (YYn) O E ?_)
  intro w2 d2 E
  refine yG ?_
  refine EF O (PU TV O (Vc r vars eqs neqs next last t _ ⟨S, _, _, _, e3 E, ⟨E.2.2.1.1, Yjl, (by rw [<- f]; exact E.1.1), G, fun k h => ⟨(fun k h => (L k h).1) k h, E.2.2.1.2 k h⟩⟩⟩ ht (e5 E).1 hr2 hvl hla) O ?_)
  intro w3 b3 a0 D
  replace E := (Env.nil w3).be (hn := C) ((e6 E).trans a0)
  refine yG ?_
  exact ⟨b3, rfl, E.1, by rw [li_5 o q l]; exact D⟩
 | true =>
  refine yG ?_
  refine EF O (BZ JV O (YYn) O E ?_)
  intro w4 d4 E
  cases p : FY ((last + 1 : Nat) : Int) 1000000 u with
  | none =>
   refine yG ?_
   refine EF O (BZ HY O ((by have e := OX u (last + 1) 1000000 w4 AA AE; rw [show dS (FY ((last + 1 : Nat) : Int) ((1000000 : Nat) : Int) u) = (0, false) from by rw [show FY ((last + 1 : Nat) : Int) ((1000000 : Nat) : Int) u = _ from p]; rfl] at e; exact e)) O E ?_)
   intro w5 d5 E
   have x7 := e3 E
   refine yG ?_
   replace E := Fk E
   refine yG ?_
   refine EF O (CG (v := .int .i64 ((0 : Nat) : Int)) O Z O O O x7 AH ?_)
   intro w6 o6 y6
   replace E := oY E x7 o6 y6 (ds := [.slice R vars.length y, .slice U eqs.length B, .slice T neqs.length z, .int .i64 ((0 : Nat) : Int), .int .i64 ↑last])
   refine yG ?_
   exact (PZ (li_3 o q l P p) (e6 E))
  | some m =>
   refine yG ?_
   refine EF O (BZ HY O ((by have e := OX u (last + 1) 1000000 w4 AA AE; rw [show dS (FY ((last + 1 : Nat) : Int) ((1000000 : Nat) : Int) u) = (m, true) from by rw [show FY ((last + 1 : Nat) : Int) ((1000000 : Nat) : Int) u = _ from p]; rfl] at e; exact e)) O E ?_)
   intro w8 d8 E
   have N := e3 E
   refine yG ?_
   replace E := Fk E
   refine yG ?_
   refine EF O (CG (v := .int .i64 ↑m) O Z O O O N AH ?_)
   intro w9 o9 y9
   replace E := oY E N o9 y9 (ds := [.slice R vars.length y, .slice U eqs.length B, .slice T neqs.length z, .int .i64 ↑m, .int .i64 ↑last])
   refine yG ?_
   exact (kP (li_4 o q l P p) (e6 E) ⟨S, _, _, _, E.1, ⟨(e3 E).1, (by rw [<- f]; exact E.2.2.1.1), Yjl, G, fun k h => ⟨(fun k h => (L k h).1) k h, (e3 E).2 k h⟩⟩⟩)
theorem Bx.be {b T : Nat} {cs : List Value} (h : Bx w b T cs) (hb : b < n) (hw : Below n w w') : Bx w' b T cs := by
 unfold Bx at *; rw [hw.block b hb]; exact h
def fTw (r : Nat) (S : Nat -> Prop) (vv ve vn : Value) (vars : List Bs) (eqs neqs : List En) : SF := ⟨fun w => Two r S w vv ve vn vars eqs neqs, fun c => c <= r, fun h hb => h.below hb, fun h hn ho hb => h.onl hn ho hb⟩
theorem Env.tw {L : List SF} {vars : List Bs} {eqs neqs : List En} (E : Env w L) (h : Two r S w vv ve vn vars eqs neqs) : Env w (fTw r S vv ve vn vars eqs neqs :: L) := ⟨h, E⟩
theorem okTw {c : Nat} {vars : List Bs} {eqs neqs : List En} (h : c <= r) : (fTw r S vv ve vn vars eqs neqs).ok c := h
theorem Mw (h : Bx w r 115 [.slice none 0 0, .slice none 0 0, .slice none 0 0, .int .i64 0, .int .i64 0]) : RdrAt r w Gv :=
 ⟨VH, _, _, _, h, ⟨IsR.nil _ _ _, Acc.nil _ _ _ _ _, Acc.nil _ _ _ _ _, fun g hg => by simp [Value.ownBlock] at hg, fun k hk => hk.elim⟩⟩
theorem RdrAt.box {st : Rs} (h : RdrAt r w st) : ∃ S aov lv cv aoe le ce aon ln cn, Bx w r 115 [.slice aov lv cv, .slice aoe le ce, .slice aon ln cn, .int .i64 ↑st.next, .int .i64 ↑st.last] /\ Two r S w (.slice aov lv cv) (.slice aoe le ce) (.slice aon ln cn) st.vars st.eqs st.neqs := by
 obtain ⟨S, k, o, l, f, e⟩ := h
 obtain ⟨aov, cv, rfl, _⟩ := e.vars.shp
 obtain ⟨aoe, ce, rfl⟩ := e.eqs.shp
 obtain ⟨aon, cn, rfl⟩ := e.neqs.shp
 exact ⟨S, _, _, _, _, _, _, _, _, _, f, e⟩
theorem Two.row {s : Sy} (h : Two r S w vv ve vn s.vars s.eqs s.neqs) (hr : w0.heap.size <= r) {n : Int} (hn : n = ((s.next : Nat) : Int)) : NewSy w0 s w (.agg #[vv, ve, vn, .int .i64 n]) := by subst hn; exact h.sy hr
theorem Tj {t : Bs} (h : 100000 < t.length) : KS t = (Rz, 0, 2) := by unfold KS; rw [if_pos h]
theorem Ei {t : Bs} {l1 rest : List Bs} {st : Rs} (h : ¬ 100000 < t.length) (hs : FG 10 t = l1 ++ rest) (hr : MW l1 0 Gv = some st) (hne : rest ≠ []) : KS t = Pj rest l1.length st := by
 unfold KS; rw [if_neg h, hs, tU hr hne, Nat.zero_add]
theorem Tl {t : Bs} {l1 : List Bs} {st : Rs} (h : ¬ 100000 < t.length) (hs : FG 10 t = l1 ++ FG 10 []) (hr : MW l1 0 Gv = some st) (h0 : st.next = 0) : KS t = (Rz, l1.length + 1, 440) := by
 rw [Ei h hs hr (by simp [FG])]; simp [FG, Pj, h0]
theorem Tk {t : Bs} {l1 : List Bs} {st : Rs} (h : ¬ 100000 < t.length) (hs : FG 10 t = l1 ++ FG 10 []) (hr : MW l1 0 Gv = some st) (h0 : ¬ st.next = 0) : KS t = (st.sy, 0, 0) := by
 rw [Ei h hs hr (by simp [FG])]; simp [FG, Pj, h0]
theorem Ti {t tt : Bs} {l1 : List Bs} {st : Rs} (h : ¬ 100000 < t.length) (hs : FG 10 t = l1 ++ FG 10 tt) (hr : MW l1 0 Gv = some st) (hne : ¬ tt = []) (hc : NJ 10 tt = none) : KS t = (Rz, l1.length + 1, 440) := by
 rw [Ei h hs hr (SR _ _), cX 10 (cutB_none.1 hc)]; simp [Pj, hne]
theorem Dx {tt x y : Bs} (hc : NJ 10 tt = some (x, y)) : FG 10 tt = x :: FG 10 y := by
 obtain ⟨rfl, e⟩ := cutB_some.1 hc; exact kK 10 e
theorem Yv {t tt x y : Bs} {l1 : List Bs} {st : Rs} (h : ¬ 100000 < t.length) (hs : FG 10 t = l1 ++ FG 10 tt) (hr : MW l1 0 Gv = some st) (hc : NJ 10 tt = some (x, y)) (hl : IL (l1.length + 1) st x = none) : KS t = (Rz, l1.length + 1, 440) := by
 rw [Ei h hs hr (SR _ _), Dx hc]
 cases e : FG 10 y with
 | nil => exact absurd e (SR _ _)
 | cons a b => simp only [Pj, hl]
theorem Xb {t tt x y : Bs} {l1 : List Bs} {st st' : Rs} (hs : FG 10 t = l1 ++ FG 10 tt) (hr : MW l1 0 Gv = some st) (hc : NJ 10 tt = some (x, y)) (hl : IL (l1.length + 1) st x = some st') : FG 10 t = (l1 ++ [x]) ++ FG 10 y /\ MW (l1 ++ [x]) 0 Gv = some st' := by
 refine ⟨by rw [hs, Dx hc]; simp, ?_⟩
 rw [mF hr]; simp only [MW, Nat.zero_add, hl]
theorem Yu {t tt : Bs} {l1 : List Bs} (hs : FG 10 t = l1 ++ FG 10 tt) : l1.length <= t.length := by
 have e := XZ 10 t
 rw [hs, List.length_append] at e
 have := List.length_pos_iff.2 (SR 10 tt); omega
theorem mS {r : Ps} {s : Sy} {v : Value} (h : r = (s, n, e)) (hv : NewSy w0 s w' v) (hb : Below w0.heap.size w0 w') : Ra w0 r (.returned (.tuple #[v, .int .i64 ↑n, .int .i64 ↑e])) w' := by subst h; exact ⟨v, rfl, hv, hb⟩
set_option maxRecDepth 100000 in
set_option maxHeartbeats 8000000 in
theorem yZ (t : Bs) (w : World) (hG : Glob w) :
 Calls prog 18 #[.string (bs t)] w (Ra w (KS t)) := by
 have E := Env.start w
 have ay := hG.two
 replace E := E.gl hG
 go_enter func18, ntmps18
 refine yG ?_
 refine EF O (CB OU O ?_)
 intro P w1 al z1 d1 u
 have o : w.heap.size <= P := by rw [al]; exact E.2.1.size
 replace E := E.below d1
 by_cases B : 100000 < t.length
 . refine yG ?_
   refine EF O (BY OU O O O u O O (CK O (CK O (CK O (CK O EK)))) ?_)
   intro w2 o2 y2
   replace E := oY E u o2 y2 (ds := [.slice none 0 0, .slice none 0 0, .slice none 0 0, .int .i64 0])
   have r1 := DA OU E.1 rfl
   refine yG ?_
   exact AQ (v := .tuple #[.agg #[.slice none 0 0, .slice none 0 0, .slice none 0 0, .int .i64 0], .int .i64 0, .int .i64 2]) YlN O (mS (n := 0) (e := 2) (Tj B) (NewSy.zero _ _) E.2.2.1)
 refine yG ?_
 refine EF O (CI (cs := [.slice none 0 0, .slice none 0 0, .slice none 0 0, .int .i64 0, .int .i64 0]) O O ?_)
 intro G w4 ak z4 d4 x4
 have ao : P < G := by rw [ak]; exact Bx.lt (u)
 replace E := E.below d4
 replace u := Bx.below u d4
 replace E := E.x x4
 replace E := E.x u
 have aw : w.heap.size <= P := by omega
 have X : P < G := by omega
 have N : w.heap.size <= G := by omega
 have x5 := E.2.1
 refine yG ?_
 replace E := XS E
 replace E := E.rd (Mw x5)
 refine yG ?_
 refine wp_loop_ghost (fun mz a w' => ∃ (z : Bs) (o : List Bs) (h : Rs) (n0 : Nat) (y : List Value), y = a.tmps.toList /\ a = ⟨(.string (bs z) :: undef :: .pointer (some ⟨P, 0, none⟩) :: (CF y 3) :: (CF y 4) :: .pointer (some ⟨G, 0, none⟩) :: .int .i64 ↑n0 :: gr y 7 3 (.string (bs t) :: .int .i64 ↑t.length :: .bool false :: undef :: .agg #[.slice none 0 0, .slice none 0 0, .slice none 0 0, .int .i64 0, .int .i64 0] :: .pointer (some ⟨G, 0, none⟩) :: gr y 16 35 [])).toArray, []⟩ /\ Env w' [fRd G h, fX P (48) ([.slice none 0 0, .slice none 0 0, .slice none 0 0, .int .i64 0]), fGl, fW w] /\ mz = z.length /\ (FG 10 t = o ++ FG 10 z /\ MW o 0 Gv = some h /\ z.length <= t.length /\ n0 = o.length)) (t.length) ⟨t, [], Gv, 0, _, O, O, zE, O, ⟨O, O, Nat.le_refl _, O⟩⟩ ?_
 rintro m6 _ w6 ⟨z, o, h, n0, y, -, rfl, E, ah, aj⟩
 dsimp only [gr, Nat.reduceAdd]
 obtain ⟨l, p, ax, Y⟩ := aj
 subst Y
 have ap := Yu l
 have L := Mq RsBd0 p
 by_cases I : z = []
 case pos =>
  refine yG ?_
  refine V O O (HJ (a := z) (b := []) (c := false) O O O (by rw [bne_eq_false_iff_eq]; exact I)) ?_
  rw [I] at l
  obtain ⟨S, a1, lv, cv, a3, le, ce, a2, ln, cn, hX, ai⟩ := E.1.box
  replace E := (((Env.x (GJ (Env.ww (Env.nil _) (e3 E)) E.2.2.1) E.2.1)).tw ai).x hX
  by_cases a0 : h.next = 0
  case pos =>
   have x8 := E.2.2.1
   refine yG ?_
   replace E := kB E
   refine yG ?_
   refine EF O (BY OU O O O x8 O O (CK O (CK O (CK O (CK O EK)))) ?_)
   intro w7 o7 y7
   replace E := oY E x8 o7 y7 (ds := [.slice none 0 0, .slice none 0 0, .slice none 0 0, .int .i64 0])
   have r1 := DA OU E.1 rfl
   refine yG ?_
   exact AQ (v := .tuple #[.agg #[.slice none 0 0, .slice none 0 0, .slice none 0 0, .int .i64 0], .int .i64 ↑(o.length + 1), .int .i64 440]) YlN O (mS (n := o.length + 1) (e := 440) (Tl B l p a0) (NewSy.zero _ _) (e4 E))
  refine yG ?_
  refine V O O (CD OU O O (Cs.sub (Bx.cs E.1) 0 (Sw _ _ _ _ _)) O) ?_
  have T := E.2.2.1
  replace E := kB E
  refine yG ?_
  refine EF O (BY OU O O O T O O (CK O (CK O (CK O (CK O EK)))) ?_)
  intro av ae a7
  replace E := oY E T ae a7 (ds := [.slice a1 lv cv, .slice a3 le ce, .slice a2 ln cn, .int .i64 ↑h.next])
  have r1 := DA OU E.1 rfl
  refine yG ?_
  exact AQ (v := .tuple #[.agg #[.slice a1 lv cv, .slice a3 le ce, .slice a2 ln cn, .int .i64 ↑h.next], .int .i64 0, .int .i64 0]) YlN O (mS (n := 0) (e := 0) (Tk B l p a0) (Two.row (s := Rs.sy h) E.2.2.1 N O) (e4 E))
 refine yG ?_
 refine V O O (HJ (a := z) (b := []) (c := true) O O O (by rw [bne_iff_ne]; exact I)) ?_
 cases q : NJ 10 z with
 | none =>
  refine yG ?_
  refine EF O (BZ IZ O ((by have f := zV z ([10]) w6 AA E.2.2.1.1; rw [yH q] at f; exact f)) O E ?_)
  intro au b0 E
  have R := E.2.1
  refine yG ?_
  replace E := XS E
  refine yG ?_
  refine EF O (BY OU O O O R O O (CK O (CK O (CK O (CK O EK)))) ?_)
  intro ar ad a6
  replace E := oY E R ad a6 (ds := [.slice none 0 0, .slice none 0 0, .slice none 0 0, .int .i64 0])
  have r1 := DA OU E.1 rfl
  refine yG ?_
  exact AQ (v := .tuple #[.agg #[.slice none 0 0, .slice none 0 0, .slice none 0 0, .int .i64 0], .int .i64 ↑(o.length + 1), .int .i64 440]) YlN O (mS (n := o.length + 1) (e := 440) (Ti B l p I q) (NewSy.zero _ _) (e3 E))
 | some xy =>
  obtain ⟨u, y1⟩ := xy
  have af := (cutB_some.1 q).1
  have ag := congrArg List.length af
  simp only [List.length_append, List.length_cons] at ag
  refine yG ?_
  refine EF O (BZ IZ O ((by have f := zV z ([10]) w6 AA E.2.2.1.1; rw [yF q] at f; exact f)) O E ?_)
  intro H az E
  cases C : IL (o.length + 1) h u with
  | none =>
   refine yG ?_
   refine EF O (PU NO O (by have f : Calls prog 53 _ H (jJ G H (IL (o.length + 1) h u)) := Ot G _ h.vars h.eqs h.neqs h.next h.last u _ E.1 AA E.2.2.1.1 AA (by have := L.vars; omega) (by have := L.last; omega); rw [C] at f; exact f) O ?_)
   intro a8 an F J
   replace E := ((((Env.nil a8).ww ((e3 E).trans (F.mono N))).gl ((E.2.2.1.1).be AA F)).x (E.2.1.be X F))
   obtain rfl : an = false := J
   have Q := E.1
   refine yG ?_
   replace E := VI E
   refine yG ?_
   refine EF O (BY OU O O O Q O O (CK O (CK O (CK O (CK O EK)))) ?_)
   intro aq ac a4
   replace E := oY E Q ac a4 (ds := [.slice none 0 0, .slice none 0 0, .slice none 0 0, .int .i64 0])
   have r1 := DA OU E.1 rfl
   refine yG ?_
   exact AQ (v := .tuple #[.agg #[.slice none 0 0, .slice none 0 0, .slice none 0 0, .int .i64 0], .int .i64 ↑(o.length + 1), .int .i64 440]) YlN O (mS (n := o.length + 1) (e := 440) (Yv B l p q C) (NewSy.zero _ _) E.2.2.1)
  | some st2 =>
   refine yG ?_
   refine EF O (PU NO O (by have f : Calls prog 53 _ H (jJ G H (IL (o.length + 1) h u)) := Ot G _ h.vars h.eqs h.neqs h.next h.last u _ E.1 AA E.2.2.1.1 AA (by have := L.vars; omega) (by have := L.last; omega); rw [C] at f; exact f) O ?_)
   intro U am D k
   replace E := ((((Env.nil U).ww ((e3 E).trans (D.mono N))).gl ((E.2.2.1.1).be AA D)).x (E.2.1.be X D))
   obtain ⟨rfl, k⟩ : am = true /\ RdrAt G U st2 := k
   replace E := E.rd k
   refine yG ?_
   exact ⟨_, (by rw [ah]; omega), y1, (o ++ [u]), st2, (o.length + 1), _, O, O, zE, O, ⟨(Xb l p q C).1, (Xb l p q C).2, by omega, by simp⟩⟩
end Go.Proofs.YtmppigbbkjepiaaGreatDoor
