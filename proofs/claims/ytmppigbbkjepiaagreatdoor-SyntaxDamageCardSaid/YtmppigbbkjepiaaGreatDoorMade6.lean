/- Helping facts of Raw; no other conditions. Helping facts of Made6; no other conditions. -/
import Derived.Test.YtmppigbbkjepiaaGreatDoorMadeP
import Derived.Deep.Slices
import Derived.OpenShut
set_option maxRecDepth 100000
namespace Go.Proofs.YtmppigbbkjepiaaGreatDoor
open Go.Proofs.Tryz
open Go.ChangeShapes Go.WideShapes Go.ChangeAt Go.RowKit Go.Joins W
def a5 (x : List Int) : List Value := x.map fun n => Value.int .i8 n
def elA : El (List Int) where
  sz := 5
  p := fun _ _ cs x => cs = a5 x ∧ x.length = 5 ∧ ∀ n ∈ x, -128 ≤ n ∧ n ≤ 127
  keep := fun h _ => h
  mono := fun h _ => h
  len := fun ⟨h, h2, _⟩ => by subst h; unfold a5; rw [List.length_map, h2]
  one := fun ⟨h, _⟩ => by subst h; intro v hv; obtain ⟨n, _, rfl⟩ := List.mem_map.1 hv; rfl
  nw := fun ⟨h, _⟩ => by subst h; intro c hc k e; obtain ⟨n, _, rfl⟩ := List.mem_map.1 hc; cases e
def Nh : El (List (List Int)) where
  sz := 1
  p := fun S w cs x => ∃ v, cs = [v] ∧ IsR elA S w v x
  keep := fun ⟨v, h1, h2⟩ hk => ⟨v, h1, h2.keep hk⟩
  mono := fun ⟨v, h1, h2⟩ hs => ⟨v, h1, h2.mono hs⟩
  len := fun ⟨v, h1, _⟩ => by subst h1; rfl
  one := fun ⟨v, h1, h2⟩ => by subst h1; intro u hu; rw [List.mem_singleton] at hu; subst hu; exact h2.one
  nw := fun ⟨v, h1, h2⟩ => by
    subst h1; intro c hc k e
    obtain ⟨ao, cap, rfl, _⟩ := h2
    subst e; simp at hc
def Ni : El Nat where
  sz := 1
  p := fun _ _ cs x => cs = [.int .u8 ((x : Nat) : Int)] ∧ x < 256
  keep := fun h _ => h
  mono := fun h _ => h
  len := fun ⟨h, _⟩ => by subst h; rfl
  one := fun ⟨h, _⟩ => by subst h; intro v hv; rw [List.mem_singleton] at hv; subst hv; rfl
  nw := fun ⟨h, _⟩ => by subst h; intro c hc k e; rw [List.mem_singleton] at hc; subst hc; cases e
section
variable {H : Type} {enc : TypeId × Value → H} {W : World}
theorem sO {P : Program} {t e : TypeId} {n fuel : Nat} {cs : List Value} {x : DataW H × List MemPlace} {base : Nat} {spare : Nat → Bool} {held : Bool} (ht : P.underlying t = some (.array n e)) (hc : P.cellsOf e = 1) (h : DataW.trod enc P W base spare held fuel t cs = some x) :
    cs.length = P.cellsOf t ∧ ∃ m, ∀ i, i < n → ∃ y, DataW.trod enc P W base spare held m e ((cs.drop i).take 1) = some y := by
  obtain ⟨f, m, _, _, k, o, l⟩ := DataW.trod_array ht h
  refine ⟨k, m, fun i h => ⟨f[i]'AA, ?_⟩⟩
  have := l i h
  rw [hc, Nat.mul_one] at this
  rw [this, List.getElem?_eq_getElem]
theorem kX {α : Type} (e : El α) {t et : TypeId} {fuel : Nat} {c : Value} {x : DataW H × List MemPlace} (ht : prog.underlying t = some (.slice et)) (hc : prog.cellsOf et = e.sz) (hp : 0 < e.sz)
    (hx : ∀ n cs y, DataW.trod enc prog W 0 (fun _ => true) true n et cs = some y → ∃ a : α, e.p (DD W.heap.size) W cs a)
    (h : DataW.trod enc prog W 0 (fun _ => true) true fuel t [c] = some x) : ∃ l : List α, IsR e (DD W.heap.size) W c l := by
  rcases Go.Deep.open_slice ht h with ⟨J, _⟩ | ⟨a, len, S, m, n, D, Pl, J, _, P, R, hm, _, f⟩
  · simp only [List.cons.injEq, and_true] at J
    subst J
    exact ⟨[], IsR.nil _ _ _⟩
  · simp only [List.cons.injEq, and_true] at J
    subst J
    simp only [if_true] at hm
    rw [hc] at f
    have G : ∀ i, i < len → ∃ y : α, ∃ cs, W.cells? 0 (a.add (i * e.sz)) e.sz = some cs ∧ e.p (DD W.heap.size) W cs y := fun i Y => by
      obtain ⟨cs, u, L⟩ := f i AA
      obtain ⟨y, C⟩ := hx _ _ _ L
      exact ⟨y, cs, u, C⟩
    have I : ∀ k, k ≤ len → ∃ l : List α, l.length = k ∧ ∀ i y, l[i]? = some y → ∃ cs, W.cells? 0 (a.add (i * e.sz)) e.sz = some cs ∧ e.p (DD W.heap.size) W cs y := by
      intro k
      induction k with
      | zero => intro _; exact ⟨[], rfl, fun i y h => by simp at h⟩
      | succ k ih =>
        intro hk
        obtain ⟨l, u, L⟩ := ih AA
        obtain ⟨y, C⟩ := G k AA
        refine ⟨l ++ [y], by simp [u], fun i z B => ?_⟩
        by_cases Y : i < l.length
        · rw [List.getElem?_append_left Y] at B; exact L i z B
        · have Q : i = k := by
            have := (List.getElem?_eq_some_iff.1 B).1
            simp only [List.length_append, List.length_cons, List.length_nil] at this; omega
          subst Q
          rw [List.getElem?_append_right AA, u, Nat.sub_self] at B
          simp only [List.getElem?_cons_zero, Option.some.injEq] at B
          subst B; exact C
    obtain ⟨l, u, L⟩ := I len (Nat.le_refl _)
    refine ⟨l, some a, S, by rw [u], by rw [u]; exact P, R, fun i y C => ?_⟩
    obtain ⟨cs, g3, g4⟩ := L i y C
    have a0 : i < len := by have := (List.getElem?_eq_some_iff.1 C).1; omega
    obtain ⟨a1, z1, _⟩ := f 0 AA
    obtain ⟨_, zl, zc⟩ := World.cells?_some z1
    have h0 := zc 0 hp
    rw [Nat.zero_mul, Addr.add_zero', Addr.add_zero', List.getElem?_eq_getElem AA] at h0
    obtain ⟨hb, N⟩ := Su h0
    obtain ⟨_, U, q⟩ := World.cells?_some g3
    obtain ⟨b, o, sp⟩ := a
    have F : sp = none := N
    subst F
    refine ⟨b, o, cs, O, hb, fun j v T => ?_, g4⟩
    have X := q j (by have := (List.getElem?_eq_some_iff.1 T).1; omega)
    rw [Go.Deep.add_add, Addr.add_lit] at X
    rw [Nat.add_assoc, X]; exact T
theorem i8_wf {n : Int} (h : (Lit.int .i8 n).wf = true) : -128 ≤ n ∧ n ≤ 127 := by
  simp [Lit.wf, IntKind.min, IntKind.max, IntKind.signed, IntKind.bits] at h
  omega
theorem Jd {n : Int} (h : (Lit.int .u8 n).wf = true) : 0 ≤ n ∧ n < 256 := by
  simp [Lit.wf, IntKind.min, IntKind.max, IntKind.signed, IntKind.bits] at h
  omega
theorem Tg {n : Nat} {cs : List Value} {y : DataW H × List MemPlace} {S : Nat → Prop} (h : DataW.trod enc prog W 0 (fun _ => true) true n 85 cs = some y) : ∃ a, elA.p S W cs a := by
  obtain ⟨C, m, B⟩ := sO (n := 5) underlying85 Z h
  have f : cs.length = 5 := C.trans Z
  have e : ∀ i, i < 5 → ∃ k : Int, cs[i]? = some (.int .i8 k) ∧ -128 ≤ k ∧ k ≤ 127 := fun i e => by
    obtain ⟨y, z⟩ := B i e
    obtain ⟨k, F, _, D⟩ := DataW.trod_int underlying77 z
    exact ⟨k, cell_of_cut F, i8_wf D⟩
  match cs, f, e with
  | [c0, c1, c2, c3, c4], _, e =>
    obtain ⟨v, e0, N⟩ := e 0 AE
    obtain ⟨u, e1, L⟩ := e 1 AE
    obtain ⟨t, e2, J⟩ := e 2 AE
    obtain ⟨q, e3, I⟩ := e 3 AE
    obtain ⟨o, e4, G⟩ := e 4 AE
    simp only [List.getElem?_cons_zero, List.getElem?_cons_succ, Option.some.injEq] at e0 e1 e2 e3 e4
    subst e0 e1 e2 e3 e4
    refine ⟨[v, u, t, q, o], O, O, fun n l => ?_⟩
    simp only [List.mem_cons, List.not_mem_nil, or_false] at l
    rcases l with rfl | rfl | rfl | rfl | rfl <;> assumption
theorem Fw {n : Nat} {c : Value} {y : DataW H × List MemPlace} (h : DataW.trod enc prog W 0 (fun _ => true) true n 22 [c] = some y) : ∃ l, IsR elA (DD W.heap.size) W c l :=
  kX elA underlying22 Z AE (fun _ _ _ h => Tg h) h
theorem zX {n : Nat} {c : Value} {y : DataW H × List MemPlace} (h : DataW.trod enc prog W 0 (fun _ => true) true n 42 [c] = some y) : ∃ l, IsR Ni (DD W.heap.size) W c l :=
  kX Ni underlying42 Z AE (fun _ _ _ h => by
    obtain ⟨k, rfl, _, h3⟩ := DataW.trod_int underlying5 h
    obtain ⟨h4, h5⟩ := Jd h3
    exact ⟨k.toNat, by rw [Int.toNat_of_nonneg h4], by omega⟩) h
theorem VF {n : Nat} {cs : List Value} {y : DataW H × List MemPlace} (h : DataW.trod enc prog W 0 (fun _ => true) true n 24 cs = some y) : ∃ c, cs = [c] ∧ ∃ l, IsR elA (DD W.heap.size) W c l := by
  obtain ⟨p, m, _, _, q, e, k⟩ := DataW.trod_struct underlying24 h
  have f : cs.length = 1 := q.trans Z
  match cs, f, p, e, k with
  | [c], _, [x0], _, k =>
    have o := k 0 _ rfl
    simp only [List.getElem?_cons_zero] at o
    exact ⟨c, rfl, Fw o⟩
theorem Gc {n : Nat} {c : Value} {y : DataW H × List MemPlace} (h : DataW.trod enc prog W 0 (fun _ => true) true n 41 [c] = some y) : ∃ l, IsR Nh (DD W.heap.size) W c l :=
  kX Nh underlying41 Z AE (fun _ _ _ h => by
    obtain ⟨c, rfl, l, hl⟩ := VF h
    exact ⟨l, c, rfl, hl⟩) h
theorem tT {n : Nat} {cs : List Value} {y : DataW H × List MemPlace} (h : DataW.trod enc prog W 0 (fun _ => true) true n 44 cs = some y) :
    ∃ (n : Nat) (cl cg : Value), cs = [.int .u8 ↑n, cl, cg] ∧ n < 256 ∧ ∃ rl, IsR Nh (DD W.heap.size) W cl rl ∧ ∃ rg, IsR Ni (DD W.heap.size) W cg rg := by
  obtain ⟨z, m, _, _, B, l, f⟩ := DataW.trod_struct underlying44 h
  have q : cs.length = 3 := B.trans Z
  match cs, q, z, l, f with
  | [c0, c1, c2], _, [x0, x1, x2], _, f =>
    have v := f 0 _ rfl
    have u := f 1 _ rfl
    have t := f 2 _ rfl
    simp only [List.getElem?_cons_zero, List.getElem?_cons_succ] at v u t
    obtain ⟨k, e, _, D⟩ := DataW.trod_int underlying5 v
    obtain ⟨C, F⟩ := Jd D
    obtain ⟨rl, o⟩ := Gc u
    obtain ⟨rg, p⟩ := zX t
    obtain rfl : c0 = .int .u8 k := by injection e
    exact ⟨k.toNat, c1, c2, by rw [Int.toNat_of_nonneg C], by omega, rl, o, rg, p⟩
theorem Dn {cs : Array Value} {l : List Value} (h : (Value.agg cs).cells.toList = l) : cs = l.toArray := by
  subst h; simp [Value.cells]
theorem Gi {r : Reach} {b0 : Nat} {v : Value} {d : DataW H} {p : List MemPlace} (hv : Value.okWide prog W r b0 24 v) (h : DataW.Trod enc prog W 0 (fun _ => true) true 24 v d p) :
    ∃ c, v = .agg #[c] ∧ ∃ l, IsR elA (DD W.heap.size) W c l := by
  obtain ⟨cs, rfl, _⟩ := okWide_struct underlying24 hv
  obtain ⟨e, f⟩ := h
  obtain ⟨c, o, k⟩ := VF f
  exact ⟨c, by rw [Dn o], k⟩
theorem kK {r : Reach} {b0 : Nat} {v : Value} {d : DataW H} {p : List MemPlace} (hv : Value.okWide prog W r b0 44 v) (h : DataW.Trod enc prog W 0 (fun _ => true) true 44 v d p) :
    ∃ (n : Nat) (cl cg : Value), v = .agg #[.int .u8 ↑n, cl, cg] ∧ n < 256 ∧ ∃ rl, IsR Nh (DD W.heap.size) W cl rl ∧ ∃ rg, IsR Ni (DD W.heap.size) W cg rg := by
  obtain ⟨cs, rfl, _⟩ := okWide_struct underlying44 hv
  obtain ⟨e, f⟩ := h
  obtain ⟨n, cl, cg, l, k⟩ := tT f
  exact ⟨n, cl, cg, by rw [Dn l], k⟩
theorem yC {r : Reach} {b0 : Nat} {v : Value} {d : DataW H} {p : List MemPlace} (_hv : Value.okWide prog W r b0 25 v) (h : DataW.Trod enc prog W 0 (fun _ => true) true 25 v d p) :
    ∃ ca cb, v = .agg #[ca, cb] ∧ ∃ ra, IsR elA (DD W.heap.size) W ca ra ∧ ∃ rb, IsR elA (DD W.heap.size) W cb rb := by
  obtain ⟨o, y⟩ := h
  obtain ⟨u, m, k⟩ := sO (n := 2) underlying25 Z y
  have e : v.cells.toList.length = 2 := u.trans Z
  obtain ⟨cs, rfl⟩ : ∃ cs, v = .agg cs := by
    cases v <;> first | exact ⟨_, rfl⟩ | (exfalso; simp [Value.cells] at e)
  have f : cs.toList = (Value.agg cs).cells.toList := by simp [Value.cells]
  obtain ⟨J, B⟩ := k 0 AE
  obtain ⟨I, z⟩ := k 1 AE
  obtain ⟨G, e0, t, D⟩ := VF B
  obtain ⟨F, e1, q, C⟩ := VF z
  refine ⟨G, F, ?_, t, D, q, C⟩
  generalize (Value.agg cs).cells.toList = l at *
  match l, e with
  | [x0, x1], _ =>
    simp only [List.drop_zero, List.drop_succ_cons, List.take_succ_cons, List.take_zero, List.cons.injEq, and_true] at e0 e1
    subst e0 e1
    congr 1
    apply Array.toList_inj.1; exact f
theorem Xu {r : Reach} {b0 : Nat} {v : Value} {d : DataW H} {p : List MemPlace} (hv : Value.okWide prog W r b0 56 v) (h : DataW.Trod enc prog W 0 (fun _ => true) true 56 v d p) :
    ∃ (c : Value) (n : Nat) (cl cg : Value), v = .agg #[c, .int .u8 ↑n, cl, cg] ∧ ∃ r, IsR elA (DD W.heap.size) W c r ∧ n < 256 ∧ ∃ rl, IsR Nh (DD W.heap.size) W cl rl ∧ ∃ rg, IsR Ni (DD W.heap.size) W cg rg := by
  obtain ⟨cs, rfl, _⟩ := okWide_struct underlying56 hv
  obtain ⟨z, G⟩ := h
  obtain ⟨B, m, _, _, F, f, e⟩ := DataW.trod_struct underlying56 G
  have q : (Value.agg cs).cells.toList.length = 4 := F.trans Z
  have t : cs.toList = (Value.agg cs).cells.toList := by simp [Value.cells]
  generalize (Value.agg cs).cells.toList = L at *
  match L, q, B, f, e with
  | [c0, c1, c2, c3], _, [x0, x1], _, e =>
    have y := e 0 _ rfl
    have u := e 1 _ rfl
    simp only [List.getElem?_cons_zero, List.getElem?_cons_succ] at y u
    obtain ⟨c, e0, C, o⟩ := VF y
    obtain ⟨n, cl, cg, e1, D, rl, k, rg, l⟩ := tT u
    obtain rfl : c0 = c := by injection e0
    obtain ⟨rfl, rfl, rfl⟩ : c1 = .int .u8 ↑n ∧ c2 = cl ∧ c3 = cg := by
      injection e1 with a b
      injection b with b c
      injection c with c _
      exact ⟨a, b, c⟩
    exact ⟨c0, n, c2, c3, by congr 1; apply Array.toList_inj.1; exact t, C, o, D, rl, k, rg, l⟩
theorem oF {a : Int} (h : (Lit.int .u8 a).wf = true) : ∃ n : Nat, a = (n : Int) ∧ n < 256 := by
  obtain ⟨f, e⟩ := Jd h
  exact ⟨a.toNat, by omega, by omega⟩
end
end Go.Proofs.YtmppigbbkjepiaaGreatDoor
set_option maxHeartbeats 8000000
set_option maxRecDepth 100000
namespace Go.Proofs.YtmppigbbkjepiaaGreatDoor
open Go.Proofs.Tryz
open Go.RowKit W
theorem oM (w : World) : (isAgg 77).run prog w = .ok false w := by simp [go_sem]
theorem Ee : Ag prog 24 1 [.slice none 0 0] := ⟨⟨_, underlying24, rfl⟩, by kernel_rfl, rfl⟩
theorem a5_at {x : List Int} {j : Nat} {z : Int} (h : x[j]? = some z) : (a5 x)[j]? = some (.int .i8 z) := by simp [a5, h]
theorem Oj {x : List Int} (h : x.length = 5 ∧ ∀ n ∈ x, -128 ≤ n ∧ n ≤ 127) {j : Nat} (hj : j < 5) : ∃ z, x[j]? = some z ∧ -128 ≤ z ∧ z ≤ 127 := ⟨_, List.getElem?_eq_getElem AA, h.2 _ (List.getElem_mem _)⟩
theorem Dv {w : World} {b o j : Nat} {x : List Int} {z : Int} (hc : (fC b o (a5 x)).p w) (h : x[j]? = some z) : w.cell? ⟨b, o + j * 1, none⟩ = some (.int .i8 z) := by rw [Nat.mul_one]; exact hc.1 j _ (a5_at h)
theorem Re (m : List Nat) (i v : Nat) : (GP m).set (0 + i * 1) (.int .i64 ↑v) = GP (m.set i v) := by
  rw [Nat.zero_add, Nat.mul_one]; unfold GP; rw [List.map_set]
theorem Rf {m : List Nat} (h : EK m) {i v : Nat} (hi : i < 8) : (GP (m.set i v))[0 + i * 1]? = some (.int .i64 ↑v) := by
  rw [Nat.zero_add, Nat.mul_one]; unfold GP; rw [List.getElem?_map, List.getElem?_set_self (by rw [h.1]; exact hi)]; rfl
def NewMd (n d k : Nat) (w0 w' : World) (v : Value) : Prop := ∃ p, MadeOk n d k p ∧ NewP w0 p w' v
theorem rem4 (z : Int) : (z.tmod 4).natAbs ≤ 3 := by
  have := Int.natAbs_tmod z 4
  have h : z.natAbs % (4 : Int).natAbs < 4 := Nat.mod_lt _ AE
  omega
theorem mo_of {d i left : Nat} {m : List Nat} (h : RowM d i left m) : EK m := h.ok
theorem within.mono {i j : Nat} {m : List Nat} (h : within i m) (hij : i ≤ j) : within j m := fun k hk => h k (Nat.le_trans hij hk)
theorem abs_q (n : Int) (w : World) (h1 : -128 ≤ n) (h2 : n ≤ 127) :
    Calls prog 34 #[.int .i8 n] w (GJ w (.int .i64 ↑n.natAbs)) := by
 have E := Env.start w
 go_enter func34, ntmps34
 by_cases e : n < 0
 case neg =>
  refine yG ?_
  refine V (v := .int .i64 n) O O (EO O O (by rw [underlying77]; rfl) underlying3 (JK AA)) ?_
  refine yG ?_
  exact ⟨(by rw [show n = ((n.natAbs : Nat) : Int) by omega]; rfl), E.1⟩
 refine yG ?_
 refine V (v := .int .i64 n) O O (EO O O (by rw [underlying77]; rfl) underlying3 (JK AA)) ?_
 refine V (v := .int .i64 (-n)) O O (Kk O O (JK AA)) ?_
 refine yG ?_
 exact ⟨(by rw [show -n = ((n.natAbs : Nat) : Int) by omega]), E.1⟩
theorem iY (vl : Value) (l : List (List Int)) (n : Nat) (d : Nat) (tm : Nat) (w : World) (hRl : IsR elA (DD w.heap.size) w vl l) (hn : n ≤ 4) (hd : d ≤ 12) (ht : tm ≤ 6) :
    Calls prog 11 #[.agg #[vl], .int .i64 ↑n, .int .i64 ↑d, .int .i64 ↑tm] w (Ad w (NewMd n d tm w)) := by
 have E := Env.start w
 obtain ⟨B, u, rfl, c1, bq⟩ := hRl.shp
 replace E := E.r hRl (DK _)
 go_enter func11, ntmps11
 refine yG ?_
 refine EF O (CI (cs := [.slice B l.length u]) O O ?_)
 intro L w1 b6 z1 d1 x1
 have l1 : w.heap.size ≤ L := by rw [b6]; exact E.2.1.size
 replace E := E.below d1
 replace E := E.x x1
 refine yG ?_
 refine EF O (VR fF O ?_)
 intro J w2 b5 z2 d2 x2
 have bc : L < J := by rw [b5]; exact Bx.lt E.1
 replace E := E.below d2
 replace E := E.x x2
 obtain ⟨z0, P⟩ : ∃ z, z = w2.heap.size := ⟨_, rfl⟩
 have bo : w.heap.size ≤ z0 := by rw [P]; exact (e3 E).size
 replace E := (E.sz (Nat.le_of_eq P)).r (e := JP) (S := DX w.heap.size z0) (v := .slice (some ⟨J, 0, none⟩) 0 0) (l := []) IsR.lit0 (fun k F => by rw [← P]; exact F.2)
 refine yG ?_
 refine wp_loop_ghost (fun mz a w' => ∃ (k : Nat) (ao : Option Addr) (cp : Nat) (z : Nat) (p : List Tm) (f : List Value), f = a.tmps.toList ∧ a = ⟨#[.agg #[.slice B l.length u], .int .i64 ↑n, .int .i64 ↑d, .int .i64 ↑tm, .pointer (some ⟨L, 0, none⟩), undef, undef, undef, .slice none 0 0, .slice ao p.length cp, .int .i64 ↑k, CE f 11, CE f 12, CE f 13, .slice (some ⟨J, 0, none⟩) 0 0, CE f 15, CE f 16, CE f 17, CE f 18, CE f 19, CE f 20, CE f 21, CE f 22, CE f 23, CE f 24, CE f 25, CE f 26, CE f 27, CE f 28, CE f 29, CE f 30, CE f 31, CE f 32, CE f 33, CE f 34, CE f 35, CE f 36, CE f 37, CE f 38, CE f 39, CE f 40, CE f 41, CE f 42, CE f 43, CE f 44, CE f 45, CE f 46, CE f 47, CE f 48, CE f 49, CE f 50, CE f 51, CE f 52, CE f 53, CE f 54, CE f 55, CE f 56, CE f 57, CE f 58, CE f 59, CE f 60, CE f 61, CE f 62, CE f 63, CE f 64, CE f 65, CE f 66, CE f 67, CE f 68, CE f 69, CE f 70, CE f 71, CE f 72, undef], []⟩ ∧ Env w' [fR JP (DX w.heap.size z) (.slice ao p.length cp) p, oZ z, fX J (88) ([]), fX L (24) ([.slice B l.length u]), fR elA (DD w.heap.size) (.slice B l.length u) l, fW w] ∧ mz = tm - k ∧ (k ≤ tm ∧ k ≤ l.length ∧ w.heap.size ≤ z ∧ MadeOk n d k p)) (tm) ⟨0, (some ⟨J, 0, none⟩), 0, z0, [], _, O, O, zE, O, ⟨Nat.zero_le _, Nat.zero_le _, by omega, yK n d⟩⟩ ?_
 rintro m3 _ w3 ⟨k, ao, cp, z, p, f, -, rfl, E, au, b3⟩
 obtain ⟨bv, bu, hz, hJ⟩ := b3
 have bp := hJ.len
 by_cases aw : k < l.length
 case neg =>
  refine yG ?_
  refine V O O (IH O O O) ?_
  refine yG ?_
  exact ⟨_, rfl, ⟨_, (hJ.mono AA), E.1.1.mono fun k F => ⟨F.1, E.1.2 k F⟩⟩, e5 E⟩
 by_cases bt : k < tm
 case neg =>
  refine yG ?_
  refine V O O (IH O O O) ?_
  refine yG ?_
  exact ⟨_, rfl, ⟨_, (hJ.mono AA), E.1.1.mono fun k F => ⟨F.1, E.1.2 k F⟩⟩, e5 E⟩
 obtain ⟨xA, Q⟩ : ∃ x, l[k]? = some x := ⟨_, List.getElem?_eq_getElem aw⟩
 obtain ⟨y, C, _, a9, aa, az, ⟨rfl, a6⟩⟩ := IsR.at (e4 E).1 Q
 have av : y < _ := (e4 E).2 _ aa
 have c4 : y < w.heap.size := aa
 replace E := E.c az av
 refine yG ?_
 refine V O O (IH O O O) ?_
 refine yG ?_
 refine EF O (CB QX O ?_)
 intro T w4 ad z4 d4 x4
 have bb : J < T := by rw [ad]; exact Bx.lt (e3 E)
 have ai : z ≤ T := by rw [ad]; exact CR E.2.2.1
 replace E := E.below d4
 refine yG ?_
 refine EF O (BY QX O O O x4 (by first | rfl | exact DC qN) (DC CZ) (qQ _) ?_)
 intro w5 o5 y5
 replace E := (E.onl (x4.noW (cB (m := [0, 0, 0, 0, 0, 0, 0, 0]))) zK o5).x y5
 refine yG ?_
 refine wp_loop_ghost (fun mz a w' => ∃ (i : Nat) (q : Nat) (m : List Nat) (h : List Value), a = ⟨#[.agg #[.slice B l.length u], .int .i64 ↑n, .int .i64 ↑d, .int .i64 ↑tm, .pointer (some ⟨L, 0, none⟩), undef, undef, undef, .slice none 0 0, .slice ao p.length cp, .int .i64 ↑k, .pointer (some ⟨T, 0, none⟩), .int .i64 ↑q, .int .i64 ↑i, .slice (some ⟨J, 0, none⟩) 0 0, .int .i64 ↑k, .pointer (some ⟨L, 0, none⟩), .slice B l.length u, .int .i64 ↑l.length, .bool true, .bool true, .int .i64 ↑k, .int .i64 ↑tm, .bool true, .bool true, CE f 25, CE f 26, .agg (GP zeroM).toArray, .int .i64 ↑d, CE h 0, CE h 1, CE h 2, CE h 3, CE h 4, CE h 5, CE h 6, CE h 7, CE h 8, CE h 9, CE h 10, CE h 11, CE h 12, CE h 13, CE h 14, CE h 15, CE h 16, CE h 17, CE h 18, CE h 19, CE h 20, CE h 21, CE h 22, CE h 23, CE h 24, CE h 25, CE h 26, CE h 27, CE f 57, CE f 58, CE f 59, CE f 60, CE f 61, CE f 62, CE f 63, CE f 64, CE f 65, CE f 66, CE f 67, CE f 68, CE f 69, CE f 70, CE f 71, CE f 72, undef], []⟩ ∧ Env w' [fX T (67) (GP m), fC y (C + k * 5) (a5 xA), fR JP (DX w.heap.size z) (.slice ao p.length cp) p, oZ z, fX J (88) ([]), fX L (24) ([.slice B l.length u]), fR elA (DD w.heap.size) (.slice B l.length u) l, fW w] ∧ mz = 4 - i ∧ (i ≤ 4 ∧ i ≤ n ∧ RowM d i q m)) (4) ⟨0, d, zeroM, [CE f 29, CE f 30, CE f 31, CE f 32, CE f 33, CE f 34, CE f 35, CE f 36, CE f 37, CE f 38, CE f 39, CE f 40, CE f 41, CE f 42, CE f 43, CE f 44, CE f 45, CE f 46, CE f 47, CE f 48, CE f 49, CE f 50, CE f 51, CE f 52, CE f 53, CE f 54, CE f 55, CE f 56], O, zE, O, ⟨Nat.zero_le _, Nat.zero_le _, Fz d⟩⟩ ?_
 rintro m6 _ w6 ⟨i, q, m, h, rfl, E, ar, b0⟩
 obtain ⟨c0, bx, D⟩ := b0
 have H := D.ok
 have br : q ≤ d := by have := D.sum; omega
 by_cases bw : i < n
 case pos =>
  obtain ⟨U, ak, am, al⟩ := Oj a6 (show 1 + i < 5 by omega)
  obtain ⟨v, hv⟩ : ∃ v, v = U.natAbs % (q + 1) := ⟨_, rfl⟩
  have an : v ≤ q := by rw [hv]; have := Nat.mod_lt U.natAbs (show 0 < q + 1 by omega); omega
  refine yG ?_
  refine V O O (IH O O O) ?_
  refine yG ?_
  refine V (v := .int .i64 ((1 + i : Nat) : Int)) O O (JD O O O (LM (by omega) (by omega))) ?_
  refine V (v := .pointer (some ⟨y, C + k * 5, none⟩)) O O (NL (i := k) O underlying22 Z O a9 O O (List.getElem?_eq_some_iff.1 Q).1) ?_
  refine V (v := .pointer (some ⟨y, C + k * 5 + (1 + i) * 1, none⟩)) O O (DS (j := (1 + i)) O underlying85 Z O O O AA) ?_
  refine yG ?_
  refine V O O (GF O oM O (Dv E.2.1 ak)) ?_
  refine yG ?_
  refine EF O (BZ mJ O (abs_q U _ am al) O E ?_)
  intro w7 d7 E
  refine yG ?_
  refine V (v := .int .i64 ↑v) O O (DZ O O O AA (by rw [hv]; exact JS _ _)) ?_
  have x9 := E.1
  refine yG ?_
  replace E := WJ E
  refine yG ?_
  refine EF O (Oper.wp_storeAt (v := .int .i64 ↑v) O sY O O O O x9 (by rw [DC H]; omega) ?_)
  intro w8 o8 y8
  rw [Re] at y8
  replace E := (E.onl (x9.noW (cB _)) zK o8).x y8
  refine yG ?_
  refine V O O (CP O DA O E.1 (Rf H AA)) ?_
  refine yG ?_
  refine V (v := .int .i64 ↑(q - v)) O O (JC O O O (LM AA AA)) ?_
  refine yG ?_
  exact ⟨_, (by rw [ar]; omega), (i + 1), (q - v), (m.set i v), [.int .i64 ↑i, .int .i64 ↑n, .bool true, .bool true, .int .i64 ↑i, .bool true, .bool true, .int .i64 ↑i, .int .i64 ↑(i + 1), .int .i64 ↑i, .pointer (some ⟨L, 0, none⟩), .slice B l.length u, .int .i64 ↑k, .int .i64 ↑i, .int .i64 ↑(1 + i), .pointer (some ⟨y, C + k * 5, none⟩), .pointer (some ⟨y, C + k * 5 + (1 + i) * 1, none⟩), .int .i8 U, .int .i64 ↑U.natAbs, .int .i64 ↑q, .int .i64 ↑(q + 1), .int .i64 ↑v, .pointer (some ⟨T, 0 + i * 1, none⟩), .int .i64 ↑q, .int .i64 ↑i, .pointer (some ⟨T, 0 + i * 1, none⟩), .int .i64 ↑v, .int .i64 ↑(q - v)], O, zE, O, ⟨by omega, by omega, D.step AA an AA⟩⟩
 obtain ⟨cz, ax, c3, c2⟩ := Oj a6 (show 0 < 5 by decide)
 obtain ⟨c, hc⟩ : ∃ c, c = cz.tmod 4 := ⟨_, rfl⟩
 have ay : c.natAbs ≤ 3 := by rw [hc]; exact rem4 cz
 have a4 : ∀ t ∈ [(((1 : Int) : Rat), m)], FitQ t.1 4 := fun t ht => by rw [List.mem_singleton] at ht; subst ht; exact qH
 have a8 : FitQ ((c : Int) : Rat) 4 := OX (k := 4) AE (EV AA AA)
 refine yG ?_
 refine sE E [0,1,2,3,4,5,6,7,8,11,9,10,12,13,14,15,16] ?_
 replace E := E.drew
 refine yG ?_
 refine SW O O O O O (fun w R => IH O O O) ?_
 refine yG ?_
 refine SW (v := .pointer (some ⟨y, C + k * 5, none⟩)) O O O O O (fun w R => NL (i := k) O underlying22 Z O a9 O O (List.getElem?_eq_some_iff.1 Q).1) ?_
 refine SW (v := .pointer (some ⟨y, C + k * 5 + 0 * 1, none⟩)) O O O O O (fun w R => DS (j := 0) O underlying85 Z O O O AA) ?_
 refine SW O O O O O (fun w R => GF O oM O (Dv (R.2.1) ax)) ?_
 refine SW (v := .int .i8 c) O O O O O (fun w R => DZ O O O AE hc.symm) ?_
 refine yG ?_
 refine SW (v := .int .i64 c) O O O O O (fun w R => EO O O (by rw [underlying77]; rfl) underlying2 (JK AA)) ?_
 refine yG ?_
 refine JM (o := ⟨some 66, _, _, _, _, _⟩) O O O O (CV JA O (UP c _ AA AA) O E ?_)
 intro bh bm bl bn bk c7 E
 refine ⟨E.2.2, ?_⟩
 refine yG ?_
 refine JM (o := ⟨some 67, _, _, _, _, _⟩) O O O O (CV JA O (UP 1 _ AE AE) O E ?_)
 intro bg a2 Y a3 X c6 E
 refine ⟨E.2.2.2.2, ?_⟩
 refine yG ?_
 refine SW (v := .agg (HY a2 Y a3 X m).toArray) O O O O O (fun w R => ZY O O O H) ?_
 refine yG ?_
 refine JM (o := ⟨some 70, _, _, _, _, _⟩) O O O O (DT (cs := (HY a2 Y a3 X m)) underlying28 KP (CM H) AE AE O O ?_)
 intro af ah ae bf b8 ag
 have aj : T < af := by rw [ae]; exact Bx.lt (e4 E)
 replace E := E.below b8
 replace E := E.x ag
 refine ⟨E.2.2.2.2.2, ?_⟩
 refine yG ?_
 refine JM (o := ⟨some 71, _, _, _, _, _⟩) O O O O (CW VV O (vW _ _ _ _ ((c : Int) : Rat) _ [(((1 : Int) : Rat), m)] _ (e4 E) (e3 E) (dR E.1 (Bx.lt E.1) ⟨_, _, _, _, O, E.2.2.1, E.2.1, H⟩) (FitQ.mono a8 AE) (fun t ht => FitQ.mono (a4 t ht) AE) (show 1 ≤ 1000000 by decide)) O E ?_)
 intro G bj c5 ac E
 replace E := E.sz (Nat.le_refl G.heap.size)
 obtain ⟨ba, b9, rfl, aq, _⟩ := ac.shp
 replace E := E.r (e := JP) (S := DX ah.heap.size G.heap.size) ac (fun _ g => g.2)
 refine ⟨E.2.2.2.2.2.2.2, ?_⟩
 have a7 : af < G.heap.size := Bx.lt E.2.2.1
 have N : w.heap.size ≤ G.heap.size := (iU E).size
 refine yG ?_
 refine JM (o := ⟨some 72, _, _, _, _, _⟩) O O O O (CW MY O (dM _ p _ (RH ((c : Int) : Rat) [(((1 : Int) : Rat), m)]) _ (BW (e9 E)) (BW E.1) (hJ.fit AA AE) (oS (n := 1000000) a8 a4 AE) AA (Nat.le_trans (ZQ _ _ _) (show 1 ≤ 1000000 by decide))) O E ?_)
 intro I bi b7 ab E
 have bd := b7.size
 replace E := E.sz (Nat.le_refl I.heap.size)
 obtain ⟨a1, a0, rfl, ap, _⟩ := ab.shp
 replace E := E.r (e := JP) (S := DX G.heap.size I.heap.size) ab (fun _ g => g.2)
 refine ⟨E.2.2.2.2.2.2.2.2.2, ?_⟩
 refine yG ?_
 replace E := E.r (e := JP) (S := DX w.heap.size I.heap.size) (E.1.1.mono fun k F => ⟨Nat.le_trans N F.1, F.2⟩) (fun k F => Nat.lt_of_lt_of_le F.2 (CR E.2.1))
 exact ⟨_, (by rw [au]; omega), (k + 1), a1, a0, I.heap.size, (LD p (RH ((c : Int) : Rat) [(((1 : Int) : Rat), m)])), _, O, O, zE, O, ⟨by omega, by omega, by omega, yL hJ ay (mo_of D) (D.zer.mono AA) (by have := D.sum; omega)⟩⟩
end Go.Proofs.YtmppigbbkjepiaaGreatDoor
