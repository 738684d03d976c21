/- Helping facts of Raw; no other conditions. Helping facts of Made6; no other conditions. -/
import Derived.Test.YtmppigbbkjepiaaGreatDoorMadeP
import Derived.Deep.Slices
import Derived.OpenShut
set_option maxRecDepth 100000
namespace Go.Proofs.YtmppigbbkjepiaaGreatDoor
open Go.Proofs.Tryz
open Go.ChangeShapes Go.WideShapes Go.ChangeAt Go.RowKit Go.Joins W
variable {b0 fuel i j n : Nat} {c v : Value} {cs : List Value} {m : List Nat} {p : Prop} {t : TypeId} {x : List Int} {z : Int}
theorem Yi3 (h : p := by rw [underlying77]; rfl) : p := h
theorem Za9 (h : p := by
 refine yG ?_
 refine V O O (IX O O O) ?_
 refine yG ?_
 exact ⟨_, rfl, ⟨_, (hJ.mono AA), E.1.1.mono fun k H => ⟨H.1, E.1.2 k H⟩⟩, e5 E⟩
 ) : p := h
theorem Zur (h : p := by
 simp [Lit.wf, IntKind.min, IntKind.max, IntKind.signed, IntKind.bits] at h
 omega
 ) : p := h
def a5 (x : List Int) : List Value := x.map fun n => Value.int .i8 n
def elA : El (List Int) where
 sz := 5
 p := fun _ _ cs x => cs = a5 x /\ x.length = 5 /\ ∀ n ∈ x, -128 <= n /\ n <= 127
 keep := fun h _ => h
 mono := fun h _ => h
 len := fun ⟨h, h2, _⟩ => by subst h; unfold a5; rw [List.length_map, h2]
 one := fun ⟨h, _⟩ => by subst h; intro v hv; obtain ⟨n, _, rfl⟩ := List.mem_map.1 hv; rfl
 nw := fun ⟨h, _⟩ => by subst h; intro c hc k e; obtain ⟨n, _, rfl⟩ := List.mem_map.1 hc; cases e
def Rx : El (List (List Int)) where
 sz := 1
 p := fun S w cs x => ∃ v, cs = [v] /\ IsR elA S w v x
 keep := fun ⟨v, h1, h2⟩ hk => ⟨v, h1, h2.keep hk⟩
 mono := fun ⟨v, h1, h2⟩ hs => ⟨v, h1, h2.mono hs⟩
 len := fun ⟨v, h1, _⟩ => by subst h1; rfl
 one := fun ⟨v, h1, h2⟩ => by subst h1; intro u hu; rw [List.mem_singleton] at hu; subst hu; exact h2.one
 nw := fun ⟨v, h1, h2⟩ => by
  subst h1; intro c hc k e
  obtain ⟨ao, cap, rfl, _⟩ := h2
  subst e; simp at hc
def Ry : El Nat where
 sz := 1
 p := fun _ _ cs x => cs = [.int .u8 ((x : Nat) : Int)] /\ x < 256
 keep := fun h _ => h
 mono := fun h _ => h
 len := fun ⟨h, _⟩ => by subst h; rfl
 one := fun ⟨h, _⟩ => by subst h; intro v hv; rw [List.mem_singleton] at hv; subst hv; rfl
 nw := fun ⟨h, _⟩ => by subst h; intro c hc k e; rw [List.mem_singleton] at hc; subst hc; cases e
section
variable {H : Type} {enc : TypeId × Value -> H} {W : World}
theorem vH {P : Program} {e : TypeId} {x : DataW H × List MemPlace} {base : Nat} {spare : Nat -> Bool} {held : Bool} (ht : P.underlying t = some (.array n e)) (hc : P.cellsOf e = 1) (h : DataW.trod enc P W base spare held fuel t cs = some x) :
 cs.length = P.cellsOf t /\ ∃ m, ∀ i, i < n -> ∃ y, DataW.trod enc P W base spare held m e ((cs.drop i).take 1) = some y := by
 obtain ⟨f, m, _, _, k, o, l⟩ := DataW.trod_array ht h
 refine ⟨k, m, fun i h => ⟨f[i]'AA, ?_⟩⟩
 have := l i h
 rw [hc, Nat.mul_one] at this
 rw [this, List.getElem?_eq_getElem]
theorem nF {α : Type} (e : El α) {et : TypeId} {x : DataW H × List MemPlace} (ht : prog.underlying t = some (.slice et)) (hc : prog.cellsOf et = e.sz) (hp : 0 < e.sz)
 (hx : ∀ n cs y, DataW.trod enc prog W 0 (fun _ => true) true n et cs = some y -> ∃ a : α, e.p (CX W.heap.size) W cs a)
 (h : DataW.trod enc prog W 0 (fun _ => true) true fuel t [c] = some x) : ∃ l : List α, IsR e (CX W.heap.size) W c l := by
 rcases Go.Deep.open_slice ht h with ⟨J, _⟩ | ⟨a, len, S, m, n, D, Pl, J, _, P, R, hm, _, f⟩
 . simp only [List.cons.injEq, and_true] at J
   subst J
   exact ⟨[], IsR.nil _ _ _⟩
 simp only [List.cons.injEq, and_true] at J
 subst J
 simp only [if_true] at hm
 rw [hc] at f
 have G : ∀ i, i < len -> ∃ y : α, ∃ cs, W.cells? 0 (a.add (i * e.sz)) e.sz = some cs /\ e.p (CX W.heap.size) W cs y := fun i Y => by
  obtain ⟨cs, u, L⟩ := f i AA
  obtain ⟨y, C⟩ := hx _ _ _ L
  exact ⟨y, cs, u, C⟩
 have I : ∀ k, k <= len -> ∃ l : List α, l.length = k /\ ∀ i y, l[i]? = some y -> ∃ cs, W.cells? 0 (a.add (i * e.sz)) e.sz = some cs /\ e.p (CX W.heap.size) W cs y := by
  intro k
  induction k with
  | zero => intro _; exact ⟨[], rfl, fun i y h => by simp at h⟩
  | succ k ih =>
    intro hk
    obtain ⟨l, u, L⟩ := ih AA
    obtain ⟨y, C⟩ := G k AA
    refine ⟨l ++ [y], by simp [u], fun i z B => ?_⟩
    by_cases Y : i < l.length
    . rw [List.getElem?_append_left Y] at B; exact L i z B
    have Q : i = k := by
     have := (List.getElem?_eq_some_iff.1 B).1
     simp only [List.length_append, List.length_cons, List.length_nil] at this; omega
    subst Q
    rw [List.getElem?_append_right AA, u, Nat.sub_self] at B
    simp only [List.getElem?_cons_zero, Option.some.injEq] at B
    subst B; exact C
 obtain ⟨l, u, L⟩ := I len (Nat.le_refl _)
 refine ⟨l, some a, S, by rw [u], by rw [u]; exact P, R, fun i y C => ?_⟩
 obtain ⟨cs, g3, g4⟩ := L i y C
 have a0 : i < len := by have := (List.getElem?_eq_some_iff.1 C).1; omega
 obtain ⟨a1, z1, _⟩ := f 0 AA
 obtain ⟨_, zl, zc⟩ := World.cells?_some z1
 have h0 := zc 0 hp
 rw [Nat.zero_mul, Addr.add_zero', Addr.add_zero', List.getElem?_eq_getElem AA] at h0
 obtain ⟨hb, N⟩ := Fw h0
 obtain ⟨_, U, q⟩ := World.cells?_some g3
 obtain ⟨b, o, sp⟩ := a
 have F : sp = none := N
 subst F
 refine ⟨b, o, cs, O, hb, fun j v T => ?_, g4⟩
 have X := q j (by have := (List.getElem?_eq_some_iff.1 T).1; omega)
 rw [Go.Deep.add_add, Addr.add_lit] at X
 rw [Nat.add_assoc, X]; exact T
theorem i8_wf {n : Int} (h : (Lit.int .i8 n).wf = true) : -128 <= n /\ n <= 127 := by
 exact Zur
theorem Ky {n : Int} (h : (Lit.int .u8 n).wf = true) : 0 <= n /\ n < 256 := by
 exact Zur
theorem Wi {y : DataW H × List MemPlace} {S : Nat -> Prop} (h : DataW.trod enc prog W 0 (fun _ => true) true n 85 cs = some y) : ∃ a, elA.p S W cs a := by
 obtain ⟨C, m, B⟩ := vH (n := 5) underlying85 Z h
 have f : cs.length = 5 := C.trans Z
 have e : ∀ i, i < 5 -> ∃ k : Int, cs[i]? = some (.int .i8 k) /\ -128 <= k /\ k <= 127 := fun i e => by
  obtain ⟨y, z⟩ := B i e
  obtain ⟨k, F, _, D⟩ := DataW.trod_int underlying77 z
  exact ⟨k, cell_of_cut F, i8_wf D⟩
 match cs, f, e with
 | [c0, c1, c2, c3, c4], _, e =>
   obtain ⟨v, e0, N⟩ := e 0 AE
   obtain ⟨u, e1, L⟩ := e 1 AE
   obtain ⟨t, e2, J⟩ := e 2 AE
   obtain ⟨q, e3, I⟩ := e 3 AE
   obtain ⟨o, e4, G⟩ := e 4 AE
   simp only [List.getElem?_cons_zero, List.getElem?_cons_succ, Option.some.injEq] at e0 e1 e2 e3 e4
   subst e0 e1 e2 e3 e4
   refine ⟨[v, u, t, q, o], O, O, fun n l => ?_⟩
   simp only [List.mem_cons, List.not_mem_nil, or_false] at l
   rcases l with rfl | rfl | rfl | rfl | rfl <;> assumption
theorem Io {y : DataW H × List MemPlace} (h : DataW.trod enc prog W 0 (fun _ => true) true n 22 [c] = some y) : ∃ l, IsR elA (CX W.heap.size) W c l :=
 nF elA underlying22 Z AE (fun _ _ _ h => Wi h) h
theorem Cu {y : DataW H × List MemPlace} (h : DataW.trod enc prog W 0 (fun _ => true) true n 42 [c] = some y) : ∃ l, IsR Ry (CX W.heap.size) W c l :=
 nF Ry underlying42 Z AE (fun _ _ _ h => by
  obtain ⟨k, rfl, _, h3⟩ := DataW.trod_int underlying5 h
  obtain ⟨h4, h5⟩ := Ky h3
  exact ⟨k.toNat, by rw [Int.toNat_of_nonneg h4], by omega⟩) h
theorem TG {y : DataW H × List MemPlace} (h : DataW.trod enc prog W 0 (fun _ => true) true n 24 cs = some y) : ∃ c, cs = [c] /\ ∃ l, IsR elA (CX W.heap.size) W c l := by
 obtain ⟨p, m, _, _, q, e, k⟩ := DataW.trod_struct underlying24 h
 have f : cs.length = 1 := q.trans Z
 match cs, f, p, e, k with
 | [c], _, [x0], _, k =>
   have o := k 0 _ rfl
   simp only [List.getElem?_cons_zero] at o
   exact ⟨c, rfl, Io o⟩
theorem It {y : DataW H × List MemPlace} (h : DataW.trod enc prog W 0 (fun _ => true) true n 41 [c] = some y) : ∃ l, IsR Rx (CX W.heap.size) W c l :=
 nF Rx underlying41 Z AE (fun _ _ _ h => by
  obtain ⟨c, rfl, l, hl⟩ := TG h
  exact ⟨l, c, rfl, hl⟩) h
theorem iY {n : Nat} {y : DataW H × List MemPlace} (h : DataW.trod enc prog W 0 (fun _ => true) true n 44 cs = some y) :
 ∃ (n : Nat) (cl cg : Value), cs = [.int .u8 ↑n, cl, cg] /\ n < 256 /\ ∃ rl, IsR Rx (CX W.heap.size) W cl rl /\ ∃ rg, IsR Ry (CX W.heap.size) W cg rg := by
 obtain ⟨z, m, _, _, B, l, f⟩ := DataW.trod_struct underlying44 h
 have q : cs.length = 3 := B.trans Z
 match cs, q, z, l, f with
 | [c0, c1, c2], _, [x0, x1, x2], _, f =>
   have v := f 0 _ rfl
   have u := f 1 _ rfl
   have t := f 2 _ rfl
   simp only [List.getElem?_cons_zero, List.getElem?_cons_succ] at v u t
   obtain ⟨k, e, _, D⟩ := DataW.trod_int underlying5 v
   obtain ⟨C, F⟩ := Ky D
   obtain ⟨rl, o⟩ := It u
   obtain ⟨rg, p⟩ := Cu t
   obtain rfl : c0 = .int .u8 k := by injection e
   exact ⟨k.toNat, c1, c2, by rw [Int.toNat_of_nonneg C], by omega, rl, o, rg, p⟩
theorem Gg {cs : Array Value} {l : List Value} (h : (Value.agg cs).cells.toList = l) : cs = l.toArray := by
 subst h; simp [Value.cells]
theorem open_raw6 {r : Reach} {d : DataW H} {p : List MemPlace} (hv : Value.okWide prog W r b0 24 v) (h : DataW.Trod enc prog W 0 (fun _ => true) true 24 v d p) :
 ∃ c, v = .agg #[c] /\ ∃ l, IsR elA (CX W.heap.size) W c l := by
 obtain ⟨cs, rfl, _⟩ := okWide_struct underlying24 hv
 obtain ⟨e, f⟩ := h
 obtain ⟨c, o, k⟩ := TG f
 exact ⟨c, by rw [Gg o], k⟩
theorem Zd {r : Reach} {d : DataW H} {p : List MemPlace} (hv : Value.okWide prog W r b0 44 v) (h : DataW.Trod enc prog W 0 (fun _ => true) true 44 v d p) :
 ∃ (n : Nat) (cl cg : Value), v = .agg #[.int .u8 ↑n, cl, cg] /\ n < 256 /\ ∃ rl, IsR Rx (CX W.heap.size) W cl rl /\ ∃ rg, IsR Ry (CX W.heap.size) W cg rg := by
 obtain ⟨cs, rfl, _⟩ := okWide_struct underlying44 hv
 obtain ⟨e, f⟩ := h
 obtain ⟨n, cl, cg, l, k⟩ := iY f
 exact ⟨n, cl, cg, by rw [Gg l], k⟩
theorem Zc {r : Reach} {d : DataW H} {p : List MemPlace} (_hv : Value.okWide prog W r b0 25 v) (h : DataW.Trod enc prog W 0 (fun _ => true) true 25 v d p) :
 ∃ ca cb, v = .agg #[ca, cb] /\ ∃ ra, IsR elA (CX W.heap.size) W ca ra /\ ∃ rb, IsR elA (CX W.heap.size) W cb rb := by
 obtain ⟨o, y⟩ := h
 obtain ⟨u, m, k⟩ := vH (n := 2) underlying25 Z y
 have e : v.cells.toList.length = 2 := u.trans Z
 obtain ⟨cs, rfl⟩ : ∃ cs, v = .agg cs := by
  cases v <;> first | exact ⟨_, rfl⟩ | (exfalso; simp [Value.cells] at e)
 have f : cs.toList = (Value.agg cs).cells.toList := by simp [Value.cells]
 obtain ⟨J, B⟩ := k 0 AE
 obtain ⟨I, z⟩ := k 1 AE
 obtain ⟨G, e0, t, D⟩ := TG B
 obtain ⟨F, e1, q, C⟩ := TG z
 refine ⟨G, F, ?_, t, D, q, C⟩
 generalize (Value.agg cs).cells.toList = l at *
 match l, e with
 | [x0, x1], _ =>
   simp only [List.drop_zero, List.drop_succ_cons, List.take_succ_cons, List.take_zero, List.cons.injEq, and_true] at e0 e1
   subst e0 e1
   congr 1
   apply Array.toList_inj.1; exact f
theorem wR {r : Reach} {d : DataW H} {p : List MemPlace} (hv : Value.okWide prog W r b0 56 v) (h : DataW.Trod enc prog W 0 (fun _ => true) true 56 v d p) :
 ∃ (c : Value) (n : Nat) (cl cg : Value), v = .agg #[c, .int .u8 ↑n, cl, cg] /\ ∃ r, IsR elA (CX W.heap.size) W c r /\ n < 256 /\ ∃ rl, IsR Rx (CX W.heap.size) W cl rl /\ ∃ rg, IsR Ry (CX W.heap.size) W cg rg := by
 obtain ⟨cs, rfl, _⟩ := okWide_struct underlying56 hv
 obtain ⟨z, G⟩ := h
 obtain ⟨B, m, _, _, F, f, e⟩ := DataW.trod_struct underlying56 G
 have q : (Value.agg cs).cells.toList.length = 4 := F.trans Z
 have t : cs.toList = (Value.agg cs).cells.toList := by simp [Value.cells]
 generalize (Value.agg cs).cells.toList = L at *
 match L, q, B, f, e with
 | [c0, c1, c2, c3], _, [x0, x1], _, e =>
   have y := e 0 _ rfl
   have u := e 1 _ rfl
   simp only [List.getElem?_cons_zero, List.getElem?_cons_succ] at y u
   obtain ⟨c, e0, C, o⟩ := TG y
   obtain ⟨n, cl, cg, e1, D, rl, k, rg, l⟩ := iY u
   obtain rfl : c0 = c := by injection e0
   obtain ⟨rfl, rfl, rfl⟩ : c1 = .int .u8 ↑n /\ c2 = cl /\ c3 = cg := by
    injection e1 with a b
    injection b with b c
    injection c with c _
    exact ⟨a, b, c⟩
   exact ⟨c0, n, c2, c3, by congr 1; apply Array.toList_inj.1; exact t, C, o, D, rl, k, rg, l⟩
theorem nat_of_u8 {a : Int} (h : (Lit.int .u8 a).wf = true) : ∃ n : Nat, a = (n : Int) /\ n < 256 := by
 obtain ⟨f, e⟩ := Ky h
 exact ⟨a.toNat, by omega, by omega⟩
end
set_option maxHeartbeats 8000000
set_option maxRecDepth 100000
theorem rG (w : World) : (isAgg 77).run prog w = .ok false w := by simp [go_sem]
theorem Xr : Ag prog 24 1 [.slice none 0 0] := ⟨⟨_, underlying24, rfl⟩, by kernel_rfl, rfl⟩
theorem a5_at (h : x[j]? = some z) : (a5 x)[j]? = some (.int .i8 z) := by simp [a5, h]
theorem Qx {x : List Int} (h : x.length = 5 /\ ∀ n ∈ x, -128 <= n /\ n <= 127) (hj : j < 5) : ∃ z, x[j]? = some z /\ -128 <= z /\ z <= 127 := ⟨_, List.getElem?_eq_getElem AA, h.2 _ (List.getElem_mem _)⟩
theorem Gq {w : World} {b o : Nat} (hc : (fC b o (a5 x)).p w) (h : x[j]? = some z) : w.cell? ⟨b, o + j * 1, none⟩ = some (.int .i8 z) := by rw [Nat.mul_one]; exact hc.1 j _ (a5_at h)
theorem Ua (m : List Nat) (i v : Nat) : (GK m).set (0 + i * 1) (.int .i64 ↑v) = GK (m.set i v) := by
 rw [Nat.zero_add, Nat.mul_one]; unfold GK; rw [List.map_set]
theorem Ub (h : EG m) {v : Nat} (hi : i < 8) : (GK (m.set i v))[0 + i * 1]? = some (.int .i64 ↑v) := by
 rw [Nat.zero_add, Nat.mul_one]; unfold GK; rw [List.getElem?_map, List.getElem?_set_self (by rw [h.1]; exact hi)]; rfl
def NewMd (n d k : Nat) (w0 w' : World) (v : Value) : Prop := ∃ p, MadeOk n d k p /\ NewP w0 p w' v
theorem rem4 (z : Int) : (z.tmod 4).natAbs <= 3 := by
 have := Int.natAbs_tmod z 4
 have h : z.natAbs % (4 : Int).natAbs < 4 := Nat.mod_lt _ AE
 omega
theorem mo_of {d left : Nat} (h : RowM d i left m) : EG m := h.ok
theorem within.mono (h : within i m) (hij : i <= j) : within j m := fun k hk => h k (Nat.le_trans hij hk)
theorem abs_q (n : Int) (w : World) (h1 : -128 <= n) (h2 : n <= 127) :
 Calls prog 34 #[.int .i8 n] w (FI w (.int .i64 ↑n.natAbs)) := by
 have E := Env.start w
 go_enter func34, ntmps34
 by_cases e : n < 0
 case neg =>
  refine yG ?_
  refine V (v := .int .i64 n) O O (DR O O Yi3 underlying3 (HI AA)) ?_
  refine yG ?_
  exact ⟨(by rw [show n = ((n.natAbs : Nat) : Int) by omega]; rfl), E.1⟩
 refine yG ?_
 refine V (v := .int .i64 n) O O (DR O O Yi3 underlying3 (HI AA)) ?_
 refine V (v := .int .i64 (-n)) O O (Mk O O (HI AA)) ?_
 refine yG ?_
 exact ⟨(by rw [show -n = ((n.natAbs : Nat) : Int) by omega]), E.1⟩
theorem Gx (vl : Value) (l : List (List Int)) (n : Nat) (d : Nat) (tm : Nat) (w : World) (hRl : IsR elA (CX w.heap.size) w vl l) (hn : n <= 4) (hd : d <= 12) (ht : tm <= 6) :
 Calls prog 11 #[.agg #[vl], .int .i64 ↑n, .int .i64 ↑d, .int .i64 ↑tm] w (uN w (NewMd n d tm w)) := by
 have E := Env.start w
 obtain ⟨B, u, rfl, cd, c5⟩ := hRl.shp
 replace E := E.r hRl (DF _)
 go_enter func11, ntmps11
 refine yG ?_
 refine EF O (CI (cs := [.slice B l.length u]) O O ?_)
 intro N w1 bf z1 d1 x1
 have l1 : w.heap.size <= N := by rw [bf]; exact E.2.1.size
 replace E := E.below d1
 replace E := E.x x1
 refine yG ?_
 refine EF O (PS iN O ?_)
 intro L w2 bd z2 d2 x2
 have bm : N < L := by rw [bd]; exact Bx.lt E.1
 replace E := E.below d2
 replace E := E.x x2
 obtain ⟨z0, I⟩ : ∃ z, z = w2.heap.size := ⟨_, rfl⟩
 have c3 : w.heap.size <= z0 := by rw [I]; exact (e3 E).size
 have bo : L < z0 := by rw [I]; exact Bx.lt E.1
 have bn : N < z0 := by rw [I]; exact Bx.lt E.2.1
 replace E := (E.sz (Nat.le_of_eq I)).r (e := JL) (S := EY w.heap.size z0) (v := .slice (some ⟨L, 0, none⟩) 0 0) (l := []) IsR.lit0 (fun k H => by rw [<- I]; exact H.2)
 refine yG ?_
 refine wp_loop_ghost (fun mz a w' => ∃ (k : Nat) (ao : Option Addr) (cp : Nat) (z : Nat) (p : List Tm) (f : List Value), f = a.tmps.toList /\ a = ⟨(.agg #[.slice B l.length u] :: .int .i64 ↑n :: .int .i64 ↑d :: .int .i64 ↑tm :: .pointer (some ⟨N, 0, none⟩) :: undef :: undef :: undef :: .slice none 0 0 :: .slice ao p.length cp :: .int .i64 ↑k :: gr f 11 3 (.slice (some ⟨L, 0, none⟩) 0 0 :: gr f 15 58 (undef :: []))).toArray, []⟩ /\ Env w' [fR JL (EY w.heap.size z) (.slice ao p.length cp) p, rO z, fX L (88) ([]), fX N (24) ([.slice B l.length u]), fR elA (CX w.heap.size) (.slice B l.length u) l, fW w] /\ mz = tm - k /\ (k <= tm /\ k <= l.length /\ w.heap.size <= z /\ MadeOk n d k p)) (tm) ⟨0, (some ⟨L, 0, none⟩), 0, z0, [], _, O, O, zE, O, ⟨Nat.zero_le _, Nat.zero_le _, by omega, Bz n d⟩⟩ ?_
 rintro m3 _ w3 ⟨k, ao, cp, z, p, f, -, rfl, E, b5, bc⟩
 dsimp only [gr, Nat.reduceAdd]
 obtain ⟨c9, c8, hz, hJ⟩ := bc
 have c4 := hJ.len
 by_cases b7 : k < l.length
 case neg =>
  exact Za9
 by_cases c7 : k < tm
 case neg =>
  exact Za9
 obtain ⟨xA, X⟩ : ∃ x, l[k]? = some x := ⟨_, List.getElem?_eq_getElem b7⟩
 obtain ⟨y, D, _, ai, aj, ba, ⟨rfl, a8⟩⟩ := IsR.at (e4 E).1 X
 have b6 : y < _ := (e4 E).2 _ aj
 have cg : y < w.heap.size := aj
 replace E := E.c ba b6
 refine yG ?_
 refine V O O (IX O O O) ?_
 refine yG ?_
 refine EF O (CB QN O ?_)
 intro Q w4 am z4 d4 x4
 have bl : L < Q := by rw [am]; exact Bx.lt (e3 E)
 have aq : z <= Q := by rw [am]; exact CR E.2.2.1
 replace E := E.below d4
 refine yG ?_
 refine EF O (BY QN O O O x4 (by first | rfl | exact DC tG) (DC DH) (tI _) ?_)
 intro w5 o5 y5
 replace E := (E.onl (x4.noW (dT (m := [0, 0, 0, 0, 0, 0, 0, 0]))) zK o5).x y5
 refine yG ?_
 refine wp_loop_ghost (fun mz a w' => ∃ (i : Nat) (q : Nat) (m : List Nat) (h : List Value), a = ⟨#[.agg #[.slice B l.length u], .int .i64 ↑n, .int .i64 ↑d, .int .i64 ↑tm, .pointer (some ⟨N, 0, none⟩), undef, undef, undef, .slice none 0 0, .slice ao p.length cp, .int .i64 ↑k, .pointer (some ⟨Q, 0, none⟩), .int .i64 ↑q, .int .i64 ↑i, .slice (some ⟨L, 0, none⟩) 0 0, .int .i64 ↑k, .pointer (some ⟨N, 0, none⟩), .slice B l.length u, .int .i64 ↑l.length, .bool true, .bool true, .int .i64 ↑k, .int .i64 ↑tm, .bool true, .bool true, CF f 25, CF f 26, .agg (GK zeroM).toArray, .int .i64 ↑d, CF h 0, CF h 1, CF h 2, CF h 3, CF h 4, CF h 5, CF h 6, CF h 7, CF h 8, CF h 9, CF h 10, CF h 11, CF h 12, CF h 13, CF h 14, CF h 15, CF h 16, CF h 17, CF h 18, CF h 19, CF h 20, CF h 21, CF h 22, CF h 23, CF h 24, CF h 25, CF h 26, CF h 27, CF f 57, CF f 58, CF f 59, CF f 60, CF f 61, CF f 62, CF f 63, CF f 64, CF f 65, CF f 66, CF f 67, CF f 68, CF f 69, CF f 70, CF f 71, CF f 72, undef], []⟩ /\ Env w' [fX Q (67) (GK m), fC y (D + k * 5) (a5 xA), fR JL (EY w.heap.size z) (.slice ao p.length cp) p, rO z, fX L (88) ([]), fX N (24) ([.slice B l.length u]), fR elA (CX w.heap.size) (.slice B l.length u) l, fW w] /\ mz = 4 - i /\ (i <= 4 /\ i <= n /\ RowM d i q m)) (4) ⟨0, d, zeroM, [CF f 29, CF f 30, CF f 31, CF f 32, CF f 33, CF f 34, CF f 35, CF f 36, CF f 37, CF f 38, CF f 39, CF f 40, CF f 41, CF f 42, CF f 43, CF f 44, CF f 45, CF f 46, CF f 47, CF f 48, CF f 49, CF f 50, CF f 51, CF f 52, CF f 53, CF f 54, CF f 55, CF f 56], O, zE, O, ⟨Nat.zero_le _, Nat.zero_le _, Ip d⟩⟩ ?_
 rintro m6 _ w6 ⟨i, q, m, h, rfl, E, b3, bb⟩
 obtain ⟨cc, cb, G⟩ := bb
 have J := G.ok
 have c6 : q <= d := by have := G.sum; omega
 by_cases ca : i < n
 case pos =>
  obtain ⟨zz, au, ax, aw⟩ := Qx a8 (show 1 + i < 5 by omega)
  obtain ⟨v, hv⟩ : ∃ v, v = zz.natAbs % (q + 1) := ⟨_, rfl⟩
  have ay : v <= q := by rw [hv]; have := Nat.mod_lt zz.natAbs (show 0 < q + 1 by omega); omega
  refine yG ?_
  refine V O O (IX O O O) ?_
  refine yG ?_
  refine V (v := .int .i64 ((1 + i : Nat) : Int)) O O (IY O O O (JP (by omega) (by omega))) ?_
  refine V (v := .pointer (some ⟨y, D + k * 5, none⟩)) O O (MG (i := k) O underlying22 Z O ai O O (List.getElem?_eq_some_iff.1 X).1) ?_
  refine V (v := .pointer (some ⟨y, D + k * 5 + (1 + i) * 1, none⟩)) O O (EA (j := (1 + i)) O underlying85 Z O O O AA) ?_
  refine yG ?_
  refine V O O (FX O rG O (Gq E.2.1 au)) ?_
  refine yG ?_
  refine EF O (BZ pG O (abs_q zz _ ax aw) O E ?_)
  intro w7 d7 E
  refine yG ?_
  refine V (v := .int .i64 ↑v) O O (EC O O O AA (by rw [hv]; exact KE _ _)) ?_
  have x9 := E.1
  refine yG ?_
  replace E := VI E
  refine yG ?_
  refine EF O (XI (v := .int .i64 ↑v) O vQ O O O O x9 (by rw [DC J]; omega) ?_)
  intro w8 o8 y8
  rw [Ua] at y8
  replace E := (E.onl (x9.noW (dT _)) zK o8).x y8
  refine yG ?_
  refine V O O (CP O CW O E.1 (Ub J AA)) ?_
  refine yG ?_
  refine V (v := .int .i64 ↑(q - v)) O O (GN O O O (JP AA AA)) ?_
  refine yG ?_
  exact ⟨_, (by rw [b3]; omega), (i + 1), (q - v), (m.set i v), [.int .i64 ↑i, .int .i64 ↑n, .bool true, .bool true, .int .i64 ↑i, .bool true, .bool true, .int .i64 ↑i, .int .i64 ↑(i + 1), .int .i64 ↑i, .pointer (some ⟨N, 0, none⟩), .slice B l.length u, .int .i64 ↑k, .int .i64 ↑i, .int .i64 ↑(1 + i), .pointer (some ⟨y, D + k * 5, none⟩), .pointer (some ⟨y, D + k * 5 + (1 + i) * 1, none⟩), .int .i8 zz, .int .i64 ↑zz.natAbs, .int .i64 ↑q, .int .i64 ↑(q + 1), .int .i64 ↑v, .pointer (some ⟨Q, 0 + i * 1, none⟩), .int .i64 ↑q, .int .i64 ↑i, .pointer (some ⟨Q, 0 + i * 1, none⟩), .int .i64 ↑v, .int .i64 ↑(q - v)], O, zE, O, ⟨by omega, by omega, G.step AA ay AA⟩⟩
 obtain ⟨cz, b8, cf, ce⟩ := Qx a8 (show 0 < 5 by decide)
 obtain ⟨c, hc⟩ : ∃ c, c = cz.tmod 4 := ⟨_, rfl⟩
 have b9 : c.natAbs <= 3 := by rw [hc]; exact rem4 cz
 have a7 : ∀ t ∈ [(((1 : Int) : Rat), m)], FitQ t.1 4 := fun t ht => by rw [List.mem_singleton] at ht; subst ht; exact dR
 have ah : FitQ ((c : Int) : Rat) 4 := IA (k := 4) AE (DY AA AA)
 refine yG ?_
 refine sE E [0,1,2,3,4,5,6,7,8,11,9,10,12,13,14,15,16] ?_
 replace E := E.drew
 refine yG ?_
 refine SW O O O O O (fun w Y => IX O O O) ?_
 refine yG ?_
 refine SW (v := .pointer (some ⟨y, D + k * 5, none⟩)) O O O O O (fun w Y => MG (i := k) O underlying22 Z O ai O O (List.getElem?_eq_some_iff.1 X).1) ?_
 refine SW (v := .pointer (some ⟨y, D + k * 5 + 0 * 1, none⟩)) O O O O O (fun w Y => EA (j := 0) O underlying85 Z O O O AA) ?_
 refine SW O O O O O (fun w Y => FX O rG O (Gq (Y.2.1) b8)) ?_
 refine SW (v := .int .i8 c) O O O O O (fun w Y => EC O O O AE hc.symm) ?_
 refine yG ?_
 refine SW (v := .int .i64 c) O O O O O (fun w Y => DR O O Yi3 underlying2 (HI AA)) ?_
 refine yG ?_
 refine GZ (o := ⟨some 66, _, _, _, _, _⟩) O O O O (CV EN O (LJ c _ AA AA) O E ?_)
 intro bu c1 c0 c2 bx ci E
 refine ⟨E.2.2, ?_⟩
 refine yG ?_
 refine GZ (o := ⟨some 67, _, _, _, _, _⟩) O O O O (CV EN O (LJ 1 _ AE AE) O E ?_)
 intro bt a4 a1 a6 a0 ch E
 refine ⟨E.2.2.2.2, ?_⟩
 have cj : FitQ ((1 : Int) : Rat) 4 := IA (k := 4) AE (DY AE AE)
 refine yG ?_
 refine SW (v := .agg (IJ a4 a1 a6 a0 m).toArray) O O O O O (fun w Y => bK O O O J) ?_
 refine yG ?_
 refine GZ (o := ⟨some 70, _, _, _, _, _⟩) O O O O (DZ (cs := (IJ a4 a1 a6 a0 m)) underlying28 KL (CM J) AE AE O O ?_)
 intro R F T br bi ap
 have ar : Q < R := by rw [T]; exact Bx.lt (e4 E)
 have an : z <= R := by rw [T]; exact CR (e7 E)
 replace E := E.below bi
 replace E := E.x ap
 refine ⟨E.2.2.2.2.2, ?_⟩
 have ag : R < F.heap.size := Bx.lt E.1
 have af : Q < F.heap.size := Bx.lt (e5 E)
 have ae : L < F.heap.size := Bx.lt (e9 E)
 have ad : N < F.heap.size := Bx.lt (RA E)
 have av : w.heap.size <= F.heap.size := (UH E).size
 refine yG ?_
 refine GZ (o := ⟨some 71, _, _, _, _, _⟩) O O O O (CZ XD O (yW _ _ _ _ ((c : Int) : Rat) _ [(((1 : Int) : Rat), m)] _ (e4 E) (e3 E) (gL E.1 (Bx.lt E.1) ⟨_, _, _, _, O, E.2.2.1, E.2.1, J⟩) (FitQ.mono ah AE) (fun t ht => FitQ.mono (a7 t ht) AE) (show 1 <= 1000000 by decide)) O E ?_)
 intro C bw bh al E
 have bq := bh.size
 replace E := E.sz (Nat.le_refl C.heap.size)
 obtain ⟨bk, bj, rfl, b0, _⟩ := al.shp
 replace E := E.r (e := JL) (S := EY F.heap.size C.heap.size) al (fun _ g => g.2)
 refine ⟨E.2.2.2.2.2.2.2, ?_⟩
 have ac : R < C.heap.size := Bx.lt E.2.2.1
 have ab : Q < C.heap.size := Bx.lt (e7 E)
 have aa : L < C.heap.size := Bx.lt (RJ E)
 have a9 : N < C.heap.size := Bx.lt (UH E)
 have U : w.heap.size <= C.heap.size := (iI E).size
 refine yG ?_
 refine GZ (o := ⟨some 72, _, _, _, _, _⟩) O O O O (CZ LN O (aM _ p _ (SX ((c : Int) : Rat) [(((1 : Int) : Rat), m)]) _ (BW (e9 E)) (BW E.1) (hJ.fit AA AE) (iG (n := 1000000) ah a7 AE) AA (Nat.le_trans (VR _ _ _) (show 1 <= 1000000 by decide))) O E ?_)
 intro P bv bg ak E
 have bp := bg.size
 replace E := E.sz (Nat.le_refl P.heap.size)
 obtain ⟨a3, a2, rfl, az, _⟩ := ak.shp
 replace E := E.r (e := JL) (S := EY C.heap.size P.heap.size) ak (fun _ g => g.2)
 refine ⟨E.2.2.2.2.2.2.2.2.2, ?_⟩
 refine yG ?_
 replace E := E.r (e := JL) (S := EY w.heap.size P.heap.size) (E.1.1.mono fun k H => ⟨Nat.le_trans U H.1, H.2⟩) (fun k H => Nat.lt_of_lt_of_le H.2 (CR E.2.1))
 exact ⟨_, (by rw [b5]; omega), (k + 1), a3, a2, P.heap.size, (KZ p (SX ((c : Int) : Rat) [(((1 : Int) : Rat), m)])), _, O, O, zE, O, ⟨by omega, by omega, by omega, Ca hJ b9 (mo_of G) (G.zer.mono AA) (by have := G.sum; omega)⟩⟩
end Go.Proofs.YtmppigbbkjepiaaGreatDoor
