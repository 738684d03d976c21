/- Helping facts of KitA; no other conditions. Helping facts of TxtM; no other conditions. Helping facts of TxtL; no other conditions. -/
import Derived.Lib.ConvBytes
import Derived.Test.YtmppigbbkjepiaaGreatDoorFnsS
namespace Go.Proofs.YtmppigbbkjepiaaGreatDoor
open Go.Proofs.Tryz
open Go.RowKit W
variable {G : Value -> Prop} {J : Int} {P : Program} {T b base cap e i j len n off size sz : Nat} {cs xs : List Value} {kk : IntKind} {l : List SF} {s : ByteArray} {src : TypeId} {v : Value} {w w' : World}
theorem YaG {p : Prop} (h : p := by rw [Nat.pow_succ] at h; exact Nat.div_lt_of_lt_mul (by rw [Nat.mul_comm]; exact h)) : p := h
section
variable {ρ : Operand -> Value} {o : Oper} {w : World} {P : Program} {k : IntKind} {t t' : TypeId} {x y : Operand} {m n c : Int}
theorem IY (ho : o.op = .binOp .add t x y t') (hx : ρ x = .int k m) (hy : ρ y = .int k n) (hc : k.wrap (m + n) = c) : (execOp ρ o).run P w = .ok (.value (.int k c)) w := by
 unfold execOp; rw [ho]; simp only [hx, hy, eqGuard_at_int, binOp_add, Op.intArith, hc]; rfl
theorem GN (ho : o.op = .binOp .sub t x y t') (hx : ρ x = .int k m) (hy : ρ y = .int k n) (hc : k.wrap (m - n) = c) : (execOp ρ o).run P w = .ok (.value (.int k c)) w := by
 unfold execOp; rw [ho]; simp only [hx, hy, eqGuard_at_int, binOp_sub, Op.intArith, hc]; rfl
theorem YF (ho : o.op = .binOp .mul t x y t') (hx : ρ x = .int k m) (hy : ρ y = .int k n) (hc : k.wrap (m * n) = c) : (execOp ρ o).run P w = .ok (.value (.int k c)) w := by
 unfold execOp; rw [ho]; simp only [hx, hy, eqGuard_at_int, binOp_mul, Op.intArith, hc]; rfl
theorem vV (ho : o.op = .binOp .quo t x y t') (hx : ρ x = .int k m) (hy : ρ y = .int k n) (hn : n ≠ 0) (hc : k.wrap (m.tdiv n) = c) : (execOp ρ o).run P w = .ok (.value (.int k c)) w := by
 unfold execOp; rw [ho]; simp only [hx, hy, eqGuard_at_int, binOp_quo, Op.intDiv, if_neg hn, hc]; rfl
theorem EC (ho : o.op = .binOp .rem t x y t') (hx : ρ x = .int k m) (hy : ρ y = .int k n) (hn : n ≠ 0) (hc : m.tmod n = c) : (execOp ρ o).run P w = .ok (.value (.int k c)) w := by
 unfold execOp; rw [ho]; simp only [hx, hy, eqGuard_at_int, binOp_rem, Op.intDiv, if_neg hn, hc]; rfl
theorem Mk (ho : o.op = .unOp .neg t x) (hx : ρ x = .int k m) (hc : k.wrap (-m) = c) : (execOp ρ o).run P w = .ok (.value (.int k c)) w := by
 unfold execOp; rw [ho]; simp [hx, Op.unary, Op.intArith, hc]
theorem DR {dst : TypeId} {d : IntKind} (ho : o.op = .convert src dst x) (hx : ρ x = .int k m) (hs : (P.underlying src).isSome = true) (hd : P.underlying dst = some (.int d)) (hc : d.wrap m = c) : (execOp ρ o).run P w = .ok (.value (.int d c)) w := by
 have e : P.intKind dst = d := by unfold Program.intKind; rw [hd]
 have := run_convert_int (P := P) w src dst k m hs (by rw [hd, e])
 rw [e, hc] at this
 unfold execOp; rw [ho]
 simp [hx, this]
theorem VY (ho : o.op = .indexAddr T x y) (hT : P.underlying T = some (.slice e)) (hs : (P.info? e).map (·.size) = some sz)
 (hx : ρ x = .slice (some ⟨b, off, none⟩) len cap) (hy : ρ y = .int kk J) (hJ : J = (j : Int)) (hj : j < len) : (execOp ρ o).run P w = .ok (.value (.pointer (some ⟨b, off + j * sz, none⟩))) w := by
 subst hJ
 unfold execOp; rw [ho]
 cases f : P.info? e with
 | none => simp [f] at hs
 | some i =>
   simp [f] at hs
   simp [hx, hy, Instr.indexAt, asIntOf, run_underlying hT, sizeOf, typeInfo, f, hs, hj, Addr.add_lit]
theorem EA (ho : o.op = .indexAddr T x y) (hT : P.underlying T = some (.array len e)) (hs : (P.info? e).map (·.size) = some sz)
 (hx : ρ x = .pointer (some ⟨b, off, none⟩)) (hy : ρ y = .int kk J) (hJ : J = (j : Int)) (hj : j < len) : (execOp ρ o).run P w = .ok (.value (.pointer (some ⟨b, off + j * sz, none⟩))) w := by
 subst hJ
 unfold execOp; rw [ho]
 cases f : P.info? e with
 | none => simp [f] at hs
 | some i =>
   simp [f] at hs
   simp [hx, hy, Instr.indexAt, Instr.sureAddr, asIntOf, run_underlying hT, sizeOf, typeInfo, f, hs, hj, Addr.add_lit]
theorem FX {T : TypeId} (ho : o.op = .load T x) (hT : ∀ w, (isAgg T).run P w = .ok false w) (hx : ρ x = .pointer (some ⟨b, i, none⟩)) (hc : w.cell? ⟨b, i, none⟩ = some v) :
 (execOp ρ o).run P w = .ok (.value v) w := by
 unfold execOp; rw [ho]
 simp [hx, Instr.loadAt, Instr.sureAddr, loadVar, hT, hc]
theorem IC {T : TypeId} {b : UInt8} (ho : o.op = .index T x y) (hT : P.underlying T = some .string) (hx : ρ x = .string s) (hy : ρ y = .int kk J) (hJ : J = (j : Int)) (hb : s[j]? = some b) :
 (execOp ρ o).run P w = .ok (.value (.int .u8 b.toNat)) w := by
 subst hJ
 unfold execOp; rw [ho]
 simp [hx, hy, Instr.index, asIntOf, run_underlying hT, hb]
theorem vY (ho : o.op = .call { callee := .builtin .len, args := #[x], argTypes := #[9] }) (hx : ρ x = .string s) : (execOp ρ o).run prog w = .ok (.value (.int .i64 (s.size : Nat))) w := by
 unfold execOp; rw [ho]; simp [hx, go_sem]
theorem SZ {T : TypeId} (ho : o.op = .slice T x (some y) none none) (hT : P.underlying T = some .string) (hx : ρ x = .string s) (hy : ρ y = .int kk J) (hJ : J = (j : Int)) (hj : j <= s.size) :
 (execOp ρ o).run P w = .ok (.value (.string (s.extract j s.size))) w := by
 subst hJ
 unfold execOp; rw [ho]
 simp [hx, hy, Instr.sliceAt, Instr.slice, run_underlying hT, Instr.sliceBounds, Instr.sliceBound, asIntOf, hj]
theorem sL {e : TypeId} {xs : List Int} (ho : o.op = .convert src t x) (hs : P.underlying src = some (.slice e)) (he : P.underlying e = some (.int .u8)) (ht : P.underlying t = some .string)
 (hx : ρ x = .slice (some ⟨b, off, none⟩) len cap) (hlen : xs.length = len) (hc : ∀ i, i < len -> w.cell? ⟨b, off + i, none⟩ = some (.int .u8 (xs.getD i 0))) :
 (execOp ρ o).run P w = .ok (.value (.string (strOfNums xs))) w := by
 unfold execOp; rw [ho]
 have := run_convert_bytes_arg (P := P) (w := w) src e hs he b off len cap xs hlen hc t ht
 simp [hx, this]
theorem TY {a b : ByteArray} (ho : o.op = .binOp .add t x y t') (hx : ρ x = .string a) (hy : ρ y = .string b) (hs : a.size + b.size <= 9223372036854775807) : (execOp ρ o).run P w = .ok (.value (.string (a ++ b))) w := by
 unfold execOp; rw [ho]
 have := run_string_add_sum (P := P) w a b hs
 simp [hx, hy, eqGuard_at_string, binOp, this]
end
def RowG (w : World) (base e size : Nat) (G : Value -> Prop) (v : Value) (n : Nat) (xs : List Value) : Prop :=
 xs.length = n * size /\ ((v = .slice none 0 0 /\ n = 0) ∨
  ∃ g cap cur, v = .slice (some ⟨g, 0, none⟩) n cap /\ base <= g /\ w.heap[g]? = some (.cells cur e (0, 0)) /\ n <= cap /\ cap <= maxLen /\ cur.size = cap * size /\ cur.toList.take (n * size) = xs /\ ∀ u ∈ cur.toList, G u)
theorem RowG.own (h : RowG w base e size G v n xs) : w.ownsRow base e size v n xs := by
 obtain ⟨z, f⟩ := h
 refine ⟨z, ?_⟩
 rcases f with f | ⟨g, l, k, u, hg, y, t, q, p, o, _⟩
 . exact .inl f
 exact .inr ⟨g, l, k, u, hg, y, t, q, p, o⟩
theorem RowG.below (h : RowG w base e size G v n xs) (hb : Below w.heap.size w w') : RowG w' base e size G v n xs := by
 obtain ⟨q, f⟩ := h
 refine ⟨q, ?_⟩
 rcases f with f | ⟨g, l, k, p, hg, o, r⟩
 . exact .inl f
 exact .inr ⟨g, l, k, p, hg, (hb.block g (Array.getElem?_eq_some_iff.1 o).1).trans o, r⟩
theorem RowG.onl (h : RowG w base e size G v n xs) (ho : v.ownBlock ≠ some b) (hb : Onl b w w') : RowG w' base e size G v n xs := by
 obtain ⟨p, f⟩ := h
 refine ⟨p, ?_⟩
 rcases f with f | ⟨g, l, k, rfl, hg, o, r⟩
 . exact .inl f
 refine .inr ⟨g, l, k, rfl, hg, ?_, r⟩
 rw [hb.block g (fun e => ho (by rw [<- e]; rfl))]; exact o
theorem RowG.blk {g : Nat} (h : RowG w base e size G v n xs) (hg : v.ownBlock = some g) : base <= g /\ g < w.heap.size := World.ownsRow.lt h.own g hg
theorem RowG.noW {g : Nat} (h : RowG w base e size G v n xs) (hg : v.ownBlock = some g) (hG : ∀ k, ¬ G (.int .u32 k)) : zX w g := by
 rcases h.2 with ⟨rfl, _⟩ | ⟨q, t, f, rfl, _, p, _, _, _, _, r⟩
 . simp [Value.ownBlock] at hg
 simp only [Value.ownBlock, Option.some.injEq] at hg
 subst hg
 intro o k l
 rw [cell_of_row w q o f e (0, 0) p] at l
 exact hG k (r _ (Array.mem_toList_iff.2 (Array.mem_of_getElem? l)))
theorem ZI (w : World) (base e size : Nat) (G : Value -> Prop) : RowG w base e size G (.slice none 0 0) 0 [] := ⟨by simp, .inl ⟨rfl, rfl⟩⟩
theorem RowG.shape (h : RowG w base e size G v n xs) : ∃ ao cap, v = .slice ao n cap := by
 rcases h.2 with ⟨rfl, rfl⟩ | ⟨g, cap, _, rfl, _⟩
 . exact ⟨_, _, rfl⟩
 exact ⟨_, _, rfl⟩
theorem RowG.pos (h : RowG w base e size G v n xs) (hn : n ≠ 0) : ∃ g cap, v = .slice (some ⟨g, 0, none⟩) n cap /\ n <= cap /\ cap <= maxLen := by
 rcases h.2 with ⟨rfl, l⟩ | ⟨g, cap, _, rfl, _, _, k, f, _⟩
 . exact absurd l hn
 exact ⟨g, cap, rfl, k, f⟩
theorem RowG.cell {g : Nat} {u : Value} (h : RowG w base e size G (.slice (some ⟨g, 0, none⟩) n cap) n xs) (hj : xs[j]? = some u) : w.cell? ⟨g, j, none⟩ = some u := by
 have f : j < n * size := by rw [<- h.1]; exact (List.getElem?_eq_some_iff.1 hj).1
 rw [World.ownsRow.cellAt h.own j f, hj]
theorem RT (base : Nat) (t ty e : TypeId) (i : TypeInfo) (z : Value) (size bytes : Nat) (ht : P.underlying t = some (.slice e)) (hi : P.info? e = some i) (hz : i.zero = some z)
 (hsize : i.size = size) (hby : i.bytes = bytes) (hzs : z.cells.size = size) (hsz : 0 < size) (G : Value -> Prop) (hGz : ∀ u ∈ z.cells.toList, G u)
 (v : Value) (n : Nat) (xs : List Value) (hown : RowG w base e size G v n xs)
 (a : Addr) (m c : Nat) (news : List Value) (hl : news.length = m * size) (hnews : ∀ j u, news[j]? = some u -> w.cell? (a.add j) = some u) (h1 : ∀ u ∈ news, u.oneCell' = true) (hGn : ∀ u ∈ news, G u)
 (h63 : n + m <= maxLen) (hbytes : (n + m) * bytes <= 140737488355328) (hbase : base <= w.heap.size) :
 ∃ v' w', (Builtin.append_ #[t, t] ty #[v, .slice (some a) m c]).run P w = .ok v' w' /\ RowG w' base e size G v' (n + m) (xs ++ news) /\
  ((Below w.heap.size w w' /\ (m ≠ 0 -> v'.ownBlock = some w.heap.size)) ∨ (∃ g, v.ownBlock = some g /\ v'.ownBlock = some g /\ Onl g w w')) := by
 subst hsize
 subst hby
 have N : n + m <= 9223372036854775807 := by simp only [maxLen] at h63; omega
 have p : (xs ++ news).length = (n + m) * i.size := by rw [List.length_append, hown.1, hl, Nat.add_mul]
 have grown : ∀ (k : Nat), k < n + m -> (∀ u ∈ xs, G u) ->
  RowG (w.drew.alloc (.cells (xs.toArray ++ news.toArray ++ Builtin.zeroCells z.cells (grownCap w (n + m) k e - (n + m))) e)) base e i.size G
   (.slice (some ⟨w.heap.size, 0, none⟩) (n + m) (grownCap w (n + m) k e)) (n + m) (xs ++ news) := by
  intro k ho T
  have Q := grownCap_ge w (n + m) k e
  have F : grownCap w (n + m) k e <= maxLen := grownCap_le_maxLen w (n + m) k e h63
  refine ⟨p, .inr ⟨w.heap.size, _, _, O, hbase, heap_alloc_new w.drew _, Q, F, ?_, ?_, ?_⟩⟩
  . simp only [Array.size_append, List.size_toArray, size_zeroCells, hzs, hown.1, hl, <- Nat.add_mul]
    congr 1
    omega
  . simp only [Array.toList_append, List.append_assoc]
    rw [<- List.append_assoc, <- p]
    exact List.take_left
  intro u f
  simp only [Array.toList_append, List.mem_append] at f
  rcases f with (f | f) | f
  . exact T u f
  . exact hGn u f
  refine hGz u ?_
  unfold Builtin.zeroCells at f
  simp only [Array.toList_map, List.mem_map] at f
  obtain ⟨j, _, rfl⟩ := f
  by_cases U : j % z.cells.size < z.cells.size
  . simp [U]
  exfalso; exact U (Nat.mod_lt _ AA)
 have C : ∀ o : Obj, Below w.heap.size w (w.drew.alloc o) := fun o => ((Below.refl _ _).drew).alloc (Nat.le_refl _) o
 rcases hown.2 with ⟨rfl, rfl⟩ | ⟨g, y, I, rfl, S, hg, Y, F, R, q, H⟩
 . have X : xs = [] := List.eq_nil_of_length_eq_zero (by simpa using hown.1)
   subst X
   by_cases hm : m = 0
   . subst hm
     have hn : news = [] := List.eq_nil_of_length_eq_zero (by simpa using hl)
     subst hn
     refine ⟨.slice none 0 0, w, ?_, ZI w base e i.size G, .inl ⟨Below.refl _ _, fun h => absurd O h⟩⟩
     simp [Builtin.append_, run_underlying ht, sizeOf, typeInfo, hi, Builtin.lenOf, Builtin.firstCells, loadCells, loadCellsFrom]
   have J := run_append_nil (P := P) w t ty e i z ht hi hz a m c news hl hnews AA AA (by have hb := hbytes; simp only [Nat.zero_add] at hb; omega)
   have B := grown 0 AA (by intro u f; cases f)
   simp only [Nat.zero_add, List.nil_append, Array.empty_append] at B ⊢
   exact ⟨_, _, J, B, .inl ⟨C _, fun _ => rfl⟩⟩
 by_cases l : n + m <= y
 . have L : n * i.size + news.length <= I.size := by rw [hl, R, <- Nat.add_mul]; exact Nat.mul_le_mul_right _ l
   have J := run_append_room (P := P) w t ty e i ht hi g n y I hg a m c news hl hnews h1 l L
   refine ⟨_, _, J, ⟨p, .inr ⟨g, y, _, O, S, setRow_heap w g I _ e _ hg, l, F, ?_, ?_, ?_⟩⟩, .inr ⟨g, O, O, OD _ _ _⟩⟩
   . simp only [List.size_toArray, List.length_append, List.length_take, List.length_drop, Array.length_toList]
     omega
   . rw [q, <- p]
     exact List.take_left
   intro u f
   simp only [List.mem_append] at f
   rcases f with (f | f) | f
   . exact H u (List.mem_of_mem_take f)
   . exact hGn u f
   exact H u (List.mem_of_mem_drop f)
 have D : ∀ j u, xs[j]? = some u -> w.cell? ((⟨g, 0, none⟩ : Addr).add j) = some u := hown.own.cells (g := g) rfl
 have J := run_append_grow (P := P) w t ty e i z ht hi hz ⟨g, 0, none⟩ n y xs hown.1 D a m c news hl hnews AA AA (growslice_fits AA hbytes)
 have B := grown y AA (fun u f => H u (by rw [<- q] at f; exact List.mem_of_mem_take f))
 exact ⟨_, _, J, B, .inl ⟨C _, fun _ => rfl⟩⟩
def fG (base e size : Nat) (G : Value -> Prop) (v : Value) (n : Nat) (xs : List Value) : SF := ⟨fun w => RowG w base e size G v n xs, fun c => v.ownBlock ≠ some c, fun h hb => h.below hb, fun h _ ho hb => h.onl ho hb⟩
theorem Env.g (E : Env w l) (h : RowG w base e size G v n xs) : Env w (fG base e size G v n xs :: l) := ⟨h, E⟩
theorem Env.x (E : Env w l) (h : Bx w b T cs) : Env w (fX b T cs :: l) := ⟨h, E⟩
theorem okG (h : v.ownBlock ≠ some b) : (fG base e size G v n xs).ok b := h
theorem CT {b' : Nat} (h : b ≠ b') : (fX b' T cs).ok b := h
def bU (v : Value) : Prop := ∃ k, v = .int .u8 k
theorem Ey (k : Int) : ¬ bU (.int .u32 k) := by rintro ⟨j, h⟩; simp at h
theorem XK {o : Oper} {a : Act} {K : Act -> World -> Prop} {Q : Exit -> Act -> World -> Prop} (s x : Operand) (t : TypeId)
 (ho : o.op = .call { callee := .builtin .append, args := #[s, x], argTypes := #[t, t] })
 (base : Nat) (e : TypeId) (i : TypeInfo) (z : Value) (size bytes : Nat) (ht : P.underlying t = some (.slice e)) (hi : P.info? e = some i) (hz : i.zero = some z)
 (hsize : i.size = size) (hby : i.bytes = bytes) (hzs : z.cells.size = size) (hsz : 0 < size) (G : Value -> Prop) (hGz : ∀ u ∈ z.cells.toList, G u) (hGw : ∀ k, ¬ G (.int .u32 k)) (v : Value) (n : Nat) (xs : List Value) (hs : a.eval s = v) (hown : RowG w base e size G v n xs) (E : Env w l) (hok : ∀ g, v.ownBlock = some g -> base <= g -> Ok g l)
 (ad : Addr) (m c : Nat) (news : List Value) (hx : a.eval x = .slice (some ad) m c) (hl : news.length = m * size) (hnews : ∀ j u, news[j]? = some u -> w.cell? (ad.add j) = some u) (h1 : ∀ u ∈ news, u.oneCell' = true) (hGn : ∀ u ∈ news, G u)
 (h63 : n + m <= maxLen) (hbytes : (n + m) * bytes <= 140737488355328) (hbase : base <= w.heap.size)
 (h : ∀ v' w', Env w' (fG base e size G v' (n + m) (xs ++ news) :: l) -> K (a.put o.dst v') w') : o.wp P a w K Q := by
 obtain ⟨v', w', p, q, f⟩ := RT (P := P) (w := w) base t o.type e i z size bytes ht hi hz hsize hby hzs hsz G hGz v n xs hown ad m c news hl hnews h1 hGn h63 hbytes hbase
 unfold Oper.wp execOp
 simp only [ho, resolve, invoke, builtin, Sem.run_bind, Sem.run_pure, Result.andThen_ok, List.map_toArray, List.map_cons, List.map_nil, hs, hx, p]
 refine h v' w' ⟨q, ?_⟩
 rcases f with ⟨f, _⟩ | ⟨g, hg, _, f⟩
 . exact E.below f
 exact E.onl (hown.noW hg hGw) (hok g hg (hown.blk hg).1) f
section
variable {P : Program} {o : Oper} {a : Act} {w : World} {K : Act -> World -> Prop} {Q : Exit -> Act -> World -> Prop}
theorem CG {TB : Nat} {x y : Operand} (ho : o.op = .store T x y) (hsz : (P.info? T).map (·.size) = some 1) (hv : v.oneCell' = true) (hx : a.eval x = .pointer (some ⟨b, i, none⟩)) (hy : a.eval y = v)
 (hb : Bx w b TB cs) (hi : i < cs.length) (h : ∀ w', Onl b w w' -> Bx w' b TB (cs.set i v) -> K (a.put o.dst undef) w') : o.wp P a w K Q := by
 have l : v.cells = #[v] := by cases v <;> first | rfl | (simp [Value.oneCell'] at hv)
 have f := run_storeCells_at (P := P) b i TB [v] 0 cs.toArray w hb (by simp; omega) (by simpa using hv)
 simp only [Nat.add_zero, List.length_singleton] at f
 have e : (List.take i cs ++ [v] ++ List.drop (i + 1) cs) = cs.set i v := by
  rw [List.set_eq_take_append_cons_drop, if_pos hi]; simp
 rw [e] at f
 unfold Oper.wp execOp
 cases k : P.info? T with
 | none => simp [k] at hsz
 | some inf =>
   simp [k] at hsz
   simp only [ho, hx, hy, Instr.storeAt, Instr.sureAddr, Sem.run_bind, Sem.run_pure, Result.andThen_ok, storeVar, l, sizeOf, typeInfo]
   simp [k, hsz, f, Oper.upon]
   exact h _ (OD _ _ _) (aJ hb _)
theorem rK : ∀ (cs : List Value) (k : Nat) (acc : List Value), acc.length = k + cs.length -> (cs.zipIdx k).foldl (fun (a : Array Value) (x : Value × Nat) => a.setIfInBounds (0 + x.2) x.1) acc.toArray = (acc.take k ++ cs).toArray
 | [], k, acc, h => by simp at h; simp [<- h]
 | c :: cs, k, acc, h => by
   rw [List.length_cons] at h
   rw [List.zipIdx_cons, List.foldl_cons]
   have e : acc.toArray.setIfInBounds (0 + k) c = (acc.set k c).toArray := by simp
   rw [e, rK cs (k + 1) (acc.set k c) (by simp; omega)]
   have hk : k < (acc.set k c).length := by simp; omega
   rw [List.take_succ_eq_append_getElem hk, List.take_set_of_le (Nat.le_refl _)]
   simp
theorem DZ {x : Operand} {zs : List Value} (hT : P.underlying T = some (.slice e)) (hA : Ag P e n zs) (hn : cs.length = n) (hn0 : 0 < n) (hn1 : n <= 16777216) (ho : o.op = .buildSlice T 1 #[(0, x)]) (hx : a.eval x = .agg cs.toArray)
 (h : ∀ b w', b = w.heap.size -> w'.heap.size = w.heap.size + 1 -> Below w.heap.size w w' -> Bx w' b e cs -> K (a.put o.dst (.slice (some ⟨b, 0, none⟩) 1 1)) w') : o.wp P a w K Q := by
 have f := hA.i
 refine DO (v := .slice (some ⟨w.heap.size, 0, none⟩) 1 1) (w' := w.alloc (.cells cs.toArray e)) ?_ (h _ _ O AH ((Below.refl _ _).alloc (Nat.le_refl _) _) (JD w e cs))
 unfold execOp; rw [ho]
 cases k : P.info? e with
 | none => simp [k] at f
 | some inf =>
   simp [k] at f
   have u := hA.l
   simp [Instr.buildSlice, run_underlying hT, sizeOf, typeInfo, k, f.2, hx, Value.cells, newRow, newObj, zeroValue, f.1, show ¬ (2 ^ 24 < n) by omega, show ¬ n = 0 by omega]
   have p := rK cs 0 (List.map (fun x => zs[x % zs.length]?.getD default) (List.range n)) (by simp [hn])
   rw [List.take_zero, List.nil_append] at p
   have q : Instr.fill (fun i => some (i * n, n)) (Array.map (fun x => zs[x % zs.length]?.getD default) (Array.range n)) [(0, Value.agg cs.toArray)] = some cs.toArray := by
    have t : Array.map (fun x => zs[x % zs.length]?.getD default) (Array.range n) = (List.map (fun x => zs[x % zs.length]?.getD default) (List.range n)).toArray := by
     apply Array.ext <;> simp
    rw [t]
    simp only [Instr.fill, Value.cells]
    simp [hn]
    simpa using p
   rw [q]
   simp
   rfl
end
end Go.Proofs.YtmppigbbkjepiaaGreatDoor
namespace Go.Proofs.YtmppigbbkjepiaaGreatDoor.W
def WC : Nat -> Nat -> List Nat
 | 0, _ => []
 | k + 1, c => WC k (c / 10) ++ [c % 10]
def DI (l : List Nat) : Nat := l.foldl (fun a d => 10 * a + d) 0
def Dg (l : List Nat) : Prop := ∀ d ∈ l, d < 10
def VO (n : Nat) : List Nat := if n < 10 then [n] else VO (n / 10) ++ [n % 10]
termination_by n
decreasing_by omega
theorem Dg_append {a b : List Nat} : Dg (a ++ b) ↔ Dg a /\ Dg b := by
 simp only [Dg, List.mem_append]
 exact ⟨fun h => ⟨fun x e => h x (.inl e), fun x e => h x (.inr e)⟩, fun h x e => e.elim (h.1 x) (h.2 x)⟩
theorem Dg_cons {a : Nat} {b : List Nat} : Dg (a :: b) ↔ a < 10 /\ Dg b := by simp [Dg]
theorem ZS : DI [] = 0 := rfl
theorem VP (l : List Nat) (d : Nat) : DI (l ++ [d]) = 10 * DI l + d := by simp [DI]
theorem Uu (l : List Nat) : ∀ a : Nat, l.foldl (fun a d => 10 * a + d) a = a * 10 ^ l.length + DI l := by
 induction l with
 | nil => intro a; simp [DI]
 | cons d l ih =>
   intro a
   have h := ih (10 * a + d)
   have f := ih (10 * 0 + d)
   have e : DI (d :: l) = l.foldl (fun a d => 10 * a + d) (10 * 0 + d) := rfl
   rw [List.foldl_cons, h, e, f, List.length_cons, Nat.pow_succ]
   grind
theorem VQ (a b : List Nat) : DI (a ++ b) = DI a * 10 ^ b.length + DI b := by
 show (a ++ b).foldl _ 0 = _
 rw [List.foldl_append, Uu b]; rfl
theorem lS (d : Nat) (l : List Nat) : DI (d :: l) = d * 10 ^ l.length + DI l := by
 have := VQ [d] l
 simpa [DI] using this
theorem IG : ∀ (k c : Nat), (WC k c).length = k
 | 0, _ => rfl
 | k + 1, c => by rw [WC, List.length_append, IG k]; rfl
theorem Np : ∀ (k c : Nat), Dg (WC k c)
 | 0, _ => fun _ h => by cases h
 | k + 1, c => by
   rw [WC, Dg_append, Dg_cons]
   exact ⟨Np k _, by omega, fun _ h => by cases h⟩
theorem pZ : ∀ (k c : Nat), c < 10 ^ k -> DI (WC k c) = c
 | 0, c, h => by rw [Nat.pow_zero] at h; obtain rfl : c = 0 := by omega
                 rfl
 | k + 1, c, h => by
   rw [WC, VP, pZ k (c / 10) YaG]
   omega
theorem lR {l : List Nat} (h : Dg l) : DI l < 10 ^ l.length := by
 induction l with
 | nil => simp [DI]
 | cons d l ih =>
   have e := Dg_cons.1 h
   have f := ih e.2
   rw [lS, List.length_cons, Nat.pow_succ]
   have : d * 10 ^ l.length <= 9 * 10 ^ l.length := Nat.mul_le_mul_right _ AA
   omega
theorem PK (n : Nat) (h : n < 10) : VO n = [n] := by rw [VO, if_pos h]
theorem UT (n : Nat) (h : 10 <= n) : VO n = VO (n / 10) ++ [n % 10] := by rw [VO, if_neg AA]
theorem PL (n : Nat) : Dg (VO n) := by
 induction n using Nat.strongRecOn with
 | ind n ih =>
   rcases Nat.lt_or_ge n 10 with h | h
   . rw [PK n h, Dg_cons]; exact ⟨h, fun _ h => by cases h⟩
   rw [UT n h, Dg_append, Dg_cons]
   exact ⟨ih _ AA, by omega, fun _ h => by cases h⟩
theorem RX (n : Nat) : DI (VO n) = n := by
 induction n using Nat.strongRecOn with
 | ind n ih =>
   rcases Nat.lt_or_ge n 10 with h | h
   . rw [PK n h]; simp [DI]
   rw [UT n h, VP, ih _ AA]; omega
theorem uD (n : Nat) : VO n ≠ [] := by
 rcases Nat.lt_or_ge n 10 with h | h
 . rw [PK n h]; simp
 rw [UT n h]; simp
def Cn (l : List Nat) : Prop := l ≠ [] /\ (l.head? = some 0 -> l.length = 1)
theorem Qc (n : Nat) (h : 0 < n) : (VO n).head? ≠ some 0 := by
 induction n using Nat.strongRecOn with
 | ind n ih =>
   rcases Nat.lt_or_ge n 10 with e | e
   . rw [PK n e]; simp; omega
   rw [UT n e]
   have := ih (n / 10) AA AA
   have k := uD (n / 10)
   cases f : VO (n / 10) with
   | nil => exact absurd f k
   | cons a l => rw [f] at this; simpa using this
theorem Zy (n : Nat) : Cn (VO n) := by
 refine ⟨uD n, fun h => ?_⟩
 rcases Nat.eq_zero_or_pos n with e | e
 . subst e; rw [PK 0 AA]; rfl
 exact absurd h (Qc n e)
theorem Aq {l : List Nat} (h : l ≠ []) : ∃ a d, l = a ++ [d] := by
 rcases l.eq_nil_or_concat with e | ⟨a, d, e⟩
 . exact absurd e h
 exact ⟨a, d, by rw [e, List.concat_eq_append]⟩
theorem Cr : ∀ (k : Nat) (l : List Nat), l.length = k -> Dg l -> Cn l -> l = VO (DI l)
 | 0, l, hk, _, hc => absurd (List.eq_nil_of_length_eq_zero hk) hc.1
 | k + 1, l, hk, hd, hc => by
   obtain ⟨a, d, rfl⟩ := Aq hc.1
   have h1 := Dg_append.1 hd
   have hd1 : d < 10 := (Dg_cons.1 h1.2).1
   rw [VP]
   by_cases ha : a = []
   . subst ha
     rw [ZS, PK _ AA]
     simp
   have hca : Cn a := by
    refine ⟨ha, fun h => ?_⟩
    have := hc.2 (by cases a with | nil => exact absurd rfl ha | cons x a => simpa using h)
    rw [List.length_append, List.length_singleton] at this
    have : a.length = 0 := by omega
    exact absurd (List.eq_nil_of_length_eq_zero this) ha
   have f := Cr k a (by simpa using hk) h1.1 hca
   have o : 0 < DI a := by
    rcases Nat.eq_zero_or_pos (DI a) with e | e
    . exfalso
      rw [e, PK 0 AA] at f
      subst f
      have := hc.2 AH
      simp at this
    exact e
   rw [UT _ AA, show (10 * DI a + d) / 10 = DI a from by omega, show (10 * DI a + d) % 10 = d from by omega, <- f]
theorem Fr {m n : Nat} (h : VO m = VO n) : m = n := by
 have := congrArg DI h
 rwa [RX, RX] at this
def LTq : List Nat -> List Nat
 | [] => []
 | 0 :: l => LTq l
 | d :: l => d :: l
theorem Hv (l : List Nat) : DI (LTq l) = DI l := by
 induction l with
 | nil => rfl
 | cons d l ih =>
   cases d with
   | zero => rw [LTq, ih, lS]; omega
   | succ d => rfl
theorem Lo {l : List Nat} (h : Dg l) : Dg (LTq l) := by
 induction l with
 | nil => exact h
 | cons d l ih =>
   cases d with
   | zero => exact ih (Dg_cons.1 h).2
   | succ d => exact h
theorem Ao (l : List Nat) : (LTq l).head? ≠ some 0 := by
 induction l with
 | nil => simp [LTq]
 | cons d l ih =>
   cases d with
   | zero => exact ih
   | succ d => simp [LTq]
theorem Hw {l : List Nat} (h : Dg l) (hp : 0 < DI l) : LTq l = VO (DI l) := by
 have f := Hv l
 rw [<- f]
 refine Cr _ _ O (Lo h) ⟨fun e => ?_, fun e => absurd e (Ao l)⟩
 rw [e] at f
 rw [<- f] at hp
 exact absurd hp (by simp [DI])
theorem pO {n k : Nat} (hk : 0 < k) (h : n < 10 ^ k) : (VO n).length <= k := by
 induction k generalizing n with
 | zero => omega
 | succ k ih =>
   rcases Nat.lt_or_ge n 10 with l | l
   . rw [PK n l]; simp
   rw [UT n l, List.length_append, List.length_singleton]
   have f : 0 < k := by
    rcases Nat.eq_zero_or_pos k with e | e
    . subst e; simp at h; omega
    exact e
   have := ih f (n := n / 10) YaG
   omega
def cR : List Nat -> Nat
 | [] => 0
 | c :: l => c + 1000000000 * cR l
theorem Hi (l : List Nat) (c : Nat) : cR (l ++ [c]) = cR l + 1000000000 ^ l.length * c := by
 induction l with
 | nil => simp [cR]
 | cons x l ih => rw [List.cons_append, cR, cR, ih, List.length_cons, Nat.pow_succ]; grind
theorem xO (l : List Nat) : (l.flatMap (WC 9)).length = 9 * l.length := by
 induction l with
 | nil => rfl
 | cons c l ih => rw [List.flatMap_cons, List.length_append, ih, IG, List.length_cons]; omega
theorem Uv (l : List Nat) : Dg (l.flatMap (WC 9)) := by
 induction l with
 | nil => exact fun _ h => by cases h
 | cons c l ih => rw [List.flatMap_cons, Dg_append]; exact ⟨Np _ _, ih⟩
theorem iF (l : List Nat) (c : Nat) : (l ++ [c]).flatMap (WC 9) = l.flatMap (WC 9) ++ WC 9 c := by simp
theorem Ab (l : List Nat) (h : ∀ c ∈ l, c < 1000000000) : DI (l.reverse.flatMap (WC 9)) = cR l := by
 induction l with
 | nil => rfl
 | cons c l ih =>
   rw [List.reverse_cons, iF, VQ, ih (fun x e => h x (by simp [e])), IG, pZ 9 c (h c AH), cR]
   omega
def XG (l : List Nat) : List UInt8 := l.map fun d => UInt8.ofNat (48 + d)
def txt (z : Int) : List UInt8 := (if z < 0 then [45] else []) ++ XG (VO z.natAbs)
def MC (z : Int) : ByteArray := ⟨(txt z).toArray⟩
theorem Fz {a b : List Nat} (ha : Dg a) (hb : Dg b) (h : XG a = XG b) : a = b := by
 induction a generalizing b with
 | nil => cases b with | nil => rfl | cons _ _ => simp [XG] at h
 | cons x a ih =>
   cases b with
   | nil => simp [XG] at h
   | cons y b =>
     have k := Dg_cons.1 ha
     have f := Dg_cons.1 hb
     simp only [XG, List.map_cons, List.cons.injEq] at h
     have e := congrArg UInt8.toNat h.1
     rw [UInt8.toNat_ofNat', UInt8.toNat_ofNat'] at e
     obtain rfl : x = y := by omega
     rw [ih k.2 f.2 h.2]
theorem fO {l : List Nat} (h : Dg l) : (XG l).head? ≠ some 45 := by
 cases l with
 | nil => simp [XG]
 | cons d l =>
   have := (Dg_cons.1 h).1
   simp only [XG, List.map_cons, List.head?_cons, Option.some.injEq, ne_eq]
   intro e
   have e := congrArg UInt8.toNat e
   rw [UInt8.toNat_ofNat'] at e
   have : (48 + d) % 2 ^ 8 = 48 + d := Nat.mod_eq_of_lt AA
   rw [this] at e
   have : (45 : UInt8).toNat = 45 := rfl
   omega
theorem cT {x y : Int} (h : txt x = txt y) : x = y := by
 unfold txt at h
 have l := fO (PL x.natAbs)
 have k := fO (PL y.natAbs)
 by_cases f : x < 0 <;> by_cases e : y < 0
 . rw [if_pos f, if_pos e] at h
   have := Fr (Fz (PL _) (PL _) (by simpa using h))
   omega
 . rw [if_pos f, if_neg e] at h
   exfalso; apply k; simp only [List.nil_append] at h; rw [<- h]; rfl
 . rw [if_neg f, if_pos e] at h
   exfalso; apply l; simp only [List.nil_append] at h; rw [h]; rfl
 rw [if_neg f, if_neg e] at h
 have := Fr (Fz (PL _) (PL _) (by simpa using h))
 omega
end Go.Proofs.YtmppigbbkjepiaaGreatDoor.W
namespace Go.Proofs.YtmppigbbkjepiaaGreatDoor
open Go.Proofs.Tryz
open Go.RowKit W
variable {K : Act -> World -> Prop} {L T l : List Nat} {P : Program} {Q : Exit -> Act -> World -> Prop} {X : Int} {a : Act} {args : List Operand} {b c j m p : Nat} {o : Oper} {tys : Array TypeId} {vs : List Value} {w : World} {x : Operand} {ρ : Operand -> Value}
def gP (l : List Nat) : List Value := l.map fun d => Value.int .u8 ((48 + d : Nat) : Int)
def cl (j c : Nat) : List Value := List.replicate (9 - j) (Value.int .u8 0) ++ gP (WC j c)
theorem KX (l : List Nat) : (gP l).length = l.length := by simp [gP]
theorem cA (a b : List Nat) : gP (a ++ b) = gP a ++ gP b := by simp [gP]
theorem Fs (l : List Nat) : ∀ v ∈ gP l, v.oneCell' = true := by
 intro v e
 obtain ⟨d, _, rfl⟩ := List.mem_map.1 e
 rfl
theorem lF (l : List Nat) (i : Nat) (h : i < l.length) : (gP l)[i]? = some (.int .u8 ↑(48 + gd l i)) := by
 rw [gP, List.getElem?_map, List.getElem?_eq_getElem h, TK l i h]; rfl
theorem qU : ∀ (k c : Nat), WC (k + 1) c = (c / 10 ^ k % 10) :: WC k c
 | 0, c => by simp [WC]
 | k + 1, c => by
   rw [WC, qU k (c / 10), List.cons_append, Nat.div_div_eq_div_mul, Nat.pow_succ, Nat.mul_comm 10]
   rfl
theorem Kc (c : Nat) (h : j <= 9) : (cl j c).length = 9 := by
 rw [cl, List.length_append, List.length_replicate, KX, IG]; omega
theorem A5 (h : j < 9) (hX : X = ((48 + c / 10 ^ j % 10 : Nat) : Int)) : (cl j c).set (0 + (8 - j) * 1) (.int .u8 X) = cl (j + 1) c := by
 subst hX
 obtain ⟨k, e⟩ : ∃ k, 9 - j = k + 1 := ⟨8 - j, by omega⟩
 rw [cl, cl, qU, e, show 0 + (8 - j) * 1 = k from by omega, show 9 - (j + 1) = k from by omega, List.replicate_succ', List.append_assoc]
 rw [List.set_append_right _ _ AH]
 simp [gP]
theorem Vv (c : Nat) : cl 9 c = gP (WC 9 c) := by simp [cl]
theorem A6 (j c : Nat) : TU (cl j c) := by
 intro v f k e
 subst e
 rw [cl, List.mem_append] at f
 rcases f with f | f
 . have := (List.mem_replicate.1 f).2; simp at this
 obtain ⟨d, _, h⟩ := List.mem_map.1 f; simp at h
theorem Ag9 : Ag prog 217 9 (List.replicate 9 (.int .u8 0)) := ⟨⟨_, underlying217, rfl⟩, by kernel_rfl, rfl⟩
theorem Vu (c : Nat) : List.replicate 9 (Value.int .u8 0) = cl 0 c := by simp [cl, gP, WC]
theorem Sl.shape {v : Value} (h : Sl w v l) : ∃ ao cap, v = .slice ao l.length cap := by
 obtain ⟨ao, cap, rfl, _⟩ := h
 exact ⟨_, _, rfl⟩
theorem Hm (v : Value) (m : Nat) (w : World) (h : Sl w v (CC m)) :
 Calls prog 161 #[v] w (Db w (CC m)) := by
 refine (NR v _ w h).mono ?_
 rintro e l ⟨rfl, f, rfl, k⟩
 have := k _ h
 rw [CO] at this
 exact ⟨f, rfl, this, Below.refl _ _⟩
theorem Cp (v : Value) (m d : Nat) (w : World) (h : Sl w v (CC m)) (hf : (CC m).length <= 1000000000) (hd : 0 < d) (hd2 : d < 4294967296) :
 Calls prog 189 #[v, .int .u64 d] w (yU w (m / d) (m % d)) := by
 have := ZA v (CC m) d w h hf hd hd2
 rwa [CO] at this
theorem yL {n F : Nat} (h : n = cR L + 1000000000 ^ L.length * m) (hm : m ≠ 0) (hF : n < 4294967296 ^ F) : L.length <= 2 * F := by
 have l : 1000000000 ^ L.length <= n := by
  have : 1000000000 ^ L.length * 1 <= 1000000000 ^ L.length * m := Nat.mul_le_mul_left _ AA
  omega
 rcases Nat.lt_or_ge (2 * F) L.length with e | e
 . exfalso
   have f : 1000000000 ^ (2 * F) <= 1000000000 ^ L.length := Nat.pow_le_pow_right AA AA
   rw [Nat.pow_mul] at f
   have k : 4294967296 ^ F <= (1000000000 ^ 2) ^ F := Nat.pow_le_pow_left AE F
   omega
 exact e
theorem Ct {n : Nat} (h : n = cR L + 1000000000 ^ L.length * m) : n = cR (L ++ [m % 1000000000]) + 1000000000 ^ (L ++ [m % 1000000000]).length * (m / 1000000000) := by
 rw [Hi, List.length_append, List.length_singleton, Nat.pow_succ, h]
 have := Nat.div_add_mod m 1000000000
 generalize m / 1000000000 = q at *
 generalize m % 1000000000 = r at *
 subst this
 grind
theorem Kd {L : List Nat} (h : ∀ c ∈ L, c < 1000000000) (m : Nat) : ∀ c ∈ L ++ [m % 1000000000], c < 1000000000 := by
 intro c f
 rcases List.mem_append.1 f with e | e
 . exact h c e
 simp at e; subst e; exact Nat.mod_lt _ AE
def C3 (w0 : World) (z : Int) (e : Ending) (w' : World) : Prop := e = .returned (.string (MC z)) /\ Below w0.heap.size w0 w'
theorem JZ {f : Nat} {l : List SF} {z : Int}
 (hf : Fn P f) (ho : o.op = .call { callee := .value (.func f), args := args.toArray, argTypes := tys }) (hc : Calls P f vs.toArray w (C3 w z)) (hv : args.map a.eval = vs) (E : Env w l)
 (h : ∀ w', Below w.heap.size w w' -> Env w' l -> K (a.put o.dst (.string (MC z))) w') : o.wp P a w K Q := by
 refine DG hf ho hc hv ?_
 rintro e w' ⟨rfl, k⟩
 exact ⟨_, rfl, h w' k (E.below k)⟩
theorem ZO {f : Nat} {l : List SF} {q r : Nat}
 (hf : Fn P f) (ho : o.op = .call { callee := .value (.func f), args := args.toArray, argTypes := tys }) (hc : Calls P f vs.toArray w (yU w q r)) (hv : args.map a.eval = vs) (E : Env w l)
 (h : ∀ w' v, Below w.heap.size w w' -> Env w' (fS v (CC q) :: l) -> K (a.put o.dst (.tuple #[v, .int .u64 r])) w') : o.wp P a w K Q := by
 refine DG hf ho hc hv ?_
 rintro e w' ⟨v, rfl, p, k⟩
 exact ⟨_, rfl, h w' v k ⟨p, E.below k⟩⟩
theorem Jk : (prog.info? 217).map (fun i => (i.zero, i.size, i.bytes)) = some (some (.agg (List.replicate 9 (.int .u8 0)).toArray), 9, 9) := by kernel_rfl
theorem Ul : (prog.info? 5).map (fun i => (i.zero, i.size, i.bytes)) = some (some (.int .u8 0), 1, 1) := by kernel_rfl
theorem Pd : ∀ u ∈ (Value.agg (List.replicate 9 (.int .u8 0)).toArray).cells.toList, bU u := by
 intro u e
 simp only [Value.cells, List.toList_toArray] at e
 exact ⟨0, (List.mem_replicate.1 e).2⟩
theorem Ji : ∀ u ∈ (Value.int .u8 0).cells.toList, bU u := by
 intro u e
 simp [Value.cells] at e
 exact ⟨0, e⟩
theorem xC (l : List Nat) : ∀ u ∈ gP l, bU u := by
 intro v e
 obtain ⟨d, _, rfl⟩ := List.mem_map.1 e
 exact ⟨_, rfl⟩
theorem dF {ao : Option Addr} {n : Nat} (ho : o.op = .call { callee := .builtin .len, args := #[x], argTypes := #[216] }) (hx : ρ x = .slice ao n c) : (execOp ρ o).run prog w = .ok (.value (.int .i64 n)) w := by
 unfold execOp; rw [ho]; simp [hx, go_sem]
theorem vU {off : Nat} (ho : o.op = .slice 217 x none none none) (hx : ρ x = .pointer (some ⟨b, off, none⟩)) : (execOp ρ o).run prog w = .ok (.value (.slice (some ⟨b, off, none⟩) 9 9)) w := by
 unfold execOp; rw [ho]; simp [hx, Instr.sliceAt, Instr.sureAddr, run_underlying underlying217, Instr.sliceBounds, go_sem]
theorem Ii {g n : Nat} (ho : o.op = .slice 42 x (some (.const (.int .i64 1))) none none) (hr : ρ (.const (.int .i64 1)) = .int .i64 1) (hx : ρ x = .slice (some ⟨g, p, none⟩) n c) (h1 : 1 <= n) (_h2 : n <= c) (h3 : 1 < c) :
 (execOp ρ o).run prog w = .ok (.value (.slice (some ⟨g, p + 1, none⟩) (n - 1) (c - 1))) w := by
 unfold execOp; rw [ho]
 simp [hx, hr, Instr.sliceAt, Instr.slice, run_underlying underlying42, Instr.sliceBounds, Instr.sliceBound, asIntOf, go_sem, show ¬ c = 1 by omega]
 intro h; omega
theorem KE (a b : Nat) : ((a : Nat) : Int).tmod ((b : Nat) : Int) = ((a % b : Nat) : Int) := by
 rw [Int.tmod_eq_emod_of_nonneg AA]; omega
theorem EX {a : Nat} (hX : X = (a : Int)) (h : a < 18446744073709551616) : IntKind.u64.wrap X = (a : Int) := by subst hX; simp only [IntKind.wrap_u64]; omega
theorem OH {a : Nat} (hX : X = (a : Int)) (h : a < 256) : IntKind.u8.wrap X = (a : Int) := by subst hX; simp only [IntKind.wrap_u8]; omega
theorem Tg (h : b < 18446744073709551616) : IntKind.u64.wrap (((b : Nat) : Int).tdiv 10) = ((b / 10 : Nat) : Int) := by
 rw [Int.tdiv_eq_ediv_of_nonneg AA]
 simp only [IntKind.wrap_u64]
 omega
theorem Ou (h : m ≠ 0) : 0 < (CC m).length := by
 rcases Nat.eq_zero_or_pos (CC m).length with e | e
 . exact absurd ((FR m).1 (List.eq_nil_of_length_eq_zero e)) h
 exact e
def fN (n : Nat) : SF := ⟨fun w => n <= w.heap.size, fun _ => True, fun h hb => Nat.le_trans h hb.size, fun h _ _ hb => by rw [hb.size]; exact h⟩
theorem Env.n {l : List SF} {n : Nat} (E : Env w l) (h : n <= w.heap.size) : Env w (fN n :: l) := ⟨h, E⟩
theorem xG (w : World) : (isAgg 5).run prog w = .ok false w := by
 simp [go_sem]
theorem Fl (D : List Nat) (p q : Nat) (h : p + q < D.length) : ((D.drop p).map fun d => ((48 + d : Nat) : Int)).getD q 0 = ((48 + gd D (p + q) : Nat) : Int) := by
 rw [List.getD_eq_getElem?_getD, List.getElem?_map, List.getElem?_drop, List.getElem?_eq_getElem h, TK D _ h]; rfl
theorem txt_zero : MC 0 = ⟨#[48]⟩ := by
 unfold MC txt
 rw [Int.natAbs_zero, PK 0 AA]
 rfl
theorem oK (l : List Nat) (_h : Dg l) : (strOfNums (l.map fun d => ((48 + d : Nat) : Int))).data.toList = XG l := by
 rw [strOfNums_data, List.map_map, XG]
 apply List.map_congr_left
 intro d e
 show UInt8.ofNat (((48 + d : Nat) : Int).toNat) = _
 rw [Int.toNat_natCast]
theorem Sd {x : Int} (h : ¬ x < 0) (hl : l = VO x.natAbs) : strOfNums (l.map fun d => ((48 + d : Nat) : Int)) = MC x := by
 subst hl
 apply ByteArray.ext
 apply Array.ext'
 rw [oK _ (PL _)]
 simp [MC, txt, h]
theorem Se {x : Int} (h : x < 0) (hl : l = VO x.natAbs) : (⟨#[45]⟩ : ByteArray) ++ strOfNums (l.map fun d => ((48 + d : Nat) : Int)) = MC x := by
 subst hl
 apply ByteArray.ext
 apply Array.ext'
 rw [ByteArray.data_append, Array.toList_append, oK _ (PL _)]
 simp [MC, txt, h]
theorem An (h : l.head? ≠ some 0) : LTq l = l := by
 cases l with
 | nil => rfl
 | cons d l => cases d with
   | zero => simp at h
   | succ d => rfl
theorem mB (hp : p < T.length) (h : gd T p = 0) (hs : LTq (T.drop p) = LTq T) : LTq (T.drop (p + 1)) = LTq T := by
 rw [<- hs, List.drop_eq_getElem_cons hp]
 have : T[p] = 0 := by rw [<- TK T p hp]; exact h
 rw [this, LTq]
theorem Ap (hp : p < T.length) (h : gd T p ≠ 0) (hs : LTq (T.drop p) = LTq T) : T.drop p = LTq T := by
 rw [<- hs]
 refine (An ?_).symm
 rw [List.drop_eq_getElem_cons hp]
 simp only [List.head?_cons, ne_eq, Option.some.injEq]
 rw [<- TK T p hp]; exact h
theorem Am (hp : p < T.length) (h : gd T p = 0) (hs : LTq (T.drop p) = LTq T) (hT : LTq T ≠ []) : p + 1 < T.length := by
 rcases Nat.lt_or_ge (p + 1) T.length with e | e
 . exact e
 exfalso
 have := mB hp h hs
 rw [List.drop_of_length_le e] at this
 exact hT this.symm
theorem tA (L : List Nat) (i : Nat) (h : i < L.length) : L.reverse.take (i + 1) = L.reverse.take i ++ [gd L (L.length - 1 - i)] := by
 rw [List.take_succ_eq_append_getElem (by simpa using h), List.getElem_reverse, TK L (L.length - 1 - i) AA]
theorem Po (L : List Nat) (c j : Nat) (hc : c < L.length) (hj : j < 9) : (gP (L.flatMap (WC 9)))[0 + c * 9 + j]? = (gP (WC 9 (gd L c)))[j]? := by
 induction L generalizing c with
 | nil => simp at hc
 | cons x L ih =>
   rw [List.flatMap_cons, cA]
   cases c with
   | zero =>
     rw [List.getElem?_append_left (by rw [KX, IG]; omega)]
     simp [gd]
   | succ c =>
     rw [List.getElem?_append_right (by rw [KX, IG]; omega), KX, IG]
     have e : gd (x :: L) (c + 1) = gd L c := by unfold gd; simp
     rw [e, <- ih c (by simpa using hc), show 0 + (c + 1) * 9 + j - 9 = 0 + c * 9 + j from by omega]
end Go.Proofs.YtmppigbbkjepiaaGreatDoor
