/- Helping facts of KitA; no other conditions. -/
import Derived.Test.YtmppigbbkjepiaaGreatDoorTxtM
import Derived.Lib.ConvBytes
namespace Go.Proofs.YtmppigbbkjepiaaGreatDoor
open Go.Proofs.Tryz
open Go.RowKit W
section
variable {ρ : Operand → Value} {o : Oper} {w : World} {P : Program} {k : IntKind} {t t' : TypeId} {x y : Operand} {m n c : Int}
theorem JD (ho : o.op = .binOp .add t x y t') (hx : ρ x = .int k m) (hy : ρ y = .int k n) (hc : k.wrap (m + n) = c) : (execOp ρ o).run P w = .ok (.value (.int k c)) w := by
  unfold execOp; rw [ho]; simp only [hx, hy, eqGuard_at_int, binOp_add, Op.intArith, hc]; rfl
theorem JC (ho : o.op = .binOp .sub t x y t') (hx : ρ x = .int k m) (hy : ρ y = .int k n) (hc : k.wrap (m - n) = c) : (execOp ρ o).run P w = .ok (.value (.int k c)) w := by
  unfold execOp; rw [ho]; simp only [hx, hy, eqGuard_at_int, binOp_sub, Op.intArith, hc]; rfl
theorem WX (ho : o.op = .binOp .mul t x y t') (hx : ρ x = .int k m) (hy : ρ y = .int k n) (hc : k.wrap (m * n) = c) : (execOp ρ o).run P w = .ok (.value (.int k c)) w := by
  unfold execOp; rw [ho]; simp only [hx, hy, eqGuard_at_int, binOp_mul, Op.intArith, hc]; rfl
theorem Kf (ho : o.op = .binOp .quo t x y t') (hx : ρ x = .int k m) (hy : ρ y = .int k n) (hn : n ≠ 0) (hc : k.wrap (m.tdiv n) = c) : (execOp ρ o).run P w = .ok (.value (.int k c)) w := by
  unfold execOp; rw [ho]; simp only [hx, hy, eqGuard_at_int, binOp_quo, Op.intDiv, if_neg hn, hc]; rfl
theorem DZ (ho : o.op = .binOp .rem t x y t') (hx : ρ x = .int k m) (hy : ρ y = .int k n) (hn : n ≠ 0) (hc : m.tmod n = c) : (execOp ρ o).run P w = .ok (.value (.int k c)) w := by
  unfold execOp; rw [ho]; simp only [hx, hy, eqGuard_at_int, binOp_rem, Op.intDiv, if_neg hn, hc]; rfl
theorem Kk (ho : o.op = .unOp .neg t x) (hx : ρ x = .int k m) (hc : k.wrap (-m) = c) : (execOp ρ o).run P w = .ok (.value (.int k c)) w := by
  unfold execOp; rw [ho]; simp [hx, Op.unary, Op.intArith, hc]
theorem EO {src dst : TypeId} {d : IntKind} (ho : o.op = .convert src dst x) (hx : ρ x = .int k m) (hs : (P.underlying src).isSome = true) (hd : P.underlying dst = some (.int d)) (hc : d.wrap m = c) : (execOp ρ o).run P w = .ok (.value (.int d c)) w := by
  have e : P.intKind dst = d := by unfold Program.intKind; rw [hd]
  have := run_convert_int (P := P) w src dst k m hs (by rw [hd, e])
  rw [e, hc] at this
  unfold execOp; rw [ho]
  simp [hx, this]
theorem SX {T e sz b off j len cap : Nat} {kk : IntKind} {J : Int} (ho : o.op = .indexAddr T x y) (hT : P.underlying T = some (.slice e)) (hs : (P.info? e).map (·.size) = some sz)
    (hx : ρ x = .slice (some ⟨b, off, none⟩) len cap) (hy : ρ y = .int kk J) (hJ : J = (j : Int)) (hj : j < len) : (execOp ρ o).run P w = .ok (.value (.pointer (some ⟨b, off + j * sz, none⟩))) w := by
  subst hJ
  unfold execOp; rw [ho]
  cases f : P.info? e with
  | none => simp [f] at hs
  | some i =>
    simp [f] at hs
    simp [hx, hy, Instr.indexAt, asIntOf, run_underlying hT, sizeOf, typeInfo, f, hs, hj, Addr.add_lit]
theorem DS {T e sz b off j len : Nat} {kk : IntKind} {J : Int} (ho : o.op = .indexAddr T x y) (hT : P.underlying T = some (.array len e)) (hs : (P.info? e).map (·.size) = some sz)
    (hx : ρ x = .pointer (some ⟨b, off, none⟩)) (hy : ρ y = .int kk J) (hJ : J = (j : Int)) (hj : j < len) : (execOp ρ o).run P w = .ok (.value (.pointer (some ⟨b, off + j * sz, none⟩))) w := by
  subst hJ
  unfold execOp; rw [ho]
  cases f : P.info? e with
  | none => simp [f] at hs
  | some i =>
    simp [f] at hs
    simp [hx, hy, Instr.indexAt, Instr.sureAddr, asIntOf, run_underlying hT, sizeOf, typeInfo, f, hs, hj, Addr.add_lit]
theorem GF {T : TypeId} {b i : Nat} {v : Value} (ho : o.op = .load T x) (hT : ∀ w, (isAgg T).run P w = .ok false w) (hx : ρ x = .pointer (some ⟨b, i, none⟩)) (hc : w.cell? ⟨b, i, none⟩ = some v) :
    (execOp ρ o).run P w = .ok (.value v) w := by
  unfold execOp; rw [ho]
  simp [hx, Instr.loadAt, Instr.sureAddr, loadVar, hT, hc]
theorem GW {T : TypeId} {s : ByteArray} {j : Nat} {J : Int} {kk : IntKind} {b : UInt8} (ho : o.op = .index T x y) (hT : P.underlying T = some .string) (hx : ρ x = .string s) (hy : ρ y = .int kk J) (hJ : J = (j : Int)) (hb : s[j]? = some b) :
    (execOp ρ o).run P w = .ok (.value (.int .u8 b.toNat)) w := by
  subst hJ
  unfold execOp; rw [ho]
  simp [hx, hy, Instr.index, asIntOf, run_underlying hT, hb]
theorem tE {s : ByteArray} (ho : o.op = .call { callee := .builtin .len, args := #[x], argTypes := #[9] }) (hx : ρ x = .string s) : (execOp ρ o).run prog w = .ok (.value (.int .i64 (s.size : Nat))) w := by
  unfold execOp; rw [ho]; simp [hx, go_sem]
theorem PC {T : TypeId} {s : ByteArray} {j : Nat} {J : Int} {kk : IntKind} (ho : o.op = .slice T x (some y) none none) (hT : P.underlying T = some .string) (hx : ρ x = .string s) (hy : ρ y = .int kk J) (hJ : J = (j : Int)) (hj : j ≤ s.size) :
    (execOp ρ o).run P w = .ok (.value (.string (s.extract j s.size))) w := by
  subst hJ
  unfold execOp; rw [ho]
  simp [hx, hy, Instr.sliceAt, Instr.slice, run_underlying hT, Instr.sliceBounds, Instr.sliceBound, asIntOf, hj]
theorem pS {src e : TypeId} {b off len cap : Nat} {xs : List Int} (ho : o.op = .convert src t x) (hs : P.underlying src = some (.slice e)) (he : P.underlying e = some (.int .u8)) (ht : P.underlying t = some .string)
    (hx : ρ x = .slice (some ⟨b, off, none⟩) len cap) (hlen : xs.length = len) (hc : ∀ i, i < len → w.cell? ⟨b, off + i, none⟩ = some (.int .u8 (xs.getD i 0))) :
    (execOp ρ o).run P w = .ok (.value (.string (strOfNums xs))) w := by
  unfold execOp; rw [ho]
  have := run_convert_bytes_arg (P := P) (w := w) src e hs he b off len cap xs hlen hc t ht
  simp [hx, this]
theorem iI {a b : ByteArray} (ho : o.op = .binOp .add t x y t') (hx : ρ x = .string a) (hy : ρ y = .string b) (hs : a.size + b.size ≤ 9223372036854775807) : (execOp ρ o).run P w = .ok (.value (.string (a ++ b))) w := by
  unfold execOp; rw [ho]
  have := run_string_add_sum (P := P) w a b hs
  simp [hx, hy, eqGuard_at_string, binOp, this]
end
def RowG (w : World) (base e size : Nat) (G : Value → Prop) (v : Value) (n : Nat) (xs : List Value) : Prop :=
  xs.length = n * size ∧ ((v = .slice none 0 0 ∧ n = 0) ∨
    ∃ g cap cur, v = .slice (some ⟨g, 0, none⟩) n cap ∧ base ≤ g ∧ w.heap[g]? = some (.cells cur e (0, 0)) ∧ n ≤ cap ∧ cap ≤ maxLen ∧ cur.size = cap * size ∧ cur.toList.take (n * size) = xs ∧ ∀ u ∈ cur.toList, G u)
theorem RowG.own {w : World} {base e size n : Nat} {G : Value → Prop} {v : Value} {xs : List Value} (h : RowG w base e size G v n xs) : w.ownsRow base e size v n xs := by
  obtain ⟨B, f⟩ := h
  refine ⟨B, ?_⟩
  rcases f with f | ⟨g, l, k, u, z, y, t, q, p, o, _⟩
  · exact .inl f
  · exact .inr ⟨g, l, k, u, z, y, t, q, p, o⟩
theorem RowG.below {w w' : World} {base e size n : Nat} {G : Value → Prop} {v : Value} {xs : List Value} (h : RowG w base e size G v n xs) (hb : Below w.heap.size w w') : RowG w' base e size G v n xs := by
  obtain ⟨t, f⟩ := h
  refine ⟨t, ?_⟩
  rcases f with f | ⟨g, l, k, p, q, o, r⟩
  · exact .inl f
  · exact .inr ⟨g, l, k, p, q, (hb.block g (Array.getElem?_eq_some_iff.1 o).1).trans o, r⟩
theorem RowG.onl {w w' : World} {base e size n b : Nat} {G : Value → Prop} {v : Value} {xs : List Value} (h : RowG w base e size G v n xs) (ho : v.ownBlock ≠ some b) (hb : Onl b w w') : RowG w' base e size G v n xs := by
  obtain ⟨q, f⟩ := h
  refine ⟨q, ?_⟩
  rcases f with f | ⟨g, l, k, rfl, p, o, r⟩
  · exact .inl f
  · refine .inr ⟨g, l, k, rfl, p, ?_, r⟩
    rw [hb.block g (fun e => ho (by rw [← e]; rfl))]; exact o
theorem RowG.blk {w : World} {base e size n g : Nat} {G : Value → Prop} {v : Value} {xs : List Value} (h : RowG w base e size G v n xs) (hg : v.ownBlock = some g) : base ≤ g ∧ g < w.heap.size := World.ownsRow.lt h.own g hg
theorem RowG.noW {w : World} {base e size n g : Nat} {G : Value → Prop} {v : Value} {xs : List Value} (h : RowG w base e size G v n xs) (hg : v.ownBlock = some g) (hG : ∀ k, ¬ G (.int .u32 k)) : wK w g := by
  rcases h.2 with ⟨rfl, _⟩ | ⟨q, t, f, rfl, _, p, _, _, _, _, r⟩
  · simp [Value.ownBlock] at hg
  · simp only [Value.ownBlock, Option.some.injEq] at hg
    subst hg
    intro o k l
    rw [cell_of_row w q o f e (0, 0) p] at l
    exact hG k (r _ (Array.mem_toList_iff.2 (Array.mem_of_getElem? l)))
theorem YB (w : World) (base e size : Nat) (G : Value → Prop) : RowG w base e size G (.slice none 0 0) 0 [] := ⟨by simp, .inl ⟨rfl, rfl⟩⟩
theorem RowG.shape {w : World} {base e size n : Nat} {G : Value → Prop} {v : Value} {xs : List Value} (h : RowG w base e size G v n xs) : ∃ ao cap, v = .slice ao n cap := by
  rcases h.2 with ⟨rfl, rfl⟩ | ⟨g, cap, _, rfl, _⟩
  · exact ⟨_, _, rfl⟩
  · exact ⟨_, _, rfl⟩
theorem RowG.pos {w : World} {base e size n : Nat} {G : Value → Prop} {v : Value} {xs : List Value} (h : RowG w base e size G v n xs) (hn : n ≠ 0) : ∃ g cap, v = .slice (some ⟨g, 0, none⟩) n cap ∧ n ≤ cap ∧ cap ≤ maxLen := by
  rcases h.2 with ⟨rfl, l⟩ | ⟨g, cap, _, rfl, _, _, k, f, _⟩
  · exact absurd l hn
  · exact ⟨g, cap, rfl, k, f⟩
theorem RowG.cell {w : World} {base e size n g cap j : Nat} {G : Value → Prop} {xs : List Value} {u : Value} (h : RowG w base e size G (.slice (some ⟨g, 0, none⟩) n cap) n xs) (hj : xs[j]? = some u) : w.cell? ⟨g, j, none⟩ = some u := by
  have f : j < n * size := by rw [← h.1]; exact (List.getElem?_eq_some_iff.1 hj).1
  rw [World.ownsRow.cellAt h.own j f, hj]
theorem QU {P : Program} {w : World} (base : Nat) (t ty e : TypeId) (i : TypeInfo) (z : Value) (size bytes : Nat) (ht : P.underlying t = some (.slice e)) (hi : P.info? e = some i) (hz : i.zero = some z)
    (hsize : i.size = size) (hby : i.bytes = bytes) (hzs : z.cells.size = size) (hsz : 0 < size) (G : Value → Prop) (hGz : ∀ u ∈ z.cells.toList, G u)
    (v : Value) (n : Nat) (xs : List Value) (hown : RowG w base e size G v n xs)
    (a : Addr) (m c : Nat) (news : List Value) (hl : news.length = m * size) (hnews : ∀ j u, news[j]? = some u → w.cell? (a.add j) = some u) (h1 : ∀ u ∈ news, u.oneCell' = true) (hGn : ∀ u ∈ news, G u)
    (h63 : n + m ≤ maxLen) (hbytes : (n + m) * bytes ≤ 140737488355328) (hbase : base ≤ w.heap.size) :
    ∃ v' w', (Builtin.append_ #[t, t] ty #[v, .slice (some a) m c]).run P w = .ok v' w' ∧ RowG w' base e size G v' (n + m) (xs ++ news) ∧
      ((Below w.heap.size w w' ∧ (m ≠ 0 → v'.ownBlock = some w.heap.size)) ∨ (∃ g, v.ownBlock = some g ∧ v'.ownBlock = some g ∧ Onl g w w')) := by
  subst hsize
  subst hby
  have N : n + m ≤ 9223372036854775807 := by simp only [maxLen] at h63; omega
  have p : (xs ++ news).length = (n + m) * i.size := by rw [List.length_append, hown.1, hl, Nat.add_mul]
  have grown : ∀ (k : Nat), k < n + m → (∀ u ∈ xs, G u) →
      RowG (w.drew.alloc (.cells (xs.toArray ++ news.toArray ++ Builtin.zeroCells z.cells (grownCap w (n + m) k e - (n + m))) e)) base e i.size G
        (.slice (some ⟨w.heap.size, 0, none⟩) (n + m) (grownCap w (n + m) k e)) (n + m) (xs ++ news) := by
    intro k ho T
    have Q := grownCap_ge w (n + m) k e
    have F : grownCap w (n + m) k e ≤ maxLen := grownCap_le_maxLen w (n + m) k e h63
    refine ⟨p, .inr ⟨w.heap.size, _, _, O, hbase, heap_alloc_new w.drew _, Q, F, ?_, ?_, ?_⟩⟩
    · simp only [Array.size_append, List.size_toArray, size_zeroCells, hzs, hown.1, hl, ← Nat.add_mul]
      congr 1
      omega
    · simp only [Array.toList_append, List.append_assoc]
      rw [← List.append_assoc, ← p]
      exact List.take_left
    · intro u f
      simp only [Array.toList_append, List.mem_append] at f
      rcases f with (f | f) | f
      · exact T u f
      · exact hGn u f
      · refine hGz u ?_
        unfold Builtin.zeroCells at f
        simp only [Array.toList_map, List.mem_map] at f
        obtain ⟨j, _, rfl⟩ := f
        by_cases U : j % z.cells.size < z.cells.size
        · simp [U]
        · exfalso; exact U (Nat.mod_lt _ AA)
  have C : ∀ o : Obj, Below w.heap.size w (w.drew.alloc o) := fun o => ((Below.refl _ _).drew).alloc (Nat.le_refl _) o
  rcases hown.2 with ⟨rfl, rfl⟩ | ⟨g, y, I, rfl, S, X, a0, F, R, q, H⟩
  · have Y : xs = [] := List.eq_nil_of_length_eq_zero (by simpa using hown.1)
    subst Y
    by_cases hm : m = 0
    · subst hm
      have hn : news = [] := List.eq_nil_of_length_eq_zero (by simpa using hl)
      subst hn
      refine ⟨.slice none 0 0, w, ?_, YB w base e i.size G, .inl ⟨Below.refl _ _, fun h => absurd O h⟩⟩
      simp [Builtin.append_, run_underlying ht, sizeOf, typeInfo, hi, Builtin.lenOf, Builtin.firstCells, loadCells, loadCellsFrom]
    · have J := run_append_nil (P := P) w t ty e i z ht hi hz a m c news hl hnews AA AA (by have hb := hbytes; simp only [Nat.zero_add] at hb; omega)
      have B := grown 0 AA (by intro u f; cases f)
      simp only [Nat.zero_add, List.nil_append, Array.empty_append] at B ⊢
      exact ⟨_, _, J, B, .inl ⟨C _, fun _ => rfl⟩⟩
  · by_cases l : n + m ≤ y
    · have L : n * i.size + news.length ≤ I.size := by rw [hl, R, ← Nat.add_mul]; exact Nat.mul_le_mul_right _ l
      have J := run_append_room (P := P) w t ty e i ht hi g n y I X a m c news hl hnews h1 l L
      refine ⟨_, _, J, ⟨p, .inr ⟨g, y, _, O, S, setRow_heap w g I _ e _ X, l, F, ?_, ?_, ?_⟩⟩, .inr ⟨g, O, O, LX _ _ _⟩⟩
      · simp only [List.size_toArray, List.length_append, List.length_take, List.length_drop, Array.length_toList]
        omega
      · rw [q, ← p]
        exact List.take_left
      · intro u f
        simp only [List.mem_append] at f
        rcases f with (f | f) | f
        · exact H u (List.mem_of_mem_take f)
        · exact hGn u f
        · exact H u (List.mem_of_mem_drop f)
    · have D : ∀ j u, xs[j]? = some u → w.cell? ((⟨g, 0, none⟩ : Addr).add j) = some u := hown.own.cells (g := g) rfl
      have J := run_append_grow (P := P) w t ty e i z ht hi hz ⟨g, 0, none⟩ n y xs hown.1 D a m c news hl hnews AA AA (growslice_fits AA hbytes)
      have B := grown y AA (fun u f => H u (by rw [← q] at f; exact List.mem_of_mem_take f))
      exact ⟨_, _, J, B, .inl ⟨C _, fun _ => rfl⟩⟩
def fG (base e size : Nat) (G : Value → Prop) (v : Value) (n : Nat) (xs : List Value) : SF := ⟨fun w => RowG w base e size G v n xs, fun c => v.ownBlock ≠ some c, fun h hb => h.below hb, fun h _ ho hb => h.onl ho hb⟩
theorem Env.g {w : World} {l : List SF} {base e size n : Nat} {G : Value → Prop} {v : Value} {xs : List Value} (E : Env w l) (h : RowG w base e size G v n xs) : Env w (fG base e size G v n xs :: l) := ⟨h, E⟩
theorem Env.x {w : World} {l : List SF} {b T : Nat} {cs : List Value} (E : Env w l) (h : Bx w b T cs) : Env w (fX b T cs :: l) := ⟨h, E⟩
theorem okG {base e size n b : Nat} {G : Value → Prop} {v : Value} {xs : List Value} (h : v.ownBlock ≠ some b) : (fG base e size G v n xs).ok b := h
theorem CQ {b b' T : Nat} {cs : List Value} (h : b ≠ b') : (fX b' T cs).ok b := h
def aG (v : Value) : Prop := ∃ k, v = .int .u8 k
theorem Ck (k : Int) : ¬ aG (.int .u32 k) := by rintro ⟨j, h⟩; simp at h
theorem VZ {P : Program} {o : Oper} {a : Act} {w : World} {K : Act → World → Prop} {Q : Exit → Act → World → Prop} (s x : Operand) (t : TypeId)
    (ho : o.op = .call { callee := .builtin .append, args := #[s, x], argTypes := #[t, t] })
    (base : Nat) (e : TypeId) (i : TypeInfo) (z : Value) (size bytes : Nat) (ht : P.underlying t = some (.slice e)) (hi : P.info? e = some i) (hz : i.zero = some z)
    (hsize : i.size = size) (hby : i.bytes = bytes) (hzs : z.cells.size = size) (hsz : 0 < size) (G : Value → Prop) (hGz : ∀ u ∈ z.cells.toList, G u) (hGw : ∀ k, ¬ G (.int .u32 k))
    {l : List SF} (v : Value) (n : Nat) (xs : List Value) (hs : a.eval s = v) (hown : RowG w base e size G v n xs) (E : Env w l) (hok : ∀ g, v.ownBlock = some g → base ≤ g → Ok g l)
    (ad : Addr) (m c : Nat) (news : List Value) (hx : a.eval x = .slice (some ad) m c) (hl : news.length = m * size) (hnews : ∀ j u, news[j]? = some u → w.cell? (ad.add j) = some u) (h1 : ∀ u ∈ news, u.oneCell' = true) (hGn : ∀ u ∈ news, G u)
    (h63 : n + m ≤ maxLen) (hbytes : (n + m) * bytes ≤ 140737488355328) (hbase : base ≤ w.heap.size)
    (h : ∀ v' w', Env w' (fG base e size G v' (n + m) (xs ++ news) :: l) → K (a.put o.dst v') w') : o.wp P a w K Q := by
  obtain ⟨v', w', q, y, f⟩ := QU (P := P) (w := w) base t o.type e i z size bytes ht hi hz hsize hby hzs hsz G hGz v n xs hown ad m c news hl hnews h1 hGn h63 hbytes hbase
  unfold Oper.wp execOp
  simp only [ho, resolve, invoke, builtin, Sem.run_bind, Sem.run_pure, Result.andThen_ok, List.map_toArray, List.map_cons, List.map_nil, hs, hx, q]
  refine h v' w' ⟨y, ?_⟩
  rcases f with ⟨f, _⟩ | ⟨g, p, _, f⟩
  · exact E.below f
  · exact E.onl (hown.noW p hGw) (hok g p (hown.blk p).1) f
section
variable {P : Program} {o : Oper} {a : Act} {w : World} {K : Act → World → Prop} {Q : Exit → Act → World → Prop}
theorem CF {T b i TB : Nat} {x y : Operand} {cs : List Value} {v : Value} (ho : o.op = .store T x y) (hsz : (P.info? T).map (·.size) = some 1) (hv : v.oneCell' = true) (hx : a.eval x = .pointer (some ⟨b, i, none⟩)) (hy : a.eval y = v)
    (hb : Bx w b TB cs) (hi : i < cs.length) (h : ∀ w', Onl b w w' → Bx w' b TB (cs.set i v) → K (a.put o.dst undef) w') : o.wp P a w K Q := by
  have l : v.cells = #[v] := by cases v <;> first | rfl | (simp [Value.oneCell'] at hv)
  have f := run_storeCells_at (P := P) b i TB [v] 0 cs.toArray w hb (by simp; omega) (by simpa using hv)
  simp only [Nat.add_zero, List.length_singleton] at f
  have e : (List.take i cs ++ [v] ++ List.drop (i + 1) cs) = cs.set i v := by
    rw [List.set_eq_take_append_cons_drop, if_pos hi]; simp
  rw [e] at f
  unfold Oper.wp execOp
  cases k : P.info? T with
  | none => simp [k] at hsz
  | some inf =>
    simp [k] at hsz
    simp only [ho, hx, hy, Instr.storeAt, Instr.sureAddr, Sem.run_bind, Sem.run_pure, Result.andThen_ok, storeVar, l, sizeOf, typeInfo]
    simp [k, hsz, f, Oper.upon]
    exact h _ (LX _ _ _) (UM hb _)
theorem oR : ∀ (cs : List Value) (k : Nat) (acc : List Value), acc.length = k + cs.length → (cs.zipIdx k).foldl (fun (a : Array Value) (x : Value × Nat) => a.setIfInBounds (0 + x.2) x.1) acc.toArray = (acc.take k ++ cs).toArray
  | [], k, acc, h => by simp at h; simp [← h]
  | c :: cs, k, acc, h => by
    rw [List.length_cons] at h
    rw [List.zipIdx_cons, List.foldl_cons]
    have e : acc.toArray.setIfInBounds (0 + k) c = (acc.set k c).toArray := by simp
    rw [e, oR cs (k + 1) (acc.set k c) (by simp; omega)]
    have hk : k < (acc.set k c).length := by simp; omega
    rw [List.take_succ_eq_append_getElem hk, List.take_set_of_le (Nat.le_refl _)]
    simp
theorem DT {T e n : Nat} {x : Operand} {cs zs : List Value} (hT : P.underlying T = some (.slice e)) (hA : Ag P e n zs) (hn : cs.length = n) (hn0 : 0 < n) (hn1 : n ≤ 16777216) (ho : o.op = .buildSlice T 1 #[(0, x)]) (hx : a.eval x = .agg cs.toArray)
    (h : ∀ b w', b = w.heap.size → w'.heap.size = w.heap.size + 1 → Below w.heap.size w w' → Bx w' b e cs → K (a.put o.dst (.slice (some ⟨b, 0, none⟩) 1 1)) w') : o.wp P a w K Q := by
  have f := hA.i
  refine DI (v := .slice (some ⟨w.heap.size, 0, none⟩) 1 1) (w' := w.alloc (.cells cs.toArray e)) ?_ (h _ _ O AH ((Below.refl _ _).alloc (Nat.le_refl _) _) (HO w e cs))
  unfold execOp; rw [ho]
  cases k : P.info? e with
  | none => simp [k] at f
  | some inf =>
    simp [k] at f
    have u := hA.l
    simp [Instr.buildSlice, run_underlying hT, sizeOf, typeInfo, k, f.2, hx, Value.cells, newRow, newObj, zeroValue, f.1, show ¬ (2 ^ 24 < n) by omega, show ¬ n = 0 by omega]
    have p := oR cs 0 (List.map (fun x => zs[x % zs.length]?.getD default) (List.range n)) (by simp [hn])
    rw [List.take_zero, List.nil_append] at p
    have q : Instr.fill (fun i => some (i * n, n)) (Array.map (fun x => zs[x % zs.length]?.getD default) (Array.range n)) [(0, Value.agg cs.toArray)] = some cs.toArray := by
      have t : Array.map (fun x => zs[x % zs.length]?.getD default) (Array.range n) = (List.map (fun x => zs[x % zs.length]?.getD default) (List.range n)).toArray := by
        apply Array.ext <;> simp
      rw [t]
      simp only [Instr.fill, Value.cells]
      simp [hn]
      simpa using p
    rw [q]
    simp
    rfl
end
end Go.Proofs.YtmppigbbkjepiaaGreatDoor
