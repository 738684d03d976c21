/- Facts for the walk of Text. -/
import Derived.Test.YtndpjfhhigpbhaaGreatTxtM
import Derived.Test.YtndpjfhhigpbhaaGreatKitA
import Derived.Test.YtndpjfhhigpbhaaGreatBezD
namespace Go.Proofs.YtndpjfhhigpbhaaGreat
open Go.RowKit W
/-- The cells of decimal digits. -/
def dcs (l : List Nat) : List Value := l.map fun d => Value.int .u8 ((48 + d : Nat) : Int)
/-- Nine cells, of which the last j hold the last digits of a number. -/
def cl (j c : Nat) : List Value := List.replicate (9 - j) (Value.int .u8 0) ++ dcs (pad j c)
theorem dcs_length (l : List Nat) : (dcs l).length = l.length := by simp [dcs]
theorem dcs_append (a b : List Nat) : dcs (a ++ b) = dcs a ++ dcs b := by simp [dcs]
theorem dcs_one (l : List Nat) : ∀ v ∈ dcs l, v.oneCell' = true := by
  intro v hv
  obtain ⟨d, _, rfl⟩ := List.mem_map.1 hv
  rfl
theorem dcs_get (l : List Nat) (i : Nat) (h : i < l.length) : (dcs l)[i]? = some (.int .u8 ((48 + gd l i : Nat) : Int)) := by
  rw [dcs, List.getElem?_map, List.getElem?_eq_getElem h, gd_eq l i h]; rfl
theorem pad_front : ∀ (k c : Nat), pad (k + 1) c = (c / 10 ^ k % 10) :: pad k c
  | 0, c => by simp [pad]
  | k + 1, c => by
    rw [pad, pad_front k (c / 10), List.cons_append, Nat.div_div_eq_div_mul, Nat.pow_succ, Nat.mul_comm 10]
    rfl
theorem cl_length {j : Nat} (c : Nat) (h : j ≤ 9) : (cl j c).length = 9 := by
  rw [cl, List.length_append, List.length_replicate, dcs_length, pad_length]; omega
theorem cl_set {j c : Nat} {X : Int} (h : j < 9) (hX : X = ((48 + c / 10 ^ j % 10 : Nat) : Int)) : (cl j c).set (0 + (8 - j) * 1) (.int .u8 X) = cl (j + 1) c := by
  subst hX
  obtain ⟨k, hk⟩ : ∃ k, 9 - j = k + 1 := ⟨8 - j, by omega⟩
  rw [cl, cl, pad_front, hk, show 0 + (8 - j) * 1 = k from by omega, show 9 - (j + 1) = k from by omega, List.replicate_succ', List.append_assoc]
  rw [List.set_append_right _ _ (by simp)]
  simp [dcs]
theorem cl_nine (c : Nat) : cl 9 c = dcs (pad 9 c) := by simp [cl]
theorem cl_now (j c : Nat) : noWs (cl j c) := by
  intro v hv k e
  subst e
  rw [cl, List.mem_append] at hv
  rcases hv with hv | hv
  · have := (List.mem_replicate.1 hv).2; simp at this
  · obtain ⟨d, _, h⟩ := List.mem_map.1 hv; simp at h
theorem Ag9 : Ag Tryz.prog 84 9 (List.replicate 9 (.int .u8 0)) := ⟨⟨_, Tryz.underlying84, rfl⟩, by kernel_rfl, rfl⟩
theorem cl_zero (c : Nat) : List.replicate 9 (Value.int .u8 0) = cl 0 c := by simp [cl, dcs, pad]
theorem Sl.shape {w : World} {v : Value} {l : List Nat} (h : Sl w v l) : ∃ ao cap, v = .slice ao l.length cap := by
  obtain ⟨ao, cap, rfl, _⟩ := h
  exact ⟨_, _, rfl⟩
theorem trim_digs (v : Value) (m : Nat) (w : World) (h : Sl w v (digs m)) :
    Calls Tryz.prog 85 #[v] w (Ret w (digs m)) := by
  refine (trim_sl v _ w h).mono ?_
  rintro e w' ⟨rfl, v', rfl, h'⟩
  have := h' _ h
  rw [val_digs] at this
  exact ⟨v', rfl, this, Below.refl _ _⟩
theorem divSmall_m (v : Value) (m d : Nat) (w : World) (h : Sl w v (digs m)) (hf : (digs m).length ≤ 1000000000) (hd : 0 < d) (hd2 : d < 4294967296) :
    Calls Tryz.prog 89 #[v, .int .u64 d] w (RetDs w (m / d) (m % d)) := by
  have := divideSmall_sl v (digs m) d w h hf hd hd2
  rwa [val_digs] at this
theorem chunk_bound {L : List Nat} {m n F : Nat} (h : n = valC L + 1000000000 ^ L.length * m) (hm : m ≠ 0) (hF : n < 4294967296 ^ F) : L.length ≤ 2 * F := by
  have h1 : 1000000000 ^ L.length ≤ n := by
    have : 1000000000 ^ L.length * 1 ≤ 1000000000 ^ L.length * m := Nat.mul_le_mul_left _ (by omega)
    omega
  rcases Nat.lt_or_ge (2 * F) L.length with h2 | h2
  · exfalso
    have h3 : 1000000000 ^ (2 * F) ≤ 1000000000 ^ L.length := Nat.pow_le_pow_right (by omega) (by omega)
    rw [Nat.pow_mul] at h3
    have h4 : 4294967296 ^ F ≤ (1000000000 ^ 2) ^ F := Nat.pow_le_pow_left (by decide) F
    omega
  · exact h2
theorem chunk_step {L : List Nat} {m n : Nat} (h : n = valC L + 1000000000 ^ L.length * m) : n = valC (L ++ [m % 1000000000]) + 1000000000 ^ (L ++ [m % 1000000000]).length * (m / 1000000000) := by
  rw [valC_snoc, List.length_append, List.length_singleton, Nat.pow_succ, h]
  have := Nat.div_add_mod m 1000000000
  generalize m / 1000000000 = q at *
  generalize m % 1000000000 = r at *
  subst this
  grind
theorem chunk_all {L : List Nat} (h : ∀ c ∈ L, c < 1000000000) (m : Nat) : ∀ c ∈ L ++ [m % 1000000000], c < 1000000000 := by
  intro c hc
  rcases List.mem_append.1 hc with h1 | h1
  · exact h c h1
  · simp at h1; subst h1; exact Nat.mod_lt _ (by decide)
/-- What Text leaves. -/
def RetT (w0 : World) (z : Int) (e : Ending) (w' : World) : Prop := e = .returned (.string (txtS z)) ∧ Below w0.heap.size w0 w'
theorem Oper.wp_callT {P : Program} {o : Oper} {a : Act} {w : World} {K : Act → World → Prop} {Q : Exit → Act → World → Prop} {f : Nat} {args : List Operand} {tys : Array TypeId} {vs : List Value} {l : List SF} {z : Int}
    (hf : Fn P f) (ho : o.op = .call { callee := .value (.func f), args := args.toArray, argTypes := tys }) (hc : Calls P f vs.toArray w (RetT w z)) (hv : args.map a.eval = vs) (E : Env w l)
    (h : ∀ w', Below w.heap.size w w' → Env w' l → K (a.put o.dst (.string (txtS z))) w') : o.wp P a w K Q := by
  refine Oper.wp_call hf ho hc hv ?_
  rintro e w' ⟨rfl, hb⟩
  exact ⟨_, rfl, h w' hb (E.below hb)⟩
theorem Oper.wp_callDs {P : Program} {o : Oper} {a : Act} {w : World} {K : Act → World → Prop} {Q : Exit → Act → World → Prop} {f : Nat} {args : List Operand} {tys : Array TypeId} {vs : List Value} {l : List SF} {q r : Nat}
    (hf : Fn P f) (ho : o.op = .call { callee := .value (.func f), args := args.toArray, argTypes := tys }) (hc : Calls P f vs.toArray w (RetDs w q r)) (hv : args.map a.eval = vs) (E : Env w l)
    (h : ∀ w' v, Below w.heap.size w w' → Env w' (fS v (digs q) :: l) → K (a.put o.dst (.tuple #[v, .int .u64 r])) w') : o.wp P a w K Q := by
  refine Oper.wp_call hf ho hc hv ?_
  rintro e w' ⟨v, rfl, hs, hb⟩
  exact ⟨_, rfl, h w' v hb ⟨hs, E.below hb⟩⟩
theorem info_arr9 : (Tryz.prog.info? 84).map (fun i => (i.zero, i.size, i.bytes)) = some (some (.agg (List.replicate 9 (.int .u8 0)).toArray), 9, 9) := by kernel_rfl
theorem info_u8 : (Tryz.prog.info? 5).map (fun i => (i.zero, i.size, i.bytes)) = some (some (.int .u8 0), 1, 1) := by kernel_rfl
theorem isU8_rep : ∀ u ∈ (Value.agg (List.replicate 9 (.int .u8 0)).toArray).cells.toList, isU8 u := by
  intro u hu
  simp only [Value.cells, List.toList_toArray] at hu
  exact ⟨0, (List.mem_replicate.1 hu).2⟩
theorem isU8_zero : ∀ u ∈ (Value.int .u8 0).cells.toList, isU8 u := by
  intro u hu
  simp [Value.cells] at hu
  exact ⟨0, hu⟩
theorem isU8_dcs (l : List Nat) : ∀ u ∈ dcs l, isU8 u := by
  intro v hv
  obtain ⟨d, _, rfl⟩ := List.mem_map.1 hv
  exact ⟨_, rfl⟩
theorem run_len9 {ρ : Operand → Value} {o : Oper} {w : World} {x : Operand} {ao : Option Addr} {n c : Nat} (ho : o.op = .call { callee := .builtin .len, args := #[x], argTypes := #[81] }) (hx : ρ x = .slice ao n c) : (execOp ρ o).run Tryz.prog w = .ok (.value (.int .i64 n)) w := by
  unfold execOp; rw [ho]; simp [hx, go_sem]
theorem run_sliceA9 {ρ : Operand → Value} {o : Oper} {w : World} {x : Operand} {b off : Nat} (ho : o.op = .slice 84 x none none none) (hx : ρ x = .pointer (some ⟨b, off, none⟩)) : (execOp ρ o).run Tryz.prog w = .ok (.value (.slice (some ⟨b, off, none⟩) 9 9)) w := by
  unfold execOp; rw [ho]; simp [hx, Instr.sliceAt, Instr.sureAddr, run_underlying Tryz.underlying84, Instr.sliceBounds, go_sem]
theorem run_tail8 {ρ : Operand → Value} {o : Oper} {w : World} {x : Operand} {g p n c : Nat} (ho : o.op = .slice 85 x (some (.const (.int .i64 1))) none none) (hr : ρ (.const (.int .i64 1)) = .int .i64 1) (hx : ρ x = .slice (some ⟨g, p, none⟩) n c) (h1 : 1 ≤ n) (_h2 : n ≤ c) (h3 : 1 < c) :
    (execOp ρ o).run Tryz.prog w = .ok (.value (.slice (some ⟨g, p + 1, none⟩) (n - 1) (c - 1))) w := by
  unfold execOp; rw [ho]
  simp [hx, hr, Instr.sliceAt, Instr.slice, run_underlying Tryz.underlying85, Instr.sliceBounds, Instr.sliceBound, asIntOf, go_sem, show ¬ c = 1 by omega]
  intro h; omega
theorem tmod_nat (a b : Nat) : ((a : Nat) : Int).tmod ((b : Nat) : Int) = ((a % b : Nat) : Int) := by
  rw [Int.tmod_eq_emod_of_nonneg (by omega)]; omega
theorem wrap_u64_nat {a : Nat} {X : Int} (hX : X = (a : Int)) (h : a < 18446744073709551616) : IntKind.u64.wrap X = (a : Int) := by subst hX; simp only [IntKind.wrap_u64]; omega
theorem wrap_u8_nat {a : Nat} {X : Int} (hX : X = (a : Int)) (h : a < 256) : IntKind.u8.wrap X = (a : Int) := by subst hX; simp only [IntKind.wrap_u8]; omega
theorem quo_ten {b : Nat} (h : b < 18446744073709551616) : IntKind.u64.wrap (((b : Nat) : Int).tdiv 10) = ((b / 10 : Nat) : Int) := by
  rw [Int.tdiv_eq_ediv_of_nonneg (by omega)]
  simp only [IntKind.wrap_u64]
  omega
theorem len_posN {m : Nat} (h : m ≠ 0) : 0 < (digs m).length := by
  rcases Nat.eq_zero_or_pos (digs m).length with e | e
  · exact absurd ((digs_nil_iff m).1 (List.eq_nil_of_length_eq_zero e)) h
  · exact e
/-- There are at least n blocks. -/
def fN (n : Nat) : SF := ⟨fun w => n ≤ w.heap.size, fun _ => True, fun h hb => Nat.le_trans h hb.size, fun h _ _ hb => by rw [hb.size]; exact h⟩
theorem Env.n {w : World} {l : List SF} {n : Nat} (E : Env w l) (h : n ≤ w.heap.size) : Env w (fN n :: l) := ⟨h, E⟩
theorem isAgg_u8 (w : World) : (isAgg 5).run Tryz.prog w = .ok false w := by
  simp [go_sem]
theorem dig_get (D : List Nat) (p q : Nat) (h : p + q < D.length) : ((D.drop p).map fun d => ((48 + d : Nat) : Int)).getD q 0 = ((48 + gd D (p + q) : Nat) : Int) := by
  rw [List.getD_eq_getElem?_getD, List.getElem?_map, List.getElem?_drop, List.getElem?_eq_getElem h, gd_eq D _ h]; rfl
theorem txt_zero : txtS 0 = ⟨#[48]⟩ := by
  unfold txtS txt
  rw [Int.natAbs_zero, dec_lt 0 (by omega)]
  rfl
theorem bts_nums (l : List Nat) (_h : Dg l) : (strOfNums (l.map fun d => ((48 + d : Nat) : Int))).data.toList = bts l := by
  rw [strOfNums_data, List.map_map, bts]
  apply List.map_congr_left
  intro d hd
  show UInt8.ofNat (((48 + d : Nat) : Int).toNat) = _
  rw [Int.toNat_natCast]
theorem txt_pos {x : Int} {l : List Nat} (h : ¬ x < 0) (hl : l = dec x.natAbs) : strOfNums (l.map fun d => ((48 + d : Nat) : Int)) = txtS x := by
  subst hl
  apply ByteArray.ext
  apply Array.ext'
  rw [bts_nums _ (dec_Dg _)]
  simp [txtS, txt, h]
theorem txt_neg {x : Int} {l : List Nat} (h : x < 0) (hl : l = dec x.natAbs) : (⟨#[45]⟩ : ByteArray) ++ strOfNums (l.map fun d => ((48 + d : Nat) : Int)) = txtS x := by
  subst hl
  apply ByteArray.ext
  apply Array.ext'
  rw [ByteArray.data_append, Array.toList_append, bts_nums _ (dec_Dg _)]
  simp [txtS, txt, h]
theorem strip_keep {l : List Nat} (h : l.head? ≠ some 0) : strip l = l := by
  cases l with
  | nil => rfl
  | cons d l => cases d with
    | zero => simp at h
    | succ d => rfl
theorem strip_step {T : List Nat} {p : Nat} (hp : p < T.length) (h : gd T p = 0) (hs : strip (T.drop p) = strip T) : strip (T.drop (p + 1)) = strip T := by
  rw [← hs, List.drop_eq_getElem_cons hp]
  have : T[p] = 0 := by rw [← gd_eq T p hp]; exact h
  rw [this, strip]
theorem strip_done {T : List Nat} {p : Nat} (hp : p < T.length) (h : gd T p ≠ 0) (hs : strip (T.drop p) = strip T) : T.drop p = strip T := by
  rw [← hs]
  refine (strip_keep ?_).symm
  rw [List.drop_eq_getElem_cons hp]
  simp only [List.head?_cons, ne_eq, Option.some.injEq]
  rw [← gd_eq T p hp]; exact h
theorem strip_more {T : List Nat} {p : Nat} (hp : p < T.length) (h : gd T p = 0) (hs : strip (T.drop p) = strip T) (hT : strip T ≠ []) : p + 1 < T.length := by
  rcases Nat.lt_or_ge (p + 1) T.length with h1 | h1
  · exact h1
  · exfalso
    have := strip_step hp h hs
    rw [List.drop_of_length_le h1] at this
    exact hT this.symm
theorem pad_drop_get (L : List Nat) (i : Nat) (h : i < L.length) : L.reverse.take (i + 1) = L.reverse.take i ++ [gd L (L.length - 1 - i)] := by
  rw [List.take_succ_eq_append_getElem (by simpa using h), List.getElem_reverse, gd_eq L (L.length - 1 - i) (by omega)]
theorem flat_get (L : List Nat) (c j : Nat) (hc : c < L.length) (hj : j < 9) : (dcs (L.flatMap (pad 9)))[0 + c * 9 + j]? = (dcs (pad 9 (gd L c)))[j]? := by
  induction L generalizing c with
  | nil => simp at hc
  | cons x L ih =>
    rw [List.flatMap_cons, dcs_append]
    cases c with
    | zero =>
      rw [List.getElem?_append_left (by rw [dcs_length, pad_length]; omega)]
      simp [gd]
    | succ c =>
      rw [List.getElem?_append_right (by rw [dcs_length, pad_length]; omega), dcs_length, pad_length]
      have e : gd (x :: L) (c + 1) = gd L c := by unfold gd; simp
      rw [e, ← ih c (by simpa using hc), show 0 + (c + 1) * 9 + j - 9 = 0 + c * 9 + j from by omega]
end Go.Proofs.YtndpjfhhigpbhaaGreat
