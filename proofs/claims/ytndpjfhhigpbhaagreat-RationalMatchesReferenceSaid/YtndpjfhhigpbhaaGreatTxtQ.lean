/- Texts of rational numbers, and how they fall apart at a slash. strings.Cut at one byte. -/
import Derived.Test.YtndpjfhhigpbhaaGreatRatL
import Derived.Test.YtndpjfhhigpbhaaGreatParM
import Derived.Test.YtndpjfhhigpbhaaGreatRefT
import Derived.Test.YtndpjfhhigpbhaaGreatRatL
import Derived.Test.YtndpjfhhigpbhaaGreatShelf
import Derived.Lib.CutLaws
import Derived.Lib.IndexLaws
import Derived.Laws.Strings3
import Derived.Shelf.RegionOpenPlain
import Derived.WalkKit
import Derived.Lib.Walk
import Derived.BigCall
import Derived.BigGuard
namespace Go.Proofs.YtndpjfhhigpbhaaGreat
open Go.RowKit W
/-- The text of a rational number. -/
def txtQ (x : Rat) : ByteArray := if ((x.den : Nat) : Int) = 1 then txtS x.num else txtS x.num ++ ⟨#[47]⟩ ++ txtS ((x.den : Nat) : Int)
theorem txtS_dataQ (z : Int) : (txtS z).data.toList = txt z := by unfold txtS; simp
theorem txt_slash (z : Int) : (47 : UInt8) ∉ txt z := by
  intro h
  unfold txt at h
  rcases List.mem_append.1 h with h | h
  · split at h
    · simp at h
    · cases h
  · obtain ⟨d, hd, e⟩ := List.mem_map.1 h
    have h1 := dec_Dg z.natAbs d hd
    have h2 : (UInt8.ofNat (48 + d)).toNat = (47 : UInt8).toNat := by rw [e]
    rw [UInt8.toNat_ofNat'] at h2
    change _ = 47 at h2
    omega
theorem txtS_le {z : Int} {k : Nat} (h : Fits z k) (hk : 0 < k) : (txtS z).size ≤ 10 * k + 1 := by
  have h1 : (txtS z).size = (txt z).length := by rw [← txtS_dataQ]; rfl
  rw [h1]
  unfold txt
  rw [List.length_append, bts_len]
  have := dec_fits h hk
  split <;> simp <;> omega
theorem ba_ext {a b : ByteArray} (h : a.data.toList = b.data.toList) : a = b := by
  cases a; cases b; simp at h ⊢; exact h
theorem txtQ_data (x : Rat) : (txtQ x).data.toList = if ((x.den : Nat) : Int) = 1 then txt x.num else txt x.num ++ 47 :: txt ((x.den : Nat) : Int) := by
  unfold txtQ
  split
  · exact txtS_dataQ _
  · rw [ByteArray.data_append, ByteArray.data_append, Array.toList_append, Array.toList_append, txtS_dataQ, txtS_dataQ]; simp
/-- A list falls apart at the first slash in one way. -/
theorem slash_unique {a b c d : List UInt8} (ha : (47 : UInt8) ∉ a) (hc : (47 : UInt8) ∉ c) (h : a ++ 47 :: b = c ++ 47 :: d) : a = c ∧ b = d := by
  induction a generalizing c with
  | nil =>
    cases c with
    | nil => simpa using h
    | cons y c => simp at h; exact absurd (by rw [h.1]; simp) hc
  | cons x a ih =>
    cases c with
    | nil => simp at h; exact absurd (by rw [h.1]; simp) ha
    | cons y c =>
      simp only [List.cons_append, List.cons.injEq] at h
      obtain ⟨h1, h2⟩ := ih (fun g => ha (List.mem_cons_of_mem _ g)) (fun g => hc (List.mem_cons_of_mem _ g)) h.2
      exact ⟨by rw [h.1, h1], h2⟩
/-- n and d are the numerator and the denominator of a rational number. -/
def vq (n d : Int) : Prop := 0 < d ∧ Nat.gcd n.natAbs d.natAbs = 1
theorem vq_rat (x : Rat) : vq x.num ((x.den : Nat) : Int) := ⟨denI x, by rw [Int.natAbs_natCast]; exact x.reduced⟩
theorem vq_div {n d : Int} (h : vq n d) : (Rat.divInt n d).num = n ∧ (((Rat.divInt n d).den : Nat) : Int) = d := low_one h.1 (by rw [h.2]; rfl)
theorem vq_whole (n : Int) : vq n 1 := ⟨by decide, by simp⟩
section
variable {l a b : List UInt8} {n d : Int}
/-- l has no slash, and is the text of n. -/
theorem pq_whole (ha : parseZ l = some n) : l = (txtQ (n : Rat)).data.toList := by
  rw [txtQ_data]
  rw [if_pos (by simp), Rat.num_intCast, parse_some ha]
theorem pq_none (hs : (47 : UInt8) ∉ l) (ha : parseZ l = none) (x : Rat) : l ≠ (txtQ x).data.toList := by
  intro e
  rw [txtQ_data] at e
  split at e
  · exact parse_none ha _ e.symm
  · rw [e] at hs; simp at hs
theorem pq_bad1 (hs : (47 : UInt8) ∉ a) (ha : parseZ a = none) (x : Rat) : a ++ 47 :: b ≠ (txtQ x).data.toList := by
  intro e
  rw [txtQ_data] at e
  split at e
  · exact txt_slash x.num (by rw [← e]; simp)
  · exact parse_none ha _ (slash_unique hs (txt_slash _) e).1.symm
theorem pq_bad2 (hs : (47 : UInt8) ∉ a) (hb : parseZ b = none) (x : Rat) : a ++ 47 :: b ≠ (txtQ x).data.toList := by
  intro e
  rw [txtQ_data] at e
  split at e
  · exact txt_slash x.num (by rw [← e]; simp)
  · exact parse_none hb _ (slash_unique hs (txt_slash _) e).2.symm
theorem pq_bad3 (hs : (47 : UInt8) ∉ a) (ha : parseZ a = some n) (hb : parseZ b = some d) (h : ¬ vq n d ∨ d = 1) (x : Rat) : a ++ 47 :: b ≠ (txtQ x).data.toList := by
  intro e
  rw [txtQ_data] at e
  split at e
  · exact txt_slash x.num (by rw [← e]; simp)
  · rename_i h1
    obtain ⟨e1, e2⟩ := slash_unique hs (txt_slash _) e
    rw [← parse_some ha] at e1
    rw [← parse_some hb] at e2
    rw [txt_inj e1, txt_inj e2] at h
    rcases h with h | h
    · exact h (vq_rat x)
    · exact h1 h
theorem pq_ok (ha : parseZ a = some n) (hb : parseZ b = some d) (h : vq n d) (h1 : d ≠ 1) : a ++ 47 :: b = (txtQ (Rat.divInt n d)).data.toList := by
  obtain ⟨e1, e2⟩ := vq_div h
  rw [txtQ_data, e1, e2, if_neg h1, parse_some ha, parse_some hb]
end
theorem txtQ_inj {x y : Rat} (h : txtQ x = txtQ y) : x = y := by
  have h : (txtQ x).data.toList = (txtQ y).data.toList := by rw [h]
  rw [txtQ_data, txtQ_data] at h
  split at h <;> split at h <;> rename_i h1 h2
  · exact Rat.ext (txt_inj h) (by omega)
  · exact absurd (by rw [h]; simp) (txt_slash x.num)
  · exact absurd (by rw [← h]; simp) (txt_slash y.num)
  · obtain ⟨e1, e2⟩ := slash_unique (txt_slash _) (txt_slash _) h
    have := txt_inj e2
    exact Rat.ext (txt_inj e1) (by omega)
/-- What Parse leaves: an error where the string is too long or no text of a rational number, else the number of which it is the text. -/
inductive ParQ (w0 : World) (R : Int → Int → Int → Ending → World → Prop) (s : ByteArray) (e : Ending) (w' : World) : Prop
  | big (h : 4000 < s.size) (r : R 0 0 2 e w')
  | form (h : s.size ≤ 4000) (h' : ∀ x, s ≠ txtQ x) (r : R 0 0 3 e w')
  | ok (x : Rat) (h : s.size ≤ 4000) (h' : s = txtQ x) (r : R x.num ((x.den : Nat) : Int) 0 e w')
theorem cut_hit {l : List UInt8} {c : UInt8} (h : c ∈ l) : ∃ a b, l = a ++ c :: b ∧ c ∉ a := by
  induction l with
  | nil => cases h
  | cons x l ih =>
    by_cases hx : x = c
    · exact ⟨[], l, by simp [hx], by simp⟩
    · rcases List.mem_cons.1 h with e | e
      · exact absurd e.symm hx
      · obtain ⟨a, b, e1, e2⟩ := ih e
        exact ⟨x :: a, b, by simp [e1], by simp [e2, Ne.symm hx]⟩
theorem parse_fitsQ {l : List UInt8} {d : Int} (hs : l.length ≤ 4000) (h : parseZ l = some d) : Fits d 4000 := by
  have h1 := parse_some h
  have h2 : (dec d.natAbs).length ≤ 4000 := by
    have : (txt d).length ≤ 4000 := by rw [h1]; exact hs
    unfold txt bts at this; rw [List.length_append, List.length_map] at this; omega
  have h3 := val10_lt (dec_Dg d.natAbs)
  rw [val10_dec] at h3
  exact (Fits_lt (m := (dec d.natAbs).length) (Nat.lt_of_lt_of_le h3 (Nat.pow_le_pow_left (by decide) _))).mono h2
end Go.Proofs.YtndpjfhhigpbhaaGreat
namespace Go.Proofs.YtndpjfhhigpbhaaGreat
open Go.RowKit W
theorem fnc_Index : Fn Tryz.prog 108 := ⟨_, Tryz.func108, by kernel_rfl, rfl⟩
theorem fnc_Cut0 : Fn Tryz.prog 91 := ⟨_, Tryz.func91, by kernel_rfl, rfl⟩
theorem fnc_Cut : Fn Tryz.prog 68 := ⟨_, Tryz.func68, by kernel_rfl, rfl⟩
set_option maxHeartbeats 2000000 in
set_option maxRecDepth 100000 in
theorem Cut0_miss (s sep : ByteArray) (c : UInt8) (hsep : sep = ⟨#[c]⟩) (w : World) (h : Lib.indexByte s.data.toList c = -1) :
    Calls Tryz.prog 91 #[.string s, .string sep] w fun e w' => e = .returned (.tuple #[.string s, .string ByteArray.empty, .bool false]) ∧ ∃ n, w' = w.drewN n := by
  have hi : ∀ w, Calls Tryz.prog 108 #[.string s, .string sep] w fun e w' => e = .returned (.int .i64 (-1)) ∧ w' = w := fun w => by rw [hsep, ← h]; exact Tryz.stringslite_Index_one s c w
  have he : ∀ args w, (callFunc 108 args).run Tryz.prog w = .ok (.enter 108 args) w := fnc_Index.run
  clear hsep h
  go_enter Tryz.func91, Tryz.ntmps91
  go_wp2_with (go_at_fn 108; refine (hi _).mono ?_; rintro e w' ⟨rfl, rfl⟩)
  go_ret3
  exact ⟨rfl, 0, rfl⟩
set_option maxHeartbeats 2000000 in
set_option maxRecDepth 100000 in
theorem Cut0_hit (s sep : ByteArray) (c : UInt8) (i : Nat) (hsep : sep = ⟨#[c]⟩) (w : World) (h : Lib.indexByte s.data.toList c = (i : Int)) (hroom : i + sep.size ≤ s.size) (hs : s.size < 4294967281) :
    Calls Tryz.prog 91 #[.string s, .string sep] w fun e w' => e = .returned (.tuple #[.string (s.extract 0 i), .string (s.extract (i + sep.size) s.size), .bool true]) ∧ ∃ n, w' = w.drewN n := by
  have hi : ∀ w, Calls Tryz.prog 108 #[.string s, .string sep] w fun e w' => e = .returned (.int .i64 (i : Int)) ∧ w' = w := fun w => by rw [hsep, ← h]; exact Tryz.stringslite_Index_one s c w
  have he : ∀ args w, (callFunc 108 args).run Tryz.prog w = .ok (.enter 108 args) w := fnc_Index.run
  have mixed : Tryz.prog.follows .mixedOrders = true := by kernel_rfl
  have c1 : (0 : Int) ≤ ↑i := by omega
  have c2 : (↑i : Int) ≤ ↑s.size := by omega
  have c3 : (0 : Int) ≤ ↑i + ↑sep.size := by omega
  have c4 : (↑i + ↑sep.size : Int) ≤ ↑s.size := by omega
  clear hsep h
  go_enter Tryz.func91, Tryz.ntmps91
  go_wp2_with (go_at_fn 108; refine (hi _).mono ?_; rintro e w' ⟨rfl, rfl⟩)
  go_region_o
  go_wp2
  go_ret3
  exact ⟨rfl, 1, rfl⟩
set_option maxHeartbeats 1000000 in
theorem Cut_of {s sep : ByteArray} {v : Value} (h : ∀ w, Calls Tryz.prog 91 #[.string s, .string sep] w fun e w' => e = .returned v ∧ ∃ n, w' = w.drewN n) {a b : ByteArray} {f : Bool} (hv : v = .tuple #[.string a, .string b, .bool f]) (w : World) :
    Calls Tryz.prog 68 #[.string s, .string sep] w fun e w' => e = .returned (.tuple #[.string a, .string b, .bool f]) ∧ ∃ n, w' = w.drewN n := by
  subst hv
  have he : ∀ args w, (callFunc 91 args).run Tryz.prog w = .ok (.enter 91 args) w := fnc_Cut0.run
  go_enter Tryz.func68, Tryz.ntmps68
  go_wp2_with (go_at_fn 91; refine (h _).mono ?_; rintro e w' ⟨rfl, n, rfl⟩)
  go_ret3
  exact ⟨rfl, n, rfl⟩
/-- What a function leaves that returns v. -/
def RetVq (w0 : World) (v : Value) (e : Ending) (w' : World) : Prop := e = .returned v ∧ Below w0.heap.size w0 w'
theorem Cut_no (s : ByteArray) (c : UInt8) (w : World) (h : c ∉ s.data.toList) : Calls Tryz.prog 68 #[.string s, .string ⟨#[c]⟩] w (RetVq w (.tuple #[.string s, .string ByteArray.empty, .bool false])) := by
  have h1 : Lib.indexByte s.data.toList c = -1 := by
    have := Lib.indexByte_ge s.data.toList c
    rcases Int.lt_or_le (Lib.indexByte s.data.toList c) 0 with e | e
    · omega
    · obtain ⟨o, ho⟩ : ∃ o : Nat, Lib.indexByte s.data.toList c = o := ⟨(Lib.indexByte s.data.toList c).toNat, by omega⟩
      exact absurd (List.mem_of_getElem? (Lib.indexByte_some ho).1) h
  refine (Cut_of (fun w => Cut0_miss s _ c rfl w h1) rfl w).mono ?_
  rintro e w' ⟨rfl, n, rfl⟩
  exact ⟨rfl, Below.drewN (Below.refl _ _) n⟩
theorem Cut_yes (s a b : ByteArray) (c : UInt8) (w : World) (h : s.data.toList = a.data.toList ++ c :: b.data.toList) (hc : c ∉ a.data.toList) (hs : s.size < 4294967281) :
    Calls Tryz.prog 68 #[.string s, .string ⟨#[c]⟩] w (RetVq w (.tuple #[.string a, .string b, .bool true])) := by
  have hl : s.data.toList[a.size]? = some c := by
    rw [h, List.getElem?_append_right (by rw [Lib.size_eq]; exact Nat.le_refl _), Lib.size_eq, Nat.sub_self]; rfl
  have h1 : Lib.indexByte s.data.toList c = ((a.size : Nat) : Int) := by
    have := Lib.indexByte_ge s.data.toList c
    rcases Int.lt_or_le (Lib.indexByte s.data.toList c) 0 with e | e
    · exact absurd hl (Lib.indexByte_none (by omega) _)
    · obtain ⟨o, ho⟩ : ∃ o : Nat, Lib.indexByte s.data.toList c = o := ⟨(Lib.indexByte s.data.toList c).toNat, by omega⟩
      obtain ⟨g1, g2⟩ := Lib.indexByte_some ho
      rcases Nat.lt_trichotomy o a.size with k | k | k
      · rw [h, List.getElem?_append_left (by rw [← Lib.size_eq]; exact k)] at g1
        exact absurd (List.mem_of_getElem? g1) hc
      · rw [ho, k]
      · exact absurd hl (g2 _ k)
  have hz : s.size = a.size + (b.size + 1) := by
    rw [Lib.size_eq, h, Lib.size_eq, Lib.size_eq]; simp
  have h0 : (⟨#[c]⟩ : ByteArray).size = 1 := rfl
  have e1 : s.extract 0 a.size = a := ba_ext (by rw [Lib.extract_eq, h, show a.size = a.data.toList.length from Lib.size_eq a]; simp)
  have e2 : s.extract (a.size + (⟨#[c]⟩ : ByteArray).size) s.size = b := ba_ext (by
    rw [Lib.extract_eq, h0, hz, h]
    rw [List.drop_append, List.drop_of_length_le (by rw [Lib.size_eq]; omega), show a.size + 1 - a.data.toList.length = 1 by rw [Lib.size_eq]; omega]
    simp
    rw [List.take_of_length_le]; rw [← Lib.size_eq]; omega)
  refine (Cut_of (fun w => Cut0_hit s _ c a.size rfl w h1 (by rw [h0]; omega) hs) (by rw [e1, e2]) w).mono ?_
  rintro e w' ⟨rfl, n, rfl⟩
  exact ⟨rfl, Below.drewN (Below.refl _ _) n⟩
section
variable {P : Program} {o : Oper} {a : Act} {w : World} {K : Act → World → Prop} {Q : Exit → Act → World → Prop} {f : Nat} {args : List Operand} {tys : Array TypeId} {vs : List Value} {l : List SF}
theorem Oper.wp_callVq {v : Value} (hf : Fn P f) (ho : o.op = .call { callee := .value (.func f), args := args.toArray, argTypes := tys }) (hc : Calls P f vs.toArray w (RetVq w v)) (hv : args.map a.eval = vs) (E : Env w l)
    (h : ∀ w', Below w.heap.size w w' → Env w' l → K (a.put o.dst v) w') : o.wp P a w K Q := by
  refine Oper.wp_call hf ho hc hv ?_
  rintro e w' ⟨rfl, hb⟩
  exact ⟨_, rfl, h w' hb (E.below hb)⟩
end
end Go.Proofs.YtndpjfhhigpbhaaGreat
