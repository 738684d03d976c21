/- Helping facts of SynR; no other conditions. -/
import Derived.Test.YtmppigbbkjepiaaGreatDoorSynL
namespace Go.Proofs.YtmppigbbkjepiaaGreatDoor
open W
theorem YK (z : Int) : ∀ b ∈ txt z, b = 45 ∨ (48 ≤ b.toNat ∧ b.toNat ≤ 57) := by
  intro b e
  unfold txt at e
  rcases List.mem_append.1 e with h | h
  · split at h
    · simp at h; exact .inl h
    · cases h
  · exact .inr (NT (zY _) b h)
theorem wO (z : Int) : txt z ≠ [] := by
  intro h
  unfold txt aQ at h
  have := rM z.natAbs
  simp at h
  exact this h.2
theorem jI (x : Rat) : ∀ b ∈ (JZ x).data.toList, b = 45 ∨ b = 47 ∨ (48 ≤ b.toNat ∧ b.toNat ≤ 57) := by
  intro b e
  rw [IF] at e
  have f : ∀ z, b ∈ txt z → b = 45 ∨ b = 47 ∨ (48 ≤ b.toNat ∧ b.toNat ≤ 57) := fun z h => (YK z b h).elim .inl (fun h => .inr (.inr h))
  split at e
  · exact f _ e
  · rcases List.mem_append.1 e with h | h
    · exact f _ h
    · rcases List.mem_cons.1 h with h | h
      · exact .inr (.inl h)
      · exact f _ h
theorem Pj (x : Rat) : (JZ x).data.toList ≠ [] := by
  rw [IF]
  split
  · exact wO _
  · simp
theorem wN {z : Int} {b : UInt8} (h : ¬ (b = 45 ∨ (48 ≤ b.toNat ∧ b.toNat ≤ 57))) : b ∉ txt z := fun e => h (YK z b e)
theorem Ar {x : Rat} {b : UInt8} (h : ¬ (b = 45 ∨ b = 47 ∨ (48 ≤ b.toNat ∧ b.toNat ≤ 57))) : b ∉ (JZ x).data.toList := fun e => h (jI x b e)
theorem yB {l : Bs} {c : UInt8} {r : Bs} (hl : l = c :: r) (h : OZ c = true) : LW l = none := by
  cases f : LW l with
  | none => rfl
  | some x =>
    have k := TC f
    have e := jI x c (by rw [← k, hl]; simp)
    exfalso
    unfold OZ at h
    simp only [Bool.or_eq_true, Bool.and_eq_true, decide_eq_true_eq] at h
    rcases e with rfl | rfl | e
    · revert h; decide
    · revert h; decide
    · omega
theorem Qq {x : Rat} (h : 0 < x) : (JZ x).data.toList.head? ≠ some 45 := by
  have k : ¬ x.num < 0 := by have := pos_num.1 h; omega
  have e : (txt x.num).head? ≠ some 45 := by
    unfold txt
    rw [if_neg k]; exact dD (OO _)
  rw [IF]
  split
  · exact e
  · cases f : txt x.num with
    | nil => exact absurd f (wO _)
    | cons c r => rw [f] at e; simpa using e
theorem Mz {v : Bs} {n : Nat} {p : Bs} (hv : LZ v = true) (h : p ∈ RX v n) : (∃ c r, p = c :: r ∧ OZ c = true) ∧ ∀ b ∈ p, MW b = true ∨ b = 94 := by
  obtain ⟨c, r, e, k⟩ := Hb hv
  have l := uJ hv
  have q : ∀ b ∈ txt (n : Int), MW b = true := by
    intro b f
    rcases YK _ b f with rfl | o
    · exfalso
      unfold txt at f
      rw [if_neg AA] at f
      have := NT (zY _) _ (by simpa using f)
      revert this; decide
    · unfold MW; simp [o.1, o.2]
  unfold RX at h
  split at h
  · cases h
  · split at h
    · simp at h; subst h; exact ⟨⟨c, r, e, k⟩, fun b f => .inl (l b f)⟩
    · simp at h; subst h
      refine ⟨⟨c, r ++ 94 :: txt (n : Int), by rw [e]; rfl, k⟩, fun b f => ?_⟩
      rcases List.mem_append.1 f with g | g
      · exact .inl (l b g)
      · rcases List.mem_cons.1 g with g | g
        · exact .inr g
        · exact .inl (q b g)
theorem cV : ∀ {vars : List Bs} {m : List Nat} {p : Bs}, (∀ v ∈ vars, LZ v = true) → p ∈ FJ vars m → (∃ c r, p = c :: r ∧ OZ c = true) ∧ ∀ b ∈ p, MW b = true ∨ b = 94
  | [], _, _, _, h => by simp [FJ] at h
  | v :: vs, [], _, _, h => by simp [FJ] at h
  | v :: vs, n :: ns, p, hv, h => by
    simp only [FJ] at h
    rcases List.mem_append.1 h with g | g
    · exact Mz (hv v AH) g
    · exact cV (fun u hu => hv u (by simp [hu])) g
theorem FV {k : Nat} {vars : List Bs} (h : DF k vars = true) : ∀ v ∈ vars, LZ v = true := by
  unfold DF at h
  simp only [Bool.and_eq_true, List.all_eq_true] at h
  exact h.1.2
theorem gJ {k : Nat} {vars : List Bs} (h : DF k vars = true) : vars.Nodup := by
  unfold DF at h
  simp only [Bool.and_eq_true, decide_eq_true_eq] at h
  exact h.2
theorem IY {k : Nat} {vars : List Bs} (h : DF k vars = true) : vars.length ≤ k := by
  unfold DF at h
  simp only [Bool.and_eq_true, decide_eq_true_eq] at h
  exact h.1.1
theorem Cr {vars : List Bs} {m : List Nat} {b : UInt8} (hv : ∀ v ∈ vars, LZ v = true) (h1 : MW b = false) (h2 : b ≠ 94) : ∀ p ∈ FJ vars m, b ∉ p := by
  intro p e f
  rcases (cV hv e).2 b f with g | g
  · rw [g] at h1; cases h1
  · exact h2 g
def hI (m : List Nat) (k : Nat) : List Nat := (List.range 8).map fun i => if i < k then me m i else 0
theorem Gv (m : List Nat) : hI m 0 = zeroM := by
  unfold hI zeroM
  simp [List.range, List.range.loop]
theorem XJ (m : List Nat) (k i : Nat) : (hI m k)[i]? = if i < 8 then some (if i < k then me m i else 0) else none := by
  unfold hI
  by_cases h : i < 8
  · rw [if_pos h, List.getElem?_map, List.getElem?_range h]; rfl
  · rw [if_neg h, List.getElem?_eq_none (by simp; omega)]
theorem Wk {m : List Nat} (h : EK m) (i : Nat) : m[i]? = if i < 8 then some (me m i) else none := by
  by_cases e : i < 8
  · rw [if_pos e, RP (by rw [h.1]; exact e), List.getElem?_eq_getElem]
  · rw [if_neg e, List.getElem?_eq_none (by rw [h.1]; omega)]
theorem Lv {m : List Nat} (h : EK m) {k : Nat} (hw : within k m) : hI m k = m := by
  refine List.ext_getElem? fun i => ?_
  rw [XJ, Wk h]
  by_cases e : i < 8
  · rw [if_pos e, if_pos e]
    by_cases f : i < k
    · rw [if_pos f]
    · rw [if_neg f, hw i AA]
  · rw [if_neg e, if_neg e]
theorem Lu (m : List Nat) {k : Nat} (hk : k < 8) : (hI m k).set k (me m k) = hI m (k + 1) := by
  refine List.ext_getElem? fun i => ?_
  rw [List.getElem?_set, XJ, XJ]
  have f : (hI m k).length = 8 := by simp [hI]
  by_cases e : i < 8
  · rw [if_pos e, if_pos e]
    by_cases l : k = i
    · subst l; simp [f, hk]
    · rw [if_neg l]
      by_cases h : i < k
      · rw [if_pos h, if_pos AA]
      · rw [if_neg h, if_neg AA]
  · rw [if_neg e, if_neg e]
    simp [f]; omega
theorem Gw (m : List Nat) {k : Nat} (h : me m k = 0) : hI m k = hI m (k + 1) := by
  refine List.ext_getElem? fun i => ?_
  rw [XJ, XJ]
  by_cases e : i < 8
  · rw [if_pos e, if_pos e]
    by_cases f : i < k
    · rw [if_pos f, if_pos AA]
    · rw [if_neg f]
      by_cases l : i = k
      · subst l; rw [if_pos AA, h]
      · rw [if_neg AA]
  · rw [if_neg e, if_neg e]
theorem uN {vars : List Bs} (hn : vars.Nodup) {k : Nat} (hk : k < vars.length) : vars.idxOf? vars[k] = some k := by
  rw [List.idxOf?, List.findIdx?_eq_some_iff_getElem]
  refine ⟨hk, by simp, fun j e => ?_⟩
  have := (List.pairwise_iff_getElem.1 hn) j k AA hk e
  simpa using this
theorem Gb {vars : List Bs} (hv : ∀ v ∈ vars, LZ v = true) (hn : vars.Nodup) {k n : Nat} (hk : k < vars.length) (h0 : n ≠ 0) (hN : n ≤ 65535) {p : Bs} (hp : RX vars[k] n = [p]) : PX vars p = some (k, n) := by
  have f := hv vars[k] (List.getElem_mem hk)
  have e : (94 : UInt8) ∉ vars[k] := rB f AE
  unfold RX at hp
  rw [if_neg h0] at hp
  by_cases h : n = 1
  · rw [if_pos h] at hp
    simp only [List.cons.injEq, and_true] at hp
    subst hp h
    unfold PX
    rw [cutB_none.2 e, uN hn hk]; rfl
  · rw [if_neg h] at hp
    simp only [List.cons.injEq, and_true] at hp
    subst hp
    unfold PX
    rw [cutB_some.2 ⟨rfl, e⟩]
    simp only
    rw [uN hn hk, eO AA AA]
theorem jX {vars : List Bs} (hv : ∀ v ∈ vars, LZ v = true) (hn : vars.Nodup) (hl : vars.length ≤ 8) {m : List Nat} (hm : EK m) (hw : within vars.length m) :
    ∀ j k, k + j = vars.length → FY vars (FJ (vars.drop k) (m.drop k)) (hI m k) = some m
  | 0, k, h => by
    rw [List.drop_of_length_le AA]
    simp only [FJ, FY]
    rw [show k = vars.length by omega, Lv hm hw]
  | j + 1, k, h => by
    have hk : k < vars.length := by omega
    have ih := jX hv hn hl hm hw j (k + 1) AA
    rw [List.drop_eq_getElem_cons hk, cZ hm AA]
    simp only [FJ]
    by_cases h0 : me m k = 0
    · have : RX vars[k] (me m k) = [] := by unfold RX; rw [if_pos h0]
      rw [this, List.nil_append, Gw m h0]; exact ih
    · obtain ⟨p, hp⟩ : ∃ p, RX vars[k] (me m k) = [p] := by
        unfold RX; rw [if_neg h0]; split <;> exact ⟨_, rfl⟩
      rw [hp]
      simp only [List.cons_append, List.nil_append, FY]
      rw [Gb hv hn hk h0 (uC hm k) hp]
      simp only
      rw [Lu m AA]; exact ih
theorem pZ {vars : List Bs} (hv : DF 8 vars = true) {c : Rat} {m : List Nat} (hc : 0 < c) (hm : EK m) (hw : within vars.length m) : ZZ vars (FB vars c m) = some (c, m) := by
  have f := FV hv
  have o : FY vars (FJ vars m) zeroM = some m := by
    have := jX f (gJ hv) (IY hv) hm hw vars.length 0 AA
    rw [Gv] at this; exact this
  have l : ∀ p ∈ FJ vars m, (42 : UInt8) ∉ p := Cr f AE AE
  have q : IB (EM 42 (FB vars c m)) = (c, FJ vars m) := by
    unfold FB
    by_cases h : FJ vars m = [] ∨ c ≠ 1
    · rw [if_pos h, dZ 42 AH (by
        intro x k
        rcases List.mem_cons.1 k with rfl | k
        · exact Ar AE
        · exact l x k)]
      unfold IB
      simp only [kI]
    · rw [if_neg h]
      have u : FJ vars m ≠ [] := fun e => h (.inl e)
      have v : c = 1 := Decidable.by_contra fun e => h (.inr e)
      rw [dZ 42 u l]
      cases t : FJ vars m with
      | nil => exact absurd t u
      | cons a r =>
        obtain ⟨⟨x, y, e, k⟩, _⟩ := cV f (show a ∈ FJ vars m by rw [t]; simp)
        unfold IB
        simp only [yB e k, v]
  unfold ZZ
  rw [q]
  simp only [o]
  rw [if_pos (by simpa using hc)]
theorem jL {vars : List Bs} (hv : ∀ v ∈ vars, LZ v = true) {c : Rat} {m : List Nat} {b : UInt8} (h1 : MW b = false) (h2 : b ≠ 94) (h3 : b ≠ 42) (h4 : ¬ (b = 45 ∨ b = 47 ∨ (48 ≤ b.toNat ∧ b.toNat ≤ 57))) : b ∉ FB vars c m := by
  have h : ∀ l : List Bs, (∀ p ∈ l, b ∉ p) → b ∉ jn 42 l := by
    intro l
    induction l with
    | nil => intro _; simp [jn]
    | cons x r ih =>
      intro f
      cases r with
      | nil => exact f x AH
      | cons y r =>
        rw [KK 42 x AH]
        intro o
        rcases List.mem_append.1 o with g | g
        · exact f x AH g
        · rcases List.mem_cons.1 g with g | g
          · exact h3 g
          · exact ih (fun p e => f p (by simp [e])) g
  have k := Cr (m := m) hv h1 h2
  unfold FB
  split
  · refine h _ fun p e => ?_
    rcases List.mem_cons.1 e with rfl | e
    · exact Ar h4
    · exact k p e
  · exact h _ k
theorem dH {c : Rat} (h : c ≠ 0) : 0 < QN c := by
  unfold QN
  split
  · rename_i h1; rw [Rat.lt_iff] at h1 ⊢; simp at h1 ⊢; omega
  · rename_i h1
    rcases eW c 0 with g | g | g
    · exact absurd g.1 h1
    · exact absurd g.1 h
    · exact g.1
theorem YA {c : Rat} (h : c < 0) : QN c = -c := by unfold QN; rw [if_pos h]
theorem UO {c : Rat} (h : ¬ c < 0) : QN c = c := by unfold QN; rw [if_neg h]
theorem kA (c : Rat) : - -c = c := by rw [Rat.neg_neg]
theorem Ca {c : Rat} (h : 0 < c) : -c < 0 := by
  have := pos_num.1 h
  rw [Rat.lt_iff]; simp; omega
theorem qL {c : Rat} (h : 0 < c) : ¬ c < 0 := by
  have e := pos_num.1 h
  intro g
  rw [Rat.lt_iff] at g; simp at g; omega
theorem vR {c : Rat} (h : 0 < c) : QN (-c) = c := by rw [YA (Ca h), kA]
theorem vQ {c : Rat} (h : 0 < c) : QN c = c := UO (qL h)
def xF (neg : Bool) (c : Rat) : Rat := if neg then -c else c
theorem Bh (c : Rat) : xF (decide (c < 0)) (QN c) = c := by
  by_cases h : c < 0
  · rw [decide_eq_true h, YA h]; exact kA c
  · rw [decide_eq_false h, UO h]; rfl
theorem Bg {neg : Bool} {c : Rat} (h : 0 < c) : decide (xF neg c < 0) = neg := by
  cases neg
  · exact decide_eq_false (qL h)
  · exact decide_eq_true (Ca h)
theorem rU {neg : Bool} {c : Rat} (h : 0 < c) : QN (xF neg c) = c := by
  cases neg
  · exact vQ h
  · exact vR h
theorem Jy {neg : Bool} {c : Rat} (h : 0 < c) : xF neg c ≠ 0 := by
  intro e
  have f := rU (neg := neg) h
  rw [e] at f
  have : QN 0 = 0 := by decide +kernel
  rw [this] at f; subst f; revert h; decide +kernel
theorem YZ : ∀ a b : List Nat, EI a b = -1 ∨ EI a b = 0 ∨ EI a b = 1
  | [], _ => by simp [EI]
  | _ :: _, [] => by simp [EI]
  | x :: xs, y :: ys => by
    simp only [EI]
    split
    · simp
    · split
      · simp
      · exact YZ xs ys
theorem ZA : ∀ a b : List Nat, EI b a = -EI a b
  | [], [] => by simp [EI]
  | [], _ :: _ => by simp [EI]
  | _ :: _, [] => by simp [EI]
  | x :: xs, y :: ys => by
    simp only [EI]
    by_cases h : x < y
    · rw [if_pos h, if_neg AA, if_pos h]; rfl
    · by_cases g : y < x
      · rw [if_pos g, if_neg h, if_pos g]
      · rw [if_neg g, if_neg h, if_neg h, if_neg g]; exact ZA xs ys
def wH (p : List Tm) : Prop := ∀ i a b, p[i]? = some a → p[i + 1]? = some b → EI a.2 b.2 = 1
theorem dU : wH [] := by intro i a b h; simp at h
theorem Pb (t : Tm) : wH [t] := by
  intro i a b _ h; simp at h
theorem Iq {p : List Tm} {t : Tm} (h : wH p) (hl : ∀ a, p.getLast? = some a → EI a.2 t.2 = 1) : wH (p ++ [t]) := by
  intro i a b k f
  have l : i + 1 < (p ++ [t]).length := (List.getElem?_eq_some_iff.1 f).1
  simp only [List.length_append, List.length_cons, List.length_nil] at l
  by_cases g : i + 1 < p.length
  · rw [List.getElem?_append_left AA] at k
    rw [List.getElem?_append_left g] at f
    exact h i a b k f
  · have e : i + 1 = p.length := by omega
    rw [List.getElem?_append_left AA] at k
    rw [List.getElem?_append_right AA, e] at f
    simp at f
    subst f
    exact hl a (by rw [List.getLast?_eq_getElem?]; rw [show p.length - 1 = i by omega]; exact k)
theorem Ir {p r : List Tm} {t a : Tm} (h : wH (p ++ t :: r)) (hl : p.getLast? = some a) : EI a.2 t.2 = 1 := by
  rw [List.getLast?_eq_getElem?] at hl
  have e := (List.getElem?_eq_some_iff.1 hl).1
  refine h (p.length - 1) a t (by rw [List.getElem?_append_left e]; exact hl) ?_
  rw [List.getElem?_append_right AA, show p.length - 1 + 1 - p.length = 0 by omega]; rfl
def EJ (p : List Tm) : Prop := (∀ t ∈ p, t.1 ≠ 0 ∧ EK t.2) ∧ wH p
abbrev Rd := List Tm × Nat × Nat
def cJ (p : List Tm) : List Nat := (p.getLast?.map (·.2)).getD []
def OA (i : Nat) (neg : Bool) (w : Bs) : Bs × Bool := if i = 0 then (if w.head? = some 45 then (w.tail, true) else (w, false)) else (w, neg)
def PF (vars : List Bs) : List Bs → Nat → Nat → Bool → List Tm → Rd
  | [], i, at_, _, p => if i % 2 = 0 then ([], at_, 440) else (p, 0, 0)
  | w :: ws, i, at_, neg, p =>
    if i % 2 = 1 then (if w = [43] ∨ w = [45] then PF vars ws (i + 1) (at_ + w.length + 1) (decide (w = [45])) p else ([], at_, 440))
    else match ZZ vars (OA i neg w).1 with
      | none => ([], at_, 440)
      | some (c, m) => if i ≠ 0 ∧ 0 ≤ EI m (cJ p) then ([], at_, 440) else PF vars ws (i + 1) (at_ + w.length + 1) false (p ++ [(xF (OA i neg w).2 c, m)])
def FC (vars : List Bs) (t : Bs) : Rd :=
  if DF 8 vars = false then ([], 0, 1) else if 4000 < t.length then ([], 0, 2) else if t = [48] then ([], 0, 0) else PF vars (EM 32 t) 0 0 false []
def jC (vars : List Bs) (t : Tm) : List Bs := [if t.1 < 0 then [45] else [43], FB vars (QN t.1) t.2]
def lB (vars : List Bs) (t : Tm) : Bs := RG true (decide (t.1 < 0)) ++ FB vars (QN t.1) t.2
theorem Mh (vars : List Bs) (w : Bs) (r : List Tm) : jn 32 (w :: r.flatMap (jC vars)) = w ++ GQ vars false r := by
  induction r generalizing w with
  | nil => simp [jn, GQ]
  | cons t r ih =>
    obtain ⟨c, m⟩ := t
    simp only [List.flatMap_cons, jC, List.cons_append, List.nil_append]
    rw [KK 32 w AH, KK 32 _ AH, ih]
    simp only [GQ, RG]
    by_cases h : c < 0 <;> simp [h]
theorem nU {vars : List Bs} (hv : DF 8 vars = true) : ∀ (r : List Tm) (i at_ : Nat) (neg : Bool) (p : List Tm), i % 2 = 1 → p ≠ [] → EJ (p ++ r) → (∀ t ∈ r, within vars.length t.2) → PF vars (r.flatMap (jC vars)) i at_ neg p = (p ++ r, 0, 0)
  | [], i, at_, neg, p, hi, _, _, _ => by simp [PF, hi]
  | (c, m) :: r, i, at_, neg, p, hi, hp, hok, hw => by
    have hc := hok.1 (c, m) AH
    simp only [List.flatMap_cons, jC, List.cons_append, List.nil_append]
    rw [PF, if_pos hi, if_pos (by by_cases h : c < 0 <;> simp [h])]
    rw [PF, if_neg AA]
    have hcs : ∀ g : Bool, OA (i + 1) g (FB vars (QN c) m) = (FB vars (QN c) m, g) := fun g => by unfold OA; rw [if_neg AA]
    rw [hcs]
    simp only [pZ hv (dH hc.1) hc.2 (hw (c, m) AH)]
    obtain ⟨a, ha⟩ : ∃ a, p.getLast? = some a := by
      cases h : p.getLast? with
      | none => simp at h; exact absurd h hp
      | some a => exact ⟨a, rfl⟩
    have e : ¬ (i + 1 ≠ 0 ∧ 0 ≤ EI m (cJ p)) := by
      rintro ⟨_, g⟩
      have l := Ir hok.2 ha
      unfold cJ at g
      rw [ha] at g
      simp only [Option.map_some, Option.getD_some] at g
      rw [ZA, l] at g; omega
    rw [if_neg e]
    have k : xF (decide ((if c < 0 then [45] else [43] : Bs) = [45])) (QN c) = c := by
      have : decide ((if c < 0 then [45] else [43] : Bs) = [45]) = decide (c < 0) := by by_cases h : c < 0 <;> simp [h]
      rw [this]; exact Bh c
    rw [k]
    have := nU hv r (i + 1 + 1) (at_ + (if c < 0 then [45] else [43] : Bs).length + 1 + (FB vars (QN c) m).length + 1) false (p ++ [(c, m)]) AA AH (by simpa using hok) (fun t f => hw t (by simp [f]))
    simpa using this
theorem Jb {vars : List Bs} (hv : ∀ v ∈ vars, LZ v = true) (r : List Tm) : ∀ w ∈ r.flatMap (jC vars), (32 : UInt8) ∉ w := by
  intro w f
  obtain ⟨t, _, e⟩ := List.mem_flatMap.1 f
  unfold jC at e
  simp only [List.mem_cons, List.not_mem_nil, or_false] at e
  rcases e with rfl | rfl
  · split <;> decide
  · exact jL hv AE AE AE AE
theorem Ms {vars : List Bs} (hv : ∀ v ∈ vars, LZ v = true) (t : Tm) : (32 : UInt8) ∉ lB vars t := by
  unfold lB
  intro h
  rcases List.mem_append.1 h with g | g
  · unfold RG at g; revert g; simp
  · exact jL hv AE AE AE AE g
theorem vH {vars : List Bs} {c : Rat} {m : List Nat} (hv : DF 8 vars = true) (hc : c ≠ 0) (neg : Bool) : OA 0 neg (lB vars (c, m)) = (FB vars (QN c) m, decide (c < 0)) := by
  unfold OA lB RG
  rw [if_pos rfl]
  simp only [if_true]
  by_cases h : c < 0
  · rw [decide_eq_true h]; simp
  · rw [decide_eq_false h]
    simp only [Bool.false_eq_true, if_false, List.nil_append]
    rw [if_neg]
    intro g
    have p := dH hc
    have k := Qq p
    unfold FB at g
    split at g
    · cases f : FJ vars m with
      | nil => rw [f] at g; simp only [jn] at g; exact k g
      | cons x r =>
        rw [f, KK 42 _ AH] at g
        cases l : (JZ (QN c)).data.toList with
        | nil => exact absurd l (Pj _)
        | cons y s => rw [l] at g k; simp at g k; exact k g
    · rename_i hn
      cases f : FJ vars m with
      | nil => exact hn (.inl f)
      | cons x r =>
        obtain ⟨⟨y, s, e, o⟩, _⟩ := cV (FV hv) (show x ∈ FJ vars m by rw [f]; simp)
        rw [f] at g
        have : (jn 42 (x :: r)).head? = some y := by
          cases r with
          | nil => simp [jn, e]
          | cons z r => rw [KK 42 x AH, e]; rfl
        rw [this] at g
        simp only [Option.some.injEq] at g
        subst g; revert o; decide
theorem XG (vars : List Bs) (t : Tm) (r : List Tm) : DQ vars (t :: r) = jn 32 (lB vars t :: r.flatMap (jC vars)) := by
  rw [Mh]
  obtain ⟨c, m⟩ := t
  unfold DQ
  rw [if_neg AH]
  simp only [GQ, lB]
theorem Kx (vars : List Bs) : ZZ vars [48] = none := by
  have f : IB (EM 42 [48]) = (0, []) := by
    have : LW [48] = some 0 := by
      have h : (JZ 0).data.toList = [48] := by
        rw [IF, if_pos AK]
        show txt 0 = [48]
        have := sM
        unfold PB at this
        have e := congrArg (fun b : ByteArray => b.data.toList) this
        simpa using e
      rw [← h]; exact kI 0
    show IB [[48]] = _
    unfold IB
    simp only [this]
  unfold ZZ
  rw [f]
  simp only [FY]
  rw [if_neg]
  rintro ⟨h, _⟩
  revert h; decide +kernel
theorem xU {vars : List Bs} (hv : DF 8 vars = true) {p : List Tm} (hp : EJ p) (hw : ∀ t ∈ p, within vars.length t.2) (h : DQ vars p = [48]) : p = [] := by
  cases p with
  | nil => rfl
  | cons t r =>
    exfalso
    obtain ⟨c, m⟩ := t
    have k := hp.1 (c, m) AH
    rw [XG] at h
    have e : EM 32 (jn 32 (lB vars (c, m) :: r.flatMap (jC vars))) = lB vars (c, m) :: r.flatMap (jC vars) := dZ 32 AH (by
      intro x f
      rcases List.mem_cons.1 f with rfl | f
      · exact Ms (FV hv) _
      · exact Jb (FV hv) r x f)
    rw [h] at e
    have u : lB vars (c, m) = [48] := by
      have : EM 32 [48] = [[48]] := rfl
      rw [this] at e
      simp at e; exact e.1.symm
    have o := vH (m := m) hv k.1 false
    rw [u] at o
    have q : FB vars (QN c) m = [48] := by
      have := congrArg Prod.fst o
      simpa [OA] using this.symm
    have l := pZ hv (dH k.1) k.2 (hw (c, m) AH)
    rw [q, Kx] at l; cases l
theorem VE {vars : List Bs} (hv : DF 8 vars = true) {p : List Tm} (hp : EJ p) (hw : ∀ t ∈ p, within vars.length t.2) (hl : (DQ vars p).length ≤ 4000) : FC vars (DQ vars p) = (p, 0, 0) := by
  unfold FC
  rw [if_neg (by rw [hv]; simp), if_neg AA]
  cases p with
  | nil => rw [if_pos (by rfl)]
  | cons t r =>
    obtain ⟨c, m⟩ := t
    rw [if_neg (fun h => by have := xU hv hp hw h; cases this)]
    have f := hp.1 (c, m) AH
    rw [XG, dZ 32 AH (by
      intro x e
      rcases List.mem_cons.1 e with rfl | e
      · exact Ms (FV hv) _
      · exact Jb (FV hv) r x e)]
    rw [PF, if_neg AA, vH hv f.1]
    simp only [pZ hv (dH f.1) f.2 (hw (c, m) AH)]
    rw [if_neg AH, Bh]
    have := nU hv r 1 (0 + (lB vars (c, m)).length + 1) false [(c, m)] AA AH (by simpa using hp) (fun t k => hw t (by simp [k]))
    simpa using this
theorem jV {vars : List Bs} : ∀ (n : Nat) (ws : List Bs) (i at_ : Nat) (neg : Bool) (p : List Tm) (q : List Tm) (k : Nat), ws.length ≤ n → i % 2 = 1 → p ≠ [] → EJ p → PF vars ws i at_ neg p = (q, k, 0) →
    k = 0 ∧ ∃ r, q = p ++ r ∧ ws = r.flatMap (jC vars) ∧ EJ q ∧ ∀ t ∈ r, within vars.length t.2
  | n, [], i, at_, neg, p, q, k, _, hi, _, hok, h => by
    rw [PF, if_neg AA] at h
    simp only [Prod.mk.injEq] at h
    obtain ⟨rfl, rfl, _⟩ := h
    exact ⟨rfl, [], by simp, rfl, hok, fun t ht => by cases ht⟩
  | n, [s], i, at_, neg, p, q, k, _, hi, _, hok, h => by
    rw [PF, if_pos hi] at h
    split at h
    · rw [PF, if_pos AA] at h
      simp at h
    · simp at h
  | 0, s :: w :: ws, i, at_, neg, p, q, k, hn, hi, _, hok, h => by simp at hn
  | n + 1, s :: w :: ws, i, at_, neg, p, q, k, hn, hi, hp, hok, h => by
    rw [PF, if_pos hi] at h
    by_cases hs : s = [43] ∨ s = [45]
    · rw [if_pos hs, PF, if_neg AA] at h
      have hcs : ∀ g : Bool, OA (i + 1) g w = (w, g) := fun g => by unfold OA; rw [if_neg AA]
      rw [hcs] at h
      cases hr : ZZ vars w with
      | none => simp [hr] at h
      | some cm =>
        obtain ⟨c, m⟩ := cm
        simp only [hr] at h
        split at h
        · simp at h
        · rename_i hlt
          obtain ⟨h1, h2⟩ := tR hr
          obtain ⟨h3, h4⟩ := jU hr
          have hok2 : EJ (p ++ [(xF (decide (s = [45])) c, m)]) := by
            refine ⟨fun t ht => ?_, Iq hok.2 fun a e => ?_⟩
            · rcases List.mem_append.1 ht with g | g
              · exact hok.1 t g
              · simp at g; subst g; exact ⟨Jy h1, h3⟩
            · have : ¬ 0 ≤ EI m a.2 := fun g => hlt ⟨by omega, by unfold cJ; rw [e]; exact g⟩
              have f := ZA m a.2
              rcases YZ m a.2 with g | g | g <;> simp only at * <;> omega
          obtain ⟨e1, r, e2, e3, e4, e5⟩ := jV n ws _ _ _ _ q k (by simp at hn; omega) AA AH hok2 h
          refine ⟨e1, (xF (decide (s = [45])) c, m) :: r, by rw [e2]; simp, ?_, e4, fun t ht => ?_⟩
          · simp only [List.flatMap_cons, jC, rU h1, h2]
            rw [← e3]
            have : (if xF (decide (s = [45])) c < 0 then [45] else [43] : Bs) = s := by
              have := Bg (neg := decide (s = [45])) h1
              rcases hs with rfl | rfl
              · rw [if_neg (by simpa using this)]
              · rw [if_pos (by simpa using this)]
            rw [this]; rfl
          · rcases List.mem_cons.1 ht with rfl | ht
            · exact h4
            · exact e5 t ht
    · rw [if_neg hs] at h; simp at h
theorem SZ {vars : List Bs} {t : Bs} {p : List Tm} {n : Nat} (h : FC vars t = (p, n, 0)) : DF 8 vars = true ∧ t.length ≤ 4000 ∧ n = 0 ∧ EJ p ∧ (∀ t ∈ p, within vars.length t.2) ∧ DQ vars p = t := by
  unfold FC at h
  by_cases k : DF 8 vars = false
  · rw [if_pos k] at h; simp at h
  · rw [if_neg k] at h
    by_cases v : 4000 < t.length
    · rw [if_pos v] at h; simp at h
    · rw [if_neg v] at h
      refine ⟨by simpa using k, by omega, ?_⟩
      by_cases q : t = [48]
      · rw [if_pos q] at h
        simp only [Prod.mk.injEq] at h
        obtain ⟨rfl, rfl, _⟩ := h
        exact ⟨rfl, ⟨fun _ e => (by cases e), dU⟩, fun _ e => (by cases e), (by rw [q]; rfl)⟩
      · rw [if_neg q] at h
        have y := kV 32 t
        cases u : EM 32 t with
        | nil => exact absurd u (NK 32 t)
        | cons w ws =>
          rw [u] at h y
          rw [PF, if_neg AA] at h
          cases f : ZZ vars (OA 0 false w).1 with
          | none => simp [f] at h
          | some cm =>
            obtain ⟨c, m⟩ := cm
            simp only [f] at h
            rw [if_neg AH] at h
            obtain ⟨o, C⟩ := tR f
            obtain ⟨B, z⟩ := jU f
            have l : EJ ([] ++ [(xF (OA 0 false w).2 c, m)]) := ⟨fun t e => by simp at e; subst e; exact ⟨Jy o, B⟩, Pb _⟩
            obtain ⟨e1, r, e2, e3, e4, e5⟩ := jV ws.length ws _ _ _ _ p n (Nat.le_refl _) AA AH l h
            refine ⟨e1, e4, ?_, ?_⟩
            · rw [e2]
              intro t e
              rcases List.mem_append.1 e with g | g
              · simp at g; subst g; exact z
              · exact e5 t g
            · rw [e2]
              show DQ vars ((xF (OA 0 false w).2 c, m) :: r) = t
              rw [XG, ← e3, ← y]
              congr 2
              unfold lB
              rw [Bg o, rU o, C]
              unfold OA RG
              rw [if_pos rfl]
              by_cases g : w.head? = some 45
              · rw [if_pos g]
                cases w with
                | nil => simp at g
                | cons x w => simp at g; simp [g]
              · rw [if_neg g]; simp
theorem Mi (b : UInt8) {l : List Bs} (h : l ≠ []) : (l.map (fun w => w.length + 1)).sum = (jn b l).length + 1 := by
  induction l with
  | nil => exact absurd rfl h
  | cons x r ih =>
    cases r with
    | nil => simp [jn]
    | cons y r =>
      rw [KK b x AH, List.map_cons, List.sum_cons, ih AH]
      simp; omega
end Go.Proofs.YtmppigbbkjepiaaGreatDoor
