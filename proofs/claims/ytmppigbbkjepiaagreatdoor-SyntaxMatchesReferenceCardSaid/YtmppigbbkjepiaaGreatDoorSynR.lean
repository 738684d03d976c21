/- Helping facts of SynR; no other conditions. -/
import Derived.Test.YtmppigbbkjepiaaGreatDoorKitP
namespace Go.Proofs.YtmppigbbkjepiaaGreatDoor
open W
variable {b : UInt8} {c x : Rat} {k n : Nat} {m : List Nat} {neg : Bool}
theorem ZT (z : Int) : ∀ b ∈ txt z, b = 45 ∨ (48 <= b.toNat /\ b.toNat <= 57) := by
 intro b e
 unfold txt at e
 rcases List.mem_append.1 e with h | h
 . split at h
   . simp at h; exact .inl h
   cases h
 exact .inr (OL (Cv _) b h)
theorem Ad (z : Int) : txt z ≠ [] := by
 intro h
 unfold txt XG at h
 have := uD z.natAbs
 simp at h
 exact this h.2
theorem lV (x : Rat) : ∀ b ∈ (KD x).data.toList, b = 45 ∨ b = 47 ∨ (48 <= b.toNat /\ b.toNat <= 57) := by
 intro b e
 rw [IT] at e
 have f : ∀ z, b ∈ txt z -> b = 45 ∨ b = 47 ∨ (48 <= b.toNat /\ b.toNat <= 57) := fun z h => (ZT z b h).elim .inl (fun h => .inr (.inr h))
 split at e
 . exact f _ e
 rcases List.mem_append.1 e with h | h
 . exact f _ h
 rcases List.mem_cons.1 h with h | h
 . exact .inr (.inl h)
 exact f _ h
theorem Sf (x : Rat) : (KD x).data.toList ≠ [] := by
 rw [IT]
 split
 . exact Ad _
 simp
theorem Ac {z : Int} (h : ¬ (b = 45 ∨ (48 <= b.toNat /\ b.toNat <= 57))) : b ∉ txt z := fun e => h (ZT z b e)
theorem Dq (h : ¬ (b = 45 ∨ b = 47 ∨ (48 <= b.toNat /\ b.toNat <= 57))) : b ∉ (KD x).data.toList := fun e => h (lV x b e)
theorem Bp {l : Bs} {c : UInt8} {r : Bs} (hl : l = c :: r) (h : PX c = true) : ML l = none := by
 cases f : ML l with
 | none => rfl
 | some x =>
   have k := UC f
   have e := lV x c (by rw [<- k, hl]; simp)
   exfalso
   unfold PX at h
   simp only [Bool.or_eq_true, Bool.and_eq_true, decide_eq_true_eq] at h
   rcases e with rfl | rfl | e
   . revert h; decide
   . revert h; decide
   omega
theorem Tp (h : 0 < x) : (KD x).data.toList.head? ≠ some 45 := by
 have k : ¬ x.num < 0 := by have := pos_num.1 h; omega
 have e : (txt x.num).head? ≠ some 45 := by
  unfold txt
  rw [if_neg k]; exact fO (PL _)
 rw [IT]
 split
 . exact e
 cases f : txt x.num with
 | nil => exact absurd f (Ad _)
 | cons c r => rw [f] at e; simpa using e
theorem Pv {v : Bs} {p : Bs} (hv : LD v = true) (h : p ∈ RI v n) : (∃ c r, p = c :: r /\ PX c = true) /\ ∀ b ∈ p, NN b = true ∨ b = 94 := by
 obtain ⟨c, r, e, k⟩ := Jj hv
 have l := xE hv
 have q : ∀ b ∈ txt (n : Int), NN b = true := by
  intro b f
  rcases ZT _ b f with rfl | o
  . exfalso
    unfold txt at f
    rw [if_neg AA] at f
    have := OL (Cv _) _ (by simpa using f)
    revert this; decide
  unfold NN; simp [o.1, o.2]
 unfold RI at h
 split at h
 . cases h
 split at h
 . simp at h; subst h; exact ⟨⟨c, r, e, k⟩, fun b f => .inl (l b f)⟩
 simp at h; subst h
 refine ⟨⟨c, r ++ 94 :: txt (n : Int), by rw [e]; rfl, k⟩, fun b f => ?_⟩
 rcases List.mem_append.1 f with g | g
 . exact .inl (l b g)
 rcases List.mem_cons.1 g with g | g
 . exact .inr g
 exact .inl (q b g)
theorem YZ : ∀ {vars : List Bs} {m : List Nat} {p : Bs}, (∀ v ∈ vars, LD v = true) -> p ∈ ER vars m -> (∃ c r, p = c :: r /\ PX c = true) /\ ∀ b ∈ p, NN b = true ∨ b = 94
 | [], _, _, _, h => by simp [ER] at h
 | v :: vs, [], _, _, h => by simp [ER] at h
 | v :: vs, n :: ns, p, hv, h => by
   simp only [ER] at h
   rcases List.mem_append.1 h with g | g
   . exact Pv (hv v AH) g
   exact YZ (fun u hu => hv u (by simp [hu])) g
theorem FJ {vars : List Bs} (h : DL k vars = true) : ∀ v ∈ vars, LD v = true := by
 unfold DL at h
 simp only [Bool.and_eq_true, List.all_eq_true] at h
 exact h.1.2
theorem jF {vars : List Bs} (h : DL k vars = true) : vars.Nodup := by
 unfold DL at h
 simp only [Bool.and_eq_true, decide_eq_true_eq] at h
 exact h.2
theorem GR {vars : List Bs} (h : DL k vars = true) : vars.length <= k := by
 unfold DL at h
 simp only [Bool.and_eq_true, decide_eq_true_eq] at h
 exact h.1.1
theorem Fg {vars : List Bs} {m : List Nat} (hv : ∀ v ∈ vars, LD v = true) (h1 : NN b = false) (h2 : b ≠ 94) : ∀ p ∈ ER vars m, b ∉ p := by
 intro p e f
 rcases (YZ hv e).2 b f with g | g
 . rw [g] at h1; cases h1
 exact h2 g
def jW (m : List Nat) (k : Nat) : List Nat := (List.range 8).map fun i => if i < k then me m i else 0
theorem Jc (m : List Nat) : jW m 0 = zeroM := by
 unfold jW zeroM
 simp [List.range, List.range.loop]
theorem YQ (m : List Nat) (k i : Nat) : (jW m k)[i]? = if i < 8 then some (if i < k then me m i else 0) else none := by
 unfold jW
 by_cases h : i < 8
 . rw [if_pos h, List.getElem?_map, List.getElem?_range h]; rfl
 rw [if_neg h, List.getElem?_eq_none (by simp; omega)]
theorem Zj (h : EG m) (i : Nat) : m[i]? = if i < 8 then some (me m i) else none := by
 by_cases e : i < 8
 . rw [if_pos e, QV (by rw [h.1]; exact e), List.getElem?_eq_getElem]
 rw [if_neg e, List.getElem?_eq_none (by rw [h.1]; omega)]
theorem Oh (h : EG m) (hw : within k m) : jW m k = m := by
 refine List.ext_getElem? fun i => ?_
 rw [YQ, Zj h]
 by_cases e : i < 8
 . rw [if_pos e, if_pos e]
   by_cases f : i < k
   . rw [if_pos f]
   rw [if_neg f, hw i AA]
 rw [if_neg e, if_neg e]
theorem Og (m : List Nat) (hk : k < 8) : (jW m k).set k (me m k) = jW m (k + 1) := by
 refine List.ext_getElem? fun i => ?_
 rw [List.getElem?_set, YQ, YQ]
 have f : (jW m k).length = 8 := by simp [jW]
 by_cases e : i < 8
 . rw [if_pos e, if_pos e]
   by_cases l : k = i
   . subst l; simp [f, hk]
   rw [if_neg l]
   by_cases h : i < k
   . rw [if_pos h, if_pos AA]
   rw [if_neg h, if_neg AA]
 rw [if_neg e, if_neg e]
 simp [f]; omega
theorem Jd (m : List Nat) (h : me m k = 0) : jW m k = jW m (k + 1) := by
 refine List.ext_getElem? fun i => ?_
 rw [YQ, YQ]
 by_cases e : i < 8
 . rw [if_pos e, if_pos e]
   by_cases f : i < k
   . rw [if_pos f, if_pos AA]
   rw [if_neg f]
   by_cases l : i = k
   . subst l; rw [if_pos AA, h]
   rw [if_neg AA]
 rw [if_neg e, if_neg e]
theorem xH {vars : List Bs} (hn : vars.Nodup) (hk : k < vars.length) : vars.idxOf? vars[k] = some k := by
 rw [List.idxOf?, List.findIdx?_eq_some_iff_getElem]
 refine ⟨hk, by simp, fun j e => ?_⟩
 have := (List.pairwise_iff_getElem.1 hn) j k AA hk e
 simpa using this
theorem Ir {vars : List Bs} (hv : ∀ v ∈ vars, LD v = true) (hn : vars.Nodup) (hk : k < vars.length) (h0 : n ≠ 0) (hN : n <= 65535) {p : Bs} (hp : RI vars[k] n = [p]) : QS vars p = some (k, n) := by
 have f := hv vars[k] (List.getElem_mem hk)
 have e : (94 : UInt8) ∉ vars[k] := tS f AE
 unfold RI at hp
 rw [if_neg h0] at hp
 by_cases h : n = 1
 . rw [if_pos h] at hp
   simp only [List.cons.injEq, and_true] at hp
   subst hp h
   unfold QS
   rw [cutB_none.2 e, xH hn hk]; rfl
 rw [if_neg h] at hp
 simp only [List.cons.injEq, and_true] at hp
 subst hp
 unfold QS
 rw [cutB_some.2 ⟨rfl, e⟩]
 simp only
 rw [xH hn hk, gZ AA AA]
theorem mO {vars : List Bs} (hv : ∀ v ∈ vars, LD v = true) (hn : vars.Nodup) (hl : vars.length <= 8) {m : List Nat} (hm : EG m) (hw : within vars.length m) :
 ∀ j k, k + j = vars.length -> GG vars (ER (vars.drop k) (m.drop k)) (jW m k) = some m
 | 0, k, h => by
   rw [List.drop_of_length_le AA]
   simp only [ER, GG]
   rw [show k = vars.length by omega, Oh hm hw]
 | j + 1, k, h => by
   have hk : k < vars.length := by omega
   have ih := mO hv hn hl hm hw j (k + 1) AA
   rw [List.drop_eq_getElem_cons hk, fF hm AA]
   simp only [ER]
   by_cases h0 : me m k = 0
   . have : RI vars[k] (me m k) = [] := by unfold RI; rw [if_pos h0]
     rw [this, List.nil_append, Jd m h0]; exact ih
   obtain ⟨p, hp⟩ : ∃ p, RI vars[k] (me m k) = [p] := by
    unfold RI; rw [if_neg h0]; split <;> exact ⟨_, rfl⟩
   rw [hp]
   simp only [List.cons_append, List.nil_append, GG]
   rw [Ir hv hn hk h0 (qZ hm k) hp]
   simp only
   rw [Og m AA]; exact ih
theorem sU {vars : List Bs} (hv : DL 8 vars = true) (hc : 0 < c) (hm : EG m) (hw : within vars.length m) : bL vars (ET vars c m) = some (c, m) := by
 have f := FJ hv
 have o : GG vars (ER vars m) zeroM = some m := by
  have := mO f (jF hv) (GR hv) hm hw vars.length 0 AA
  rw [Jc] at this; exact this
 have l : ∀ p ∈ ER vars m, (42 : UInt8) ∉ p := Fg f AE AE
 have q : IN (FG 42 (ET vars c m)) = (c, ER vars m) := by
  unfold ET
  by_cases h : ER vars m = [] ∨ c ≠ 1
  . rw [if_pos h, gU 42 AH (by
     intro x k
     rcases List.mem_cons.1 k with rfl | k
     . exact Dq AE
     exact l x k)]
    unfold IN
    simp only [mY]
  rw [if_neg h]
  have u : ER vars m ≠ [] := fun e => h (.inl e)
  have v : c = 1 := Decidable.by_contra fun e => h (.inr e)
  rw [gU 42 u l]
  cases t : ER vars m with
  | nil => exact absurd t u
  | cons a r =>
    obtain ⟨⟨x, y, e, k⟩, _⟩ := YZ f (show a ∈ ER vars m by rw [t]; simp)
    unfold IN
    simp only [Bp e k, v]
 unfold bL
 rw [q]
 simp only [o]
 rw [if_pos (by simpa using hc)]
theorem lZ {vars : List Bs} (hv : ∀ v ∈ vars, LD v = true) (h1 : NN b = false) (h2 : b ≠ 94) (h3 : b ≠ 42) (h4 : ¬ (b = 45 ∨ b = 47 ∨ (48 <= b.toNat /\ b.toNat <= 57))) : b ∉ ET vars c m := by
 have h : ∀ l : List Bs, (∀ p ∈ l, b ∉ p) -> b ∉ jn 42 l := by
  intro l
  induction l with
  | nil => intro _; simp [jn]
  | cons x r ih =>
    intro f
    cases r with
    | nil => exact f x AH
    | cons y r =>
      rw [IP 42 x AH]
      intro o
      rcases List.mem_append.1 o with g | g
      . exact f x AH g
      rcases List.mem_cons.1 g with g | g
      . exact h3 g
      exact ih (fun p e => f p (by simp [e])) g
 have k := Fg (m := m) hv h1 h2
 unfold ET
 split
 . refine h _ fun p e => ?_
   rcases List.mem_cons.1 e with rfl | e
   . exact Dq h4
   exact k p e
 exact h _ k
theorem fU (h : c ≠ 0) : 0 < KA c := by
 unfold KA
 split
 . rename_i h1; rw [Rat.lt_iff] at h1 ⊢; simp at h1 ⊢; omega
 rename_i h1
 rcases iJ c 0 with g | g | g
 . exact absurd g.1 h1
 . exact absurd g.1 h
 exact g.1
theorem VL (h : c < 0) : KA c = -c := by unfold KA; rw [if_pos h]
theorem SH (h : ¬ c < 0) : KA c = c := by unfold KA; rw [if_neg h]
theorem mR (c : Rat) : - -c = c := by rw [Rat.neg_neg]
theorem Er (h : 0 < c) : -c < 0 := by
 have := pos_num.1 h
 rw [Rat.lt_iff]; simp; omega
theorem tF (h : 0 < c) : ¬ c < 0 := by
 have e := pos_num.1 h
 intro g
 rw [Rat.lt_iff] at g; simp at g; omega
theorem yP (h : 0 < c) : KA (-c) = c := by rw [VL (Er h), mR]
theorem yO (h : 0 < c) : KA c = c := SH (tF h)
def Av (neg : Bool) (c : Rat) : Rat := if neg then -c else c
theorem Ec (c : Rat) : Av (decide (c < 0)) (KA c) = c := by
 by_cases h : c < 0
 . rw [decide_eq_true h, VL h]; exact mR c
 rw [decide_eq_false h, SH h]; rfl
theorem Eb (h : 0 < c) : decide (Av neg c < 0) = neg := by
 cases neg
 . exact decide_eq_false (tF h)
 exact decide_eq_true (Er h)
theorem uL (h : 0 < c) : KA (Av neg c) = c := by
 cases neg
 . exact yO h
 exact yP h
theorem Ly (h : 0 < c) : Av neg c ≠ 0 := by
 intro e
 have f := uL (neg := neg) h
 rw [e] at f
 have : KA 0 = 0 := by decide +kernel
 rw [this] at f; subst f; revert h; decide +kernel
theorem aG : ∀ a b : List Nat, ES a b = -1 ∨ ES a b = 0 ∨ ES a b = 1
 | [], _ => by simp [ES]
 | _ :: _, [] => by simp [ES]
 | x :: xs, y :: ys => by
   simp only [ES]
   split
   . simp
   split
   . simp
   exact aG xs ys
theorem aH : ∀ a b : List Nat, ES b a = -ES a b
 | [], [] => by simp [ES]
 | [], _ :: _ => by simp [ES]
 | _ :: _, [] => by simp [ES]
 | x :: xs, y :: ys => by
   simp only [ES]
   by_cases h : x < y
   . rw [if_pos h, if_neg AA, if_pos h]; rfl
   by_cases g : y < x
   . rw [if_pos g, if_neg h, if_pos g]
   rw [if_neg g, if_neg h, if_neg h, if_neg g]; exact aH xs ys
def zT (p : List Tm) : Prop := ∀ i a b, p[i]? = some a -> p[i + 1]? = some b -> ES a.2 b.2 = 1
theorem ZQ : zT [] := by intro i a b h; simp at h
theorem Rt (t : Tm) : zT [t] := by
 intro i a b _ h; simp at h
theorem Ko {p : List Tm} {t : Tm} (h : zT p) (hl : ∀ a, p.getLast? = some a -> ES a.2 t.2 = 1) : zT (p ++ [t]) := by
 intro i a b k f
 have l : i + 1 < (p ++ [t]).length := (List.getElem?_eq_some_iff.1 f).1
 simp only [List.length_append, List.length_cons, List.length_nil] at l
 by_cases g : i + 1 < p.length
 . rw [List.getElem?_append_left AA] at k
   rw [List.getElem?_append_left g] at f
   exact h i a b k f
 have e : i + 1 = p.length := by omega
 rw [List.getElem?_append_left AA] at k
 rw [List.getElem?_append_right AA, e] at f
 simp at f
 subst f
 exact hl a (by rw [List.getLast?_eq_getElem?]; rw [show p.length - 1 = i by omega]; exact k)
theorem Kp {p r : List Tm} {t a : Tm} (h : zT (p ++ t :: r)) (hl : p.getLast? = some a) : ES a.2 t.2 = 1 := by
 rw [List.getLast?_eq_getElem?] at hl
 have e := (List.getElem?_eq_some_iff.1 hl).1
 refine h (p.length - 1) a t (by rw [List.getElem?_append_left e]; exact hl) ?_
 rw [List.getElem?_append_right AA, show p.length - 1 + 1 - p.length = 0 by omega]; rfl
def ED (p : List Tm) : Prop := (∀ t ∈ p, t.1 ≠ 0 /\ EG t.2) /\ zT p
abbrev Rd := List Tm × Nat × Nat
def eL (p : List Tm) : List Nat := (p.getLast?.map (·.2)).getD []
def OT (i : Nat) (neg : Bool) (w : Bs) : Bs × Bool := if i = 0 then (if w.head? = some 45 then (w.tail, true) else (w, false)) else (w, neg)
def QB (vars : List Bs) : List Bs -> Nat -> Nat -> Bool -> List Tm -> Rd
 | [], i, at_, _, p => if i % 2 = 0 then ([], at_, 440) else (p, 0, 0)
 | w :: ws, i, at_, neg, p =>
   if i % 2 = 1 then (if w = [43] ∨ w = [45] then QB vars ws (i + 1) (at_ + w.length + 1) (decide (w = [45])) p else ([], at_, 440))
   else match bL vars (OT i neg w).1 with
    | none => ([], at_, 440)
    | some (c, m) => if i ≠ 0 /\ 0 <= ES m (eL p) then ([], at_, 440) else QB vars ws (i + 1) (at_ + w.length + 1) false (p ++ [(Av (OT i neg w).2 c, m)])
def GO (vars : List Bs) (t : Bs) : Rd :=
 if DL 8 vars = false then ([], 0, 1) else if 4000 < t.length then ([], 0, 2) else if t = [48] then ([], 0, 0) else QB vars (FG 32 t) 0 0 false []
def lP (vars : List Bs) (t : Tm) : List Bs := [if t.1 < 0 then [45] else [43], ET vars (KA t.1) t.2]
def nN (vars : List Bs) (t : Tm) : Bs := SS true (decide (t.1 < 0)) ++ ET vars (KA t.1) t.2
theorem Oy (vars : List Bs) (w : Bs) (r : List Tm) : jn 32 (w :: r.flatMap (lP vars)) = w ++ IW vars false r := by
 induction r generalizing w with
 | nil => simp [jn, IW]
 | cons t r ih =>
   obtain ⟨c, m⟩ := t
   simp only [List.flatMap_cons, lP, List.cons_append, List.nil_append]
   rw [IP 32 w AH, IP 32 _ AH, ih]
   simp only [IW, SS]
   by_cases h : c < 0 <;> simp [h]
theorem qN {vars : List Bs} (hv : DL 8 vars = true) : ∀ (r : List Tm) (i at_ : Nat) (neg : Bool) (p : List Tm), i % 2 = 1 -> p ≠ [] -> ED (p ++ r) -> (∀ t ∈ r, within vars.length t.2) -> QB vars (r.flatMap (lP vars)) i at_ neg p = (p ++ r, 0, 0)
 | [], i, at_, neg, p, hi, _, _, _ => by simp [QB, hi]
 | (c, m) :: r, i, at_, neg, p, hi, hp, hok, hw => by
   have hc := hok.1 (c, m) AH
   simp only [List.flatMap_cons, lP, List.cons_append, List.nil_append]
   rw [QB, if_pos hi, if_pos (by by_cases h : c < 0 <;> simp [h])]
   rw [QB, if_neg AA]
   have hcs : ∀ g : Bool, OT (i + 1) g (ET vars (KA c) m) = (ET vars (KA c) m, g) := fun g => by unfold OT; rw [if_neg AA]
   rw [hcs]
   simp only [sU hv (fU hc.1) hc.2 (hw (c, m) AH)]
   obtain ⟨a, ha⟩ : ∃ a, p.getLast? = some a := by
    cases h : p.getLast? with
    | none => simp at h; exact absurd h hp
    | some a => exact ⟨a, rfl⟩
   have e : ¬ (i + 1 ≠ 0 /\ 0 <= ES m (eL p)) := by
    rintro ⟨_, g⟩
    have l := Kp hok.2 ha
    unfold eL at g
    rw [ha] at g
    simp only [Option.map_some, Option.getD_some] at g
    rw [aH, l] at g; omega
   rw [if_neg e]
   have k : Av (decide ((if c < 0 then [45] else [43] : Bs) = [45])) (KA c) = c := by
    have : decide ((if c < 0 then [45] else [43] : Bs) = [45]) = decide (c < 0) := by by_cases h : c < 0 <;> simp [h]
    rw [this]; exact Ec c
   rw [k]
   have := qN hv r (i + 1 + 1) (at_ + (if c < 0 then [45] else [43] : Bs).length + 1 + (ET vars (KA c) m).length + 1) false (p ++ [(c, m)]) AA AH (by simpa using hok) (fun t f => hw t (by simp [f]))
   simpa using this
theorem Kv {vars : List Bs} (hv : ∀ v ∈ vars, LD v = true) (r : List Tm) : ∀ w ∈ r.flatMap (lP vars), (32 : UInt8) ∉ w := by
 intro w f
 obtain ⟨t, _, e⟩ := List.mem_flatMap.1 f
 unfold lP at e
 simp only [List.mem_cons, List.not_mem_nil, or_false] at e
 rcases e with rfl | rfl
 . split <;> decide
 exact lZ hv AE AE AE AE
theorem Pn {vars : List Bs} (hv : ∀ v ∈ vars, LD v = true) (t : Tm) : (32 : UInt8) ∉ nN vars t := by
 unfold nN
 intro h
 rcases List.mem_append.1 h with g | g
 . unfold SS at g; revert g; simp
 exact lZ hv AE AE AE AE g
theorem yI {vars : List Bs} (hv : DL 8 vars = true) (hc : c ≠ 0) (neg : Bool) : OT 0 neg (nN vars (c, m)) = (ET vars (KA c) m, decide (c < 0)) := by
 unfold OT nN SS
 rw [if_pos rfl]
 simp only [if_true]
 by_cases h : c < 0
 . rw [decide_eq_true h]; simp
 rw [decide_eq_false h]
 simp only [Bool.false_eq_true, if_false, List.nil_append]
 rw [if_neg]
 intro g
 have p := fU hc
 have k := Tp p
 unfold ET at g
 split at g
 . cases f : ER vars m with
   | nil => rw [f] at g; simp only [jn] at g; exact k g
   | cons x r =>
     rw [f, IP 42 _ AH] at g
     cases l : (KD (KA c)).data.toList with
     | nil => exact absurd l (Sf _)
     | cons y s => rw [l] at g k; simp at g k; exact k g
 rename_i hn
 cases f : ER vars m with
 | nil => exact hn (.inl f)
 | cons x r =>
   obtain ⟨⟨y, s, e, o⟩, _⟩ := YZ (FJ hv) (show x ∈ ER vars m by rw [f]; simp)
   rw [f] at g
   have : (jn 42 (x :: r)).head? = some y := by
    cases r with
    | nil => simp [jn, e]
    | cons z r => rw [IP 42 x AH, e]; rfl
   rw [this] at g
   simp only [Option.some.injEq] at g
   subst g; revert o; decide
theorem YN (vars : List Bs) (t : Tm) (r : List Tm) : DS vars (t :: r) = jn 32 (nN vars t :: r.flatMap (lP vars)) := by
 rw [Oy]
 obtain ⟨c, m⟩ := t
 unfold DS
 rw [if_neg AH]
 simp only [IW, nN]
theorem My (vars : List Bs) : bL vars [48] = none := by
 have f : IN (FG 42 [48]) = (0, []) := by
  have : ML [48] = some 0 := by
   have h : (KD 0).data.toList = [48] := by
    rw [IT, if_pos AK]
    show txt 0 = [48]
    have := txt_zero
    unfold MC at this
    have e := congrArg (fun b : ByteArray => b.data.toList) this
    simpa using e
   rw [<- h]; exact mY 0
  show IN [[48]] = _
  unfold IN
  simp only [this]
 unfold bL
 rw [f]
 simp only [GG]
 rw [if_neg]
 rintro ⟨h, _⟩
 revert h; decide +kernel
theorem Bk {vars : List Bs} (hv : DL 8 vars = true) {p : List Tm} (hp : ED p) (hw : ∀ t ∈ p, within vars.length t.2) (h : DS vars p = [48]) : p = [] := by
 cases p with
 | nil => rfl
 | cons t r =>
   exfalso
   obtain ⟨c, m⟩ := t
   have k := hp.1 (c, m) AH
   rw [YN] at h
   have e : FG 32 (jn 32 (nN vars (c, m) :: r.flatMap (lP vars))) = nN vars (c, m) :: r.flatMap (lP vars) := gU 32 AH (by
    intro x f
    rcases List.mem_cons.1 f with rfl | f
    . exact Pn (FJ hv) _
    exact Kv (FJ hv) r x f)
   rw [h] at e
   have u : nN vars (c, m) = [48] := by
    have : FG 32 [48] = [[48]] := rfl
    rw [this] at e
    simp at e; exact e.1.symm
   have o := yI (m := m) hv k.1 false
   rw [u] at o
   have q : ET vars (KA c) m = [48] := by
    have := congrArg Prod.fst o
    simpa [OT] using this.symm
   have l := sU hv (fU k.1) k.2 (hw (c, m) AH)
   rw [q, My] at l; cases l
theorem Bd {vars : List Bs} (hv : DL 8 vars = true) {p : List Tm} (hp : ED p) (hw : ∀ t ∈ p, within vars.length t.2) (hl : (DS vars p).length <= 4000) : GO vars (DS vars p) = (p, 0, 0) := by
 unfold GO
 rw [if_neg (by rw [hv]; simp), if_neg AA]
 cases p with
 | nil => rw [if_pos (by rfl)]
 | cons t r =>
   obtain ⟨c, m⟩ := t
   rw [if_neg (fun h => by have := Bk hv hp hw h; cases this)]
   have f := hp.1 (c, m) AH
   rw [YN, gU 32 AH (by
    intro x e
    rcases List.mem_cons.1 e with rfl | e
    . exact Pn (FJ hv) _
    exact Kv (FJ hv) r x e)]
   rw [QB, if_neg AA, yI hv f.1]
   simp only [sU hv (fU f.1) f.2 (hw (c, m) AH)]
   rw [if_neg AH, Ec]
   have := qN hv r 1 (0 + (nN vars (c, m)).length + 1) false [(c, m)] AA AH (by simpa using hp) (fun t k => hw t (by simp [k]))
   simpa using this
theorem mM {vars : List Bs} : ∀ (n : Nat) (ws : List Bs) (i at_ : Nat) (neg : Bool) (p : List Tm) (q : List Tm) (k : Nat), ws.length <= n -> i % 2 = 1 -> p ≠ [] -> ED p -> QB vars ws i at_ neg p = (q, k, 0) ->
 k = 0 /\ ∃ r, q = p ++ r /\ ws = r.flatMap (lP vars) /\ ED q /\ ∀ t ∈ r, within vars.length t.2
 | n, [], i, at_, neg, p, q, k, _, hi, _, hok, h => by
   rw [QB, if_neg AA] at h
   simp only [Prod.mk.injEq] at h
   obtain ⟨rfl, rfl, _⟩ := h
   exact ⟨rfl, [], by simp, rfl, hok, fun t ht => by cases ht⟩
 | n, [s], i, at_, neg, p, q, k, _, hi, _, hok, h => by
   rw [QB, if_pos hi] at h
   split at h
   . rw [QB, if_pos AA] at h
     simp at h
   simp at h
 | 0, s :: w :: ws, i, at_, neg, p, q, k, hn, hi, _, hok, h => by simp at hn
 | n + 1, s :: w :: ws, i, at_, neg, p, q, k, hn, hi, hp, hok, h => by
   rw [QB, if_pos hi] at h
   by_cases hs : s = [43] ∨ s = [45]
   . rw [if_pos hs, QB, if_neg AA] at h
     have hcs : ∀ g : Bool, OT (i + 1) g w = (w, g) := fun g => by unfold OT; rw [if_neg AA]
     rw [hcs] at h
     cases hr : bL vars w with
     | none => simp [hr] at h
     | some cm =>
       obtain ⟨c, m⟩ := cm
       simp only [hr] at h
       split at h
       . simp at h
       rename_i hlt
       obtain ⟨h1, h2⟩ := wM hr
       obtain ⟨h3, h4⟩ := mL hr
       have hok2 : ED (p ++ [(Av (decide (s = [45])) c, m)]) := by
        refine ⟨fun t ht => ?_, Ko hok.2 fun a e => ?_⟩
        . rcases List.mem_append.1 ht with g | g
          . exact hok.1 t g
          simp at g; subst g; exact ⟨Ly h1, h3⟩
        have : ¬ 0 <= ES m a.2 := fun g => hlt ⟨by omega, by unfold eL; rw [e]; exact g⟩
        have f := aH m a.2
        rcases aG m a.2 with g | g | g <;> simp only at * <;> omega
       obtain ⟨e1, r, e2, e3, e4, e5⟩ := mM n ws _ _ _ _ q k (by simp at hn; omega) AA AH hok2 h
       refine ⟨e1, (Av (decide (s = [45])) c, m) :: r, by rw [e2]; simp, ?_, e4, fun t ht => ?_⟩
       . simp only [List.flatMap_cons, lP, uL h1, h2]
         rw [<- e3]
         have : (if Av (decide (s = [45])) c < 0 then [45] else [43] : Bs) = s := by
          have := Eb (neg := decide (s = [45])) h1
          rcases hs with rfl | rfl
          . rw [if_neg (by simpa using this)]
          rw [if_pos (by simpa using this)]
         rw [this]; rfl
       rcases List.mem_cons.1 ht with rfl | ht
       . exact h4
       exact e5 t ht
   rw [if_neg hs] at h; simp at h
theorem iW {vars : List Bs} {t : Bs} {p : List Tm} (h : GO vars t = (p, n, 0)) : DL 8 vars = true /\ t.length <= 4000 /\ n = 0 /\ ED p /\ (∀ t ∈ p, within vars.length t.2) /\ DS vars p = t := by
 unfold GO at h
 by_cases k : DL 8 vars = false
 . rw [if_pos k] at h; simp at h
 rw [if_neg k] at h
 by_cases v : 4000 < t.length
 . rw [if_pos v] at h; simp at h
 rw [if_neg v] at h
 refine ⟨by simpa using k, by omega, ?_⟩
 by_cases q : t = [48]
 . rw [if_pos q] at h
   simp only [Prod.mk.injEq] at h
   obtain ⟨rfl, rfl, _⟩ := h
   exact ⟨rfl, ⟨fun _ e => (by cases e), ZQ⟩, fun _ e => (by cases e), (by rw [q]; rfl)⟩
 rw [if_neg q] at h
 have y := Cg 32 t
 cases u : FG 32 t with
 | nil => exact absurd u (SR 32 t)
 | cons w ws =>
   rw [u] at h y
   rw [QB, if_neg AA] at h
   cases f : bL vars (OT 0 false w).1 with
   | none => simp [f] at h
   | some cm =>
     obtain ⟨c, m⟩ := cm
     simp only [f] at h
     rw [if_neg AH] at h
     obtain ⟨o, C⟩ := wM f
     obtain ⟨B, z⟩ := mL f
     have l : ED ([] ++ [(Av (OT 0 false w).2 c, m)]) := ⟨fun t e => by simp at e; subst e; exact ⟨Ly o, B⟩, Rt _⟩
     obtain ⟨e1, r, e2, e3, e4, e5⟩ := mM ws.length ws _ _ _ _ p n (Nat.le_refl _) AA AH l h
     refine ⟨e1, e4, ?_, ?_⟩
     . rw [e2]
       intro t e
       rcases List.mem_append.1 e with g | g
       . simp at g; subst g; exact z
       exact e5 t g
     rw [e2]
     show DS vars ((Av (OT 0 false w).2 c, m) :: r) = t
     rw [YN, <- e3, <- y]
     congr 2
     unfold nN
     rw [Eb o, uL o, C]
     unfold OT SS
     rw [if_pos rfl]
     by_cases g : w.head? = some 45
     . rw [if_pos g]
       cases w with
       | nil => simp at g
       | cons x w => simp at g; simp [g]
     rw [if_neg g]; simp
theorem Oz (b : UInt8) {l : List Bs} (h : l ≠ []) : (l.map (fun w => w.length + 1)).sum = (jn b l).length + 1 := by
 induction l with
 | nil => exact absurd rfl h
 | cons x r ih =>
   cases r with
   | nil => simp [jn]
   | cons y r =>
     rw [IP b x AH, List.map_cons, List.sum_cons, ih AH]
     simp; omega
end Go.Proofs.YtmppigbbkjepiaaGreatDoor
