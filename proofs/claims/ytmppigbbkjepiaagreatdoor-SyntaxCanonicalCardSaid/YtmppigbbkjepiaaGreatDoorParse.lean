/- Walk: integer.Parse. (Printed by g_parse2.py.) -/
import Derived.Test.YtmppigbbkjepiaaGreatDoorDecim
namespace Go.Proofs.YtmppigbbkjepiaaGreatDoor
open Go.Proofs.Tryz
open Go.RowKit W
inductive RetPa (w0 : World) (s : ByteArray) (e : Ending) (w' : World) : Prop where
  | big (h : 4000 < s.size) (r : bM w0 0 2 e w')
  | form (h : s.size ≤ 4000) (h' : DQ s.data.toList = none) (r : bM w0 0 3 e w')
  | ok {z : Int} (h : s.size ≤ 4000) (h' : DQ s.data.toList = some z) (r : bM w0 z 0 e w')
theorem QC (s : ByteArray) (w : World) (hs : s.size ≤ 1000000) {b : Bool} (h : IW s.data.toList = b) (b' : Bool) (hb : b = b' := by rfl) : Calls prog 173 #[.string s] w (JO w b') := by
  have := Db s w hs
  rwa [h, hb] at this
theorem zD {l : List UInt8} (h : l.length = 0 ∨ ∃ c : UInt8, l[0]? = some c ∧ ¬ c.toNat = 45) : ¬ l.head? = some 45 := by
  rw [List.head?_eq_getElem?]
  rintro e
  rcases h with h | ⟨c, f, k⟩
  · rw [List.eq_nil_of_length_eq_zero h] at e; cases e
  · rw [e] at f; cases f; exact k rfl
theorem Hu {l : List UInt8} {c : UInt8} (h : l[0]? = some c) (hc : c.toNat = 45) : l.head? = some 45 := by
  rw [List.head?_eq_getElem?, h, show c = 45 from UInt8.toNat_inj.1 hc]
theorem lZ {l : List UInt8} (h : ¬ l.head? = some 45) (hk : ¬ IW l = true) : DQ l = none := by unfold DQ; rw [if_neg h, if_neg hk]
theorem Cm {l : List UInt8} (h : l.head? = some 45) (hk : ¬ IW l.tail = true) : DQ l = none := by unfold DQ; rw [if_pos h, if_neg (fun e => hk e.1)]
theorem vJ {l : List UInt8} (h : l.head? = some 45) (hk : l.tail = [48]) : DQ l = none := by unfold DQ; rw [if_pos h, if_neg (fun e => e.2 hk)]
theorem rL {l l' : List UInt8} (h : ¬ l.head? = some 45) (hl : l' = l) (hk : IW l' = true) : DQ l = some (DE (KH l') : Int) := by subst hl; unfold DQ; rw [if_neg h, if_pos hk]
theorem rM {l l' : List UInt8} (h : l.head? = some 45) (hl : l' = l.tail) (hk : IW l' = true) (h48 : ¬ l' = [48]) : DQ l = some (-(DE (KH l') : Int)) := by subst hl; unfold DQ; rw [if_pos h, if_pos ⟨hk, h48⟩]
theorem sV (l : List UInt8) : (KH l).take l.length = KH l := by
  rw [List.take_of_length_le]; simp [KH]
theorem zP {l : List UInt8} (h : ∀ b ∈ l, 48 ≤ b.toNat ∧ b.toNat ≤ 57) : Dg (KH l) := by
  intro d e
  obtain ⟨b, f, rfl⟩ := List.mem_map.1 e
  have := h b f
  omega
theorem Ay {l : List Nat} (h : Dg l) (p i : Nat) : Dg ((l.drop p).take i) := fun d hd => h d (List.mem_of_mem_drop (List.mem_of_mem_take hd))
theorem WQ {l : List UInt8} {p i : Nat} (h : ∀ b ∈ l, 48 ≤ b.toNat ∧ b.toNat ≤ 57) (hi : i ≤ 9) : DE (((KH l).drop p).take i) < 1000000000 := by
  have f := gW (Ay (zP h) p i)
  have e : 10 ^ (((KH l).drop p).take i).length ≤ 10 ^ 9 := Nat.pow_le_pow_right Z (by rw [List.length_take]; omega)
  have : (10 : Nat) ^ 9 = 1000000000 := rfl
  omega
theorem pC {l : List UInt8} {p i : Nat} (h : ∀ b ∈ l, 48 ≤ b.toNat ∧ b.toNat ≤ 57) (hi : i ≤ 9) : DE (((KH l).drop p).take i) < 1000000000 := WQ h hi
theorem bH {l : List UInt8} {p i : Nat} {b : UInt8} (hb : l[p + i]? = some b) : DE (((KH l).drop p).take (i + 1)) = 10 * DE (((KH l).drop p).take i) + (b.toNat - 48) := by
  have f : (KH l)[p + i]? = some (b.toNat - 48) := by unfold KH; rw [List.getElem?_map, hb]; rfl
  have e : ((KH l).drop p)[i]? = some (b.toNat - 48) := by rw [List.getElem?_drop]; exact f
  rw [List.take_add_one, e]
  exact TK _ _
theorem jO (l : List UInt8) : (KH l).length = l.length := by simp [KH]
theorem XF {l : List UInt8} {p : Nat} (h : ∀ b ∈ l, 48 ≤ b.toNat ∧ b.toNat ≤ 57) (hl : l.length ≤ 1000000) : (CB (DE ((KH l).take p))).length ≤ 1000000000 := by
  have e : Dg ((KH l).take p) := by have := Ay (zP h) 0 p; rwa [List.drop_zero] at this
  have f := gW e
  exact Nat.le_trans (IH (k := ((KH l).take p).length) (Nat.lt_of_lt_of_le f (Nat.pow_le_pow_left AD _))) (by rw [List.length_take, jO]; omega)
theorem XS {l : List UInt8} {p n m : Nat} (h : p + m = l.length) (hn : n ≤ m) (hp : p = 0 ∨ n = 9) (h9 : n ≤ 9) : DE ((KH l).take p) * 1000000000 + DE (((KH l).drop p).take n) = DE ((KH l).take (p + n)) := by
  rw [List.take_add, TL]
  rcases hp with rfl | rfl
  · rw [List.take_zero, XC]; omega
  · have e : (((KH l).drop p).take 9).length = 9 := by rw [List.length_take, List.length_drop, jO]; omega
    rw [e]
set_option maxRecDepth 100000 in
set_option maxHeartbeats 4000000 in
theorem pL (s : ByteArray) (w : World) (hs9 : s.size ≤ 1000000) :
    Calls prog 137 #[.string s] w (RetPa w s) := by
 have E := Env.start w
 go_enter func137, ntmps137
 refine zG ?_
 refine EF O (CA FM O ?_)
 intro b1 w1 e1 z1 d1 H
 have l1 : w.heap.size ≤ b1 := by rw [e1]; exact E.1.size
 replace E := E.below d1
 clear e1 z1 d1
 by_cases c4 : 4000 < s.size
 case pos =>
  replace E := E.i (KS _)
  refine zG ?_
  refine EF O (BX FM O O O H O O (IsI.one E.1) ?_)
  intro w2 o2 y2
  replace E := (E.onl (H.noW CW) zK o2).b y2
  clear H o2 y2
  have r3 := CY FM E.1 rfl
  refine zG ?_
  exact AP (v := .tuple #[.agg #[.bool false, .slice none 0 0], .int .i64 2]) (by simp [results, results137, asAddr, r3]) O (RetPa.big Z ⟨_, O, E.2.1, E.2.2.1⟩)
 by_cases hs : s.size = 0
 case pos =>
  have J : ¬ s.data.toList.head? = some 45 := zD (.inl (by rw [HH]; exact hs))
  have b7 : s.size ≤ 4000 := by omega
  by_cases e : IW s.data.toList = true
  case pos =>
   have ae := XN e
   have S := HH s
   exfalso
   omega
  refine zG ?_
  refine EF O (BY GE O (QC s _ Z (by simpa using e) false) O E ?_)
  clear E
  intro cw bg E
  replace H := H.below bg
  clear bg
  replace E := E.i (KS _)
  refine zG ?_
  refine EF O (BX FM O O O H O O (IsI.one E.1) ?_)
  intro cv b6 az
  replace E := (E.onl (H.noW CW) zK b6).b az
  clear H b6 az
  have bv := CY FM E.1 rfl
  refine zG ?_
  exact AP (v := .tuple #[.agg #[.bool false, .slice none 0 0], .int .i64 3]) (by simp [results, results137, asAddr, bv]) O (RetPa.form Z (lZ J e) ⟨_, O, E.2.1, E.2.2.1⟩)
 obtain ⟨c, hc, b8⟩ := RK (i := 0) (s := s) Z
 by_cases b9 : c.toNat = 45
 case neg =>
  have J : ¬ s.data.toList.head? = some 45 := zD (.inr ⟨c, b8, b9⟩)
  refine zG ?_
  refine V (v := .int .u8 ↑c.toNat) O O (GP (j := 0) O underlying9 O O O hc) ?_
  have b7 : s.size ≤ 4000 := by omega
  by_cases e : IW s.data.toList = true
  case neg =>
   refine zG ?_
   refine EF O (BY GE O (QC s _ Z (by simpa using e) false) O E ?_)
   clear E
   intro ca ba E
   replace H := H.below ba
   clear ba
   replace E := E.i (KS _)
   refine zG ?_
   refine EF O (BX FM O O O H O O (IsI.one E.1) ?_)
   intro c9 b0 au
   replace E := (E.onl (H.noW CW) zK b0).b au
   clear H b0 au
   have bp := CY FM E.1 rfl
   refine zG ?_
   exact AP (v := .tuple #[.agg #[.bool false, .slice none 0 0], .int .i64 3]) (by simp [results, results137, asAddr, bp]) O (RetPa.form Z (lZ J e) ⟨_, O, E.2.1, E.2.2.1⟩)
  refine zG ?_
  refine EF O (BY GE O (QC s _ Z (e) true) O E ?_)
  clear E
  intro bh bb E
  replace H := H.below bb
  clear bb
  have ae := XN e
  have f := QB e
  have S := HH s
  obtain ⟨l, hl⟩ : ∃ l, l = s.data.toList := ⟨_, rfl⟩
  rw [← hl] at e ae f S
  replace E := E.b H
  clear H
  have an : Sl bh (.slice none 0 0) (CB (DE ((KH l).take 0))) := by rw [List.take_zero, XC, DU]; exact ZL _
  replace E := E.s an
  refine zG ?_
  refine wp_loop_ghost (fun mz a w' => ∃ (p : Nat) (R : ByteArray) (vm : Value) (g7 g8 g9 ad ac ab aa a9 a8 a7 a6 a5 a4 G F D C B z y u t q o a1 a0 Y X U T : Value), a = ⟨#[.string s, undef, .pointer (some ⟨b1, 0, none⟩), .int .i64 0, .bool false, .string R, vm, g7, g8, g9, .string s, .int .i64 ↑s.size, .bool false, undef, .string s, .int .i64 ↑s.size, .bool true, .bool true, .string s, .int .u8 ↑c.toNat, .bool false, .bool false, .string s, .bool false, undef, undef, .string s, .bool true, .bool false, .bool false, .bool false, .bool false, undef, undef, .bool false, .bool false, undef, ad, ac, ab, aa, a9, a8, a7, a6, a5, a4, G, F, D, C, B, z, y, u, t, q, o, a1, a0, Y, X, U, T, undef, undef, undef], []⟩ ∧ Env w' [fS vm (CB (DE ((KH l).take p))), fB b1 false (.slice none 0 0), fW w] ∧ mz = R.size ∧ p + R.size = l.length ∧ R.data.toList = l.drop p ∧ (p = 0 ∨ R.size % 9 = 0)) (s.size) ⟨0, s, .slice none 0 0, _, _, _, _, _, _, _, _, _, _, _, _, _, _, _, _, _, _, _, _, _, _, _, _, _, _, _, _, _, _, O, zE, O, ⟨by rw [S]; omega, by rw [← hl]; rfl, .inl O⟩⟩ ?_
  rintro cz _ ch ⟨p, R, vm, g7, g8, g9, ad, ac, ab, aa, a9, a8, a7, a6, a5, a4, G, F, D, C, B, z, y, u, t, q, o, a1, a0, Y, X, U, T, rfl, E, ah, h⟩
  by_cases hR : R.size = 0
  case pos =>
   have ao : p = l.length := by have := h.1; omega
   refine zG ?_
   refine EF O (CG RV O (OT false _ _ ((DE (KH l) : Int)) _ E.1 (by rw [CK, ao, sV]; rfl)) O E ?_)
   clear E
   intro cg bw bn _ E
   have aj := E.2.2.1
   refine zG ?_
   replace E := Sq E
   refine EF O (BX FM O O O aj O O (IsI.one E.1) ?_)
   intro cf b2 av
   replace E := (E.onl (aj.noW CW) zK b2).b av
   clear aj b2 av
   have bq := CY FM E.1 rfl
   refine zG ?_
   exact AP (v := .tuple #[.agg #[.bool bw, bn], .int .i64 0]) (by simp [results, results137, asAddr, bq]) O (RetPa.ok Z (rL J hl e) ⟨_, O, E.2.1, E.2.2.2.1⟩)
  by_cases h9 : R.size % 9 = 0
  case pos =>
   have bz : 9 ≤ R.size := by omega
   refine zG ?_
   refine V (v := .int .i64 ↑(R.size % 9)) O O (FB O O O AD (VL _ 9)) ?_
   refine zG ?_
   refine wp_loop_ghost (fun mz a w' => ∃ (i : Nat) (g9 G F D C B z y u t q o : Value), a = ⟨#[.string s, undef, .pointer (some ⟨b1, 0, none⟩), .int .i64 0, .bool false, .string R, vm, .int .i64 9, .int .u64 ↑(DE (((KH l).drop p).take i)), g9, .string s, .int .i64 ↑s.size, .bool false, undef, .string s, .int .i64 ↑s.size, .bool true, .bool true, .string s, .int .u8 ↑c.toNat, .bool false, .bool false, .string s, .bool false, undef, undef, .string s, .bool true, .bool false, .bool false, .bool false, .bool false, undef, undef, .bool false, .bool false, undef, .string R, .int .i64 ↑R.size, .bool true, .string R, .int .i64 ↑R.size, .int .i64 ↑(R.size % 9), .int .i64 ↑(R.size % 9), .bool true, .int .i64 9, .int .i64 ↑i, G, F, D, C, B, z, y, u, t, q, o, a1, a0, Y, X, U, T, undef, undef, undef], []⟩ ∧ Env w' [fS vm (CB (DE ((KH l).take p))), fB b1 false (.slice none 0 0), fW w] ∧ mz = 9 - i ∧ i ≤ 9) (9) ⟨0, _, _, _, _, _, _, _, _, _, _, _, _, O, zE, O, Nat.zero_le _⟩ ?_
   rintro cy _ ce ⟨i, g9, G, F, D, C, B, z, y, u, t, q, o, rfl, E, c1, c6⟩
   by_cases hi : i = 9
   case pos =>
    have a3 : DE (((KH l).drop p).take i) < 1000000000 := WQ (l := l) (p := p) f Z
    have a2 : (CB (DE ((KH l).take p))).length ≤ 1000000000 := XF f Z
    refine zG ?_
    refine EF O (EH KP O (XI _ (CB (DE ((KH l).take p))) 1000000000 _ _ E.1 a2 AD a3) O E ?_)
    clear E
    intro cd bk _ E
    refine zG ?_
    refine V (v := .string (R.extract 9 R.size)) O O (QJ (j := 9) O underlying9 O O O Z) ?_
    refine zG ?_
    skip
    have P := E.1
    rw [CK, hi, XS (l := l) (p := p) (n := 9) h.1 Z Z Z] at P
    replace E := E.s P
    have Q : (R.extract 9 R.size).data.toList = l.drop (p + 9) := by rw [VM R 9 Z, h.2.1, List.drop_drop]
    have ar : (R.extract 9 R.size).size + 9 = R.size := by rw [← HH, Q, List.length_drop]; have := h.1; omega
    exact ⟨_, (by rw [ah]; omega), p + 9, R.extract 9 R.size, bk, _, _, _, _, _, _, _, _, _, _, _, _, _, _, _, _, _, _, _, _, _, _, _, _, _, _, _, _, _, _, O, zE, O, ⟨by have := h.1; omega, Q, .inr Z⟩⟩
   have ap : i < 9 := by omega
   obtain ⟨b, hb, N⟩ := RK (s := R) (i := i) Z
   have L : l[p + i]? = some b := by rw [h.2.1, List.getElem?_drop] at N; exact N
   have aq := f b (List.mem_of_getElem? L)
   have am := pC (l := l) (p := p) (i := i) f Z
   refine zG ?_
   refine V (v := .int .u64 ↑(10 * DE (((KH l).drop p).take i))) O O (VS O O O (EJ Z Z)) ?_
   refine zG ?_
   refine V (v := .int .u8 ↑b.toNat) O O (GP (j := i) O underlying9 O O O hb) ?_
   refine zG ?_
   refine V (v := .int .u8 ↑(b.toNat - 48)) O O (GJ O O O (OQ Z Z)) ?_
   refine zG ?_
   refine V (v := .int .u64 ↑(b.toNat - 48)) O O (ES O O (by rw [underlying5]; rfl) underlying161 (EJ Z Z)) ?_
   have al := bH (l := l) (p := p) (i := i) L
   refine zG ?_
   refine V (v := .int .u64 ↑(DE (((KH l).drop p).take (i + 1)))) O O (JJ O O O (EJ Z Z)) ?_
   refine zG ?_
   exact ⟨_, Z, i + 1, _, _, _, _, _, _, _, _, _, _, _, _, rfl, zE, rfl, Z⟩
  refine zG ?_
  refine V (v := .int .i64 ↑(R.size % 9)) O O (FB O O O AD (VL _ 9)) ?_
  refine zG ?_
  refine wp_loop_ghost (fun mz a w' => ∃ (i : Nat) (g9 G F D C B z y u t q o : Value), a = ⟨#[.string s, undef, .pointer (some ⟨b1, 0, none⟩), .int .i64 0, .bool false, .string R, vm, .int .i64 ↑(R.size % 9), .int .u64 ↑(DE (((KH l).drop p).take i)), g9, .string s, .int .i64 ↑s.size, .bool false, undef, .string s, .int .i64 ↑s.size, .bool true, .bool true, .string s, .int .u8 ↑c.toNat, .bool false, .bool false, .string s, .bool false, undef, undef, .string s, .bool true, .bool false, .bool false, .bool false, .bool false, undef, undef, .bool false, .bool false, undef, .string R, .int .i64 ↑R.size, .bool true, .string R, .int .i64 ↑R.size, .int .i64 ↑(R.size % 9), .int .i64 ↑(R.size % 9), .bool false, .int .i64 ↑(R.size % 9), .int .i64 ↑i, G, F, D, C, B, z, y, u, t, q, o, a1, a0, Y, X, U, T, undef, undef, undef], []⟩ ∧ Env w' [fS vm (CB (DE ((KH l).take p))), fB b1 false (.slice none 0 0), fW w] ∧ mz = (R.size % 9) - i ∧ i ≤ (R.size % 9)) ((R.size % 9)) ⟨0, _, _, _, _, _, _, _, _, _, _, _, _, O, zE, O, Nat.zero_le _⟩ ?_
  rintro cx _ cc ⟨i, g9, G, F, D, C, B, z, y, u, t, q, o, rfl, E, c0, c5⟩
  by_cases hi : i = R.size % 9
  case pos =>
   have a3 : DE (((KH l).drop p).take i) < 1000000000 := WQ (l := l) (p := p) f Z
   have a2 : (CB (DE ((KH l).take p))).length ≤ 1000000000 := XF f Z
   refine zG ?_
   refine EF O (EH KP O (XI _ (CB (DE ((KH l).take p))) 1000000000 _ _ E.1 a2 AD a3) O E ?_)
   clear E
   intro cb bj _ E
   refine zG ?_
   refine V (v := .string (R.extract (R.size % 9) R.size)) O O (QJ (j := (R.size % 9)) O underlying9 O O O Z) ?_
   refine zG ?_
   skip
   have P := E.1
   rw [CK, hi, XS (l := l) (p := p) (n := R.size % 9) h.1 Z Z Z] at P
   replace E := E.s P
   have Q : (R.extract (R.size % 9) R.size).data.toList = l.drop (p + (R.size % 9)) := by rw [VM R (R.size % 9) Z, h.2.1, List.drop_drop]
   have ar : (R.extract (R.size % 9) R.size).size + (R.size % 9) = R.size := by rw [← HH, Q, List.length_drop]; have := h.1; omega
   exact ⟨_, (by rw [ah]; omega), p + (R.size % 9), R.extract (R.size % 9) R.size, bj, _, _, _, _, _, _, _, _, _, _, _, _, _, _, _, _, _, _, _, _, _, _, _, _, _, _, _, _, _, _, O, zE, O, ⟨by have := h.1; omega, Q, .inr Z⟩⟩
  have ap : i < (R.size % 9) := by omega
  obtain ⟨b, hb, N⟩ := RK (s := R) (i := i) Z
  have L : l[p + i]? = some b := by rw [h.2.1, List.getElem?_drop] at N; exact N
  have aq := f b (List.mem_of_getElem? L)
  have am := pC (l := l) (p := p) (i := i) f Z
  refine zG ?_
  refine V (v := .int .u64 ↑(10 * DE (((KH l).drop p).take i))) O O (VS O O O (EJ Z Z)) ?_
  refine zG ?_
  refine V (v := .int .u8 ↑b.toNat) O O (GP (j := i) O underlying9 O O O hb) ?_
  refine zG ?_
  refine V (v := .int .u8 ↑(b.toNat - 48)) O O (GJ O O O (OQ Z Z)) ?_
  refine zG ?_
  refine V (v := .int .u64 ↑(b.toNat - 48)) O O (ES O O (by rw [underlying5]; rfl) underlying161 (EJ Z Z)) ?_
  have al := bH (l := l) (p := p) (i := i) L
  refine zG ?_
  refine V (v := .int .u64 ↑(DE (((KH l).drop p).take (i + 1)))) O O (JJ O O O (EJ Z Z)) ?_
  refine zG ?_
  exact ⟨_, Z, i + 1, _, _, _, _, _, _, _, _, _, _, _, _, rfl, zE, rfl, Z⟩
 have J : s.data.toList.head? = some 45 := Hu b8 b9
 refine zG ?_
 refine V (v := .int .u8 ↑c.toNat) O O (GP (j := 0) O underlying9 O O O hc) ?_
 refine zG ?_
 refine V (v := .string (s.extract 1 s.size)) O O (QJ (j := 1) O underlying9 O O O Z) ?_
 have af : (s.extract 1 s.size).data.toList = s.data.toList.tail := by rw [VM s 1 Z]; exact List.drop_one
 have b7 : (s.extract 1 s.size).size ≤ 4000 := by rw [← HH, af, List.length_tail, HH]; omega
 by_cases e : IW (s.extract 1 s.size).data.toList = true
 case neg =>
  refine zG ?_
  refine EF O (BY GE O (QC (s.extract 1 s.size) _ Z (by simpa using e) false) O E ?_)
  clear E
  intro cj bc E
  replace H := H.below bc
  clear bc
  replace E := E.i (KS _)
  refine zG ?_
  refine EF O (BX FM O O O H O O (IsI.one E.1) ?_)
  intro ci b3 aw
  replace E := (E.onl (H.noW CW) zK b3).b aw
  clear H b3 aw
  have br := CY FM E.1 rfl
  refine zG ?_
  exact AP (v := .tuple #[.agg #[.bool false, .slice none 0 0], .int .i64 3]) (by simp [results, results137, asAddr, br]) O (RetPa.form Z (Cm J (by rw [← af]; exact e)) ⟨_, O, E.2.1, E.2.2.1⟩)
 by_cases ag : (s.extract 1 s.size).data.toList = [48]
 case pos =>
  refine zG ?_
  refine EF O (BY GE O (QC (s.extract 1 s.size) _ Z (e) true) O E ?_)
  clear E
  intro cu bf E
  replace H := H.below bf
  clear bf
  refine zG ?_
  refine V (v := .bool true) O O (TW O O O (by rw [beq_iff_eq]; exact ag)) ?_
  replace E := E.i (KS _)
  refine zG ?_
  refine EF O (BX FM O O O H O O (IsI.one E.1) ?_)
  intro ct b5 ay
  replace E := (E.onl (H.noW CW) zK b5).b ay
  clear H b5 ay
  have bu := CY FM E.1 rfl
  refine zG ?_
  exact AP (v := .tuple #[.agg #[.bool false, .slice none 0 0], .int .i64 3]) (by simp [results, results137, asAddr, bu]) O (RetPa.form Z (vJ J (by rw [← af]; exact ag)) ⟨_, O, E.2.1, E.2.2.1⟩)
 refine zG ?_
 refine EF O (BY GE O (QC (s.extract 1 s.size) _ Z (e) true) O E ?_)
 clear E
 intro bi bd E
 replace H := H.below bd
 clear bd
 refine zG ?_
 refine V (v := .bool false) O O (TW O O O (by rw [beq_eq_false_iff_ne]; exact ag)) ?_
 have ae := XN e
 have f := QB e
 have S := HH (s.extract 1 s.size)
 obtain ⟨l, hl⟩ : ∃ l, l = (s.extract 1 s.size).data.toList := ⟨_, rfl⟩
 rw [← hl] at e ae f S
 replace E := E.b H
 clear H
 have an : Sl bi (.slice none 0 0) (CB (DE ((KH l).take 0))) := by rw [List.take_zero, XC, DU]; exact ZL _
 replace E := E.s an
 refine zG ?_
 refine wp_loop_ghost (fun mz a w' => ∃ (p : Nat) (R : ByteArray) (vm : Value) (g7 g8 g9 ad ac ab aa a9 a8 a7 a6 a5 a4 G F D C B z y u t q o a1 a0 Y X U T : Value), a = ⟨#[.string s, undef, .pointer (some ⟨b1, 0, none⟩), .int .i64 0, .bool true, .string R, vm, g7, g8, g9, .string s, .int .i64 ↑s.size, .bool false, undef, .string s, .int .i64 ↑s.size, .bool true, .bool true, .string s, .int .u8 ↑c.toNat, .bool true, .bool true, .string s, .bool true, .string s, .string (s.extract 1 s.size), .string (s.extract 1 s.size), .bool true, .bool false, .bool false, .bool true, .bool true, .string (s.extract 1 s.size), .bool false, .bool false, .bool false, undef, ad, ac, ab, aa, a9, a8, a7, a6, a5, a4, G, F, D, C, B, z, y, u, t, q, o, a1, a0, Y, X, U, T, undef, undef, undef], []⟩ ∧ Env w' [fS vm (CB (DE ((KH l).take p))), fB b1 false (.slice none 0 0), fW w] ∧ mz = R.size ∧ p + R.size = l.length ∧ R.data.toList = l.drop p ∧ (p = 0 ∨ R.size % 9 = 0)) ((s.extract 1 s.size).size) ⟨0, s.extract 1 s.size, .slice none 0 0, _, _, _, _, _, _, _, _, _, _, _, _, _, _, _, _, _, _, _, _, _, _, _, _, _, _, _, _, _, _, O, zE, O, ⟨by rw [S]; omega, by rw [← hl]; rfl, .inl O⟩⟩ ?_
 rintro d3 _ cr ⟨p, R, vm, g7, g8, g9, ad, ac, ab, aa, a9, a8, a7, a6, a5, a4, G, F, D, C, B, z, y, u, t, q, o, a1, a0, Y, X, U, T, rfl, E, ai, k⟩
 by_cases hR : R.size = 0
 case pos =>
  have ao : p = l.length := by have := k.1; omega
  refine zG ?_
  refine EF O (CG RV O (OT true _ _ (-(DE (KH l) : Int)) _ E.1 (by rw [CK, ao, sV]; rfl)) O E ?_)
  clear E
  intro cq bx bo _ E
  have ak := E.2.2.1
  refine zG ?_
  replace E := Sq E
  refine EF O (BX FM O O O ak O O (IsI.one E.1) ?_)
  intro cp b4 ax
  replace E := (E.onl (ak.noW CW) zK b4).b ax
  clear ak b4 ax
  have bt := CY FM E.1 rfl
  refine zG ?_
  exact AP (v := .tuple #[.agg #[.bool bx, bo], .int .i64 0]) (by simp [results, results137, asAddr, bt]) O (RetPa.ok Z (rM J (by rw [← af]; exact hl) e (by rw [hl]; exact ag)) ⟨_, O, E.2.1, E.2.2.2.1⟩)
 by_cases h9 : R.size % 9 = 0
 case pos =>
  have bz : 9 ≤ R.size := by omega
  refine zG ?_
  refine V (v := .int .i64 ↑(R.size % 9)) O O (FB O O O AD (VL _ 9)) ?_
  refine zG ?_
  refine wp_loop_ghost (fun mz a w' => ∃ (i : Nat) (g9 G F D C B z y u t q o : Value), a = ⟨#[.string s, undef, .pointer (some ⟨b1, 0, none⟩), .int .i64 0, .bool true, .string R, vm, .int .i64 9, .int .u64 ↑(DE (((KH l).drop p).take i)), g9, .string s, .int .i64 ↑s.size, .bool false, undef, .string s, .int .i64 ↑s.size, .bool true, .bool true, .string s, .int .u8 ↑c.toNat, .bool true, .bool true, .string s, .bool true, .string s, .string (s.extract 1 s.size), .string (s.extract 1 s.size), .bool true, .bool false, .bool false, .bool true, .bool true, .string (s.extract 1 s.size), .bool false, .bool false, .bool false, undef, .string R, .int .i64 ↑R.size, .bool true, .string R, .int .i64 ↑R.size, .int .i64 ↑(R.size % 9), .int .i64 ↑(R.size % 9), .bool true, .int .i64 9, .int .i64 ↑i, G, F, D, C, B, z, y, u, t, q, o, a1, a0, Y, X, U, T, undef, undef, undef], []⟩ ∧ Env w' [fS vm (CB (DE ((KH l).take p))), fB b1 false (.slice none 0 0), fW w] ∧ mz = 9 - i ∧ i ≤ 9) (9) ⟨0, _, _, _, _, _, _, _, _, _, _, _, _, O, zE, O, Nat.zero_le _⟩ ?_
  rintro d2 _ co ⟨i, g9, G, F, D, C, B, z, y, u, t, q, o, rfl, E, c3, c8⟩
  by_cases hi : i = 9
  case pos =>
   have a3 : DE (((KH l).drop p).take i) < 1000000000 := WQ (l := l) (p := p) f Z
   have a2 : (CB (DE ((KH l).take p))).length ≤ 1000000000 := XF f Z
   refine zG ?_
   refine EF O (EH KP O (XI _ (CB (DE ((KH l).take p))) 1000000000 _ _ E.1 a2 AD a3) O E ?_)
   clear E
   intro cn bm _ E
   refine zG ?_
   refine V (v := .string (R.extract 9 R.size)) O O (QJ (j := 9) O underlying9 O O O Z) ?_
   refine zG ?_
   skip
   have P := E.1
   rw [CK, hi, XS (l := l) (p := p) (n := 9) k.1 Z Z Z] at P
   replace E := E.s P
   have Q : (R.extract 9 R.size).data.toList = l.drop (p + 9) := by rw [VM R 9 Z, k.2.1, List.drop_drop]
   have ar : (R.extract 9 R.size).size + 9 = R.size := by rw [← HH, Q, List.length_drop]; have := k.1; omega
   exact ⟨_, (by rw [ai]; omega), p + 9, R.extract 9 R.size, bm, _, _, _, _, _, _, _, _, _, _, _, _, _, _, _, _, _, _, _, _, _, _, _, _, _, _, _, _, _, _, O, zE, O, ⟨by have := k.1; omega, Q, .inr Z⟩⟩
  have ap : i < 9 := by omega
  obtain ⟨b, hb, N⟩ := RK (s := R) (i := i) Z
  have L : l[p + i]? = some b := by rw [k.2.1, List.getElem?_drop] at N; exact N
  have aq := f b (List.mem_of_getElem? L)
  have am := pC (l := l) (p := p) (i := i) f Z
  refine zG ?_
  refine V (v := .int .u64 ↑(10 * DE (((KH l).drop p).take i))) O O (VS O O O (EJ Z Z)) ?_
  refine zG ?_
  refine V (v := .int .u8 ↑b.toNat) O O (GP (j := i) O underlying9 O O O hb) ?_
  refine zG ?_
  refine V (v := .int .u8 ↑(b.toNat - 48)) O O (GJ O O O (OQ Z Z)) ?_
  refine zG ?_
  refine V (v := .int .u64 ↑(b.toNat - 48)) O O (ES O O (by rw [underlying5]; rfl) underlying161 (EJ Z Z)) ?_
  have al := bH (l := l) (p := p) (i := i) L
  refine zG ?_
  refine V (v := .int .u64 ↑(DE (((KH l).drop p).take (i + 1)))) O O (JJ O O O (EJ Z Z)) ?_
  refine zG ?_
  exact ⟨_, Z, i + 1, _, _, _, _, _, _, _, _, _, _, _, _, rfl, zE, rfl, Z⟩
 refine zG ?_
 refine V (v := .int .i64 ↑(R.size % 9)) O O (FB O O O AD (VL _ 9)) ?_
 refine zG ?_
 refine wp_loop_ghost (fun mz a w' => ∃ (i : Nat) (g9 G F D C B z y u t q o : Value), a = ⟨#[.string s, undef, .pointer (some ⟨b1, 0, none⟩), .int .i64 0, .bool true, .string R, vm, .int .i64 ↑(R.size % 9), .int .u64 ↑(DE (((KH l).drop p).take i)), g9, .string s, .int .i64 ↑s.size, .bool false, undef, .string s, .int .i64 ↑s.size, .bool true, .bool true, .string s, .int .u8 ↑c.toNat, .bool true, .bool true, .string s, .bool true, .string s, .string (s.extract 1 s.size), .string (s.extract 1 s.size), .bool true, .bool false, .bool false, .bool true, .bool true, .string (s.extract 1 s.size), .bool false, .bool false, .bool false, undef, .string R, .int .i64 ↑R.size, .bool true, .string R, .int .i64 ↑R.size, .int .i64 ↑(R.size % 9), .int .i64 ↑(R.size % 9), .bool false, .int .i64 ↑(R.size % 9), .int .i64 ↑i, G, F, D, C, B, z, y, u, t, q, o, a1, a0, Y, X, U, T, undef, undef, undef], []⟩ ∧ Env w' [fS vm (CB (DE ((KH l).take p))), fB b1 false (.slice none 0 0), fW w] ∧ mz = (R.size % 9) - i ∧ i ≤ (R.size % 9)) ((R.size % 9)) ⟨0, _, _, _, _, _, _, _, _, _, _, _, _, O, zE, O, Nat.zero_le _⟩ ?_
 rintro d0 _ cm ⟨i, g9, G, F, D, C, B, z, y, u, t, q, o, rfl, E, c2, c7⟩
 by_cases hi : i = R.size % 9
 case pos =>
  have a3 : DE (((KH l).drop p).take i) < 1000000000 := WQ (l := l) (p := p) f Z
  have a2 : (CB (DE ((KH l).take p))).length ≤ 1000000000 := XF f Z
  refine zG ?_
  refine EF O (EH KP O (XI _ (CB (DE ((KH l).take p))) 1000000000 _ _ E.1 a2 AD a3) O E ?_)
  clear E
  intro ck bl _ E
  refine zG ?_
  refine V (v := .string (R.extract (R.size % 9) R.size)) O O (QJ (j := (R.size % 9)) O underlying9 O O O Z) ?_
  refine zG ?_
  skip
  have P := E.1
  rw [CK, hi, XS (l := l) (p := p) (n := R.size % 9) k.1 Z Z Z] at P
  replace E := E.s P
  have Q : (R.extract (R.size % 9) R.size).data.toList = l.drop (p + (R.size % 9)) := by rw [VM R (R.size % 9) Z, k.2.1, List.drop_drop]
  have ar : (R.extract (R.size % 9) R.size).size + (R.size % 9) = R.size := by rw [← HH, Q, List.length_drop]; have := k.1; omega
  exact ⟨_, (by rw [ai]; omega), p + (R.size % 9), R.extract (R.size % 9) R.size, bl, _, _, _, _, _, _, _, _, _, _, _, _, _, _, _, _, _, _, _, _, _, _, _, _, _, _, _, _, _, _, O, zE, O, ⟨by have := k.1; omega, Q, .inr Z⟩⟩
 have ap : i < (R.size % 9) := by omega
 obtain ⟨b, hb, N⟩ := RK (s := R) (i := i) Z
 have L : l[p + i]? = some b := by rw [k.2.1, List.getElem?_drop] at N; exact N
 have aq := f b (List.mem_of_getElem? L)
 have am := pC (l := l) (p := p) (i := i) f Z
 refine zG ?_
 refine V (v := .int .u64 ↑(10 * DE (((KH l).drop p).take i))) O O (VS O O O (EJ Z Z)) ?_
 refine zG ?_
 refine V (v := .int .u8 ↑b.toNat) O O (GP (j := i) O underlying9 O O O hb) ?_
 refine zG ?_
 refine V (v := .int .u8 ↑(b.toNat - 48)) O O (GJ O O O (OQ Z Z)) ?_
 refine zG ?_
 refine V (v := .int .u64 ↑(b.toNat - 48)) O O (ES O O (by rw [underlying5]; rfl) underlying161 (EJ Z Z)) ?_
 have al := bH (l := l) (p := p) (i := i) L
 refine zG ?_
 refine V (v := .int .u64 ↑(DE (((KH l).drop p).take (i + 1)))) O O (JJ O O O (EJ Z Z)) ?_
 refine zG ?_
 exact ⟨_, Z, i + 1, _, _, _, _, _, _, _, _, _, _, _, _, rfl, zE, rfl, Z⟩
end Go.Proofs.YtmppigbbkjepiaaGreatDoor
