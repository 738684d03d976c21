/- Helping facts of Parse; no other conditions. -/
import Derived.Test.YtmppigbbkjepiaaGreatDoorDecim
namespace Go.Proofs.YtmppigbbkjepiaaGreatDoor
open Go.Proofs.Tryz
open Go.RowKit W
variable {i : Nat} {l l' : List UInt8} {p : Prop}
theorem YzQ (h : p := by simp [results, results137, asAddr, r1]) : p := h
theorem Z0T (h : p := by
 obtain ⟨b, hb, L⟩ := TX (s := R) (i := i) AA
 have J : l[p + i]? = some b := by rw [h.2.1, List.getElem?_drop] at L; exact L
 exact Z4y
 ) : p := h
theorem Z4J (h : p := by
 obtain ⟨b, hb, L⟩ := TX (s := R) (i := i) AA
 have J : l[p + i]? = some b := by rw [k.2.1, List.getElem?_drop] at L; exact L
 exact Z4y
 ) : p := h
theorem Z4y (h : p := by
 have ao := f b (List.mem_of_getElem? J)
 have ak := uB (l := l) (p := p) (i := i) f AA
 refine zG ?_
 refine V (v := .int .u64 ↑(10 * DI (((LP l).drop p).take i))) O O (YF O O O (EX AA AA)) ?_
 refine zG ?_
 refine V (v := .int .u8 ↑b.toNat) O O (IC (j := i) O underlying9 O O O hb) ?_
 refine zG ?_
 refine V (v := .int .u8 ↑(b.toNat - 48)) O O (GN O O O (OH AA AA)) ?_
 refine zG ?_
 refine V (v := .int .u64 ↑(b.toNat - 48)) O O (DR O O (by rw [underlying5]; rfl) underlying161 (EX AA AA)) ?_
 have aj := fK (l := l) (p := p) (i := i) J
 refine zG ?_
 refine V (v := .int .u64 ↑(DI (((LP l).drop p).take (i + 1)))) O O (IY O O O (EX AA AA)) ?_
 refine zG ?_
 exact ⟨_, AA, i + 1, _, _, _, _, _, _, _, _, _, _, _, _, rfl, zE, rfl, AA⟩
 ) : p := h
theorem ZOj (h : p := by
 refine zG ?_
 refine EF O (CA GX O (SD s _ AA (by simpa using e) false) O E ?_)
 intro cx c0 E
 replace I := I.below c0
 replace E := E.i (LZ _)
 refine zG ?_
 refine EF O (BY GD O O O I O O (IsI.one E.1) ?_)
 intro cw bo b3
 replace E := oB E I bo b3
 have r1 := DA GD E.1 rfl
 refine zG ?_
 exact AQ (v := .tuple #[.agg #[.bool false, .slice none 0 0], .int .i64 3]) YzQ O (RetPa.form AA (qS H e) ⟨_, O, E.2.1, E.2.2.1⟩)
 ) : p := h
inductive RetPa (w0 : World) (s : ByteArray) (e : Ending) (w' : World) : Prop where
 | big (h : 4000 < s.size) (r : RetZE w0 0 2 e w')
 | form (h : s.size <= 4000) (h' : DW s.data.toList = none) (r : RetZE w0 0 3 e w')
 | ok {z : Int} (h : s.size <= 4000) (h' : DW s.data.toList = some z) (r : RetZE w0 z 0 e w')
theorem SD (s : ByteArray) (w : World) (hs : s.size <= 1000000) {b : Bool} (h : JS s.data.toList = b) (b' : Bool) (hb : b = b' := by rfl) : Calls prog 173 #[.string s] w (LI w b') := by
 have := Js s w hs
 rwa [h, hb] at this
theorem Ez (h : l.length = 0 ∨ ∃ c : UInt8, l[0]? = some c /\ ¬ c.toNat = 45) : ¬ l.head? = some 45 := by
 rw [List.head?_eq_getElem?]
 rintro e
 rcases h with h | ⟨c, f, k⟩
 . rw [List.eq_nil_of_length_eq_zero h] at e; cases e
 rw [e] at f; cases f; exact k rfl
theorem Ph {c : UInt8} (h : l[0]? = some c) (hc : c.toNat = 45) : l.head? = some 45 := by
 rw [List.head?_eq_getElem?, h, show c = 45 from UInt8.toNat_inj.1 hc]
theorem qS (h : ¬ l.head? = some 45) (hk : ¬ JS l = true) : DW l = none := by unfold DW; rw [if_neg h, if_neg hk]
theorem Iv (h : l.head? = some 45) (hk : ¬ JS l.tail = true) : DW l = none := by unfold DW; rw [if_pos h, if_neg (fun e => hk e.1)]
theorem Bm (h : l.head? = some 45) (hk : l.tail = [48]) : DW l = none := by unfold DW; rw [if_pos h, if_neg (fun e => e.2 hk)]
theorem wP (h : ¬ l.head? = some 45) (hl : l' = l) (hk : JS l' = true) : DW l = some (DI (LP l') : Int) := by subst hl; unfold DW; rw [if_neg h, if_pos hk]
theorem wQ (h : l.head? = some 45) (hl : l' = l.tail) (hk : JS l' = true) (h48 : ¬ l' = [48]) : DW l = some (-(DI (LP l') : Int)) := by subst hl; unfold DW; rw [if_pos h, if_pos ⟨hk, h48⟩]
theorem yC (l : List UInt8) : (LP l).take l.length = LP l := by
 rw [List.take_of_length_le]; simp [LP]
theorem Fm {l : List UInt8} (h : ∀ b ∈ l, 48 <= b.toNat /\ b.toNat <= 57) : Dg (LP l) := by
 intro d e
 obtain ⟨b, f, rfl⟩ := List.mem_map.1 e
 have := h b f
 omega
theorem Hb {l : List Nat} (h : Dg l) (p i : Nat) : Dg ((l.drop p).take i) := fun d hd => h d (List.mem_of_mem_drop (List.mem_of_mem_take hd))
theorem ZF {l : List UInt8} {p : Nat} (h : ∀ b ∈ l, 48 <= b.toNat /\ b.toNat <= 57) (hi : i <= 9) : DI (((LP l).drop p).take i) < 1000000000 := by
 have f := lR (Hb (Fm h) p i)
 have e : 10 ^ (((LP l).drop p).take i).length <= 10 ^ 9 := Nat.pow_le_pow_right AA (by rw [List.length_take]; omega)
 have : (10 : Nat) ^ 9 = 1000000000 := rfl
 omega
theorem uB {l : List UInt8} {p : Nat} (h : ∀ b ∈ l, 48 <= b.toNat /\ b.toNat <= 57) (hi : i <= 9) : DI (((LP l).drop p).take i) < 1000000000 := ZF h hi
theorem fK {p : Nat} {b : UInt8} (hb : l[p + i]? = some b) : DI (((LP l).drop p).take (i + 1)) = 10 * DI (((LP l).drop p).take i) + (b.toNat - 48) := by
 have f : (LP l)[p + i]? = some (b.toNat - 48) := by unfold LP; rw [List.getElem?_map, hb]; rfl
 have e : ((LP l).drop p)[i]? = some (b.toNat - 48) := by rw [List.getElem?_drop]; exact f
 rw [List.take_add_one, e]
 exact VP _ _
theorem oD (l : List UInt8) : (LP l).length = l.length := by simp [LP]
theorem ZV {l : List UInt8} {p : Nat} (h : ∀ b ∈ l, 48 <= b.toNat /\ b.toNat <= 57) (hl : l.length <= 1000000) : (CC (DI ((LP l).take p))).length <= 1000000000 := by
 have e : Dg ((LP l).take p) := by have := Hb (Fm h) 0 p; rwa [List.drop_zero] at this
 have f := lR e
 exact Nat.le_trans (JB (k := ((LP l).take p).length) (Nat.lt_of_lt_of_le f (Nat.pow_le_pow_left AE _))) (by rw [List.length_take, oD]; omega)
theorem aI {p n m : Nat} (h : p + m = l.length) (hn : n <= m) (hp : p = 0 ∨ n = 9) (h9 : n <= 9) : DI ((LP l).take p) * 1000000000 + DI (((LP l).drop p).take n) = DI ((LP l).take (p + n)) := by
 rw [List.take_add, VQ]
 rcases hp with rfl | rfl
 . rw [List.take_zero, ZS]; omega
 have e : (((LP l).drop p).take 9).length = 9 := by rw [List.length_take, List.length_drop, oD]; omega
 rw [e]
set_option maxRecDepth 100000 in
set_option maxHeartbeats 4000000 in
theorem uS (s : ByteArray) (w : World) (hs9 : s.size <= 1000000) :
 Calls prog 137 #[.string s] w (RetPa w s) := by
 have E := Env.start w
 go_enter func137, ntmps137
 refine zG ?_
 refine EF O (CB GD O ?_)
 intro b1 w1 e1 z1 d1 I
 have l1 : w.heap.size <= b1 := by rw [e1]; exact E.1.size
 replace E := E.below d1
 clear e1
 by_cases c5 : 4000 < s.size
 . replace E := E.i (LZ _)
   refine zG ?_
   refine EF O (BY GD O O O I O O (IsI.one E.1) ?_)
   intro w2 o2 y2
   replace E := oB E I o2 y2
   have r1 := DA GD E.1 rfl
   refine zG ?_
   exact AQ (v := .tuple #[.agg #[.bool false, .slice none 0 0], .int .i64 2]) YzQ O (RetPa.big AA ⟨_, O, E.2.1, E.2.2.1⟩)
 by_cases hs : s.size = 0
 . have H : ¬ s.data.toList.head? = some 45 := Ez (.inl (by rw [IB]; exact hs))
   have au : s.size <= 4000 := by omega
   by_cases e : JS s.data.toList = true
   . have ae := aA e
     have Q := IB s
     exfalso
     omega
   exact ZOj
 obtain ⟨c, hc, av⟩ := TX (i := 0) (s := s) AA
 by_cases aw : c.toNat = 45
 case neg =>
  have H : ¬ s.data.toList.head? = some 45 := Ez (.inr ⟨c, av, aw⟩)
  refine zG ?_
  refine V (v := .int .u8 ↑c.toNat) O O (IC (j := 0) O underlying9 O O O hc) ?_
  have au : s.size <= 4000 := by omega
  by_cases e : JS s.data.toList = true
  case neg =>
   exact ZOj
  refine zG ?_
  refine EF O (CA GX O (SD s _ AA (e) true) O E ?_)
  intro b4 bu E
  replace I := I.below bu
  have ae := aA e
  have f := OL e
  have Q := IB s
  obtain ⟨l, hl⟩ : ∃ l, l = s.data.toList := ⟨_, rfl⟩
  rw [<- hl] at e ae f Q
  replace E := E.b I
  have al : Sl b4 (.slice none 0 0) (CC (DI ((LP l).take 0))) := by rw [List.take_zero, ZS, DX]; exact cF _
  replace E := E.s al
  refine zG ?_
  refine wp_loop_ghost (fun mz a w' => ∃ (p : Nat) (R : ByteArray) (vm : Value) (g7 g8 g9 ad ac ab aa a9 a8 a7 a6 a4 a3 G F D C B z y u t q o a0 Y X U T S : Value), a = ⟨#[.string s, undef, .pointer (some ⟨b1, 0, none⟩), .int .i64 0, .bool false, .string R, vm, g7, g8, g9, .string s, .int .i64 ↑s.size, .bool false, undef, .string s, .int .i64 ↑s.size, .bool true, .bool true, .string s, .int .u8 ↑c.toNat, .bool false, .bool false, .string s, .bool false, undef, undef, .string s, .bool true, .bool false, .bool false, .bool false, .bool false, undef, undef, .bool false, .bool false, undef, ad, ac, ab, aa, a9, a8, a7, a6, a4, a3, G, F, D, C, B, z, y, u, t, q, o, a0, Y, X, U, T, S, undef, undef, undef], []⟩ /\ Env w' [fS vm (CC (DI ((LP l).take p))), fB b1 false (.slice none 0 0), fW w] /\ mz = R.size /\ p + R.size = l.length /\ R.data.toList = l.drop p /\ (p = 0 ∨ R.size % 9 = 0)) (s.size) ⟨0, s, .slice none 0 0, _, _, _, _, _, _, _, _, _, _, _, _, _, _, _, _, _, _, _, _, _, _, _, _, _, _, _, _, _, _, O, zE, O, ⟨by rw [Q]; omega, by rw [<- hl]; rfl, .inl O⟩⟩ ?_
  rintro d0 _ ci ⟨p, R, vm, g7, g8, g9, ad, ac, ab, aa, a9, a8, a7, a6, a4, a3, G, F, D, C, B, z, y, u, t, q, o, a0, Y, X, U, T, S, rfl, E, ah, h⟩
  by_cases hR : R.size = 0
  case pos =>
   have am : p = l.length := by have := h.1; omega
   refine zG ?_
   refine EF O (CH UG O (QP false _ _ ((DI (LP l) : Int)) _ E.1 (by rw [CO, am, yC]; rfl)) O E ?_)
   intro ch bp ba d7 E
   have aq := E.2.2.1
   refine zG ?_
   replace E := kB E
   refine EF O (BY GD O O O aq O O (IsI.one E.1) ?_)
   intro cg bk ay
   replace E := oB E aq bk ay
   have r1 := DA GD E.1 rfl
   refine zG ?_
   exact AQ (v := .tuple #[.agg #[.bool bp, ba], .int .i64 0]) YzQ O (RetPa.ok AA (wP H hl e) ⟨_, O, E.2.1, E.2.2.2.1⟩)
  by_cases h9 : R.size % 9 = 0
  case pos =>
   have br : 9 <= R.size := by omega
   refine zG ?_
   refine V (v := .int .i64 ↑(R.size % 9)) O O (EC O O O AE (KE _ 9)) ?_
   refine zG ?_
   refine wp_loop_ghost (fun mz a w' => ∃ (i : Nat) (g9 G F D C B z y u t q o : Value), a = ⟨#[.string s, undef, .pointer (some ⟨b1, 0, none⟩), .int .i64 0, .bool false, .string R, vm, .int .i64 9, .int .u64 ↑(DI (((LP l).drop p).take i)), g9, .string s, .int .i64 ↑s.size, .bool false, undef, .string s, .int .i64 ↑s.size, .bool true, .bool true, .string s, .int .u8 ↑c.toNat, .bool false, .bool false, .string s, .bool false, undef, undef, .string s, .bool true, .bool false, .bool false, .bool false, .bool false, undef, undef, .bool false, .bool false, undef, .string R, .int .i64 ↑R.size, .bool true, .string R, .int .i64 ↑R.size, .int .i64 ↑(R.size % 9), .int .i64 ↑(R.size % 9), .bool true, .int .i64 9, .int .i64 ↑i, G, F, D, C, B, z, y, u, t, q, o, a0, Y, X, U, T, S, undef, undef, undef], []⟩ /\ Env w' [fS vm (CC (DI ((LP l).take p))), fB b1 false (.slice none 0 0), fW w] /\ mz = 9 - i /\ i <= 9) (9) ⟨0, _, _, _, _, _, _, _, _, _, _, _, _, O, zE, O, Nat.zero_le _⟩ ?_
   rintro cz _ cf ⟨i, g9, G, F, D, C, B, z, y, u, t, q, o, rfl, E, c2, c7⟩
   by_cases hi : i = 9
   case pos =>
    have a2 : DI (((LP l).drop p).take i) < 1000000000 := ZF (l := l) (p := p) f AA
    have a1 : (CC (DI ((LP l).take p))).length <= 1000000000 := ZV f AA
    refine zG ?_
    refine EF O (FC LX O (ZY _ (CC (DI ((LP l).take p))) 1000000000 _ _ E.1 a1 AE a2) O E ?_)
    intro ce b7 d6 E
    refine zG ?_
    refine V (v := .string (R.extract 9 R.size)) O O (SZ (j := 9) O underlying9 O O O AA) ?_
    refine zG ?_
    skip
    have N := E.1
    rw [CO, hi, aI (l := l) (p := p) (n := 9) h.1 AA AA AA] at N
    replace E := E.s N
    have P : (R.extract 9 R.size).data.toList = l.drop (p + 9) := by rw [XY R 9 AA, h.2.1, List.drop_drop]
    have ap : (R.extract 9 R.size).size + 9 = R.size := by rw [<- IB, P, List.length_drop]; have := h.1; omega
    exact ⟨_, (by rw [ah]; omega), p + 9, R.extract 9 R.size, b7, _, _, _, _, _, _, _, _, _, _, _, _, _, _, _, _, _, _, _, _, _, _, _, _, _, _, _, _, _, _, O, zE, O, ⟨by have := h.1; omega, P, .inr AA⟩⟩
   have an : i < 9 := by omega
   exact Z0T
  refine zG ?_
  refine V (v := .int .i64 ↑(R.size % 9)) O O (EC O O O AE (KE _ 9)) ?_
  refine zG ?_
  refine wp_loop_ghost (fun mz a w' => ∃ (i : Nat) (g9 G F D C B z y u t q o : Value), a = ⟨#[.string s, undef, .pointer (some ⟨b1, 0, none⟩), .int .i64 0, .bool false, .string R, vm, .int .i64 ↑(R.size % 9), .int .u64 ↑(DI (((LP l).drop p).take i)), g9, .string s, .int .i64 ↑s.size, .bool false, undef, .string s, .int .i64 ↑s.size, .bool true, .bool true, .string s, .int .u8 ↑c.toNat, .bool false, .bool false, .string s, .bool false, undef, undef, .string s, .bool true, .bool false, .bool false, .bool false, .bool false, undef, undef, .bool false, .bool false, undef, .string R, .int .i64 ↑R.size, .bool true, .string R, .int .i64 ↑R.size, .int .i64 ↑(R.size % 9), .int .i64 ↑(R.size % 9), .bool false, .int .i64 ↑(R.size % 9), .int .i64 ↑i, G, F, D, C, B, z, y, u, t, q, o, a0, Y, X, U, T, S, undef, undef, undef], []⟩ /\ Env w' [fS vm (CC (DI ((LP l).take p))), fB b1 false (.slice none 0 0), fW w] /\ mz = (R.size % 9) - i /\ i <= (R.size % 9)) ((R.size % 9)) ⟨0, _, _, _, _, _, _, _, _, _, _, _, _, O, zE, O, Nat.zero_le _⟩ ?_
  rintro cy _ cd ⟨i, g9, G, F, D, C, B, z, y, u, t, q, o, rfl, E, c1, c6⟩
  by_cases hi : i = R.size % 9
  case pos =>
   have a2 : DI (((LP l).drop p).take i) < 1000000000 := ZF (l := l) (p := p) f AA
   have a1 : (CC (DI ((LP l).take p))).length <= 1000000000 := ZV f AA
   refine zG ?_
   refine EF O (FC LX O (ZY _ (CC (DI ((LP l).take p))) 1000000000 _ _ E.1 a1 AE a2) O E ?_)
   intro cc b6 d5 E
   refine zG ?_
   refine V (v := .string (R.extract (R.size % 9) R.size)) O O (SZ (j := (R.size % 9)) O underlying9 O O O AA) ?_
   refine zG ?_
   skip
   have N := E.1
   rw [CO, hi, aI (l := l) (p := p) (n := R.size % 9) h.1 AA AA AA] at N
   replace E := E.s N
   have P : (R.extract (R.size % 9) R.size).data.toList = l.drop (p + (R.size % 9)) := by rw [XY R (R.size % 9) AA, h.2.1, List.drop_drop]
   have ap : (R.extract (R.size % 9) R.size).size + (R.size % 9) = R.size := by rw [<- IB, P, List.length_drop]; have := h.1; omega
   exact ⟨_, (by rw [ah]; omega), p + (R.size % 9), R.extract (R.size % 9) R.size, b6, _, _, _, _, _, _, _, _, _, _, _, _, _, _, _, _, _, _, _, _, _, _, _, _, _, _, _, _, _, _, O, zE, O, ⟨by have := h.1; omega, P, .inr AA⟩⟩
  have an : i < (R.size % 9) := by omega
  exact Z0T
 have H : s.data.toList.head? = some 45 := Ph av aw
 refine zG ?_
 refine V (v := .int .u8 ↑c.toNat) O O (IC (j := 0) O underlying9 O O O hc) ?_
 refine zG ?_
 refine V (v := .string (s.extract 1 s.size)) O O (SZ (j := 1) O underlying9 O O O AA) ?_
 have af : (s.extract 1 s.size).data.toList = s.data.toList.tail := by rw [XY s 1 AA]; exact List.drop_one
 have au : (s.extract 1 s.size).size <= 4000 := by rw [<- IB, af, List.length_tail, IB]; omega
 by_cases e : JS (s.extract 1 s.size).data.toList = true
 case neg =>
  refine zG ?_
  refine EF O (CA GX O (SD (s.extract 1 s.size) _ AA (by simpa using e) false) O E ?_)
  intro ck bv E
  replace I := I.below bv
  replace E := E.i (LZ _)
  refine zG ?_
  refine EF O (BY GD O O O I O O (IsI.one E.1) ?_)
  intro cj bl az
  replace E := oB E I bl az
  have r1 := DA GD E.1 rfl
  refine zG ?_
  exact AQ (v := .tuple #[.agg #[.bool false, .slice none 0 0], .int .i64 3]) YzQ O (RetPa.form AA (Iv H (by rw [<- af]; exact e)) ⟨_, O, E.2.1, E.2.2.1⟩)
 by_cases ag : (s.extract 1 s.size).data.toList = [48]
 case pos =>
  refine zG ?_
  refine EF O (CA GX O (SD (s.extract 1 s.size) _ AA (e) true) O E ?_)
  intro cv bx E
  replace I := I.below bx
  refine zG ?_
  refine V (v := .bool true) O O (VZ O O O (by rw [beq_iff_eq]; exact ag)) ?_
  replace E := E.i (LZ _)
  refine zG ?_
  refine EF O (BY GD O O O I O O (IsI.one E.1) ?_)
  intro cu bn b2
  replace E := oB E I bn b2
  have r1 := DA GD E.1 rfl
  refine zG ?_
  exact AQ (v := .tuple #[.agg #[.bool false, .slice none 0 0], .int .i64 3]) YzQ O (RetPa.form AA (Bm H (by rw [<- af]; exact ag)) ⟨_, O, E.2.1, E.2.2.1⟩)
 refine zG ?_
 refine EF O (CA GX O (SD (s.extract 1 s.size) _ AA (e) true) O E ?_)
 intro b5 bw E
 replace I := I.below bw
 refine zG ?_
 refine V (v := .bool false) O O (VZ O O O (by rw [beq_eq_false_iff_ne]; exact ag)) ?_
 have ae := aA e
 have f := OL e
 have Q := IB (s.extract 1 s.size)
 obtain ⟨l, hl⟩ : ∃ l, l = (s.extract 1 s.size).data.toList := ⟨_, rfl⟩
 rw [<- hl] at e ae f Q
 replace E := E.b I
 have al : Sl b5 (.slice none 0 0) (CC (DI ((LP l).take 0))) := by rw [List.take_zero, ZS, DX]; exact cF _
 replace E := E.s al
 refine zG ?_
 refine wp_loop_ghost (fun mz a w' => ∃ (p : Nat) (R : ByteArray) (vm : Value) (g7 g8 g9 ad ac ab aa a9 a8 a7 a6 a4 a3 G F D C B z y u t q o a0 Y X U T S : Value), a = ⟨#[.string s, undef, .pointer (some ⟨b1, 0, none⟩), .int .i64 0, .bool true, .string R, vm, g7, g8, g9, .string s, .int .i64 ↑s.size, .bool false, undef, .string s, .int .i64 ↑s.size, .bool true, .bool true, .string s, .int .u8 ↑c.toNat, .bool true, .bool true, .string s, .bool true, .string s, .string (s.extract 1 s.size), .string (s.extract 1 s.size), .bool true, .bool false, .bool false, .bool true, .bool true, .string (s.extract 1 s.size), .bool false, .bool false, .bool false, undef, ad, ac, ab, aa, a9, a8, a7, a6, a4, a3, G, F, D, C, B, z, y, u, t, q, o, a0, Y, X, U, T, S, undef, undef, undef], []⟩ /\ Env w' [fS vm (CC (DI ((LP l).take p))), fB b1 false (.slice none 0 0), fW w] /\ mz = R.size /\ p + R.size = l.length /\ R.data.toList = l.drop p /\ (p = 0 ∨ R.size % 9 = 0)) ((s.extract 1 s.size).size) ⟨0, s.extract 1 s.size, .slice none 0 0, _, _, _, _, _, _, _, _, _, _, _, _, _, _, _, _, _, _, _, _, _, _, _, _, _, _, _, _, _, _, O, zE, O, ⟨by rw [Q]; omega, by rw [<- hl]; rfl, .inl O⟩⟩ ?_
 rintro d4 _ ct ⟨p, R, vm, g7, g8, g9, ad, ac, ab, aa, a9, a8, a7, a6, a4, a3, G, F, D, C, B, z, y, u, t, q, o, a0, Y, X, U, T, S, rfl, E, ai, k⟩
 by_cases hR : R.size = 0
 case pos =>
  have am : p = l.length := by have := k.1; omega
  refine zG ?_
  refine EF O (CH UG O (QP true _ _ (-(DI (LP l) : Int)) _ E.1 (by rw [CO, am, yC]; rfl)) O E ?_)
  intro cr bq bb da E
  have ar := E.2.2.1
  refine zG ?_
  replace E := kB E
  refine EF O (BY GD O O O ar O O (IsI.one E.1) ?_)
  intro cq bm b0
  replace E := oB E ar bm b0
  have r1 := DA GD E.1 rfl
  refine zG ?_
  exact AQ (v := .tuple #[.agg #[.bool bq, bb], .int .i64 0]) YzQ O (RetPa.ok AA (wQ H (by rw [<- af]; exact hl) e (by rw [hl]; exact ag)) ⟨_, O, E.2.1, E.2.2.2.1⟩)
 by_cases h9 : R.size % 9 = 0
 case pos =>
  have br : 9 <= R.size := by omega
  refine zG ?_
  refine V (v := .int .i64 ↑(R.size % 9)) O O (EC O O O AE (KE _ 9)) ?_
  refine zG ?_
  refine wp_loop_ghost (fun mz a w' => ∃ (i : Nat) (g9 G F D C B z y u t q o : Value), a = ⟨#[.string s, undef, .pointer (some ⟨b1, 0, none⟩), .int .i64 0, .bool true, .string R, vm, .int .i64 9, .int .u64 ↑(DI (((LP l).drop p).take i)), g9, .string s, .int .i64 ↑s.size, .bool false, undef, .string s, .int .i64 ↑s.size, .bool true, .bool true, .string s, .int .u8 ↑c.toNat, .bool true, .bool true, .string s, .bool true, .string s, .string (s.extract 1 s.size), .string (s.extract 1 s.size), .bool true, .bool false, .bool false, .bool true, .bool true, .string (s.extract 1 s.size), .bool false, .bool false, .bool false, undef, .string R, .int .i64 ↑R.size, .bool true, .string R, .int .i64 ↑R.size, .int .i64 ↑(R.size % 9), .int .i64 ↑(R.size % 9), .bool true, .int .i64 9, .int .i64 ↑i, G, F, D, C, B, z, y, u, t, q, o, a0, Y, X, U, T, S, undef, undef, undef], []⟩ /\ Env w' [fS vm (CC (DI ((LP l).take p))), fB b1 false (.slice none 0 0), fW w] /\ mz = 9 - i /\ i <= 9) (9) ⟨0, _, _, _, _, _, _, _, _, _, _, _, _, O, zE, O, Nat.zero_le _⟩ ?_
  rintro d3 _ cp ⟨i, g9, G, F, D, C, B, z, y, u, t, q, o, rfl, E, c4, c9⟩
  by_cases hi : i = 9
  case pos =>
   have a2 : DI (((LP l).drop p).take i) < 1000000000 := ZF (l := l) (p := p) f AA
   have a1 : (CC (DI ((LP l).take p))).length <= 1000000000 := ZV f AA
   refine zG ?_
   refine EF O (FC LX O (ZY _ (CC (DI ((LP l).take p))) 1000000000 _ _ E.1 a1 AE a2) O E ?_)
   intro co b9 d9 E
   refine zG ?_
   refine V (v := .string (R.extract 9 R.size)) O O (SZ (j := 9) O underlying9 O O O AA) ?_
   refine zG ?_
   skip
   have N := E.1
   rw [CO, hi, aI (l := l) (p := p) (n := 9) k.1 AA AA AA] at N
   replace E := E.s N
   have P : (R.extract 9 R.size).data.toList = l.drop (p + 9) := by rw [XY R 9 AA, k.2.1, List.drop_drop]
   have ap : (R.extract 9 R.size).size + 9 = R.size := by rw [<- IB, P, List.length_drop]; have := k.1; omega
   exact ⟨_, (by rw [ai]; omega), p + 9, R.extract 9 R.size, b9, _, _, _, _, _, _, _, _, _, _, _, _, _, _, _, _, _, _, _, _, _, _, _, _, _, _, _, _, _, _, O, zE, O, ⟨by have := k.1; omega, P, .inr AA⟩⟩
  have an : i < 9 := by omega
  exact Z4J
 refine zG ?_
 refine V (v := .int .i64 ↑(R.size % 9)) O O (EC O O O AE (KE _ 9)) ?_
 refine zG ?_
 refine wp_loop_ghost (fun mz a w' => ∃ (i : Nat) (g9 G F D C B z y u t q o : Value), a = ⟨#[.string s, undef, .pointer (some ⟨b1, 0, none⟩), .int .i64 0, .bool true, .string R, vm, .int .i64 ↑(R.size % 9), .int .u64 ↑(DI (((LP l).drop p).take i)), g9, .string s, .int .i64 ↑s.size, .bool false, undef, .string s, .int .i64 ↑s.size, .bool true, .bool true, .string s, .int .u8 ↑c.toNat, .bool true, .bool true, .string s, .bool true, .string s, .string (s.extract 1 s.size), .string (s.extract 1 s.size), .bool true, .bool false, .bool false, .bool true, .bool true, .string (s.extract 1 s.size), .bool false, .bool false, .bool false, undef, .string R, .int .i64 ↑R.size, .bool true, .string R, .int .i64 ↑R.size, .int .i64 ↑(R.size % 9), .int .i64 ↑(R.size % 9), .bool false, .int .i64 ↑(R.size % 9), .int .i64 ↑i, G, F, D, C, B, z, y, u, t, q, o, a0, Y, X, U, T, S, undef, undef, undef], []⟩ /\ Env w' [fS vm (CC (DI ((LP l).take p))), fB b1 false (.slice none 0 0), fW w] /\ mz = (R.size % 9) - i /\ i <= (R.size % 9)) ((R.size % 9)) ⟨0, _, _, _, _, _, _, _, _, _, _, _, _, O, zE, O, Nat.zero_le _⟩ ?_
 rintro d2 _ cn ⟨i, g9, G, F, D, C, B, z, y, u, t, q, o, rfl, E, c3, c8⟩
 by_cases hi : i = R.size % 9
 case pos =>
  have a2 : DI (((LP l).drop p).take i) < 1000000000 := ZF (l := l) (p := p) f AA
  have a1 : (CC (DI ((LP l).take p))).length <= 1000000000 := ZV f AA
  refine zG ?_
  refine EF O (FC LX O (ZY _ (CC (DI ((LP l).take p))) 1000000000 _ _ E.1 a1 AE a2) O E ?_)
  intro cm b8 d8 E
  refine zG ?_
  refine V (v := .string (R.extract (R.size % 9) R.size)) O O (SZ (j := (R.size % 9)) O underlying9 O O O AA) ?_
  refine zG ?_
  skip
  have N := E.1
  rw [CO, hi, aI (l := l) (p := p) (n := R.size % 9) k.1 AA AA AA] at N
  replace E := E.s N
  have P : (R.extract (R.size % 9) R.size).data.toList = l.drop (p + (R.size % 9)) := by rw [XY R (R.size % 9) AA, k.2.1, List.drop_drop]
  have ap : (R.extract (R.size % 9) R.size).size + (R.size % 9) = R.size := by rw [<- IB, P, List.length_drop]; have := k.1; omega
  exact ⟨_, (by rw [ai]; omega), p + (R.size % 9), R.extract (R.size % 9) R.size, b8, _, _, _, _, _, _, _, _, _, _, _, _, _, _, _, _, _, _, _, _, _, _, _, _, _, _, _, _, _, _, O, zE, O, ⟨by have := k.1; omega, P, .inr AA⟩⟩
 have an : i < (R.size % 9) := by omega
 exact Z4J
end Go.Proofs.YtmppigbbkjepiaaGreatDoor
