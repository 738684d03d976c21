/- Helping facts of Parse; no other conditions. -/
import Derived.Test.YtmppigbbkjepiaaGreatDoorDecim
namespace Go.Proofs.YtmppigbbkjepiaaGreatDoor
open Go.Proofs.Tryz
open Go.RowKit W
variable {i : Nat} {l l' : List UInt8} {p : Prop}
theorem YzQ (h : p := by simp [results, results137, asAddr, r1]) : p := h
theorem ZiF (h : p := by
 obtain ⟨b, hb, N⟩ := JV (s := R) (i := i) AA
 have L : l[p + i]? = some b := by rw [h.2.1, List.getElem?_drop] at N; exact N
 exact ZAG
 ) : p := h
theorem ZqU (h : p := by
 obtain ⟨b, hb, N⟩ := JV (s := R) (i := i) AA
 have L : l[p + i]? = some b := by rw [k.2.1, List.getElem?_drop] at N; exact N
 exact ZAG
 ) : p := h
theorem ZAG (h : p := by
 have ao := f b (List.mem_of_getElem? L)
 have ak := vD (l := l) (p := p) (i := i) f AA
 refine zG ?_
 refine V (v := .int .u64 ↑(10 * CX (((IC l).drop p).take i))) O O (fH O O O (EJ AA AA)) ?_
 refine zG ?_
 refine V (v := .int .u8 ↑b.toNat) O O (DK (j := i) O underlying9 O O O hb) ?_
 refine zG ?_
 refine V (v := .int .u8 ↑(b.toNat - 48)) O O (FM O O O (IN AA AA)) ?_
 refine zG ?_
 refine V (v := .int .u64 ↑(b.toNat - 48)) O O (FI O O (by rw [underlying5]; rfl) underlying161 (EJ AA AA)) ?_
 have aj := aS (l := l) (p := p) (i := i) L
 refine zG ?_
 refine V (v := .int .u64 ↑(CX (((IC l).drop p).take (i + 1)))) O O (KM O O O (EJ AA AA)) ?_
 refine zG ?_
 exact ⟨_, AA, i + 1, _, _, _, _, _, _, _, _, _, _, _, _, rfl, zE, rfl, AA⟩
 ) : p := h
theorem ZvU (h : p := by
 refine zG ?_
 refine EF O (CA IJ O (UA s _ AA (by simpa using e) false) O E ?_)
 intro cy c1 E
 replace J := J.below c1
 replace E := E.i (DF _)
 refine zG ?_
 refine EF O (BY EC O O O J O O (IsI.one E.1) ?_)
 intro cx bp b3
 replace E := oB E J bp b3
 have r1 := CL EC E.1 rfl
 refine zG ?_
 exact AQ (v := .tuple #[.agg #[.bool false, .slice none 0 0], .int .i64 3]) YzQ O (RetPa.form AA (IT I e) ⟨_, O, E.2.1, E.2.2.1⟩)
 ) : p := h
inductive RetPa (w0 : World) (s : ByteArray) (e : Ending) (w' : World) : Prop where
 | big (h : 4000 < s.size) (r : RetZE w0 0 2 e w')
 | form (h : s.size <= 4000) (h' : DN s.data.toList = none) (r : RetZE w0 0 3 e w')
 | ok {z : Int} (h : s.size <= 4000) (h' : DN s.data.toList = some z) (r : RetZE w0 z 0 e w')
theorem UA (s : ByteArray) (w : World) (hs : s.size <= 1000000) {b : Bool} (h : IP s.data.toList = b) (b' : Bool) (hb : b = b' := by rfl) : Calls prog 173 #[.string s] w (LN w b') := by
 have := Kv s w hs
 rwa [h, hb] at this
theorem mE (h : l.length = 0 ∨ ∃ c : UInt8, l[0]? = some c /\ ¬ c.toNat = 45) : ¬ l.head? = some 45 := by
 rw [List.head?_eq_getElem?]
 rintro e
 rcases h with h | ⟨c, f, k⟩
 . rw [List.eq_nil_of_length_eq_zero h] at e; cases e
 rw [e] at f; cases f; exact k rfl
theorem yO {c : UInt8} (h : l[0]? = some c) (hc : c.toNat = 45) : l.head? = some 45 := by
 rw [List.head?_eq_getElem?, h, show c = 45 from UInt8.toNat_inj.1 hc]
theorem IT (h : ¬ l.head? = some 45) (hk : ¬ IP l = true) : DN l = none := by unfold DN; rw [if_neg h, if_neg hk]
theorem XO (h : l.head? = some 45) (hk : ¬ IP l.tail = true) : DN l = none := by unfold DN; rw [if_pos h, if_neg (fun e => hk e.1)]
theorem nT (h : l.head? = some 45) (hk : l.tail = [48]) : DN l = none := by unfold DN; rw [if_pos h, if_neg (fun e => e.2 hk)]
theorem SE (h : ¬ l.head? = some 45) (hl : l' = l) (hk : IP l' = true) : DN l = some (CX (IC l') : Int) := by subst hl; unfold DN; rw [if_neg h, if_pos hk]
theorem jU (h : l.head? = some 45) (hl : l' = l.tail) (hk : IP l' = true) (h48 : ¬ l' = [48]) : DN l = some (-(CX (IC l') : Int)) := by subst hl; unfold DN; rw [if_pos h, if_pos ⟨hk, h48⟩]
theorem VE (l : List UInt8) : (IC l).take l.length = IC l := by
 rw [List.take_of_length_le]; simp [IC]
theorem Gz {l : List UInt8} (h : ∀ b ∈ l, 48 <= b.toNat /\ b.toNat <= 57) : Dg (IC l) := by
 intro d e
 obtain ⟨b, f, rfl⟩ := List.mem_map.1 e
 have := h b f
 omega
theorem Hz {l : List Nat} (h : Dg l) (p i : Nat) : Dg ((l.drop p).take i) := fun d hd => h d (List.mem_of_mem_drop (List.mem_of_mem_take hd))
theorem aW {l : List UInt8} {p : Nat} (h : ∀ b ∈ l, 48 <= b.toNat /\ b.toNat <= 57) (hi : i <= 9) : CX (((IC l).drop p).take i) < 1000000000 := by
 have f := eS (Hz (Gz h) p i)
 have e : 10 ^ (((IC l).drop p).take i).length <= 10 ^ 9 := Nat.pow_le_pow_right AA (by rw [List.length_take]; omega)
 have : (10 : Nat) ^ 9 = 1000000000 := rfl
 omega
theorem vD {l : List UInt8} {p : Nat} (h : ∀ b ∈ l, 48 <= b.toNat /\ b.toNat <= 57) (hi : i <= 9) : CX (((IC l).drop p).take i) < 1000000000 := aW h hi
theorem aS {p : Nat} {b : UInt8} (hb : l[p + i]? = some b) : CX (((IC l).drop p).take (i + 1)) = 10 * CX (((IC l).drop p).take i) + (b.toNat - 48) := by
 have f : (IC l)[p + i]? = some (b.toNat - 48) := by unfold IC; rw [List.getElem?_map, hb]; rfl
 have e : ((IC l).drop p)[i]? = some (b.toNat - 48) := by rw [List.getElem?_drop]; exact f
 rw [List.take_add_one, e]
 exact YG _ _
theorem dX (l : List UInt8) : (IC l).length = l.length := by simp [IC]
theorem bM {l : List UInt8} {p : Nat} (h : ∀ b ∈ l, 48 <= b.toNat /\ b.toNat <= 57) (hl : l.length <= 1000000) : (CD (CX ((IC l).take p))).length <= 1000000000 := by
 have e : Dg ((IC l).take p) := by have := Hz (Gz h) 0 p; rwa [List.drop_zero] at this
 have f := eS e
 exact Nat.le_trans (GJ (k := ((IC l).take p).length) (Nat.lt_of_lt_of_le f (Nat.pow_le_pow_left AE _))) (by rw [List.length_take, dX]; omega)
theorem bY {p n m : Nat} (h : p + m = l.length) (hn : n <= m) (hp : p = 0 ∨ n = 9) (h9 : n <= 9) : CX ((IC l).take p) * 1000000000 + CX (((IC l).drop p).take n) = CX ((IC l).take (p + n)) := by
 rw [List.take_add, YH]
 rcases hp with rfl | rfl
 . rw [List.take_zero, NS]; omega
 have e : (((IC l).drop p).take 9).length = 9 := by rw [List.length_take, List.length_drop, dX]; omega
 rw [e]
set_option maxRecDepth 100000 in
set_option maxHeartbeats 4000000 in
theorem vT (s : ByteArray) (w : World) (hs9 : s.size <= 1000000) :
 Calls prog 137 #[.string s] w (RetPa w s) := by
 have E := Env.start w
 go_enter func137, ntmps137
 refine zG ?_
 refine EF O (BZ EC O ?_)
 intro b1 w1 e1 z1 d1 J
 have l1 : w.heap.size <= b1 := by rw [e1]; exact E.1.size
 replace E := E.below d1
 clear e1
 by_cases c6 : 4000 < s.size
 . replace E := E.i (DF _)
   refine zG ?_
   refine EF O (BY EC O O O J O O (IsI.one E.1) ?_)
   intro w2 o2 y2
   replace E := oB E J o2 y2
   have r1 := CL EC E.1 rfl
   refine zG ?_
   exact AQ (v := .tuple #[.agg #[.bool false, .slice none 0 0], .int .i64 2]) YzQ O (RetPa.big AA ⟨_, O, E.2.1, E.2.2.1⟩)
 by_cases hs : s.size = 0
 . have I : ¬ s.data.toList.head? = some 45 := mE (.inl (by rw [GE]; exact hs))
   have au : s.size <= 4000 := by omega
   by_cases e : IP s.data.toList = true
   . have ae := bU e
     have S := GE s
     exfalso
     omega
   exact ZvU
 obtain ⟨c, hc, av⟩ := JV (i := 0) (s := s) AA
 by_cases aw : c.toNat = 45
 case neg =>
  have I : ¬ s.data.toList.head? = some 45 := mE (.inr ⟨c, av, aw⟩)
  refine zG ?_
  refine V (v := .int .u8 ↑c.toNat) O O (DK (j := 0) O underlying9 O O O hc) ?_
  have au : s.size <= 4000 := by omega
  by_cases e : IP s.data.toList = true
  case neg =>
   exact ZvU
  refine zG ?_
  refine EF O (CA IJ O (UA s _ AA (e) true) O E ?_)
  intro b4 bv E
  replace J := J.below bv
  have ae := bU e
  have f := PH e
  have S := GE s
  obtain ⟨l, hl⟩ : ∃ l, l = s.data.toList := ⟨_, rfl⟩
  rw [<- hl] at e ae f S
  replace E := E.b J
  have al : Sl b4 (.slice none 0 0) (CD (CX ((IC l).take 0))) := by rw [List.take_zero, NS, EG]; exact eK _
  replace E := E.s al
  refine zG ?_
  refine wp_loop_ghost (fun mz a w' => ∃ (p : Nat) (R : ByteArray) (vm : Value) (g7 g8 g9 ad ac ab aa a9 a8 a7 a6 a5 a4 H G F D C B y u t q o a1 a0 Y X U T : Value), a = ⟨#[.string s, undef, .pointer (some ⟨b1, 0, none⟩), .int .i64 0, .bool false, .string R, vm, g7, g8, g9, .string s, .int .i64 ↑s.size, .bool false, undef, .string s, .int .i64 ↑s.size, .bool true, .bool true, .string s, .int .u8 ↑c.toNat, .bool false, .bool false, .string s, .bool false, undef, undef, .string s, .bool true, .bool false, .bool false, .bool false, .bool false, undef, undef, .bool false, .bool false, undef, ad, ac, ab, aa, a9, a8, a7, a6, a5, a4, H, G, F, D, C, B, y, u, t, q, o, a1, a0, Y, X, U, T, undef, undef, undef], []⟩ /\ Env w' [fS vm (CD (CX ((IC l).take p))), fB b1 false (.slice none 0 0), fW w] /\ mz = R.size /\ p + R.size = l.length /\ R.data.toList = l.drop p /\ (p = 0 ∨ R.size % 9 = 0)) (s.size) ⟨0, s, .slice none 0 0, _, _, _, _, _, _, _, _, _, _, _, _, _, _, _, _, _, _, _, _, _, _, _, _, _, _, _, _, _, _, O, zE, O, ⟨by rw [S]; omega, by rw [<- hl]; rfl, .inl O⟩⟩ ?_
  rintro d2 _ cj ⟨p, R, vm, g7, g8, g9, ad, ac, ab, aa, a9, a8, a7, a6, a5, a4, H, G, F, D, C, B, y, u, t, q, o, a1, a0, Y, X, U, T, rfl, E, ah, h⟩
  by_cases hR : R.size = 0
  case pos =>
   have am : p = l.length := by have := h.1; omega
   refine zG ?_
   refine EF O (CH WC O (RV false _ _ ((CX (IC l) : Int)) _ E.1 (by rw [CO, am, VE]; rfl)) O E ?_)
   intro ci bq ba d8 E
   have aq := E.2.2.1
   refine zG ?_
   replace E := VC E
   refine EF O (BY EC O O O aq O O (IsI.one E.1) ?_)
   intro ch bl ay
   replace E := oB E aq bl ay
   have r1 := CL EC E.1 rfl
   refine zG ?_
   exact AQ (v := .tuple #[.agg #[.bool bq, ba], .int .i64 0]) YzQ O (RetPa.ok AA (SE I hl e) ⟨_, O, E.2.1, E.2.2.2.1⟩)
  by_cases h9 : R.size % 9 = 0
  case pos =>
   have bt : 9 <= R.size := by omega
   refine zG ?_
   refine V (v := .int .i64 ↑(R.size % 9)) O O (FD O O O AE (XI _ 9)) ?_
   refine zG ?_
   refine wp_loop_ghost (fun mz a w' => ∃ (i : Nat) (g9 H G F D C B y u t q o : Value), a = ⟨#[.string s, undef, .pointer (some ⟨b1, 0, none⟩), .int .i64 0, .bool false, .string R, vm, .int .i64 9, .int .u64 ↑(CX (((IC l).drop p).take i)), g9, .string s, .int .i64 ↑s.size, .bool false, undef, .string s, .int .i64 ↑s.size, .bool true, .bool true, .string s, .int .u8 ↑c.toNat, .bool false, .bool false, .string s, .bool false, undef, undef, .string s, .bool true, .bool false, .bool false, .bool false, .bool false, undef, undef, .bool false, .bool false, undef, .string R, .int .i64 ↑R.size, .bool true, .string R, .int .i64 ↑R.size, .int .i64 ↑(R.size % 9), .int .i64 ↑(R.size % 9), .bool true, .int .i64 9, .int .i64 ↑i, H, G, F, D, C, B, y, u, t, q, o, a1, a0, Y, X, U, T, undef, undef, undef], []⟩ /\ Env w' [fS vm (CD (CX ((IC l).take p))), fB b1 false (.slice none 0 0), fW w] /\ mz = 9 - i /\ i <= 9) (9) ⟨0, _, _, _, _, _, _, _, _, _, _, _, _, O, zE, O, Nat.zero_le _⟩ ?_
   rintro d0 _ cg ⟨i, g9, H, G, F, D, C, B, y, u, t, q, o, rfl, E, c3, c8⟩
   by_cases hi : i = 9
   case pos =>
    have a3 : CX (((IC l).drop p).take i) < 1000000000 := aW (l := l) (p := p) f AA
    have a2 : (CD (CX ((IC l).take p))).length <= 1000000000 := bM f AA
    refine zG ?_
    refine EF O (DA MY O (bO _ (CD (CX ((IC l).take p))) 1000000000 _ _ E.1 a2 AE a3) O E ?_)
    intro cf b7 d7 E
    refine zG ?_
    refine V (v := .string (R.extract 9 R.size)) O O (ID (j := 9) O underlying9 O O O AA) ?_
    refine zG ?_
    skip
    have P := E.1
    rw [CO, hi, bY (l := l) (p := p) (n := 9) h.1 AA AA AA] at P
    replace E := E.s P
    have Q : (R.extract 9 R.size).data.toList = l.drop (p + 9) := by rw [XJ R 9 AA, h.2.1, List.drop_drop]
    have ap : (R.extract 9 R.size).size + 9 = R.size := by rw [<- GE, Q, List.length_drop]; have := h.1; omega
    exact ⟨_, (by rw [ah]; omega), p + 9, R.extract 9 R.size, b7, _, _, _, _, _, _, _, _, _, _, _, _, _, _, _, _, _, _, _, _, _, _, _, _, _, _, _, _, _, _, O, zE, O, ⟨by have := h.1; omega, Q, .inr AA⟩⟩
   have an : i < 9 := by omega
   exact ZiF
  refine zG ?_
  refine V (v := .int .i64 ↑(R.size % 9)) O O (FD O O O AE (XI _ 9)) ?_
  refine zG ?_
  refine wp_loop_ghost (fun mz a w' => ∃ (i : Nat) (g9 H G F D C B y u t q o : Value), a = ⟨#[.string s, undef, .pointer (some ⟨b1, 0, none⟩), .int .i64 0, .bool false, .string R, vm, .int .i64 ↑(R.size % 9), .int .u64 ↑(CX (((IC l).drop p).take i)), g9, .string s, .int .i64 ↑s.size, .bool false, undef, .string s, .int .i64 ↑s.size, .bool true, .bool true, .string s, .int .u8 ↑c.toNat, .bool false, .bool false, .string s, .bool false, undef, undef, .string s, .bool true, .bool false, .bool false, .bool false, .bool false, undef, undef, .bool false, .bool false, undef, .string R, .int .i64 ↑R.size, .bool true, .string R, .int .i64 ↑R.size, .int .i64 ↑(R.size % 9), .int .i64 ↑(R.size % 9), .bool false, .int .i64 ↑(R.size % 9), .int .i64 ↑i, H, G, F, D, C, B, y, u, t, q, o, a1, a0, Y, X, U, T, undef, undef, undef], []⟩ /\ Env w' [fS vm (CD (CX ((IC l).take p))), fB b1 false (.slice none 0 0), fW w] /\ mz = (R.size % 9) - i /\ i <= (R.size % 9)) ((R.size % 9)) ⟨0, _, _, _, _, _, _, _, _, _, _, _, _, O, zE, O, Nat.zero_le _⟩ ?_
  rintro cz _ ce ⟨i, g9, H, G, F, D, C, B, y, u, t, q, o, rfl, E, c2, c7⟩
  by_cases hi : i = R.size % 9
  case pos =>
   have a3 : CX (((IC l).drop p).take i) < 1000000000 := aW (l := l) (p := p) f AA
   have a2 : (CD (CX ((IC l).take p))).length <= 1000000000 := bM f AA
   refine zG ?_
   refine EF O (DA MY O (bO _ (CD (CX ((IC l).take p))) 1000000000 _ _ E.1 a2 AE a3) O E ?_)
   intro cd b6 d6 E
   refine zG ?_
   refine V (v := .string (R.extract (R.size % 9) R.size)) O O (ID (j := (R.size % 9)) O underlying9 O O O AA) ?_
   refine zG ?_
   skip
   have P := E.1
   rw [CO, hi, bY (l := l) (p := p) (n := R.size % 9) h.1 AA AA AA] at P
   replace E := E.s P
   have Q : (R.extract (R.size % 9) R.size).data.toList = l.drop (p + (R.size % 9)) := by rw [XJ R (R.size % 9) AA, h.2.1, List.drop_drop]
   have ap : (R.extract (R.size % 9) R.size).size + (R.size % 9) = R.size := by rw [<- GE, Q, List.length_drop]; have := h.1; omega
   exact ⟨_, (by rw [ah]; omega), p + (R.size % 9), R.extract (R.size % 9) R.size, b6, _, _, _, _, _, _, _, _, _, _, _, _, _, _, _, _, _, _, _, _, _, _, _, _, _, _, _, _, _, _, O, zE, O, ⟨by have := h.1; omega, Q, .inr AA⟩⟩
  have an : i < (R.size % 9) := by omega
  exact ZiF
 have I : s.data.toList.head? = some 45 := yO av aw
 refine zG ?_
 refine V (v := .int .u8 ↑c.toNat) O O (DK (j := 0) O underlying9 O O O hc) ?_
 refine zG ?_
 refine V (v := .string (s.extract 1 s.size)) O O (ID (j := 1) O underlying9 O O O AA) ?_
 have af : (s.extract 1 s.size).data.toList = s.data.toList.tail := by rw [XJ s 1 AA]; exact List.drop_one
 have au : (s.extract 1 s.size).size <= 4000 := by rw [<- GE, af, List.length_tail, GE]; omega
 by_cases e : IP (s.extract 1 s.size).data.toList = true
 case neg =>
  refine zG ?_
  refine EF O (CA IJ O (UA (s.extract 1 s.size) _ AA (by simpa using e) false) O E ?_)
  intro cm bw E
  replace J := J.below bw
  replace E := E.i (DF _)
  refine zG ?_
  refine EF O (BY EC O O O J O O (IsI.one E.1) ?_)
  intro ck bm az
  replace E := oB E J bm az
  have r1 := CL EC E.1 rfl
  refine zG ?_
  exact AQ (v := .tuple #[.agg #[.bool false, .slice none 0 0], .int .i64 3]) YzQ O (RetPa.form AA (XO I (by rw [<- af]; exact e)) ⟨_, O, E.2.1, E.2.2.1⟩)
 by_cases ag : (s.extract 1 s.size).data.toList = [48]
 case pos =>
  refine zG ?_
  refine EF O (CA IJ O (UA (s.extract 1 s.size) _ AA (e) true) O E ?_)
  intro cw c0 E
  replace J := J.below c0
  refine zG ?_
  refine V (v := .bool true) O O (YO O O O (by rw [beq_iff_eq]; exact ag)) ?_
  replace E := E.i (DF _)
  refine zG ?_
  refine EF O (BY EC O O O J O O (IsI.one E.1) ?_)
  intro cv bo b2
  replace E := oB E J bo b2
  have r1 := CL EC E.1 rfl
  refine zG ?_
  exact AQ (v := .tuple #[.agg #[.bool false, .slice none 0 0], .int .i64 3]) YzQ O (RetPa.form AA (nT I (by rw [<- af]; exact ag)) ⟨_, O, E.2.1, E.2.2.1⟩)
 refine zG ?_
 refine EF O (CA IJ O (UA (s.extract 1 s.size) _ AA (e) true) O E ?_)
 intro b5 bx E
 replace J := J.below bx
 refine zG ?_
 refine V (v := .bool false) O O (YO O O O (by rw [beq_eq_false_iff_ne]; exact ag)) ?_
 have ae := bU e
 have f := PH e
 have S := GE (s.extract 1 s.size)
 obtain ⟨l, hl⟩ : ∃ l, l = (s.extract 1 s.size).data.toList := ⟨_, rfl⟩
 rw [<- hl] at e ae f S
 replace E := E.b J
 have al : Sl b5 (.slice none 0 0) (CD (CX ((IC l).take 0))) := by rw [List.take_zero, NS, EG]; exact eK _
 replace E := E.s al
 refine zG ?_
 refine wp_loop_ghost (fun mz a w' => ∃ (p : Nat) (R : ByteArray) (vm : Value) (g7 g8 g9 ad ac ab aa a9 a8 a7 a6 a5 a4 H G F D C B y u t q o a1 a0 Y X U T : Value), a = ⟨#[.string s, undef, .pointer (some ⟨b1, 0, none⟩), .int .i64 0, .bool true, .string R, vm, g7, g8, g9, .string s, .int .i64 ↑s.size, .bool false, undef, .string s, .int .i64 ↑s.size, .bool true, .bool true, .string s, .int .u8 ↑c.toNat, .bool true, .bool true, .string s, .bool true, .string s, .string (s.extract 1 s.size), .string (s.extract 1 s.size), .bool true, .bool false, .bool false, .bool true, .bool true, .string (s.extract 1 s.size), .bool false, .bool false, .bool false, undef, ad, ac, ab, aa, a9, a8, a7, a6, a5, a4, H, G, F, D, C, B, y, u, t, q, o, a1, a0, Y, X, U, T, undef, undef, undef], []⟩ /\ Env w' [fS vm (CD (CX ((IC l).take p))), fB b1 false (.slice none 0 0), fW w] /\ mz = R.size /\ p + R.size = l.length /\ R.data.toList = l.drop p /\ (p = 0 ∨ R.size % 9 = 0)) ((s.extract 1 s.size).size) ⟨0, s.extract 1 s.size, .slice none 0 0, _, _, _, _, _, _, _, _, _, _, _, _, _, _, _, _, _, _, _, _, _, _, _, _, _, _, _, _, _, _, O, zE, O, ⟨by rw [S]; omega, by rw [<- hl]; rfl, .inl O⟩⟩ ?_
 rintro d5 _ cu ⟨p, R, vm, g7, g8, g9, ad, ac, ab, aa, a9, a8, a7, a6, a5, a4, H, G, F, D, C, B, y, u, t, q, o, a1, a0, Y, X, U, T, rfl, E, ai, k⟩
 by_cases hR : R.size = 0
 case pos =>
  have am : p = l.length := by have := k.1; omega
  refine zG ?_
  refine EF O (CH WC O (RV true _ _ (-(CX (IC l) : Int)) _ E.1 (by rw [CO, am, VE]; rfl)) O E ?_)
  intro ct br bb db E
  have ar := E.2.2.1
  refine zG ?_
  replace E := VC E
  refine EF O (BY EC O O O ar O O (IsI.one E.1) ?_)
  intro cr bn b0
  replace E := oB E ar bn b0
  have r1 := CL EC E.1 rfl
  refine zG ?_
  exact AQ (v := .tuple #[.agg #[.bool br, bb], .int .i64 0]) YzQ O (RetPa.ok AA (jU I (by rw [<- af]; exact hl) e (by rw [hl]; exact ag)) ⟨_, O, E.2.1, E.2.2.2.1⟩)
 by_cases h9 : R.size % 9 = 0
 case pos =>
  have bt : 9 <= R.size := by omega
  refine zG ?_
  refine V (v := .int .i64 ↑(R.size % 9)) O O (FD O O O AE (XI _ 9)) ?_
  refine zG ?_
  refine wp_loop_ghost (fun mz a w' => ∃ (i : Nat) (g9 H G F D C B y u t q o : Value), a = ⟨#[.string s, undef, .pointer (some ⟨b1, 0, none⟩), .int .i64 0, .bool true, .string R, vm, .int .i64 9, .int .u64 ↑(CX (((IC l).drop p).take i)), g9, .string s, .int .i64 ↑s.size, .bool false, undef, .string s, .int .i64 ↑s.size, .bool true, .bool true, .string s, .int .u8 ↑c.toNat, .bool true, .bool true, .string s, .bool true, .string s, .string (s.extract 1 s.size), .string (s.extract 1 s.size), .bool true, .bool false, .bool false, .bool true, .bool true, .string (s.extract 1 s.size), .bool false, .bool false, .bool false, undef, .string R, .int .i64 ↑R.size, .bool true, .string R, .int .i64 ↑R.size, .int .i64 ↑(R.size % 9), .int .i64 ↑(R.size % 9), .bool true, .int .i64 9, .int .i64 ↑i, H, G, F, D, C, B, y, u, t, q, o, a1, a0, Y, X, U, T, undef, undef, undef], []⟩ /\ Env w' [fS vm (CD (CX ((IC l).take p))), fB b1 false (.slice none 0 0), fW w] /\ mz = 9 - i /\ i <= 9) (9) ⟨0, _, _, _, _, _, _, _, _, _, _, _, _, O, zE, O, Nat.zero_le _⟩ ?_
  rintro d4 _ cq ⟨i, g9, H, G, F, D, C, B, y, u, t, q, o, rfl, E, c5, ca⟩
  by_cases hi : i = 9
  case pos =>
   have a3 : CX (((IC l).drop p).take i) < 1000000000 := aW (l := l) (p := p) f AA
   have a2 : (CD (CX ((IC l).take p))).length <= 1000000000 := bM f AA
   refine zG ?_
   refine EF O (DA MY O (bO _ (CD (CX ((IC l).take p))) 1000000000 _ _ E.1 a2 AE a3) O E ?_)
   intro cp b9 da E
   refine zG ?_
   refine V (v := .string (R.extract 9 R.size)) O O (ID (j := 9) O underlying9 O O O AA) ?_
   refine zG ?_
   skip
   have P := E.1
   rw [CO, hi, bY (l := l) (p := p) (n := 9) k.1 AA AA AA] at P
   replace E := E.s P
   have Q : (R.extract 9 R.size).data.toList = l.drop (p + 9) := by rw [XJ R 9 AA, k.2.1, List.drop_drop]
   have ap : (R.extract 9 R.size).size + 9 = R.size := by rw [<- GE, Q, List.length_drop]; have := k.1; omega
   exact ⟨_, (by rw [ai]; omega), p + 9, R.extract 9 R.size, b9, _, _, _, _, _, _, _, _, _, _, _, _, _, _, _, _, _, _, _, _, _, _, _, _, _, _, _, _, _, _, O, zE, O, ⟨by have := k.1; omega, Q, .inr AA⟩⟩
  have an : i < 9 := by omega
  exact ZqU
 refine zG ?_
 refine V (v := .int .i64 ↑(R.size % 9)) O O (FD O O O AE (XI _ 9)) ?_
 refine zG ?_
 refine wp_loop_ghost (fun mz a w' => ∃ (i : Nat) (g9 H G F D C B y u t q o : Value), a = ⟨#[.string s, undef, .pointer (some ⟨b1, 0, none⟩), .int .i64 0, .bool true, .string R, vm, .int .i64 ↑(R.size % 9), .int .u64 ↑(CX (((IC l).drop p).take i)), g9, .string s, .int .i64 ↑s.size, .bool false, undef, .string s, .int .i64 ↑s.size, .bool true, .bool true, .string s, .int .u8 ↑c.toNat, .bool true, .bool true, .string s, .bool true, .string s, .string (s.extract 1 s.size), .string (s.extract 1 s.size), .bool true, .bool false, .bool false, .bool true, .bool true, .string (s.extract 1 s.size), .bool false, .bool false, .bool false, undef, .string R, .int .i64 ↑R.size, .bool true, .string R, .int .i64 ↑R.size, .int .i64 ↑(R.size % 9), .int .i64 ↑(R.size % 9), .bool false, .int .i64 ↑(R.size % 9), .int .i64 ↑i, H, G, F, D, C, B, y, u, t, q, o, a1, a0, Y, X, U, T, undef, undef, undef], []⟩ /\ Env w' [fS vm (CD (CX ((IC l).take p))), fB b1 false (.slice none 0 0), fW w] /\ mz = (R.size % 9) - i /\ i <= (R.size % 9)) ((R.size % 9)) ⟨0, _, _, _, _, _, _, _, _, _, _, _, _, O, zE, O, Nat.zero_le _⟩ ?_
 rintro d3 _ co ⟨i, g9, H, G, F, D, C, B, y, u, t, q, o, rfl, E, c4, c9⟩
 by_cases hi : i = R.size % 9
 case pos =>
  have a3 : CX (((IC l).drop p).take i) < 1000000000 := aW (l := l) (p := p) f AA
  have a2 : (CD (CX ((IC l).take p))).length <= 1000000000 := bM f AA
  refine zG ?_
  refine EF O (DA MY O (bO _ (CD (CX ((IC l).take p))) 1000000000 _ _ E.1 a2 AE a3) O E ?_)
  intro cn b8 d9 E
  refine zG ?_
  refine V (v := .string (R.extract (R.size % 9) R.size)) O O (ID (j := (R.size % 9)) O underlying9 O O O AA) ?_
  refine zG ?_
  skip
  have P := E.1
  rw [CO, hi, bY (l := l) (p := p) (n := R.size % 9) k.1 AA AA AA] at P
  replace E := E.s P
  have Q : (R.extract (R.size % 9) R.size).data.toList = l.drop (p + (R.size % 9)) := by rw [XJ R (R.size % 9) AA, k.2.1, List.drop_drop]
  have ap : (R.extract (R.size % 9) R.size).size + (R.size % 9) = R.size := by rw [<- GE, Q, List.length_drop]; have := k.1; omega
  exact ⟨_, (by rw [ai]; omega), p + (R.size % 9), R.extract (R.size % 9) R.size, b8, _, _, _, _, _, _, _, _, _, _, _, _, _, _, _, _, _, _, _, _, _, _, _, _, _, _, _, _, _, _, O, zE, O, ⟨by have := k.1; omega, Q, .inr AA⟩⟩
 have an : i < (R.size % 9) := by omega
 exact ZqU
end Go.Proofs.YtmppigbbkjepiaaGreatDoor
