/- Helping facts of RefT; no other conditions. -/
import Derived.Test.YtmppigbbkjepiaaGreatDoorRefA
import Derived.Test.YtmppigbbkjepiaaGreatDoorParse
set_option maxHeartbeats 4000000
set_option maxRecDepth 100000
namespace Go.Proofs.YtmppigbbkjepiaaGreatDoor
open Go.Proofs.Tryz
open Go.RowKit W
variable {D : List Nat} {R : ByteArray} {b : UInt8} {l : List UInt8} {m n : Nat} {p : Prop} {w : World} {x : Int}
theorem Yqr (h : p := by simp [results, results113, asAddr, r1]) : p := h
theorem Za1 (h : p := by
 rintro di _ d0 ⟨i, vm, g3, g8, a7, a6, a5, a4, a3, a2, a1, a0, Y, X, U, T, S, R, Q, P, N, L, J, I, H, G, F, D, rfl, E, ao, ap⟩
 obtain ⟨ae, p⟩ := ap
 by_cases hi : i < l.length
 case neg =>
  obtain rfl : i = l.length := by omega
  have ad : IP l = true := NK AA u p
  refine zG ?_
  refine EF O (CH EI O (KN false _ (CX ((IC l).take l.length)) (CX (IC l) : Int) _ E.1 (by rw [VE]; rfl)) O E ?_)
  intro ct bp b8 dk E
  have af := E.2.2.1
  refine zG ?_
  replace E := VC E
  refine zG ?_
  refine EF O (BY EC O O O af O O (IsI.one E.1) ?_)
  intro cr bj aq
  replace E := oB E af bj aq
  have r1 := CL EC E.1 rfl
  refine zG ?_
  exact AQ (v := .tuple #[.agg #[.bool bp, b8], .int .i64 0]) Yqr O (RetPa.ok AA (SE e k ad) ⟨_, O, E.2.1, e3 E⟩)
 obtain ⟨b, C, f⟩ := JV (i := i) (s := s) AA
 rw [<- k] at f
 by_cases h1 : b.toNat < 48
 case pos =>
  refine zG ?_
  refine V (v := .int .u8 ↑b.toNat) O O (DK (j := i) O underlying9 O O O C) ?_
  replace E := E.i (DF _)
  have ah := E.2.2.1
  refine zG ?_
  replace E := VC E
  refine zG ?_
  refine EF O (BY EC O O O ah O O (IsI.one E.1) ?_)
  intro cz bl au
  replace E := oB E ah bl au
  have r1 := CL EC E.1 rfl
  refine zG ?_
  exact AQ (v := .tuple #[.agg #[.bool false, .slice none 0 0], .int .i64 3]) Yqr O (RetPa.form AA (IT e (by rw [<- k, IU f (.inl h1)]; decide)) ⟨_, O, E.2.1, e3 E⟩)
 by_cases h2 : 57 < b.toNat
 case pos =>
  refine zG ?_
  refine V (v := .int .u8 ↑b.toNat) O O (DK (j := i) O underlying9 O O O C) ?_
  replace E := E.i (DF _)
  have ag := E.2.2.1
  refine zG ?_
  replace E := VC E
  refine zG ?_
  refine EF O (BY EC O O O ag O O (IsI.one E.1) ?_)
  intro cy bk ar
  replace E := oB E ag bk ar
  have r1 := CL EC E.1 rfl
  refine zG ?_
  exact AQ (v := .tuple #[.agg #[.bool false, .slice none 0 0], .int .i64 3]) Yqr O (RetPa.form AA (IT e (by rw [<- k, IU f (.inr h2)]; decide)) ⟨_, O, E.2.1, e3 E⟩)
 have y := UK p ae AA
 refine zG ?_
 refine V (v := .int .u8 ↑b.toNat) O O (DK (j := i) O underlying9 O O O C) ?_
 refine zG ?_
 refine EF O (OF (c := 10) O O AE AE E ?_)
 intro cx dd dp E
 refine zG ?_
 refine EF O (DA KH O (XM _ _ (CX ((IC l).take i)) 10 _ E.2.1 E.1 (Nat.le_trans y AE) (RQ AE)) O E ?_)
 intro cw dc dn E
 refine zG ?_
 refine V (v := .int .u8 ↑(b.toNat - 48)) O O (FM O O O (IN AA AA)) ?_
 refine V (v := .int .u64 ↑(b.toNat - 48)) O O (FI O O (by rw [underlying5]; rfl) underlying161 (EJ AA AA)) ?_
 refine zG ?_
 refine EF O (DA ME O (LF (b.toNat - 48) _ AA) O E ?_)
 intro cv db dm E
 refine zG ?_
 refine EF O (DA IZ O (UN _ _ ((CX ((IC l).take i)) * 10) (b.toNat - 48) _ E.2.1 E.1 (XP y) (RQ AA)) O E ?_)
 intro cu b6 dl E
 have aa := E.1
 rw [<- gY f] at aa
 replace E := E.s aa
 refine zG ?_
 exact ⟨_, (by rw [ao]; omega), i + 1, b6, _, _, _, _, _, _, _, _, _, _, _, _, _, _, _, _, _, _, _, _, _, _, _, _, _, _, O, zE, O, ⟨by omega, fun j b2 hj o => by rcases Nat.lt_or_ge j i with h | h; exact p j b2 h o; obtain rfl : j = i := AA; rw [f] at o; cases o; omega⟩⟩
 ) : p := h
theorem Bw (v : Value) (m d : Nat) (w : World) (h : Sl w v (CD m)) (hf : (CD m).length <= 1000000000) (hd : 0 < d) (hd2 : d < 4294967296) :
 Calls prog 155 #[v, .int .u64 d] w (Aj w (m / d) (m % d)) := by
 have := aC v (CD m) d w h hf hd hd2
 rwa [CO] at this
def TxI (n m : Nat) (D : List Nat) : Prop := m <= n /\ Dg D /\ ((0 < m /\ YF n = YF m ++ D) ∨ (m = 0 /\ YF n = D))
theorem TxI.start (h : 0 < n) : TxI n n [] := ⟨Nat.le_refl _, (fun _ h => by cases h), .inl ⟨h, by simp⟩⟩
theorem TxI.step (h : TxI n m D) (hm : 0 < m) : TxI n (m / 10) (m % 10 :: D) := by
 obtain ⟨l, k, e⟩ := h
 rcases e with ⟨_, e⟩ | ⟨e, _⟩
 . refine ⟨by omega, Dg_cons.2 ⟨by omega, k⟩, ?_⟩
   by_cases f : m < 10
   . exact .inr ⟨by omega, by rw [e, QC m f, Nat.mod_eq_of_lt f]; rfl⟩
   exact .inl ⟨by omega, by rw [e, WX m AA, List.append_assoc]; rfl⟩
 omega
theorem TxI.len (h : TxI n m D) : D.length <= (YF n).length := by
 rcases h.2.2 with ⟨_, h⟩ | ⟨_, h⟩ <;> rw [h] <;> simp
theorem pC {z : Int} {F : Nat} (h : Fits z F) (hF : 0 < F) : (YF z.natAbs).length <= 10 * F := by
 refine qM AA ?_
 rw [Nat.pow_mul]
 exact Nat.lt_of_lt_of_le h.lt (Nat.pow_le_pow_left AE _)
theorem vF (l : List Nat) : (ZQ l).length = l.length := by simp [ZQ]
theorem Wq {d : Nat} (hd : d < 10) (h : R.data.toList = ZQ D) : (strOfNums [((48 + d : Nat) : Int)] ++ R).data.toList = ZQ (d :: D) := by
 have := pI [d] (Dg_cons.2 ⟨hd, fun _ h => by cases h⟩)
 rw [ByteArray.data_append, Array.toList_append, h]
 simp only [List.map_cons, List.map_nil] at this
 rw [this]; rfl
theorem Ny (h : x < 0) (hR : R.data.toList = ZQ (YF x.natAbs)) : (⟨#[45]⟩ : ByteArray) ++ R = NT x := by
 apply ByteArray.ext
 apply Array.ext'
 rw [ByteArray.data_append, Array.toList_append, hR]
 simp [NT, txt, h]
theorem Nx (h : ¬ x < 0) (hR : R.data.toList = ZQ (YF x.natAbs)) : R = NT x := by
 apply ByteArray.ext
 apply Array.ext'
 rw [hR]
 simp [NT, txt, h]
theorem txt_0 (h : x = 0) : (⟨#[48]⟩ : ByteArray) = NT x := by subst h; exact txt_zero.symm
theorem Pi {b T : Nat} {v : Int} (h : Bx w b T [.int .u8 v]) : ∀ i, i < 1 -> w.cell? ⟨b, 0 + i, none⟩ = some (.int .u8 ([v].getD i 0)) := by
 intro i e
 obtain rfl : i = 0 := by omega
 exact h.cell 0
theorem Mh (h : R.data.toList = ZQ D) : R.size = D.length := by rw [<- GE, h, vF]
theorem mN (va : Value) (x : Int) (w : World) (hva : IsI w va x) (Fx : Fits x 1000000000) :
 Calls prog 110 #[va] w (E3 w x) := by
 have E := Env.start w
 obtain ⟨f, e, rfl, _, _⟩ := hva.sh
 replace E := E.i hva
 go_enter func110, ntmps110
 refine zG ?_
 refine EF O (CM O O ?_)
 intro Y w1 e1 z1 d1 x1
 replace E := E.below d1
 clear e1
 replace E := E.b x1
 by_cases k : x = 0
 . obtain ⟨af, aa, a3⟩ := IsI.slice E.2.1
   refine zG ?_
   refine V (v := .int .i64 ↑((CD x.natAbs).length)) O O (KL O a3) ?_
   refine V O O (EK (c := true) O O O (Vg k)) ?_
   refine zG ?_
   exact ⟨congrArg (fun s => Ending.returned (.string s)) (txt_0 k), E.2.2.1⟩
 obtain ⟨ae, a9, a2⟩ := IsI.slice E.2.1
 refine zG ?_
 refine V (v := .int .i64 ↑((CD x.natAbs).length)) O O (KL O a2) ?_
 refine V O O (EK (c := false) O O O (mC k)) ?_
 replace E := E.s (IsI.sl E.2.1)
 refine zG ?_
 refine wp_loop_ghost (fun mz a w' => ∃ (m : Nat) (D : List Nat) (R : ByteArray) (vl : Value) (g5 g6 T S Q P N L J I H G F C B y u t : Value), a = ⟨#[.agg #[.bool f, e], .pointer (some ⟨Y, 0, none⟩), .string ⟨#[]⟩, .string R, vl, g5, g6, .pointer (some ⟨Y, 1, none⟩), e, .int .i64 ↑((CD x.natAbs).length), .bool false, .pointer (some ⟨Y, 1, none⟩), e, T, S, Q, P, N, L, J, I, H, G, F, C, B, y, u, t, undef, undef, undef, undef, undef], []⟩ /\ Env w' [fS vl (CD m), fB Y f e, fI (.agg #[.bool f, e]) x, fW w] /\ mz = m /\ TxI x.natAbs m D /\ R.data.toList = ZQ D) (x.natAbs) ⟨x.natAbs, [], ⟨#[]⟩, e, _, _, _, _, _, _, _, _, _, _, _, _, _, _, _, _, _, _, O, zE, O, ⟨TxI.start (Pn k), O⟩⟩ ?_
 rintro m6 _ w6 ⟨m, D, R, vl, g5, g6, T, S, Q, P, N, L, J, I, H, G, F, C, B, y, u, t, rfl, E, a5, a6⟩
 obtain ⟨l, o⟩ := a6
 by_cases X : 0 < m
 case neg =>
  have hR : R.data.toList = ZQ (YF x.natAbs) := by rcases l.2.2 with ⟨h, _⟩ | ⟨_, h⟩; exact absurd h X; rw [h]; exact o
  obtain ⟨ab, a7, p⟩ := Sl.shp E.1
  refine zG ?_
  refine V (v := .int .i64 ↑((CD m).length)) O O (KL O p) ?_
  refine V O O (EP (c := false) O O O (lenz X)) ?_
  by_cases U : x < 0
  case neg =>
   obtain rfl : f = false := (GD E.2.2.1).trans (decide_eq_false U)
   refine zG ?_
   exact ⟨congrArg (fun s => Ending.returned (.string s)) (Nx U hR), e3 E⟩
  obtain rfl : f = true := (GD E.2.2.1).trans (decide_eq_true U)
  refine zG ?_
  refine V (v := .string ((⟨#[45]⟩ : ByteArray) ++ R)) O O (VQ O O O (by have h1 := Mh hR; have h2 := pC Fx AE; show 1 + _ <= _; omega)) ?_
  refine zG ?_
  exact ⟨congrArg (fun s => Ending.returned (.string s)) (Ny U hR), e3 E⟩
 have a0 := l.step X
 have a4 : (CD m).length <= 1000000000 := Nat.le_trans (FZ l.1) Fx
 have ac : R.size <= 10000000000 := by rw [Mh o]; exact Nat.le_trans l.len (pC Fx AE)
 have q : m % 10 < 10 := Nat.mod_lt _ AE
 obtain ⟨ad, a8, a1⟩ := Sl.shp E.1
 refine zG ?_
 refine V (v := .int .i64 ↑((CD m).length)) O O (KL O a1) ?_
 refine V O O (EP (c := true) O O O (lenp X)) ?_
 refine zG ?_
 refine EF O (bE gQ O (Bw _ m 10 _ E.1 a4 AE AE) O E ?_)
 intro w8 v8 d8 E
 refine zG ?_
 refine V (v := .int .u64 ↑(48 + m % 10)) O O (KM O O O (EJ AA AA)) ?_
 refine V (v := .int .u8 ↑(48 + m % 10)) O O (FI O O (by rw [underlying161]; rfl) underlying5 (IN AA AA)) ?_
 refine zG ?_
 refine EF O (vV O O E ?_)
 intro w9 b9 d9 E
 refine zG ?_
 refine V (v := .string (strOfNums [((48 + m % 10 : Nat) : Int)])) O O (lN O underlying42 underlying5 underlying9 O O (Pi E.1)) ?_
 refine zG ?_
 refine V (v := .string (strOfNums [((48 + m % 10 : Nat) : Int)] ++ R)) O O (VQ O O O (by rw [strOfNums_size]; show 1 + _ <= _; omega)) ?_
 refine zG ?_
 exact ⟨_, (by rw [a5]; omega), m / 10, (m % 10 :: D), (strOfNums [((48 + m % 10 : Nat) : Int)] ++ R), v8, _, _, _, _, _, _, _, _, _, _, _, _, _, _, _, _, _, _, O, zE, O, ⟨a0, Wq q o⟩⟩
theorem aJ (h0 : l[0]? = some b) (hb : b.toNat = 48) (h1 : ¬ l = [48]) : IP l = false := by
 by_cases e : 1 < l.length
 . exact nU h0 hb e
 exfalso
 match l, h0, h1, e with
 | [], h0, _, _ => simp at h0
 | [c], h0, h1, _ => simp at h0; subst h0; exact h1 (by rw [show c = 48 from UInt8.toNat_inj.1 hb])
 | _ :: _ :: _, _, _, e => simp at e
theorem xT (h : l.head? = some 45) (h0 : l.tail[0]? = some b) (hb : b.toNat = 48) : DN l = none := by
 by_cases e : l.tail = [48]
 . exact nT h e
 exact XO h (by rw [aJ h0 hb e]; decide)
theorem not48 (h0 : l[0]? = some b) (hb : ¬ b.toNat = 48) : ¬ l = [48] := by rintro rfl; simp at h0; subst h0; exact hb rfl
theorem gY {i : Nat} (hb : l[i]? = some b) : CX ((IC l).take (i + 1)) = CX ((IC l).take i) * 10 + (b.toNat - 48) := by
 have := aS (l := l) (p := 0) (i := i) (by rw [Nat.zero_add]; exact hb)
 rw [List.drop_zero] at this
 omega
theorem UK {p : Nat} (h : ∀ j b, j < p -> l[j]? = some b -> 48 <= b.toNat /\ b.toNat <= 57) (hp : p <= l.length) (hl : l.length <= 1000000) : (CD (CX ((IC l).take p))).length <= 1000000 := by
 have q : Dg ((IC l).take p) := by
  intro d o
  obtain ⟨j, f⟩ := List.getElem?_of_mem o
  rw [List.getElem?_take] at f
  split at f
  . rename_i hjp
    unfold IC at f
    rw [List.getElem?_map] at f
    cases e : l[j]? with
    | none => rw [e] at f; simp at f
    | some b =>
      rw [e] at f; simp at f
      have := h j b hjp e
      omega
  simp at f
 have t := eS q
 exact Nat.le_trans (GJ (k := ((IC l).take p).length) (Nat.lt_of_lt_of_le t (Nat.pow_le_pow_left AE _))) (by rw [List.length_take, dX]; omega)
theorem RQ {k : Nat} (h : k < 4294967296) : (CD k).length <= 1000000000 := Nat.le_trans (GJ (k := 1) AA) AE
theorem XP (h : (CD m).length <= 1000000) : (CD (m * 10)).length <= 1000000000 := by
 have e := GV (GF m); rw [CO] at e
 refine Nat.le_trans (GJ (k := (CD m).length + 1) ?_) AA
 rw [Nat.pow_succ]; omega
theorem TQ {P : Program} {ρ : Operand -> Value} {o : Oper} {t t' : TypeId} {x y : Operand} {a b : ByteArray} {c : Bool} (ho : o.op = .binOp .neq t x y t') (hx : ρ x = .string a) (hy : ρ y = .string b) (hc : (a.data.toList != b.data.toList) = c) : (execOp ρ o).run P w = .ok (.value (.bool c)) w := by
 unfold execOp; rw [ho]
 subst hc
 simp only [hx, hy, eqGuard_at_string, binOp, Op.stringOp, Sem.run_bind, Sem.run_pure, Result.andThen_ok, ByteArray.toList_eq]
 rfl
theorem hn45 (h : l.head? = some 45) : (l != (⟨#[48]⟩ : ByteArray).data.toList) = true := by
 rw [bne_iff_ne]; rintro rfl; exact absurd h AE
theorem pV (s : ByteArray) (w : World) (hs9 : s.size <= 1000000000) :
 Calls prog 113 #[.string s] w (RetPa w s) := by
 have E := Env.start w
 go_enter func113, ntmps113
 refine zG ?_
 refine EF O (BZ EC O ?_)
 intro b1 w1 e1 z1 d1 q
 have l1 : w.heap.size <= b1 := by rw [e1]; exact E.1.size
 replace E := E.below d1
 clear e1
 by_cases dj : 4000 < s.size
 . replace E := E.i (DF _)
   refine zG ?_
   refine EF O (BY EC O O O q O O (IsI.one E.1) ?_)
   intro w3 o3 y3
   replace E := oB E q o3 y3
   have r1 := CL EC E.1 rfl
   refine zG ?_
   exact AQ (v := .tuple #[.agg #[.bool false, .slice none 0 0], .int .i64 2]) Yqr O (RetPa.big AA ⟨_, O, E.2.1, E.2.2.1⟩)
 by_cases hs : s.size = 0
 case pos =>
  have e : ¬ s.data.toList.head? = some 45 := mE (.inl (by rw [GE]; exact hs))
  have B : s.data.toList = s.data.toList := rfl
  have bv : s.size <= 4000 := by omega
  obtain ⟨l, k⟩ : ∃ l, l = s.data.toList := ⟨_, rfl⟩
  have bu : l.length = s.size := by rw [k, GE]
  by_cases hz : s.size = 0
  case neg =>
   obtain ⟨c2, a8, t⟩ := JV (i := 0) (s := s) AA
   exfalso
   omega
  replace E := E.i (DF _)
  refine zG ?_
  refine EF O (BY EC O O O q O O (IsI.one E.1) ?_)
  intro w8 o8 y8
  replace E := oB E q o8 y8
  have r1 := CL EC E.1 rfl
  refine zG ?_
  exact AQ (v := .tuple #[.agg #[.bool false, .slice none 0 0], .int .i64 3]) Yqr O (RetPa.form AA (IT e (by rw [<- k, SG (l := l) AA]; decide)) ⟨_, O, E.2.1, E.2.2.1⟩)
 obtain ⟨c, hc, bw⟩ := JV (i := 0) (s := s) AA
 by_cases c1 : c.toNat = 45
 case pos =>
  have e : s.data.toList.head? = some 45 := yO bw c1
  refine zG ?_
  refine V (v := .int .u8 ↑c.toNat) Z O (DK (j := 0) O underlying9 O O O hc) ?_
  refine zG ?_
  refine V (v := .string (s.extract 1 s.size)) O O (ID (j := 1) O underlying9 O O O AA) ?_
  have B : (s.extract 1 s.size).data.toList = s.data.toList.tail := by rw [XJ s 1 AA]; exact List.drop_one
  have bv : (s.extract 1 s.size).size <= 4000 := by rw [<- GE, B, List.length_tail, GE]; omega
  obtain ⟨l, k⟩ : ∃ l, l = (s.extract 1 s.size).data.toList := ⟨_, rfl⟩
  have bu : l.length = (s.extract 1 s.size).size := by rw [k, GE]
  by_cases hz : (s.extract 1 s.size).size = 0
  . replace E := E.i (DF _)
    refine zG ?_
    refine EF O (BY EC O O O q O O (IsI.one E.1) ?_)
    intro ej cn c9
    replace E := oB E q cn c9
    have r1 := CL EC E.1 rfl
    refine zG ?_
    exact AQ (v := .tuple #[.agg #[.bool false, .slice none 0 0], .int .i64 3]) Yqr O (RetPa.form AA (XO e (by rw [<- B, <- k, SG (l := l) AA]; decide)) ⟨_, O, E.2.1, E.2.2.1⟩)
  obtain ⟨c2, a8, t⟩ := JV (i := 0) (s := (s.extract 1 s.size)) AA
  rw [<- k] at t
  by_cases a9 : c2.toNat = 48
  case pos =>
   refine zG ?_
   refine V (v := .int .u8 ↑c2.toNat) Z O (DK (j := 0) O underlying9 O O O a8) ?_
   refine zG ?_
   refine V Z O (TQ (c := true) O O O (hn45 e)) ?_
   replace E := E.i (DF _)
   refine zG ?_
   refine EF O (BY EC O O O q O O (IsI.one E.1) ?_)
   intro ei cm c8
   replace E := oB E q cm c8
   have r1 := CL EC E.1 rfl
   refine zG ?_
   exact AQ (v := .tuple #[.agg #[.bool false, .slice none 0 0], .int .i64 3]) Yqr O (RetPa.form AA (xT e (by rw [<- B, <- k]; exact t) a9) ⟨_, O, E.2.1, E.2.2.1⟩)
  have u : ∀ b, l[0]? = some b -> b.toNat = 48 -> ¬ 1 < l.length := fun b C h => absurd (by rw [t] at C; cases C; exact h) a9
  refine zG ?_
  refine V (v := .int .u8 ↑c2.toNat) Z O (DK (j := 0) O underlying9 O O O a8) ?_
  refine zG ?_
  refine EF O (QK O E ?_)
  intro eh b5 cq E
  replace q := q.below cq
  replace E := E.b q
  have an := E.2.1
  rw [show (0 : Nat) = CX ((IC l).take 0) by rw [List.take_zero, NS]] at an
  replace E := E.s an
  refine zG ?_
  refine wp_loop_ghost (fun mz a w' => ∃ (i : Nat) (vm : Value) (g3 g8 a7 a6 a5 a4 a3 a2 a1 a0 Y X U T S R Q P N L J I H G F D : Value), a = ⟨#[.string s, undef, .pointer (some ⟨b1, 0, none⟩), g3, .string (s.extract 1 s.size), .bool true, vm, .int .i64 ↑i, g8, .string s, .int .i64 ↑s.size, .bool false, undef, .string s, .string s, .int .i64 ↑s.size, .bool true, .bool true, .string s, .int .u8 ↑c.toNat, .bool true, .bool true, .bool true, .string s, .string (s.extract 1 s.size), .string (s.extract 1 s.size), .int .i64 ↑((s.extract 1 s.size).size), .bool false, .bool false, .string (s.extract 1 s.size), .int .u8 ↑c2.toNat, .bool false, .bool false, undef, undef, .bool false, .bool false, undef, b5, a7, a6, a5, a4, a3, a2, a1, a0, Y, X, U, T, S, R, Q, P, N, L, J, I, H, G, F, D, undef, undef, undef], []⟩ /\ Env w' [fS vm (CD (CX ((IC l).take i))), fB b1 false (.slice none 0 0), fW w] /\ mz = l.length - i /\ (i <= l.length /\ ∀ j b, j < i -> l[j]? = some b -> 48 <= b.toNat /\ b.toNat <= 57)) (l.length) ⟨0, b5, _, _, _, _, _, _, _, _, _, _, _, _, _, _, _, _, _, _, _, _, _, _, _, _, _, _, O, zE, O, ⟨Nat.zero_le _, fun j b h => absurd h (Nat.not_lt_zero j)⟩⟩ ?_
  rintro eo _ eg ⟨i, vm, g3, g8, a7, a6, a5, a4, a3, a2, a1, a0, Y, X, U, T, S, R, Q, P, N, L, J, I, H, G, F, D, rfl, E, bt, c0⟩
  obtain ⟨ae, p⟩ := c0
  by_cases hi : i < l.length
  case neg =>
   obtain rfl : i = l.length := by omega
   have ad : IP l = true := NK AA u p
   refine zG ?_
   refine EF O (CH EI O (KN true _ (CX ((IC l).take l.length)) (-(CX (IC l) : Int)) _ E.1 (by rw [VE]; rfl)) O E ?_)
   intro dz co cb ep E
   have az := E.2.2.1
   refine zG ?_
   replace E := VC E
   refine zG ?_
   refine EF O (BY EC O O O az O O (IsI.one E.1) ?_)
   intro dy ci c5
   replace E := oB E az ci c5
   have r1 := CL EC E.1 rfl
   refine zG ?_
   exact AQ (v := .tuple #[.agg #[.bool co, cb], .int .i64 0]) Yqr O (RetPa.ok AA (jU e (by rw [<- B]; exact k) ad (not48 t a9)) ⟨_, O, E.2.1, e3 E⟩)
  obtain ⟨b, C, f⟩ := JV (i := i) (s := (s.extract 1 s.size)) AA
  rw [<- k] at f
  by_cases h1 : b.toNat < 48
  case pos =>
   refine zG ?_
   refine V (v := .int .u8 ↑b.toNat) O O (DK (j := i) O underlying9 O O O C) ?_
   replace E := E.i (DF _)
   have b3 := E.2.2.1
   refine zG ?_
   replace E := VC E
   refine zG ?_
   refine EF O (BY EC O O O b3 O O (IsI.one E.1) ?_)
   intro ef ck c7
   replace E := oB E b3 ck c7
   have r1 := CL EC E.1 rfl
   refine zG ?_
   exact AQ (v := .tuple #[.agg #[.bool false, .slice none 0 0], .int .i64 3]) Yqr O (RetPa.form AA (XO e (by rw [<- B, <- k, IU f (.inl h1)]; decide)) ⟨_, O, E.2.1, e3 E⟩)
  by_cases h2 : 57 < b.toNat
  case pos =>
   refine zG ?_
   refine V (v := .int .u8 ↑b.toNat) O O (DK (j := i) O underlying9 O O O C) ?_
   replace E := E.i (DF _)
   have b0 := E.2.2.1
   refine zG ?_
   replace E := VC E
   refine zG ?_
   refine EF O (BY EC O O O b0 O O (IsI.one E.1) ?_)
   intro ee cj c6
   replace E := oB E b0 cj c6
   have r1 := CL EC E.1 rfl
   refine zG ?_
   exact AQ (v := .tuple #[.agg #[.bool false, .slice none 0 0], .int .i64 3]) Yqr O (RetPa.form AA (XO e (by rw [<- B, <- k, IU f (.inr h2)]; decide)) ⟨_, O, E.2.1, e3 E⟩)
  have y := UK p ae AA
  refine zG ?_
  refine V (v := .int .u8 ↑b.toNat) O O (DK (j := i) O underlying9 O O O C) ?_
  refine zG ?_
  refine EF O (OF (c := 10) O O AE AE E ?_)
  intro ed em eu E
  refine zG ?_
  refine EF O (DA KH O (XM _ _ (CX ((IC l).take i)) 10 _ E.2.1 E.1 (Nat.le_trans y AE) (RQ AE)) O E ?_)
  intro ec el et E
  refine zG ?_
  refine V (v := .int .u8 ↑(b.toNat - 48)) O O (FM O O O (IN AA AA)) ?_
  refine V (v := .int .u64 ↑(b.toNat - 48)) O O (FI O O (by rw [underlying5]; rfl) underlying161 (EJ AA AA)) ?_
  refine zG ?_
  refine EF O (DA ME O (LF (b.toNat - 48) _ AA) O E ?_)
  intro eb ek es E
  refine zG ?_
  refine EF O (DA IZ O (UN _ _ ((CX ((IC l).take i)) * 10) (b.toNat - 48) _ E.2.1 E.1 (XP y) (RQ AA)) O E ?_)
  intro ea ca er E
  have am := E.1
  rw [<- gY f] at am
  replace E := E.s am
  refine zG ?_
  exact ⟨_, (by rw [bt]; omega), i + 1, ca, _, _, _, _, _, _, _, _, _, _, _, _, _, _, _, _, _, _, _, _, _, _, _, _, _, _, O, zE, O, ⟨by omega, fun j b2 hj o => by rcases Nat.lt_or_ge j i with h | h; exact p j b2 h o; obtain rfl : j = i := AA; rw [f] at o; cases o; omega⟩⟩
 have e : ¬ s.data.toList.head? = some 45 := mE (.inr ⟨c, bw, c1⟩)
 refine zG ?_
 refine V (v := .int .u8 ↑c.toNat) Z O (DK (j := 0) O underlying9 O O O hc) ?_
 have B : s.data.toList = s.data.toList := rfl
 have bv : s.size <= 4000 := by omega
 obtain ⟨l, k⟩ : ∃ l, l = s.data.toList := ⟨_, rfl⟩
 have bu : l.length = s.size := by rw [k, GE]
 by_cases hz : s.size = 0
 . exfalso
   omega
 obtain ⟨c2, a8, t⟩ := JV (i := 0) (s := s) AA
 rw [<- k] at t
 by_cases a9 : c2.toNat = 48
 case neg =>
  have u : ∀ b, l[0]? = some b -> b.toNat = 48 -> ¬ 1 < l.length := fun b C h => absurd (by rw [t] at C; cases C; exact h) a9
  refine zG ?_
  refine V (v := .int .u8 ↑c2.toNat) Z O (DK (j := 0) O underlying9 O O O a8) ?_
  refine zG ?_
  refine EF O (QK O E ?_)
  intro d2 ak c3 E
  replace q := q.below c3
  replace E := E.b q
  have ab := E.2.1
  rw [show (0 : Nat) = CX ((IC l).take 0) by rw [List.take_zero, NS]] at ab
  replace E := E.s ab
  refine zG ?_
  refine wp_loop_ghost (fun mz a w' => ∃ (i : Nat) (vm : Value) (g3 g8 a7 a6 a5 a4 a3 a2 a1 a0 Y X U T S R Q P N L J I H G F D : Value), a = ⟨#[.string s, undef, .pointer (some ⟨b1, 0, none⟩), g3, .string s, .bool false, vm, .int .i64 ↑i, g8, .string s, .int .i64 ↑s.size, .bool false, undef, .string s, .string s, .int .i64 ↑s.size, .bool true, .bool true, .string s, .int .u8 ↑c.toNat, .bool false, .bool false, .bool false, undef, undef, .string s, .int .i64 ↑s.size, .bool false, .bool false, .string s, .int .u8 ↑c2.toNat, .bool false, .bool false, undef, undef, .bool false, .bool false, undef, ak, a7, a6, a5, a4, a3, a2, a1, a0, Y, X, U, T, S, R, Q, P, N, L, J, I, H, G, F, D, undef, undef, undef], []⟩ /\ Env w' [fS vm (CD (CX ((IC l).take i))), fB b1 false (.slice none 0 0), fW w] /\ mz = l.length - i /\ (i <= l.length /\ ∀ j b, j < i -> l[j]? = some b -> 48 <= b.toNat /\ b.toNat <= 57)) (l.length) ⟨0, ak, _, _, _, _, _, _, _, _, _, _, _, _, _, _, _, _, _, _, _, _, _, _, _, _, _, _, O, zE, O, ⟨Nat.zero_le _, fun j b h => absurd h (Nat.not_lt_zero j)⟩⟩ ?_
  exact Za1
 by_cases h1 : l = [48]
 case neg =>
  refine zG ?_
  refine V (v := .int .u8 ↑c2.toNat) Z O (DK (j := 0) O underlying9 O O O a8) ?_
  refine zG ?_
  refine V Z O (TQ (c := true) O O O (by rw [bne_iff_ne, <- k]; exact h1)) ?_
  replace E := E.i (DF _)
  refine zG ?_
  refine EF O (BY EC O O O q O O (IsI.one E.1) ?_)
  intro d3 bm av
  replace E := oB E q bm av
  have r1 := CL EC E.1 rfl
  refine zG ?_
  exact AQ (v := .tuple #[.agg #[.bool false, .slice none 0 0], .int .i64 3]) Yqr O (RetPa.form AA (IT e (by rw [<- k, aJ t a9 h1]; decide)) ⟨_, O, E.2.1, E.2.2.1⟩)
 have u : ∀ b, l[0]? = some b -> b.toNat = 48 -> ¬ 1 < l.length := fun _ _ _ => by rw [h1]; decide
 refine zG ?_
 refine V (v := .int .u8 ↑c2.toNat) Z O (DK (j := 0) O underlying9 O O O a8) ?_
 refine zG ?_
 refine V Z O (TQ (c := false) O O O (by rw [<- k, h1]; rfl)) ?_
 refine zG ?_
 refine EF O (QK O E ?_)
 intro dx b4 cp E
 replace q := q.below cp
 replace E := E.b q
 have al := E.2.1
 rw [show (0 : Nat) = CX ((IC l).take 0) by rw [List.take_zero, NS]] at al
 replace E := E.s al
 refine zG ?_
 refine wp_loop_ghost (fun mz a w' => ∃ (i : Nat) (vm : Value) (g3 g8 a7 a6 a5 a4 a3 a2 a1 a0 Y X U T S R Q P N L J I H G F D : Value), a = ⟨#[.string s, undef, .pointer (some ⟨b1, 0, none⟩), g3, .string s, .bool false, vm, .int .i64 ↑i, g8, .string s, .int .i64 ↑s.size, .bool false, undef, .string s, .string s, .int .i64 ↑s.size, .bool true, .bool true, .string s, .int .u8 ↑c.toNat, .bool false, .bool false, .bool false, undef, undef, .string s, .int .i64 ↑s.size, .bool false, .bool false, .string s, .int .u8 ↑c2.toNat, .bool true, .bool true, .string s, .bool false, .bool false, .bool false, undef, b4, a7, a6, a5, a4, a3, a2, a1, a0, Y, X, U, T, S, R, Q, P, N, L, J, I, H, G, F, D, undef, undef, undef], []⟩ /\ Env w' [fS vm (CD (CX ((IC l).take i))), fB b1 false (.slice none 0 0), fW w] /\ mz = l.length - i /\ (i <= l.length /\ ∀ j b, j < i -> l[j]? = some b -> 48 <= b.toNat /\ b.toNat <= 57)) (l.length) ⟨0, b4, _, _, _, _, _, _, _, _, _, _, _, _, _, _, _, _, _, _, _, _, _, _, _, _, _, _, O, zE, O, ⟨Nat.zero_le _, fun j b h => absurd h (Nat.not_lt_zero j)⟩⟩ ?_
 exact Za1
end Go.Proofs.YtmppigbbkjepiaaGreatDoor
