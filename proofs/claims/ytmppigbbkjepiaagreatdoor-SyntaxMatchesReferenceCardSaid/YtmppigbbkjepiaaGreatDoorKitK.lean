/- Helping facts of PText; no other conditions. Helping facts of KitK; no other conditions. -/
import Derived.Test.YtmppigbbkjepiaaGreatDoorKitJ
import Derived.Lib.AppendStr
import Derived.Lib.Builder
namespace Go.Proofs.YtmppigbbkjepiaaGreatDoor
open Go.Proofs.Tryz
open Go.RowKit W
variable {M : List Nat} {P : Program} {T b base n t : Nat} {c : Rat} {p q v : Value} {w : World}
theorem YB1 {p : Prop} (h : p := by rw [beq_eq_false_iff_ne]; intro hh; exact h0 (List.eq_nil_of_length_eq_zero AA)) : p := h
def rO (n : Nat) : SF := ⟨fun w => n <= w.heap.size, fun _ => True, fun h hb => Nat.le_trans h hb.size, fun h _ _ hb => by rw [hb.size]; exact h⟩
theorem Env.sz {L : List SF} (E : Env w L) (h : n <= w.heap.size) : Env w (rO n :: L) := ⟨h, E⟩
theorem CR (h : (rO n).p w) : n <= w.heap.size := h
theorem Acc.low {α : Type} {e : El α} {l : List α} (h : Acc e t base VH w v l) : IsR e (CX w.heap.size) w v l := h.row (fun _ g => g.elim) fun _ _ g _ => g
def qT (x : Rat) : Bs := (KD x).data.toList
theorem Qy (n : Bool) (s : Value) (m : Bool) (u : Value) (x : Rat) (w : World) (h1 : IsI w (.agg #[.bool n, s]) x.num) (h2 : IsI w (.agg #[.bool m, u]) ((x.den : Nat) : Int)) (h3 : FitQ x 1000000) :
 Calls prog 132 #[.agg #[.bool n, s, .bool m, u]] w (FI w (.string (bs (qT x)))) := by
 refine (C0 n s m u x w h1 h2 h3).mono ?_
 rintro e h ⟨rfl, f⟩
 exact ⟨by unfold qT; rw [Qn], f⟩
theorem Bg {x : Rat} (h : FitQ x 1000000) : (qT x).length <= 30000000 := by
 have k := cU h.1 AE
 have f := cU h.2 AE
 have e : (qT x).length = (KD x).size := rfl
 rw [e]; unfold KD
 split
 . omega
 rw [ByteArray.size_append, ByteArray.size_append]
 have : (⟨#[47]⟩ : ByteArray).size = 1 := rfl
 omega
theorem XW (n : Nat) : (txt ((n : Nat) : Int)).length <= n + 1 := by
 unfold txt
 rw [if_neg AA, List.nil_append]
 unfold XG
 rw [List.length_map, Int.natAbs_natCast]
 induction n using Nat.strongRecOn with
 | _ n ih =>
   by_cases h : n < 10
   . rw [PK n h]; simp
   rw [UT n AA, List.length_append]
   have := ih (n / 10) AA
   simp only [List.length_cons, List.length_nil]; omega
theorem rL : ∀ (l : List Bs) (x : Bs) (ns : List Nat), l.length < ns.length -> ER (l ++ [x]) ns = ER l ns ++ RI x (me ns l.length)
 | [], x, n :: ns, _ => by cases ns <;> simp [ER, me]
 | v :: l, x, n :: ns, h => by
   have h2 := rL l x ns (by simpa using h)
   simp only [List.cons_append, ER]
   rw [h2, List.append_assoc]; rfl
 | _, _, [], h => by simp at h
theorem SC {l : List Bs} {i : Nat} {x : Bs} (hM : EG M) (hl : l.length <= 8) (hx : l[i]? = some x) : ER (l.take (i + 1)) M = ER (l.take i) M ++ RI x (me M i) := by
 have f := (List.getElem?_eq_some_iff.1 hx).1
 have e : (l.take i).length = i := by rw [List.length_take]; omega
 rw [JG hx, rL _ _ _ (by rw [e, hM.1]; omega), e]
theorem rM (x : Bs) (h : n = 0) : RI x n = [] := by unfold RI; rw [if_pos h]
theorem nY (x : Bs) (h : n = 1) : RI x n = [x] := by subst h; rfl
theorem iH (x : Bs) (h : 1 < n) : RI x n = [x ++ 94 :: txt (n : Int)] := by unfold RI; rw [if_neg AA, if_neg AA]
theorem Pw (x : Bs) (n : Nat) : (RI x n).length <= 1 := by unfold RI; split <;> (try split) <;> simp
theorem eX : ∀ (l : List Bs) (M : List Nat), (ER l M).length <= l.length
 | [], M => by unfold ER; simp
 | _ :: _, [] => by unfold ER; simp
 | v :: l, n :: M => by
   have := eX l M; have := Pw v n
   simp only [ER, List.length_append, List.length_cons]; omega
theorem Va {x : Bs} {p : Bs} (h : p ∈ RI x n) : p.length <= x.length + n + 2 := by
 have := XW n
 unfold RI at h
 split at h
 . cases h
 split at h
 . simp at h; subst h; omega
 simp at h; subst h
 simp only [List.length_append, List.length_cons]; omega
theorem Fe : ∀ (l : List Bs) (M : List Nat) (p : Bs), (∀ v ∈ l, v.length <= 12) -> (∀ e ∈ M, e <= 65535) -> p ∈ ER l M -> p.length <= 65549
 | [], M, p, _, _, h => by unfold ER at h; simp at h
 | _ :: _, [], p, _, _, h => by unfold ER at h; simp at h
 | v :: l, n :: M, p, h1, h2, h => by
   simp only [ER, List.mem_append] at h
   rcases h with h | h
   . have := Va h; have := h1 v AH; have := h2 n AH; omega
   exact Fe l M p (fun u hu => h1 u (by simp [hu])) (fun e he => h2 e (by simp [he])) h
theorem Pc {b : UInt8} {l : List Bs} (h : ∀ p ∈ l, p.length <= n) : (jn b l).length <= l.length * (n + 1) := by
 refine Nat.le_trans (Pa b l) ?_
 induction l with
 | nil => simp
 | cons x l ih =>
   have := ih (fun p e => h p (by simp [e]))
   have := h x AH
   simp only [List.map_cons, List.sum_cons, List.length_cons, Nat.add_mul]
   omega
theorem Zf {k : Nat} {l : List Bs} (h : DL k l = true) : ∀ v ∈ l, v.length <= 12 := fun v hv => eM (FJ h v hv)
theorem lC {l : List Bs} (hV : DL 8 l = true) (hM : EG M) : (jn 42 (ER l M)).length <= 1000000 := by
 have k := Pc (b := 42) (fun p e => Fe l M p (Zf hV) hM.2 e)
 have h := eX l M
 have f := GR hV
 have : (ER l M).length * 65550 <= 8 * 65550 := Nat.mul_le_mul_right _ AA
 omega
theorem nE {l : List Bs} (hV : DL 8 l = true) (hM : EG M) (hc : FitQ c 1000000) : (jn 42 (qT c :: ER l M)).length <= 31000002 := by
 have f := lC hV hM
 have e := Bg hc
 by_cases h : ER l M = []
 . rw [h]; simp only [jn]; omega
 rw [IP 42 _ h]
 simp only [List.length_append, List.length_cons]; omega
theorem VA {l : List Bs} (hV : DL 8 l = true) (hM : EG M) (hc : FitQ c 1000000) : (ET l c M).length <= 31000002 := by
 unfold ET
 split
 . exact nE hV hM hc
 have := lC hV hM; omega
theorem OV {a b : Bs} (h : a = b) : Ending.returned (.string (bs a)) = .returned (.string (bs b)) := by rw [h]
theorem lY {l : List Bs} (h : ER l M = [] ∨ c ≠ 1) : jn 42 (qT c :: ER l M) = ET l c M := by unfold ET; rw [if_pos h]; rfl
theorem vK {l : List Bs} (h : ER l M ≠ []) (hc : c = 1) : jn 42 (ER l M) = ET l c M := by unfold ET; rw [if_neg]; rintro (g | g); exact h g; exact g hc
set_option maxRecDepth 100000 in
set_option maxHeartbeats 8000000 in
theorem MD (na : Bool) (sa : Value) (ma : Bool) (ua : Value) (c : Rat) (mm : List Nat) (vl : Value) (l : List Bs) (w : World) (hna : IsI w (.agg #[.bool na, sa]) c.num) (hda : IsI w (.agg #[.bool ma, ua]) ((c.den : Nat) : Int)) (hmm : EG mm) (hRl : IsR elS (CX w.heap.size) w vl l) (hF : FitQ c 1000000) (hV : DL 8 l = true) (hG : Glob w) :
 Calls prog 84 #[.agg (IJ na sa ma ua mm).toArray, vl] w (FI w (.string (bs (ET l c mm)))) := by
 have E := Env.start w
 replace E := (E.i hna).i hda
 obtain ⟨R, u, rfl, bx, bw⟩ := hRl.shp
 replace E := E.r hRl (DF _)
 have P := GR hV
 have c1 := hG.two
 replace E := E.gl hG
 go_enter func84, ntmps84
 refine yG ?_
 refine EF O (CI (cs := (IJ na sa ma ua mm)) O O ?_)
 intro b1 w1 ak z1 d1 x1
 have l1 : w.heap.size <= b1 := by rw [ak]; exact (e4 E).size
 replace E := E.below d1
 replace E := E.x x1
 obtain ⟨t, F⟩ : ∃ n, n = w1.heap.size := ⟨_, rfl⟩
 have aa : b1 < t := by rw [F]; exact Bx.lt E.1
 replace E := (E.sz (Nat.le_of_eq F)).a (Acc.nil elS 9 t VH _) (QL _)
 refine yG ?_
 refine wp_loop_ghost (fun mz a w' => ∃ (i : Nat) (I : Value) (y : List Bs) (C : List Value), C = a.tmps.toList /\ a = ⟨(.agg (IJ na sa ma ua mm).toArray :: .slice R l.length u :: .pointer (some ⟨b1, 0, none⟩) :: undef :: .string (bs ([])) :: I :: gr C 6 3 (.slice R l.length u :: .int .i64 ↑l.length :: .int .i64 ↑i :: gr C 12 45 [])).toArray, []⟩ /\ Env w' [fA elS 9 t VH I y, rO t, fX b1 (88) (IJ na sa ma ua mm), fGl, fR elS (CX w.heap.size) (.slice R l.length u) l, fI (.agg #[.bool ma, ua]) ((c.den : Nat) : Int), fI (.agg #[.bool na, sa]) c.num, fW w] /\ mz = l.length - i /\ (i <= l.length /\ y = ER (l.take i) mm /\ (y = [] -> I = .slice none 0 0))) (l.length) ⟨0, (.slice none 0 0), [], _, O, O, zE, O, ⟨Nat.zero_le _, by simp [ER], fun _ => rfl⟩⟩ ?_
 rintro m3 _ w3 ⟨i, I, y, C, -, rfl, E, N, a2⟩
 dsimp only [gr, Nat.reduceAdd]
 obtain ⟨a2, T⟩ := a2
 by_cases hi : i < l.length
 case pos =>
  obtain ⟨D, f⟩ : ∃ x, l[i]? = some x := ⟨_, List.getElem?_eq_getElem hi⟩
  obtain ⟨U, bp, _, Q, Y, aj, af⟩ := IsR.at (e4 E).1 f
  obtain rfl := (show _ = [Value.string (bs D)] from af)
  have ai : U < _ := (e4 E).2 _ Y
  replace E := E.c aj ai
  have c0 : U < w.heap.size := Y
  have ax : D.length <= 12 := Zf hV _ (List.mem_of_getElem? f)
  have hm := qZ hmm i
  have bv := XW (me mm i)
  have z : y.length <= 8 := by rw [T.1]; exact Nat.le_trans (eX _ _) (by rw [List.length_take]; omega)
  by_cases h1 : ((me mm i : Nat) : Int) = 1
  case pos =>
   refine yG ?_
   refine fY O O Q O (List.getElem?_eq_some_iff.1 f).1 ?_
   refine yG ?_
   refine V O O (CP O CW O (e3 E) (Ah hmm AA)) ?_
   refine yG ?_
   refine EF O (JX (s := (bs D)) O O ?_)
   intro b5 w5 c3 z5 d5 x5
   have L : (I : Value).ownBlock ≠ some b5 := fun h => by have := (Acc.lt E.2.1.1 h).2; omega
   replace E := E.below d5
   replace E := E.x x5
   have a4 := E.2.2.1
   refine yG ?_
   replace E := kB E
   refine EF O (EM (x := D) RT_S O (l := y) O a4.1 a4.2 E (fun g hg h1 h2 => ⟨CT (fun e => L (e ▸ hg)), QU AA, BX, CT AA, EP AA, DP (CJ AA), BX, BX, IK AA, BX⟩) O E.1 (O) (by have := z; unfold maxLen; omega) (by have := z; omega) (CR E.2.2.1) ?_)
   intro v6 w6 E
   refine yG ?_
   exact ⟨_, (by rw [N]; omega), (i + 1), v6, y ++ [D], _, O, O, zE, O, ⟨by omega, by rw [SC hmm P f, nY _ AA, T.1], fun h => by simp at h⟩⟩
  by_cases h2 : ((me mm i : Nat) : Int) > 1
  case neg =>
   refine yG ?_
   refine fY O O Q O (List.getElem?_eq_some_iff.1 f).1 ?_
   refine yG ?_
   refine V O O (CP O CW O (e3 E) (Ah hmm AA)) ?_
   refine yG ?_
   exact ⟨_, (by rw [N]; omega), (i + 1), I, y, _, O, O, zE, O, ⟨by omega, by rw [SC hmm P f, rM _ AA, T.1]; simp, T.2⟩⟩
  refine yG ?_
  refine fY O O Q O (List.getElem?_eq_some_iff.1 f).1 ?_
  refine yG ?_
  refine V O O (CP O CW O (e3 E) (Ah hmm AA)) ?_
  refine yG ?_
  refine EF O (BZ JO O (iO (me mm i) _ AA (e4 E).1) O E ?_)
  intro w7 d7 E
  refine yG ?_
  refine EF O (JX (s := (bs ((D ++ ([94])) ++ (txt ((me mm i : Nat) : Int))))) O O ?_)
  intro b8 w8 c2 z8 d8 x8
  have J : (I : Value).ownBlock ≠ some b8 := fun h => by have := (Acc.lt E.2.1.1 h).2; omega
  replace E := E.below d8
  replace E := E.x x8
  have a3 := E.2.2.1
  refine yG ?_
  replace E := kB E
  refine EF O (EM (x := (D ++ ([94])) ++ (txt ((me mm i : Nat) : Int))) RT_S O (l := y) O a3.1 a3.2 E (fun g hg h1 h2 => ⟨CT (fun e => J (e ▸ hg)), QU AA, BX, CT AA, EP AA, DP (CJ AA), BX, BX, IK AA, BX⟩) O E.1 (O) (by have := z; unfold maxLen; omega) (by have := z; omega) (CR E.2.2.1) ?_)
  intro v9 w9 E
  refine yG ?_
  exact ⟨_, (by rw [N]; omega), (i + 1), v9, y ++ [(D ++ ([94])) ++ (txt ((me mm i : Nat) : Int))], _, O, O, zE, O, ⟨by omega, by rw [SC hmm P f, iH _ AA, T.1]; simp, fun h => by simp at h⟩⟩
 obtain ⟨a1, a0⟩ := T
 rw [GQ hi] at a1
 subst a1
 have X := eX l mm
 obtain ⟨H, v, rfl⟩ := Acc.shp E.1.1
 by_cases h0 : ER l mm = []
 case pos =>
  refine yG ?_
  refine sE E [0,1,2,3,4,5,6,7,8,9] ?_
  replace E := E.drew
  refine yG ?_
  refine SW O O O O O (fun w G => EU (c := true) O O O (by rw [h0]; rfl)) ?_
  refine yG ?_
  refine V O O (CD GP O O (Cs.sub (Bx.cs E.2.2.1) 0 (EI _ _ _ _ _)) O) ?_
  refine yG ?_
  refine EF O (BZ VG O (Qy _ _ _ _ c _ (e6 E) (e5 E) (FitQ.mono hF AE)) O E ?_)
  intro bi cc E
  refine yG ?_
  refine EF O (JX (s := (bs (qT c))) O O ?_)
  intro ao bh az b4 am ac
  have q : ((.slice H (ER l mm).length v) : Value).ownBlock ≠ some ao := fun h => by have := (Acc.lt E.1.1 h).2; omega
  replace E := E.below am
  replace E := E.x ac
  have a7 := E.2.1
  refine yG ?_
  replace E := XS E
  refine EF O (ZK (x := qT c) O O O a7.1 a0 E (fun g hg h1 h2 => ⟨CT (fun e => q (e ▸ hg)), BX, CT AA, EP AA, DP (CJ AA), BX, BX, IK AA, BX⟩) O E.1 q (by have := X; omega) (CR E.2.1) ?_)
  intro bk ae a9 b3 E
  obtain ⟨aw, au, rfl, ah, _⟩ := a9.shp
  replace E := E.r (e := elS) (S := EY t ae.heap.size) a9 (fun _ g => g.2)
  refine yG ?_
  refine EF O (BZ NW O (uY _ ((qT c) :: ER l mm) 42 _ (BW E.1) (Nat.le_trans (nE hV hmm hF) AE) (by rw [List.length_cons]; omega)) O E ?_)
  intro bg cb E
  refine yG ?_
  exact ⟨OV (lY (.inl h0)), e8 E⟩
 by_cases B : c = ((1 : Int) : Rat)
 case pos =>
  refine yG ?_
  refine sE E [0,1,2,3,4,5,6,7,8,9] ?_
  replace E := E.drew
  refine yG ?_
  refine SW O O O O O (fun w G => EU (c := false) O O O YB1) ?_
  refine yG ?_
  refine SW O O O Z O (fun w G => CD GP O O (Cs.sub (Bx.cs (G.2.2.1)) 0 (EI _ _ _ _ _)) O) ?_
  refine yG ?_
  refine GZ (o := ⟨some 45, _, _, _, _, _⟩) O O O O (CV PD O (uM 1 _ AE AE) O E ?_)
  intro bf br bo bu bm ca E
  refine ⟨E.2.2, ?_⟩
  have aq : FitQ ((1 : Int) : Rat) 4 := IA (k := 4) AE (DY AE AE)
  refine yG ?_
  refine GZ (o := ⟨some 46, _, _, _, _, _⟩) O O O O (CE WZ O (Xq _ _ _ _ c _ _ _ _ ((1 : Int) : Rat) _ (e8 E) (e7 E) E.2.1 E.1 (FitQ.mono hF AE) (FitQ.mono aq AE)) O E ?_)
  intro bd c9 E
  refine ⟨E.2.2, ?_⟩
  refine yG ?_
  refine SW O O O Z O (fun w G => VW (c := false) O O O (by rw [bne, oH B]; rfl)) ?_
  refine yG ?_
  refine EF O (BZ NW O (uY _ (ER l mm) 42 _ (Acc.low E.2.2.1.1) (Nat.le_trans (lC hV hmm) AE) AA) O E ?_)
  intro bc c8 E
  refine yG ?_
  exact ⟨OV (vK h0 B), e9 E⟩
 refine yG ?_
 refine sE E [0,1,2,3,4,5,6,7,8,9] ?_
 replace E := E.drew
 refine yG ?_
 refine SW O O O O O (fun w G => EU (c := false) O O O YB1) ?_
 refine yG ?_
 refine SW O O O Z O (fun w G => CD GP O O (Cs.sub (Bx.cs (G.2.2.1)) 0 (EI _ _ _ _ _)) O) ?_
 refine yG ?_
 refine GZ (o := ⟨some 45, _, _, _, _, _⟩) O O O O (CV PD O (uM 1 _ AE AE) O E ?_)
 intro bb bq bn bt bl c7 E
 refine ⟨E.2.2, ?_⟩
 have ap : FitQ ((1 : Int) : Rat) 4 := IA (k := 4) AE (DY AE AE)
 refine yG ?_
 refine GZ (o := ⟨some 46, _, _, _, _, _⟩) O O O O (CE WZ O (Xq _ _ _ _ c _ _ _ _ ((1 : Int) : Rat) _ (e8 E) (e7 E) E.2.1 E.1 (FitQ.mono hF AE) (FitQ.mono ap AE)) O E ?_)
 intro ba c6 E
 refine ⟨E.2.2, ?_⟩
 refine yG ?_
 refine SW O O O Z O (fun w G => VW (c := true) O O O (by rw [bne, oG B]; rfl)) ?_
 refine yG ?_
 refine V O O (CD GP O O (Cs.sub (Bx.cs (e4 E)) 0 (EI _ _ _ _ _)) O) ?_
 refine yG ?_
 refine EF O (BZ VG O (Qy _ _ _ _ c _ (e8 E) (e7 E) (FitQ.mono hF AE)) O E ?_)
 intro b9 c5 E
 refine yG ?_
 refine EF O (JX (s := (bs (qT c))) O O ?_)
 intro an b7 ay b2 al ab
 have p : ((.slice H (ER l mm).length v) : Value).ownBlock ≠ some an := fun h => by have := (Acc.lt E.2.2.1.1 h).2; omega
 replace E := E.below al
 replace E := E.x ab
 have a6 := e3 E
 refine yG ?_
 replace E := Fk E
 refine EF O (ZK (x := qT c) O O O a6.1 a0 E (fun g hg h1 h2 => ⟨CT (fun e => p (e ▸ hg)), BX, BX, BX, CT AA, EP AA, DP (CJ AA), BX, BX, IK AA, BX⟩) O E.1 p (by have := X; omega) (CR (e3 E)) ?_)
 intro bj ad a8 b0 E
 obtain ⟨av, ar, rfl, ag, _⟩ := a8.shp
 replace E := E.r (e := elS) (S := EY t ad.heap.size) a8 (fun _ g => g.2)
 refine yG ?_
 refine EF O (BZ NW O (uY _ ((qT c) :: ER l mm) 42 _ (BW E.1) (Nat.le_trans (nE hV hmm hF) AE) (by rw [List.length_cons]; omega)) O E ?_)
 intro b6 c4 E
 refine yG ?_
 exact ⟨OV (lY (.inr B)), RA E⟩
set_option maxHeartbeats 2000000
set_option maxRecDepth 100000
theorem Rm (s : ByteArray) : ∀ u ∈ Lib.strCells s, Gn u := by
 intro u f k e
 subst e
 simp only [Lib.strCells, List.mem_map] at f
 obtain ⟨b, _, h⟩ := f
 cases h
theorem Gn_u8 (n : Nat) : ∀ u ∈ (Builtin.zeroCells (Value.int .u8 0).cells n).toList, Gn u := by
 intro u f k e
 subst e
 unfold Builtin.zeroCells at f
 simp only [Array.toList_map, List.mem_map] at f
 obtain ⟨j, _, h⟩ := f
 have : (Value.int .u8 0).cells = #[.int .u8 0] := rfl
 rw [this] at h
 simp [Nat.mod_one] at h
theorem sS (base : Nat) (t u ty e : TypeId) (i : TypeInfo) (ht : P.underlying t = some (.slice e)) (hu : P.underlying u = some .string) (hi : P.info? e = some i) (hz : i.zero = some (.int .u8 0))
 (hsize : i.size = 1) (hby : i.bytes = 1) (v : Value) (n : Nat) (xs : List Value) (hown : RowG w base e 1 Gn v n xs) (s : ByteArray)
 (h63 : n + s.size <= maxLen) (hbytes : n + s.size <= 140737488355328) (hbase : base <= w.heap.size) :
 ∃ v' w', (Builtin.append_ #[t, u] ty #[v, .string s]).run P w = .ok v' w' /\ RowG w' base e 1 Gn v' (n + s.size) (xs ++ Lib.strCells s) /\
  ((Below w.heap.size w w' /\ (v'.ownBlock = some w.heap.size ∨ v' = .slice none 0 0)) ∨ (∃ g, v.ownBlock = some g /\ v'.ownBlock = some g /\ Onl g w w')) := by
 have H : n + s.size <= 9223372036854775807 := by simp only [maxLen] at h63; omega
 have q : xs.length = n := by simpa using hown.1
 have h : (xs ++ Lib.strCells s).length = (n + s.size) * 1 := by rw [List.length_append, q, Lib.strCells_length, Nat.mul_one]
 have B : ∀ o : Obj, Below w.heap.size w (w.drew.alloc o) := fun o => ((Below.refl _ _).drew).alloc (Nat.le_refl _) o
 have grown : ∀ (f : Nat), f < n + s.size -> (∀ u ∈ xs, Gn u) ->
  RowG (w.drew.alloc (.cells (xs.toArray ++ (Lib.strCells s).toArray ++ Builtin.zeroCells (Value.int .u8 0).cells (grownCap w (n + s.size) f e - (n + s.size))) e)) base e 1 Gn
   (.slice (some ⟨w.heap.size, 0, none⟩) (n + s.size) (grownCap w (n + s.size) f e)) (n + s.size) (xs ++ Lib.strCells s) := by
  intro f ho S
  have N := grownCap_ge w (n + s.size) f e
  have D : grownCap w (n + s.size) f e <= maxLen := grownCap_le_maxLen w (n + s.size) f e h63
  refine ⟨h, .inr ⟨w.heap.size, _, _, O, hbase, heap_alloc_new w.drew _, N, D, ?_, ?_, ?_⟩⟩
  . have J : (Value.int IntKind.u8 0).cells.size = 1 := rfl
    simp only [Array.size_append, List.size_toArray, size_zeroCells, J, q, Lib.strCells_length]
    omega
  . simp only [Array.toList_append, List.append_assoc]
    rw [<- List.append_assoc, <- h]
    exact List.take_left
  intro u hu
  simp only [Array.toList_append, List.mem_append] at hu
  rcases hu with (hu | hu) | hu
  . exact S u hu
  . exact Rm s u hu
  exact Gn_u8 _ u hu
 rcases hown.2 with ⟨rfl, rfl⟩ | ⟨g, k, z, rfl, R, hg, Y, D, Q, l, F⟩
 . have X : xs = [] := List.eq_nil_of_length_eq_zero q
   subst X
   by_cases I : s.size = 0
   . have hn : Lib.strCells s = [] := List.eq_nil_of_length_eq_zero (by rw [Lib.strCells_length]; exact I)
     refine ⟨.slice none 0 0, w, ?_, by rw [I, hn]; exact ZI w base e 1 Gn, .inl ⟨Below.refl _ _, .inr O⟩⟩
     have T := Lib.run_firstCells_string (P := P) w 1 s
     rw [I] at T
     simp [Builtin.append_, run_underlying ht, run_underlying hu, sizeOf, typeInfo, hi, hsize, Builtin.lenOf, I, T]
   have G := run_append_nil_string (P := P) w t u ty e i (.int .u8 0) ht hu hi hz s AA AA (by rw [hby]; omega)
   have y := grown 0 AA (by intro u hu; cases hu)
   simp only [Nat.zero_add, List.nil_append, Array.empty_append] at y ⊢
   have e1 : (s.data.map fun b => Value.int .u8 b.toNat) = (Lib.strCells s).toArray := by
    apply Array.ext'
    simp [Lib.strCells]
   rw [e1] at G
   exact ⟨_, _, G, y, .inl ⟨B _, .inl rfl⟩⟩
 by_cases p : n + s.size <= k
 . have U : z.size = k := by simpa using Q
   have G := Lib.run_append_room_string (P := P) w t u ty e i ht hu hi hsize g n k z hg s p AA
   refine ⟨_, _, G, ⟨h, .inr ⟨g, k, _, O, R, setRow_heap w g z _ e _ hg, p, D, ?_, ?_, ?_⟩⟩, .inr ⟨g, O, O, OD _ _ _⟩⟩
   . simp only [List.size_toArray, List.length_append, List.length_take, List.length_drop, Array.length_toList, Lib.strCells_length]
     omega
   . have L : z.toList.take n = xs := by simpa using l
     rw [L, <- h]
     exact List.take_left
   intro u hu
   simp only [List.mem_append] at hu
   rcases hu with (hu | hu) | hu
   . exact F u (List.mem_of_mem_take hu)
   . exact Rm s u hu
   exact F u (List.mem_of_mem_drop hu)
 have C : ∀ j u, xs[j]? = some u -> w.cell? ((⟨g, 0, none⟩ : Addr).add j) = some u := hown.own.cells (g := g) rfl
 have G := Lib.run_append_grow_string (P := P) w t u ty e i (.int .u8 0) ht hu hi hz ⟨g, 0, none⟩ n k xs (by rw [hsize]; simpa using q) C s AA AA (by rw [hby]; exact growslice_fits AA AA)
 have y := grown k AA (fun u hu => F u (by rw [<- l] at hu; exact List.mem_of_mem_take hu))
 exact ⟨_, _, G, y, .inl ⟨B _, .inl rfl⟩⟩
theorem jM {ops : Array Oper} {rest : List Oper} {o : Oper} {a : Act} {Q : Exit -> Act -> World -> Prop} (hgd : o.guard = none) (sl x : Operand) (t u : TypeId)
 (ho : o.op = .call { callee := .builtin .append, args := #[sl, x], argTypes := #[t, u] })
 (base : Nat) (e : TypeId) (i : TypeInfo) (ht : P.underlying t = some (.slice e)) (hu : P.underlying u = some .string) (hi : P.info? e = some i) (hz : i.zero = some (.int .u8 0))
 (hsize : i.size = 1) (hby : i.bytes = 1)
 (v : Value) (n : Nat) (xs : List Value) (hs : a.eval sl = v) (hown : RowG w base e 1 Gn v n xs) (s : ByteArray) (hx : a.eval x = .string s)
 (h63 : n + s.size <= maxLen) (hbytes : n + s.size <= 140737488355328) (hbase : base <= w.heap.size)
 (h : ∀ v' w', RowG w' base e 1 Gn v' (n + s.size) (xs ++ Lib.strCells s) -> ((Below w.heap.size w w' /\ (v'.ownBlock = some w.heap.size ∨ v' = .slice none 0 0)) ∨ (∃ g, v.ownBlock = some g /\ v'.ownBlock = some g /\ Onl g w w')) -> wpList P ops Q rest (a.put o.dst v') w') : wpList P ops Q (o :: rest) a w := by
 refine wpList_plain hgd fun K k => ?_
 obtain ⟨v', w', f, p, l⟩ := sS (P := P) base t u o.type e i ht hu hi hz hsize hby v n xs hown s h63 hbytes hbase
 unfold Oper.wp execOp
 simp only [ho, resolve, invoke, builtin, Sem.run_bind, Sem.run_pure, Result.andThen_ok, List.map_toArray, List.map_cons, List.map_nil, hs, hx, f]
 exact k _ _ (h v' w' p l)
abbrev bD : Nat := 105
theorem szB : (prog.info? bD).map (·.size) = some 2 := by kernel_rfl
theorem liesB : liesAt prog prog.depth bD (2 / prog.cellsOf bD) 0 bD 1 = true := by kernel_rfl
theorem u8B : (prog.info? 5).map (fun i => (i.zero, i.size, i.bytes)) = some (some (.int .u8 0), 1, 1) := by kernel_rfl
theorem oF (b : Nat) (w : World) (h0 : w.cell? ⟨b, 0, none⟩ = some (.pointer (some ⟨b, 0, none⟩))) :
 Calls prog 96 #[.pointer (some ⟨b, 0, none⟩)] w fun e w' => e = .returned (.tuple #[]) /\ w' = w := by
 obtain ⟨j, f, _⟩ := Option.map_eq_some_iff.1 szB
 go_enter func96, ntmps96
 go_wp2
 rw [Lib.run_neq_ptr_same w _ underlying103 f]
 go_wp2
 go_end0
 exact ⟨rfl, rfl⟩
theorem kC (b : Nat) (w : World) (h0 : w.cell? ⟨b, 0, none⟩ = some (.pointer none)) (hsh : w.shape? b = some (bD, 2)) (hfz : w.frozen? ⟨b, 0, none⟩ = false) :
 Calls prog 96 #[.pointer (some ⟨b, 0, none⟩)] w fun e w' => e = .returned (.tuple #[]) /\ w' = w.setCell ⟨b, 0, none⟩ (.pointer (some ⟨b, 0, none⟩)) := by
 obtain ⟨j, h, f⟩ := Option.map_eq_some_iff.1 szB
 go_enter func96, ntmps96
 go_wp2
 rw [Lib.run_to_unsafe w ⟨b, 0, none⟩ underlying103 underlying181 h (by rw [f]; decide) hsh (Nat.zero_lt_succ 1)]
 simp only [Result.andThen]
 rw [Oper.upon_value]
 go_wp2
 rw [run_callFunc_extern func143 Z Z Z (e := Extern.AbiNoEscape.same) Z]
 rw [Lib.run_noEscape]
 simp only [Result.andThen]
 rw [Oper.upon_value]
 go_wp2
 rw [Lib.run_from_unsafe w ⟨b, 0, none⟩ underlying181 underlying103 h hsh liesB]
 simp only [Result.andThen]
 rw [Oper.upon_value]
 go_wp2
 go_end0
 exact ⟨rfl, rfl⟩
def elB : El UInt8 where
 sz := 1
 p := fun _ _ cs x => cs = [.int .u8 x.toNat]
 keep := fun h _ => h
 mono := fun h _ => h
 len := fun h => by subst h; rfl
 one := fun h => by subst h; intro v hv; simp at hv; subst hv; rfl
 nw := fun h => by subst h; intro c hc k e; subst e; simp at hc
def zW (l : Bs) : List Value := l.map fun b => Value.int .u8 b.toNat
theorem Wb (s : Bs) : Lib.strCells (bs s) = zW s := by unfold Lib.strCells zW; rw [FW]
theorem Wc (a b : Bs) : zW (a ++ b) = zW a ++ zW b := List.map_append
theorem Gd (a : Bs) : (zW a).length = a.length := List.length_map _
theorem Gp {l : Bs} (h : Acc elB t base VH w v l) : RowG w base t 1 Gn v l.length (zW l) := by
 obtain ⟨e, o, q, _⟩ := h
 have u : e.length = l.length := by have := o.1; rw [show elB.sz = 1 from rfl, Nat.mul_one] at this; exact this
 have : e = zW l := by
  refine List.ext_getElem? fun i => ?_
  by_cases k : i < l.length
  . have p : (e.drop (i * 1)).take 1 = [.int .u8 (l[i]).toNat] := q i l[i] (List.getElem?_eq_getElem k)
    have f := congrArg (fun c : List Value => c[0]?) p
    simp only [List.getElem?_take, List.getElem?_drop, Nat.mul_one, Nat.add_zero, List.getElem?_cons_zero] at f
    rw [if_pos AE] at f
    rw [f]
    unfold zW
    rw [List.getElem?_map, List.getElem?_eq_getElem k]; rfl
  rw [List.getElem?_eq_none AA, List.getElem?_eq_none (by rw [Gd]; omega)]
 rw [<- this]; exact o
theorem Cz {l : Bs} (h : RowG w base t 1 Gn v l.length (zW l)) : Acc elB t base VH w v l := by
 refine ⟨zW l, h, fun i x e => ?_, fun _ _ h => h⟩
 show ((zW l).drop (i * 1)).take 1 = [.int .u8 x.toNat]
 have f := (List.getElem?_eq_some_iff.1 e).1
 rw [Nat.mul_one]
 have k : (zW l).drop i = .int .u8 x.toNat :: (zW l).drop (i + 1) := by
  rw [List.drop_eq_getElem_cons (by rw [Gd]; exact f)]
  congr 1
  unfold zW
  rw [List.getElem_map, (List.getElem?_eq_some_iff.1 e).2]
 rw [k]; rfl
theorem Zh : bD ≠ 5 := by decide
theorem Ba {e : Nat} {xs : List Value} {cs : List Value} (h : RowG w base e 1 Gn v n xs) (hb : Bx w b T cs) (hT : T ≠ e) : v.ownBlock ≠ some b := Lib.ownBlock_ne h.own hb hT
theorem dQ (w : World) (b o : Nat) (v : Value) : Onl b w (w.setCell ⟨b, o, none⟩ v) := jA w b o v
theorem Vy (h : Bx w b T [p, v]) : Bx (w.setCell ⟨b, 0, none⟩ q) b T [q, v] := by
 unfold Bx at *
 simp [World.setCell, Array.getElem?_modify, h]
theorem Vx (h : Bx w b T [p, v]) : Bx (w.setCell ⟨b, 1, none⟩ q) b T [p, q] := by
 unfold Bx at *
 simp [World.setCell, Array.getElem?_modify, h]
def Wrote (base b : Nat) (v : Value) (l : Bs) (w w' : World) : Prop :=
 ∃ v', Bx w' b bD [.pointer (some ⟨b, 0, none⟩), v'] /\ Acc elB 5 base VH w' v' l /\ w.heap.size <= w'.heap.size /\ (∀ c, c < w.heap.size -> v.ownBlock ≠ some c -> v'.ownBlock ≠ some c) /\
  ∀ L, Env w L -> Ok b L -> (∀ g, v.ownBlock = some g -> base <= g -> g < w.heap.size -> Ok g L) -> Env w' L
theorem yJ (b : Nat) (p v : Value) (w : World) (hb : Bx w b bD [p, v]) (hp : p = .pointer none ∨ p = .pointer (some ⟨b, 0, none⟩)) :
 Calls prog 96 #[.pointer (some ⟨b, 0, none⟩)] w fun e w' => e = .returned (.tuple #[]) /\ Bx w' b bD [.pointer (some ⟨b, 0, none⟩), v] /\ (w' = w ∨ Onl b w w') := by
 rcases hp with rfl | rfl
 . refine (kC b w (by rw [hb.cell]; rfl) (by unfold World.shape?; rw [show w.heap[b]? = _ from hb]; rfl) (Lib.frozen_of_heap hb 0)).mono ?_
   rintro e w' ⟨rfl, rfl⟩
   exact ⟨rfl, Vy hb, .inr (dQ _ _ _ _)⟩
 refine (oF b w (by rw [hb.cell]; rfl)).mono ?_
 rintro e w' ⟨rfl, rfl⟩
 exact ⟨rfl, hb, .inl rfl⟩
theorem now2 (hp : p = .pointer none ∨ ∃ a, p = .pointer (some a)) (hv : ∃ ao n cap, v = .slice ao n cap) : TU [p, v] := by
 obtain ⟨ao, n, cap, rfl⟩ := hv
 intro c f k e
 subst e
 rcases hp with rfl | ⟨a, rfl⟩ <;> simp at f
theorem pS (b base : Nat) (p v : Value) (l s : Bs) (w : World) (hb : Bx w b bD [p, v]) (hA : Acc elB 5 base VH w v l) (hp : p = .pointer none ∨ p = .pointer (some ⟨b, 0, none⟩)) (hlen : l.length + s.length <= 140737488355328) (hbase : base <= w.heap.size) :
 Calls prog 48 #[.pointer (some ⟨b, 0, none⟩), .string (bs s)] w fun e w' => e = .returned (.tuple #[.int .i64 ↑s.length, .nilIface]) /\ Wrote base b v (l ++ s) w w' := by
 obtain ⟨i0, hi, z⟩ := Option.map_eq_some_iff.1 u8B
 simp only [Prod.mk.injEq] at z
 obtain ⟨z, S, R⟩ := z
 have I : ∃ C n k, v = .slice C n k := by obtain ⟨C, k, e⟩ := hA.shp; exact ⟨C, _, k, e⟩
 have T : zX w b := hb.noW (now2 (hp.elim .inl fun e => .inr ⟨_, e⟩) I)
 have t := Gp hA
 have P := Ba t hb Zh
 go_enter func48, ntmps48
 go_wp2_with (go_at_call 96; refine (yJ b p v _ hb hp).mono ?_)
 rintro e H ⟨rfl, G, F⟩
 have B : H.heap.size = w.heap.size := by rcases F with rfl | h; rfl; exact h.size
 have o : RowG H base 5 1 Gn v l.length (zW l) := by rcases F with rfl | h; exact t; exact t.onl P h
 have c1 : H.cell? ⟨b, 1, none⟩ = some v := by rw [G.cell]; rfl
 go_wp2_with (at_builtin; refine jM rfl _ _ 42 9 rfl base 5 i0 underlying42 underlying9 hi z S R _ _ _ rfl o (bs s) rfl ?c3 ?c4 ?c5 ?_)
 case c3 => rw [GA]; unfold maxLen; omega
 case c4 => rw [GA]; omega
 case c5 => omega
 intro v' D q f
 have y : Bx D b bD [.pointer (some ⟨b, 0, none⟩), v] := by
  rcases f with ⟨h, _⟩ | ⟨g, hg, _, h⟩
  . exact G.below (by rw [B]; exact h)
  exact G.onl (fun e => P (by rw [hg, e])) h
 have d1 : D.cell? ⟨b, 1, none⟩ = some v := by rw [y.cell]; rfl
 have f1 : D.frozen? ⟨b, 1, none⟩ = false := Lib.frozen_of_heap y 1
 obtain ⟨C, Q, k, rfl⟩ : ∃ C Q k, v' = .slice C Q k := by
  rcases q.2 with ⟨J, _⟩ | ⟨g, k, a0, J, _⟩
  . exact ⟨_, _, _, J⟩
  exact ⟨_, _, _, J⟩
 have X : H.heap.size <= D.heap.size := by
  rcases f with ⟨h, _⟩ | ⟨g, hg, _, h⟩
  . exact h.size
  exact Nat.le_of_eq h.size.symm
 go_wp2
 go_ret2
 refine ⟨by rw [GA]; rfl, _, Vx y, ?_, ?_, ?_, ?_⟩
 . refine Cz ?_
   have N := Ba q y Zh
   have := q.onl N (dQ D b 1 (.slice C Q k))
   rw [GA, Wb, <- Wc] at this
   rw [List.length_append]; exact this
 . rw [(dQ D b 1 (.slice C Q k)).size]; omega
 . intro c hc J
   rcases f with ⟨_, h | h⟩ | ⟨g, u, U, _⟩
   . rw [h]; simp only [ne_eq, Option.some.injEq]; omega
   . rw [h]; simp [Value.ownBlock]
   rw [U, <- u]; exact J
 intro L E Y hg
 have E1 : Env H L := by rcases F with rfl | h; exact E; exact E.onl T Y h
 have E2 : Env D L := by
  rcases f with ⟨h, _⟩ | ⟨g, u, _, h⟩
  . exact E1.below (by rw [B]; exact h)
  have := o.own.lt g u
  exact E1.onl (o.noW u rY) (hg g u this.1 AA) h
 exact E2.onl (y.noW (now2 (.inr ⟨_, rfl⟩) I)) Y (dQ _ _ _ _)
end Go.Proofs.YtmppigbbkjepiaaGreatDoor
