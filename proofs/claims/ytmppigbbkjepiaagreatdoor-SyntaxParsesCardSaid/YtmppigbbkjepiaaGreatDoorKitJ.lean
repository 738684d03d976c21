/- Helping facts of IsL; no other conditions. Helping facts of KitG; no other conditions. Helping facts of KitJ; no other conditions. -/
import Derived.Test.YtmppigbbkjepiaaGreatDoorSysV
import Derived.Lib.AppendIntMem
import Derived.Shelf.Spec.SlicesInsertGrow
namespace Go.Proofs.YtmppigbbkjepiaaGreatDoor
open Go.Proofs.Tryz
open Go.RowKit W
variable {L : List SF} {S : Nat -> Prop} {b : UInt8} {base t : Nat} {p : Prop} {v : Value} {w : World}
theorem Yzu (h : p := by rw [TP]; exact k) : p := h
theorem YJS (h : p := by simpa using f) : p := h
theorem JF : Fn prog 79 := ⟨_, func79, by kernel_rfl, rfl⟩
theorem FN : Fn prog 125 := ⟨_, func125, by kernel_rfl, rfl⟩
theorem JL : Fn prog 52 := ⟨_, func52, by kernel_rfl, rfl⟩
theorem KR : Fn prog 41 := ⟨_, func41, by kernel_rfl, rfl⟩
theorem KQ : Fn prog 148 := ⟨_, func148, by kernel_rfl, rfl⟩
theorem XR : Fn prog 87 := ⟨_, func87, by kernel_rfl, rfl⟩
theorem OQ : Fn prog 49 := ⟨_, func49, by kernel_rfl, rfl⟩
theorem KE : Fn prog 50 := ⟨_, func50, by kernel_rfl, rfl⟩
set_option maxRecDepth 100000 in
set_option maxHeartbeats 8000000 in
theorem aN (vl : Value) (l : List Bs) (w : World) (hRl : IsR elS (DL w.heap.size) w vl l) (hL : l.length <= 1000000) :
 Calls prog 36 #[vl] w (LN w (DM 8 l)) := by
 have E := Env.start w
 obtain ⟨o, f, rfl, a1, a0⟩ := hRl.shp
 replace E := E.r hRl (DZ _)
 go_enter func36, ntmps36
 by_cases hk : ((l.length : Nat) : Int) > 8
 . refine yG ?_
   exact ⟨DC (oD AA), E.2.1⟩
 refine yG ?_
 refine wp_loop_ghost (fun mz a X => ∃ (i : Nat) (p : List Value), p = a.tmps.toList /\ a = ⟨(.slice o l.length f :: gr p 1 4 (.slice o l.length f :: .int .i64 ↑l.length :: .bool false :: .slice o l.length f :: .int .i64 ↑l.length :: .int .i64 ↑i :: gr p 11 17 [])).toArray, []⟩ /\ Env X [fR elS (DL w.heap.size) (.slice o l.length f) l, fW w] /\ mz = l.length - i /\ (i <= l.length /\ gG l i)) (l.length) ⟨0, _, O, O, zE, O, ⟨Nat.zero_le _, dM l⟩⟩ ?_
 rintro m1 _ w1 ⟨i, p, -, rfl, E, D, u⟩
 dsimp only [gr, Nat.reduceAdd]
 obtain ⟨u, J⟩ := u
 by_cases I : i < l.length
 case neg =>
  refine yG ?_
  exact ⟨DC (uM J I AA), E.2.1⟩
 obtain ⟨k, h⟩ : ∃ x, l[i]? = some x := ⟨_, List.getElem?_eq_getElem I⟩
 obtain ⟨B, Y, _, q, H, G, C⟩ := IsR.at E.1.1 h
 obtain rfl := (show _ = [Value.string (bs k)] from C)
 have F : B < _ := E.1.2 _ H
 replace E := E.c G F
 by_cases t : PU k = true
 case neg =>
  refine yG ?_
  refine OL O O q O (List.getElem?_eq_some_iff.1 h).1 ?_
  refine yG ?_
  refine EF O (GZ (s := (bs k)) O O ?_)
  intro L w9 e9 z9 d9 Q
  replace E := E.below d9
  clear e9
  replace E := E.x Q
  refine yG ?_
  refine V (v := .agg #[.slice (some ⟨L, 0, none⟩) 1 1, .slice none 0 0, .slice none 0 0, .int .i64 1]) O O (RX O O O) ?_
  refine yG ?_
  refine EF O (CA IY O (CT ((tI k).trans (DY t)) (VH (.slice (some ⟨L, 0, none⟩) 1 1) ([k]) (.slice none 0 0) ([]) (.slice none 0 0) ([]) 1 _ (IsR.lit1 E.1 O) (IsR.nil _ _ _) (IsR.nil _ _ _) OJ OJ AH)) O E ?_)
  intro U a2 E
  refine yG ?_
  exact ⟨DC (oA h (DY t)), e3 E⟩
 by_cases y : k ∈ l.take i
 case pos =>
  refine yG ?_
  refine OL O O q O (List.getElem?_eq_some_iff.1 h).1 ?_
  refine yG ?_
  refine EF O (GZ (s := (bs k)) O O ?_)
  intro P w3 e3 z3 d3 T
  replace E := E.below d3
  clear e3
  replace E := E.x T
  refine yG ?_
  refine V (v := .agg #[.slice (some ⟨P, 0, none⟩) 1 1, .slice none 0 0, .slice none 0 0, .int .i64 1]) O O (RX O O O) ?_
  refine yG ?_
  refine EF O (CA IY O (CT ((tI k).trans t) (VH (.slice (some ⟨P, 0, none⟩) 1 1) ([k]) (.slice none 0 0) ([]) (.slice none 0 0) ([]) 1 _ (IsR.lit1 E.1 O) (IsR.nil _ _ _) (IsR.nil _ _ _) OJ OJ AH)) O E ?_)
  intro w4 d4 E
  refine yG ?_
  refine V (v := .slice o i f) Z O (RW (i := i) (sz := 1) O underlying30 Z O O O AA) ?_
  replace E := E.r (e := elS) (S := DL w.heap.size) (IsR.take E.2.2.1.1 AA) (E.2.2.1.2)
  refine yG ?_
  refine EF O (CA JF O (CT (decide_eq_true y) (qA _ (l.take i) k _ (BW E.1))) O E ?_)
  intro w5 d5 E
  refine yG ?_
  exact ⟨DC (uN h y), e4 E⟩
 refine yG ?_
 refine OL O O q O (List.getElem?_eq_some_iff.1 h).1 ?_
 refine yG ?_
 refine EF O (GZ (s := (bs k)) O O ?_)
 intro N w6 e6 z6 d6 R
 replace E := E.below d6
 clear e6
 replace E := E.x R
 refine yG ?_
 refine V (v := .agg #[.slice (some ⟨N, 0, none⟩) 1 1, .slice none 0 0, .slice none 0 0, .int .i64 1]) O O (RX O O O) ?_
 refine yG ?_
 refine EF O (CA IY O (CT ((tI k).trans t) (VH (.slice (some ⟨N, 0, none⟩) 1 1) ([k]) (.slice none 0 0) ([]) (.slice none 0 0) ([]) 1 _ (IsR.lit1 E.1 O) (IsR.nil _ _ _) (IsR.nil _ _ _) OJ OJ AH)) O E ?_)
 intro w7 d7 E
 refine yG ?_
 refine V (v := .slice o i f) Z O (RW (i := i) (sz := 1) O underlying30 Z O O O AA) ?_
 replace E := E.r (e := elS) (S := DL w.heap.size) (IsR.take E.2.2.1.1 AA) (E.2.2.1.2)
 refine yG ?_
 refine EF O (CA JF O (CT (decide_eq_false y) (qA _ (l.take i) k _ (BW E.1))) O E ?_)
 intro w8 d8 E
 refine yG ?_
 exact ⟨_, (by rw [D]; omega), (i + 1), _, O, O, zE, O, ⟨by omega, dN J h t y⟩⟩
structure Glob (w : World) : Prop where
 pow : Lib.TabIs prog w "internal/strconv.uint64pow10" .u64 Lib.pow10Tab
 max : ∃ m, w.cell? ⟨0, 0, none⟩ = some (.int .i64 m)
theorem aP : prog.globalNamed "internal/strconv.uint64pow10" = some 1 := by kernel_rfl
theorem Glob.two (h : Glob w) : 2 <= w.heap.size := by
 have f := h.pow
 unfold Lib.TabIs World.var? at f
 rw [aP] at f
 simp only [Option.bind_some] at f
 cases e : w.heap[1]? with
 | none => simp [e] at f
 | some o => exact (Array.getElem?_eq_some_iff.1 e).1
theorem Glob.keep {w' : World} (h : Glob w) (hk : Keep (DL 2) w w') : Glob w' := by
 refine ⟨?_, ?_⟩
 . have f := h.pow
   unfold Lib.TabIs World.var? at *
   rw [aP] at *
   simp only [Option.bind_some] at *
   rw [hk.block 1 (by show 1 < 2; decide)]; exact f
 obtain ⟨m, e⟩ := h.max
 exact ⟨m, (World.cell?_of_block (hk.block 0 (by show 0 < 2; decide))).trans e⟩
def fGl : SF := fD (DL 2) Glob (fun _ _ h hk => h.keep hk)
theorem Env.gl (E : Env w L) (h : Glob w) : Env w (fGl :: L) := ⟨⟨h, fun _ g => Nat.lt_of_lt_of_le g h.two⟩, E⟩
theorem LA {c : Nat} (h : 2 <= c) : fGl.ok c := CY h
theorem Wg (n : Nat) : Lib.decDigits n = ZQ (YF n) := by
 induction n using Nat.strongRecOn with
 | _ n ih =>
   rw [Lib.decDigits]
   by_cases h : n < 10
   . rw [dif_pos h, QC n h]; rfl
   rw [dif_neg h, ih (n / 10) AA, WX n AA]
   unfold ZQ
   rw [List.map_append]; rfl
theorem jN (n : Nat) (w : World) (hn : n <= 1000000000) (hG : Glob w) : Calls prog 50 #[.int .i64 ↑n] w (GY w (.string (bs (txt ((n : Nat) : Int))))) := by
 refine (Tryz.strconv_Itoa ((n : Nat) : Int) AA AA w hG.pow).mono ?_
 rintro e f ⟨rfl, k, h, rfl⟩
 refine ⟨?_, Lib.below_grow _ _ (Nat.le_refl _) _ _⟩
 unfold Lib.itoa txt bs
 rw [if_neg AA, if_neg AA, Wg]
 rfl
theorem sJ {s : Bs} (h : b ∉ s) : Lib.index s [b] = -1 := by
 rw [Lib.index_one]
 induction s with
 | nil => rfl
 | cons c s ih =>
   unfold Lib.indexByte
   have f : ¬ c = b := fun e => h (by simp [e])
   rw [if_neg YJS, ih (fun g => h (by simp [g]))]; rfl
theorem sH {x y : Bs} (h : b ∉ x) : Lib.index (x ++ b :: y) [b] = ((x.length : Nat) : Int) := by
 rw [Lib.index_one]
 induction x with
 | nil => simp [Lib.indexByte]
 | cons c x ih =>
   have k : ¬ c = b := fun e => h (by simp [e])
   have f := ih (fun g => h (by simp [g]))
   simp only [List.cons_append]
   unfold Lib.indexByte
   rw [if_neg (by simpa using k), f, if_neg AI]
   simp
theorem rL (b : UInt8) : ∀ (n : Nat) (s : Bs), s.length <= n -> Lib.splitB (bs [b]) 0 (Lib.countB (bs s) (bs [b])) (bs s) = (DI b s).map bs
 | n, s, hn => by
   cases hc : KY b s with
   | none =>
     have h := cutB_none.1 hc
     have hi : Lib.indexB (bs s) (bs [b]) = -1 := by unfold Lib.indexB; rw [FO, FO]; exact sJ h
     rw [Lib.splitB_miss _ _ _ _ hi, PO b h]; rfl
   | some p =>
     obtain ⟨x, y⟩ := p
     obtain ⟨rfl, h⟩ := cutB_some.1 hc
     have hi : Lib.indexB (bs (x ++ b :: y)) (bs [b]) = ((x.length : Nat) : Int) := by unfold Lib.indexB; rw [FO, FO]; exact sH h
     have hsz : (bs [b]).size = 1 := ES _
     have he : (bs (x ++ b :: y)).extract (x.length + (bs [b]).size) (bs (x ++ b :: y)).size = bs y := by
      rw [tA, hsz, ES, List.take_of_length_le (Nat.le_refl _)]
      congr 1
      rw [show x.length + 1 = (x ++ [b]).length by simp, show x ++ b :: y = (x ++ [b]) ++ y by simp, List.drop_left]
     cases n with
     | zero => simp at hn
     | succ n =>
       rw [Lib.countB_hit _ _ x.length (by rw [hsz]; decide) hi, Nat.add_comm, Lib.splitB_hit _ _ _ _ x.length hi, he, rL b n y (by simp at hn; omega), YL b h, List.map_cons]
       congr 1
       rw [tA]
       simp
theorem UE (b : UInt8) (s : Bs) : (DI b s).length = s.count b + 1 := by
 induction s with
 | nil => rfl
 | cons c s ih =>
   simp only [DI]
   by_cases h : c = b
   . subst h; rw [if_pos rfl, List.length_cons, ih, List.count_cons_self]
   rw [if_neg h, List.count_cons_of_ne (by simpa using h)]
   cases e : DI b s with
   | nil => exact absurd e (PN b s)
   | cons y r => rw [e] at ih; exact ih
theorem Kw (b : UInt8) (s : Bs) : Lib.countB (bs s) (bs [b]) + 1 = (DI b s).length := by
 rw [UE]
 unfold Lib.countB
 rw [FO, FO, Lib.count_one]
theorem pZ {b : Nat} {l : List Bs} (hb : Bx w b t (l.map fun x => Value.string (bs x))) (hS : S b) (hl : l.length <= maxLen) : IsR elS S w (.slice (some ⟨b, 0, none⟩) l.length l.length) l := by
 refine ⟨_, l.length, O, Nat.le_refl _, hl, fun i x f => ⟨b, 0, [.string (bs x)], O, hS, fun j y e => ?_, O⟩⟩
 cases j with
 | zero =>
   simp only [List.getElem?_cons_zero, Option.some.injEq] at e
   subst e
   rw [show elS.sz = 1 from rfl, Nat.mul_one, Nat.add_zero, Nat.zero_add, hb.cell, List.getElem?_map, f]; rfl
 | succ j => simp at e
def qU (w0 : World) (l : List Bs) (w' : World) (v : Value) : Prop := IsR elS (EM w0.heap.size w'.heap.size) w' v l
theorem Hs (s : Bs) (b : UInt8) (w : World) (hs : s.length <= 1000000) (hG : Glob w) : Calls prog 87 #[.string (bs s), .string (bs [b])] w (pT w (qU w (DI b s))) := by
 obtain ⟨m, k⟩ := hG.max
 refine (Tryz.strings_Split (bs s) (bs [b]) m w (by rw [ES]; omega) k (by rw [ES]; simp)).mono ?_
 rintro e p ⟨rfl, rfl⟩
 have o := Kw b s
 have f := UE b s
 have h := List.count_le_length (a := b) (l := s)
 refine ⟨_, O, ?_, (Below.refl _ _).alloc (Nat.le_refl _) _⟩
 rw [rL b s.length s (Nat.le_refl _), o, List.map_map]
 refine pZ (KS w 9 ((DI b s).map fun x => Value.string (bs x))) ⟨Nat.le_refl _, by simp⟩ (by unfold maxLen; omega)
theorem Pz (b : UInt8) (l : List Bs) : (jn b l).length <= (l.map fun x => x.length + 1).sum := by
 cases l with
 | nil => exact Nat.zero_le _
 | cons x r => have := Db b (l := x :: r) AH; omega
theorem wA (v : Value) (l : List Bs) (b : UInt8) (w : World) (h : IsR elS (DL w.heap.size) w v l) (hl : (jn b l).length <= 100000000000) (hn : l.length <= 1000000000) : Calls prog 49 #[v, .string (bs [b])] w (GY w (.string (bs (jn b l)))) := by
 obtain ⟨G, k, rfl, I, H⟩ := h.shp
 by_cases f : l = []
 . subst f
   refine (Tryz.strings_Join_none G k (bs [b]) w).mono ?_
   rintro e t ⟨rfl, rfl⟩
   exact ⟨rfl, Below.refl _ _⟩
 obtain ⟨_, _, _, F, p, rfl, D, B⟩ := bX h f
 have q : Lib.join ((l.map bs).map (·.data.toList)) (bs [b]).data.toList = jn b l := by
  rw [List.map_map, FO, <- Vj]
  congr 1
  rw [show ((fun x : ByteArray => x.data.toList) ∘ bs) = id from funext fun x => FO x, List.map_id]
 have u : (l.map bs).length = l.length := List.length_map _
 have := Tryz.strings_Join F p k (l.map bs) (bs [b]) w (fun j x o => by
  rw [List.getElem?_map] at o
  cases e : l[j]? with
  | none => simp [e] at o
  | some y =>
    simp only [e, Option.map_some, Option.some.injEq] at o
    subst o; exact B j y e) D AA AA (by rw [q]; omega)
 rw [u] at this
 refine this.mono ?_
 rintro e t ⟨rfl, C⟩
 refine ⟨?_, C⟩
 rw [q]; rfl
theorem Az (s sep : Bs) (w : World) (hs : s.length <= 1000000) (hG : Glob w) : Calls prog 52 #[.string (bs s), .string (bs sep)] w (GY w (.tuple #[.string (bs (Lib.cut s sep).1), .string (bs (Lib.cut s sep).2.1), .bool (Lib.cut s sep).2.2])) := by
 obtain ⟨m, f⟩ := hG.max
 refine (Tryz.strings_Cut (bs s) (bs sep) m w (by rw [ES]; omega) f).mono ?_
 rintro e h ⟨rfl, n, rfl⟩
 rw [FO, FO]
 exact ⟨rfl, Below.drewN (Below.refl _ _) n⟩
theorem zX {s : Bs} (h : KY b s = none) : Lib.cut s [b] = (s, [], false) := by
 unfold Lib.cut
 rw [sJ (cutB_none.1 h)]; rfl
theorem zW {s x y : Bs} (h : KY b s = some (x, y)) : Lib.cut s [b] = (x, y, true) := by
 obtain ⟨rfl, e⟩ := cutB_some.1 h
 unfold Lib.cut
 rw [sH e, if_pos AA]
 simp
theorem WJ (s p : Bs) (w : World) : Calls prog 41 #[.string (bs s), .string (bs p)] w (GY w (.tuple #[.string (bs (Lib.trimPrefix s p)), .bool (Lib.hasPrefix s p)])) := by
 refine (Tryz.strings_CutPrefix (bs s) (bs p) w).mono ?_
 rintro e f ⟨rfl, rfl⟩
 rw [FO, FO]
 exact ⟨rfl, Below.refl _ _⟩
theorem WI (s p : Bs) (w : World) (hs : s.length <= 1000000) : Calls prog 148 #[.string (bs s), .string (bs p)] w (GY w (.tuple #[.string (bs (Lib.trimSuffix s p)), .bool (Lib.hasSuffix s p)])) := by
 refine (Tryz.strings_CutSuffix (bs s) (bs p) w (by rw [ES]; omega)).mono ?_
 rintro e f ⟨rfl, rfl⟩
 rw [FO, FO]
 exact ⟨rfl, Below.refl _ _⟩
open Go.Shelf
def insRen : Go.Shelf.Ren := ⟨fun | 17 => 212 | 22 => 131 | 29 => 167 | 30 => 168 | 36 => 195 | n => n, fun | 0 => 0 | 3 => 3 | 4 => 4 | 9 => 9 | 24 => 30 | n => n, fun | n => n⟩
theorem uS : Go.Proofs.Lays2.n22 prog insRen := {
 mixed := by kernel_rfl
 f17 := func212.trans (congrArg some Z)
 f22 := func131.trans (congrArg some Z)
 f29 := func167.trans (congrArg some Z)
 f30 := func168.trans (congrArg some Z)
 f36 := func195.trans (congrArg some Z)
 t0 := underlying0
 a0 := Tryz.isAgg0
 z0 := Tryz.sizeOf0
 v0 := Tryz.zeroValue0
 t3 := underlying3
 a3 := Tryz.isAgg3
 z3 := Tryz.sizeOf3
 v3 := Tryz.zeroValue3
 t4 := underlying4
 a4 := Tryz.isAgg4
 z4 := Tryz.sizeOf4
 v4 := Tryz.zeroValue4
 t9 := underlying9
 a9 := Tryz.isAgg9
 z9 := Tryz.sizeOf9
 v9 := Tryz.zeroValue9
 t24 := underlying30
 a24 := Tryz.isAgg30
 z24 := Tryz.sizeOf30
 v24 := Tryz.zeroValue30
 i9 := by kernel_rfl }
theorem Onl.trans {b : Nat} {w1 w2 w3 : World} (h : Onl b w1 w2) (g : Onl b w2 w3) : Onl b w1 w3 := ⟨g.os.trans h.os, g.tape.trans h.tape, g.output.trans h.output, g.size.trans h.size, fun k hk => (g.block k hk).trans (h.block k hk)⟩
theorem jW (w : World) (b o : Nat) (v : Value) : Onl b w (w.setCell ⟨b, o, none⟩ v) := ⟨rfl, rfl, rfl, by simp [World.setCell], fun k hk => Below.heap_setCell w ⟨b, o, none⟩ v k hk⟩
theorem Pf (b : Nat) (w : World) : Onl b w w := ⟨rfl, rfl, rfl, rfl, fun _ _ => rfl⟩
theorem NW (b : Nat) : ∀ (vs : List Value) (o : Nat) (w : World), Onl b w (w.setCells b o vs)
 | [], _, w => Pf b w
 | v :: r, o, w => (jW w b o v).trans (NW b r (o + 1) _)
theorem ZJ {B b : Nat} (hb : B <= b) (vs : List Value) (o : Nat) {a : World} (h : Below B a w) : Below B a (w.setCells b o vs) := (NW b vs o w).below h hb |>.trans (Below.refl _ _)
def jS (l : List Bs) : List Value := l.map fun x => Value.string (bs x)
theorem TP (l : List Bs) : (jS l).length = l.length := List.length_map _
theorem Fa (l : List Bs) : ∀ v ∈ jS l, v.oneCell' = true := by
 intro v e
 obtain ⟨x, _, rfl⟩ := List.mem_map.1 e
 rfl
theorem Wy {l : List Bs} (h : Acc elS t base S w v l) : RowG w base t 1 Gn v l.length (jS l) := by
 obtain ⟨e, o, q, _⟩ := h
 have u : e.length = l.length := by have := o.1; rw [show elS.sz = 1 from rfl, Nat.mul_one] at this; exact this
 have : e = jS l := by
  refine List.ext_getElem? fun i => ?_
  by_cases k : i < l.length
  . have p : (e.drop (i * 1)).take 1 = [.string (bs l[i])] := q i l[i] (List.getElem?_eq_getElem k)
    have f := congrArg (fun c : List Value => c[0]?) p
    simp only [List.getElem?_take, List.getElem?_drop, Nat.mul_one, Nat.add_zero, List.getElem?_cons_zero] at f
    rw [if_pos AE] at f
    rw [f]
    unfold jS
    rw [List.getElem?_map, List.getElem?_eq_getElem k]; rfl
  rw [List.getElem?_eq_none AA, List.getElem?_eq_none (by rw [TP]; omega)]
 rw [<- this]; exact o
theorem eL {b cap : Nat} {l : List Bs} (hS : S b) (hl : l.length <= cap) (hc : cap <= maxLen) (h : ∀ (j : Nat) x, l[j]? = some x -> w.cell? ⟨b, j, none⟩ = some (.string (bs x))) : IsR elS S w (.slice (some ⟨b, 0, none⟩) l.length cap) l := by
 refine ⟨_, cap, O, hl, hc, fun i x f => ⟨b, 0, [.string (bs x)], O, hS, fun j y e => ?_, O⟩⟩
 cases j with
 | zero =>
   simp only [List.getElem?_cons_zero, Option.some.injEq] at e
   subst e
   rw [show elS.sz = 1 from rfl, Nat.mul_one, Nat.add_zero, Nat.zero_add]; exact h i x f
 | succ j => simp at e
theorem bD {o : Oper} {a : Act} {K : Act -> World -> Prop} {Q : Exit -> Act -> World -> Prop} {s i y : Operand} {tys : Array TypeId}
 (ho : o.op = .call { callee := .value (.func 131), args := [s, i, y].toArray, argTypes := tys }) {l : List Bs} (hs : a.eval s = v) (hi : a.eval i = .int .i64 0) (hA : Acc elS 9 base WW w v l) (hnil : l = [] -> v = .slice none 0 0)
 (E : Env w L) (hok : ∀ g, v.ownBlock = some g -> base <= g -> g < w.heap.size -> Ok g L) {nb : Nat} {x : Bs} (hy : a.eval y = .slice (some ⟨nb, 0, none⟩) 1 1) (hb : Bx w nb 9 [.string (bs x)]) (hnb : v.ownBlock ≠ some nb) (hl : l.length <= 1000000) (hbase : base <= w.heap.size)
 (h : ∀ v' w', IsR elS (EM base w'.heap.size) w' v' (x :: l) -> w.heap.size <= w'.heap.size -> Env w' L -> K (a.put o.dst v') w') : o.wp prog a w K Q := by
 have T := Wy hA
 have hf : Fn prog 131 := ⟨_, func131, by kernel_rfl, rfl⟩
 have J : ∀ (j : Nat) u, [Value.string (bs x)][j]? = some u -> w.cell? ⟨nb, 0 + j, none⟩ = some u := fun j u f => by rw [Nat.zero_add, hb.cell]; exact f
 have R : ∀ u ∈ [Value.string (bs x)], u.oneCell' = true := by intro u f; simp at f; subst f; rfl
 have hz : (Builtin.zeroCells (Value.string ⟨#[]⟩).cells 0) = #[] := by simp [Builtin.zeroCells]
 by_cases P : l = []
 . have hv := hnil P
   subst P hv
   have hc := Any2.slices_Insert_string_end_grow uS none 0 0 nb 0 1 1 [] [.string (bs x)] w AE (Nat.le_refl _) AE AE rfl rfl (fun _ => rfl) (fun _ e => by cases e) J R
   refine CZ hf ho hc (by simp [hs, hi, hy]) ?_
   rintro e w' ⟨rfl, rfl⟩
   refine ⟨_, O, h _ _ ?_ AH (E.below (((Below.refl _ _).drew).alloc (Nat.le_refl _) _))⟩
   refine eL (l := [x]) ⟨hbase, by simp⟩ (grownCap_ge w 1 0 _) (grownCap_le_maxLen w 1 0 _ AE) fun j u f => ?_
   cases j with
   | zero =>
     simp only [List.getElem?_cons_zero, Option.some.injEq] at f
     subst f
     show (w.drew.alloc _).cell? ⟨w.drew.heap.size, 0, none⟩ = _
     rw [cell_of_row _ _ 0 _ _ (0, 0) (heap_alloc_new w.drew _)]
     simp only [List.nil_append, List.toArray, Array.getElem?_append]
     simp []
   | succ j => simp at f
 have G : 0 < l.length := by cases l with | nil => exact absurd rfl P | cons _ _ => simp
 obtain ⟨aa, a3⟩ := T
 rcases a3 with ⟨_, h0⟩ | ⟨g, q, F, rfl, g1, S, g3, g4, g5, g6, g7⟩
 . omega
 have X : g < w.heap.size := (Array.getElem?_eq_some_iff.1 S).1
 have a7 : nb ≠ g := fun e => hnb (by simp [Value.ownBlock, e])
 have a0 : ∀ (j : Nat) u, (jS l)[j]? = some u -> w.cell? ⟨g, 0 + j, none⟩ = some u := fun j u f => by
  rw [Nat.zero_add, cell_of_row w g j F _ (0, 0) S, <- Array.getElem?_toList]
  rw [<- g6, List.getElem?_take] at f
  split at f
  . exact f
  cases f
 have H : F.size = q := by rw [g5, Nat.mul_one]
 have p : ∀ j, j < q -> (w.cell? ⟨g, j, none⟩).isSome = true := fun j k => by
  rw [cell_of_row w g j F _ (0, 0) S]
  simp [H, k]
 have a9 : ∀ j, w.frozen? ⟨g, j, none⟩ = false := fun j => by unfold World.frozen?; simp [S]
 have a4 : Av w g := by
  intro o n e
  rw [cell_of_row w g o F _ (0, 0) S] at e
  exact g7 _ (Array.mem_toList_iff.2 (Array.mem_of_getElem? e)) n rfl
 have a1 : ∀ (j : Nat) u, l[j]? = some u -> (jS l)[j]? = some (.string (bs u)) := fun j u f => by unfold jS; rw [List.getElem?_map, f]; rfl
 by_cases C : l.length + 1 <= q
 . -- there is room
   have hc := Any2.slices_Insert_string_shift uS g 0 l.length q 0 nb 0 1 1 (jS l) [.string (bs x)] w G AE C (by unfold maxLen at g4; omega) a7 (TP l) rfl a0 (fun j k => by rw [Nat.zero_add]; exact p j AA) (fun j _ => a9 _) J (Fa l) R
    9 9 1 q (by unfold World.shape?; rw [show w.heap[nb]? = _ from hb]; rfl) (by unfold World.shape?; rw [S]; simp [H]) AA (hb.free 0) (hb.free 1)
   refine CZ hf ho hc (by simp [hs, hi, hy]) ?_
   rintro e w' ⟨rfl, rfl⟩
   have U : Onl g w ((w.drew.setCells g (0 + (0 + 1)) ((jS l).drop 0)).setCells g (0 + 0) [.string (bs x)]) :=
    (show Onl g w w.drew from ⟨rfl, rfl, rfl, rfl, fun _ _ => rfl⟩).trans ((NW g _ _ _).trans (NW g _ _ _))
   have D : ((w.drew.setCells g (0 + (0 + 1)) ((jS l).drop 0)).setCells g (0 + 0) [.string (bs x)]).heap.size = w.heap.size := U.size
   refine ⟨_, O, h _ _ ?_ (by rw [D]; exact Nat.le_refl _) (E.onl a4 (hok g O g1 X) U)⟩
   have N : ∀ j, j < (jS l).length -> (w.drew.cell? ⟨g, 1 + j, none⟩).isSome = true := fun j k => p (1 + j) (by rw [TP] at k; omega)
   refine eL (l := x :: l) ⟨g1, by rw [D]; exact X⟩ (by simpa using C) g4 fun j u f => ?_
   cases j with
   | zero =>
     simp only [List.getElem?_cons_zero, Option.some.injEq] at f
     subst f
     have := World.cell?_setCells_in g [.string (bs x)] 0 (w.drew.setCells g 1 (jS l)) (fun j k => by
      have a6 : j = 0 := by simpa using k
      subst a6
      rw [World.cell?_setCells_out g (jS l) 1 w.drew ⟨g, 0 + 0, none⟩ (fun _ _ => .inl (by show 0 + 0 < 1; decide))]
      exact p 0 AA) 0 AH
     simpa using this
   | succ j =>
     have k : j < l.length := (List.getElem?_eq_some_iff.1 YJS).1
     have e1 := World.cell?_setCells_out g [.string (bs x)] 0 (w.drew.setCells g 1 (jS l)) ⟨g, j + 1, none⟩ (fun _ _ => .inr AH)
     have e2 := World.cell?_setCells_in g (jS l) 1 w.drew N j Yzu
     have e3 := a1 j u YJS
     have e4 : ((w.drew.setCells g 1 (jS l)).setCells g 0 [.string (bs x)]).cell? ⟨g, j + 1, none⟩ = some (.string (bs u)) := by
      rw [e1, show j + 1 = 1 + j by omega, e2]
      rw [List.getElem?_eq_getElem Yzu] at e3
      exact e3
     simpa using e4
 -- a new row
 have hc := Any2.slices_Insert_string_grow uS g 0 l.length q 0 nb 0 1 1 (jS l) [.string (bs x)] w G AE g3 AA AA (TP l) rfl a0 J (Fa l) R
 refine CZ hf ho hc (by simp [hs, hi, hy]) ?_
 generalize hcap : grownCap w (l.length + 1) q (insRen.t 9) = gc
 have a8 : l.length + 1 <= gc := by rw [<- hcap]; exact grownCap_ge w _ _ _
 have a5 : gc <= maxLen := by rw [<- hcap]; exact grownCap_le_maxLen w _ _ _ (by unfold maxLen; omega)
 generalize hcells : (((jS l).take 0).toArray ++ Builtin.zeroCells (Value.string ⟨#[]⟩).cells (l.length + 1 - 0) ++ Builtin.zeroCells (Value.string ⟨#[]⟩).cells (gc - (l.length + 1))) = cells
 have Y : cells.size = gc := by
  rw [<- hcells]
  simp only [Array.size_append, size_zeroCells, List.size_toArray, List.length_take]
  have : (Value.string ⟨#[]⟩).cells.size = 1 := rfl
  rw [this]; omega
 rintro e w' ⟨rfl, rfl⟩
 have a2 : (w.alloc (.cells cells (insRen.t 9))).heap[w.heap.size]? = some (.cells cells (insRen.t 9) (0, 0)) := heap_alloc_new w _
 have B : ∀ j, j < gc -> ((w.alloc (.cells cells (insRen.t 9))).drew.cell? ⟨w.heap.size, j, none⟩).isSome = true := fun j k => by
  show ((w.alloc (.cells cells (insRen.t 9))).cell? _).isSome = true
  rw [cell_of_row _ _ j cells _ (0, 0) a2]
  simp [Y, k]
 have I : Below w.heap.size w ((((w.alloc (.cells cells (insRen.t 9))).drew.setCells w.heap.size 0 [.string (bs x)]).drew).setCells w.heap.size (0 + 1) ((jS l).drop 0)) :=
  ZJ (Nat.le_refl _) _ _ ((ZJ (Nat.le_refl _) _ _ (((Below.refl _ w).alloc (Nat.le_refl _) _).drew)).drew)
 have D : ((((w.alloc (.cells cells (insRen.t 9))).drew.setCells w.heap.size 0 [.string (bs x)]).drew).setCells w.heap.size (0 + 1) ((jS l).drop 0)).heap.size = w.heap.size + 1 := by
  rw [(NW w.heap.size _ _ _).size]
  show ((w.alloc (.cells cells (insRen.t 9))).drew.setCells w.heap.size 0 [.string (bs x)]).heap.size = _
  rw [(NW w.heap.size _ _ _).size]
  show (w.alloc (.cells cells (insRen.t 9))).heap.size = _
  simp
 refine ⟨_, O, h _ _ ?_ I.size (E.below I)⟩
 refine eL (l := x :: l) ⟨hbase, by rw [D]; omega⟩ (by simpa using a8) a5 fun j u f => ?_
 have N : ∀ j, j < (jS l).length -> (((w.alloc (.cells cells (insRen.t 9))).drew.setCells w.heap.size 0 [.string (bs x)]).drew.cell? ⟨w.heap.size, 1 + j, none⟩).isSome = true := fun j k => by
  show (((w.alloc (.cells cells (insRen.t 9))).drew.setCells w.heap.size 0 [.string (bs x)]).cell? _).isSome = true
  rw [World.cell?_setCells_out w.heap.size [.string (bs x)] 0 _ ⟨w.heap.size, 1 + j, none⟩ (fun _ _ => .inr AH)]
  exact B _ (by rw [TP] at k; omega)
 cases j with
 | zero =>
   simp only [List.getElem?_cons_zero, Option.some.injEq] at f
   subst f
   have e1 := World.cell?_setCells_out w.heap.size (jS l) 1 (((w.alloc (.cells cells (insRen.t 9))).drew.setCells w.heap.size 0 [.string (bs x)]).drew) ⟨w.heap.size, 0, none⟩ (fun _ _ => .inl (by show 0 < 1; decide))
   have e2 := World.cell?_setCells_in w.heap.size [.string (bs x)] 0 (w.alloc (.cells cells (insRen.t 9))).drew (fun j k => B _ (by simp at k; omega)) 0 AH
   have e3 : ((((w.alloc (.cells cells (insRen.t 9))).drew.setCells w.heap.size 0 [.string (bs x)]).drew).setCells w.heap.size 1 (jS l)).cell? ⟨w.heap.size, 0, none⟩ = some (.string (bs x)) := by
    rw [e1]
    exact e2
   simpa using e3
 | succ j =>
   have k : j < l.length := (List.getElem?_eq_some_iff.1 YJS).1
   have e2 := World.cell?_setCells_in w.heap.size (jS l) 1 _ N j Yzu
   have e3 := a1 j u YJS
   have e4 : ((((w.alloc (.cells cells (insRen.t 9))).drew.setCells w.heap.size 0 [.string (bs x)]).drew).setCells w.heap.size 1 (jS l)).cell? ⟨w.heap.size, j + 1, none⟩ = some (.string (bs u)) := by
    rw [show j + 1 = 1 + j by omega, e2]
    rw [List.getElem?_eq_getElem Yzu] at e3
    exact e3
   simpa using e4
end Go.Proofs.YtmppigbbkjepiaaGreatDoor
