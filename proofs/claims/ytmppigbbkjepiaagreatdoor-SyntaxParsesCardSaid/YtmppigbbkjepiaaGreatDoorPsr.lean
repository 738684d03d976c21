/- Helping facts of Psr; no other conditions. -/
import Derived.Test.YtmppigbbkjepiaaGreatDoorRParse
namespace Go.Proofs.YtmppigbbkjepiaaGreatDoor
open Go.Proofs.Tryz
open Go.RowKit W
theorem Ug {u : Bs} {v : List Bs} {q r : List En} {n m e : Nat} (h : HO u = (⟨v, q, r, n⟩, m, e)) : TH q /\ TH r /\ v.length <= 4 /\ q.length <= 12 /\ r.length <= 12 := by
 by_cases f : e = 0
 . subst f
   obtain ⟨_, _, p, _⟩ := xS h
   obtain ⟨o, l⟩ := Cp h
   obtain ⟨_, B, y, t⟩ := Tg p
   exact ⟨o, l, B, y, t⟩
 obtain ⟨k, _⟩ := Js h f
 simp only [qQ, Sy.mk.injEq] at k
 obtain ⟨rfl, rfl, rfl, rfl⟩ := k
 exact ⟨fun e f => (by cases f), fun e f => (by cases f), by decide, by decide, by decide⟩
set_option maxRecDepth 100000 in
set_option maxHeartbeats 8000000 in
theorem psr_t (t : Bs) (w : World) (hG : Glob w) :
 Calls prog 7 #[.string (bs t)] w (LN w true) := by
 have E := Env.start w
 have ah := hG.two
 replace E := E.gl hG
 go_enter func7, ntmps7
 refine yG ?_
 refine EF O (CA VB O (oW _ E.1.1) O E ?_)
 intro w1 d1 E
 by_cases ad : 4000 < t.length
 . refine yG ?_
   exact ⟨rfl, E.2.1⟩
 obtain ⟨⟨sv, v, u, C⟩, m, ge, y⟩ : ∃ a b c, HO t = (a, b, c) := ⟨_, _, _, rfl⟩
 obtain ⟨U, T, ae, ag, af⟩ := Ug y
 have a6 : w.heap.size <= w1.heap.size := E.2.1.size
 refine yG ?_
 refine EF O (QM (r := (⟨sv, v, u, C⟩, m, ge)) TA O (by have f := pW t w1 E.1.1; rw [y] at f; exact f) O E ?_)
 intro N a1 a8 X a3 ac a0 a2 aa Y d2 k q o E
 dsimp only at k q o E
 subst k q o
 have z2 := d2.size
 replace E := E.sz (Nat.le_refl N.heap.size)
 refine yG ?_
 refine EF O (BZ JK O ?_)
 intro b3 w3 D z3 d3 x3
 have l3 : w.heap.size <= b3 := by rw [D]; exact (e5 E).size
 have R : N.heap.size <= b3 := by rw [D]; exact CS E.1
 replace E := E.below d3
 refine yG ?_
 refine EF O (BY JK O O O x3 O O (CG O (CG O (CG O (CG O DP)))) ?_)
 intro w4 o4 y4
 replace E := oY E x3 o4 y4 (ds := [.slice a1 sv.length X, .slice a3 v.length a0, .slice a2 u.length Y, .int .i64 ↑C])
 have a5 : w.heap.size <= w4.heap.size := (e6 E).size
 refine yG ?_
 refine EF O (QM (r := (⟨sv, v, u, C⟩, m, ge)) kW O (by have f := Xg t w4; rw [y] at f; exact f) O E ?_)
 intro w5 I a7 F L ab H J a9 G d5 h p l E
 dsimp only at h p l E
 subst h p l
 have z5 := d5.size
 replace E := E.sz (Nat.le_refl w5.heap.size)
 refine yG ?_
 refine EF O (BZ JK O ?_)
 intro b6 w6 B z6 d6 x6
 have a4 : b3 < b6 := by rw [B]; exact Bx.lt (e4 E)
 have Q : w5.heap.size <= b6 := by rw [B]; exact CS E.1
 have P : N.heap.size <= b6 := by rw [B]; exact CS (e5 E)
 replace E := E.below d6
 refine yG ?_
 refine EF O (BY JK O O O x6 O O (CG O (CG O (CG O (CG O DP)))) ?_)
 intro w7 o7 y7
 replace E := oY E x6 o7 y7 (ds := [.slice I sv.length F, .slice L v.length H, .slice J u.length G, .int .i64 ↑C])
 refine yG ?_
 refine EF O (CA oR O (CT (decide_eq_true ⟨O, O, O, O⟩) (Sb _ sv _ v _ u C (.slice I sv.length F) sv (.slice L v.length H) v (.slice J u.length G) u C w7 (BW (e7 E)) (BW (e8 E)) (BW (e9 E)) (BW E.2.2.1) (BW (e3 E)) (BW (e4 E)) (fun e S => (U e S).2.2) (fun e S => (T e S).2.2) AA AA AA )) O E ?_)
 intro w8 d8 E
 refine yG ?_
 exact ⟨rfl, RC E⟩
theorem psr_s (s0 : ByteArray) (w : World) (hG : Glob w) : Calls prog 7 #[.string s0] w (LN w true) := by
 have h := psr_t s0.data.toList w hG
 rw [sZ] at h; exact h
end Go.Proofs.YtmppigbbkjepiaaGreatDoor
