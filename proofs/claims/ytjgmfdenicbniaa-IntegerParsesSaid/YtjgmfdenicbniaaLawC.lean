/- More contracts in the forms that the laws use. -/
import Derived.Test.YtjgmfdenicbniaaSan
import Derived.Test.YtjgmfdenicbniaaMade
namespace Go.Proofs.Ytjgmfdenicbniaa
open Go.RowKit W
theorem Made_is (n : Bool) (sx : Value) (l : List Nat) (k : Nat) (w : World) (hsl : Sl w sx l) (hk : k ≤ 1000) {z : Int} (hz : mkI n l k = z) :
    Calls Try.prog 14 #[.agg #[.bool n, sx], .int .i64 ((k : Nat) : Int)] w (RetZ w z) := by
  subst hz; exact Made_r n sx l k w hsl hk
theorem RSame_f (va vb : Value) (x y : Int) (w : World) (ha : IsI w va x) (hb : IsI w vb y) (h : x ≠ y) : Calls Try.prog 21 #[va, vb] w (RetB w false) := by
  have := RSame_z va vb x y w ha hb
  rwa [decide_eq_false h] at this
end Go.Proofs.Ytjgmfdenicbniaa
