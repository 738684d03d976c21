/- More contracts in the forms that the laws use. -/
import Derived.Test.YtjgmfdenicbniaaSan
import Derived.Test.YtjgmfdenicbniaaMadeL
namespace Go.Proofs.Ytjgmfdenicbniaa
open Go.RowKit W
theorem Made_is (n : Bool) (sx : Value) (l : List Nat) (k : Nat) (w : World) (hsl : Sl w sx l) (hk : k ≤ 1000) {z : Int} (hz : mkI n l k = z) :
    Calls Try.prog 14 #[.agg #[.bool n, sx], .int .i64 ((k : Nat) : Int)] w (RetZ w z) := by
  subst hz; exact Made_r n sx l k w hsl hk
end Go.Proofs.Ytjgmfdenicbniaa
