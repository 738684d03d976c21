/- Walk: the law IntegerParses. (Printed by g_parses.py.) -/
import Derived.Test.YtndpjfhhigpbhaaLawB
import Derived.Test.YtndpjfhhigpbhaaMadeL
import Derived.Test.YtndpjfhhigpbhaaKitC
import Derived.Test.YtndpjfhhigpbhaaRefT
namespace Go.Proofs.Ytndpjfhhigpbhaa
open Go.RowKit W
theorem RParse_none (s : ByteArray) (w : World) (hs : s.size ≤ 4000) (h : parseZ s.data.toList = none) : Calls Try.prog 51 #[.string s] w (RetZE w 0 3) := by
  refine (RParse_s s w (by omega)).mono ?_
  rintro e w' (⟨h1, _⟩ | ⟨_, _, hr⟩ | ⟨_, h2, _⟩)
  · omega
  · exact hr
  · rw [h] at h2; cases h2
theorem RParse_some (s : ByteArray) (z : Int) (w : World) (hs : s.size ≤ 4000) (h : parseZ s.data.toList = some z) : Calls Try.prog 51 #[.string s] w (RetZE w z 0) := by
  refine (RParse_s s w (by omega)).mono ?_
  rintro e w' (⟨h1, _⟩ | ⟨_, h2, _⟩ | ⟨_, h2, hr⟩)
  · omega
  · rw [h] at h2; cases h2
  · rw [h] at h2; cases h2; exact hr
end Go.Proofs.Ytndpjfhhigpbhaa
