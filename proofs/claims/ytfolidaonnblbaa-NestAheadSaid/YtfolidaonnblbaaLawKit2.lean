/- Frames of laws: a string's length. -/
import Derived.Test.YtfolidaonnblbaaLawKit
namespace Go.Proofs.Ytfolidaonnblbaa
open Go.ChangeShapes Go.WideShapes Go.ChangeAt Go.RowKit

theorem str_small {s : ByteArray} (h : s.data.toList.length ≤ reachBytes) : s.size ≤ 140737488351232 := by
  have e : s.data.toList.length = s.size := Array.length_toList
  rw [e] at h
  exact h

end Go.Proofs.Ytfolidaonnblbaa
