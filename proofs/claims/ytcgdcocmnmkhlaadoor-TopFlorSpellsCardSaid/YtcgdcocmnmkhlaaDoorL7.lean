/- Chapter 3, plain laws: what a whole quotient's bits are. -/
import Derived.Test.YtcgdcocmnmkhlaaDoorL
namespace Go.Fl.L
open Go.Fl.M
theorem W_W (n : Int) : W (W n) = W n := by
  have h : -9223372036854775808 ≤ W n ∧ W n ≤ 9223372036854775807 := by
    unfold W
    rw [IntKind.wrap_i64]
    omega
  exact W_id h.1 h.2
theorem W_floor (n b : Int) : W (floor n b) = floor n b := by
  unfold floor
  cases decide (n.tmod b < 0)
  · exact W_W _
  · exact W_W _
theorem W_ceiling (n b : Int) : W (ceiling n b) = ceiling n b := W_W _
theorem floor_one {m : Int} (h : W m = m) : floor m 1 = m := by
  unfold floor
  rw [Int.tmod_one, Int.tdiv_one]
  exact h
end Go.Fl.L
