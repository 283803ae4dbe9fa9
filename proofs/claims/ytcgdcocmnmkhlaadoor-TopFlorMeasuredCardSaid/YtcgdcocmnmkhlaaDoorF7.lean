/- Chapter 3: for how many days a strength is kept: what the loop computes. -/
import Derived.Test.YtcgdcocmnmkhlaaDoorD
namespace Go.Fl
open Go.Eng Go.RowKit Go.Proofs
set_option maxRecDepth 100000
def sdT (f : Int → Int) (r : M.Rate) (k : Int) : Nat → Int → T Value
  | 0, d => .ret (.tuple #[.int .i64 d, .int .i64 0])
  | n + 1, d => .need ((M.left r.w (M.W (d + 1))).hi ≠ 0) (.need ((M.left r.w (M.W (d + 1))).lo ≠ 0)
      (.br (decide (f (M.W (d + 1)) ≥ k)) (sdT f r k n (M.W (d + 1))) (.ret (.tuple #[.int .i64 d, .int .i64 0]))))
theorem t39 (v0 v1 s0 s1 c0 c1 ra rb rc rd k : Int) : runFn Tryd.prog 1 1 (lookS [s21, s23, s86, s85, s76, s78]) 370 Tryd.f39 [.agg [.int .i64 v0, .int .i64 v1, .int .i64 s0, .int .i64 s1, .int .i64 c0, .int .i64 c1], .agg [.int .i64 ra, .int .i64 rb, .int .i64 rc, .int .i64 rd], .c (.int .i64 k)] gb =
  T.br (M.first [M.checkWine ⟨v0, v1, s0, s1, c0, c1⟩, M.checkRate ⟨ra, rb, rc, rd⟩, M.strengthErr k, M.unl (decide (s0 ≥ k)) 24] != 0)
    (T.ret (Value.tuple #[Value.int IntKind.i64 0, Value.int IntKind.i64 (M.first [M.checkWine ⟨v0, v1, s0, s1, c0, c1⟩, M.checkRate ⟨ra, rb, rc, rd⟩, M.strengthErr k, M.unl (decide (s0 ≥ k)) 24])]))
      (sdT (fun d => (M.after ⟨v0, v1, s0, s1, c0, c1⟩ ⟨ra, rb, rc, rd⟩ d).s0) ⟨ra, rb, rc, rd⟩ k 365 0) := by kernel_rfl
end Go.Fl
