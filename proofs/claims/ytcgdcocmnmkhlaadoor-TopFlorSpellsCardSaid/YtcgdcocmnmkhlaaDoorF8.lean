/- Chapter 3: for how many days a strength is kept, in the reference: what the loop computes. -/
import Derived.Test.YtcgdcocmnmkhlaaDoorF7
namespace Go.Fl
open Go.Eng Go.RowKit Go.Proofs
set_option maxRecDepth 100000
theorem t41 (v0 v1 s0 s1 c0 c1 ra rb rc rd k : Int) : runFn Tryd.prog 1 1 (lookS [s22, s24, s65, s74, s83]) 370 Tryd.f41 [.agg [.int .i64 v0, .int .i64 v1, .int .i64 s0, .int .i64 s1, .int .i64 c0, .int .i64 c1], .agg [.int .i64 ra, .int .i64 rb, .int .i64 rc, .int .i64 rd], .c (.int .i64 k)] gb =
  T.br (M.first3 (M.rCheckWine ⟨v0, v1, s0, s1, c0, c1⟩) (M.rCheckRate ⟨ra, rb, rc, rd⟩) (M.rStrengthErr k) != 0)
    (T.ret (Value.tuple #[Value.int IntKind.i64 0, Value.int IntKind.i64 (M.first3 (M.rCheckWine ⟨v0, v1, s0, s1, c0, c1⟩) (M.rCheckRate ⟨ra, rb, rc, rd⟩) (M.rStrengthErr k))]))
    (T.br (decide (s0 < k)) (T.ret (Value.tuple #[Value.int IntKind.i64 0, Value.int IntKind.i64 24]))
      (sdT (fun d => (M.rStrength ⟨v0, v1, s0, s1, c0, c1⟩ ⟨ra, rb, rc, rd⟩ d).lo) ⟨ra, rb, rc, rd⟩ k 365 0)) := by kernel_rfl
end Go.Fl
