/- What FlorTrue, FlorRatesBack and their like rest on. Laid by a program of mine (wip/gen). -/
import Derived.Test.YtcgdcocmnmkhlaaDoorF10
import Derived.Test.YtcgdcocmnmkhlaaDoorL6
import Derived.Test.YtcgdcocmnmkhlaaDoorL7
set_option linter.unusedVariables false
namespace Go.Fl
open Go.Eng
def d84 : DomG
  | [[.int .i64 n], [.int .i64 d], [.int .i64 m], [.int .i64 1]] => some ([d ≠ 0, M.W m = m], vI (M.compare1 n d m))
  | _ => none
def s84 : Nat × Sm := (84, grpSm [.c, .c, .c, .c] d84)
def d33 : DomG
  | [[.int .i64 n], [.int .i64 d], [.int .i64 lo, .int .i64 hi]] => some ([d ≠ 0, M.W lo = lo, M.W hi = hi], vB (M.between n d ⟨lo, hi⟩))
  | _ => none
def s33 : Nat × Sm := (33, grpSm [.c, .c, .agg] d33)
def d64 : DomG
  | [[.int .i64 n], [.int .i64 d], [.int .i64 lo, .int .i64 hi]] => some ([d ≠ 0, M.W lo = lo, M.W hi = hi], vB (M.between n d ⟨lo, hi⟩))
  | _ => none
def s64 : Nat × Sm := (64, grpSm [.c, .c, .agg] d64)
def d5 : DomG
  | [[.int .i64 v0, .int .i64 v1, .int .i64 s0, .int .i64 s1, .int .i64 c0, .int .i64 c1], [.int .i64 ra, .int .i64 rb, .int .i64 rc, .int .i64 rd], [.int .i64 d, .int .i64 tv, .int .i64 ts, .int .i64 tc, .int .i64 tw, .int .i64 ta]] => some ([], vB (true))
  | _ => none
def s5 : Nat × Sm := (5, grpSm [.agg, .agg, .agg] d5)
def d17 : DomG
  | [[.int .i64 v0, .int .i64 v1, .int .i64 s0, .int .i64 s1, .int .i64 c0, .int .i64 c1], [.int .i64 ra, .int .i64 rb, .int .i64 rc, .int .i64 rd], [.int .i64 d]] => some ([], vB (true))
  | _ => none
def s17 : Nat × Sm := (17, grpSm [.agg, .agg, .c] d17)
end Go.Fl
