/- What the statements of chapter 3 say of themselves. Laid by a program of mine (wip/gen). -/
import Derived.Test.YtcgdcocmnmkhlaaDoorF9
set_option linter.unusedVariables false
set_option linter.unusedSimpArgs false
namespace Go.Fl
open Go.Eng
def d20 : DomG
  | [] => some ([], vB (true))
  | _ => none
def s20 : Nat × Sm := (20, grpSm [] d20)
def d61 : DomG
  | [] => some ([], vB (true))
  | _ => none
def s61 : Nat × Sm := (61, grpSm [] d61)
def d3 : DomG
  | [[.int .i64 v0, .int .i64 v1, .int .i64 s0, .int .i64 s1, .int .i64 c0, .int .i64 c1], [.int .i64 ra, .int .i64 rb, .int .i64 rc, .int .i64 rd], [.int .i64 xa, .int .i64 xb, .int .i64 xc, .int .i64 xd]] => some ([], vB (true))
  | _ => none
def s3 : Nat × Sm := (3, grpSm [.agg, .agg, .agg] d3)
def d4 : DomG
  | [[.int .i64 v0, .int .i64 v1, .int .i64 s0, .int .i64 s1, .int .i64 c0, .int .i64 c1], [.int .i64 ra, .int .i64 rb, .int .i64 rc, .int .i64 rd], [.int .i64 d]] => some ([], vB (true))
  | _ => none
def s4 : Nat × Sm := (4, grpSm [.agg, .agg, .c] d4)
def d6 : DomG
  | [[.int .i64 v0, .int .i64 v1, .int .i64 s0, .int .i64 s1, .int .i64 c0, .int .i64 c1], [.int .i64 lo, .int .i64 hi]] => some ([], vB (true))
  | _ => none
def s6 : Nat × Sm := (6, grpSm [.agg, .agg] d6)
def d8 : DomG
  | [[.int .i64 v0, .int .i64 v1, .int .i64 s0, .int .i64 s1, .int .i64 c0, .int .i64 c1], [.int .i64 ra, .int .i64 rb, .int .i64 rc, .int .i64 rd], [.int .i64 xa, .int .i64 xb, .int .i64 xc, .int .i64 xd]] => some ([], vB (true))
  | _ => none
def s8 : Nat × Sm := (8, grpSm [.agg, .agg, .agg] d8)
def d9 : DomG
  | [[.int .i64 av0, .int .i64 av1, .int .i64 as0, .int .i64 as1, .int .i64 ac0, .int .i64 ac1], [.int .i64 bv0, .int .i64 bv1, .int .i64 bs0, .int .i64 bs1, .int .i64 bc0, .int .i64 bc1], [.int .i64 d]] => some ([], vB (true))
  | _ => none
def s9 : Nat × Sm := (9, grpSm [.agg, .agg, .c] d9)
def d10 : DomG
  | [[.int .i64 ra, .int .i64 rb, .int .i64 rc, .int .i64 rd], [.int .i64 da, .int .i64 av0, .int .i64 av1, .int .i64 as0, .int .i64 as1, .int .i64 ac0, .int .i64 ac1], [.int .i64 db, .int .i64 bv0, .int .i64 bv1, .int .i64 bs0, .int .i64 bs1, .int .i64 bc0, .int .i64 bc1]] => some ([], vB (true))
  | _ => none
def s10 : Nat × Sm := (10, grpSm [.agg, .agg, .agg] d10)
end Go.Fl
