/- The summaries of the functions of chapter 3, over their plain counterparts. Laid by a program of mine (wip/gen). -/
import Derived.Test.YtcgdcocmnmkhlaaDoorE12
import Derived.Test.YtcgdcocmnmkhlaaDoorM
import Derived.Test.YtcgdcocmnmkhlaaDoorRows
set_option linter.unusedVariables false
set_option linter.unusedSimpArgs false
namespace Go.Fl
open Go.Eng

def gb : List Blk := [.part 0 [.num .i64 100000, .num .i64 10000, .num .i64 100000]]
abbrev vI (n : Int) : V := .a (.c (.int .i64 n))
abbrev vB (b : Bool) : V := .a (.c (.bool b))
abbrev aI (n : Int) : A := .c (.int .i64 n)
abbrev aB (b : Bool) : A := .c (.bool b)
abbrev cI (n : Int) : C := .int .i64 n
abbrev aRg (r : M.Rg) : A := .agg [cI r.lo, cI r.hi]
abbrev aWine (w : M.Wine) : A := .agg [cI w.v0, cI w.v1, cI w.s0, cI w.s1, cI w.c0, cI w.c1]
abbrev aRate (r : M.Rate) : A := .agg [cI r.a, cI r.b, cI r.c, cI r.d]
def d76 : DomG
  | [[.int .i64 a, .int .i64 b]] => some ([], vI (M.first [a, b]))
  | [[.int .i64 a, .int .i64 b, .int .i64 c]] => some ([], vI (M.first [a, b, c]))
  | [[.int .i64 a, .int .i64 b, .int .i64 c, .int .i64 d]] => some ([], vI (M.first [a, b, c, d]))
  | _ => none
def s76 : Nat × Sm := (76, grpSm [.sl] d76)
def d90 : DomG
  | [[.int .i64 n], [.int .i64 lo], [.int .i64 hi]] => some ([], vB (M.within n lo hi))
  | _ => none
def s90 : Nat × Sm := (90, grpSm [.c, .c, .c] d90)
def d55 : DomG
  | [[.int .i64 n], [.int .i64 lo], [.int .i64 hi]] => some ([], vB (M.within n lo hi))
  | _ => none
def s55 : Nat × Sm := (55, grpSm [.c, .c, .c] d55)
def d85 : DomG
  | [[.bool ok], [.int .i64 e]] => some ([], vI (M.unl ok e))
  | _ => none
def s85 : Nat × Sm := (85, grpSm [.c, .c] d85)
def d80 : DomG
  | [[.int .i64 n], [.int .i64 b]] => some ([b ≠ 0], vI (M.floor n b))
  | _ => none
def s80 : Nat × Sm := (80, grpSm [.c, .c] d80)
def d68 : DomG
  | [[.int .i64 n], [.int .i64 b]] => some ([b ≠ 0], vI (M.floor n b))
  | _ => none
def s68 : Nat × Sm := (68, grpSm [.c, .c] d68)
def d81 : DomG
  | [[.int .i64 n], [.int .i64 b]] => some ([b ≠ 0], vI (M.ceiling n b))
  | _ => none
def s81 : Nat × Sm := (81, grpSm [.c, .c] d81)
def d69 : DomG
  | [[.int .i64 n], [.int .i64 b]] => some ([b ≠ 0], vI (M.ceiling n b))
  | _ => none
def s69 : Nat × Sm := (69, grpSm [.c, .c] d69)
def d67 : DomG
  | [[.int .i64 n], [.int .i64 b]] => some ([b ≠ 0], vI (M.mod n b))
  | _ => none
def s67 : Nat × Sm := (67, grpSm [.c, .c] d67)
def d73 : DomG
  | [[.int .i64 lo, .int .i64 hi], [.int .i64 most]] => some ([], vI (M.spanErr ⟨lo, hi⟩ most))
  | _ => none
def s73 : Nat × Sm := (73, grpSm [.agg, .c] d73)
def d79 : DomG
  | [[.int .i64 lo, .int .i64 hi], [.int .i64 d]] => some ([], .a (aRg (M.left ⟨lo, hi⟩ d)))
  | _ => none
def s79 : Nat × Sm := (79, grpSm [.agg, .c] d79)
def d82 : DomG
  | [[.int .i64 lo, .int .i64 hi], [.int .i64 d]] => some ([], .a (aRg (M.left ⟨lo, hi⟩ d)))
  | _ => none
def s82 : Nat × Sm := (82, grpSm [.agg, .c] d82)
def d72 : DomG
  | [[.int .i64 v0, .int .i64 v1, .int .i64 s0, .int .i64 s1, .int .i64 c0, .int .i64 c1]] => some ([], .a (aWine (⟨v0, v1, s0, s1, c0, c1⟩)))
  | _ => none
def s72 : Nat × Sm := (72, grpSm [.agg] d72)
def d108 : DomG
  | [[.int .i64 v0, .int .i64 v1, .int .i64 s0, .int .i64 s1, .int .i64 c0, .int .i64 c1]] => some ([], .a (aWine (⟨v0, v1, s0, s1, c0, c1⟩)))
  | _ => none
def s108 : Nat × Sm := (108, grpSm [.agg] d108)
def d77 : DomG
  | [[.int .i64 d]] => some ([], vI (M.daysErr d))
  | _ => none
def s77 : Nat × Sm := (77, grpSm [.c] d77)
def d86 : DomG
  | [[.int .i64 n]] => some ([], vI (M.strengthErr n))
  | _ => none
def s86 : Nat × Sm := (86, grpSm [.c] d86)
def d21 : DomG
  | [[.int .i64 v0, .int .i64 v1, .int .i64 s0, .int .i64 s1, .int .i64 c0, .int .i64 c1]] => some ([], vI (M.checkWine ⟨v0, v1, s0, s1, c0, c1⟩))
  | _ => none
def s21 : Nat × Sm := (21, grpSm [.agg] d21)
def d23 : DomG
  | [[.int .i64 ra, .int .i64 rb, .int .i64 rc, .int .i64 rd]] => some ([], vI (M.checkRate ⟨ra, rb, rc, rd⟩))
  | _ => none
def s23 : Nat × Sm := (23, grpSm [.agg] d23)
def d25 : DomG
  | [[.int .i64 ra, .int .i64 rb, .int .i64 rc, .int .i64 rd]] => some ([], vI (M.checkLaw ⟨ra, rb, rc, rd⟩))
  | _ => none
def s25 : Nat × Sm := (25, grpSm [.agg] d25)
def d87 : DomG
  | [[.int .i64 al, .int .i64 ah], [.int .i64 bl, .int .i64 bh]] => some ([], .tup [aRg (M.common ⟨al, ah⟩ ⟨bl, bh⟩), aB (M.rgOk (M.common ⟨al, ah⟩ ⟨bl, bh⟩))])
  | _ => none
def s87 : Nat × Sm := (87, grpSm [.agg, .agg] d87)
def d88 : DomG
  | [[.int .i64 al, .int .i64 ah], [.int .i64 bl, .int .i64 bh]] => some ([], vB (M.rgIn ⟨al, ah⟩ ⟨bl, bh⟩))
  | _ => none
def s88 : Nat × Sm := (88, grpSm [.agg, .agg] d88)
def d89 : DomG
  | [[.int .i64 al, .int .i64 ah], [.int .i64 bl, .int .i64 bh]] => some ([], .a (aRg (M.common ⟨al, ah⟩ ⟨bl, bh⟩)))
  | _ => none
def s89 : Nat × Sm := (89, grpSm [.agg, .agg] d89)
def d78 : DomG
  | [[.int .i64 v0, .int .i64 v1, .int .i64 s0, .int .i64 s1, .int .i64 c0, .int .i64 c1], [.int .i64 ra, .int .i64 rb, .int .i64 rc, .int .i64 rd], [.int .i64 d]] => some ([(M.left (M.Rate.w ⟨ra, rb, rc, rd⟩) d).hi ≠ 0, (M.left (M.Rate.w ⟨ra, rb, rc, rd⟩) d).lo ≠ 0], .a (aWine (M.after ⟨v0, v1, s0, s1, c0, c1⟩ ⟨ra, rb, rc, rd⟩ d)))
  | _ => none
def s78 : Nat × Sm := (78, grpSm [.agg, .agg, .c] d78)
def d27 : DomG
  | [[.int .i64 v0, .int .i64 v1, .int .i64 s0, .int .i64 s1, .int .i64 c0, .int .i64 c1], [.int .i64 ra, .int .i64 rb, .int .i64 rc, .int .i64 rd], [.int .i64 d]] => some ([], .tup [aWine (M.After ⟨v0, v1, s0, s1, c0, c1⟩ ⟨ra, rb, rc, rd⟩ d).1, aI (M.After ⟨v0, v1, s0, s1, c0, c1⟩ ⟨ra, rb, rc, rd⟩ d).2])
  | _ => none
def s27 : Nat × Sm := (27, grpSm [.agg, .agg, .c] d27)
def d28 : DomG
  | [[.int .i64 v0, .int .i64 v1, .int .i64 s0, .int .i64 s1, .int .i64 c0, .int .i64 c1], [.int .i64 ra, .int .i64 rb, .int .i64 rc, .int .i64 rd], [.int .i64 d]] => some ([], .tup [aRg (M.LossOf ⟨v0, v1, s0, s1, c0, c1⟩ ⟨ra, rb, rc, rd⟩ d).1, aI (M.LossOf ⟨v0, v1, s0, s1, c0, c1⟩ ⟨ra, rb, rc, rd⟩ d).2])
  | _ => none
def s28 : Nat × Sm := (28, grpSm [.agg, .agg, .c] d28)
def d34 : DomG
  | [[.int .i64 v0, .int .i64 v1, .int .i64 s0, .int .i64 s1, .int .i64 c0, .int .i64 c1], [.int .i64 lo, .int .i64 hi]] => some ([], .tup [aWine (M.Drawn ⟨v0, v1, s0, s1, c0, c1⟩ ⟨lo, hi⟩).1, aI (M.Drawn ⟨v0, v1, s0, s1, c0, c1⟩ ⟨lo, hi⟩).2])
  | _ => none
def s34 : Nat × Sm := (34, grpSm [.agg, .agg] d34)
def d40 : DomG
  | [[.int .i64 v0, .int .i64 v1, .int .i64 s0, .int .i64 s1, .int .i64 c0, .int .i64 c1], [.int .i64 ra, .int .i64 rb, .int .i64 rc, .int .i64 rd]] => some ([], .tup [aI (M.LegalIs ⟨v0, v1, s0, s1, c0, c1⟩ ⟨ra, rb, rc, rd⟩).1, aI (M.LegalIs ⟨v0, v1, s0, s1, c0, c1⟩ ⟨ra, rb, rc, rd⟩).2])
  | _ => none
def s40 : Nat × Sm := (40, grpSm [.agg, .agg] d40)
def d92 : DomG
  | [[.int .i64 v0, .int .i64 v1, .int .i64 s0, .int .i64 s1, .int .i64 c0, .int .i64 c1]] => some ([], .a (aRg (M.alcohol ⟨v0, v1, s0, s1, c0, c1⟩)))
  | _ => none
def s92 : Nat × Sm := (92, grpSm [.agg] d92)
def d94 : DomG
  | [[.int .i64 v0, .int .i64 v1, .int .i64 s0, .int .i64 s1, .int .i64 c0, .int .i64 c1]] => some ([], .a (aRg (M.alcohol ⟨v0, v1, s0, s1, c0, c1⟩)))
  | _ => none
def s94 : Nat × Sm := (94, grpSm [.agg] d94)
def d107 : DomG
  | [[.int .i64 x], [.int .i64 y], [.int .i64 d]] => some ([], .tup [aI (M.rateBy x y d).1, aI (M.rateBy x y d).2])
  | _ => none
def s107 : Nat × Sm := (107, grpSm [.c, .c, .ptr] d107)
def d91 : DomG
  | [[.int .i64 al, .int .i64 ah], [.int .i64 bl, .int .i64 bh], [.int .i64 d]] => some ([M.W (al * d) ≠ 0, M.W (ah * d) ≠ 0], .tup [aRg (M.rate ⟨al, ah⟩ ⟨bl, bh⟩ d), aB (M.rgOk (M.rate ⟨al, ah⟩ ⟨bl, bh⟩ d))])
  | _ => none
def s91 : Nat × Sm := (91, grpSm [.agg, .agg, .c] d91)
def d43 : DomG
  | [[.int .i64 av0, .int .i64 av1, .int .i64 as0, .int .i64 as1, .int .i64 ac0, .int .i64 ac1], [.int .i64 bv0, .int .i64 bv1, .int .i64 bs0, .int .i64 bs1, .int .i64 bc0, .int .i64 bc1], [.int .i64 d]] => some ([], .tup [aRate (M.RatesOf ⟨av0, av1, as0, as1, ac0, ac1⟩ ⟨bv0, bv1, bs0, bs1, bc0, bc1⟩ d).1, aI (M.RatesOf ⟨av0, av1, as0, as1, ac0, ac1⟩ ⟨bv0, bv1, bs0, bs1, bc0, bc1⟩ d).2])
  | _ => none
def s43 : Nat × Sm := (43, grpSm [.agg, .agg, .c] d43)
def d95 : DomG
  | [[.int .i64 d, .int .i64 v0, .int .i64 v1, .int .i64 s0, .int .i64 s1, .int .i64 c0, .int .i64 c1]] => some ([], vI (M.measureErr d ⟨v0, v1, s0, s1, c0, c1⟩))
  | _ => none
def s95 : Nat × Sm := (95, grpSm [.agg] d95)
def d96 : DomG
  | [[.int .i64 da, .int .i64 av0, .int .i64 av1, .int .i64 as0, .int .i64 as1, .int .i64 ac0, .int .i64 ac1], [.int .i64 db, .int .i64 bv0, .int .i64 bv1, .int .i64 bs0, .int .i64 bs1, .int .i64 bc0, .int .i64 bc1]] => some ([], vI (M.betweenErr da db))
  | _ => none
def s96 : Nat × Sm := (96, grpSm [.agg, .agg] d96)
def d97 : DomG
  | [[.int .i64 av0, .int .i64 av1, .int .i64 as0, .int .i64 as1, .int .i64 ac0, .int .i64 ac1], [.int .i64 bv0, .int .i64 bv1, .int .i64 bs0, .int .i64 bs1, .int .i64 bc0, .int .i64 bc1]] => some ([], .tup [aWine (M.commonW ⟨av0, av1, as0, as1, ac0, ac1⟩ ⟨bv0, bv1, bs0, bs1, bc0, bc1⟩), aB (M.wOk (M.commonW ⟨av0, av1, as0, as1, ac0, ac1⟩ ⟨bv0, bv1, bs0, bs1, bc0, bc1⟩))])
  | _ => none
def s97 : Nat × Sm := (97, grpSm [.agg, .agg] d97)
def d45 : DomG
  | [[.int .i64 ra, .int .i64 rb, .int .i64 rc, .int .i64 rd], [.int .i64 da, .int .i64 av0, .int .i64 av1, .int .i64 as0, .int .i64 as1, .int .i64 ac0, .int .i64 ac1], [.int .i64 db, .int .i64 bv0, .int .i64 bv1, .int .i64 bs0, .int .i64 bs1, .int .i64 bc0, .int .i64 bc1]] => some ([], .tup [aI (M.Explains ⟨ra, rb, rc, rd⟩ da ⟨av0, av1, as0, as1, ac0, ac1⟩ db ⟨bv0, bv1, bs0, bs1, bc0, bc1⟩).1, aI (M.Explains ⟨ra, rb, rc, rd⟩ da ⟨av0, av1, as0, as1, ac0, ac1⟩ db ⟨bv0, bv1, bs0, bs1, bc0, bc1⟩).2])
  | _ => none
def s45 : Nat × Sm := (45, grpSm [.agg, .agg, .agg] d45)
def d104 : DomG
  | [[.int .i64 volume], [.int .i64 strength], [.int .i64 target], [.int .i64 spirit]] => some ([M.W (spirit - target) ≠ 0], vI (M.need volume strength target spirit))
  | _ => none
def s104 : Nat × Sm := (104, grpSm [.c, .c, .ptr, .ptr] d104)
def d58 : DomG
  | [[.int .i64 v0, .int .i64 v1, .int .i64 s0, .int .i64 s1, .int .i64 c0, .int .i64 c1], [.int .i64 x], [.int .i64 y]] => some ([], .tup [aRg (M.SpiritFor ⟨v0, v1, s0, s1, c0, c1⟩ x y).1, aI (M.SpiritFor ⟨v0, v1, s0, s1, c0, c1⟩ x y).2])
  | _ => none
def s58 : Nat × Sm := (58, grpSm [.agg, .c, .c] d58)
def d75 : DomG
  | [[.int .i64 lo, .int .i64 hi], [.int .i64 most]] => some ([], vI (M.rangeErr ⟨lo, hi⟩ most))
  | _ => none
def s75 : Nat × Sm := (75, grpSm [.agg, .c] d75)
def d74 : DomG
  | [[.int .i64 a], [.int .i64 b], [.int .i64 c]] => some ([], vI (M.first3 a b c))
  | _ => none
def s74 : Nat × Sm := (74, grpSm [.c, .c, .c] d74)
def d22 : DomG
  | [[.int .i64 v0, .int .i64 v1, .int .i64 s0, .int .i64 s1, .int .i64 c0, .int .i64 c1]] => some ([], vI (M.rCheckWine ⟨v0, v1, s0, s1, c0, c1⟩))
  | _ => none
def s22 : Nat × Sm := (22, grpSm [.agg] d22)
def d24 : DomG
  | [[.int .i64 ra, .int .i64 rb, .int .i64 rc, .int .i64 rd]] => some ([], vI (M.rCheckRate ⟨ra, rb, rc, rd⟩))
  | _ => none
def s24 : Nat × Sm := (24, grpSm [.agg] d24)
def d26 : DomG
  | [[.int .i64 ra, .int .i64 rb, .int .i64 rc, .int .i64 rd]] => some ([], vI (M.rCheckLaw ⟨ra, rb, rc, rd⟩))
  | _ => none
def s26 : Nat × Sm := (26, grpSm [.agg] d26)
def d62 : DomG
  | [[.int .i64 d]] => some ([], vI (M.rDaysErr d))
  | _ => none
def s62 : Nat × Sm := (62, grpSm [.c] d62)
def d65 : DomG
  | [[.int .i64 n]] => some ([], vI (M.rStrengthErr n))
  | _ => none
def s65 : Nat × Sm := (65, grpSm [.c] d65)
def d29 : DomG
  | [[.int .i64 v0, .int .i64 v1, .int .i64 s0, .int .i64 s1, .int .i64 c0, .int .i64 c1], [.int .i64 ra, .int .i64 rb, .int .i64 rc, .int .i64 rd], [.int .i64 d]] => some ([], vI (M.rTaskErr ⟨v0, v1, s0, s1, c0, c1⟩ ⟨ra, rb, rc, rd⟩ d))
  | _ => none
def s29 : Nat × Sm := (29, grpSm [.agg, .agg, .c] d29)
def d83 : DomG
  | [[.int .i64 v0, .int .i64 v1, .int .i64 s0, .int .i64 s1, .int .i64 c0, .int .i64 c1], [.int .i64 ra, .int .i64 rb, .int .i64 rc, .int .i64 rd], [.int .i64 d]] => some ([(M.left (M.Rate.w ⟨ra, rb, rc, rd⟩) d).hi ≠ 0, (M.left (M.Rate.w ⟨ra, rb, rc, rd⟩) d).lo ≠ 0], .a (aRg (M.rStrength ⟨v0, v1, s0, s1, c0, c1⟩ ⟨ra, rb, rc, rd⟩ d)))
  | _ => none
def s83 : Nat × Sm := (83, grpSm [.agg, .agg, .c] d83)
def d30 : DomG
  | [[.int .i64 v0, .int .i64 v1, .int .i64 s0, .int .i64 s1, .int .i64 c0, .int .i64 c1], [.int .i64 ra, .int .i64 rb, .int .i64 rc, .int .i64 rd], [.int .i64 d]] => some ([(M.left (M.Rate.w ⟨ra, rb, rc, rd⟩) d).hi ≠ 0, (M.left (M.Rate.w ⟨ra, rb, rc, rd⟩) d).lo ≠ 0], .tup [aWine (M.rAfter ⟨v0, v1, s0, s1, c0, c1⟩ ⟨ra, rb, rc, rd⟩ d).1, aI (M.rAfter ⟨v0, v1, s0, s1, c0, c1⟩ ⟨ra, rb, rc, rd⟩ d).2])
  | _ => none
def s30 : Nat × Sm := (30, grpSm [.agg, .agg, .c] d30)
def d31 : DomG
  | [[.int .i64 v0, .int .i64 v1, .int .i64 s0, .int .i64 s1, .int .i64 c0, .int .i64 c1], [.int .i64 ra, .int .i64 rb, .int .i64 rc, .int .i64 rd], [.int .i64 d]] => some ([], .a (aRg (M.rLossOf ⟨v0, v1, s0, s1, c0, c1⟩ ⟨ra, rb, rc, rd⟩ d)))
  | _ => none
def s31 : Nat × Sm := (31, grpSm [.agg, .agg, .c] d31)
def d35 : DomG
  | [[.int .i64 v0, .int .i64 v1, .int .i64 s0, .int .i64 s1, .int .i64 c0, .int .i64 c1], [.int .i64 lo, .int .i64 hi]] => some ([], .tup [aWine (M.rDrawn ⟨v0, v1, s0, s1, c0, c1⟩ ⟨lo, hi⟩).1, aI (M.rDrawn ⟨v0, v1, s0, s1, c0, c1⟩ ⟨lo, hi⟩).2])
  | _ => none
def s35 : Nat × Sm := (35, grpSm [.agg, .agg] d35)
def d42 : DomG
  | [[.int .i64 v0, .int .i64 v1, .int .i64 s0, .int .i64 s1, .int .i64 c0, .int .i64 c1], [.int .i64 ra, .int .i64 rb, .int .i64 rc, .int .i64 rd]] => some ([], .tup [aI (M.rLegalIs ⟨v0, v1, s0, s1, c0, c1⟩ ⟨ra, rb, rc, rd⟩).1, aI (M.rLegalIs ⟨v0, v1, s0, s1, c0, c1⟩ ⟨ra, rb, rc, rd⟩).2])
  | _ => none
def s42 : Nat × Sm := (42, grpSm [.agg, .agg] d42)
def d93 : DomG
  | [[.int .i64 al, .int .i64 ah], [.int .i64 bl, .int .i64 bh], [.int .i64 d]] => some ([M.W (al * d) ≠ 0, M.W (ah * d) ≠ 0], .a (aRg (M.rateOf ⟨al, ah⟩ ⟨bl, bh⟩ d)))
  | _ => none
def s93 : Nat × Sm := (93, grpSm [.agg, .agg, .c] d93)
def d44 : DomG
  | [[.int .i64 av0, .int .i64 av1, .int .i64 as0, .int .i64 as1, .int .i64 ac0, .int .i64 ac1], [.int .i64 bv0, .int .i64 bv1, .int .i64 bs0, .int .i64 bs1, .int .i64 bc0, .int .i64 bc1], [.int .i64 d]] => some ([], .tup [aRate (M.rRatesOf ⟨av0, av1, as0, as1, ac0, ac1⟩ ⟨bv0, bv1, bs0, bs1, bc0, bc1⟩ d).1, aI (M.rRatesOf ⟨av0, av1, as0, as1, ac0, ac1⟩ ⟨bv0, bv1, bs0, bs1, bc0, bc1⟩ d).2])
  | _ => none
def s44 : Nat × Sm := (44, grpSm [.agg, .agg, .c] d44)
def d98 : DomG
  | [[.int .i64 d, .int .i64 v0, .int .i64 v1, .int .i64 s0, .int .i64 s1, .int .i64 c0, .int .i64 c1]] => some ([], vI (M.rMeasureErr d ⟨v0, v1, s0, s1, c0, c1⟩))
  | _ => none
def s98 : Nat × Sm := (98, grpSm [.agg] d98)
def d99 : DomG
  | [[.int .i64 da, .int .i64 av0, .int .i64 av1, .int .i64 as0, .int .i64 as1, .int .i64 ac0, .int .i64 ac1], [.int .i64 db, .int .i64 bv0, .int .i64 bv1, .int .i64 bs0, .int .i64 bs1, .int .i64 bc0, .int .i64 bc1]] => some ([], vI (M.rBetweenErr da db))
  | _ => none
def s99 : Nat × Sm := (99, grpSm [.agg, .agg] d99)
def d51 : DomG
  | [[.int .i64 av0, .int .i64 av1, .int .i64 as0, .int .i64 as1, .int .i64 ac0, .int .i64 ac1], [.int .i64 bv0, .int .i64 bv1, .int .i64 bs0, .int .i64 bs1, .int .i64 bc0, .int .i64 bc1]] => some ([], .tup [aWine (M.commonW ⟨av0, av1, as0, as1, ac0, ac1⟩ ⟨bv0, bv1, bs0, bs1, bc0, bc1⟩), aB (M.wOk (M.commonW ⟨av0, av1, as0, as1, ac0, ac1⟩ ⟨bv0, bv1, bs0, bs1, bc0, bc1⟩))])
  | _ => none
def s51 : Nat × Sm := (51, grpSm [.agg, .agg] d51)
def d46 : DomG
  | [[.int .i64 ra, .int .i64 rb, .int .i64 rc, .int .i64 rd], [.int .i64 da, .int .i64 av0, .int .i64 av1, .int .i64 as0, .int .i64 as1, .int .i64 ac0, .int .i64 ac1], [.int .i64 db, .int .i64 bv0, .int .i64 bv1, .int .i64 bs0, .int .i64 bs1, .int .i64 bc0, .int .i64 bc1]] => some ([], .tup [aI (M.rExplains ⟨ra, rb, rc, rd⟩ da ⟨av0, av1, as0, as1, ac0, ac1⟩ db ⟨bv0, bv1, bs0, bs1, bc0, bc1⟩).1, aI (M.rExplains ⟨ra, rb, rc, rd⟩ da ⟨av0, av1, as0, as1, ac0, ac1⟩ db ⟨bv0, bv1, bs0, bs1, bc0, bc1⟩).2])
  | _ => none
def s46 : Nat × Sm := (46, grpSm [.agg, .agg, .agg] d46)
def d106 : DomG
  | [[.int .i64 volume], [.int .i64 own], [.int .i64 x], [.int .i64 y]] => some ([M.W (x - y) ≠ 0], vI (M.needed volume own x y))
  | _ => none
def s106 : Nat × Sm := (106, grpSm [.c, .c, .c, .c] d106)
def d60 : DomG
  | [[.int .i64 v0, .int .i64 v1, .int .i64 s0, .int .i64 s1, .int .i64 c0, .int .i64 c1], [.int .i64 x], [.int .i64 y]] => some ([], .tup [aRg (M.rSpiritFor ⟨v0, v1, s0, s1, c0, c1⟩ x y).1, aI (M.rSpiritFor ⟨v0, v1, s0, s1, c0, c1⟩ x y).2])
  | _ => none
def s60 : Nat × Sm := (60, grpSm [.agg, .c, .c] d60)
def d32 : DomG
  | [[.int .i64 lo, .int .i64 hi], [.int .i64 b]] => some ([M.W (M.W (hi - lo) + 1) ≠ 0], vI (M.pick ⟨lo, hi⟩ b))
  | _ => none
def s32 : Nat × Sm := (32, grpSm [.agg, .c] d32)
def d63 : DomG
  | [[.int .i64 lo, .int .i64 hi], [.int .i64 b]] => some ([M.W (M.W (hi - lo) + 1) ≠ 0], vI (M.pick ⟨lo, hi⟩ b))
  | _ => none
def s63 : Nat × Sm := (63, grpSm [.agg, .c] d63)
def d66 : DomG
  | [[.int .i64 volume], [.int .i64 own], [.int .i64 spirit], [.int .i64 strength], [.int .i64 target]] => some ([], vB (M.reach volume own spirit strength target))
  | _ => none
def s66 : Nat × Sm := (66, grpSm [.c, .c, .c, .c, .c] d66)
def d56 : DomG
  | [[.int .i64 n]] => some ([], .a (aRg (⟨n, n⟩)))
  | _ => none
def s56 : Nat × Sm := (56, grpSm [.c] d56)
def d105 : DomG
  | [[.int .i64 n]] => some ([], .a (aRg (⟨n, n⟩)))
  | _ => none
def s105 : Nat × Sm := (105, grpSm [.c] d105)
def d70 : DomG
  | [] => some ([], .a (aWine (⟨1000, 1000, 1500, 1600, 200, 200⟩)))
  | _ => none
def s70 : Nat × Sm := (70, grpSm [] d70)
def d71 : DomG
  | [] => some ([], .a (aRate (⟨100, 200, 200, 300⟩)))
  | _ => none
def s71 : Nat × Sm := (71, grpSm [] d71)
end Go.Fl
