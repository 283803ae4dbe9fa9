/- Contracts of functions of chapter 3: each one as its plain counterpart says. Laid by a program of mine (wip/gen). -/
import Derived.Test.YtcgdcocmnmkhlaaDoorF2
import Derived.Test.YtcgdcocmnmkhlaaDoorL
namespace Go.Fl
open Go.Eng Go.RowKit Go.Proofs
set_option maxRecDepth 100000
set_option linter.unusedSimpArgs false
set_option linter.unusedVariables false
theorem t27 (v0 : Int) (v1 : Int) (s0 : Int) (s1 : Int) (c0 : Int) (c1 : Int) (ra : Int) (rb : Int) (rc : Int) (rd : Int) (d : Int) : runFn Tryd.prog 1 1 (lookS [s21, s23, s77, s76, s78]) 40 Tryd.f27 [.agg [.int .i64 v0, .int .i64 v1, .int .i64 s0, .int .i64 s1, .int .i64 c0, .int .i64 c1], .agg [.int .i64 ra, .int .i64 rb, .int .i64 rc, .int .i64 rd], .c (.int .i64 d)] gb =
    T.br (M.first [M.checkWine { v0 := v0, v1 := v1, s0 := s0, s1 := s1, c0 := c0, c1 := c1 }, M.checkRate { a := ra, b := rb, c := rc, d := rd }, M.daysErr d] != (0 : Int)) (T.ret (Value.tuple #[Value.agg #[Value.int IntKind.i64 (0 : Int), Value.int IntKind.i64 (0 : Int), Value.int IntKind.i64 (0 : Int), Value.int IntKind.i64 (0 : Int), Value.int IntKind.i64 (0 : Int), Value.int IntKind.i64 (0 : Int)], Value.int IntKind.i64 (M.first [M.checkWine { v0 := v0, v1 := v1, s0 := s0, s1 := s1, c0 := c0, c1 := c1 }, M.checkRate { a := ra, b := rb, c := rc, d := rd }, M.daysErr d])])) (T.need (M.Rg.hi (M.left (M.Rate.w { a := ra, b := rb, c := rc, d := rd }) d) ≠ (0 : Int)) (T.need (M.Rg.lo (M.left (M.Rate.w { a := ra, b := rb, c := rc, d := rd }) d) ≠ (0 : Int)) (T.br (decide (M.Wine.s1 (M.after { v0 := v0, v1 := v1, s0 := s0, s1 := s1, c0 := c0, c1 := c1 } { a := ra, b := rb, c := rc, d := rd } d) > (10000 : Int))) (T.need (decide (M.Wine.s1 (M.after { v0 := v0, v1 := v1, s0 := s0, s1 := s1, c0 := c0, c1 := c1 } { a := ra, b := rb, c := rc, d := rd } d) > (10000 : Int)) = true) (T.ret (Value.tuple #[Value.agg #[Value.int IntKind.i64 (0 : Int), Value.int IntKind.i64 (0 : Int), Value.int IntKind.i64 (0 : Int), Value.int IntKind.i64 (0 : Int), Value.int IntKind.i64 (0 : Int), Value.int IntKind.i64 (0 : Int)], Value.int IntKind.i64 (8 : Int)]))) (T.need (decide (M.Wine.s1 (M.after { v0 := v0, v1 := v1, s0 := s0, s1 := s1, c0 := c0, c1 := c1 } { a := ra, b := rb, c := rc, d := rd } d) > (10000 : Int)) = false) (T.br (decide (M.Wine.c1 (M.after { v0 := v0, v1 := v1, s0 := s0, s1 := s1, c0 := c0, c1 := c1 } { a := ra, b := rb, c := rc, d := rd } d) > (100000 : Int))) (T.ret (Value.tuple #[Value.agg #[Value.int IntKind.i64 (0 : Int), Value.int IntKind.i64 (0 : Int), Value.int IntKind.i64 (0 : Int), Value.int IntKind.i64 (0 : Int), Value.int IntKind.i64 (0 : Int), Value.int IntKind.i64 (0 : Int)], Value.int IntKind.i64 (8 : Int)])) (T.ret (Value.tuple #[Value.agg #[Value.int IntKind.i64 (M.Wine.v0 (M.after { v0 := v0, v1 := v1, s0 := s0, s1 := s1, c0 := c0, c1 := c1 } { a := ra, b := rb, c := rc, d := rd } d)), Value.int IntKind.i64 (M.Wine.v1 (M.after { v0 := v0, v1 := v1, s0 := s0, s1 := s1, c0 := c0, c1 := c1 } { a := ra, b := rb, c := rc, d := rd } d)), Value.int IntKind.i64 (M.Wine.s0 (M.after { v0 := v0, v1 := v1, s0 := s0, s1 := s1, c0 := c0, c1 := c1 } { a := ra, b := rb, c := rc, d := rd } d)), Value.int IntKind.i64 (M.Wine.s1 (M.after { v0 := v0, v1 := v1, s0 := s0, s1 := s1, c0 := c0, c1 := c1 } { a := ra, b := rb, c := rc, d := rd } d)), Value.int IntKind.i64 (M.Wine.c0 (M.after { v0 := v0, v1 := v1, s0 := s0, s1 := s1, c0 := c0, c1 := c1 } { a := ra, b := rb, c := rc, d := rd } d)), Value.int IntKind.i64 (M.Wine.c1 (M.after { v0 := v0, v1 := v1, s0 := s0, s1 := s1, c0 := c0, c1 := c1 } { a := ra, b := rb, c := rc, d := rd } d))], Value.int IntKind.i64 (0 : Int)]))))))) := by kernel_rfl
theorem C27 : GOK Tryd.prog gw 27 [.agg, .agg, .c] d27 := by
  intro gs p v hd hp w xs hw hx
  unfold d27 at hd
  split at hd
  · cases hd
    refine grp_fin mixed gw_stable gw_glob (sl := [s21, s23, s77, s76, s78]) ⟨S21, S23, S77, S76, S78, trivial⟩ Tryd.func27 hw hx rfl rfl rfl rfl (t27 _ _ _ _ _ _ _ _ _ _ _) rfl ?_
    simp only [T.wp]
    repeat' (first | with_reducible assumption | decide | with_reducible exact L.task_hi (by with_reducible assumption) | with_reducible exact L.task_lo (by with_reducible assumption) | refine ⟨?_, ?_⟩ | intro _)
    all_goals (try simp only [Bool.not_eq_true', Bool.not_eq_false'] at *)
    all_goals (first | rfl | (simp only [M.After, M.taskErr, M.Wine.v, M.Wine.s, M.Wine.c, M.Rate.w, M.Rate.al, M.wine0, M.rg0, M.rate0, cond_true, cond_false, decide_true, decide_false, *]; done) | (simp only [M.After, M.taskErr, M.Wine.v, M.Wine.s, M.Wine.c, M.Rate.w, M.Rate.al, M.wine0, M.rg0, M.rate0, cond_true, cond_false]; grind))
  · cases hd
theorem S27 : SumOK Tryd.prog gw 27 (grpSm [.agg, .agg, .c] d27) := grp_sum Tryd.func27 rfl C27
theorem t28 (v0 : Int) (v1 : Int) (s0 : Int) (s1 : Int) (c0 : Int) (c1 : Int) (ra : Int) (rb : Int) (rc : Int) (rd : Int) (d : Int) : runFn Tryd.prog 1 1 (lookS [s21, s23, s77, s76, s79, s80, s81]) 40 Tryd.f28 [.agg [.int .i64 v0, .int .i64 v1, .int .i64 s0, .int .i64 s1, .int .i64 c0, .int .i64 c1], .agg [.int .i64 ra, .int .i64 rb, .int .i64 rc, .int .i64 rd], .c (.int .i64 d)] gb =
    T.br (M.first [M.checkWine { v0 := v0, v1 := v1, s0 := s0, s1 := s1, c0 := c0, c1 := c1 }, M.checkRate { a := ra, b := rb, c := rc, d := rd }, M.daysErr d] != (0 : Int)) (T.ret (Value.tuple #[Value.agg #[Value.int IntKind.i64 (0 : Int), Value.int IntKind.i64 (0 : Int)], Value.int IntKind.i64 (M.first [M.checkWine { v0 := v0, v1 := v1, s0 := s0, s1 := s1, c0 := c0, c1 := c1 }, M.checkRate { a := ra, b := rb, c := rc, d := rd }, M.daysErr d])])) (T.need ((1000000 : Int) ≠ (0 : Int)) (T.need ((1000000 : Int) ≠ (0 : Int)) (T.ret (Value.tuple #[Value.agg #[Value.int IntKind.i64 (M.floor (IntKind.wrap IntKind.i64 (v0 * IntKind.wrap IntKind.i64 ((1000000 : Int) - M.Rg.hi (M.left { lo := ra, hi := rb } d)))) (1000000 : Int)), Value.int IntKind.i64 (M.ceiling (IntKind.wrap IntKind.i64 (v1 * IntKind.wrap IntKind.i64 ((1000000 : Int) - M.Rg.lo (M.left { lo := ra, hi := rb } d)))) (1000000 : Int))], Value.int IntKind.i64 (0 : Int)])))) := by kernel_rfl
theorem C28 : GOK Tryd.prog gw 28 [.agg, .agg, .c] d28 := by
  intro gs p v hd hp w xs hw hx
  unfold d28 at hd
  split at hd
  · cases hd
    refine grp_fin mixed gw_stable gw_glob (sl := [s21, s23, s77, s76, s79, s80, s81]) ⟨S21, S23, S77, S76, S79, S80, S81, trivial⟩ Tryd.func28 hw hx rfl rfl rfl rfl (t28 _ _ _ _ _ _ _ _ _ _ _) rfl ?_
    simp only [T.wp]
    repeat' (first | with_reducible assumption | decide | refine ⟨?_, ?_⟩ | intro _)
    all_goals (try simp only [Bool.not_eq_true', Bool.not_eq_false'] at *)
    all_goals (first | rfl | (simp only [M.LossOf, M.taskErr, M.lossOf, M.Wine.v, M.Wine.s, M.Wine.c, M.Rate.w, M.Rate.al, M.wine0, M.rg0, M.rate0, cond_true, cond_false, decide_true, decide_false, *]; done) | (simp only [M.LossOf, M.taskErr, M.lossOf, M.Wine.v, M.Wine.s, M.Wine.c, M.Rate.w, M.Rate.al, M.wine0, M.rg0, M.rate0, cond_true, cond_false]; grind))
  · cases hd
theorem S28 : SumOK Tryd.prog gw 28 (grpSm [.agg, .agg, .c] d28) := grp_sum Tryd.func28 rfl C28
theorem t58 (v0 : Int) (v1 : Int) (s0 : Int) (s1 : Int) (c0 : Int) (c1 : Int) (x : Int) (y : Int) : runFn Tryd.prog 1 1 (lookS [s21, s86, s85, s76, s104]) 40 Tryd.f58 [.agg [.int .i64 v0, .int .i64 v1, .int .i64 s0, .int .i64 s1, .int .i64 c0, .int .i64 c1], .c (.int .i64 x), .c (.int .i64 y)] gb =
    T.br (M.first [M.checkWine { v0 := v0, v1 := v1, s0 := s0, s1 := s1, c0 := c0, c1 := c1 }, M.strengthErr x, M.strengthErr y, M.unl (decide (x > y)) (11 : Int)] != (0 : Int)) (T.ret (Value.tuple #[Value.agg #[Value.int IntKind.i64 (0 : Int), Value.int IntKind.i64 (0 : Int)], Value.int IntKind.i64 (M.first [M.checkWine { v0 := v0, v1 := v1, s0 := s0, s1 := s1, c0 := c0, c1 := c1 }, M.strengthErr x, M.strengthErr y, M.unl (decide (x > y)) (11 : Int)])])) (T.need (M.W (x - y) ≠ (0 : Int)) (T.need (M.W (x - y) ≠ (0 : Int)) (T.br (decide (M.need v1 s0 y x > (100000 : Int))) (T.ret (Value.tuple #[Value.agg #[Value.int IntKind.i64 (0 : Int), Value.int IntKind.i64 (0 : Int)], Value.int IntKind.i64 (8 : Int)])) (T.ret (Value.tuple #[Value.agg #[Value.int IntKind.i64 (M.need v0 s1 y x), Value.int IntKind.i64 (M.need v1 s0 y x)], Value.int IntKind.i64 (0 : Int)]))))) := by kernel_rfl
theorem C58 : GOK Tryd.prog gw 58 [.agg, .c, .c] d58 := by
  intro gs p v hd hp w xs hw hx
  unfold d58 at hd
  split at hd
  · cases hd
    refine grp_fin mixed gw_stable gw_glob (sl := [s21, s86, s85, s76, s104]) ⟨S21, S86, S85, S76, S104, trivial⟩ Tryd.func58 hw hx rfl rfl rfl rfl (t58 _ _ _ _ _ _ _ _) rfl ?_
    simp only [T.wp]
    repeat' (first | with_reducible assumption | decide | with_reducible exact L.spirit_ne (by with_reducible assumption) | refine ⟨?_, ?_⟩ | intro _)
    all_goals (try simp only [Bool.not_eq_true', Bool.not_eq_false'] at *)
    all_goals (first | rfl | (simp only [M.SpiritFor, M.spiritErr, M.Wine.v, M.Wine.s, M.Wine.c, M.Rate.w, M.Rate.al, M.wine0, M.rg0, M.rate0, cond_true, cond_false, decide_true, decide_false, *]; done) | (simp only [M.SpiritFor, M.spiritErr, M.Wine.v, M.Wine.s, M.Wine.c, M.Rate.w, M.Rate.al, M.wine0, M.rg0, M.rate0, cond_true, cond_false]; grind))
  · cases hd
theorem S58 : SumOK Tryd.prog gw 58 (grpSm [.agg, .c, .c] d58) := grp_sum Tryd.func58 rfl C58
end Go.Fl
