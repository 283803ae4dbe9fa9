/- Contracts of functions of chapter 3: each one as its plain counterpart says. Laid by a program of mine (wip/gen). -/
import Derived.Test.YtcgdcocmnmkhlaaDoorF0
namespace Go.Fl
open Go.Eng Go.RowKit Go.Proofs
set_option maxRecDepth 100000
set_option linter.unusedSimpArgs false
set_option linter.unusedVariables false
theorem t90 (n : Int) (lo : Int) (hi : Int) : runFn Tryd.prog 1 1 (lookS []) 40 Tryd.f90 [.c (.int .i64 n), .c (.int .i64 lo), .c (.int .i64 hi)] gb =
    T.br (decide (lo ≤ n)) (T.need (decide (lo ≤ n) = true) (T.ret (Value.bool (decide (n ≤ hi))))) (T.need (decide (lo ≤ n) = false) (T.ret (Value.bool false))) := by kernel_rfl
theorem C90 : GOK Tryd.prog gw 90 [.c, .c, .c] d90 := by
  intro gs p v hd hp w xs hw hx
  unfold d90 at hd
  split at hd
  · cases hd
    refine grp_fin mixed gw_stable gw_glob (sl := []) trivial Tryd.func90 hw hx rfl rfl rfl rfl (t90 _ _ _) rfl ?_
    simp only [T.wp]
    repeat' (first | assumption | decide | refine ⟨?_, ?_⟩ | intro _)
    all_goals (first | rfl | (simp only [M.within, M.Wine.v, M.Wine.s, M.Wine.c, M.Rate.w, M.Rate.al, cond_true, cond_false, *]; done))
  · cases hd
theorem S90 : SumOK Tryd.prog gw 90 (grpSm [.c, .c, .c] d90) := grp_sum Tryd.func90 rfl C90
theorem t55 (n : Int) (lo : Int) (hi : Int) : runFn Tryd.prog 1 1 (lookS []) 40 Tryd.f55 [.c (.int .i64 n), .c (.int .i64 lo), .c (.int .i64 hi)] gb =
    T.br (decide (lo ≤ n)) (T.need (decide (lo ≤ n) = true) (T.ret (Value.bool (decide (n ≤ hi))))) (T.need (decide (lo ≤ n) = false) (T.ret (Value.bool false))) := by kernel_rfl
theorem C55 : GOK Tryd.prog gw 55 [.c, .c, .c] d55 := by
  intro gs p v hd hp w xs hw hx
  unfold d55 at hd
  split at hd
  · cases hd
    refine grp_fin mixed gw_stable gw_glob (sl := []) trivial Tryd.func55 hw hx rfl rfl rfl rfl (t55 _ _ _) rfl ?_
    simp only [T.wp]
    repeat' (first | assumption | decide | refine ⟨?_, ?_⟩ | intro _)
    all_goals (first | rfl | (simp only [M.within, M.Wine.v, M.Wine.s, M.Wine.c, M.Rate.w, M.Rate.al, cond_true, cond_false, *]; done))
  · cases hd
theorem S55 : SumOK Tryd.prog gw 55 (grpSm [.c, .c, .c] d55) := grp_sum Tryd.func55 rfl C55
theorem t85 (ok : Bool) (e : Int) : runFn Tryd.prog 1 1 (lookS []) 40 Tryd.f85 [.c (.bool ok), .c (.int .i64 e)] gb =
    T.br ok (T.ret (Value.int IntKind.i64 (0 : Int))) (T.ret (Value.int IntKind.i64 e)) := by kernel_rfl
theorem C85 : GOK Tryd.prog gw 85 [.c, .c] d85 := by
  intro gs p v hd hp w xs hw hx
  unfold d85 at hd
  split at hd
  · cases hd
    refine grp_fin mixed gw_stable gw_glob (sl := []) trivial Tryd.func85 hw hx rfl rfl rfl rfl (t85 _ _) rfl ?_
    simp only [T.wp]
    repeat' (first | assumption | decide | refine ⟨?_, ?_⟩ | intro _)
    all_goals (first | rfl | (simp only [M.unl, M.Wine.v, M.Wine.s, M.Wine.c, M.Rate.w, M.Rate.al, cond_true, cond_false, *]; done))
  · cases hd
theorem S85 : SumOK Tryd.prog gw 85 (grpSm [.c, .c] d85) := grp_sum Tryd.func85 rfl C85
theorem t80 (n : Int) (b : Int) : runFn Tryd.prog 1 1 (lookS []) 40 Tryd.f80 [.c (.int .i64 n), .c (.int .i64 b)] gb =
    T.need (b ≠ (0 : Int)) (T.need (b ≠ (0 : Int)) (T.br (decide (Int.tmod n b < (0 : Int))) (T.ret (Value.int IntKind.i64 (IntKind.wrap IntKind.i64 (IntKind.wrap IntKind.i64 (Int.tdiv n b) - (1 : Int))))) (T.ret (Value.int IntKind.i64 (IntKind.wrap IntKind.i64 (Int.tdiv n b)))))) := by kernel_rfl
theorem C80 : GOK Tryd.prog gw 80 [.c, .c] d80 := by
  intro gs p v hd hp w xs hw hx
  unfold d80 at hd
  split at hd
  · cases hd
    refine grp_fin mixed gw_stable gw_glob (sl := []) trivial Tryd.func80 hw hx rfl rfl rfl rfl (t80 _ _) rfl ?_
    obtain ⟨hp0, _⟩ := hp
    simp only [T.wp]
    repeat' (first | assumption | decide | refine ⟨?_, ?_⟩ | intro _)
    all_goals (first | rfl | (simp only [M.floor, M.Wine.v, M.Wine.s, M.Wine.c, M.Rate.w, M.Rate.al, cond_true, cond_false, *]; done))
  · cases hd
theorem S80 : SumOK Tryd.prog gw 80 (grpSm [.c, .c] d80) := grp_sum Tryd.func80 rfl C80
theorem t68 (n : Int) (b : Int) : runFn Tryd.prog 1 1 (lookS []) 40 Tryd.f68 [.c (.int .i64 n), .c (.int .i64 b)] gb =
    T.need (b ≠ (0 : Int)) (T.need (b ≠ (0 : Int)) (T.br (decide (Int.tmod n b < (0 : Int))) (T.ret (Value.int IntKind.i64 (IntKind.wrap IntKind.i64 (IntKind.wrap IntKind.i64 (Int.tdiv n b) - (1 : Int))))) (T.ret (Value.int IntKind.i64 (IntKind.wrap IntKind.i64 (Int.tdiv n b)))))) := by kernel_rfl
theorem C68 : GOK Tryd.prog gw 68 [.c, .c] d68 := by
  intro gs p v hd hp w xs hw hx
  unfold d68 at hd
  split at hd
  · cases hd
    refine grp_fin mixed gw_stable gw_glob (sl := []) trivial Tryd.func68 hw hx rfl rfl rfl rfl (t68 _ _) rfl ?_
    obtain ⟨hp0, _⟩ := hp
    simp only [T.wp]
    repeat' (first | assumption | decide | refine ⟨?_, ?_⟩ | intro _)
    all_goals (first | rfl | (simp only [M.floor, M.Wine.v, M.Wine.s, M.Wine.c, M.Rate.w, M.Rate.al, cond_true, cond_false, *]; done))
  · cases hd
theorem S68 : SumOK Tryd.prog gw 68 (grpSm [.c, .c] d68) := grp_sum Tryd.func68 rfl C68
theorem t81 (n : Int) (b : Int) : runFn Tryd.prog 1 1 (lookS [s80]) 40 Tryd.f81 [.c (.int .i64 n), .c (.int .i64 b)] gb =
    T.need (b ≠ (0 : Int)) (T.ret (Value.int IntKind.i64 (IntKind.wrap IntKind.i64 ((0 : Int) - M.floor (IntKind.wrap IntKind.i64 ((0 : Int) - n)) b)))) := by kernel_rfl
theorem C81 : GOK Tryd.prog gw 81 [.c, .c] d81 := by
  intro gs p v hd hp w xs hw hx
  unfold d81 at hd
  split at hd
  · cases hd
    refine grp_fin mixed gw_stable gw_glob (sl := [s80]) ⟨S80, trivial⟩ Tryd.func81 hw hx rfl rfl rfl rfl (t81 _ _) rfl ?_
    obtain ⟨hp0, _⟩ := hp
    simp only [T.wp]
    repeat' (first | assumption | decide | refine ⟨?_, ?_⟩ | intro _)
    all_goals (first | rfl | (simp only [M.ceiling, M.Wine.v, M.Wine.s, M.Wine.c, M.Rate.w, M.Rate.al, cond_true, cond_false, *]; done))
  · cases hd
theorem S81 : SumOK Tryd.prog gw 81 (grpSm [.c, .c] d81) := grp_sum Tryd.func81 rfl C81
theorem t69 (n : Int) (b : Int) : runFn Tryd.prog 1 1 (lookS [s68]) 40 Tryd.f69 [.c (.int .i64 n), .c (.int .i64 b)] gb =
    T.need (b ≠ (0 : Int)) (T.ret (Value.int IntKind.i64 (IntKind.wrap IntKind.i64 ((0 : Int) - M.floor (IntKind.wrap IntKind.i64 ((0 : Int) - n)) b)))) := by kernel_rfl
theorem C69 : GOK Tryd.prog gw 69 [.c, .c] d69 := by
  intro gs p v hd hp w xs hw hx
  unfold d69 at hd
  split at hd
  · cases hd
    refine grp_fin mixed gw_stable gw_glob (sl := [s68]) ⟨S68, trivial⟩ Tryd.func69 hw hx rfl rfl rfl rfl (t69 _ _) rfl ?_
    obtain ⟨hp0, _⟩ := hp
    simp only [T.wp]
    repeat' (first | assumption | decide | refine ⟨?_, ?_⟩ | intro _)
    all_goals (first | rfl | (simp only [M.ceiling, M.Wine.v, M.Wine.s, M.Wine.c, M.Rate.w, M.Rate.al, cond_true, cond_false, *]; done))
  · cases hd
theorem S69 : SumOK Tryd.prog gw 69 (grpSm [.c, .c] d69) := grp_sum Tryd.func69 rfl C69
theorem t67 (n : Int) (b : Int) : runFn Tryd.prog 1 1 (lookS []) 40 Tryd.f67 [.c (.int .i64 n), .c (.int .i64 b)] gb =
    T.need (b ≠ (0 : Int)) (T.br (decide (Int.tmod n b < (0 : Int))) (T.ret (Value.int IntKind.i64 (IntKind.wrap IntKind.i64 (Int.tmod n b + b)))) (T.ret (Value.int IntKind.i64 (Int.tmod n b)))) := by kernel_rfl
theorem C67 : GOK Tryd.prog gw 67 [.c, .c] d67 := by
  intro gs p v hd hp w xs hw hx
  unfold d67 at hd
  split at hd
  · cases hd
    refine grp_fin mixed gw_stable gw_glob (sl := []) trivial Tryd.func67 hw hx rfl rfl rfl rfl (t67 _ _) rfl ?_
    obtain ⟨hp0, _⟩ := hp
    simp only [T.wp]
    repeat' (first | assumption | decide | refine ⟨?_, ?_⟩ | intro _)
    all_goals (first | rfl | (simp only [M.mod, M.Wine.v, M.Wine.s, M.Wine.c, M.Rate.w, M.Rate.al, cond_true, cond_false, *]; done))
  · cases hd
theorem S67 : SumOK Tryd.prog gw 67 (grpSm [.c, .c] d67) := grp_sum Tryd.func67 rfl C67
theorem t73 (lo : Int) (hi : Int) (most : Int) : runFn Tryd.prog 1 1 (lookS [s90, s85, s76]) 40 Tryd.f73 [.agg [.int .i64 lo, .int .i64 hi], .c (.int .i64 most)] gb =
    T.br (M.within lo (0 : Int) most) (T.need (M.within lo (0 : Int) most = true) (T.ret (Value.int IntKind.i64 (M.first [M.unl (M.within hi (0 : Int) most) (2 : Int), M.unl (decide (lo ≤ hi)) (9 : Int)])))) (T.need (M.within lo (0 : Int) most = false) (T.ret (Value.int IntKind.i64 (M.first [M.unl false (2 : Int), M.unl (decide (lo ≤ hi)) (9 : Int)])))) := by kernel_rfl
theorem C73 : GOK Tryd.prog gw 73 [.agg, .c] d73 := by
  intro gs p v hd hp w xs hw hx
  unfold d73 at hd
  split at hd
  · cases hd
    refine grp_fin mixed gw_stable gw_glob (sl := [s90, s85, s76]) ⟨S90, S85, S76, trivial⟩ Tryd.func73 hw hx rfl rfl rfl rfl (t73 _ _ _) rfl ?_
    simp only [T.wp]
    repeat' (first | assumption | decide | refine ⟨?_, ?_⟩ | intro _)
    all_goals (first | rfl | (simp only [M.spanErr, M.Wine.v, M.Wine.s, M.Wine.c, M.Rate.w, M.Rate.al, cond_true, cond_false, *]; done))
  · cases hd
theorem S73 : SumOK Tryd.prog gw 73 (grpSm [.agg, .c] d73) := grp_sum Tryd.func73 rfl C73
theorem t79 (lo : Int) (hi : Int) (d : Int) : runFn Tryd.prog 1 1 (lookS []) 40 Tryd.f79 [.agg [.int .i64 lo, .int .i64 hi], .c (.int .i64 d)] gb =
    T.ret (Value.agg #[Value.int IntKind.i64 (IntKind.wrap IntKind.i64 ((1000000 : Int) - IntKind.wrap IntKind.i64 (hi * d))), Value.int IntKind.i64 (IntKind.wrap IntKind.i64 ((1000000 : Int) - IntKind.wrap IntKind.i64 (lo * d)))]) := by kernel_rfl
theorem C79 : GOK Tryd.prog gw 79 [.agg, .c] d79 := by
  intro gs p v hd hp w xs hw hx
  unfold d79 at hd
  split at hd
  · cases hd
    refine grp_fin mixed gw_stable gw_glob (sl := []) trivial Tryd.func79 hw hx rfl rfl rfl rfl (t79 _ _ _) rfl ?_
    simp only [T.wp]
    repeat' (first | assumption | decide | refine ⟨?_, ?_⟩ | intro _)
    all_goals (first | rfl | (simp only [M.left, M.Wine.v, M.Wine.s, M.Wine.c, M.Rate.w, M.Rate.al, cond_true, cond_false, *]; done))
  · cases hd
theorem S79 : SumOK Tryd.prog gw 79 (grpSm [.agg, .c] d79) := grp_sum Tryd.func79 rfl C79
theorem t82 (lo : Int) (hi : Int) (d : Int) : runFn Tryd.prog 1 1 (lookS []) 40 Tryd.f82 [.agg [.int .i64 lo, .int .i64 hi], .c (.int .i64 d)] gb =
    T.ret (Value.agg #[Value.int IntKind.i64 (IntKind.wrap IntKind.i64 ((1000000 : Int) - IntKind.wrap IntKind.i64 (hi * d))), Value.int IntKind.i64 (IntKind.wrap IntKind.i64 ((1000000 : Int) - IntKind.wrap IntKind.i64 (lo * d)))]) := by kernel_rfl
theorem C82 : GOK Tryd.prog gw 82 [.agg, .c] d82 := by
  intro gs p v hd hp w xs hw hx
  unfold d82 at hd
  split at hd
  · cases hd
    refine grp_fin mixed gw_stable gw_glob (sl := []) trivial Tryd.func82 hw hx rfl rfl rfl rfl (t82 _ _ _) rfl ?_
    simp only [T.wp]
    repeat' (first | assumption | decide | refine ⟨?_, ?_⟩ | intro _)
    all_goals (first | rfl | (simp only [M.left, M.Wine.v, M.Wine.s, M.Wine.c, M.Rate.w, M.Rate.al, cond_true, cond_false, *]; done))
  · cases hd
theorem S82 : SumOK Tryd.prog gw 82 (grpSm [.agg, .c] d82) := grp_sum Tryd.func82 rfl C82
theorem t72 (v0 : Int) (v1 : Int) (s0 : Int) (s1 : Int) (c0 : Int) (c1 : Int) : runFn Tryd.prog 1 1 (lookS []) 40 Tryd.f72 [.agg [.int .i64 v0, .int .i64 v1, .int .i64 s0, .int .i64 s1, .int .i64 c0, .int .i64 c1]] gb =
    T.ret (Value.agg #[Value.int IntKind.i64 v0, Value.int IntKind.i64 v1, Value.int IntKind.i64 s0, Value.int IntKind.i64 s1, Value.int IntKind.i64 c0, Value.int IntKind.i64 c1]) := by kernel_rfl
theorem C72 : GOK Tryd.prog gw 72 [.agg] d72 := by
  intro gs p v hd hp w xs hw hx
  unfold d72 at hd
  split at hd
  · cases hd
    refine grp_fin mixed gw_stable gw_glob (sl := []) trivial Tryd.func72 hw hx rfl rfl rfl rfl (t72 _ _ _ _ _ _) rfl ?_
    simp only [T.wp]
    repeat' (first | assumption | decide | refine ⟨?_, ?_⟩ | intro _)
    all_goals (first | rfl | (simp only [M.Wine.v, M.Wine.s, M.Wine.c, M.Rate.w, M.Rate.al, cond_true, cond_false, *]; done))
  · cases hd
theorem S72 : SumOK Tryd.prog gw 72 (grpSm [.agg] d72) := grp_sum Tryd.func72 rfl C72
theorem t108 (v0 : Int) (v1 : Int) (s0 : Int) (s1 : Int) (c0 : Int) (c1 : Int) : runFn Tryd.prog 1 1 (lookS []) 40 Tryd.f108 [.agg [.int .i64 v0, .int .i64 v1, .int .i64 s0, .int .i64 s1, .int .i64 c0, .int .i64 c1]] gb =
    T.ret (Value.agg #[Value.int IntKind.i64 v0, Value.int IntKind.i64 v1, Value.int IntKind.i64 s0, Value.int IntKind.i64 s1, Value.int IntKind.i64 c0, Value.int IntKind.i64 c1]) := by kernel_rfl
theorem C108 : GOK Tryd.prog gw 108 [.agg] d108 := by
  intro gs p v hd hp w xs hw hx
  unfold d108 at hd
  split at hd
  · cases hd
    refine grp_fin mixed gw_stable gw_glob (sl := []) trivial Tryd.func108 hw hx rfl rfl rfl rfl (t108 _ _ _ _ _ _) rfl ?_
    simp only [T.wp]
    repeat' (first | assumption | decide | refine ⟨?_, ?_⟩ | intro _)
    all_goals (first | rfl | (simp only [M.Wine.v, M.Wine.s, M.Wine.c, M.Rate.w, M.Rate.al, cond_true, cond_false, *]; done))
  · cases hd
theorem S108 : SumOK Tryd.prog gw 108 (grpSm [.agg] d108) := grp_sum Tryd.func108 rfl C108
theorem t77 (d : Int) : runFn Tryd.prog 1 1 (lookS [s90, s85]) 40 Tryd.f77 [.c (.int .i64 d)] gb =
    T.ret (Value.int IntKind.i64 (M.unl (M.within d (0 : Int) (365 : Int)) (2 : Int))) := by kernel_rfl
theorem C77 : GOK Tryd.prog gw 77 [.c] d77 := by
  intro gs p v hd hp w xs hw hx
  unfold d77 at hd
  split at hd
  · cases hd
    refine grp_fin mixed gw_stable gw_glob (sl := [s90, s85]) ⟨S90, S85, trivial⟩ Tryd.func77 hw hx rfl rfl rfl rfl (t77 _) rfl ?_
    simp only [T.wp]
    repeat' (first | assumption | decide | refine ⟨?_, ?_⟩ | intro _)
    all_goals (first | rfl | (simp only [M.daysErr, M.Wine.v, M.Wine.s, M.Wine.c, M.Rate.w, M.Rate.al, cond_true, cond_false, *]; done))
  · cases hd
theorem S77 : SumOK Tryd.prog gw 77 (grpSm [.c] d77) := grp_sum Tryd.func77 rfl C77
theorem t86 (n : Int) : runFn Tryd.prog 1 1 (lookS [s90, s85]) 40 Tryd.f86 [.c (.int .i64 n)] gb =
    T.ret (Value.int IntKind.i64 (M.unl (M.within n (0 : Int) (10000 : Int)) (2 : Int))) := by kernel_rfl
theorem C86 : GOK Tryd.prog gw 86 [.c] d86 := by
  intro gs p v hd hp w xs hw hx
  unfold d86 at hd
  split at hd
  · cases hd
    refine grp_fin mixed gw_stable gw_glob (sl := [s90, s85]) ⟨S90, S85, trivial⟩ Tryd.func86 hw hx rfl rfl rfl rfl (t86 _) rfl ?_
    simp only [T.wp]
    repeat' (first | assumption | decide | refine ⟨?_, ?_⟩ | intro _)
    all_goals (first | rfl | (simp only [M.strengthErr, M.Wine.v, M.Wine.s, M.Wine.c, M.Rate.w, M.Rate.al, cond_true, cond_false, *]; done))
  · cases hd
theorem S86 : SumOK Tryd.prog gw 86 (grpSm [.c] d86) := grp_sum Tryd.func86 rfl C86
theorem t21 (v0 : Int) (v1 : Int) (s0 : Int) (s1 : Int) (c0 : Int) (c1 : Int) : runFn Tryd.prog 1 1 (lookS [s72, s73]) 40 Tryd.f21 [.agg [.int .i64 v0, .int .i64 v1, .int .i64 s0, .int .i64 s1, .int .i64 c0, .int .i64 c1]] gb =
    T.br (M.spanErr { lo := M.Wine.v0 { v0 := v0, v1 := v1, s0 := s0, s1 := s1, c0 := c0, c1 := c1 }, hi := M.Wine.v1 { v0 := v0, v1 := v1, s0 := s0, s1 := s1, c0 := c0, c1 := c1 } } (100000 : Int) != (0 : Int)) (T.ret (Value.int IntKind.i64 (M.spanErr { lo := M.Wine.v0 { v0 := v0, v1 := v1, s0 := s0, s1 := s1, c0 := c0, c1 := c1 }, hi := M.Wine.v1 { v0 := v0, v1 := v1, s0 := s0, s1 := s1, c0 := c0, c1 := c1 } } (100000 : Int)))) (T.br (M.spanErr { lo := M.Wine.s0 { v0 := v0, v1 := v1, s0 := s0, s1 := s1, c0 := c0, c1 := c1 }, hi := M.Wine.s1 { v0 := v0, v1 := v1, s0 := s0, s1 := s1, c0 := c0, c1 := c1 } } (10000 : Int) != (0 : Int)) (T.ret (Value.int IntKind.i64 (M.spanErr { lo := M.Wine.s0 { v0 := v0, v1 := v1, s0 := s0, s1 := s1, c0 := c0, c1 := c1 }, hi := M.Wine.s1 { v0 := v0, v1 := v1, s0 := s0, s1 := s1, c0 := c0, c1 := c1 } } (10000 : Int)))) (T.br (M.spanErr { lo := M.Wine.c0 { v0 := v0, v1 := v1, s0 := s0, s1 := s1, c0 := c0, c1 := c1 }, hi := M.Wine.c1 { v0 := v0, v1 := v1, s0 := s0, s1 := s1, c0 := c0, c1 := c1 } } (100000 : Int) != (0 : Int)) (T.ret (Value.int IntKind.i64 (M.spanErr { lo := M.Wine.c0 { v0 := v0, v1 := v1, s0 := s0, s1 := s1, c0 := c0, c1 := c1 }, hi := M.Wine.c1 { v0 := v0, v1 := v1, s0 := s0, s1 := s1, c0 := c0, c1 := c1 } } (100000 : Int)))) (T.ret (Value.int IntKind.i64 (0 : Int))))) := by kernel_rfl
theorem C21 : GOK Tryd.prog gw 21 [.agg] d21 := by
  intro gs p v hd hp w xs hw hx
  unfold d21 at hd
  split at hd
  · cases hd
    refine grp_fin mixed gw_stable gw_glob (sl := [s72, s73]) ⟨S72, S73, trivial⟩ Tryd.func21 hw hx rfl rfl rfl rfl (t21 _ _ _ _ _ _) rfl ?_
    simp only [T.wp]
    repeat' (first | assumption | decide | refine ⟨?_, ?_⟩ | intro _)
    all_goals (first | rfl | (simp only [M.checkWine, M.Wine.v, M.Wine.s, M.Wine.c, M.Rate.w, M.Rate.al, cond_true, cond_false, *]; done))
  · cases hd
theorem S21 : SumOK Tryd.prog gw 21 (grpSm [.agg] d21) := grp_sum Tryd.func21 rfl C21
theorem t23 (ra : Int) (rb : Int) (rc : Int) (rd : Int) : runFn Tryd.prog 1 1 (lookS [s73, s76]) 40 Tryd.f23 [.agg [.int .i64 ra, .int .i64 rb, .int .i64 rc, .int .i64 rd]] gb =
    T.ret (Value.int IntKind.i64 (M.first [M.spanErr { lo := ra, hi := rb } (2000 : Int), M.spanErr { lo := rc, hi := rd } (2000 : Int)])) := by kernel_rfl
theorem C23 : GOK Tryd.prog gw 23 [.agg] d23 := by
  intro gs p v hd hp w xs hw hx
  unfold d23 at hd
  split at hd
  · cases hd
    refine grp_fin mixed gw_stable gw_glob (sl := [s73, s76]) ⟨S73, S76, trivial⟩ Tryd.func23 hw hx rfl rfl rfl rfl (t23 _ _ _ _) rfl ?_
    simp only [T.wp]
    repeat' (first | assumption | decide | refine ⟨?_, ?_⟩ | intro _)
    all_goals (first | rfl | (simp only [M.checkRate, M.Wine.v, M.Wine.s, M.Wine.c, M.Rate.w, M.Rate.al, cond_true, cond_false, *]; done))
  · cases hd
theorem S23 : SumOK Tryd.prog gw 23 (grpSm [.agg] d23) := grp_sum Tryd.func23 rfl C23
theorem t25 (ra : Int) (rb : Int) (rc : Int) (rd : Int) : runFn Tryd.prog 1 1 (lookS [s73, s76]) 40 Tryd.f25 [.agg [.int .i64 ra, .int .i64 rb, .int .i64 rc, .int .i64 rd]] gb =
    T.ret (Value.int IntKind.i64 (M.first [M.spanErr { lo := ra, hi := rb } (10000 : Int), M.spanErr { lo := rc, hi := rd } (100000 : Int)])) := by kernel_rfl
theorem C25 : GOK Tryd.prog gw 25 [.agg] d25 := by
  intro gs p v hd hp w xs hw hx
  unfold d25 at hd
  split at hd
  · cases hd
    refine grp_fin mixed gw_stable gw_glob (sl := [s73, s76]) ⟨S73, S76, trivial⟩ Tryd.func25 hw hx rfl rfl rfl rfl (t25 _ _ _ _) rfl ?_
    simp only [T.wp]
    repeat' (first | assumption | decide | refine ⟨?_, ?_⟩ | intro _)
    all_goals (first | rfl | (simp only [M.checkLaw, M.Wine.v, M.Wine.s, M.Wine.c, M.Rate.w, M.Rate.al, cond_true, cond_false, *]; done))
  · cases hd
theorem S25 : SumOK Tryd.prog gw 25 (grpSm [.agg] d25) := grp_sum Tryd.func25 rfl C25
theorem t87 (al : Int) (ah : Int) (bl : Int) (bh : Int) : runFn Tryd.prog 1 1 (lookS []) 40 Tryd.f87 [.agg [.int .i64 al, .int .i64 ah], .agg [.int .i64 bl, .int .i64 bh]] gb =
    T.ret (Value.tuple #[Value.agg #[Value.int IntKind.i64 (if bl > al then bl else al), Value.int IntKind.i64 (if bh < ah then bh else ah)], Value.bool (decide ((if bl > al then bl else al) ≤ if bh < ah then bh else ah))]) := by kernel_rfl
theorem C87 : GOK Tryd.prog gw 87 [.agg, .agg] d87 := by
  intro gs p v hd hp w xs hw hx
  unfold d87 at hd
  split at hd
  · cases hd
    refine grp_fin mixed gw_stable gw_glob (sl := []) trivial Tryd.func87 hw hx rfl rfl rfl rfl (t87 _ _ _ _) rfl ?_
    simp only [T.wp]
    repeat' (first | assumption | decide | refine ⟨?_, ?_⟩ | intro _)
    all_goals (first | rfl | (simp only [M.common, M.rgOk, M.maxI, M.minI, M.Wine.v, M.Wine.s, M.Wine.c, M.Rate.w, M.Rate.al, cond_true, cond_false, *]; done))
  · cases hd
theorem S87 : SumOK Tryd.prog gw 87 (grpSm [.agg, .agg] d87) := grp_sum Tryd.func87 rfl C87
theorem t88 (al : Int) (ah : Int) (bl : Int) (bh : Int) : runFn Tryd.prog 1 1 (lookS []) 40 Tryd.f88 [.agg [.int .i64 al, .int .i64 ah], .agg [.int .i64 bl, .int .i64 bh]] gb =
    T.br (decide (bl ≤ al)) (T.need (decide (bl ≤ al) = true) (T.ret (Value.bool (decide (ah ≤ bh))))) (T.need (decide (bl ≤ al) = false) (T.ret (Value.bool false))) := by kernel_rfl
theorem C88 : GOK Tryd.prog gw 88 [.agg, .agg] d88 := by
  intro gs p v hd hp w xs hw hx
  unfold d88 at hd
  split at hd
  · cases hd
    refine grp_fin mixed gw_stable gw_glob (sl := []) trivial Tryd.func88 hw hx rfl rfl rfl rfl (t88 _ _ _ _) rfl ?_
    simp only [T.wp]
    repeat' (first | assumption | decide | refine ⟨?_, ?_⟩ | intro _)
    all_goals (first | rfl | (simp only [M.rgIn, M.Wine.v, M.Wine.s, M.Wine.c, M.Rate.w, M.Rate.al, cond_true, cond_false, *]; done))
  · cases hd
theorem S88 : SumOK Tryd.prog gw 88 (grpSm [.agg, .agg] d88) := grp_sum Tryd.func88 rfl C88
theorem t89 (al : Int) (ah : Int) (bl : Int) (bh : Int) : runFn Tryd.prog 1 1 (lookS []) 40 Tryd.f89 [.agg [.int .i64 al, .int .i64 ah], .agg [.int .i64 bl, .int .i64 bh]] gb =
    T.ret (Value.agg #[Value.int IntKind.i64 (if bl > al then bl else al), Value.int IntKind.i64 (if bh < ah then bh else ah)]) := by kernel_rfl
theorem C89 : GOK Tryd.prog gw 89 [.agg, .agg] d89 := by
  intro gs p v hd hp w xs hw hx
  unfold d89 at hd
  split at hd
  · cases hd
    refine grp_fin mixed gw_stable gw_glob (sl := []) trivial Tryd.func89 hw hx rfl rfl rfl rfl (t89 _ _ _ _) rfl ?_
    simp only [T.wp]
    repeat' (first | assumption | decide | refine ⟨?_, ?_⟩ | intro _)
    all_goals (first | rfl | (simp only [M.common, M.maxI, M.minI, M.Wine.v, M.Wine.s, M.Wine.c, M.Rate.w, M.Rate.al, cond_true, cond_false, *]; done))
  · cases hd
theorem S89 : SumOK Tryd.prog gw 89 (grpSm [.agg, .agg] d89) := grp_sum Tryd.func89 rfl C89
theorem t92 (v0 : Int) (v1 : Int) (s0 : Int) (s1 : Int) (c0 : Int) (c1 : Int) : runFn Tryd.prog 1 1 (lookS []) 40 Tryd.f92 [.agg [.int .i64 v0, .int .i64 v1, .int .i64 s0, .int .i64 s1, .int .i64 c0, .int .i64 c1]] gb =
    T.ret (Value.agg #[Value.int IntKind.i64 (IntKind.wrap IntKind.i64 (v0 * s0)), Value.int IntKind.i64 (IntKind.wrap IntKind.i64 (v1 * s1))]) := by kernel_rfl
theorem C92 : GOK Tryd.prog gw 92 [.agg] d92 := by
  intro gs p v hd hp w xs hw hx
  unfold d92 at hd
  split at hd
  · cases hd
    refine grp_fin mixed gw_stable gw_glob (sl := []) trivial Tryd.func92 hw hx rfl rfl rfl rfl (t92 _ _ _ _ _ _) rfl ?_
    simp only [T.wp]
    repeat' (first | assumption | decide | refine ⟨?_, ?_⟩ | intro _)
    all_goals (first | rfl | (simp only [M.alcohol, M.Wine.v, M.Wine.s, M.Wine.c, M.Rate.w, M.Rate.al, cond_true, cond_false, *]; done))
  · cases hd
theorem S92 : SumOK Tryd.prog gw 92 (grpSm [.agg] d92) := grp_sum Tryd.func92 rfl C92
theorem t94 (v0 : Int) (v1 : Int) (s0 : Int) (s1 : Int) (c0 : Int) (c1 : Int) : runFn Tryd.prog 1 1 (lookS []) 40 Tryd.f94 [.agg [.int .i64 v0, .int .i64 v1, .int .i64 s0, .int .i64 s1, .int .i64 c0, .int .i64 c1]] gb =
    T.ret (Value.agg #[Value.int IntKind.i64 (IntKind.wrap IntKind.i64 (v0 * s0)), Value.int IntKind.i64 (IntKind.wrap IntKind.i64 (v1 * s1))]) := by kernel_rfl
theorem C94 : GOK Tryd.prog gw 94 [.agg] d94 := by
  intro gs p v hd hp w xs hw hx
  unfold d94 at hd
  split at hd
  · cases hd
    refine grp_fin mixed gw_stable gw_glob (sl := []) trivial Tryd.func94 hw hx rfl rfl rfl rfl (t94 _ _ _ _ _ _) rfl ?_
    simp only [T.wp]
    repeat' (first | assumption | decide | refine ⟨?_, ?_⟩ | intro _)
    all_goals (first | rfl | (simp only [M.alcohol, M.Wine.v, M.Wine.s, M.Wine.c, M.Rate.w, M.Rate.al, cond_true, cond_false, *]; done))
  · cases hd
theorem S94 : SumOK Tryd.prog gw 94 (grpSm [.agg] d94) := grp_sum Tryd.func94 rfl C94
theorem t107 (x : Int) (y : Int) (d : Int) : runFn Tryd.prog 1 2 (lookS []) 40 Tryd.f107 [.c (.int .i64 x), .c (.int .i64 y), .c (.ptr 1 0)] (gb ++ [.part 0 [.int .i64 d]]) =
    T.ret (Value.tuple #[Value.int IntKind.i64 (IntKind.wrap IntKind.i64 ((1000000 : Int) * IntKind.wrap IntKind.i64 (x - y))), Value.int IntKind.i64 (IntKind.wrap IntKind.i64 (x * d))]) := by kernel_rfl
theorem C107 : GOK Tryd.prog gw 107 [.c, .c, .ptr] d107 := by
  intro gs p v hd hp w xs hw hx
  unfold d107 at hd
  split at hd
  · cases hd
    refine grp_fin mixed gw_stable gw_glob (sl := []) trivial Tryd.func107 hw hx rfl rfl rfl rfl (t107 _ _ _) rfl ?_
    simp only [T.wp]
    repeat' (first | assumption | decide | refine ⟨?_, ?_⟩ | intro _)
    all_goals (first | rfl | (simp only [M.rateBy, M.Wine.v, M.Wine.s, M.Wine.c, M.Rate.w, M.Rate.al, cond_true, cond_false, *]; done))
  · cases hd
theorem S107 : SumOK Tryd.prog gw 107 (grpSm [.c, .c, .ptr] d107) := grp_sum Tryd.func107 rfl C107
end Go.Fl
