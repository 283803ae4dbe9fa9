/- Contracts of functions of chapter 3: each one as its plain counterpart says. Laid by a program of mine (wip/gen). -/
import Derived.Test.YtcgdcocmnmkhlaaDoorF1
namespace Go.Fl
open Go.Eng Go.RowKit Go.Proofs
set_option maxRecDepth 100000
set_option linter.unusedSimpArgs false
set_option linter.unusedVariables false
theorem t75 (lo : Int) (hi : Int) (most : Int) : runFn Tryd.prog 1 1 (lookS [s55]) 40 Tryd.f75 [.agg [.int .i64 lo, .int .i64 hi], .c (.int .i64 most)] gb =
    T.br (!M.within lo (0 : Int) most) (T.need ((!M.within lo (0 : Int) most) = true) (T.ret (Value.int IntKind.i64 (2 : Int)))) (T.need ((!M.within lo (0 : Int) most) = false) (T.br (!M.within hi (0 : Int) most) (T.ret (Value.int IntKind.i64 (2 : Int))) (T.br (decide (lo > hi)) (T.ret (Value.int IntKind.i64 (9 : Int))) (T.ret (Value.int IntKind.i64 (0 : Int)))))) := by kernel_rfl
theorem C75 : GOK Tryd.prog gw 75 [.agg, .c] d75 := by
  intro gs p v hd hp w xs hw hx
  unfold d75 at hd
  split at hd
  · cases hd
    refine grp_fin mixed gw_stable gw_glob (sl := [s55]) ⟨S55, trivial⟩ Tryd.func75 hw hx rfl rfl rfl rfl (t75 _ _ _) rfl ?_
    simp only [T.wp]
    repeat' (first | assumption | decide | refine ⟨?_, ?_⟩ | intro _)
    all_goals (try simp only [Bool.not_eq_true', Bool.not_eq_false'] at *)
    all_goals (first | rfl | (simp only [M.rangeErr, M.Wine.v, M.Wine.s, M.Wine.c, M.Rate.w, M.Rate.al, M.wine0, M.rg0, M.rate0, cond_true, cond_false, decide_true, decide_false, *]; done) | (simp only [M.rangeErr, M.Wine.v, M.Wine.s, M.Wine.c, M.Rate.w, M.Rate.al, M.wine0, M.rg0, M.rate0, cond_true, cond_false]; grind))
  · cases hd
theorem S75 : SumOK Tryd.prog gw 75 (grpSm [.agg, .c] d75) := grp_sum Tryd.func75 rfl C75
theorem t74 (a : Int) (b : Int) (c : Int) : runFn Tryd.prog 1 1 (lookS []) 40 Tryd.f74 [.c (.int .i64 a), .c (.int .i64 b), .c (.int .i64 c)] gb =
    T.br (a != (0 : Int)) (T.ret (Value.int IntKind.i64 a)) (T.br (b != (0 : Int)) (T.ret (Value.int IntKind.i64 b)) (T.ret (Value.int IntKind.i64 c))) := by kernel_rfl
theorem C74 : GOK Tryd.prog gw 74 [.c, .c, .c] d74 := by
  intro gs p v hd hp w xs hw hx
  unfold d74 at hd
  split at hd
  · cases hd
    refine grp_fin mixed gw_stable gw_glob (sl := []) trivial Tryd.func74 hw hx rfl rfl rfl rfl (t74 _ _ _) rfl ?_
    simp only [T.wp]
    repeat' (first | assumption | decide | refine ⟨?_, ?_⟩ | intro _)
    all_goals (try simp only [Bool.not_eq_true', Bool.not_eq_false'] at *)
    all_goals (first | rfl | (simp only [M.first3, M.Wine.v, M.Wine.s, M.Wine.c, M.Rate.w, M.Rate.al, M.wine0, M.rg0, M.rate0, cond_true, cond_false, decide_true, decide_false, *]; done) | (simp only [M.first3, M.Wine.v, M.Wine.s, M.Wine.c, M.Rate.w, M.Rate.al, M.wine0, M.rg0, M.rate0, cond_true, cond_false]; grind))
  · cases hd
theorem S74 : SumOK Tryd.prog gw 74 (grpSm [.c, .c, .c] d74) := grp_sum Tryd.func74 rfl C74
theorem t22 (v0 : Int) (v1 : Int) (s0 : Int) (s1 : Int) (c0 : Int) (c1 : Int) : runFn Tryd.prog 1 1 (lookS [s75, s74]) 40 Tryd.f22 [.agg [.int .i64 v0, .int .i64 v1, .int .i64 s0, .int .i64 s1, .int .i64 c0, .int .i64 c1]] gb =
    T.ret (Value.int IntKind.i64 (M.first3 (M.rangeErr { lo := v0, hi := v1 } (100000 : Int)) (M.rangeErr { lo := s0, hi := s1 } (10000 : Int)) (M.rangeErr { lo := c0, hi := c1 } (100000 : Int)))) := by kernel_rfl
theorem C22 : GOK Tryd.prog gw 22 [.agg] d22 := by
  intro gs p v hd hp w xs hw hx
  unfold d22 at hd
  split at hd
  · cases hd
    refine grp_fin mixed gw_stable gw_glob (sl := [s75, s74]) ⟨S75, S74, trivial⟩ Tryd.func22 hw hx rfl rfl rfl rfl (t22 _ _ _ _ _ _) rfl ?_
    simp only [T.wp]
    repeat' (first | assumption | decide | refine ⟨?_, ?_⟩ | intro _)
    all_goals (try simp only [Bool.not_eq_true', Bool.not_eq_false'] at *)
    all_goals (first | rfl | (simp only [M.rCheckWine, M.Wine.v, M.Wine.s, M.Wine.c, M.Rate.w, M.Rate.al, M.wine0, M.rg0, M.rate0, cond_true, cond_false, decide_true, decide_false, *]; done) | (simp only [M.rCheckWine, M.Wine.v, M.Wine.s, M.Wine.c, M.Rate.w, M.Rate.al, M.wine0, M.rg0, M.rate0, cond_true, cond_false]; grind))
  · cases hd
theorem S22 : SumOK Tryd.prog gw 22 (grpSm [.agg] d22) := grp_sum Tryd.func22 rfl C22
theorem t24 (ra : Int) (rb : Int) (rc : Int) (rd : Int) : runFn Tryd.prog 1 1 (lookS [s75, s74]) 40 Tryd.f24 [.agg [.int .i64 ra, .int .i64 rb, .int .i64 rc, .int .i64 rd]] gb =
    T.ret (Value.int IntKind.i64 (M.first3 (M.rangeErr { lo := ra, hi := rb } (2000 : Int)) (M.rangeErr { lo := rc, hi := rd } (2000 : Int)) (0 : Int))) := by kernel_rfl
theorem C24 : GOK Tryd.prog gw 24 [.agg] d24 := by
  intro gs p v hd hp w xs hw hx
  unfold d24 at hd
  split at hd
  · cases hd
    refine grp_fin mixed gw_stable gw_glob (sl := [s75, s74]) ⟨S75, S74, trivial⟩ Tryd.func24 hw hx rfl rfl rfl rfl (t24 _ _ _ _) rfl ?_
    simp only [T.wp]
    repeat' (first | assumption | decide | refine ⟨?_, ?_⟩ | intro _)
    all_goals (try simp only [Bool.not_eq_true', Bool.not_eq_false'] at *)
    all_goals (first | rfl | (simp only [M.rCheckRate, M.Wine.v, M.Wine.s, M.Wine.c, M.Rate.w, M.Rate.al, M.wine0, M.rg0, M.rate0, cond_true, cond_false, decide_true, decide_false, *]; done) | (simp only [M.rCheckRate, M.Wine.v, M.Wine.s, M.Wine.c, M.Rate.w, M.Rate.al, M.wine0, M.rg0, M.rate0, cond_true, cond_false]; grind))
  · cases hd
theorem S24 : SumOK Tryd.prog gw 24 (grpSm [.agg] d24) := grp_sum Tryd.func24 rfl C24
theorem t26 (ra : Int) (rb : Int) (rc : Int) (rd : Int) : runFn Tryd.prog 1 1 (lookS [s75, s74]) 40 Tryd.f26 [.agg [.int .i64 ra, .int .i64 rb, .int .i64 rc, .int .i64 rd]] gb =
    T.ret (Value.int IntKind.i64 (M.first3 (M.rangeErr { lo := ra, hi := rb } (10000 : Int)) (M.rangeErr { lo := rc, hi := rd } (100000 : Int)) (0 : Int))) := by kernel_rfl
theorem C26 : GOK Tryd.prog gw 26 [.agg] d26 := by
  intro gs p v hd hp w xs hw hx
  unfold d26 at hd
  split at hd
  · cases hd
    refine grp_fin mixed gw_stable gw_glob (sl := [s75, s74]) ⟨S75, S74, trivial⟩ Tryd.func26 hw hx rfl rfl rfl rfl (t26 _ _ _ _) rfl ?_
    simp only [T.wp]
    repeat' (first | assumption | decide | refine ⟨?_, ?_⟩ | intro _)
    all_goals (try simp only [Bool.not_eq_true', Bool.not_eq_false'] at *)
    all_goals (first | rfl | (simp only [M.rCheckLaw, M.Wine.v, M.Wine.s, M.Wine.c, M.Rate.w, M.Rate.al, M.wine0, M.rg0, M.rate0, cond_true, cond_false, decide_true, decide_false, *]; done) | (simp only [M.rCheckLaw, M.Wine.v, M.Wine.s, M.Wine.c, M.Rate.w, M.Rate.al, M.wine0, M.rg0, M.rate0, cond_true, cond_false]; grind))
  · cases hd
theorem S26 : SumOK Tryd.prog gw 26 (grpSm [.agg] d26) := grp_sum Tryd.func26 rfl C26
theorem t62 (d : Int) : runFn Tryd.prog 1 1 (lookS [s55]) 40 Tryd.f62 [.c (.int .i64 d)] gb =
    T.br (!M.within d (0 : Int) (365 : Int)) (T.ret (Value.int IntKind.i64 (2 : Int))) (T.ret (Value.int IntKind.i64 (0 : Int))) := by kernel_rfl
theorem C62 : GOK Tryd.prog gw 62 [.c] d62 := by
  intro gs p v hd hp w xs hw hx
  unfold d62 at hd
  split at hd
  · cases hd
    refine grp_fin mixed gw_stable gw_glob (sl := [s55]) ⟨S55, trivial⟩ Tryd.func62 hw hx rfl rfl rfl rfl (t62 _) rfl ?_
    simp only [T.wp]
    repeat' (first | assumption | decide | refine ⟨?_, ?_⟩ | intro _)
    all_goals (try simp only [Bool.not_eq_true', Bool.not_eq_false'] at *)
    all_goals (first | rfl | (simp only [M.rDaysErr, M.Wine.v, M.Wine.s, M.Wine.c, M.Rate.w, M.Rate.al, M.wine0, M.rg0, M.rate0, cond_true, cond_false, decide_true, decide_false, *]; done) | (simp only [M.rDaysErr, M.Wine.v, M.Wine.s, M.Wine.c, M.Rate.w, M.Rate.al, M.wine0, M.rg0, M.rate0, cond_true, cond_false]; grind))
  · cases hd
theorem S62 : SumOK Tryd.prog gw 62 (grpSm [.c] d62) := grp_sum Tryd.func62 rfl C62
theorem t65 (n : Int) : runFn Tryd.prog 1 1 (lookS [s55]) 40 Tryd.f65 [.c (.int .i64 n)] gb =
    T.br (!M.within n (0 : Int) (10000 : Int)) (T.ret (Value.int IntKind.i64 (2 : Int))) (T.ret (Value.int IntKind.i64 (0 : Int))) := by kernel_rfl
theorem C65 : GOK Tryd.prog gw 65 [.c] d65 := by
  intro gs p v hd hp w xs hw hx
  unfold d65 at hd
  split at hd
  · cases hd
    refine grp_fin mixed gw_stable gw_glob (sl := [s55]) ⟨S55, trivial⟩ Tryd.func65 hw hx rfl rfl rfl rfl (t65 _) rfl ?_
    simp only [T.wp]
    repeat' (first | assumption | decide | refine ⟨?_, ?_⟩ | intro _)
    all_goals (try simp only [Bool.not_eq_true', Bool.not_eq_false'] at *)
    all_goals (first | rfl | (simp only [M.rStrengthErr, M.Wine.v, M.Wine.s, M.Wine.c, M.Rate.w, M.Rate.al, M.wine0, M.rg0, M.rate0, cond_true, cond_false, decide_true, decide_false, *]; done) | (simp only [M.rStrengthErr, M.Wine.v, M.Wine.s, M.Wine.c, M.Rate.w, M.Rate.al, M.wine0, M.rg0, M.rate0, cond_true, cond_false]; grind))
  · cases hd
theorem S65 : SumOK Tryd.prog gw 65 (grpSm [.c] d65) := grp_sum Tryd.func65 rfl C65
theorem t29 (v0 : Int) (v1 : Int) (s0 : Int) (s1 : Int) (c0 : Int) (c1 : Int) (ra : Int) (rb : Int) (rc : Int) (rd : Int) (d : Int) : runFn Tryd.prog 1 1 (lookS [s22, s24, s62, s74]) 40 Tryd.f29 [.agg [.int .i64 v0, .int .i64 v1, .int .i64 s0, .int .i64 s1, .int .i64 c0, .int .i64 c1], .agg [.int .i64 ra, .int .i64 rb, .int .i64 rc, .int .i64 rd], .c (.int .i64 d)] gb =
    T.ret (Value.int IntKind.i64 (M.first3 (M.rCheckWine { v0 := v0, v1 := v1, s0 := s0, s1 := s1, c0 := c0, c1 := c1 }) (M.rCheckRate { a := ra, b := rb, c := rc, d := rd }) (M.rDaysErr d))) := by kernel_rfl
theorem C29 : GOK Tryd.prog gw 29 [.agg, .agg, .c] d29 := by
  intro gs p v hd hp w xs hw hx
  unfold d29 at hd
  split at hd
  · cases hd
    refine grp_fin mixed gw_stable gw_glob (sl := [s22, s24, s62, s74]) ⟨S22, S24, S62, S74, trivial⟩ Tryd.func29 hw hx rfl rfl rfl rfl (t29 _ _ _ _ _ _ _ _ _ _ _) rfl ?_
    simp only [T.wp]
    repeat' (first | assumption | decide | refine ⟨?_, ?_⟩ | intro _)
    all_goals (try simp only [Bool.not_eq_true', Bool.not_eq_false'] at *)
    all_goals (first | rfl | (simp only [M.rTaskErr, M.Wine.v, M.Wine.s, M.Wine.c, M.Rate.w, M.Rate.al, M.wine0, M.rg0, M.rate0, cond_true, cond_false, decide_true, decide_false, *]; done) | (simp only [M.rTaskErr, M.Wine.v, M.Wine.s, M.Wine.c, M.Rate.w, M.Rate.al, M.wine0, M.rg0, M.rate0, cond_true, cond_false]; grind))
  · cases hd
theorem S29 : SumOK Tryd.prog gw 29 (grpSm [.agg, .agg, .c] d29) := grp_sum Tryd.func29 rfl C29
theorem t83 (v0 : Int) (v1 : Int) (s0 : Int) (s1 : Int) (c0 : Int) (c1 : Int) (ra : Int) (rb : Int) (rc : Int) (rd : Int) (d : Int) : runFn Tryd.prog 1 1 (lookS [s82, s68, s69]) 40 Tryd.f83 [.agg [.int .i64 v0, .int .i64 v1, .int .i64 s0, .int .i64 s1, .int .i64 c0, .int .i64 c1], .agg [.int .i64 ra, .int .i64 rb, .int .i64 rc, .int .i64 rd], .c (.int .i64 d)] gb =
    T.need (M.Rg.hi (M.left { lo := ra, hi := rb } d) ≠ (0 : Int)) (T.need (M.Rg.lo (M.left { lo := ra, hi := rb } d) ≠ (0 : Int)) (T.ret (Value.agg #[Value.int IntKind.i64 (M.floor (IntKind.wrap IntKind.i64 (s0 * M.Rg.lo (M.left { lo := rc, hi := rd } d))) (M.Rg.hi (M.left { lo := ra, hi := rb } d))), Value.int IntKind.i64 (M.ceiling (IntKind.wrap IntKind.i64 (s1 * M.Rg.hi (M.left { lo := rc, hi := rd } d))) (M.Rg.lo (M.left { lo := ra, hi := rb } d)))]))) := by kernel_rfl
theorem C83 : GOK Tryd.prog gw 83 [.agg, .agg, .c] d83 := by
  intro gs p v hd hp w xs hw hx
  unfold d83 at hd
  split at hd
  · cases hd
    refine grp_fin mixed gw_stable gw_glob (sl := [s82, s68, s69]) ⟨S82, S68, S69, trivial⟩ Tryd.func83 hw hx rfl rfl rfl rfl (t83 _ _ _ _ _ _ _ _ _ _ _) rfl ?_
    obtain ⟨hp0, hp1, _⟩ := hp
    simp only [T.wp]
    repeat' (first | assumption | decide | refine ⟨?_, ?_⟩ | intro _)
    all_goals (try simp only [Bool.not_eq_true', Bool.not_eq_false'] at *)
    all_goals (first | rfl | (simp only [M.rStrength, M.Wine.v, M.Wine.s, M.Wine.c, M.Rate.w, M.Rate.al, M.wine0, M.rg0, M.rate0, cond_true, cond_false, decide_true, decide_false, *]; done) | (simp only [M.rStrength, M.Wine.v, M.Wine.s, M.Wine.c, M.Rate.w, M.Rate.al, M.wine0, M.rg0, M.rate0, cond_true, cond_false]; grind))
  · cases hd
theorem S83 : SumOK Tryd.prog gw 83 (grpSm [.agg, .agg, .c] d83) := grp_sum Tryd.func83 rfl C83
theorem t30 (v0 : Int) (v1 : Int) (s0 : Int) (s1 : Int) (c0 : Int) (c1 : Int) (ra : Int) (rb : Int) (rc : Int) (rd : Int) (d : Int) : runFn Tryd.prog 1 1 (lookS [s82, s83, s68, s69]) 40 Tryd.f30 [.agg [.int .i64 v0, .int .i64 v1, .int .i64 s0, .int .i64 s1, .int .i64 c0, .int .i64 c1], .agg [.int .i64 ra, .int .i64 rb, .int .i64 rc, .int .i64 rd], .c (.int .i64 d)] gb =
    T.need ((1000000 : Int) ≠ (0 : Int)) (T.need ((1000000 : Int) ≠ (0 : Int)) (T.need (M.Rg.hi (M.left (M.Rate.w { a := ra, b := rb, c := rc, d := rd }) d) ≠ (0 : Int)) (T.need (M.Rg.lo (M.left (M.Rate.w { a := ra, b := rb, c := rc, d := rd }) d) ≠ (0 : Int)) (T.need (M.Rg.hi (M.left { lo := ra, hi := rb } d) ≠ (0 : Int)) (T.need (M.Rg.lo (M.left { lo := ra, hi := rb } d) ≠ (0 : Int)) (T.br (decide (M.Rg.hi (M.rStrength { v0 := v0, v1 := v1, s0 := s0, s1 := s1, c0 := c0, c1 := c1 } { a := ra, b := rb, c := rc, d := rd } d) > (10000 : Int))) (T.need (decide (M.Rg.hi (M.rStrength { v0 := v0, v1 := v1, s0 := s0, s1 := s1, c0 := c0, c1 := c1 } { a := ra, b := rb, c := rc, d := rd } d) > (10000 : Int)) = true) (T.ret (Value.tuple #[Value.agg #[Value.int IntKind.i64 (0 : Int), Value.int IntKind.i64 (0 : Int), Value.int IntKind.i64 (0 : Int), Value.int IntKind.i64 (0 : Int), Value.int IntKind.i64 (0 : Int), Value.int IntKind.i64 (0 : Int)], Value.int IntKind.i64 (8 : Int)]))) (T.need (decide (M.Rg.hi (M.rStrength { v0 := v0, v1 := v1, s0 := s0, s1 := s1, c0 := c0, c1 := c1 } { a := ra, b := rb, c := rc, d := rd } d) > (10000 : Int)) = false) (T.br (decide (M.ceiling (IntKind.wrap IntKind.i64 (c1 * (1000000 : Int))) (M.Rg.lo (M.left { lo := ra, hi := rb } d)) > (100000 : Int))) (T.ret (Value.tuple #[Value.agg #[Value.int IntKind.i64 (0 : Int), Value.int IntKind.i64 (0 : Int), Value.int IntKind.i64 (0 : Int), Value.int IntKind.i64 (0 : Int), Value.int IntKind.i64 (0 : Int), Value.int IntKind.i64 (0 : Int)], Value.int IntKind.i64 (8 : Int)])) (T.ret (Value.tuple #[Value.agg #[Value.int IntKind.i64 (M.floor (IntKind.wrap IntKind.i64 (v0 * M.Rg.lo (M.left { lo := ra, hi := rb } d))) (1000000 : Int)), Value.int IntKind.i64 (M.ceiling (IntKind.wrap IntKind.i64 (v1 * M.Rg.hi (M.left { lo := ra, hi := rb } d))) (1000000 : Int)), Value.int IntKind.i64 (M.Rg.lo (M.rStrength { v0 := v0, v1 := v1, s0 := s0, s1 := s1, c0 := c0, c1 := c1 } { a := ra, b := rb, c := rc, d := rd } d)), Value.int IntKind.i64 (M.Rg.hi (M.rStrength { v0 := v0, v1 := v1, s0 := s0, s1 := s1, c0 := c0, c1 := c1 } { a := ra, b := rb, c := rc, d := rd } d)), Value.int IntKind.i64 (M.floor (IntKind.wrap IntKind.i64 (c0 * (1000000 : Int))) (M.Rg.hi (M.left { lo := ra, hi := rb } d))), Value.int IntKind.i64 (M.ceiling (IntKind.wrap IntKind.i64 (c1 * (1000000 : Int))) (M.Rg.lo (M.left { lo := ra, hi := rb } d)))], Value.int IntKind.i64 (0 : Int)])))))))))) := by kernel_rfl
theorem C30 : GOK Tryd.prog gw 30 [.agg, .agg, .c] d30 := by
  intro gs p v hd hp w xs hw hx
  unfold d30 at hd
  split at hd
  · cases hd
    refine grp_fin mixed gw_stable gw_glob (sl := [s82, s83, s68, s69]) ⟨S82, S83, S68, S69, trivial⟩ Tryd.func30 hw hx rfl rfl rfl rfl (t30 _ _ _ _ _ _ _ _ _ _ _) rfl ?_
    obtain ⟨hp0, hp1, _⟩ := hp
    simp only [T.wp]
    repeat' (first | assumption | decide | refine ⟨?_, ?_⟩ | intro _)
    all_goals (try simp only [Bool.not_eq_true', Bool.not_eq_false'] at *)
    all_goals (first | rfl | (simp only [M.rAfter, M.rAfterW, M.Wine.v, M.Wine.s, M.Wine.c, M.Rate.w, M.Rate.al, M.wine0, M.rg0, M.rate0, cond_true, cond_false, decide_true, decide_false, *]; done) | (simp only [M.rAfter, M.rAfterW, M.Wine.v, M.Wine.s, M.Wine.c, M.Rate.w, M.Rate.al, M.wine0, M.rg0, M.rate0, cond_true, cond_false]; grind))
  · cases hd
theorem S30 : SumOK Tryd.prog gw 30 (grpSm [.agg, .agg, .c] d30) := grp_sum Tryd.func30 rfl C30
theorem t31 (v0 : Int) (v1 : Int) (s0 : Int) (s1 : Int) (c0 : Int) (c1 : Int) (ra : Int) (rb : Int) (rc : Int) (rd : Int) (d : Int) : runFn Tryd.prog 1 1 (lookS [s68, s69]) 40 Tryd.f31 [.agg [.int .i64 v0, .int .i64 v1, .int .i64 s0, .int .i64 s1, .int .i64 c0, .int .i64 c1], .agg [.int .i64 ra, .int .i64 rb, .int .i64 rc, .int .i64 rd], .c (.int .i64 d)] gb =
    T.need ((1000000 : Int) ≠ (0 : Int)) (T.need ((1000000 : Int) ≠ (0 : Int)) (T.ret (Value.agg #[Value.int IntKind.i64 (M.floor (IntKind.wrap IntKind.i64 (IntKind.wrap IntKind.i64 (v0 * ra) * d)) (1000000 : Int)), Value.int IntKind.i64 (M.ceiling (IntKind.wrap IntKind.i64 (IntKind.wrap IntKind.i64 (v1 * rb) * d)) (1000000 : Int))]))) := by kernel_rfl
theorem C31 : GOK Tryd.prog gw 31 [.agg, .agg, .c] d31 := by
  intro gs p v hd hp w xs hw hx
  unfold d31 at hd
  split at hd
  · cases hd
    refine grp_fin mixed gw_stable gw_glob (sl := [s68, s69]) ⟨S68, S69, trivial⟩ Tryd.func31 hw hx rfl rfl rfl rfl (t31 _ _ _ _ _ _ _ _ _ _ _) rfl ?_
    simp only [T.wp]
    repeat' (first | assumption | decide | refine ⟨?_, ?_⟩ | intro _)
    all_goals (try simp only [Bool.not_eq_true', Bool.not_eq_false'] at *)
    all_goals (first | rfl | (simp only [M.rLossOf, M.Wine.v, M.Wine.s, M.Wine.c, M.Rate.w, M.Rate.al, M.wine0, M.rg0, M.rate0, cond_true, cond_false, decide_true, decide_false, *]; done) | (simp only [M.rLossOf, M.Wine.v, M.Wine.s, M.Wine.c, M.Rate.w, M.Rate.al, M.wine0, M.rg0, M.rate0, cond_true, cond_false]; grind))
  · cases hd
theorem S31 : SumOK Tryd.prog gw 31 (grpSm [.agg, .agg, .c] d31) := grp_sum Tryd.func31 rfl C31
theorem t35 (v0 : Int) (v1 : Int) (s0 : Int) (s1 : Int) (c0 : Int) (c1 : Int) (lo : Int) (hi : Int) : runFn Tryd.prog 1 1 (lookS [s22, s75, s74]) 40 Tryd.f35 [.agg [.int .i64 v0, .int .i64 v1, .int .i64 s0, .int .i64 s1, .int .i64 c0, .int .i64 c1], .agg [.int .i64 lo, .int .i64 hi]] gb =
    T.br (M.first3 (M.rCheckWine { v0 := v0, v1 := v1, s0 := s0, s1 := s1, c0 := c0, c1 := c1 }) (M.rangeErr { lo := lo, hi := hi } (100000 : Int)) (0 : Int) != (0 : Int)) (T.ret (Value.tuple #[Value.agg #[Value.int IntKind.i64 (0 : Int), Value.int IntKind.i64 (0 : Int), Value.int IntKind.i64 (0 : Int), Value.int IntKind.i64 (0 : Int), Value.int IntKind.i64 (0 : Int), Value.int IntKind.i64 (0 : Int)], Value.int IntKind.i64 (M.first3 (M.rCheckWine { v0 := v0, v1 := v1, s0 := s0, s1 := s1, c0 := c0, c1 := c1 }) (M.rangeErr { lo := lo, hi := hi } (100000 : Int)) (0 : Int))])) (T.br (decide (v0 < hi)) (T.ret (Value.tuple #[Value.agg #[Value.int IntKind.i64 (0 : Int), Value.int IntKind.i64 (0 : Int), Value.int IntKind.i64 (0 : Int), Value.int IntKind.i64 (0 : Int), Value.int IntKind.i64 (0 : Int), Value.int IntKind.i64 (0 : Int)], Value.int IntKind.i64 (24 : Int)])) (T.ret (Value.tuple #[Value.agg #[Value.int IntKind.i64 (IntKind.wrap IntKind.i64 (v0 - hi)), Value.int IntKind.i64 (IntKind.wrap IntKind.i64 (v1 - lo)), Value.int IntKind.i64 s0, Value.int IntKind.i64 s1, Value.int IntKind.i64 c0, Value.int IntKind.i64 c1], Value.int IntKind.i64 (0 : Int)]))) := by kernel_rfl
theorem C35 : GOK Tryd.prog gw 35 [.agg, .agg] d35 := by
  intro gs p v hd hp w xs hw hx
  unfold d35 at hd
  split at hd
  · cases hd
    refine grp_fin mixed gw_stable gw_glob (sl := [s22, s75, s74]) ⟨S22, S75, S74, trivial⟩ Tryd.func35 hw hx rfl rfl rfl rfl (t35 _ _ _ _ _ _ _ _) rfl ?_
    simp only [T.wp]
    repeat' (first | assumption | decide | refine ⟨?_, ?_⟩ | intro _)
    all_goals (try simp only [Bool.not_eq_true', Bool.not_eq_false'] at *)
    all_goals (first | rfl | (simp only [M.rDrawn, M.Wine.v, M.Wine.s, M.Wine.c, M.Rate.w, M.Rate.al, M.wine0, M.rg0, M.rate0, cond_true, cond_false, decide_true, decide_false, *]; done) | (simp only [M.rDrawn, M.Wine.v, M.Wine.s, M.Wine.c, M.Rate.w, M.Rate.al, M.wine0, M.rg0, M.rate0, cond_true, cond_false]; grind))
  · cases hd
theorem S35 : SumOK Tryd.prog gw 35 (grpSm [.agg, .agg] d35) := grp_sum Tryd.func35 rfl C35
theorem t42 (v0 : Int) (v1 : Int) (s0 : Int) (s1 : Int) (c0 : Int) (c1 : Int) (ra : Int) (rb : Int) (rc : Int) (rd : Int) : runFn Tryd.prog 1 1 (lookS [s22, s26, s74, s89]) 40 Tryd.f42 [.agg [.int .i64 v0, .int .i64 v1, .int .i64 s0, .int .i64 s1, .int .i64 c0, .int .i64 c1], .agg [.int .i64 ra, .int .i64 rb, .int .i64 rc, .int .i64 rd]] gb =
    T.br (M.first3 (M.rCheckWine { v0 := v0, v1 := v1, s0 := s0, s1 := s1, c0 := c0, c1 := c1 }) (M.rCheckLaw { a := ra, b := rb, c := rc, d := rd }) (0 : Int) != (0 : Int)) (T.ret (Value.tuple #[Value.int IntKind.i64 (0 : Int), Value.int IntKind.i64 (M.first3 (M.rCheckWine { v0 := v0, v1 := v1, s0 := s0, s1 := s1, c0 := c0, c1 := c1 }) (M.rCheckLaw { a := ra, b := rb, c := rc, d := rd }) (0 : Int))])) (T.br (decide (M.Rg.lo (M.common { lo := s0, hi := s1 } { lo := ra, hi := rb }) > M.Rg.hi (M.common { lo := s0, hi := s1 } { lo := ra, hi := rb }))) (T.need (decide (M.Rg.lo (M.common { lo := s0, hi := s1 } { lo := ra, hi := rb }) > M.Rg.hi (M.common { lo := s0, hi := s1 } { lo := ra, hi := rb })) = true) (T.ret (Value.tuple #[Value.int IntKind.i64 (0 : Int), Value.int IntKind.i64 (0 : Int)]))) (T.need (decide (M.Rg.lo (M.common { lo := s0, hi := s1 } { lo := ra, hi := rb }) > M.Rg.hi (M.common { lo := s0, hi := s1 } { lo := ra, hi := rb })) = false) (T.br (decide (M.Rg.lo (M.common { lo := c0, hi := c1 } { lo := rc, hi := rd }) > M.Rg.hi (M.common { lo := c0, hi := c1 } { lo := rc, hi := rd }))) (T.ret (Value.tuple #[Value.int IntKind.i64 (0 : Int), Value.int IntKind.i64 (0 : Int)])) (T.br (M.Rg.lo (M.common { lo := s0, hi := s1 } { lo := ra, hi := rb }) == s0 && (M.Rg.hi (M.common { lo := s0, hi := s1 } { lo := ra, hi := rb }) == s1 && true)) (T.need ((M.Rg.lo (M.common { lo := s0, hi := s1 } { lo := ra, hi := rb }) == s0 && (M.Rg.hi (M.common { lo := s0, hi := s1 } { lo := ra, hi := rb }) == s1 && true)) = true) (T.br (M.Rg.lo (M.common { lo := c0, hi := c1 } { lo := rc, hi := rd }) == c0 && (M.Rg.hi (M.common { lo := c0, hi := c1 } { lo := rc, hi := rd }) == c1 && true)) (T.ret (Value.tuple #[Value.int IntKind.i64 (2 : Int), Value.int IntKind.i64 (0 : Int)])) (T.ret (Value.tuple #[Value.int IntKind.i64 (1 : Int), Value.int IntKind.i64 (0 : Int)])))) (T.need ((M.Rg.lo (M.common { lo := s0, hi := s1 } { lo := ra, hi := rb }) == s0 && (M.Rg.hi (M.common { lo := s0, hi := s1 } { lo := ra, hi := rb }) == s1 && true)) = false) (T.ret (Value.tuple #[Value.int IntKind.i64 (1 : Int), Value.int IntKind.i64 (0 : Int)]))))))) := by kernel_rfl
theorem C42 : GOK Tryd.prog gw 42 [.agg, .agg] d42 := by
  intro gs p v hd hp w xs hw hx
  unfold d42 at hd
  split at hd
  · cases hd
    refine grp_fin mixed gw_stable gw_glob (sl := [s22, s26, s74, s89]) ⟨S22, S26, S74, S89, trivial⟩ Tryd.func42 hw hx rfl rfl rfl rfl (t42 _ _ _ _ _ _ _ _ _ _) rfl ?_
    simp only [T.wp]
    repeat' (first | assumption | decide | refine ⟨?_, ?_⟩ | intro _)
    all_goals (try simp only [Bool.not_eq_true', Bool.not_eq_false'] at *)
    all_goals (first | rfl | (simp only [M.rLegalIs, M.rgEq, M.Wine.v, M.Wine.s, M.Wine.c, M.Rate.w, M.Rate.al, M.wine0, M.rg0, M.rate0, cond_true, cond_false, decide_true, decide_false, *]; done) | (simp only [M.rLegalIs, M.rgEq, M.Wine.v, M.Wine.s, M.Wine.c, M.Rate.w, M.Rate.al, M.wine0, M.rg0, M.rate0, cond_true, cond_false]; grind))
  · cases hd
theorem S42 : SumOK Tryd.prog gw 42 (grpSm [.agg, .agg] d42) := grp_sum Tryd.func42 rfl C42
theorem t93 (al : Int) (ah : Int) (bl : Int) (bh : Int) (d : Int) : runFn Tryd.prog 1 1 (lookS [s68, s69]) 40 Tryd.f93 [.agg [.int .i64 al, .int .i64 ah], .agg [.int .i64 bl, .int .i64 bh], .c (.int .i64 d)] gb =
    T.need (IntKind.wrap IntKind.i64 (al * d) ≠ (0 : Int)) (T.need (IntKind.wrap IntKind.i64 (ah * d) ≠ (0 : Int)) (T.ret (Value.agg #[Value.int IntKind.i64 (if M.floor (IntKind.wrap IntKind.i64 ((1000000 : Int) * IntKind.wrap IntKind.i64 (al - bh))) (IntKind.wrap IntKind.i64 (al * d)) > (0 : Int) then M.floor (IntKind.wrap IntKind.i64 ((1000000 : Int) * IntKind.wrap IntKind.i64 (al - bh))) (IntKind.wrap IntKind.i64 (al * d)) else (0 : Int)), Value.int IntKind.i64 (if M.ceiling (IntKind.wrap IntKind.i64 ((1000000 : Int) * IntKind.wrap IntKind.i64 (ah - bl))) (IntKind.wrap IntKind.i64 (ah * d)) < (2000 : Int) then M.ceiling (IntKind.wrap IntKind.i64 ((1000000 : Int) * IntKind.wrap IntKind.i64 (ah - bl))) (IntKind.wrap IntKind.i64 (ah * d)) else (2000 : Int))]))) := by kernel_rfl
theorem C93 : GOK Tryd.prog gw 93 [.agg, .agg, .c] d93 := by
  intro gs p v hd hp w xs hw hx
  unfold d93 at hd
  split at hd
  · cases hd
    refine grp_fin mixed gw_stable gw_glob (sl := [s68, s69]) ⟨S68, S69, trivial⟩ Tryd.func93 hw hx rfl rfl rfl rfl (t93 _ _ _ _ _) rfl ?_
    obtain ⟨hp0, hp1, _⟩ := hp
    simp only [T.wp]
    repeat' (first | assumption | decide | refine ⟨?_, ?_⟩ | intro _)
    all_goals (try simp only [Bool.not_eq_true', Bool.not_eq_false'] at *)
    all_goals (first | rfl | (simp only [M.rateOf, M.maxI, M.minI, M.Wine.v, M.Wine.s, M.Wine.c, M.Rate.w, M.Rate.al, M.wine0, M.rg0, M.rate0, cond_true, cond_false, decide_true, decide_false, *]; done) | (simp only [M.rateOf, M.maxI, M.minI, M.Wine.v, M.Wine.s, M.Wine.c, M.Rate.w, M.Rate.al, M.wine0, M.rg0, M.rate0, cond_true, cond_false]; grind))
  · cases hd
theorem S93 : SumOK Tryd.prog gw 93 (grpSm [.agg, .agg, .c] d93) := grp_sum Tryd.func93 rfl C93
theorem t98 (d : Int) (v0 : Int) (v1 : Int) (s0 : Int) (s1 : Int) (c0 : Int) (c1 : Int) : runFn Tryd.prog 1 1 (lookS [s55, s22]) 40 Tryd.f98 [.agg [.int .i64 d, .int .i64 v0, .int .i64 v1, .int .i64 s0, .int .i64 s1, .int .i64 c0, .int .i64 c1]] gb =
    T.br (!M.within d (0 : Int) (100000 : Int)) (T.ret (Value.int IntKind.i64 (2 : Int))) (T.ret (Value.int IntKind.i64 (M.rCheckWine { v0 := v0, v1 := v1, s0 := s0, s1 := s1, c0 := c0, c1 := c1 }))) := by kernel_rfl
theorem C98 : GOK Tryd.prog gw 98 [.agg] d98 := by
  intro gs p v hd hp w xs hw hx
  unfold d98 at hd
  split at hd
  · cases hd
    refine grp_fin mixed gw_stable gw_glob (sl := [s55, s22]) ⟨S55, S22, trivial⟩ Tryd.func98 hw hx rfl rfl rfl rfl (t98 _ _ _ _ _ _ _) rfl ?_
    simp only [T.wp]
    repeat' (first | assumption | decide | refine ⟨?_, ?_⟩ | intro _)
    all_goals (try simp only [Bool.not_eq_true', Bool.not_eq_false'] at *)
    all_goals (first | rfl | (simp only [M.rMeasureErr, M.Wine.v, M.Wine.s, M.Wine.c, M.Rate.w, M.Rate.al, M.wine0, M.rg0, M.rate0, cond_true, cond_false, decide_true, decide_false, *]; done) | (simp only [M.rMeasureErr, M.Wine.v, M.Wine.s, M.Wine.c, M.Rate.w, M.Rate.al, M.wine0, M.rg0, M.rate0, cond_true, cond_false]; grind))
  · cases hd
theorem S98 : SumOK Tryd.prog gw 98 (grpSm [.agg] d98) := grp_sum Tryd.func98 rfl C98
theorem t99 (da : Int) (av0 : Int) (av1 : Int) (as0 : Int) (as1 : Int) (ac0 : Int) (ac1 : Int) (db : Int) (bv0 : Int) (bv1 : Int) (bs0 : Int) (bs1 : Int) (bc0 : Int) (bc1 : Int) : runFn Tryd.prog 1 1 (lookS []) 40 Tryd.f99 [.agg [.int .i64 da, .int .i64 av0, .int .i64 av1, .int .i64 as0, .int .i64 as1, .int .i64 ac0, .int .i64 ac1], .agg [.int .i64 db, .int .i64 bv0, .int .i64 bv1, .int .i64 bs0, .int .i64 bs1, .int .i64 bc0, .int .i64 bc1]] gb =
    T.br (decide (db ≤ da)) (T.ret (Value.int IntKind.i64 (9 : Int))) (T.br (decide (IntKind.wrap IntKind.i64 (db - da) > (365 : Int))) (T.ret (Value.int IntKind.i64 (8 : Int))) (T.ret (Value.int IntKind.i64 (0 : Int)))) := by kernel_rfl
theorem C99 : GOK Tryd.prog gw 99 [.agg, .agg] d99 := by
  intro gs p v hd hp w xs hw hx
  unfold d99 at hd
  split at hd
  · cases hd
    refine grp_fin mixed gw_stable gw_glob (sl := []) trivial Tryd.func99 hw hx rfl rfl rfl rfl (t99 _ _ _ _ _ _ _ _ _ _ _ _ _ _) rfl ?_
    simp only [T.wp]
    repeat' (first | assumption | decide | refine ⟨?_, ?_⟩ | intro _)
    all_goals (try simp only [Bool.not_eq_true', Bool.not_eq_false'] at *)
    all_goals (first | rfl | (simp only [M.rBetweenErr, M.Wine.v, M.Wine.s, M.Wine.c, M.Rate.w, M.Rate.al, M.wine0, M.rg0, M.rate0, cond_true, cond_false, decide_true, decide_false, *]; done) | (simp only [M.rBetweenErr, M.Wine.v, M.Wine.s, M.Wine.c, M.Rate.w, M.Rate.al, M.wine0, M.rg0, M.rate0, cond_true, cond_false]; grind))
  · cases hd
theorem S99 : SumOK Tryd.prog gw 99 (grpSm [.agg, .agg] d99) := grp_sum Tryd.func99 rfl C99
theorem t51 (av0 : Int) (av1 : Int) (as0 : Int) (as1 : Int) (ac0 : Int) (ac1 : Int) (bv0 : Int) (bv1 : Int) (bs0 : Int) (bs1 : Int) (bc0 : Int) (bc1 : Int) : runFn Tryd.prog 1 1 (lookS [s89]) 40 Tryd.f51 [.agg [.int .i64 av0, .int .i64 av1, .int .i64 as0, .int .i64 as1, .int .i64 ac0, .int .i64 ac1], .agg [.int .i64 bv0, .int .i64 bv1, .int .i64 bs0, .int .i64 bs1, .int .i64 bc0, .int .i64 bc1]] gb =
    T.br (decide (M.Rg.lo (M.common { lo := av0, hi := av1 } { lo := bv0, hi := bv1 }) ≤ M.Rg.hi (M.common { lo := av0, hi := av1 } { lo := bv0, hi := bv1 }))) (T.br (decide (M.Rg.lo (M.common { lo := as0, hi := as1 } { lo := bs0, hi := bs1 }) ≤ M.Rg.hi (M.common { lo := as0, hi := as1 } { lo := bs0, hi := bs1 }))) (T.need (decide (M.Rg.lo (M.common { lo := av0, hi := av1 } { lo := bv0, hi := bv1 }) ≤ M.Rg.hi (M.common { lo := av0, hi := av1 } { lo := bv0, hi := bv1 })) = true) (T.need (decide (M.Rg.lo (M.common { lo := as0, hi := as1 } { lo := bs0, hi := bs1 }) ≤ M.Rg.hi (M.common { lo := as0, hi := as1 } { lo := bs0, hi := bs1 })) = true) (T.ret (Value.tuple #[Value.agg #[Value.int IntKind.i64 (M.Rg.lo (M.common { lo := av0, hi := av1 } { lo := bv0, hi := bv1 })), Value.int IntKind.i64 (M.Rg.hi (M.common { lo := av0, hi := av1 } { lo := bv0, hi := bv1 })), Value.int IntKind.i64 (M.Rg.lo (M.common { lo := as0, hi := as1 } { lo := bs0, hi := bs1 })), Value.int IntKind.i64 (M.Rg.hi (M.common { lo := as0, hi := as1 } { lo := bs0, hi := bs1 })), Value.int IntKind.i64 (M.Rg.lo (M.common { lo := ac0, hi := ac1 } { lo := bc0, hi := bc1 })), Value.int IntKind.i64 (M.Rg.hi (M.common { lo := ac0, hi := ac1 } { lo := bc0, hi := bc1 }))], Value.bool (decide (M.Rg.lo (M.common { lo := ac0, hi := ac1 } { lo := bc0, hi := bc1 }) ≤ M.Rg.hi (M.common { lo := ac0, hi := ac1 } { lo := bc0, hi := bc1 })))])))) (T.need (decide (M.Rg.lo (M.common { lo := av0, hi := av1 } { lo := bv0, hi := bv1 }) ≤ M.Rg.hi (M.common { lo := av0, hi := av1 } { lo := bv0, hi := bv1 })) = true) (T.need (decide (M.Rg.lo (M.common { lo := as0, hi := as1 } { lo := bs0, hi := bs1 }) ≤ M.Rg.hi (M.common { lo := as0, hi := as1 } { lo := bs0, hi := bs1 })) = false) (T.ret (Value.tuple #[Value.agg #[Value.int IntKind.i64 (M.Rg.lo (M.common { lo := av0, hi := av1 } { lo := bv0, hi := bv1 })), Value.int IntKind.i64 (M.Rg.hi (M.common { lo := av0, hi := av1 } { lo := bv0, hi := bv1 })), Value.int IntKind.i64 (M.Rg.lo (M.common { lo := as0, hi := as1 } { lo := bs0, hi := bs1 })), Value.int IntKind.i64 (M.Rg.hi (M.common { lo := as0, hi := as1 } { lo := bs0, hi := bs1 })), Value.int IntKind.i64 (M.Rg.lo (M.common { lo := ac0, hi := ac1 } { lo := bc0, hi := bc1 })), Value.int IntKind.i64 (M.Rg.hi (M.common { lo := ac0, hi := ac1 } { lo := bc0, hi := bc1 }))], Value.bool false])))))
  (T.need (decide (M.Rg.lo (M.common { lo := av0, hi := av1 } { lo := bv0, hi := bv1 }) ≤ M.Rg.hi (M.common { lo := av0, hi := av1 } { lo := bv0, hi := bv1 })) = false) (T.ret (Value.tuple #[Value.agg #[Value.int IntKind.i64 (M.Rg.lo (M.common { lo := av0, hi := av1 } { lo := bv0, hi := bv1 })), Value.int IntKind.i64 (M.Rg.hi (M.common { lo := av0, hi := av1 } { lo := bv0, hi := bv1 })), Value.int IntKind.i64 (M.Rg.lo (M.common { lo := as0, hi := as1 } { lo := bs0, hi := bs1 })), Value.int IntKind.i64 (M.Rg.hi (M.common { lo := as0, hi := as1 } { lo := bs0, hi := bs1 })), Value.int IntKind.i64 (M.Rg.lo (M.common { lo := ac0, hi := ac1 } { lo := bc0, hi := bc1 })), Value.int IntKind.i64 (M.Rg.hi (M.common { lo := ac0, hi := ac1 } { lo := bc0, hi := bc1 }))], Value.bool false]))) := by kernel_rfl
theorem C51 : GOK Tryd.prog gw 51 [.agg, .agg] d51 := by
  intro gs p v hd hp w xs hw hx
  unfold d51 at hd
  split at hd
  · cases hd
    refine grp_fin mixed gw_stable gw_glob (sl := [s89]) ⟨S89, trivial⟩ Tryd.func51 hw hx rfl rfl rfl rfl (t51 _ _ _ _ _ _ _ _ _ _ _ _) rfl ?_
    simp only [T.wp]
    repeat' (first | assumption | decide | refine ⟨?_, ?_⟩ | intro _)
    all_goals (try simp only [Bool.not_eq_true', Bool.not_eq_false'] at *)
    all_goals (first | rfl | (simp only [M.commonW, M.wOk, M.Wine.mk3, M.rgOk, M.Wine.v, M.Wine.s, M.Wine.c, M.Rate.w, M.Rate.al, M.wine0, M.rg0, M.rate0, cond_true, cond_false, decide_true, decide_false, *]; done) | (simp only [M.commonW, M.wOk, M.Wine.mk3, M.rgOk, M.Wine.v, M.Wine.s, M.Wine.c, M.Rate.w, M.Rate.al, M.wine0, M.rg0, M.rate0, cond_true, cond_false]; grind))
  · cases hd
theorem S51 : SumOK Tryd.prog gw 51 (grpSm [.agg, .agg] d51) := grp_sum Tryd.func51 rfl C51
theorem t106 (volume : Int) (own : Int) (x : Int) (y : Int) : runFn Tryd.prog 1 1 (lookS [s69]) 40 Tryd.f106 [.c (.int .i64 volume), .c (.int .i64 own), .c (.int .i64 x), .c (.int .i64 y)] gb =
    T.br (decide (own ≥ y)) (T.ret (Value.int IntKind.i64 (0 : Int))) (T.need (IntKind.wrap IntKind.i64 (x - y) ≠ (0 : Int)) (T.ret (Value.int IntKind.i64 (M.ceiling (IntKind.wrap IntKind.i64 (volume * IntKind.wrap IntKind.i64 (y - own))) (IntKind.wrap IntKind.i64 (x - y)))))) := by kernel_rfl
theorem C106 : GOK Tryd.prog gw 106 [.c, .c, .c, .c] d106 := by
  intro gs p v hd hp w xs hw hx
  unfold d106 at hd
  split at hd
  · cases hd
    refine grp_fin mixed gw_stable gw_glob (sl := [s69]) ⟨S69, trivial⟩ Tryd.func106 hw hx rfl rfl rfl rfl (t106 _ _ _ _) rfl ?_
    obtain ⟨hp0, _⟩ := hp
    simp only [T.wp]
    repeat' (first | assumption | decide | refine ⟨?_, ?_⟩ | intro _)
    all_goals (try simp only [Bool.not_eq_true', Bool.not_eq_false'] at *)
    all_goals (first | rfl | (simp only [M.needed, M.Wine.v, M.Wine.s, M.Wine.c, M.Rate.w, M.Rate.al, M.wine0, M.rg0, M.rate0, cond_true, cond_false, decide_true, decide_false, *]; done) | (simp only [M.needed, M.Wine.v, M.Wine.s, M.Wine.c, M.Rate.w, M.Rate.al, M.wine0, M.rg0, M.rate0, cond_true, cond_false]; grind))
  · cases hd
theorem S106 : SumOK Tryd.prog gw 106 (grpSm [.c, .c, .c, .c] d106) := grp_sum Tryd.func106 rfl C106
theorem t32 (lo : Int) (hi : Int) (b : Int) : runFn Tryd.prog 1 1 (lookS [s67]) 40 Tryd.f32 [.agg [.int .i64 lo, .int .i64 hi], .c (.int .i64 b)] gb =
    T.need (IntKind.wrap IntKind.i64 (IntKind.wrap IntKind.i64 (hi - lo) + (1 : Int)) ≠ (0 : Int)) (T.ret (Value.int IntKind.i64 (IntKind.wrap IntKind.i64 (lo + M.mod b (IntKind.wrap IntKind.i64 (IntKind.wrap IntKind.i64 (hi - lo) + (1 : Int))))))) := by kernel_rfl
theorem C32 : GOK Tryd.prog gw 32 [.agg, .c] d32 := by
  intro gs p v hd hp w xs hw hx
  unfold d32 at hd
  split at hd
  · cases hd
    refine grp_fin mixed gw_stable gw_glob (sl := [s67]) ⟨S67, trivial⟩ Tryd.func32 hw hx rfl rfl rfl rfl (t32 _ _ _) rfl ?_
    obtain ⟨hp0, _⟩ := hp
    simp only [T.wp]
    repeat' (first | assumption | decide | refine ⟨?_, ?_⟩ | intro _)
    all_goals (try simp only [Bool.not_eq_true', Bool.not_eq_false'] at *)
    all_goals (first | rfl | (simp only [M.pick, M.Wine.v, M.Wine.s, M.Wine.c, M.Rate.w, M.Rate.al, M.wine0, M.rg0, M.rate0, cond_true, cond_false, decide_true, decide_false, *]; done) | (simp only [M.pick, M.Wine.v, M.Wine.s, M.Wine.c, M.Rate.w, M.Rate.al, M.wine0, M.rg0, M.rate0, cond_true, cond_false]; grind))
  · cases hd
theorem S32 : SumOK Tryd.prog gw 32 (grpSm [.agg, .c] d32) := grp_sum Tryd.func32 rfl C32
theorem t63 (lo : Int) (hi : Int) (b : Int) : runFn Tryd.prog 1 1 (lookS [s67]) 40 Tryd.f63 [.agg [.int .i64 lo, .int .i64 hi], .c (.int .i64 b)] gb =
    T.need (IntKind.wrap IntKind.i64 (IntKind.wrap IntKind.i64 (hi - lo) + (1 : Int)) ≠ (0 : Int)) (T.ret (Value.int IntKind.i64 (IntKind.wrap IntKind.i64 (lo + M.mod b (IntKind.wrap IntKind.i64 (IntKind.wrap IntKind.i64 (hi - lo) + (1 : Int))))))) := by kernel_rfl
theorem C63 : GOK Tryd.prog gw 63 [.agg, .c] d63 := by
  intro gs p v hd hp w xs hw hx
  unfold d63 at hd
  split at hd
  · cases hd
    refine grp_fin mixed gw_stable gw_glob (sl := [s67]) ⟨S67, trivial⟩ Tryd.func63 hw hx rfl rfl rfl rfl (t63 _ _ _) rfl ?_
    obtain ⟨hp0, _⟩ := hp
    simp only [T.wp]
    repeat' (first | assumption | decide | refine ⟨?_, ?_⟩ | intro _)
    all_goals (try simp only [Bool.not_eq_true', Bool.not_eq_false'] at *)
    all_goals (first | rfl | (simp only [M.pick, M.Wine.v, M.Wine.s, M.Wine.c, M.Rate.w, M.Rate.al, M.wine0, M.rg0, M.rate0, cond_true, cond_false, decide_true, decide_false, *]; done) | (simp only [M.pick, M.Wine.v, M.Wine.s, M.Wine.c, M.Rate.w, M.Rate.al, M.wine0, M.rg0, M.rate0, cond_true, cond_false]; grind))
  · cases hd
theorem S63 : SumOK Tryd.prog gw 63 (grpSm [.agg, .c] d63) := grp_sum Tryd.func63 rfl C63
theorem t66 (volume : Int) (own : Int) (spirit : Int) (strength : Int) (target : Int) : runFn Tryd.prog 1 1 (lookS []) 40 Tryd.f66 [.c (.int .i64 volume), .c (.int .i64 own), .c (.int .i64 spirit), .c (.int .i64 strength), .c (.int .i64 target)] gb =
    T.ret (Value.bool (decide (IntKind.wrap IntKind.i64 (IntKind.wrap IntKind.i64 (volume * own) + IntKind.wrap IntKind.i64 (spirit * strength)) ≥ IntKind.wrap IntKind.i64 (target * IntKind.wrap IntKind.i64 (volume + spirit))))) := by kernel_rfl
theorem C66 : GOK Tryd.prog gw 66 [.c, .c, .c, .c, .c] d66 := by
  intro gs p v hd hp w xs hw hx
  unfold d66 at hd
  split at hd
  · cases hd
    refine grp_fin mixed gw_stable gw_glob (sl := []) trivial Tryd.func66 hw hx rfl rfl rfl rfl (t66 _ _ _ _ _) rfl ?_
    simp only [T.wp]
    repeat' (first | assumption | decide | refine ⟨?_, ?_⟩ | intro _)
    all_goals (try simp only [Bool.not_eq_true', Bool.not_eq_false'] at *)
    all_goals (first | rfl | (simp only [M.reach, M.Wine.v, M.Wine.s, M.Wine.c, M.Rate.w, M.Rate.al, M.wine0, M.rg0, M.rate0, cond_true, cond_false, decide_true, decide_false, *]; done) | (simp only [M.reach, M.Wine.v, M.Wine.s, M.Wine.c, M.Rate.w, M.Rate.al, M.wine0, M.rg0, M.rate0, cond_true, cond_false]; grind))
  · cases hd
theorem S66 : SumOK Tryd.prog gw 66 (grpSm [.c, .c, .c, .c, .c] d66) := grp_sum Tryd.func66 rfl C66
theorem t56 (n : Int) : runFn Tryd.prog 1 1 (lookS []) 40 Tryd.f56 [.c (.int .i64 n)] gb =
    T.ret (Value.agg #[Value.int IntKind.i64 n, Value.int IntKind.i64 n]) := by kernel_rfl
theorem C56 : GOK Tryd.prog gw 56 [.c] d56 := by
  intro gs p v hd hp w xs hw hx
  unfold d56 at hd
  split at hd
  · cases hd
    refine grp_fin mixed gw_stable gw_glob (sl := []) trivial Tryd.func56 hw hx rfl rfl rfl rfl (t56 _) rfl ?_
    simp only [T.wp]
    repeat' (first | assumption | decide | refine ⟨?_, ?_⟩ | intro _)
    all_goals (try simp only [Bool.not_eq_true', Bool.not_eq_false'] at *)
    all_goals (first | rfl | (simp only [M.Wine.v, M.Wine.s, M.Wine.c, M.Rate.w, M.Rate.al, M.wine0, M.rg0, M.rate0, cond_true, cond_false, decide_true, decide_false, *]; done) | (simp only [M.Wine.v, M.Wine.s, M.Wine.c, M.Rate.w, M.Rate.al, M.wine0, M.rg0, M.rate0, cond_true, cond_false]; grind))
  · cases hd
theorem S56 : SumOK Tryd.prog gw 56 (grpSm [.c] d56) := grp_sum Tryd.func56 rfl C56
theorem t105 (n : Int) : runFn Tryd.prog 1 1 (lookS []) 40 Tryd.f105 [.c (.int .i64 n)] gb =
    T.ret (Value.agg #[Value.int IntKind.i64 n, Value.int IntKind.i64 n]) := by kernel_rfl
theorem C105 : GOK Tryd.prog gw 105 [.c] d105 := by
  intro gs p v hd hp w xs hw hx
  unfold d105 at hd
  split at hd
  · cases hd
    refine grp_fin mixed gw_stable gw_glob (sl := []) trivial Tryd.func105 hw hx rfl rfl rfl rfl (t105 _) rfl ?_
    simp only [T.wp]
    repeat' (first | assumption | decide | refine ⟨?_, ?_⟩ | intro _)
    all_goals (try simp only [Bool.not_eq_true', Bool.not_eq_false'] at *)
    all_goals (first | rfl | (simp only [M.Wine.v, M.Wine.s, M.Wine.c, M.Rate.w, M.Rate.al, M.wine0, M.rg0, M.rate0, cond_true, cond_false, decide_true, decide_false, *]; done) | (simp only [M.Wine.v, M.Wine.s, M.Wine.c, M.Rate.w, M.Rate.al, M.wine0, M.rg0, M.rate0, cond_true, cond_false]; grind))
  · cases hd
theorem S105 : SumOK Tryd.prog gw 105 (grpSm [.c] d105) := grp_sum Tryd.func105 rfl C105
theorem t70 : runFn Tryd.prog 1 1 (lookS []) 40 Tryd.f70 [] gb =
    T.ret (Value.agg #[Value.int IntKind.i64 (1000 : Int), Value.int IntKind.i64 (1000 : Int), Value.int IntKind.i64 (1500 : Int), Value.int IntKind.i64 (1600 : Int), Value.int IntKind.i64 (200 : Int), Value.int IntKind.i64 (200 : Int)]) := by kernel_rfl
theorem C70 : GOK Tryd.prog gw 70 [] d70 := by
  intro gs p v hd hp w xs hw hx
  unfold d70 at hd
  split at hd
  · cases hd
    refine grp_fin mixed gw_stable gw_glob (sl := []) trivial Tryd.func70 hw hx rfl rfl rfl rfl (t70 ) rfl ?_
    simp only [T.wp]
    repeat' (first | assumption | decide | refine ⟨?_, ?_⟩ | intro _)
    all_goals (try simp only [Bool.not_eq_true', Bool.not_eq_false'] at *)
    all_goals (first | rfl | (simp only [M.Wine.v, M.Wine.s, M.Wine.c, M.Rate.w, M.Rate.al, M.wine0, M.rg0, M.rate0, cond_true, cond_false, decide_true, decide_false, *]; done) | (simp only [M.Wine.v, M.Wine.s, M.Wine.c, M.Rate.w, M.Rate.al, M.wine0, M.rg0, M.rate0, cond_true, cond_false]; grind))
  · cases hd
theorem S70 : SumOK Tryd.prog gw 70 (grpSm [] d70) := grp_sum Tryd.func70 rfl C70
theorem t71 : runFn Tryd.prog 1 1 (lookS []) 40 Tryd.f71 [] gb =
    T.ret (Value.agg #[Value.int IntKind.i64 (100 : Int), Value.int IntKind.i64 (200 : Int), Value.int IntKind.i64 (200 : Int), Value.int IntKind.i64 (300 : Int)]) := by kernel_rfl
theorem C71 : GOK Tryd.prog gw 71 [] d71 := by
  intro gs p v hd hp w xs hw hx
  unfold d71 at hd
  split at hd
  · cases hd
    refine grp_fin mixed gw_stable gw_glob (sl := []) trivial Tryd.func71 hw hx rfl rfl rfl rfl (t71 ) rfl ?_
    simp only [T.wp]
    repeat' (first | assumption | decide | refine ⟨?_, ?_⟩ | intro _)
    all_goals (try simp only [Bool.not_eq_true', Bool.not_eq_false'] at *)
    all_goals (first | rfl | (simp only [M.Wine.v, M.Wine.s, M.Wine.c, M.Rate.w, M.Rate.al, M.wine0, M.rg0, M.rate0, cond_true, cond_false, decide_true, decide_false, *]; done) | (simp only [M.Wine.v, M.Wine.s, M.Wine.c, M.Rate.w, M.Rate.al, M.wine0, M.rg0, M.rate0, cond_true, cond_false]; grind))
  · cases hd
theorem S71 : SumOK Tryd.prog gw 71 (grpSm [] d71) := grp_sum Tryd.func71 rfl C71
end Go.Fl
