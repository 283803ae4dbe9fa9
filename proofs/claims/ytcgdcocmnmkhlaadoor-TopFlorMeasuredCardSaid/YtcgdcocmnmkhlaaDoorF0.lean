/- Contracts of the functions of chapter 3: what they rest on; the first error of a list. -/
import Derived.Test.YtcgdcocmnmkhlaaDoorD
namespace Go.Fl
open Go.Eng Go.RowKit Go.Proofs
set_option maxRecDepth 100000

/-- What the package-level variable holds. -/
def gw (w : World) : Prop := 0 < w.heap.size ∧ w.cell? ⟨0, 0, none⟩ = some (.int .i64 100000) ∧ w.cell? ⟨0, 1, none⟩ = some (.int .i64 10000) ∧ w.cell? ⟨0, 2, none⟩ = some (.int .i64 100000)
theorem gw_stable (w w' : World) (h : gw w) (hb : Below w.heap.size w w') : gw w' := by
  obtain ⟨h0, h1, h2, h3⟩ := h
  have e : ∀ j, w'.cell? ⟨0, j, none⟩ = w.cell? ⟨0, j, none⟩ := fun j => hb.cell (p := ⟨0, j, none⟩) h0
  exact ⟨Nat.lt_of_lt_of_le h0 hb.size, by rw [e]; exact h1, by rw [e]; exact h2, by rw [e]; exact h3⟩
theorem gw_glob : Glob 1 gw gb where
  len := rfl
  at_ := by
    intro w h i k hk
    obtain ⟨h0, h1, h2, h3⟩ := h
    match i, hk with
    | 0, hk =>
      simp only [gb, List.getElem?_cons_zero, Option.some.injEq] at hk
      subst hk
      refine ⟨h0, fun ρ => part_rel (vs := [.int .i64 100000, .int .i64 10000, .int .i64 100000]) (.cons rfl (.cons rfl (.cons rfl .nil))) ?_⟩
      intro j v hj
      match j, hj with
      | 0, hj => simp at hj; subst hj; exact h1
      | 1, hj => simp at hj; subst hj; exact h2
      | 2, hj => simp at hj; subst hj; exact h3
      | j + 3, hj => simp at hj
    | i + 1, hk => simp [gb] at hk
theorem mixed : Tryd.prog.follows .mixedOrders = true := by kernel_rfl

theorem t76_2 (a b : Int) : runFn Tryd.prog 1 2 (lookS []) 40 Tryd.f76 [.c (.sl 1 0 2 2)] (gb ++ [.part 0 [.int .i64 a, .int .i64 b]]) =
    T.br (a != 0) (T.ret (.int .i64 a)) (T.br (b != 0) (T.ret (.int .i64 b)) (T.ret (.int .i64 0))) := by kernel_rfl
theorem t76_3 (a b c : Int) : runFn Tryd.prog 1 2 (lookS []) 40 Tryd.f76 [.c (.sl 1 0 3 3)] (gb ++ [.part 0 [.int .i64 a, .int .i64 b, .int .i64 c]]) =
    T.br (a != 0) (T.ret (.int .i64 a)) (T.br (b != 0) (T.ret (.int .i64 b)) (T.br (c != 0) (T.ret (.int .i64 c)) (T.ret (.int .i64 0)))) := by kernel_rfl
theorem t76_4 (a b c d : Int) : runFn Tryd.prog 1 2 (lookS []) 40 Tryd.f76 [.c (.sl 1 0 4 4)] (gb ++ [.part 0 [.int .i64 a, .int .i64 b, .int .i64 c, .int .i64 d]]) =
    T.br (a != 0) (T.ret (.int .i64 a)) (T.br (b != 0) (T.ret (.int .i64 b)) (T.br (c != 0) (T.ret (.int .i64 c)) (T.br (d != 0) (T.ret (.int .i64 d)) (T.ret (.int .i64 0))))) := by kernel_rfl
theorem C76 : GOK Tryd.prog gw 76 [.sl] d76 := by
  intro gs p v hd hp w xs hw hx
  unfold d76 at hd
  split at hd
  · cases hd
    refine grp_fin mixed gw_stable gw_glob (sl := []) trivial Tryd.func76 hw hx rfl rfl rfl rfl (t76_2 _ _) rfl ?_
    simp only [T.wp]
    repeat' (first | refine ⟨?_, ?_⟩ | intro _)
    all_goals (simp only [M.first, cond_true, cond_false, *])
  · cases hd
    refine grp_fin mixed gw_stable gw_glob (sl := []) trivial Tryd.func76 hw hx rfl rfl rfl rfl (t76_3 _ _ _) rfl ?_
    simp only [T.wp]
    repeat' (first | refine ⟨?_, ?_⟩ | intro _)
    all_goals (simp only [M.first, cond_true, cond_false, *])
  · cases hd
    refine grp_fin mixed gw_stable gw_glob (sl := []) trivial Tryd.func76 hw hx rfl rfl rfl rfl (t76_4 _ _ _ _) rfl ?_
    simp only [T.wp]
    repeat' (first | refine ⟨?_, ?_⟩ | intro _)
    all_goals (simp only [M.first, cond_true, cond_false, *])
  · cases hd
theorem S76 : SumOK Tryd.prog gw 76 (grpSm [.sl] d76) := grp_sum Tryd.func76 rfl C76
end Go.Fl
