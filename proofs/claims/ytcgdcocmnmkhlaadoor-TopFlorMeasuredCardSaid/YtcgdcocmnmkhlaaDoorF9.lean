/- Chapter 3: for how many days a strength is kept: contracts. -/
import Derived.Test.YtcgdcocmnmkhlaaDoorF5
import Derived.Test.YtcgdcocmnmkhlaaDoorF6
import Derived.Test.YtcgdcocmnmkhlaaDoorF8
namespace Go.Fl
open Go.Eng Go.RowKit Go.Proofs
set_option maxRecDepth 100000
namespace M
def safe (f : Int → Int) (k : Int) : Nat → Int → Int
  | 0, d => d
  | n + 1, d => cond (decide (f (W (d + 1)) ≥ k)) (safe f k n (W (d + 1))) d
def safeErr (w : Wine) (r : Rate) (k : Int) : Int := first [checkWine w, checkRate r, strengthErr k, unl (decide (w.s0 ≥ k)) 24]
def SafeDays (w : Wine) (r : Rate) (k : Int) : Int × Int := cond (safeErr w r k != 0) (0, safeErr w r k) (safe (fun d => (after w r d).s0) k 365 0, 0)
def rSafeDays (w : Wine) (r : Rate) (k : Int) : Int × Int :=
  cond (first3 (rCheckWine w) (rCheckRate r) (rStrengthErr k) != 0) (0, first3 (rCheckWine w) (rCheckRate r) (rStrengthErr k))
    (cond (decide (w.s0 < k)) (0, 24) (safe (fun d => (rStrength w r d).lo) k 365 0, 0))
end M
theorem sdT_wp (f : Int → Int) (r : M.Rate) (k : Int) (hr : L.OkR r) (Q : Value → Prop) : ∀ (n : Nat) (d : Int), 0 ≤ d → d + n ≤ 365 → Q (.tuple #[.int .i64 (M.safe f k n d), .int .i64 0]) → (sdT f r k n d).wp Q := by
  intro n
  induction n with
  | zero => intro d _ _ h; exact h
  | succ n ih =>
    intro d h0 h1 h
    have e : M.W (d + 1) = d + 1 := L.W_id (by omega) (by omega)
    have hl := L.task_left (d := M.W (d + 1)) hr (by rw [e]; omega)
    simp only [sdT, T.wp]
    refine ⟨hl.1, hl.2, ?_, ?_⟩
    · intro hb
      refine ih _ (by omega) (by omega) ?_
      simpa only [M.safe, hb, cond_true] using h
    · intro hb
      simpa only [M.safe, hb, cond_false] using h
def d39 : DomG
  | [[.int .i64 v0, .int .i64 v1, .int .i64 s0, .int .i64 s1, .int .i64 c0, .int .i64 c1], [.int .i64 ra, .int .i64 rb, .int .i64 rc, .int .i64 rd], [.int .i64 k]] => some ([], .tup [aI (M.SafeDays ⟨v0, v1, s0, s1, c0, c1⟩ ⟨ra, rb, rc, rd⟩ k).1, aI (M.SafeDays ⟨v0, v1, s0, s1, c0, c1⟩ ⟨ra, rb, rc, rd⟩ k).2])
  | _ => none
def s39 : Nat × Sm := (39, grpSm [.agg, .agg, .c] d39)
def d41 : DomG
  | [[.int .i64 v0, .int .i64 v1, .int .i64 s0, .int .i64 s1, .int .i64 c0, .int .i64 c1], [.int .i64 ra, .int .i64 rb, .int .i64 rc, .int .i64 rd], [.int .i64 k]] => some ([], .tup [aI (M.rSafeDays ⟨v0, v1, s0, s1, c0, c1⟩ ⟨ra, rb, rc, rd⟩ k).1, aI (M.rSafeDays ⟨v0, v1, s0, s1, c0, c1⟩ ⟨ra, rb, rc, rd⟩ k).2])
  | _ => none
def s41 : Nat × Sm := (41, grpSm [.agg, .agg, .c] d41)
theorem C39 : GOK Tryd.prog gw 39 [.agg, .agg, .c] d39 := by
  intro gs p v hd hp w xs hw hx
  unfold d39 at hd
  split at hd
  · rename_i v0 v1 s0 s1 c0 c1 ra rb rc rd k
    cases hd
    refine grp_fin mixed gw_stable gw_glob (sl := [s21, s23, s86, s85, s76, s78]) ⟨S21, S23, S86, S85, S76, S78, trivial⟩ Tryd.func39 hw hx rfl rfl rfl rfl (t39 _ _ _ _ _ _ _ _ _ _ _) rfl ?_
    simp only [T.wp]
    refine ⟨?_, ?_⟩
    · intro h
      simp only [M.SafeDays, M.safeErr, h, cond_true]
    · intro h
      have h' := L.ne_false.1 h
      rw [L.first_nil] at h'
      refine sdT_wp _ _ _ (L.checkRate_zero.1 (h' _ (by simp))) _ _ _ (by decide) (by decide) ?_
      simp only [M.SafeDays, M.safeErr, h, cond_false]
  · cases hd
theorem S39 : SumOK Tryd.prog gw 39 (grpSm [.agg, .agg, .c] d39) := grp_sum Tryd.func39 rfl C39
theorem C41 : GOK Tryd.prog gw 41 [.agg, .agg, .c] d41 := by
  intro gs p v hd hp w xs hw hx
  unfold d41 at hd
  split at hd
  · rename_i v0 v1 s0 s1 c0 c1 ra rb rc rd k
    cases hd
    refine grp_fin mixed gw_stable gw_glob (sl := [s22, s24, s65, s74, s83]) ⟨S22, S24, S65, S74, S83, trivial⟩ Tryd.func41 hw hx rfl rfl rfl rfl (t41 _ _ _ _ _ _ _ _ _ _ _) rfl ?_
    simp only [T.wp]
    refine ⟨?_, ?_⟩
    · intro h
      simp only [M.rSafeDays, h, cond_true]
    · intro h
      refine ⟨?_, ?_⟩
      · intro h2
        simp only [M.rSafeDays, h, h2, cond_true, cond_false]
      · intro h2
        have h' := L.ne_false.1 h
        rw [L.first3_eq, L.first_nil] at h'
        have h3 : M.rCheckRate ⟨ra, rb, rc, rd⟩ = 0 := h' _ (by simp)
        rw [L.rCheckRate_eq] at h3
        refine sdT_wp _ _ _ (L.checkRate_zero.1 h3) _ _ _ (by decide) (by decide) ?_
        simp only [M.rSafeDays, h, h2, cond_false]
  · cases hd
theorem S41 : SumOK Tryd.prog gw 41 (grpSm [.agg, .agg, .c] d41) := grp_sum Tryd.func41 rfl C41
end Go.Fl
