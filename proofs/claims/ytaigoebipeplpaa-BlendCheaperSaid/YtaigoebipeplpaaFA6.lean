/- The parts of the engines, of their contracts and of the plain laws that the claim rests on: B43, B44, R0, RG, B45, B46. -/
import Derived.Test.YtaigoebipeplpaaFA5
import Derived.ChangeSame
import Derived.ChangeVars
import Derived.ProofKit
import Derived.LaidMore
import Derived.OpenShut
import Derived.Carry
import Derived.ChangeArms
set_option linter.unusedVariables false
set_option linter.unusedSimpArgs false
section
set_option linter.unusedVariables false
set_option linter.unusedSimpArgs false
set_option maxRecDepth 100000
namespace Go.Bl
open Go.V Go.Proofs
namespace M
def proves (l : List Cask) (s : Sample) (w : Wts) : Int × Int × Int := cond (openW l s w != 0) (0, 0, openW l s w) (cond ((List.range l.length).any fun i => decide (giveR l s w i > IntKind.i64.wrap (w.den * (l.getD i dfC).cost))) (0, 0, 20) (told1 (boundR l s w) w.den, told2 (boundR l s w) w.den, 0))
def fails (l : List Cask) (s : Sample) (w : Wts) : Int := cond (openW l s w != 0) (openW l s w) (cond ((List.range l.length).any fun i => decide (giveR l s w i > 0)) 20 (unl (decide (boundR l s w > 0)) 20))
end M
/-- Right weights of right casks. -/
structure RightW (l : List Cask) (s : Sample) (w : Wts) : Prop where
  rl : RightL l s
  den : 1 ≤ w.den ∧ w.den ≤ 200000000000
  each : w.each.natAbs ≤ 100000000000000
  len : w.casks.length = l.length
  all : Each (fun b => 0 ≤ b ∧ b ≤ 100000000000000) w
theorem allB_all {is : Int → Bool} : ∀ {l : List Int}, M.allB is l = true → ∀ x, x ∈ l → is x = true
  | [], _, x, hx => by cases hx
  | n :: l, h, x, hx => by
    unfold M.allB at h
    cases hn : is n
    · rw [hn] at h; cases h
    · rw [hn] at h
      rcases List.mem_cons.1 hx with rfl | hx
      · exact hn
      · exact allB_all h x hx
theorem openW_right {l : List Cask} {s : Sample} {w : Wts} (h : M.openW l s w = 0) : RightW l s w := by
  unfold M.openW at h
  have hz := first_nil _ h
  have h1 := hz (M.casksErr l) (by simp)
  have h2 := hz (M.checkSample s) (by simp)
  have h3 := unl_zero (by decide) (hz (M.unl (M.wHead w) 2) (by simp))
  have h4 := unl_zero (by decide) (hz (M.unl ((w.casks.length : Int) == (l.length : Int)) 10) (by simp))
  have h5 := unl_zero (by decide) (hz (M.unl (M.wOk w) 2) (by simp))
  have ht : M.taskErr l s = 0 := by unfold M.taskErr; rw [h1, h2]; rfl
  unfold M.wHead at h3
  rw [Bool.and_eq_true] at h3
  have hd := within_spec h3.1
  have he := within_spec h3.2
  unfold M.wOk at h5
  rw [Bool.and_eq_true, Bool.and_eq_true] at h5
  have ok : ∀ {L : List Int}, M.allB M.isWeight L = true → ∀ x, x ∈ L → 0 ≤ x ∧ x ≤ 100000000000000 := fun hL x hx => within_spec (allB_all hL x hx)
  refine ⟨task_right ht, hd, by omega, by have := eq_of_beq h4; omega, fun i => ?_, ?_, ?_⟩
  · by_cases hi : i < w.casks.length
    · exact ok h5.2 _ (getD_mem hi)
    · rw [en_out (by omega)]; decide
  · exact ⟨ok h5.1.1 _ (by simp), ok h5.1.1 _ (by simp), ok h5.1.1 _ (by simp), ok h5.1.1 _ (by simp)⟩
  · exact ⟨ok h5.1.2 _ (by simp), ok h5.1.2 _ (by simp), ok h5.1.2 _ (by simp), ok h5.1.2 _ (by simp)⟩
theorem giveK_eq {x y v lo hi g : Int} {G : Nat} (hx : 0 ≤ x ∧ x ≤ 100000000000000) (hy : 0 ≤ y ∧ y ≤ 100000000000000) (hv : 0 ≤ v ∧ v ≤ 1000) (hl : 0 ≤ lo ∧ lo ≤ 1000) (hh : 0 ≤ hi ∧ hi ≤ 1000) (hg : g.natAbs ≤ G) (hG : G ≤ 8000000000000000000) :
    M.giveK x y v lo hi g = g - x * (v - hi) - y * (lo - v) ∧ (M.giveK x y v lo hi g).natAbs ≤ G + 200000000000000000 := by
  have b1 : (x * (v - hi)).natAbs ≤ 100000000000000 * 1000 := by rw [Int.natAbs_mul]; exact Nat.mul_le_mul (by omega) (by omega)
  have b2 : (y * (lo - v)).natAbs ≤ 100000000000000 * 1000 := by rw [Int.natAbs_mul]; exact Nat.mul_le_mul (by omega) (by omega)
  have e : M.giveK x y v lo hi g = g - x * (v - hi) - y * (lo - v) := by
    unfold M.giveK
    rw [wrap_id (n := v - hi) (by omega) (by omega), wrap_id (n := lo - v) (by omega) (by omega), wrap_id (n := x * (v - hi)) (by omega) (by omega), wrap_id (n := y * (lo - v)) (by omega) (by omega), wrap_id (n := g - x * (v - hi)) (by omega) (by omega), wrap_id (by omega) (by omega)]
  refine ⟨e, ?_⟩
  rw [e]; omega
theorem fold_sub {y : Nat → Int} {z : Int} (hz : z.natAbs ≤ 1000000000000000000) : ∀ {n : Nat}, n ≤ 4 → (∀ i, i < n → (y i).natAbs ≤ 1000000000000000000) → (List.range n).foldl (fun a i => IntKind.i64.wrap (a - IntKind.i64.wrap (y i))) (IntKind.i64.wrap z) = z - dot y n ∧ (dot y n).natAbs ≤ n * 1000000000000000000
  | 0, _, _ => ⟨by show IntKind.i64.wrap z = z - 0; rw [wrap_id (by omega) (by omega)]; omega, by show (0 : Int).natAbs ≤ _; simp⟩
  | n + 1, hn, hy => by
    obtain ⟨h1, h2⟩ := fold_sub hz (n := n) (by omega) (fun i hi => hy i (by omega))
    have hb := hy n (by omega)
    have e : dot y (n + 1) = dot y n + y n := rfl
    rw [foldl_succ, h1, wrap_id (n := y n) (by omega) (by omega), wrap_id (by omega) (by omega), e]
    constructor <;> omega
section
variable {l : List Cask} {s : Sample} {w : Wts}
theorem giveR_eq (h : RightW l s w) {i : Nat} (hi : i < l.length) : M.giveR l s w i = gift l s w i := by
  obtain ⟨hc, ⟨x0, x1, x2, x3⟩, y0, y1, y2, y3⟩ := h.all
  have hr := h.rl.rc i hi
  have hcs : 0 ≤ w.casks.getD i 0 ∧ w.casks.getD i 0 ≤ 100000000000000 := hc i
  have he := h.each
  have l0 : 0 ≤ s.r0.lo ∧ s.r0.lo ≤ 1000 := h.rl.lo 0 (by decide)
  have h0 : 0 ≤ s.r0.hi ∧ s.r0.hi ≤ 1000 := h.rl.hi 0 (by decide)
  have l1 : 0 ≤ s.r1.lo ∧ s.r1.lo ≤ 1000 := h.rl.lo 1 (by decide)
  have h1 : 0 ≤ s.r1.hi ∧ s.r1.hi ≤ 1000 := h.rl.hi 1 (by decide)
  have l2 : 0 ≤ s.r2.lo ∧ s.r2.lo ≤ 1000 := h.rl.lo 2 (by decide)
  have h2 : 0 ≤ s.r2.hi ∧ s.r2.hi ≤ 1000 := h.rl.hi 2 (by decide)
  have l3 : 0 ≤ s.r3.lo ∧ s.r3.lo ≤ 1000 := h.rl.lo 3 (by decide)
  have h3 : 0 ≤ s.r3.hi ∧ s.r3.hi ≤ 1000 := h.rl.hi 3 (by decide)
  have e0 : IntKind.i64.wrap (w.each - w.casks.getD i 0) = w.each - w.casks.getD i 0 := wrap_id (by omega) (by omega)
  have g0 := giveK_eq (g := w.each - w.casks.getD i 0) (G := 200000000000000) x0 y0 hr.k0 l0 h0 (by omega) (by decide)
  have g1 := giveK_eq (G := 200000000000000 + 200000000000000000) x1 y1 hr.k1 l1 h1 g0.2 (by decide)
  have g2 := giveK_eq (G := 200000000000000 + 200000000000000000 + 200000000000000000) x2 y2 hr.k2 l2 h2 g1.2 (by decide)
  have g3 := giveK_eq (G := 200000000000000 + 200000000000000000 + 200000000000000000 + 200000000000000000) x3 y3 hr.k3 l3 h3 g2.2 (by decide)
  unfold M.giveR
  rw [e0, g3.1, g2.1, g1.1, g0.1, gift_eq w hi]
  unfold hiF loF
  show _ = w.each - w.casks.getD i 0 - (w.x0 * ((l.getD i dfC).k0 - s.r0.hi) + w.x1 * ((l.getD i dfC).k1 - s.r1.hi) + w.x2 * ((l.getD i dfC).k2 - s.r2.hi) + w.x3 * ((l.getD i dfC).k3 - s.r3.hi)) - (w.y0 * (s.r0.lo - (l.getD i dfC).k0) + w.y1 * (s.r1.lo - (l.getD i dfC).k1) + w.y2 * (s.r2.lo - (l.getD i dfC).k2) + w.y3 * (s.r3.lo - (l.getD i dfC).k3))
  omega
theorem boundR_eq (h : RightW l s w) : M.boundR l s w = bound l s w ∧ (bound l s w).natAbs ≤ 5000000000000000000 := by
  have hv := h.rl.v
  have he := h.each
  have hz : (w.each * s.vol).natAbs ≤ 1000000000000000000 := by
    rw [Int.natAbs_mul]; exact Nat.le_trans (Nat.mul_le_mul he (show s.vol.natAbs ≤ 10000 by omega)) (by decide)
  have hy : ∀ i, i < l.length → (w.casks.getD i 0 * (l.getD i dfC).vol).natAbs ≤ 1000000000000000000 := by
    intro i hi
    have h1 : 0 ≤ w.casks.getD i 0 ∧ w.casks.getD i 0 ≤ 100000000000000 := h.all.1 i
    have h2 := (h.rl.rc i hi).vol
    rw [Int.natAbs_mul]
    exact Nat.le_trans (Nat.mul_le_mul (show (w.casks.getD i 0).natAbs ≤ 100000000000000 by omega) (show ((l.getD i dfC).vol).natAbs ≤ 10000 by omega)) (by decide)
  obtain ⟨f1, f2⟩ := fold_sub (y := fun i => w.casks.getD i 0 * (l.getD i dfC).vol) hz h.rl.n4 hy
  have e : bound l s w = w.each * s.vol - dot (fun i => w.casks.getD i 0 * (l.getD i dfC).vol) l.length := by
    rw [bound_eq, smI_dot]; rfl
  have := h.rl.n4
  refine ⟨by rw [e]; exact f1, ?_⟩
  rw [e]; omega
end
theorem any_yes {n k : Nat} {p : Nat → Bool} (hk : k < n) (h : p k = true) : (List.range n).any p = true := List.any_eq_true.2 ⟨k, List.mem_range.2 hk, h⟩
theorem any_no {n : Nat} {p : Nat → Bool} (h : ∀ k, k < n → p k = false) : (List.range n).any p = false := by
  rw [Bool.eq_false_iff]
  intro e
  obtain ⟨k, hk, hp⟩ := List.any_eq_true.1 e
  rw [h k (List.mem_range.1 hk)] at hp; cases hp
theorem giveB (g x y v lo hi : Int) : IntKind.i64.wrap (g - IntKind.i64.wrap (IntKind.i64.wrap (x * IntKind.i64.wrap (v - hi)) + IntKind.i64.wrap (y * IntKind.i64.wrap (lo - v)))) = M.giveK x y v lo hi g := by
  unfold M.giveK
  generalize x * IntKind.i64.wrap (v - hi) = p
  generalize y * IntKind.i64.wrap (lo - v) = q
  simp only [IntKind.wrap_i64]; omega
section
variable {l : List Cask} {s : Sample} {w : Wts}
theorem proves_err (h : (M.openW l s w != 0) = true) : M.proves l s w = (0, 0, M.openW l s w) := by unfold M.proves; rw [h]; rfl
theorem proves_hit (h : (M.openW l s w != 0) = false) {k : Nat} (hk : k < l.length) (hg : decide (M.giveR l s w k > IntKind.i64.wrap (w.den * (l.getD k dfC).cost)) = true) : M.proves l s w = (0, 0, 20) := by
  unfold M.proves; rw [h, any_yes (p := fun i => decide (M.giveR l s w i > IntKind.i64.wrap (w.den * (l.getD i dfC).cost))) hk hg]; rfl
theorem proves_ok (h : (M.openW l s w != 0) = false) (hg : ∀ k, k < l.length → decide (M.giveR l s w k > IntKind.i64.wrap (w.den * (l.getD k dfC).cost)) = false) : M.proves l s w = (M.told1 (M.boundR l s w) w.den, M.told2 (M.boundR l s w) w.den, 0) := by
  unfold M.proves; rw [h, any_no hg]; rfl
theorem fails_err (h : (M.openW l s w != 0) = true) : M.fails l s w = M.openW l s w := by unfold M.fails; rw [h]; rfl
theorem fails_hit (h : (M.openW l s w != 0) = false) {k : Nat} (hk : k < l.length) (hg : decide (M.giveR l s w k > 0) = true) : M.fails l s w = 20 := by
  unfold M.fails; rw [h, any_yes (p := fun i => decide (M.giveR l s w i > 0)) hk hg]; rfl
theorem fails_ok (h : (M.openW l s w != 0) = false) (hg : ∀ k, k < l.length → decide (M.giveR l s w k > 0) = false) : M.fails l s w = M.unl (decide (M.boundR l s w > 0)) 20 := by
  unfold M.fails; rw [h, any_no hg]; rfl
end
def wP (w : Wts) : Wts := ⟨w.den, w.each, w.x0, w.x1, w.x2, w.x3, w.y0, w.y1, w.y2, w.y3, Enc.list eI (List.length w.casks) (Enc.F eI w.casks)⟩
theorem wP_eq (w : Wts) : wP w = w := by unfold wP; rw [Enc.list_F]
def tr55 (l : List Cask) (s : Sample) (w : Wts) : T (List Ar) :=
    T.need (Enc.Is eC (List.length l) (Enc.F eC l)) (T.need (Enc.Is eI (List.length w.casks) (Enc.F eI w.casks)) (T.need (∀ (c : Cask), c ∈ Enc.list eC (List.length l) (Enc.F eC l) → ByteArray.size (Cask.nm c) ≤ (1000000 : Nat)) (T.need (List.length (Enc.list eI (List.length w.casks) (Enc.F eI w.casks)) ≤ (1000000 : Nat)) (T.br (M.openW (Enc.list eC (List.length l) (Enc.F eC l)) s (wP w) != (0 : Int)) (T.ret [Ar.agg [D.int IntKind.i64 (0 : Int), D.int IntKind.i64 (0 : Int)], Ar.c (D.int IntKind.i64 (M.openW (Enc.list eC (List.length l) (Enc.F eC l)) s (wP w)))]) (T.loop (Int × Int × Int × Int × PUnit) ((0 : Int), (0 : Int), (0 : Int), (0 : Int), PUnit.unit) fun (x : Int × Int × Int × Int × PUnit) => T.br (decide (Prod.fst x < (Nat.cast (R := Int) (List.length l)))) (T.need ((0 : Int) ≤ Prod.fst x) (T.need (Prod.fst x < (Nat.cast (R := Int) (List.length l))) (T.need ((0 : Int) ≤ Prod.fst x) (T.need (Prod.fst x < (Nat.cast (R := Int) (List.length w.casks))) (T.need ((0 : Int) ≤ Prod.fst x) (T.need (Prod.fst x < (Nat.cast (R := Int) (List.length l))) (T.br (decide (IntKind.wrap IntKind.i64 (IntKind.wrap IntKind.i64 (IntKind.wrap IntKind.i64 (IntKind.wrap IntKind.i64 (IntKind.wrap IntKind.i64 (w.each - List.getD w.casks (Int.toNat (Prod.fst x)) (0 : Int)) - IntKind.wrap IntKind.i64 (IntKind.wrap IntKind.i64 (w.x0 * IntKind.wrap IntKind.i64 ((List.getD l (Int.toNat (Prod.fst x)) (Enc.dflt eC)).4 - s.r0.hi)) + IntKind.wrap IntKind.i64 (w.y0 * IntKind.wrap IntKind.i64 (s.r0.lo - (List.getD l (Int.toNat (Prod.fst x)) (Enc.dflt eC)).4)))) - IntKind.wrap IntKind.i64 (IntKind.wrap IntKind.i64 (w.x1 * IntKind.wrap IntKind.i64 ((List.getD l (Int.toNat (Prod.fst x)) (Enc.dflt eC)).5 - s.r1.hi)) + IntKind.wrap IntKind.i64 (w.y1 * IntKind.wrap IntKind.i64 (s.r1.lo - (List.getD l (Int.toNat (Prod.fst x)) (Enc.dflt eC)).5)))) - IntKind.wrap IntKind.i64 (IntKind.wrap IntKind.i64 (w.x2 * IntKind.wrap IntKind.i64 ((List.getD l (Int.toNat (Prod.fst x)) (Enc.dflt eC)).6 - s.r2.hi)) + IntKind.wrap IntKind.i64 (w.y2 * IntKind.wrap IntKind.i64 (s.r2.lo - (List.getD l (Int.toNat (Prod.fst x)) (Enc.dflt eC)).6)))) - IntKind.wrap IntKind.i64 (IntKind.wrap IntKind.i64 (w.x3 * IntKind.wrap IntKind.i64 ((List.getD l (Int.toNat (Prod.fst x)) (Enc.dflt eC)).7 - s.r3.hi)) + IntKind.wrap IntKind.i64 (w.y3 * IntKind.wrap IntKind.i64 (s.r3.lo - (List.getD l (Int.toNat (Prod.fst x)) (Enc.dflt eC)).7)))) > IntKind.wrap IntKind.i64 (w.den * (List.getD l (Int.toNat (Prod.fst x)) (Enc.dflt eC)).3))) (T.ret (Sum.inr [Ar.agg [D.int IntKind.i64 (0 : Int), D.int IntKind.i64 (0 : Int)], Ar.c (D.int IntKind.i64 (20 : Int))])) (T.ret (Sum.inl (IntKind.wrap IntKind.i64 (Prod.fst x + (1 : Int)), Prod.fst (Prod.snd x), Prod.fst (Prod.snd (Prod.snd x)), Prod.fst (Prod.snd (Prod.snd (Prod.snd x))), PUnit.unit)))))))))) (T.need (Enc.Is eC (List.length l) (Enc.F eC l)) (T.need (Enc.Is eI (List.length w.casks) (Enc.F eI w.casks)) (T.need (List.length (Enc.list eC (List.length l) (Enc.F eC l)) ≤ List.length (Enc.list eI (List.length w.casks) (Enc.F eI w.casks))) (T.need (List.length (Enc.list eC (List.length l) (Enc.F eC l)) ≤ (1000000 : Nat)) (T.need (w.den ≠ (0 : Int)) (T.need (Int.natAbs (M.boundR (Enc.list eC (List.length l) (Enc.F eC l)) s (wP w)) < (9223372036854775808 : Nat)) (T.need (Int.natAbs w.den < (9223372036854775808 : Nat)) (T.ret (Sum.inr [Ar.agg [D.int IntKind.i64 (M.told1 (M.boundR (Enc.list eC (List.length l) (Enc.F eC l)) s (wP w)) w.den), D.int IntKind.i64 (M.told2 (M.boundR (Enc.list eC (List.length l) (Enc.F eC l)) s (wP w)) w.den)], Ar.c (D.int IntKind.i64 (0 : Int))]))))))))))))))
theorem t55 (q_l : Bool) (l : List Cask) (sv l0 h0 l1 h1 l2 h2 l3 h3 : Int) (den : Int) (each : Int) (x0 : Int) (x1 : Int) (x2 : Int) (x3 : Int) (y0 : Int) (y1 : Int) (y2 : Int) (y3 : Int) (q_ps : Bool) (ps : List Int) : runFnX Try.prog G0 (lookS [v109, v111, v83]) (fun f => match Nat.beq f 131 with | true => [(1, [.slot 12 (.int .i64), .blk 1000003 [.int .i64, .int .i64], .blk 1000004 [.int .i64]], none), (1000028, [], none), (3000027, [], none)] | _ => []) [110, 131] 1 40 5 55 Try.f55 [.c (.sl q_l l.length 7 (eC.F l)), .agg [dI sv, dI l0, dI h0, dI l1, dI h1, dI l2, dI h2, dI l3, dI h3], .agg [dI den, dI each, dI x0, dI x1, dI x2, dI x3, dI y0, dI y1, dI y2, dI y3, .sl q_ps ps.length 1 (eI.F ps)]] =
    tr55 l (⟨sv, ⟨l0, h0⟩, ⟨l1, h1⟩, ⟨l2, h2⟩, ⟨l3, h3⟩⟩ : Sample) (⟨den, each, x0, x1, x2, x3, y0, y1, y2, y3, ps⟩ : Wts) := by kernel_rfl
def tr57 (l : List Cask) (s : Sample) (w : Wts) : T (List Ar) :=
    T.need (Enc.Is eC (List.length l) (Enc.F eC l)) (T.need (Enc.Is eI (List.length w.casks) (Enc.F eI w.casks)) (T.need (∀ (c : Cask), c ∈ Enc.list eC (List.length l) (Enc.F eC l) → ByteArray.size (Cask.nm c) ≤ (1000000 : Nat)) (T.need (List.length (Enc.list eI (List.length w.casks) (Enc.F eI w.casks)) ≤ (1000000 : Nat)) (T.br (M.openW (Enc.list eC (List.length l) (Enc.F eC l)) s (wP w) != (0 : Int)) (T.ret [Ar.c (D.int IntKind.i64 (M.openW (Enc.list eC (List.length l) (Enc.F eC l)) s (wP w)))]) (T.loop (Int × Int × PUnit) ((0 : Int), (0 : Int), PUnit.unit) fun (x : Int × Int × PUnit) => T.br (decide (Prod.fst x < (Nat.cast (R := Int) (List.length l)))) (T.need ((0 : Int) ≤ Prod.fst x) (T.need (Prod.fst x < (Nat.cast (R := Int) (List.length l))) (T.need ((0 : Int) ≤ Prod.fst x) (T.need (Prod.fst x < (Nat.cast (R := Int) (List.length w.casks))) (T.br (decide (IntKind.wrap IntKind.i64 (IntKind.wrap IntKind.i64 (IntKind.wrap IntKind.i64 (IntKind.wrap IntKind.i64 (IntKind.wrap IntKind.i64 (w.each - List.getD w.casks (Int.toNat (Prod.fst x)) (0 : Int)) - IntKind.wrap IntKind.i64 (IntKind.wrap IntKind.i64 (w.x0 * IntKind.wrap IntKind.i64 ((List.getD l (Int.toNat (Prod.fst x)) (Enc.dflt eC)).4 - s.r0.hi)) + IntKind.wrap IntKind.i64 (w.y0 * IntKind.wrap IntKind.i64 (s.r0.lo - (List.getD l (Int.toNat (Prod.fst x)) (Enc.dflt eC)).4)))) - IntKind.wrap IntKind.i64 (IntKind.wrap IntKind.i64 (w.x1 * IntKind.wrap IntKind.i64 ((List.getD l (Int.toNat (Prod.fst x)) (Enc.dflt eC)).5 - s.r1.hi)) + IntKind.wrap IntKind.i64 (w.y1 * IntKind.wrap IntKind.i64 (s.r1.lo - (List.getD l (Int.toNat (Prod.fst x)) (Enc.dflt eC)).5)))) - IntKind.wrap IntKind.i64 (IntKind.wrap IntKind.i64 (w.x2 * IntKind.wrap IntKind.i64 ((List.getD l (Int.toNat (Prod.fst x)) (Enc.dflt eC)).6 - s.r2.hi)) + IntKind.wrap IntKind.i64 (w.y2 * IntKind.wrap IntKind.i64 (s.r2.lo - (List.getD l (Int.toNat (Prod.fst x)) (Enc.dflt eC)).6)))) - IntKind.wrap IntKind.i64 (IntKind.wrap IntKind.i64 (w.x3 * IntKind.wrap IntKind.i64 ((List.getD l (Int.toNat (Prod.fst x)) (Enc.dflt eC)).7 - s.r3.hi)) + IntKind.wrap IntKind.i64 (w.y3 * IntKind.wrap IntKind.i64 (s.r3.lo - (List.getD l (Int.toNat (Prod.fst x)) (Enc.dflt eC)).7)))) > (0 : Int))) (T.ret (Sum.inr [Ar.c (D.int IntKind.i64 (20 : Int))])) (T.ret (Sum.inl (IntKind.wrap IntKind.i64 (Prod.fst x + (1 : Int)), Prod.fst (Prod.snd x), PUnit.unit)))))))) (T.need (Enc.Is eC (List.length l) (Enc.F eC l)) (T.need (Enc.Is eI (List.length w.casks) (Enc.F eI w.casks)) (T.need (List.length (Enc.list eC (List.length l) (Enc.F eC l)) ≤ List.length (Enc.list eI (List.length w.casks) (Enc.F eI w.casks))) (T.need (List.length (Enc.list eC (List.length l) (Enc.F eC l)) ≤ (1000000 : Nat)) (T.ret (Sum.inr [Ar.c (D.int IntKind.i64 (M.unl (decide (M.boundR (Enc.list eC (List.length l) (Enc.F eC l)) s (wP w) > (0 : Int))) (20 : Int)))])))))))))))
theorem t57 (q_l : Bool) (l : List Cask) (sv l0 h0 l1 h1 l2 h2 l3 h3 : Int) (den : Int) (each : Int) (x0 : Int) (x1 : Int) (x2 : Int) (x3 : Int) (y0 : Int) (y1 : Int) (y2 : Int) (y3 : Int) (q_ps : Bool) (ps : List Int) : runFnX Try.prog G0 (lookS [v109, v111, v80]) (fun f => match Nat.beq f 131 with | true => [(1, [.slot 12 (.int .i64), .blk 1000002 [.int .i64]], none), (1000028, [], none), (3000027, [], none)] | _ => []) [110, 131] 1 40 5 57 Try.f57 [.c (.sl q_l l.length 7 (eC.F l)), .agg [dI sv, dI l0, dI h0, dI l1, dI h1, dI l2, dI h2, dI l3, dI h3], .agg [dI den, dI each, dI x0, dI x1, dI x2, dI x3, dI y0, dI y1, dI y2, dI y3, .sl q_ps ps.length 1 (eI.F ps)]] =
    tr57 l (⟨sv, ⟨l0, h0⟩, ⟨l1, h1⟩, ⟨l2, h2⟩, ⟨l3, h3⟩⟩ : Sample) (⟨den, each, x0, x1, x2, x3, y0, y1, y2, y3, ps⟩ : Wts) := by kernel_rfl
def tr25 (l : List Cask) (s : Sample) (w : Wts) : T (List Ar) :=
    T.need (Enc.Is eC (List.length l) (Enc.F eC l)) (T.need (∀ (c : Cask), c ∈ Enc.list eC (List.length l) (Enc.F eC l) → ByteArray.size (Cask.nm c) ≤ (1000000 : Nat)) (T.br (M.taskErr (Enc.list eC (List.length l) (Enc.F eC l)) s != (0 : Int)) (T.ret [Ar.agg [D.int IntKind.i64 (0 : Int), D.int IntKind.i64 (0 : Int)], Ar.c (D.int IntKind.i64 (M.taskErr (Enc.list eC (List.length l) (Enc.F eC l)) s))]) (T.need (Enc.Is eC (List.length l) (Enc.F eC l)) (T.need (Enc.Is eI (List.length w.casks) (Enc.F eI w.casks)) (T.need (List.length (Enc.list eC (List.length l) (Enc.F eC l)) ≤ (1000000 : Nat)) (T.need (List.length (Enc.list eI (List.length w.casks) (Enc.F eI w.casks)) ≤ (1000000 : Nat)) (T.br (M.wErr (List.length (Enc.list eC (List.length l) (Enc.F eC l))) (wP w) != (0 : Int)) (T.ret [Ar.agg [D.int IntKind.i64 (0 : Int), D.int IntKind.i64 (0 : Int)], Ar.c (D.int IntKind.i64 (M.wErr (List.length (Enc.list eC (List.length l) (Enc.F eC l))) (wP w)))]) (T.loop (Int × Int × Int × PUnit) ((0 : Int), (0 : Int), (0 : Int), PUnit.unit) fun (x : Int × Int × Int × PUnit) => T.br (decide (Prod.fst x < (Nat.cast (R := Int) (List.length l)))) (T.need (Enc.Is eC (List.length l) (Enc.F eC l)) (T.need (Enc.Is eI (List.length w.casks) (Enc.F eI w.casks)) (T.need ((0 : Int) ≤ Prod.fst x) (T.need (Prod.fst x < (Nat.cast (R := Int) (List.length (Enc.list eI (List.length w.casks) (Enc.F eI w.casks))))) (T.need (Prod.fst x < (Nat.cast (R := Int) (List.length (Enc.list eC (List.length l) (Enc.F eC l))))) (T.need ((0 : Int) ≤ Prod.fst x) (T.need (Prod.fst x < (Nat.cast (R := Int) (List.length l))) (T.br (decide (M.giveR (Enc.list eC (List.length l) (Enc.F eC l)) s (wP w) (Int.toNat (Prod.fst x)) > IntKind.wrap IntKind.i64 (w.den * (List.getD l (Int.toNat (Prod.fst x)) (Enc.dflt eC)).3))) (T.ret (Sum.inr [Ar.agg [D.int IntKind.i64 (0 : Int), D.int IntKind.i64 (0 : Int)], Ar.c (D.int IntKind.i64 (20 : Int))])) (T.ret (Sum.inl (IntKind.wrap IntKind.i64 (Prod.fst x + (1 : Int)), Prod.fst (Prod.snd x), Prod.fst (Prod.snd (Prod.snd x)), PUnit.unit))))))))))) (T.need (Enc.Is eC (List.length l) (Enc.F eC l)) (T.need (Enc.Is eI (List.length w.casks) (Enc.F eI w.casks)) (T.need (List.length (Enc.list eC (List.length l) (Enc.F eC l)) ≤ List.length (Enc.list eI (List.length w.casks) (Enc.F eI w.casks))) (T.need (List.length (Enc.list eC (List.length l) (Enc.F eC l)) ≤ (1000000 : Nat)) (T.need (w.den ≠ (0 : Int)) (T.need (Int.natAbs (M.boundR (Enc.list eC (List.length l) (Enc.F eC l)) s (wP w)) < (9223372036854775808 : Nat)) (T.need (Int.natAbs w.den < (9223372036854775808 : Nat)) (T.ret (Sum.inr [Ar.agg [D.int IntKind.i64 (M.told1 (M.boundR (Enc.list eC (List.length l) (Enc.F eC l)) s (wP w)) w.den), D.int IntKind.i64 (M.told2 (M.boundR (Enc.list eC (List.length l) (Enc.F eC l)) s (wP w)) w.den)], Ar.c (D.int IntKind.i64 (0 : Int))])))))))))))))))))
theorem t25 (q_l : Bool) (l : List Cask) (sv l0 h0 l1 h1 l2 h2 l3 h3 : Int) (den : Int) (each : Int) (x0 : Int) (x1 : Int) (x2 : Int) (x3 : Int) (y0 : Int) (y1 : Int) (y2 : Int) (y3 : Int) (q_ps : Bool) (ps : List Int) : runFnX Try.prog G0 (lookS [v22, v76, v77, v79, v78]) (fun _ => [(8, [.slot 10 (.int .i64), .blk 6 [.int .i64, .int .i64]], none)]) [] 1 40 5 25 Try.f25 [.c (.sl q_l l.length 7 (eC.F l)), .agg [dI sv, dI l0, dI h0, dI l1, dI h1, dI l2, dI h2, dI l3, dI h3], .agg [dI den, dI each, dI x0, dI x1, dI x2, dI x3, dI y0, dI y1, dI y2, dI y3, .sl q_ps ps.length 1 (eI.F ps)]] =
    tr25 l (⟨sv, ⟨l0, h0⟩, ⟨l1, h1⟩, ⟨l2, h2⟩, ⟨l3, h3⟩⟩ : Sample) (⟨den, each, x0, x1, x2, x3, y0, y1, y2, y3, ps⟩ : Wts) := by kernel_rfl
def tr58 (l : List Cask) (s : Sample) (w : Wts) : T (List Ar) :=
    T.need (Enc.Is eC (List.length l) (Enc.F eC l)) (T.need (∀ (c : Cask), c ∈ Enc.list eC (List.length l) (Enc.F eC l) → ByteArray.size (Cask.nm c) ≤ (1000000 : Nat)) (T.br (M.taskErr (Enc.list eC (List.length l) (Enc.F eC l)) s != (0 : Int)) (T.ret [Ar.c (D.int IntKind.i64 (M.taskErr (Enc.list eC (List.length l) (Enc.F eC l)) s))]) (T.need (Enc.Is eC (List.length l) (Enc.F eC l)) (T.need (Enc.Is eI (List.length w.casks) (Enc.F eI w.casks)) (T.need (List.length (Enc.list eC (List.length l) (Enc.F eC l)) ≤ (1000000 : Nat)) (T.need (List.length (Enc.list eI (List.length w.casks) (Enc.F eI w.casks)) ≤ (1000000 : Nat)) (T.br (M.wErr (List.length (Enc.list eC (List.length l) (Enc.F eC l))) (wP w) != (0 : Int)) (T.ret [Ar.c (D.int IntKind.i64 (M.wErr (List.length (Enc.list eC (List.length l) (Enc.F eC l))) (wP w)))]) (T.loop (Int × PUnit) ((0 : Int), PUnit.unit) fun (x : Int × PUnit) => T.br (decide (Prod.fst x < (Nat.cast (R := Int) (List.length l)))) (T.need (Enc.Is eC (List.length l) (Enc.F eC l)) (T.need (Enc.Is eI (List.length w.casks) (Enc.F eI w.casks)) (T.need ((0 : Int) ≤ Prod.fst x) (T.need (Prod.fst x < (Nat.cast (R := Int) (List.length (Enc.list eI (List.length w.casks) (Enc.F eI w.casks))))) (T.need (Prod.fst x < (Nat.cast (R := Int) (List.length (Enc.list eC (List.length l) (Enc.F eC l))))) (T.br (decide (M.giveR (Enc.list eC (List.length l) (Enc.F eC l)) s (wP w) (Int.toNat (Prod.fst x)) > (0 : Int))) (T.ret (Sum.inr [Ar.c (D.int IntKind.i64 (20 : Int))])) (T.ret (Sum.inl (IntKind.wrap IntKind.i64 (Prod.fst x + (1 : Int)), PUnit.unit))))))))) (T.need (Enc.Is eC (List.length l) (Enc.F eC l)) (T.need (Enc.Is eI (List.length w.casks) (Enc.F eI w.casks)) (T.need (List.length (Enc.list eC (List.length l) (Enc.F eC l)) ≤ List.length (Enc.list eI (List.length w.casks) (Enc.F eI w.casks))) (T.need (List.length (Enc.list eC (List.length l) (Enc.F eC l)) ≤ (1000000 : Nat)) (T.br (decide (M.boundR (Enc.list eC (List.length l) (Enc.F eC l)) s (wP w) ≤ (0 : Int))) (T.ret (Sum.inr [Ar.c (D.int IntKind.i64 (20 : Int))])) (T.ret (Sum.inr [Ar.c (D.int IntKind.i64 (0 : Int))])))))))))))))))
theorem t58 (q_l : Bool) (l : List Cask) (sv l0 h0 l1 h1 l2 h2 l3 h3 : Int) (den : Int) (each : Int) (x0 : Int) (x1 : Int) (x2 : Int) (x3 : Int) (y0 : Int) (y1 : Int) (y2 : Int) (y3 : Int) (q_ps : Bool) (ps : List Int) : runFnX Try.prog G0 (lookS [v22, v76, v77, v79]) (fun _ => [(8, [.slot 9 (.int .i64)], none)]) [] 1 40 5 58 Try.f58 [.c (.sl q_l l.length 7 (eC.F l)), .agg [dI sv, dI l0, dI h0, dI l1, dI h1, dI l2, dI h2, dI l3, dI h3], .agg [dI den, dI each, dI x0, dI x1, dI x2, dI x3, dI y0, dI y1, dI y2, dI y3, .sl q_ps ps.length 1 (eI.F ps)]] =
    tr58 l (⟨sv, ⟨l0, h0⟩, ⟨l1, h1⟩, ⟨l2, h2⟩, ⟨l3, h3⟩⟩ : Sample) (⟨den, each, x0, x1, x2, x3, y0, y1, y2, y3, ps⟩ : Wts) := by kernel_rfl
theorem w55 (l : List Cask) (s : Sample) (w : Wts) (hn : ∀ c, c ∈ l → c.nm.size ≤ 1000000) (hp : w.casks.length ≤ 1000000) (hl : l.length ≤ 1000000) : (tr55 l s w).wp (fun rs => rsEqv rs (resT (M.proves l s w))) := by
  unfold tr55
  simp only [Enc.list_F, wP_eq, giveB]
  refine ⟨Enc.is_F _ _ _, Enc.is_F _ _ _, hn, hp, wp_br (fun hb => ?_) (fun hb => ?_)⟩
  · rw [proves_err hb]; exact rsEqv_refl _
  have ho : M.openW l s w = 0 := by simpa using hb
  have hr := openW_right ho
  have hlen := hr.len
  refine range_wp (n := l.length) (fun k _ => ∀ j, j < k → decide (M.giveR l s w j > IntKind.i64.wrap (w.den * (l.getD j dfC).cost)) = false) (fun j hj => absurd hj (Nat.not_lt_zero _)) ?_
  rintro k u hk hI
  refine ⟨fun hc => ?_, fun hc => ?_⟩
  · have hlt := lt_of_dec hc
    refine ⟨by show (0 : Int) ≤ k; omega, by show (k : Int) < l.length; omega, by show (0 : Int) ≤ k; omega, by show (k : Int) < w.casks.length; omega, by show (0 : Int) ≤ k; omega, by show (k : Int) < l.length; omega, fun hd => ?_, fun hd => ?_⟩
    · rw [proves_hit hb hlt hd]; exact rsEqv_refl _
    · refine ⟨hlt, wrap_succ (by omega), fun j hj => ?_⟩
      by_cases e : j = k
      · subst e; exact hd
      · exact hI j (by omega)
  · have hge := ge_of_dec hc
    have hb2 := boundR_eq hr
    have hd := hr.den
    rw [proves_ok hb (fun j hj => hI j (by omega))]
    exact ⟨Enc.is_F _ _ _, Enc.is_F _ _ _, by omega, hl, by omega, by rw [hb2.1]; omega, by omega, rsEqv_refl _⟩
theorem w57 (l : List Cask) (s : Sample) (w : Wts) (hn : ∀ c, c ∈ l → c.nm.size ≤ 1000000) (hp : w.casks.length ≤ 1000000) (hl : l.length ≤ 1000000) : (tr57 l s w).wp (fun rs => rsEqv rs [rI (M.fails l s w)]) := by
  unfold tr57
  simp only [Enc.list_F, wP_eq, giveB]
  refine ⟨Enc.is_F _ _ _, Enc.is_F _ _ _, hn, hp, wp_br (fun hb => ?_) (fun hb => ?_)⟩
  · rw [fails_err hb]; exact rsEqv_refl _
  have ho : M.openW l s w = 0 := by simpa using hb
  have hr := openW_right ho
  have hlen := hr.len
  refine range_wp (n := l.length) (fun k _ => ∀ j, j < k → decide (M.giveR l s w j > 0) = false) (fun j hj => absurd hj (Nat.not_lt_zero _)) ?_
  rintro k u hk hI
  refine ⟨fun hc => ?_, fun hc => ?_⟩
  · have hlt := lt_of_dec hc
    refine ⟨by show (0 : Int) ≤ k; omega, by show (k : Int) < l.length; omega, by show (0 : Int) ≤ k; omega, by show (k : Int) < w.casks.length; omega, fun hd => ?_, fun hd => ?_⟩
    · rw [fails_hit hb hlt hd]; exact rsEqv_refl _
    · refine ⟨hlt, wrap_succ (by omega), fun j hj => ?_⟩
      by_cases e : j = k
      · subst e; exact hd
      · exact hI j (by omega)
  · have hge := ge_of_dec hc
    rw [fails_ok hb (fun j hj => hI j (by omega))]
    exact ⟨Enc.is_F _ _ _, Enc.is_F _ _ _, by omega, hl, rsEqv_refl _⟩
theorem w25 (l : List Cask) (s : Sample) (w : Wts) (hn : ∀ c, c ∈ l → c.nm.size ≤ 1000000) (hp : w.casks.length ≤ 1000000) (hl : l.length ≤ 1000000) : (tr25 l s w).wp (fun rs => rsEqv rs (resT (M.proves l s w))) := by
  unfold tr25
  simp only [Enc.list_F, wP_eq]
  have hoe := openW_eq l s w
  refine ⟨Enc.is_F _ _ _, hn, wp_br (fun hb => ?_) (fun hb => ?_)⟩
  · rw [hb] at hoe
    have hoe : M.openW l s w = M.taskErr l s := hoe
    rw [proves_err (by rw [hoe]; exact hb), hoe]; exact rsEqv_refl _
  rw [hb] at hoe
  have hoe : M.openW l s w = M.wErr l.length w := hoe
  refine ⟨Enc.is_F _ _ _, Enc.is_F _ _ _, hl, hp, wp_br (fun hb => ?_) (fun hb => ?_)⟩
  · rw [proves_err (by rw [hoe]; exact hb), hoe]; exact rsEqv_refl _
  rw [← hoe] at hb
  have ho : M.openW l s w = 0 := by simpa using hb
  have hr := openW_right ho
  have hlen := hr.len
  refine range_wp (n := l.length) (fun k _ => ∀ j, j < k → decide (M.giveR l s w j > IntKind.i64.wrap (w.den * (l.getD j dfC).cost)) = false) (fun j hj => absurd hj (Nat.not_lt_zero _)) ?_
  rintro k u hk hI
  refine ⟨fun hc => ?_, fun hc => ?_⟩
  · have hlt := lt_of_dec hc
    refine ⟨Enc.is_F _ _ _, Enc.is_F _ _ _, by show (0 : Int) ≤ k; omega, by show (k : Int) < w.casks.length; omega, by show (k : Int) < l.length; omega, by show (0 : Int) ≤ k; omega, by show (k : Int) < l.length; omega, fun hd => ?_, fun hd => ?_⟩
    · rw [proves_hit hb hlt hd]; exact rsEqv_refl _
    · refine ⟨hlt, wrap_succ (by omega), fun j hj => ?_⟩
      by_cases e : j = k
      · subst e; exact hd
      · exact hI j (by omega)
  · have hge := ge_of_dec hc
    have hb2 := boundR_eq hr
    have hd := hr.den
    rw [proves_ok hb (fun j hj => hI j (by omega))]
    exact ⟨Enc.is_F _ _ _, Enc.is_F _ _ _, by omega, hl, by omega, by rw [hb2.1]; omega, by omega, rsEqv_refl _⟩
theorem w58 (l : List Cask) (s : Sample) (w : Wts) (hn : ∀ c, c ∈ l → c.nm.size ≤ 1000000) (hp : w.casks.length ≤ 1000000) (hl : l.length ≤ 1000000) : (tr58 l s w).wp (fun rs => rsEqv rs [rI (M.fails l s w)]) := by
  unfold tr58
  simp only [Enc.list_F, wP_eq]
  have hoe := openW_eq l s w
  refine ⟨Enc.is_F _ _ _, hn, wp_br (fun hb => ?_) (fun hb => ?_)⟩
  · rw [hb] at hoe
    have hoe : M.openW l s w = M.taskErr l s := hoe
    rw [fails_err (by rw [hoe]; exact hb), hoe]; exact rsEqv_refl _
  rw [hb] at hoe
  have hoe : M.openW l s w = M.wErr l.length w := hoe
  refine ⟨Enc.is_F _ _ _, Enc.is_F _ _ _, hl, hp, wp_br (fun hb => ?_) (fun hb => ?_)⟩
  · rw [fails_err (by rw [hoe]; exact hb), hoe]; exact rsEqv_refl _
  rw [← hoe] at hb
  have ho : M.openW l s w = 0 := by simpa using hb
  have hr := openW_right ho
  have hlen := hr.len
  refine range_wp (n := l.length) (fun k _ => ∀ j, j < k → decide (M.giveR l s w j > 0) = false) (fun j hj => absurd hj (Nat.not_lt_zero _)) ?_
  rintro k u hk hI
  refine ⟨fun hc => ?_, fun hc => ?_⟩
  · have hlt := lt_of_dec hc
    refine ⟨Enc.is_F _ _ _, Enc.is_F _ _ _, by show (0 : Int) ≤ k; omega, by show (k : Int) < w.casks.length; omega, by show (k : Int) < l.length; omega, fun hd => ?_, fun hd => ?_⟩
    · rw [fails_hit hb hlt hd]; exact rsEqv_refl _
    · refine ⟨hlt, wrap_succ (by omega), fun j hj => ?_⟩
      by_cases e : j = k
      · subst e; exact hd
      · exact hI j (by omega)
  · have hge := ge_of_dec hc
    have hf := fails_ok hb (fun j hj => hI j (by omega))
    refine ⟨Enc.is_F _ _ _, Enc.is_F _ _ _, by omega, hl, fun hd => ?_, fun hd => ?_⟩
    · have hd := of_decide_eq_true hd
      rw [hf, decide_eq_false (by omega)]; exact rsEqv_refl _
    · have hd := of_decide_eq_false hd
      rw [hf, decide_eq_true (by omega)]; exact rsEqv_refl _
def dom55 : DomF
  | [.c (.sl _ n_l st_l F_l), .agg [.int .i64 sv, .int .i64 l0, .int .i64 h0, .int .i64 l1, .int .i64 h1, .int .i64 l2, .int .i64 h2, .int .i64 l3, .int .i64 h3], .agg [.int .i64 den, .int .i64 each, .int .i64 x0, .int .i64 x1, .int .i64 x2, .int .i64 x3, .int .i64 y0, .int .i64 y1, .int .i64 y2, .int .i64 y3, .sl _ n_ps st_ps F_ps]] => (match Nat.beq st_l 7 && Nat.beq st_ps 1 with
    | true => some ([eC.Is n_l F_l, eI.Is n_ps F_ps, ∀ c, c ∈ (eC.list n_l F_l) → c.nm.size ≤ 1000000, (eI.list n_ps F_ps).length ≤ 1000000, (eC.list n_l F_l).length ≤ 1000000], resT (M.proves (eC.list n_l F_l) (⟨sv, ⟨l0, h0⟩, ⟨l1, h1⟩, ⟨l2, h2⟩, ⟨l3, h3⟩⟩ : Sample) (⟨den, each, x0, x1, x2, x3, y0, y1, y2, y3, (eI.list n_ps F_ps)⟩ : Wts)))
    | _ => none)
  | _ => none
def v55 : Nat × Sm := (55, fokSm dom55)
theorem C55 : FOK Try.prog G0 gw 55 dom55 := by
  intro ags p r hd hp κ w xs hw hl hG hx
  unfold dom55 at hd
  split at hd
  · rename_i q_l n_l st_l F_l sv l0 h0 l1 h1 l2 h2 l3 h3 den each x0 x1 x2 x3 y0 y1 y2 y3 q_ps n_ps st_ps F_ps
    split at hd
    · rename_i hst
      simp only [Bool.and_eq_true] at hst
      obtain ⟨g1, g2⟩ := hst
      have g1 := Nat.eq_of_beq_eq_true g1
      have g2 := Nat.eq_of_beq_eq_true g2
      subst g1 g2
      simp only [Option.some.injEq, Prod.mk.injEq] at hd
      obtain ⟨rfl, rfl⟩ := hd
      obtain ⟨hI_l, hI_ps, hp⟩ := hp
      have heq : agsEqv [.c (.sl q_l n_l 7 F_l), .agg [.int .i64 sv, .int .i64 l0, .int .i64 h0, .int .i64 l1, .int .i64 h1, .int .i64 l2, .int .i64 h2, .int .i64 l3, .int .i64 h3], .agg [.int .i64 den, .int .i64 each, .int .i64 x0, .int .i64 x1, .int .i64 x2, .int .i64 x3, .int .i64 y0, .int .i64 y1, .int .i64 y2, .int .i64 y3, .sl q_ps n_ps 1 F_ps]] [.c (.sl q_l (eC.list n_l F_l).length 7 (eC.F (eC.list n_l F_l))), .agg [.int .i64 sv, .int .i64 l0, .int .i64 h0, .int .i64 l1, .int .i64 h1, .int .i64 l2, .int .i64 h2, .int .i64 l3, .int .i64 h3], .agg [.int .i64 den, .int .i64 each, .int .i64 x0, .int .i64 x1, .int .i64 x2, .int .i64 x3, .int .i64 y0, .int .i64 y1, .int .i64 y2, .int .i64 y3, .sl q_ps (eI.list n_ps F_ps).length 1 (eI.F (eI.list n_ps F_ps))]] := ⟨eC.to id hI_l, Ag.eqv_refl _, ⟨rfl, rfl, rfl, rfl, rfl, rfl, rfl, rfl, rfl, rfl, eI.to id hI_ps, trivial⟩, trivial⟩
      have len_l : (eC.list n_l F_l).length = n_l := eC.list_len
      have len_ps : (eI.list n_ps F_ps).length = n_ps := eI.list_len
      generalize eC.list n_l F_l = l at *
      generalize eI.list n_ps F_ps = ps at *
      subst len_l len_ps
      exact fokX_fin mixed gw_stable (sl := [v109, v111, v83]) ⟨S109, S111, S83, trivial⟩ Try.func55 hw hl hG hx heq rfl (t55 q_l l sv l0 h0 l1 h1 l2 h2 l3 h3 den each x0 x1 x2 x3 y0 y1 y2 y3 q_ps ps) (w55 l _ _ hp.1 hp.2.1 hp.2.2.1)
    · cases hd
  · cases hd
theorem S55 : SumOK Try.prog G0 gw 55 (fokSm dom55) := fok_sum Try.func55 rfl C55
def dom57 : DomF
  | [.c (.sl _ n_l st_l F_l), .agg [.int .i64 sv, .int .i64 l0, .int .i64 h0, .int .i64 l1, .int .i64 h1, .int .i64 l2, .int .i64 h2, .int .i64 l3, .int .i64 h3], .agg [.int .i64 den, .int .i64 each, .int .i64 x0, .int .i64 x1, .int .i64 x2, .int .i64 x3, .int .i64 y0, .int .i64 y1, .int .i64 y2, .int .i64 y3, .sl _ n_ps st_ps F_ps]] => (match Nat.beq st_l 7 && Nat.beq st_ps 1 with
    | true => some ([eC.Is n_l F_l, eI.Is n_ps F_ps, ∀ c, c ∈ (eC.list n_l F_l) → c.nm.size ≤ 1000000, (eI.list n_ps F_ps).length ≤ 1000000, (eC.list n_l F_l).length ≤ 1000000], [rI (M.fails (eC.list n_l F_l) (⟨sv, ⟨l0, h0⟩, ⟨l1, h1⟩, ⟨l2, h2⟩, ⟨l3, h3⟩⟩ : Sample) (⟨den, each, x0, x1, x2, x3, y0, y1, y2, y3, (eI.list n_ps F_ps)⟩ : Wts))])
    | _ => none)
  | _ => none
def v57 : Nat × Sm := (57, fokSm dom57)
theorem C57 : FOK Try.prog G0 gw 57 dom57 := by
  intro ags p r hd hp κ w xs hw hl hG hx
  unfold dom57 at hd
  split at hd
  · rename_i q_l n_l st_l F_l sv l0 h0 l1 h1 l2 h2 l3 h3 den each x0 x1 x2 x3 y0 y1 y2 y3 q_ps n_ps st_ps F_ps
    split at hd
    · rename_i hst
      simp only [Bool.and_eq_true] at hst
      obtain ⟨g1, g2⟩ := hst
      have g1 := Nat.eq_of_beq_eq_true g1
      have g2 := Nat.eq_of_beq_eq_true g2
      subst g1 g2
      simp only [Option.some.injEq, Prod.mk.injEq] at hd
      obtain ⟨rfl, rfl⟩ := hd
      obtain ⟨hI_l, hI_ps, hp⟩ := hp
      have heq : agsEqv [.c (.sl q_l n_l 7 F_l), .agg [.int .i64 sv, .int .i64 l0, .int .i64 h0, .int .i64 l1, .int .i64 h1, .int .i64 l2, .int .i64 h2, .int .i64 l3, .int .i64 h3], .agg [.int .i64 den, .int .i64 each, .int .i64 x0, .int .i64 x1, .int .i64 x2, .int .i64 x3, .int .i64 y0, .int .i64 y1, .int .i64 y2, .int .i64 y3, .sl q_ps n_ps 1 F_ps]] [.c (.sl q_l (eC.list n_l F_l).length 7 (eC.F (eC.list n_l F_l))), .agg [.int .i64 sv, .int .i64 l0, .int .i64 h0, .int .i64 l1, .int .i64 h1, .int .i64 l2, .int .i64 h2, .int .i64 l3, .int .i64 h3], .agg [.int .i64 den, .int .i64 each, .int .i64 x0, .int .i64 x1, .int .i64 x2, .int .i64 x3, .int .i64 y0, .int .i64 y1, .int .i64 y2, .int .i64 y3, .sl q_ps (eI.list n_ps F_ps).length 1 (eI.F (eI.list n_ps F_ps))]] := ⟨eC.to id hI_l, Ag.eqv_refl _, ⟨rfl, rfl, rfl, rfl, rfl, rfl, rfl, rfl, rfl, rfl, eI.to id hI_ps, trivial⟩, trivial⟩
      have len_l : (eC.list n_l F_l).length = n_l := eC.list_len
      have len_ps : (eI.list n_ps F_ps).length = n_ps := eI.list_len
      generalize eC.list n_l F_l = l at *
      generalize eI.list n_ps F_ps = ps at *
      subst len_l len_ps
      exact fokX_fin mixed gw_stable (sl := [v109, v111, v80]) ⟨S109, S111, S80, trivial⟩ Try.func57 hw hl hG hx heq rfl (t57 q_l l sv l0 h0 l1 h1 l2 h2 l3 h3 den each x0 x1 x2 x3 y0 y1 y2 y3 q_ps ps) (w57 l _ _ hp.1 hp.2.1 hp.2.2.1)
    · cases hd
  · cases hd
theorem S57 : SumOK Try.prog G0 gw 57 (fokSm dom57) := fok_sum Try.func57 rfl C57
def dom25 : DomF
  | [.c (.sl _ n_l st_l F_l), .agg [.int .i64 sv, .int .i64 l0, .int .i64 h0, .int .i64 l1, .int .i64 h1, .int .i64 l2, .int .i64 h2, .int .i64 l3, .int .i64 h3], .agg [.int .i64 den, .int .i64 each, .int .i64 x0, .int .i64 x1, .int .i64 x2, .int .i64 x3, .int .i64 y0, .int .i64 y1, .int .i64 y2, .int .i64 y3, .sl _ n_ps st_ps F_ps]] => (match Nat.beq st_l 7 && Nat.beq st_ps 1 with
    | true => some ([eC.Is n_l F_l, eI.Is n_ps F_ps, ∀ c, c ∈ (eC.list n_l F_l) → c.nm.size ≤ 1000000, (eI.list n_ps F_ps).length ≤ 1000000, (eC.list n_l F_l).length ≤ 1000000], resT (M.proves (eC.list n_l F_l) (⟨sv, ⟨l0, h0⟩, ⟨l1, h1⟩, ⟨l2, h2⟩, ⟨l3, h3⟩⟩ : Sample) (⟨den, each, x0, x1, x2, x3, y0, y1, y2, y3, (eI.list n_ps F_ps)⟩ : Wts)))
    | _ => none)
  | _ => none
def v25 : Nat × Sm := (25, fokSm dom25)
theorem C25 : FOK Try.prog G0 gw 25 dom25 := by
  intro ags p r hd hp κ w xs hw hl hG hx
  unfold dom25 at hd
  split at hd
  · rename_i q_l n_l st_l F_l sv l0 h0 l1 h1 l2 h2 l3 h3 den each x0 x1 x2 x3 y0 y1 y2 y3 q_ps n_ps st_ps F_ps
    split at hd
    · rename_i hst
      simp only [Bool.and_eq_true] at hst
      obtain ⟨g1, g2⟩ := hst
      have g1 := Nat.eq_of_beq_eq_true g1
      have g2 := Nat.eq_of_beq_eq_true g2
      subst g1 g2
      simp only [Option.some.injEq, Prod.mk.injEq] at hd
      obtain ⟨rfl, rfl⟩ := hd
      obtain ⟨hI_l, hI_ps, hp⟩ := hp
      have heq : agsEqv [.c (.sl q_l n_l 7 F_l), .agg [.int .i64 sv, .int .i64 l0, .int .i64 h0, .int .i64 l1, .int .i64 h1, .int .i64 l2, .int .i64 h2, .int .i64 l3, .int .i64 h3], .agg [.int .i64 den, .int .i64 each, .int .i64 x0, .int .i64 x1, .int .i64 x2, .int .i64 x3, .int .i64 y0, .int .i64 y1, .int .i64 y2, .int .i64 y3, .sl q_ps n_ps 1 F_ps]] [.c (.sl q_l (eC.list n_l F_l).length 7 (eC.F (eC.list n_l F_l))), .agg [.int .i64 sv, .int .i64 l0, .int .i64 h0, .int .i64 l1, .int .i64 h1, .int .i64 l2, .int .i64 h2, .int .i64 l3, .int .i64 h3], .agg [.int .i64 den, .int .i64 each, .int .i64 x0, .int .i64 x1, .int .i64 x2, .int .i64 x3, .int .i64 y0, .int .i64 y1, .int .i64 y2, .int .i64 y3, .sl q_ps (eI.list n_ps F_ps).length 1 (eI.F (eI.list n_ps F_ps))]] := ⟨eC.to id hI_l, Ag.eqv_refl _, ⟨rfl, rfl, rfl, rfl, rfl, rfl, rfl, rfl, rfl, rfl, eI.to id hI_ps, trivial⟩, trivial⟩
      have len_l : (eC.list n_l F_l).length = n_l := eC.list_len
      have len_ps : (eI.list n_ps F_ps).length = n_ps := eI.list_len
      generalize eC.list n_l F_l = l at *
      generalize eI.list n_ps F_ps = ps at *
      subst len_l len_ps
      exact fokX_fin mixed gw_stable (sl := [v22, v76, v77, v79, v78]) ⟨S22, S76, S77, S79, S78, trivial⟩ Try.func25 hw hl hG hx heq rfl (t25 q_l l sv l0 h0 l1 h1 l2 h2 l3 h3 den each x0 x1 x2 x3 y0 y1 y2 y3 q_ps ps) (w25 l _ _ hp.1 hp.2.1 hp.2.2.1)
    · cases hd
  · cases hd
theorem S25 : SumOK Try.prog G0 gw 25 (fokSm dom25) := fok_sum Try.func25 rfl C25
def dom58 : DomF
  | [.c (.sl _ n_l st_l F_l), .agg [.int .i64 sv, .int .i64 l0, .int .i64 h0, .int .i64 l1, .int .i64 h1, .int .i64 l2, .int .i64 h2, .int .i64 l3, .int .i64 h3], .agg [.int .i64 den, .int .i64 each, .int .i64 x0, .int .i64 x1, .int .i64 x2, .int .i64 x3, .int .i64 y0, .int .i64 y1, .int .i64 y2, .int .i64 y3, .sl _ n_ps st_ps F_ps]] => (match Nat.beq st_l 7 && Nat.beq st_ps 1 with
    | true => some ([eC.Is n_l F_l, eI.Is n_ps F_ps, ∀ c, c ∈ (eC.list n_l F_l) → c.nm.size ≤ 1000000, (eI.list n_ps F_ps).length ≤ 1000000, (eC.list n_l F_l).length ≤ 1000000], [rI (M.fails (eC.list n_l F_l) (⟨sv, ⟨l0, h0⟩, ⟨l1, h1⟩, ⟨l2, h2⟩, ⟨l3, h3⟩⟩ : Sample) (⟨den, each, x0, x1, x2, x3, y0, y1, y2, y3, (eI.list n_ps F_ps)⟩ : Wts))])
    | _ => none)
  | _ => none
def v58 : Nat × Sm := (58, fokSm dom58)
theorem C58 : FOK Try.prog G0 gw 58 dom58 := by
  intro ags p r hd hp κ w xs hw hl hG hx
  unfold dom58 at hd
  split at hd
  · rename_i q_l n_l st_l F_l sv l0 h0 l1 h1 l2 h2 l3 h3 den each x0 x1 x2 x3 y0 y1 y2 y3 q_ps n_ps st_ps F_ps
    split at hd
    · rename_i hst
      simp only [Bool.and_eq_true] at hst
      obtain ⟨g1, g2⟩ := hst
      have g1 := Nat.eq_of_beq_eq_true g1
      have g2 := Nat.eq_of_beq_eq_true g2
      subst g1 g2
      simp only [Option.some.injEq, Prod.mk.injEq] at hd
      obtain ⟨rfl, rfl⟩ := hd
      obtain ⟨hI_l, hI_ps, hp⟩ := hp
      have heq : agsEqv [.c (.sl q_l n_l 7 F_l), .agg [.int .i64 sv, .int .i64 l0, .int .i64 h0, .int .i64 l1, .int .i64 h1, .int .i64 l2, .int .i64 h2, .int .i64 l3, .int .i64 h3], .agg [.int .i64 den, .int .i64 each, .int .i64 x0, .int .i64 x1, .int .i64 x2, .int .i64 x3, .int .i64 y0, .int .i64 y1, .int .i64 y2, .int .i64 y3, .sl q_ps n_ps 1 F_ps]] [.c (.sl q_l (eC.list n_l F_l).length 7 (eC.F (eC.list n_l F_l))), .agg [.int .i64 sv, .int .i64 l0, .int .i64 h0, .int .i64 l1, .int .i64 h1, .int .i64 l2, .int .i64 h2, .int .i64 l3, .int .i64 h3], .agg [.int .i64 den, .int .i64 each, .int .i64 x0, .int .i64 x1, .int .i64 x2, .int .i64 x3, .int .i64 y0, .int .i64 y1, .int .i64 y2, .int .i64 y3, .sl q_ps (eI.list n_ps F_ps).length 1 (eI.F (eI.list n_ps F_ps))]] := ⟨eC.to id hI_l, Ag.eqv_refl _, ⟨rfl, rfl, rfl, rfl, rfl, rfl, rfl, rfl, rfl, rfl, eI.to id hI_ps, trivial⟩, trivial⟩
      have len_l : (eC.list n_l F_l).length = n_l := eC.list_len
      have len_ps : (eI.list n_ps F_ps).length = n_ps := eI.list_len
      generalize eC.list n_l F_l = l at *
      generalize eI.list n_ps F_ps = ps at *
      subst len_l len_ps
      exact fokX_fin mixed gw_stable (sl := [v22, v76, v77, v79]) ⟨S22, S76, S77, S79, trivial⟩ Try.func58 hw hl hG hx heq rfl (t58 q_l l sv l0 h0 l1 h1 l2 h2 l3 h3 den each x0 x1 x2 x3 y0 y1 y2 y3 q_ps ps) (w58 l _ _ hp.1 hp.2.1 hp.2.2.1)
    · cases hd
  · cases hd
theorem S58 : SumOK Try.prog G0 gw 58 (fokSm dom58) := fok_sum Try.func58 rfl C58
end Go.Bl
end

section
set_option linter.unusedVariables false
set_option linter.unusedSimpArgs false
set_option maxRecDepth 100000
namespace Go.Bl
open Go.V Go.Proofs
def tr13 (l : List Cask) (s : Sample) (w : Wts) : T (List Ar) :=
    T.br (!true) (T.ret [Ar.c (D.bool false)]) (T.need (Enc.Is eC (List.length l) (Enc.F eC l)) (T.br (!M.someN (4 : Nat) (Enc.list eC (List.length l) (Enc.F eC l))) (T.ret [Ar.c (D.bool true)]) (T.br (decide ((Nat.cast (R := Int) (List.length w.casks)) > (12 : Int))) (T.ret [Ar.c (D.bool true)]) (T.need (Enc.Is eC (List.length l) (Enc.F eC l)) (T.need (List.length (Enc.list eC (List.length l) (Enc.F eC l)) ≤ (1000000 : Nat)) (T.need (Enc.Is eI (List.length w.casks) (Enc.F eI w.casks)) (T.need (List.length (Enc.list eI (List.length w.casks) (Enc.F eI w.casks)) ≤ (1000000 : Nat)) (T.need (Enc.Is eC (List.length l) (Enc.F eC (Enc.list eC (List.length l) (Enc.F eC l)))) (T.need (Enc.Is eI (List.length w.casks) (Enc.F eI (Enc.list eI (List.length w.casks) (Enc.F eI w.casks)))) (T.need (∀ (c : Cask), c ∈ Enc.list eC (List.length l) (Enc.F eC (Enc.list eC (List.length l) (Enc.F eC l))) → ByteArray.size (Cask.nm c) ≤ (1000000 : Nat)) (T.need (List.length (Enc.list eI (List.length w.casks) (Enc.F eI (Enc.list eI (List.length w.casks) (Enc.F eI w.casks)))) ≤ (1000000 : Nat)) (T.need (List.length (Enc.list eC (List.length l) (Enc.F eC (Enc.list eC (List.length l) (Enc.F eC l)))) ≤ (1000000 : Nat)) (T.need (Enc.Is eC (List.length l) (Enc.F eC l)) (T.need (Enc.Is eI (List.length w.casks) (Enc.F eI w.casks)) (T.need (∀ (c : Cask), c ∈ Enc.list eC (List.length l) (Enc.F eC l) → ByteArray.size (Cask.nm c) ≤ (1000000 : Nat)) (T.need (List.length (Enc.list eI (List.length w.casks) (Enc.F eI w.casks)) ≤ (1000000 : Nat)) (T.need (List.length (Enc.list eC (List.length l) (Enc.F eC l)) ≤ (1000000 : Nat)) (T.br (Prod.snd (Prod.snd (M.proves (Enc.list eC (List.length l) (Enc.F eC (Enc.list eC (List.length l) (Enc.F eC l)))) s { den := w.den, each := w.each, x0 := w.x0, x1 := w.x1, x2 := w.x2, x3 := w.x3, y0 := w.y0, y1 := w.y1, y2 := w.y2, y3 := w.y3, casks := Enc.list eI (List.length w.casks) (Enc.F eI (Enc.list eI (List.length w.casks) (Enc.F eI w.casks))) })) == Prod.snd (Prod.snd (M.proves (Enc.list eC (List.length l) (Enc.F eC l)) s { den := w.den, each := w.each, x0 := w.x0, x1 := w.x1, x2 := w.x2, x3 := w.x3, y0 := w.y0, y1 := w.y1, y2 := w.y2, y3 := w.y3, casks := Enc.list eI (List.length w.casks) (Enc.F eI w.casks) }))) (T.br (Prod.fst (M.proves (Enc.list eC (List.length l) (Enc.F eC (Enc.list eC (List.length l) (Enc.F eC l)))) s { den := w.den, each := w.each, x0 := w.x0, x1 := w.x1, x2 := w.x2, x3 := w.x3, y0 := w.y0, y1 := w.y1, y2 := w.y2, y3 := w.y3, casks := Enc.list eI (List.length w.casks) (Enc.F eI (Enc.list eI (List.length w.casks) (Enc.F eI w.casks))) }) == Prod.fst (M.proves (Enc.list eC (List.length l) (Enc.F eC l)) s { den := w.den, each := w.each, x0 := w.x0, x1 := w.x1, x2 := w.x2, x3 := w.x3, y0 := w.y0, y1 := w.y1, y2 := w.y2, y3 := w.y3, casks := Enc.list eI (List.length w.casks) (Enc.F eI w.casks) }) && (Prod.fst (Prod.snd (M.proves (Enc.list eC (List.length l) (Enc.F eC (Enc.list eC (List.length l) (Enc.F eC l)))) s { den := w.den, each := w.each, x0 := w.x0, x1 := w.x1, x2 := w.x2, x3 := w.x3, y0 := w.y0, y1 := w.y1, y2 := w.y2, y3 := w.y3, casks := Enc.list eI (List.length w.casks) (Enc.F eI (Enc.list eI (List.length w.casks) (Enc.F eI w.casks))) })) == Prod.fst (Prod.snd (M.proves (Enc.list eC (List.length l) (Enc.F eC l)) s { den := w.den, each := w.each, x0 := w.x0, x1 := w.x1, x2 := w.x2, x3 := w.x3, y0 := w.y0, y1 := w.y1, y2 := w.y2, y3 := w.y3, casks := Enc.list eI (List.length w.casks) (Enc.F eI w.casks) })) && true)) (T.need ((Prod.snd (Prod.snd (M.proves (Enc.list eC (List.length l) (Enc.F eC (Enc.list eC (List.length l) (Enc.F eC l)))) s { den := w.den, each := w.each, x0 := w.x0, x1 := w.x1, x2 := w.x2, x3 := w.x3, y0 := w.y0, y1 := w.y1, y2 := w.y2, y3 := w.y3, casks := Enc.list eI (List.length w.casks) (Enc.F eI (Enc.list eI (List.length w.casks) (Enc.F eI w.casks))) })) == Prod.snd (Prod.snd (M.proves (Enc.list eC (List.length l) (Enc.F eC l)) s { den := w.den, each := w.each, x0 := w.x0, x1 := w.x1, x2 := w.x2, x3 := w.x3, y0 := w.y0, y1 := w.y1, y2 := w.y2, y3 := w.y3, casks := Enc.list eI (List.length w.casks) (Enc.F eI w.casks) }))) = true) (T.need ((Prod.fst (M.proves (Enc.list eC (List.length l) (Enc.F eC (Enc.list eC (List.length l) (Enc.F eC l)))) s { den := w.den, each := w.each, x0 := w.x0, x1 := w.x1, x2 := w.x2, x3 := w.x3, y0 := w.y0, y1 := w.y1, y2 := w.y2, y3 := w.y3, casks := Enc.list eI (List.length w.casks) (Enc.F eI (Enc.list eI (List.length w.casks) (Enc.F eI w.casks))) }) == Prod.fst (M.proves (Enc.list eC (List.length l) (Enc.F eC l)) s { den := w.den, each := w.each, x0 := w.x0, x1 := w.x1, x2 := w.x2, x3 := w.x3, y0 := w.y0, y1 := w.y1, y2 := w.y2, y3 := w.y3, casks := Enc.list eI (List.length w.casks) (Enc.F eI w.casks) }) && (Prod.fst (Prod.snd (M.proves (Enc.list eC (List.length l) (Enc.F eC (Enc.list eC (List.length l) (Enc.F eC l)))) s { den := w.den, each := w.each, x0 := w.x0, x1 := w.x1, x2 := w.x2, x3 := w.x3, y0 := w.y0, y1 := w.y1, y2 := w.y2, y3 := w.y3, casks := Enc.list eI (List.length w.casks) (Enc.F eI (Enc.list eI (List.length w.casks) (Enc.F eI w.casks))) })) == Prod.fst (Prod.snd (M.proves (Enc.list eC (List.length l) (Enc.F eC l)) s { den := w.den, each := w.each, x0 := w.x0, x1 := w.x1, x2 := w.x2, x3 := w.x3, y0 := w.y0, y1 := w.y1, y2 := w.y2, y3 := w.y3, casks := Enc.list eI (List.length w.casks) (Enc.F eI w.casks) })) && true)) = true) (T.need (Enc.Is eC (List.length l) (Enc.F eC l)) (T.need (List.length (Enc.list eC (List.length l) (Enc.F eC l)) ≤ (1000000 : Nat)) (T.need (Enc.Is eI (List.length w.casks) (Enc.F eI w.casks)) (T.need (List.length (Enc.list eI (List.length w.casks) (Enc.F eI w.casks)) ≤ (1000000 : Nat)) (T.need (Enc.Is eC (List.length l) (Enc.F eC (Enc.list eC (List.length l) (Enc.F eC l)))) (T.need (Enc.Is eI (List.length w.casks) (Enc.F eI (Enc.list eI (List.length w.casks) (Enc.F eI w.casks)))) (T.need (∀ (c : Cask), c ∈ Enc.list eC (List.length l) (Enc.F eC (Enc.list eC (List.length l) (Enc.F eC l))) → ByteArray.size (Cask.nm c) ≤ (1000000 : Nat)) (T.need (List.length (Enc.list eI (List.length w.casks) (Enc.F eI (Enc.list eI (List.length w.casks) (Enc.F eI w.casks)))) ≤ (1000000 : Nat)) (T.need (List.length (Enc.list eC (List.length l) (Enc.F eC (Enc.list eC (List.length l) (Enc.F eC l)))) ≤ (1000000 : Nat)) (T.need (Enc.Is eC (List.length l) (Enc.F eC l)) (T.need (Enc.Is eI (List.length w.casks) (Enc.F eI w.casks)) (T.need (∀ (c : Cask), c ∈ Enc.list eC (List.length l) (Enc.F eC l) → ByteArray.size (Cask.nm c) ≤ (1000000 : Nat)) (T.need (List.length (Enc.list eI (List.length w.casks) (Enc.F eI w.casks)) ≤ (1000000 : Nat)) (T.need (List.length (Enc.list eC (List.length l) (Enc.F eC l)) ≤ (1000000 : Nat)) (T.ret [Ar.c (D.bool (M.fails (Enc.list eC (List.length l) (Enc.F eC (Enc.list eC (List.length l) (Enc.F eC l)))) s { den := w.den, each := w.each, x0 := w.x0, x1 := w.x1, x2 := w.x2, x3 := w.x3, y0 := w.y0, y1 := w.y1, y2 := w.y2, y3 := w.y3, casks := Enc.list eI (List.length w.casks) (Enc.F eI (Enc.list eI (List.length w.casks) (Enc.F eI w.casks))) } == M.fails (Enc.list eC (List.length l) (Enc.F eC l)) s { den := w.den, each := w.each, x0 := w.x0, x1 := w.x1, x2 := w.x2, x3 := w.x3, y0 := w.y0, y1 := w.y1, y2 := w.y2, y3 := w.y3, casks := Enc.list eI (List.length w.casks) (Enc.F eI w.casks) }))]))))))))))))))))) (T.need ((Prod.snd (Prod.snd (M.proves (Enc.list eC (List.length l) (Enc.F eC (Enc.list eC (List.length l) (Enc.F eC l)))) s { den := w.den, each := w.each, x0 := w.x0, x1 := w.x1, x2 := w.x2, x3 := w.x3, y0 := w.y0, y1 := w.y1, y2 := w.y2, y3 := w.y3, casks := Enc.list eI (List.length w.casks) (Enc.F eI (Enc.list eI (List.length w.casks) (Enc.F eI w.casks))) })) == Prod.snd (Prod.snd (M.proves (Enc.list eC (List.length l) (Enc.F eC l)) s { den := w.den, each := w.each, x0 := w.x0, x1 := w.x1, x2 := w.x2, x3 := w.x3, y0 := w.y0, y1 := w.y1, y2 := w.y2, y3 := w.y3, casks := Enc.list eI (List.length w.casks) (Enc.F eI w.casks) }))) = true) (T.need ((Prod.fst (M.proves (Enc.list eC (List.length l) (Enc.F eC (Enc.list eC (List.length l) (Enc.F eC l)))) s { den := w.den, each := w.each, x0 := w.x0, x1 := w.x1, x2 := w.x2, x3 := w.x3, y0 := w.y0, y1 := w.y1, y2 := w.y2, y3 := w.y3, casks := Enc.list eI (List.length w.casks) (Enc.F eI (Enc.list eI (List.length w.casks) (Enc.F eI w.casks))) }) == Prod.fst (M.proves (Enc.list eC (List.length l) (Enc.F eC l)) s { den := w.den, each := w.each, x0 := w.x0, x1 := w.x1, x2 := w.x2, x3 := w.x3, y0 := w.y0, y1 := w.y1, y2 := w.y2, y3 := w.y3, casks := Enc.list eI (List.length w.casks) (Enc.F eI w.casks) }) && (Prod.fst (Prod.snd (M.proves (Enc.list eC (List.length l) (Enc.F eC (Enc.list eC (List.length l) (Enc.F eC l)))) s { den := w.den, each := w.each, x0 := w.x0, x1 := w.x1, x2 := w.x2, x3 := w.x3, y0 := w.y0, y1 := w.y1, y2 := w.y2, y3 := w.y3, casks := Enc.list eI (List.length w.casks) (Enc.F eI (Enc.list eI (List.length w.casks) (Enc.F eI w.casks))) })) == Prod.fst (Prod.snd (M.proves (Enc.list eC (List.length l) (Enc.F eC l)) s { den := w.den, each := w.each, x0 := w.x0, x1 := w.x1, x2 := w.x2, x3 := w.x3, y0 := w.y0, y1 := w.y1, y2 := w.y2, y3 := w.y3, casks := Enc.list eI (List.length w.casks) (Enc.F eI w.casks) })) && true)) = false) (T.ret [Ar.c (D.bool false)])))) (T.need ((Prod.snd (Prod.snd (M.proves (Enc.list eC (List.length l) (Enc.F eC (Enc.list eC (List.length l) (Enc.F eC l)))) s { den := w.den, each := w.each, x0 := w.x0, x1 := w.x1, x2 := w.x2, x3 := w.x3, y0 := w.y0, y1 := w.y1, y2 := w.y2, y3 := w.y3, casks := Enc.list eI (List.length w.casks) (Enc.F eI (Enc.list eI (List.length w.casks) (Enc.F eI w.casks))) })) == Prod.snd (Prod.snd (M.proves (Enc.list eC (List.length l) (Enc.F eC l)) s { den := w.den, each := w.each, x0 := w.x0, x1 := w.x1, x2 := w.x2, x3 := w.x3, y0 := w.y0, y1 := w.y1, y2 := w.y2, y3 := w.y3, casks := Enc.list eI (List.length w.casks) (Enc.F eI w.casks) }))) = false) (T.ret [Ar.c (D.bool false)]))))))))))))))))))))
theorem t13 (q_l : Bool) (l : List Cask) (sv l0 h0 l1 h1 l2 h2 l3 h3 : Int) (den : Int) (each : Int) (x0 : Int) (x1 : Int) (x2 : Int) (x3 : Int) (y0 : Int) (y1 : Int) (y2 : Int) (y3 : Int) (q_ps : Bool) (ps : List Int) : runFnX Try.prog G0 (lookS [v18, v19, v21, v56, v55, v57, v25, v58]) (fun _ => []) [] 1 20 3 13 Try.f13 [.c (.sl q_l l.length 7 (eC.F l)), .agg [dI sv, dI l0, dI h0, dI l1, dI h1, dI l2, dI h2, dI l3, dI h3], .agg [dI den, dI each, dI x0, dI x1, dI x2, dI x3, dI y0, dI y1, dI y2, dI y3, .sl q_ps ps.length 1 (eI.F ps)]] =
    tr13 l (⟨sv, ⟨l0, h0⟩, ⟨l1, h1⟩, ⟨l2, h2⟩, ⟨l3, h3⟩⟩ : Sample) (⟨den, each, x0, x1, x2, x3, y0, y1, y2, y3, ps⟩ : Wts) := by kernel_rfl
theorem w13 (l : List Cask) (s : Sample) (w : Wts) : (tr13 l s w).wp (fun rs => rsEqv rs [rB true]) := by
  unfold tr13
  simp only [Enc.list_F, beq_self_eq_true, Bool.and_self, Bool.and_true]
  refine wp_br (fun hb => absurd hb (by decide)) (fun _ => ⟨Enc.is_F _ _ _, wp_br (fun _ => rsEqv_refl _) (fun hb => wp_br (fun _ => rsEqv_refl _) (fun hc => ?_))⟩)
  have hs : M.someN 4 l = true := by simpa using hb
  obtain ⟨hl, hn⟩ := someN_small hs
  have hn' : ∀ c, c ∈ l → c.nm.size ≤ 1000000 := fun c hc => Nat.le_trans (hn c hc) (by decide)
  have hl' : l.length ≤ 1000000 := by omega
  have hp' : w.casks.length ≤ 1000000 := by
    have : ¬ (w.casks.length : Int) > 12 := of_decide_eq_false hc
    omega
  repeat' first
    | exact Enc.is_F _ _ _
    | assumption
    | exact rsEqv_refl _
    | exact wp_br (fun _ => rsEqv_refl _) (fun h => absurd h (by decide))
    | refine wp_br (fun _ => ?_) (fun h => absurd h (by decide))
    | constructor
def dom13 : DomF
  | [.c (.sl _ n_l st_l F_l), .agg [.int .i64 sv, .int .i64 l0, .int .i64 h0, .int .i64 l1, .int .i64 h1, .int .i64 l2, .int .i64 h2, .int .i64 l3, .int .i64 h3], .agg [.int .i64 den, .int .i64 each, .int .i64 x0, .int .i64 x1, .int .i64 x2, .int .i64 x3, .int .i64 y0, .int .i64 y1, .int .i64 y2, .int .i64 y3, .sl _ n_ps st_ps F_ps]] => (match Nat.beq st_l 7 && Nat.beq st_ps 1 with
    | true => some ([eC.Is n_l F_l, eI.Is n_ps F_ps], [rB true])
    | _ => none)
  | _ => none
theorem C13 : FOK Try.prog G0 gw 13 dom13 := by
  intro ags p r hd hp κ w xs hw hl hG hx
  unfold dom13 at hd
  split at hd
  · rename_i q_l n_l st_l F_l sv l0 h0 l1 h1 l2 h2 l3 h3 den each x0 x1 x2 x3 y0 y1 y2 y3 q_ps n_ps st_ps F_ps
    split at hd
    · rename_i hst
      simp only [Bool.and_eq_true] at hst
      obtain ⟨g1, g2⟩ := hst
      have g1 := Nat.eq_of_beq_eq_true g1
      have g2 := Nat.eq_of_beq_eq_true g2
      subst g1 g2
      simp only [Option.some.injEq, Prod.mk.injEq] at hd
      obtain ⟨rfl, rfl⟩ := hd
      obtain ⟨hI_l, hI_ps, hp⟩ := hp
      have heq : agsEqv [.c (.sl q_l n_l 7 F_l), .agg [.int .i64 sv, .int .i64 l0, .int .i64 h0, .int .i64 l1, .int .i64 h1, .int .i64 l2, .int .i64 h2, .int .i64 l3, .int .i64 h3], .agg [.int .i64 den, .int .i64 each, .int .i64 x0, .int .i64 x1, .int .i64 x2, .int .i64 x3, .int .i64 y0, .int .i64 y1, .int .i64 y2, .int .i64 y3, .sl q_ps n_ps 1 F_ps]] [.c (.sl q_l (eC.list n_l F_l).length 7 (eC.F (eC.list n_l F_l))), .agg [.int .i64 sv, .int .i64 l0, .int .i64 h0, .int .i64 l1, .int .i64 h1, .int .i64 l2, .int .i64 h2, .int .i64 l3, .int .i64 h3], .agg [.int .i64 den, .int .i64 each, .int .i64 x0, .int .i64 x1, .int .i64 x2, .int .i64 x3, .int .i64 y0, .int .i64 y1, .int .i64 y2, .int .i64 y3, .sl q_ps (eI.list n_ps F_ps).length 1 (eI.F (eI.list n_ps F_ps))]] := ⟨eC.to id hI_l, Ag.eqv_refl _, ⟨rfl, rfl, rfl, rfl, rfl, rfl, rfl, rfl, rfl, rfl, eI.to id hI_ps, trivial⟩, trivial⟩
      have len_l : (eC.list n_l F_l).length = n_l := eC.list_len
      have len_ps : (eI.list n_ps F_ps).length = n_ps := eI.list_len
      generalize eC.list n_l F_l = l at *
      generalize eI.list n_ps F_ps = ps at *
      subst len_l len_ps
      exact fokX_fin mixed gw_stable (sl := [v18, v19, v21, v56, v55, v57, v25, v58]) ⟨S18, S19, S21, S56, S55, S57, S25, S58, trivial⟩ Try.func13 hw hl hG hx heq rfl (t13 q_l l sv l0 h0 l1 h1 l2 h2 l3 h3 den each x0 x1 x2 x3 y0 y1 y2 y3 q_ps ps) (w13 l _ _)
    · cases hd
  · cases hd
end Go.Bl
end

section
set_option linter.unusedVariables false
set_option linter.unusedSimpArgs false
namespace Go.Rw
open Go Go.ChangeShapes Go.WideShapes Go.RowKit Go.ChangeAt
open Go.V (F2 D fullK fullK_cell f2_append f2_len f2_get)
section
variable {H : Type} {enc : TypeId × Value → H} {P : Program} {w : World} {base : Nat} {sp : Nat → Bool} {hd : Bool}
theorem trodAll_below (hl : laidOutB P = true) {W W' : World} (hb : Below W.heap.size W W') : ∀ {ts : List TypeId} {vs : List Value} {ds : List (DataW H)} {ps : List MemPlace},
    (∀ t ∈ ts, P.readableRec t = true ∧ t < P.types.size) → DataW.TrodAll enc P W 0 (fun _ => true) true ts vs ds ps → (∀ x ∈ ps, x.block < W.heap.size) →
    DataW.TrodAll enc P W' 0 (fun b => decide (b < W.heap.size)) true ts vs ds ps
  | [], _, _, _, _, h, _ => by
    obtain ⟨rfl, rfl, rfl⟩ := trodAll_nil h
    exact trodAll_mk0
  | t :: ts, _, _, _, hr, h, hlt => by
    obtain ⟨v, vs1, d, ds1, a, b, rfl, rfl, rfl, h1, h2⟩ := trodAll_cons h
    refine ⟨a, b, ?_, trodAll_below hl hb (fun u hu => hr u (List.mem_cons_of_mem _ hu)) h2 fun x hx => hlt x (List.mem_append_right _ hx), rfl⟩
    have ht := hr t (List.mem_cons_self ..)
    exact Below.trod hl ht.1 ht.2 h1 hb fun x hx => hlt x (List.mem_append_left _ hx)
/-- A LAW's END: it answers true; its arguments read as they did. -/
theorem law_post {fn : Func} {s : ChangeSpec} {apart fresh handsOn : Bool} {W W' : World} {args : Array Value} {ds gs : List (DataW H)} {before : List MemPlace} {tb : TypeId} (hl : laidOutB P = true)
    (hr : ∀ t ∈ fn.params.toList, P.readableRec t = true ∧ t < P.types.size) (hv : s.vars = []) (hrt : fn.resultTypes = #[tb]) (hbool : P.underlying tb = some .bool)
    (hfn : s.fn H ds = { results := [.lit (.bool true)], args := ds })
    (hW : DataW.Whole enc P fn.params.toList s.vars apart W args.toList ds gs before) (hb : Below W.heap.size W W') : s.post enc P fn apart fresh handsOn false W args (.bool true) W' := by
  have hW' := hW
  obtain ⟨p, q, hA, hV, rfl, _, _⟩ := hW'
  have hlt : ∀ x ∈ p ++ q, x.block < W.heap.size := fun x hx => hW.lt x hx
  rw [hv] at hV
  have hgs : gs = [] ∧ q = [] := by
    cases gs with
    | nil => exact ⟨rfl, hV⟩
    | cons g r => exact absurd hV (by intro h; cases h)
  obtain ⟨rfl, rfl⟩ := hgs
  have e : s.fn H (ds ++ []) = { results := [.lit (.bool true)], args := ds } := by rw [List.append_nil]; exact hfn
  refine ⟨ds, [], _, [], p, [], hW, ?_, ?_, ?_, hb.frame _, fun h => by cases h⟩
  · rw [e, hrt]
    exact trodAll_mk1 (shut_bool hbool true)
  · rw [e]
    exact trodAll_below hl hb hr hA fun x hx => hlt x (List.mem_append_left _ hx)
  · rw [e, hv]
    rfl
end
end Go.Rw
end

section
set_option linter.unusedVariables false
set_option linter.unusedSimpArgs false
namespace Go.Rw
open Go Go.ChangeShapes Go.WideShapes Go.RowKit Go.ChangeAt
open Go.V (F2 D fullK fullK_cell f2_append f2_len f2_get)
/-- The cells of a type: numbers, texts, slices. -/
inductive SK where
  | i
  | s
  | sl (sh : List SK)
/-- What a cell holds, as data. -/
inductive DG : SK → D → Prop where
  | i (n : Int) : DG .i (.int .i64 n)
  | s (t : ByteArray) : DG .s (.str t)
  | sl (sh : List SK) (len : Nat) (F : Nat → Nat → D) (h : ∀ i j k, i < len → sh[j]? = some k → DG k (F i j)) : DG (.sl sh) (.sl false len sh.length F)
def MG (w : World) (k : SK) (v : Value) : Prop := ∃ d, DG k d ∧ D.rel (fullK w) d v
def sgFs (P : Program) (g : TypeId → Option (List SK)) : List Field → Nat → Nat → Option (List SK)
  | [], o, c => (match Nat.beq o c with | true => some [] | false => none)
  | f :: fs, o, c => (match Nat.beq f.offset o, g f.type, sgFs P g fs (o + P.cellsOf f.type) c with
    | true, some a, some b => some (a ++ b)
    | _, _, _ => none)
def sgArr (l : List SK) : Nat → List SK
  | 0 => []
  | n + 1 => l ++ sgArr l n
def sg (P : Program) : Nat → TypeId → Option (List SK)
  | 0, _ => none
  | k + 1, t => match P.underlying t with
    | some (.int .i64) => some [.i]
    | some .string => some [.s]
    | some (.struct fs) => sgFs P (sg P k) fs.toList 0 (P.cellsOf t)
    | some (.array n e) => (match sg P k e, Nat.beq (P.cellsOf t) (n * P.cellsOf e) with | some l, true => some (sgArr l n) | _, _ => none)
    | some (.slice e) => (match sg P k e with | some sh => (match Nat.beq (P.cellsOf e) sh.length && Nat.blt 0 sh.length with | true => some [.sl sh] | false => none) | none => none)
    | _ => none
section
variable {H : Type} {enc : TypeId × Value → H} {P : Program} {w : World} {base : Nat} {sp : Nat → Bool} {hd : Bool}
theorem sgFs_spec {R : SK → Value → Prop} {g : TypeId → Option (List SK)} : ∀ (fs : List Field) (o c : Nat) (cs : List Value) {l : List SK}, sgFs P g fs o c = some l → cs.length = c →
    (∀ f ∈ fs, ∀ l', g f.type = some l' → F2 R l' ((cs.drop f.offset).take (P.cellsOf f.type))) → F2 R l (cs.drop o)
  | [], o, c, cs, l, h, hl, _ => by
    unfold sgFs at h
    split at h
    · rename_i hb
      have : o = c := Nat.eq_of_beq_eq_true hb
      simp only [Option.some.injEq] at h
      subst h
      rw [this, ← hl, List.drop_length]
      exact .nil
    · cases h
  | f :: fs, o, c, cs, l, h, hl, hf => by
    simp only [sgFs] at h
    split at h
    · rename_i a b hb ha hrest
      have ho : f.offset = o := Nat.eq_of_beq_eq_true hb
      simp only [Option.some.injEq] at h
      subst h
      have h1 := hf f (List.mem_cons_self ..) a ha
      have h2 := sgFs_spec fs _ c cs hrest hl fun g hg => hf g (List.mem_cons_of_mem _ hg)
      rw [ho] at h1
      have e : cs.drop o = (cs.drop o).take (P.cellsOf f.type) ++ (cs.drop o).drop (P.cellsOf f.type) := (List.take_append_drop _ _).symm
      rw [e, List.drop_drop]
      exact f2_append h1 h2
    · cases h
theorem sgArr_spec {R : SK → Value → Prop} {l : List SK} {c : Nat} : ∀ (n : Nat) (cs : List Value), cs.length = n * c → (∀ i, i < n → F2 R l ((cs.drop (i * c)).take c)) → F2 R (sgArr l n) cs
  | 0, cs, h, _ => by
    have : cs = [] := List.length_eq_zero_iff.1 (by simpa using h)
    subst this
    exact .nil
  | n + 1, cs, h, hf => by
    have h0 := hf 0 (by omega)
    rw [Nat.zero_mul, List.drop_zero] at h0
    have hr := sgArr_spec (c := c) n (cs.drop c) (by rw [List.length_drop, h, Nat.succ_mul]; omega) fun i hi => by
      have := hf (i + 1) (by omega)
      rw [List.drop_drop, show c + i * c = (i + 1) * c by rw [Nat.succ_mul]; omega]
      exact this
    rw [← List.take_append_drop c cs]
    exact f2_append h0 hr
theorem trod_sg : ∀ (k fuel : Nat) (t : TypeId) (cs : List Value) (x : DataW H × List MemPlace) {l : List SK}, sg P k t = some l → DataW.trod enc P w base sp hd fuel t cs = some x → F2 (MG w) l cs
  | 0, _, _, _, _, _, h, _ => by cases h
  | k + 1, fuel, t, cs, x, l, h, hx => by
    unfold sg at h
    split at h
    · rename_i ht
      simp only [Option.some.injEq] at h
      subst h
      obtain ⟨n, rfl, rfl, _⟩ := DataW.trod_int ht hx
      exact .cons ⟨.int .i64 n, .i n, rfl⟩ .nil
    · rename_i ht
      simp only [Option.some.injEq] at h
      subst h
      obtain ⟨s, rfl, rfl, _⟩ := DataW.trod_string ht hx
      exact .cons ⟨.str s, .s s, rfl⟩ .nil
    · rename_i fs ht
      obtain ⟨xs, n, _, rfl, hl, hlen, hf⟩ := DataW.trod_struct ht hx
      have := sgFs_spec (P := P) (R := MG w) fs.toList 0 (P.cellsOf t) cs h hl (by
        intro f hm l' hl'
        obtain ⟨i, hi, hi'⟩ := List.getElem_of_mem hm
        have hgi : fs[i]? = some f := by rw [← Array.getElem?_toList, List.getElem?_eq_getElem hi, hi']
        have hlt : i < xs.length := by rw [hlen]; exact (Array.getElem?_eq_some_iff.1 hgi).1
        have hy : xs[i]? = some xs[i] := List.getElem?_eq_getElem hlt
        have := hf i f hgi
        rw [hy] at this
        exact trod_sg k n f.type _ _ hl' this)
      simpa using this
    · rename_i n e ht
      split at h
      · rename_i l' hl' hcb
        simp only [Option.some.injEq] at h
        subst h
        obtain ⟨xs, m, _, ex, hlen, hl, hel⟩ := DataW.trod_array ht hx
        have hcz : P.cellsOf t = n * P.cellsOf e := Nat.eq_of_beq_eq_true hcb
        refine sgArr_spec (c := P.cellsOf e) n cs (by rw [← hcz]; exact hlen) fun i hi => ?_
        have hlt : i < xs.length := by omega
        have hy : xs[i]? = some xs[i] := List.getElem?_eq_getElem hlt
        have := hel i hi
        rw [hy] at this
        exact trod_sg k m e _ _ hl' this
      · cases h
    · rename_i e ht
      split at h
      · rename_i sh hsh
        split at h
        · rename_i hc
          simp only [Option.some.injEq] at h
          subst h
          rw [Bool.and_eq_true] at hc
          have hn : P.cellsOf e = sh.length := Nat.eq_of_beq_eq_true hc.1
          have hn0 : 0 < sh.length := Nat.le_of_ble_eq_true hc.2
          rcases DataW.trod_slice ht hx with ⟨h1, _⟩ | ⟨a, len0, cap0, elems, rest, n', _, h1, _, _, hlc, _, hel, hget, _⟩
          · rw [h1]
            exact .cons ⟨.sl false 0 sh.length (fun _ _ => .nilp), .sl sh 0 _ (fun i j k hi => by omega), .inl ⟨rfl, rfl, rfl⟩⟩ .nil
          · rw [h1]
            rw [hn] at hget
            have each : ∀ i, i < len0 → ∀ j, j < sh.length → ∃ d, (∀ k', sh[j]? = some k' → DG k' d) ∧ ∃ y, w.cell? ((a.add (i * sh.length)).add j) = some y ∧ D.rel (fullK w) d y := by
              intro i hi j hj
              have hg := hget i hi
              have hlt : i < elems.length := by omega
              rw [List.getElem?_eq_getElem hlt] at hg
              simp only [Option.bind_eq_some_iff] at hg
              obtain ⟨cs, hcs, hx⟩ := hg
              have hF := trod_sg k n' e cs _ hsh hx
              obtain ⟨_, hl, hcell⟩ := World.cells?_some hcs
              obtain ⟨y, hy, hm⟩ := f2_get hF (i := j) (List.getElem?_eq_getElem hj)
              obtain ⟨d, hd1, hd2⟩ := hm
              have hcj := hcell j hj
              exact ⟨d, fun k' hk' => by rw [List.getElem?_eq_getElem hj] at hk'; cases hk'; exact hd1, y, by rw [hcj, hy], hd2⟩
            have spot0 : 0 < len0 → a.spot = none := by
              intro hp
              obtain ⟨_, _, y, hy, _⟩ := each 0 hp 0 hn0
              have := World.cell?_spot hy
              simpa [Addr.add] using this
            refine .cons ⟨.sl false len0 sh.length (fun i j => if h : i < len0 ∧ j < sh.length then Classical.choose (each i h.1 j h.2) else .nilp), .sl sh len0 _ (fun i j k' hi hk' => ?_), .inr ⟨a, cap0, rfl, hlc, spot0, fun i j hi hj => ?_⟩⟩ .nil
            · have hj : j < sh.length := (List.getElem?_eq_some_iff.1 hk').1
              simp only [dif_pos (And.intro hi hj)]
              exact (Classical.choose_spec (each i hi j hj)).1 k' hk'
            · obtain ⟨_, y, hy, hr⟩ := Classical.choose_spec (each i hi j hj)
              have hp : a.spot = none := spot0 (by omega)
              have e1 : (a.add (i * sh.length)).add j = ⟨a.block, a.off + i * sh.length + j, none⟩ := by
                obtain ⟨b, off, spot⟩ := a
                simp only at hp
                subst hp
                rw [Go.WideShapes.add_plain, Go.WideShapes.add_plain]
              rw [e1] at hy
              refine ⟨_, fullK_cell hy, ?_⟩
              simp only [dif_pos (And.intro hi hj)]
              exact hr
        · cases h
      · cases h
    · cases h
theorem open_sl {r : Reach} {b0 : Nat} {t e : TypeId} {v : Value} {d : DataW H} {p : List MemPlace} (k : Nat) {sh : List SK} (ht : P.underlying t = some (.slice e)) (ha : sg P k t = some [.sl sh])
    (hv : Value.okWide P w r b0 t v) (h : DataW.Trod enc P w base sp hd t v d p) : MG w (.sl sh) v := by
  obtain ⟨a0, len0, cap0, rfl⟩ := okWide_slice ht hv
  obtain ⟨fuel, hf⟩ := h
  have hc : (Value.slice a0 len0 cap0).cells.toList = [Value.slice a0 len0 cap0] := rfl
  rw [hc] at hf
  have := trod_sg k fuel t _ _ ha hf
  cases this with
  | cons h _ => exact h
theorem open_st {r : Reach} {b0 : Nat} {t : TypeId} {fs : Array Field} {v : Value} {d : DataW H} {p : List MemPlace} (k : Nat) {l : List SK} (ht : P.underlying t = some (.struct fs)) (ha : sg P k t = some l)
    (hv : Value.okWide P w r b0 t v) (h : DataW.Trod enc P w base sp hd t v d p) : ∃ cs : List Value, F2 (MG w) l cs ∧ v = .agg cs.toArray := by
  obtain ⟨cs, rfl, hsz⟩ := okWide_struct ht hv
  obtain ⟨fuel, hf⟩ := h
  have hF : F2 (MG w) l cs.toList := trod_sg k fuel t _ _ ha hf
  exact ⟨cs.toList, hF, by rw [Array.toArray_toList]⟩
theorem mg_i {v : Value} (h : MG w .i v) : ∃ n, v = .int .i64 n := by
  obtain ⟨d, hd, hr⟩ := h
  cases hd with
  | i n => exact ⟨n, hr⟩
theorem mg_sl {sh : List SK} {v : Value} (h : MG w (.sl sh) v) : ∃ (len : Nat) (F : Nat → Nat → D), (D.sl false len sh.length F).rel (fullK w) v ∧ ∀ i j k, i < len → sh[j]? = some k → DG k (F i j) := by
  obtain ⟨d, hd, hr⟩ := h
  cases hd with
  | sl _ len F hF => exact ⟨len, F, hr, hF⟩
theorem dg_i {d : D} (h : DG .i d) : ∃ n, d = .int .i64 n := by cases h with | i n => exact ⟨n, rfl⟩
theorem dg_s {d : D} (h : DG .s d) : ∃ n, d = .str n := by cases h with | s n => exact ⟨n, rfl⟩
end
end Go.Rw
end

section
set_option linter.unusedVariables false
set_option linter.unusedSimpArgs false
set_option maxRecDepth 100000
namespace Go.Bl
open Go.V Go.Proofs
def tr94 (n d : Int) : T (List Ar) :=
    T.need (d ≠ (0 : Int)) (T.need (d ≠ (0 : Int)) (T.br (decide (Int.tmod n d < (0 : Int))) (T.ret [Ar.c (D.int IntKind.i64 (IntKind.wrap IntKind.i64 (IntKind.wrap IntKind.i64 (Int.tdiv n d) - (1 : Int))))]) (T.ret [Ar.c (D.int IntKind.i64 (IntKind.wrap IntKind.i64 (Int.tdiv n d)))])))
theorem t94 (n d : Int) : runFnX Try.prog G0 (lookS []) (fun _ => []) [] 1 20 3 94 Try.f94 [.c (dI n), .c (dI d)] =
    tr94 n d := by kernel_rfl
theorem floor_eq {n d : Int} (hd : 0 < d) : (n.tmod d < 0 → n.tdiv d - 1 = n / d) ∧ (¬ n.tmod d < 0 → n.tdiv d = n / d) := by
  have h1 := Int.emod_nonneg n (show d ≠ 0 by omega)
  have h2 := Int.emod_lt_of_pos n hd
  have e1 := Int.tdiv_eq_ediv (a := n) (b := d)
  have e2 := Int.tmod_eq_emod (a := n) (b := d)
  by_cases h : 0 ≤ n ∨ d ∣ n
  · rw [if_pos h] at e1 e2
    constructor <;> intro <;> omega
  · rw [if_neg h] at e1 e2
    rw [Int.sign_eq_one_of_pos hd] at e1
    constructor <;> intro <;> omega
theorem ediv_ok {n d : Int} (h : i64ok n) : (n / d).natAbs < 9223372036854775808 := Nat.lt_of_le_of_lt (Int.natAbs_ediv_le_natAbs n d) h
theorem w94 {n d : Int} (hd : 0 < d) (h : i64ok n) : (tr94 n d).wp (fun rs => rsEqv rs [rI (n / d)]) := by
  unfold tr94
  have ht : (n.tdiv d).natAbs < 9223372036854775808 := Nat.lt_of_le_of_lt (Int.natAbs_tdiv_le_natAbs n d) h
  have he := ediv_ok (d := d) h
  obtain ⟨f1, f2⟩ := floor_eq (n := n) hd
  refine ⟨by omega, by omega, fun hb => ?_, fun hb => ?_⟩
  · have hb := f1 (of_decide_eq_true hb)
    rw [wrap_id (n := n.tdiv d) (by omega) (by omega), hb, wrap_id (by omega) (by omega)]
    exact rsEqv_refl _
  · have hb := f2 (of_decide_eq_false hb)
    rw [wrap_id (n := n.tdiv d) (by omega) (by omega), hb]
    exact rsEqv_refl _
def dom94 : DomF
  | [.c (.int .i64 n), .c (.int .i64 d)] => some ([0 < d, i64ok n], [rI (n / d)])
  | _ => none
def v94 : Nat × Sm := (94, fokSm dom94)
theorem C94 : FOK Try.prog G0 gw 94 dom94 := by
  intro ags p r hd hp κ w xs hw hl hG hx
  unfold dom94 at hd
  split at hd
  · rename_i n d
    simp only [Option.some.injEq, Prod.mk.injEq] at hd
    obtain ⟨rfl, rfl⟩ := hd
    have heq : agsEqv [.c (.int .i64 n), .c (.int .i64 d)] [.c (.int .i64 n), .c (.int .i64 d)] := ⟨Ag.eqv_refl _, Ag.eqv_refl _, trivial⟩
    exact fokX_fin mixed gw_stable (sl := []) trivial Try.func94 hw hl hG hx heq rfl (t94 n d) (w94 hp.1 hp.2.1)
  · cases hd
theorem S94 : SumOK Try.prog G0 gw 94 (fokSm dom94) := fok_sum Try.func94 rfl C94
def tr39 (n d m k : Int) : T (List Ar) :=
    T.loop (Int × Int × Int × Int × PUnit) (n, d, m, k, PUnit.unit) fun (x : Int × Int × Int × Int × PUnit) => T.need ((0 : Int) < Prod.fst (Prod.snd x)) (T.need (Int.natAbs (Prod.fst x) < (9223372036854775808 : Nat)) (T.need ((0 : Int) < Prod.fst (Prod.snd (Prod.snd (Prod.snd x)))) (T.need (Int.natAbs (Prod.fst (Prod.snd (Prod.snd x))) < (9223372036854775808 : Nat)) (T.br (decide (Prod.fst x / Prod.fst (Prod.snd x) < Prod.fst (Prod.snd (Prod.snd x)) / Prod.fst (Prod.snd (Prod.snd (Prod.snd x))))) (T.ret (Sum.inr [Ar.c (D.int IntKind.i64 (-1 : Int))])) (T.br (decide (Prod.fst x / Prod.fst (Prod.snd x) > Prod.fst (Prod.snd (Prod.snd x)) / Prod.fst (Prod.snd (Prod.snd (Prod.snd x))))) (T.ret (Sum.inr [Ar.c (D.int IntKind.i64 (1 : Int))])) (T.br (IntKind.wrap IntKind.i64 (Prod.fst x - IntKind.wrap IntKind.i64 (Prod.fst x / Prod.fst (Prod.snd x) * Prod.fst (Prod.snd x))) == (0 : Int)) (T.br (IntKind.wrap IntKind.i64 (Prod.fst (Prod.snd (Prod.snd x)) - IntKind.wrap IntKind.i64 (Prod.fst (Prod.snd (Prod.snd x)) / Prod.fst (Prod.snd (Prod.snd (Prod.snd x))) * Prod.fst (Prod.snd (Prod.snd (Prod.snd x))))) == (0 : Int)) (T.ret (Sum.inr [Ar.c (D.int IntKind.i64 (0 : Int))])) (T.br (IntKind.wrap IntKind.i64 (Prod.fst x - IntKind.wrap IntKind.i64 (Prod.fst x / Prod.fst (Prod.snd x) * Prod.fst (Prod.snd x))) == (0 : Int)) (T.ret (Sum.inr [Ar.c (D.int IntKind.i64 (-1 : Int))])) (T.br (IntKind.wrap IntKind.i64 (Prod.fst (Prod.snd (Prod.snd x)) - IntKind.wrap IntKind.i64 (Prod.fst (Prod.snd (Prod.snd x)) / Prod.fst (Prod.snd (Prod.snd (Prod.snd x))) * Prod.fst (Prod.snd (Prod.snd (Prod.snd x))))) == (0 : Int)) (T.ret (Sum.inr [Ar.c (D.int IntKind.i64 (1 : Int))])) (T.ret (Sum.inl (Prod.fst (Prod.snd (Prod.snd (Prod.snd x))), IntKind.wrap IntKind.i64 (Prod.fst (Prod.snd (Prod.snd x)) - IntKind.wrap IntKind.i64 (Prod.fst (Prod.snd (Prod.snd x)) / Prod.fst (Prod.snd (Prod.snd (Prod.snd x))) * Prod.fst (Prod.snd (Prod.snd (Prod.snd x))))), Prod.fst (Prod.snd x), IntKind.wrap IntKind.i64 (Prod.fst x - IntKind.wrap IntKind.i64 (Prod.fst x / Prod.fst (Prod.snd x) * Prod.fst (Prod.snd x))), PUnit.unit)))))) (T.br (IntKind.wrap IntKind.i64 (Prod.fst x - IntKind.wrap IntKind.i64 (Prod.fst x / Prod.fst (Prod.snd x) * Prod.fst (Prod.snd x))) == (0 : Int)) (T.ret (Sum.inr [Ar.c (D.int IntKind.i64 (-1 : Int))])) (T.br (IntKind.wrap IntKind.i64 (Prod.fst (Prod.snd (Prod.snd x)) - IntKind.wrap IntKind.i64 (Prod.fst (Prod.snd (Prod.snd x)) / Prod.fst (Prod.snd (Prod.snd (Prod.snd x))) * Prod.fst (Prod.snd (Prod.snd (Prod.snd x))))) == (0 : Int)) (T.ret (Sum.inr [Ar.c (D.int IntKind.i64 (1 : Int))])) (T.ret (Sum.inl (Prod.fst (Prod.snd (Prod.snd (Prod.snd x))), IntKind.wrap IntKind.i64 (Prod.fst (Prod.snd (Prod.snd x)) - IntKind.wrap IntKind.i64 (Prod.fst (Prod.snd (Prod.snd x)) / Prod.fst (Prod.snd (Prod.snd (Prod.snd x))) * Prod.fst (Prod.snd (Prod.snd (Prod.snd x))))), Prod.fst (Prod.snd x), IntKind.wrap IntKind.i64 (Prod.fst x - IntKind.wrap IntKind.i64 (Prod.fst x / Prod.fst (Prod.snd x) * Prod.fst (Prod.snd x))), PUnit.unit)))))))))))
theorem t39 (n d m k : Int) : runFnX Try.prog G0 (lookS [v94]) (fun _ => [(1, [.slot 0 (.int .i64), .slot 1 (.int .i64), .slot 2 (.int .i64), .slot 3 (.int .i64)], none)]) [] 1 20 3 39 Try.f39 [.c (dI n), .c (dI d), .c (dI m), .c (dI k)] =
    tr39 n d m k := by kernel_rfl
namespace M
def cmp (n d m k : Int) : Int := if n * k < m * d then -1 else if n * k = m * d then 0 else 1
end M
theorem wrap_emod {n d : Int} (hd : 0 < d) (h : i64ok d) : IntKind.i64.wrap (n - IntKind.i64.wrap (n / d * d)) = n % d := by
  have h0 := Int.emod_nonneg n (show d ≠ 0 by omega)
  have h1 := Int.emod_lt_of_pos n hd
  have h2 := Int.mul_ediv_add_emod n d
  rw [Int.mul_comm] at h2
  have e : IntKind.i64.wrap (n - IntKind.i64.wrap (n / d * d)) = IntKind.i64.wrap (n - n / d * d) := by simp only [IntKind.wrap_i64]; omega
  rw [e, show n - n / d * d = n % d by omega]
  unfold i64ok at h
  exact wrap_id (by omega) (by omega)
theorem cmp_lt {n d m k : Int} (hd : 0 < d) (hk : 0 < k) (h : n / d < m / k) : M.cmp n d m k = -1 := by
  have h1 := Int.mul_ediv_add_emod n d
  have h2 := Int.mul_ediv_add_emod m k
  have r1 := Int.emod_lt_of_pos n hd
  have r2 := Int.emod_nonneg m (show k ≠ 0 by omega)
  have a1 : d * (n / d + 1) ≤ d * (m / k) := Int.mul_le_mul_of_nonneg_left (by omega) (by omega)
  rw [Int.mul_add, Int.mul_one] at a1
  have a2 : n < d * (m / k) := by omega
  have a3 : n * k < d * (m / k) * k := Int.mul_lt_mul_of_pos_right a2 hk
  have a4 : (k * (m / k)) * d ≤ m * d := Int.mul_le_mul_of_nonneg_right (by omega) (by omega)
  have a5 : d * (m / k) * k = (k * (m / k)) * d := by rw [Int.mul_comm k, Int.mul_comm d, Int.mul_assoc, Int.mul_assoc, Int.mul_comm d k]
  unfold M.cmp
  rw [if_pos (by omega)]
theorem cmp_swap (n d m k : Int) : M.cmp m k n d = - M.cmp n d m k := by
  unfold M.cmp
  by_cases h1 : n * k < m * d
  · rw [if_pos h1, if_neg (by omega), if_neg (by omega)]
    rfl
  · rw [if_neg h1]
    by_cases h2 : n * k = m * d
    · rw [if_pos h2, if_neg (by omega), if_pos h2.symm]; rfl
    · rw [if_neg h2, if_pos (by omega)]
theorem cmp_rest {n d m k : Int} (h : n / d = m / k) : M.cmp n d m k = M.cmp (n % d) d (m % k) k := by
  have h1 := Int.mul_ediv_add_emod n d
  have h2 := Int.mul_ediv_add_emod m k
  have e1 : n * k = d * (n / d) * k + n % d * k := by rw [← Int.add_mul, h1]
  have e2 : m * d = d * (n / d) * k + m % k * d := by
    rw [h]
    have : d * (m / k) * k = k * (m / k) * d := by rw [Int.mul_comm k, Int.mul_comm d, Int.mul_assoc, Int.mul_assoc, Int.mul_comm d k]
    rw [this, ← Int.add_mul, h2]
  unfold M.cmp
  rw [e1, e2]
  by_cases h1 : n % d * k < m % k * d
  · rw [if_pos h1, if_pos (by omega)]
  · rw [if_neg h1, if_neg (by omega)]
    by_cases h2 : n % d * k = m % k * d
    · rw [if_pos h2, if_pos (by omega)]
    · rw [if_neg h2, if_neg (by omega)]
theorem cmp_turn (r d t k : Int) : M.cmp k t d r = M.cmp r d t k := by
  unfold M.cmp
  rw [Int.mul_comm k r, Int.mul_comm d t]
theorem w39 {n d m k : Int} (hd : 0 < d) (hk : 0 < k) (h1 : i64ok n) (h2 : i64ok d) (h3 : i64ok m) (h4 : i64ok k) : (tr39 n d m k).wp (fun rs => rsEqv rs [rI (M.cmp n d m k)]) := by
  unfold tr39
  refine ⟨fun x => 0 < x.2.1 ∧ 0 < x.2.2.2.1 ∧ i64ok x.1 ∧ i64ok x.2.1 ∧ i64ok x.2.2.1 ∧ i64ok x.2.2.2.1 ∧ M.cmp x.1 x.2.1 x.2.2.1 x.2.2.2.1 = M.cmp n d m k, fun x => (x.2.1 + x.2.2.2.1).toNat, ⟨hd, hk, h1, h2, h3, h4, rfl⟩, ?_⟩
  rintro ⟨a, b, c, e, u⟩ ⟨g1, g2, g3, g4, g5, g6, g7⟩
  simp only at g1 g2 g3 g4 g5 g6 g7
  have ra0 := Int.emod_nonneg a (show b ≠ 0 by omega)
  have ra1 := Int.emod_lt_of_pos a g1
  have rc0 := Int.emod_nonneg c (show e ≠ 0 by omega)
  have rc1 := Int.emod_lt_of_pos c g2
  have hwa : IntKind.i64.wrap (a - IntKind.i64.wrap (a / b * b)) = a % b := wrap_emod g1 g4
  have hwc : IntKind.i64.wrap (c - IntKind.i64.wrap (c / e * e)) = c % e := wrap_emod g2 g6
  simp only [hwa, hwc]
  refine ⟨g1, g3, g2, g5, fun hb => ?_, fun hb => ?_⟩
  · have hb := of_decide_eq_true hb
    rw [← g7, cmp_lt g1 g2 hb]; exact rsEqv_refl _
  have hb := of_decide_eq_false hb
  refine ⟨fun hc => ?_, fun hc => ?_⟩
  · have hc := of_decide_eq_true hc
    rw [← g7, cmp_swap c e a b, cmp_lt g2 g1 hc]; exact rsEqv_refl _
  have hc := of_decide_eq_false hc
  have hr := cmp_rest (show a / b = c / e by omega)
  have zero : a % b = 0 → c % e ≠ 0 → M.cmp n d m k = -1 := by
    intro e1 e2
    have := Int.mul_pos (show 0 < c % e by omega) g1
    rw [← g7, hr, e1]; unfold M.cmp; rw [Int.zero_mul, if_pos this]
  have one : c % e = 0 → a % b ≠ 0 → M.cmp n d m k = 1 := by
    intro e1 e2
    have := Int.mul_pos (show 0 < a % b by omega) g2
    rw [← g7, hr, e1]; unfold M.cmp; rw [Int.zero_mul, if_neg (by omega), if_neg (by omega)]
  have nxt : a % b ≠ 0 → c % e ≠ 0 → (0 < c % e ∧ 0 < a % b ∧ i64ok e ∧ i64ok (c % e) ∧ i64ok b ∧ i64ok (a % b) ∧ M.cmp e (c % e) b (a % b) = M.cmp n d m k) ∧ (c % e + a % b).toNat < (b + e).toNat := by
    intro e1 e2
    refine ⟨⟨by omega, by omega, g6, by unfold i64ok at *; omega, g4, by unfold i64ok at *; omega, ?_⟩, by omega⟩
    rw [cmp_turn, ← hr, g7]
  refine ⟨fun hx => ?_, fun hx => ?_⟩
  · have hx := eq_of_beq hx
    refine ⟨fun hy => ?_, fun hy => ?_⟩
    · have hy := eq_of_beq hy
      have : M.cmp n d m k = 0 := by rw [← g7, hr, hx, hy]; unfold M.cmp; rw [Int.zero_mul, Int.zero_mul]; rfl
      rw [this]; exact rsEqv_refl _
    · have hy : c % e ≠ 0 := by intro e9; rw [e9] at hy; exact absurd hy (by decide)
      refine ⟨fun hz => ?_, fun hz => ?_⟩
      · rw [zero hx hy]; exact rsEqv_refl _
      · rw [hx] at hz; exact absurd hz (by decide)
  · have hx : a % b ≠ 0 := by intro e9; rw [e9] at hx; exact absurd hx (by decide)
    refine ⟨fun hz => absurd (eq_of_beq hz) hx, fun hz => ⟨fun hy => ?_, fun hy => ?_⟩⟩
    · rw [one (eq_of_beq hy) hx]; exact rsEqv_refl _
    · have hy : c % e ≠ 0 := by intro e9; rw [e9] at hy; exact absurd hy (by decide)
      exact nxt hx hy
def dom39 : DomF
  | [.c (.int .i64 n), .c (.int .i64 d), .c (.int .i64 m), .c (.int .i64 k)] => some ([0 < d, 0 < k, i64ok n, i64ok d, i64ok m, i64ok k], [rI (M.cmp n d m k)])
  | _ => none
def v39 : Nat × Sm := (39, fokSm dom39)
theorem C39 : FOK Try.prog G0 gw 39 dom39 := by
  intro ags p r hd hp κ w xs hw hl hG hx
  unfold dom39 at hd
  split at hd
  · rename_i n d m k
    simp only [Option.some.injEq, Prod.mk.injEq] at hd
    obtain ⟨rfl, rfl⟩ := hd
    have heq : agsEqv [.c (.int .i64 n), .c (.int .i64 d), .c (.int .i64 m), .c (.int .i64 k)] [.c (.int .i64 n), .c (.int .i64 d), .c (.int .i64 m), .c (.int .i64 k)] := ⟨Ag.eqv_refl _, Ag.eqv_refl _, Ag.eqv_refl _, Ag.eqv_refl _, trivial⟩
    exact fokX_fin mixed gw_stable (sl := [v94]) ⟨S94, trivial⟩ Try.func39 hw hl hG hx heq rfl (t39 n d m k) (w39 hp.1 hp.2.1 hp.2.2.1 hp.2.2.2.1 hp.2.2.2.2.1 hp.2.2.2.2.2.1)
  · cases hd
theorem S39 : SumOK Try.prog G0 gw 39 (fokSm dom39) := fok_sum Try.func39 rfl C39
end Go.Bl
end

section
set_option linter.unusedVariables false
set_option linter.unusedSimpArgs false
set_option maxRecDepth 100000
namespace Go.Bl
open Go.V Go.Proofs
open Go.Lp
theorem part_le {l : List Cask} {den : Int} {ps : List Int} (hl : ∀ i, i < l.length → RightC (l.getD i dfC)) (h : M.partErr l den ps = 0) : ∀ i, i < l.length → en ps i ≤ (l.getD i dfC).vol * den := by
  intro i hi
  have hlen := part_len (l := l) (den := den) (ps := ps) (by rw [h]; rfl)
  unfold M.partErr at h
  obtain ⟨h0, h1⟩ := cond_zero h
  unfold M.partHead at h0
  have hw := within_spec (unl_zero (by decide) (first_nil _ h0 _ (List.mem_cons_self ..)))
  have ha := partFrom_zero _ _ h1 i (Nat.zero_le _) (by omega)
  unfold M.partAt at ha
  have a2 : ps.getD i 0 ≤ IntKind.i64.wrap (den * (l.getD i dfC).vol) := of_decide_eq_true (unl_zero (by decide) (first_nil _ ha _ (List.mem_cons_of_mem _ (List.mem_cons_self ..))))
  have hv := (hl i hi).vol
  have hm0 : 0 ≤ den * (l.getD i dfC).vol := Int.mul_nonneg (by omega) hv.1
  have hm1 : den * (l.getD i dfC).vol ≤ 200000000000 * 10000 := Int.mul_le_mul hw.2 hv.2 hv.1 (by decide)
  rw [wrap_id (by omega) (by omega), Int.mul_comm] at a2
  exact a2
/-- Parts that are accepted. -/
theorem open_blend {l : List Cask} {s : Sample} {den : Int} {ps : List Int} (h : M.openErr l s den ps = 0) : RightL l s ∧ OpenR l s den ps ∧ Blend l s ps den (M.away l ps s) := by
  have ho := open_right (l := l) (s := s) (den := den) (ps := ps) (by rw [h]; rfl)
  unfold M.openErr at h
  obtain ⟨h1, h⟩ := cond_zero h
  obtain ⟨h2, h3⟩ := cond_zero h
  have hr := task_right h1
  have h3 : M.sumP (fun _ => 1) l ps = IntKind.i64.wrap (den * s.vol) := by simpa using unl_zero (by decide) h3
  have hd := ho.parts.den
  have hv := hr.v
  have m0 : 0 ≤ den * s.vol := Int.mul_nonneg (by omega) (by omega)
  have m1 : den * s.vol ≤ 200000000000 * 10000 := Int.mul_le_mul hd.2 hv.2 (by omega) (by decide)
  rw [wrap_id (by omega) (by omega), sum_vol hr ho.parts, Int.mul_comm] at h3
  obtain ⟨a0, ak⟩ := (away_le hr ho).1 (Int.le_refl _)
  exact ⟨hr, ho, by omega, fun i hi => (ho.parts.part i hi).1, part_le hr.rc h2, h3, fun k hk => (ak k hk).1, fun k hk => (ak k hk).2⟩
theorem blend_no {l : List Cask} {s : Sample} {den : Int} {ps : List Int} (h : (M.blendR l s den ps).2.2 ≠ 0) : (M.blendR l s den ps).1 = 0 ∧ (M.blendR l s den ps).2.1 = 0 := by
  by_cases h1 : (M.openErr l s den ps != 0) = true
  · rw [blendR_err h1]; exact ⟨rfl, rfl⟩
  · have h1 : (M.openErr l s den ps != 0) = false := by simpa using h1
    rw [blendR_ok h1] at h ⊢
    cases hc : decide (M.away l ps s > 0)
    · rw [hc] at h; exact absurd rfl h
    · exact ⟨rfl, rfl⟩
theorem blend_yes {l : List Cask} {s : Sample} {den : Int} {ps : List Int} (h : (M.blendR l s den ps).2.2 = 0) : RightL l s ∧ OpenR l s den ps ∧ Blend l s ps den 0 ∧ M.blendR l s den ps = (M.told1 (cost l ps) den, M.told2 (cost l ps) den, 0) := by
  by_cases h1 : (M.openErr l s den ps != 0) = true
  · rw [blendR_err h1] at h
    have h : M.openErr l s den ps = 0 := h
    rw [h] at h1; exact absurd h1 (by decide)
  · have h1 : (M.openErr l s den ps != 0) = false := by simpa using h1
    obtain ⟨hr, ho, hb⟩ := open_blend (l := l) (s := s) (den := den) (ps := ps) (by simpa using h1)
    rw [blendR_ok h1] at h ⊢
    cases hc : decide (M.away l ps s > 0)
    · have hc := of_decide_eq_false hc
      exact ⟨hr, ho, hb.mono (by omega), by rw [sum_cost hr ho.parts]; rfl⟩
    · rw [hc] at h; exact absurd (show (13 : Int) = 0 from h) (by decide)
theorem proves_no {l : List Cask} {s : Sample} {w : Wts} (h : (M.proves l s w).2.2 ≠ 0) : (M.proves l s w).1 = 0 ∧ (M.proves l s w).2.1 = 0 := by
  by_cases h1 : (M.openW l s w != 0) = true
  · rw [proves_err h1]; exact ⟨rfl, rfl⟩
  · have h1 : (M.openW l s w != 0) = false := by simpa using h1
    unfold M.proves at h ⊢
    rw [h1] at h ⊢
    cases hc : (List.range l.length).any fun i => decide (M.giveR l s w i > IntKind.i64.wrap (w.den * (l.getD i dfC).cost))
    · rw [hc] at h; exact absurd rfl h
    · exact ⟨rfl, rfl⟩
theorem cost_wrap {l : List Cask} {s : Sample} {w : Wts} (h : RightW l s w) {i : Nat} (hi : i < l.length) : IntKind.i64.wrap (w.den * (l.getD i dfC).cost) = (l.getD i dfC).cost * w.den := by
  have h1 := h.den
  have h2 := (h.rl.rc i hi).cost
  have m0 : 0 ≤ w.den * (l.getD i dfC).cost := Int.mul_nonneg (by omega) h2.1
  have m1 : w.den * (l.getD i dfC).cost ≤ 200000000000 * 1000 := Int.mul_le_mul h1.2 h2.2 h2.1 (by decide)
  rw [wrap_id (by omega) (by omega), Int.mul_comm]
theorem proves_yes {l : List Cask} {s : Sample} {w : Wts} (h : (M.proves l s w).2.2 = 0) : RightW l s w ∧ (∀ j, j < l.length → gift l s w j ≤ (l.getD j dfC).cost * w.den) ∧ M.proves l s w = (M.told1 (bound l s w) w.den, M.told2 (bound l s w) w.den, 0) := by
  by_cases h1 : (M.openW l s w != 0) = true
  · rw [proves_err h1] at h
    have h : M.openW l s w = 0 := h
    rw [h] at h1; exact absurd h1 (by decide)
  · have h1 : (M.openW l s w != 0) = false := by simpa using h1
    have hr := openW_right (l := l) (s := s) (w := w) (by simpa using h1)
    cases hc : (List.range l.length).any fun i => decide (M.giveR l s w i > IntKind.i64.wrap (w.den * (l.getD i dfC).cost))
    · have hall : ∀ k, k < l.length → decide (M.giveR l s w k > IntKind.i64.wrap (w.den * (l.getD k dfC).cost)) = false := by
        intro k hk
        have := List.any_eq_false.1 hc k (List.mem_range.2 hk)
        simpa using this
      refine ⟨hr, fun j hj => ?_, ?_⟩
      · have := of_decide_eq_false (hall j hj)
        rw [giveR_eq hr hj, cost_wrap hr hj] at this
        omega
      · rw [proves_ok h1 hall, (boundR_eq hr).1]
    · unfold M.proves at h
      rw [h1, hc] at h
      exact absurd (show (20 : Int) = 0 from h) (by decide)
theorem fails_yes {l : List Cask} {s : Sample} {w : Wts} (h : M.fails l s w = 0) : RightW l s w ∧ (∀ j, j < l.length → gift l s w j ≤ 0) ∧ 0 < bound l s w := by
  by_cases h1 : (M.openW l s w != 0) = true
  · rw [fails_err h1] at h
    rw [h] at h1; exact absurd h1 (by decide)
  · have h1 : (M.openW l s w != 0) = false := by simpa using h1
    have hr := openW_right (l := l) (s := s) (w := w) (by simpa using h1)
    cases hc : (List.range l.length).any fun i => decide (M.giveR l s w i > 0)
    · have hall : ∀ k, k < l.length → decide (M.giveR l s w k > 0) = false := by
        intro k hk
        have := List.any_eq_false.1 hc k (List.mem_range.2 hk)
        simpa using this
      refine ⟨hr, fun j hj => ?_, ?_⟩
      · have := of_decide_eq_false (hall j hj)
        rw [giveR_eq hr hj] at this
        omega
      · rw [fails_ok h1 hall, (boundR_eq hr).1] at h
        exact of_decide_eq_true (unl_zero (by decide) h)
    · unfold M.fails at h
      rw [h1, hc] at h
      exact absurd (show (20 : Int) = 0 from h) (by decide)
theorem told_spec {n d : Int} (hd : 0 < d) : ∃ g : Int, 0 < g ∧ M.told1 n d * g = n ∧ M.told2 n d * g = d := by
  refine ⟨(Int.gcd n d : Nat), ?_, ?_, ?_⟩
  · have : 0 < Int.gcd n d := Int.gcd_pos_of_ne_zero_right _ (by omega)
    omega
  · exact Int.tdiv_mul_cancel (Int.gcd_dvd_left ..)
  · exact Int.tdiv_mul_cancel (Int.gcd_dvd_right ..)
theorem told_pos {n d : Int} (hd : 0 < d) : 0 < M.told2 n d := by
  obtain ⟨g, h0, _, h2⟩ := told_spec (n := n) hd
  rw [← h2] at hd
  rcases Int.lt_trichotomy (M.told2 n d) 0 with h | h | h
  · have := Int.mul_neg_of_neg_of_pos h h0; omega
  · rw [h, Int.zero_mul] at hd; omega
  · exact h
theorem mul_ge {a g : Int} (hg : 0 < g) : a.natAbs ≤ (a * g).natAbs := by
  rw [Int.natAbs_mul]
  exact Nat.le_mul_of_pos_right _ (by omega)
theorem told_ok {n d : Int} (hd : 0 < d) : (M.told1 n d).natAbs ≤ n.natAbs ∧ (M.told2 n d).natAbs ≤ d.natAbs := by
  obtain ⟨g, h0, h1, h2⟩ := told_spec (n := n) hd
  have a := mul_ge (a := M.told1 n d) h0
  have b := mul_ge (a := M.told2 n d) h0
  rw [h1] at a; rw [h2] at b
  exact ⟨a, b⟩
theorem cmp_scale {a b c e g h : Int} (hg : 0 < g) (hh : 0 < h) : M.cmp (a * g) (b * g) (c * h) (e * h) = M.cmp a b c e := by
  have hp := Int.mul_pos hg hh
  have e1 : a * g * (e * h) = a * e * (g * h) := by rw [Int.mul_assoc, Int.mul_left_comm g, ← Int.mul_assoc]
  have e2 : c * h * (b * g) = c * b * (g * h) := by rw [Int.mul_assoc, Int.mul_left_comm h, ← Int.mul_assoc, Int.mul_comm h g]
  unfold M.cmp
  rw [e1, e2]
  by_cases h1 : a * e < c * b
  · rw [if_pos h1, if_pos (Int.mul_lt_mul_of_pos_right h1 hp)]
  · rw [if_neg h1, if_neg (fun e9 => h1 (Int.lt_of_mul_lt_mul_right e9 (Int.le_of_lt hp)))]
    by_cases h2 : a * e = c * b
    · rw [if_pos h2, if_pos (by rw [h2])]
    · rw [if_neg h2, if_neg (fun e9 => h2 (Int.eq_of_mul_eq_mul_right (by omega) e9))]
theorem cmp_told {n d m k : Int} (hd : 0 < d) (hk : 0 < k) : M.cmp (M.told1 n d) (M.told2 n d) (M.told1 m k) (M.told2 m k) = M.cmp n d m k := by
  obtain ⟨g, g0, g1, g2⟩ := told_spec (n := n) hd
  obtain ⟨h, h0, h1, h2⟩ := told_spec (n := m) hk
  rw [← cmp_scale g0 h0, g1, g2, h1, h2]
theorem each_nn {P : Int → Prop} {w : Wts} (h : Each P w) (hp : ∀ b, P b → 0 ≤ b) : Each (fun b => 0 ≤ b) w := by
  obtain ⟨g1, ⟨g2, g3, g4, g5⟩, g6, g7, g8, g9⟩ := h
  exact ⟨fun i => hp _ (g1 i), ⟨hp _ g2, hp _ g3, hp _ g4, hp _ g5⟩, hp _ g6, hp _ g7, hp _ g8, hp _ g9⟩
/-- None is cheaper than a bound that is proved. -/
theorem cheaper {l : List Cask} {s : Sample} {den : Int} {ps : List Int} {w : Wts} (hb : Blend l s ps den 0) (hw : RightW l s w) (hg : ∀ j, j < l.length → gift l s w j ≤ (l.getD j dfC).cost * w.den) : bound l s w * den ≤ cost l ps * w.den := by
  have := weak_blend hb (each_nn hw.all fun b hb => hb.1) (g := fun j => (l.getD j dfC).cost * w.den) hg
  rw [Int.mul_zero, Int.add_zero] at this
  refine Int.le_trans this (Int.le_of_eq ?_)
  unfold cost
  rw [smI_mul_right]
  exact smI_congr fun j _ => by rw [Int.mul_assoc, Int.mul_assoc, Int.mul_comm w.den]
theorem no_failure {l : List Cask} {s : Sample} {den : Int} {ps : List Int} {w : Wts} (hb : Blend l s ps den 0) (hw : RightW l s w) (hg : ∀ j, j < l.length → gift l s w j ≤ 0) (h0 : 0 < bound l s w) : False := by
  have := weak_blend hb (each_nn hw.all fun b hb => hb.1) (g := fun _ => 0) hg
  rw [Int.mul_zero, Int.add_zero, smI_congr (h := fun _ => 0) (fun j _ => Int.zero_mul _), smI_zero] at this
  have := Int.mul_pos h0 hb.dp
  omega
theorem cmp_ge {n d m k : Int} (h : m * d ≤ n * k) : M.cmp n d m k ≥ 0 := by
  unfold M.cmp
  rw [if_neg (by omega)]
  split <;> omega
def tr15 (l : List Cask) (s : Sample) (pden : Int) (pp : List Int) (w : Wts) : T (List Ar) :=
    T.br (!true) (T.ret [Ar.c (D.bool false)]) (T.need (Enc.Is eC (List.length l) (Enc.F eC l)) (T.br (!M.someN (4 : Nat) (Enc.list eC (List.length l) (Enc.F eC l))) (T.ret [Ar.c (D.bool true)]) (T.br (decide ((Nat.cast (R := Int) (List.length pp)) > (12 : Int))) (T.ret [Ar.c (D.bool true)]) (T.br (decide ((Nat.cast (R := Int) (List.length w.casks)) > (12 : Int))) (T.ret [Ar.c (D.bool true)]) (T.need (Enc.Is eC (List.length l) (Enc.F eC l)) (T.need (List.length (Enc.list eC (List.length l) (Enc.F eC l)) ≤ (1000000 : Nat)) (T.need (Enc.Is eI (List.length pp) (Enc.F eI pp)) (T.need (List.length (Enc.list eI (List.length pp) (Enc.F eI pp)) ≤ (1000000 : Nat)) (T.need (Enc.Is eC (List.length l) (Enc.F eC (Enc.list eC (List.length l) (Enc.F eC l)))) (T.need (Enc.Is eI (List.length pp) (Enc.F eI (Enc.list eI (List.length pp) (Enc.F eI pp)))) (T.need (∀ (c : Cask), c ∈ Enc.list eC (List.length l) (Enc.F eC (Enc.list eC (List.length l) (Enc.F eC l))) → ByteArray.size (Cask.nm c) ≤ (1000000 : Nat)) (T.need (List.length (Enc.list eI (List.length pp) (Enc.F eI (Enc.list eI (List.length pp) (Enc.F eI pp)))) ≤ (1000 : Nat)) (T.need (Enc.Is eC (List.length l) (Enc.F eC l)) (T.need (List.length (Enc.list eC (List.length l) (Enc.F eC l)) ≤ (1000000 : Nat)) (T.need (Enc.Is eI (List.length w.casks) (Enc.F eI w.casks)) (T.need (List.length (Enc.list eI (List.length w.casks) (Enc.F eI w.casks)) ≤ (1000000 : Nat)) (T.need (Enc.Is eC (List.length l) (Enc.F eC (Enc.list eC (List.length l) (Enc.F eC l)))) (T.need (Enc.Is eI (List.length w.casks) (Enc.F eI (Enc.list eI (List.length w.casks) (Enc.F eI w.casks)))) (T.need (∀ (c : Cask), c ∈ Enc.list eC (List.length l) (Enc.F eC (Enc.list eC (List.length l) (Enc.F eC l))) → ByteArray.size (Cask.nm c) ≤ (1000000 : Nat)) (T.need (List.length (Enc.list eI (List.length w.casks) (Enc.F eI (Enc.list eI (List.length w.casks) (Enc.F eI w.casks)))) ≤ (1000000 : Nat)) (T.need (List.length (Enc.list eC (List.length l) (Enc.F eC (Enc.list eC (List.length l) (Enc.F eC l)))) ≤ (1000000 : Nat)) (T.br (Prod.snd (Prod.snd (M.blendR (Enc.list eC (List.length l) (Enc.F eC (Enc.list eC (List.length l) (Enc.F eC l)))) s pden (Enc.list eI (List.length pp) (Enc.F eI (Enc.list eI (List.length pp) (Enc.F eI pp)))))) != (0 : Int)) (T.ret [Ar.c (D.bool (Prod.fst (M.blendR (Enc.list eC (List.length l) (Enc.F eC (Enc.list eC (List.length l) (Enc.F eC l)))) s pden (Enc.list eI (List.length pp) (Enc.F eI (Enc.list eI (List.length pp) (Enc.F eI pp))))) == (0 : Int) && (Prod.fst (Prod.snd (M.blendR (Enc.list eC (List.length l) (Enc.F eC (Enc.list eC (List.length l) (Enc.F eC l)))) s pden (Enc.list eI (List.length pp) (Enc.F eI (Enc.list eI (List.length pp) (Enc.F eI pp)))))) == (0 : Int) && true)))]) (T.need (Enc.Is eC (List.length l) (Enc.F eC l)) (T.need (List.length (Enc.list eC (List.length l) (Enc.F eC l)) ≤ (1000000 : Nat)) (T.need (Enc.Is eI (List.length w.casks) (Enc.F eI w.casks)) (T.need (List.length (Enc.list eI (List.length w.casks) (Enc.F eI w.casks)) ≤ (1000000 : Nat)) (T.need (Enc.Is eC (List.length l) (Enc.F eC (Enc.list eC (List.length l) (Enc.F eC l)))) (T.need (Enc.Is eI (List.length w.casks) (Enc.F eI (Enc.list eI (List.length w.casks) (Enc.F eI w.casks)))) (T.need (∀ (c : Cask), c ∈ Enc.list eC (List.length l) (Enc.F eC (Enc.list eC (List.length l) (Enc.F eC l))) → ByteArray.size (Cask.nm c) ≤ (1000000 : Nat)) (T.need (List.length (Enc.list eI (List.length w.casks) (Enc.F eI (Enc.list eI (List.length w.casks) (Enc.F eI w.casks)))) ≤ (1000000 : Nat)) (T.need (List.length (Enc.list eC (List.length l) (Enc.F eC (Enc.list eC (List.length l) (Enc.F eC l)))) ≤ (1000000 : Nat)) (T.br (M.fails (Enc.list eC (List.length l) (Enc.F eC (Enc.list eC (List.length l) (Enc.F eC l)))) s { den := w.den, each := w.each, x0 := w.x0, x1 := w.x1, x2 := w.x2, x3 := w.x3, y0 := w.y0, y1 := w.y1, y2 := w.y2, y3 := w.y3, casks := Enc.list eI (List.length w.casks) (Enc.F eI (Enc.list eI (List.length w.casks) (Enc.F eI w.casks))) } == (0 : Int)) (T.ret [Ar.c (D.bool false)]) (T.br (Prod.snd (Prod.snd (M.proves (Enc.list eC (List.length l) (Enc.F eC (Enc.list eC (List.length l) (Enc.F eC l)))) s { den := w.den, each := w.each, x0 := w.x0, x1 := w.x1, x2 := w.x2, x3 := w.x3, y0 := w.y0, y1 := w.y1, y2 := w.y2, y3 := w.y3, casks := Enc.list eI (List.length w.casks) (Enc.F eI (Enc.list eI (List.length w.casks) (Enc.F eI w.casks))) })) != (0 : Int)) (T.br (Prod.fst (M.proves (Enc.list eC (List.length l) (Enc.F eC (Enc.list eC (List.length l) (Enc.F eC l)))) s { den := w.den, each := w.each, x0 := w.x0, x1 := w.x1, x2 := w.x2, x3 := w.x3, y0 := w.y0, y1 := w.y1, y2 := w.y2, y3 := w.y3, casks := Enc.list eI (List.length w.casks) (Enc.F eI (Enc.list eI (List.length w.casks) (Enc.F eI w.casks))) }) == (0 : Int) && (Prod.fst (Prod.snd (M.proves (Enc.list eC (List.length l) (Enc.F eC (Enc.list eC (List.length l) (Enc.F eC l)))) s { den := w.den, each := w.each, x0 := w.x0, x1 := w.x1, x2 := w.x2, x3 := w.x3, y0 := w.y0, y1 := w.y1, y2 := w.y2, y3 := w.y3, casks := Enc.list eI (List.length w.casks) (Enc.F eI (Enc.list eI (List.length w.casks) (Enc.F eI w.casks))) })) == (0 : Int) && true)) (T.ret [Ar.c (D.bool true)]) (T.br (Prod.snd (Prod.snd (M.proves (Enc.list eC (List.length l) (Enc.F eC (Enc.list eC (List.length l) (Enc.F eC l)))) s { den := w.den, each := w.each, x0 := w.x0, x1 := w.x1, x2 := w.x2, x3 := w.x3, y0 := w.y0, y1 := w.y1, y2 := w.y2, y3 := w.y3, casks := Enc.list eI (List.length w.casks) (Enc.F eI (Enc.list eI (List.length w.casks) (Enc.F eI w.casks))) })) == (0 : Int)) (T.br (decide (Prod.fst (Prod.snd (M.blendR (Enc.list eC (List.length l) (Enc.F eC (Enc.list eC (List.length l) (Enc.F eC l)))) s pden (Enc.list eI (List.length pp) (Enc.F eI (Enc.list eI (List.length pp) (Enc.F eI pp)))))) > (0 : Int))) (T.br (decide (Prod.fst (Prod.snd (M.proves (Enc.list eC (List.length l) (Enc.F eC (Enc.list eC (List.length l) (Enc.F eC l)))) s { den := w.den, each := w.each, x0 := w.x0, x1 := w.x1, x2 := w.x2, x3 := w.x3, y0 := w.y0, y1 := w.y1, y2 := w.y2, y3 := w.y3, casks := Enc.list eI (List.length w.casks) (Enc.F eI (Enc.list eI (List.length w.casks) (Enc.F eI w.casks))) })) > (0 : Int))) (T.need ((0 : Int) < Prod.fst (Prod.snd (M.blendR (Enc.list eC (List.length l) (Enc.F eC (Enc.list eC (List.length l) (Enc.F eC l)))) s pden (Enc.list eI (List.length pp) (Enc.F eI (Enc.list eI (List.length pp) (Enc.F eI pp))))))) (T.need ((0 : Int) < Prod.fst (Prod.snd (M.proves (Enc.list eC (List.length l) (Enc.F eC (Enc.list eC (List.length l) (Enc.F eC l)))) s { den := w.den, each := w.each, x0 := w.x0, x1 := w.x1, x2 := w.x2, x3 := w.x3, y0 := w.y0, y1 := w.y1, y2 := w.y2, y3 := w.y3, casks := Enc.list eI (List.length w.casks) (Enc.F eI (Enc.list eI (List.length w.casks) (Enc.F eI w.casks))) }))) (T.need (Int.natAbs (Prod.fst (M.blendR (Enc.list eC (List.length l) (Enc.F eC (Enc.list eC (List.length l) (Enc.F eC l)))) s pden (Enc.list eI (List.length pp) (Enc.F eI (Enc.list eI (List.length pp) (Enc.F eI pp)))))) < (9223372036854775808 : Nat)) (T.need (Int.natAbs (Prod.fst (Prod.snd (M.blendR (Enc.list eC (List.length l) (Enc.F eC (Enc.list eC (List.length l) (Enc.F eC l)))) s pden (Enc.list eI (List.length pp) (Enc.F eI (Enc.list eI (List.length pp) (Enc.F eI pp))))))) < (9223372036854775808 : Nat)) (T.need (Int.natAbs (Prod.fst (M.proves (Enc.list eC (List.length l) (Enc.F eC (Enc.list eC (List.length l) (Enc.F eC l)))) s { den := w.den, each := w.each, x0 := w.x0, x1 := w.x1, x2 := w.x2, x3 := w.x3, y0 := w.y0, y1 := w.y1, y2 := w.y2, y3 := w.y3, casks := Enc.list eI (List.length w.casks) (Enc.F eI (Enc.list eI (List.length w.casks) (Enc.F eI w.casks))) })) < (9223372036854775808 : Nat)) (T.need (Int.natAbs (Prod.fst (Prod.snd (M.proves (Enc.list eC (List.length l) (Enc.F eC (Enc.list eC (List.length l) (Enc.F eC l)))) s { den := w.den, each := w.each, x0 := w.x0, x1 := w.x1, x2 := w.x2, x3 := w.x3, y0 := w.y0, y1 := w.y1, y2 := w.y2, y3 := w.y3, casks := Enc.list eI (List.length w.casks) (Enc.F eI (Enc.list eI (List.length w.casks) (Enc.F eI w.casks))) }))) < (9223372036854775808 : Nat)) (T.ret [Ar.c (D.bool (decide (M.cmp (Prod.fst (M.blendR (Enc.list eC (List.length l) (Enc.F eC (Enc.list eC (List.length l) (Enc.F eC l)))) s pden (Enc.list eI (List.length pp) (Enc.F eI (Enc.list eI (List.length pp) (Enc.F eI pp)))))) (Prod.fst (Prod.snd (M.blendR (Enc.list eC (List.length l) (Enc.F eC (Enc.list eC (List.length l) (Enc.F eC l)))) s pden (Enc.list eI (List.length pp) (Enc.F eI (Enc.list eI (List.length pp) (Enc.F eI pp))))))) (Prod.fst (M.proves (Enc.list eC (List.length l) (Enc.F eC (Enc.list eC (List.length l) (Enc.F eC l)))) s { den := w.den, each := w.each, x0 := w.x0, x1 := w.x1, x2 := w.x2, x3 := w.x3, y0 := w.y0, y1 := w.y1, y2 := w.y2, y3 := w.y3, casks := Enc.list eI (List.length w.casks) (Enc.F eI (Enc.list eI (List.length w.casks) (Enc.F eI w.casks))) })) (Prod.fst (Prod.snd (M.proves (Enc.list eC (List.length l) (Enc.F eC (Enc.list eC (List.length l) (Enc.F eC l)))) s { den := w.den, each := w.each, x0 := w.x0, x1 := w.x1, x2 := w.x2, x3 := w.x3, y0 := w.y0, y1 := w.y1, y2 := w.y2, y3 := w.y3, casks := Enc.list eI (List.length w.casks) (Enc.F eI (Enc.list eI (List.length w.casks) (Enc.F eI w.casks))) }))) ≥ (0 : Int))))]))))))) (T.ret [Ar.c (D.bool false)])) (T.ret [Ar.c (D.bool false)])) (T.ret [Ar.c (D.bool false)]))) (T.br (Prod.snd (Prod.snd (M.proves (Enc.list eC (List.length l) (Enc.F eC (Enc.list eC (List.length l) (Enc.F eC l)))) s { den := w.den, each := w.each, x0 := w.x0, x1 := w.x1, x2 := w.x2, x3 := w.x3, y0 := w.y0, y1 := w.y1, y2 := w.y2, y3 := w.y3, casks := Enc.list eI (List.length w.casks) (Enc.F eI (Enc.list eI (List.length w.casks) (Enc.F eI w.casks))) })) == (0 : Int)) (T.br (decide (Prod.fst (Prod.snd (M.blendR (Enc.list eC (List.length l) (Enc.F eC (Enc.list eC (List.length l) (Enc.F eC l)))) s pden (Enc.list eI (List.length pp) (Enc.F eI (Enc.list eI (List.length pp) (Enc.F eI pp)))))) > (0 : Int))) (T.br (decide (Prod.fst (Prod.snd (M.proves (Enc.list eC (List.length l) (Enc.F eC (Enc.list eC (List.length l) (Enc.F eC l)))) s { den := w.den, each := w.each, x0 := w.x0, x1 := w.x1, x2 := w.x2, x3 := w.x3, y0 := w.y0, y1 := w.y1, y2 := w.y2, y3 := w.y3, casks := Enc.list eI (List.length w.casks) (Enc.F eI (Enc.list eI (List.length w.casks) (Enc.F eI w.casks))) })) > (0 : Int))) (T.need ((0 : Int) < Prod.fst (Prod.snd (M.blendR (Enc.list eC (List.length l) (Enc.F eC (Enc.list eC (List.length l) (Enc.F eC l)))) s pden (Enc.list eI (List.length pp) (Enc.F eI (Enc.list eI (List.length pp) (Enc.F eI pp))))))) (T.need ((0 : Int) < Prod.fst (Prod.snd (M.proves (Enc.list eC (List.length l) (Enc.F eC (Enc.list eC (List.length l) (Enc.F eC l)))) s { den := w.den, each := w.each, x0 := w.x0, x1 := w.x1, x2 := w.x2, x3 := w.x3, y0 := w.y0, y1 := w.y1, y2 := w.y2, y3 := w.y3, casks := Enc.list eI (List.length w.casks) (Enc.F eI (Enc.list eI (List.length w.casks) (Enc.F eI w.casks))) }))) (T.need (Int.natAbs (Prod.fst (M.blendR (Enc.list eC (List.length l) (Enc.F eC (Enc.list eC (List.length l) (Enc.F eC l)))) s pden (Enc.list eI (List.length pp) (Enc.F eI (Enc.list eI (List.length pp) (Enc.F eI pp)))))) < (9223372036854775808 : Nat)) (T.need (Int.natAbs (Prod.fst (Prod.snd (M.blendR (Enc.list eC (List.length l) (Enc.F eC (Enc.list eC (List.length l) (Enc.F eC l)))) s pden (Enc.list eI (List.length pp) (Enc.F eI (Enc.list eI (List.length pp) (Enc.F eI pp))))))) < (9223372036854775808 : Nat)) (T.need (Int.natAbs (Prod.fst (M.proves (Enc.list eC (List.length l) (Enc.F eC (Enc.list eC (List.length l) (Enc.F eC l)))) s { den := w.den, each := w.each, x0 := w.x0, x1 := w.x1, x2 := w.x2, x3 := w.x3, y0 := w.y0, y1 := w.y1, y2 := w.y2, y3 := w.y3, casks := Enc.list eI (List.length w.casks) (Enc.F eI (Enc.list eI (List.length w.casks) (Enc.F eI w.casks))) })) < (9223372036854775808 : Nat)) (T.need (Int.natAbs (Prod.fst (Prod.snd (M.proves (Enc.list eC (List.length l) (Enc.F eC (Enc.list eC (List.length l) (Enc.F eC l)))) s { den := w.den, each := w.each, x0 := w.x0, x1 := w.x1, x2 := w.x2, x3 := w.x3, y0 := w.y0, y1 := w.y1, y2 := w.y2, y3 := w.y3, casks := Enc.list eI (List.length w.casks) (Enc.F eI (Enc.list eI (List.length w.casks) (Enc.F eI w.casks))) }))) < (9223372036854775808 : Nat)) (T.ret [Ar.c (D.bool (decide (M.cmp (Prod.fst (M.blendR (Enc.list eC (List.length l) (Enc.F eC (Enc.list eC (List.length l) (Enc.F eC l)))) s pden (Enc.list eI (List.length pp) (Enc.F eI (Enc.list eI (List.length pp) (Enc.F eI pp)))))) (Prod.fst (Prod.snd (M.blendR (Enc.list eC (List.length l) (Enc.F eC (Enc.list eC (List.length l) (Enc.F eC l)))) s pden (Enc.list eI (List.length pp) (Enc.F eI (Enc.list eI (List.length pp) (Enc.F eI pp))))))) (Prod.fst (M.proves (Enc.list eC (List.length l) (Enc.F eC (Enc.list eC (List.length l) (Enc.F eC l)))) s { den := w.den, each := w.each, x0 := w.x0, x1 := w.x1, x2 := w.x2, x3 := w.x3, y0 := w.y0, y1 := w.y1, y2 := w.y2, y3 := w.y3, casks := Enc.list eI (List.length w.casks) (Enc.F eI (Enc.list eI (List.length w.casks) (Enc.F eI w.casks))) })) (Prod.fst (Prod.snd (M.proves (Enc.list eC (List.length l) (Enc.F eC (Enc.list eC (List.length l) (Enc.F eC l)))) s { den := w.den, each := w.each, x0 := w.x0, x1 := w.x1, x2 := w.x2, x3 := w.x3, y0 := w.y0, y1 := w.y1, y2 := w.y2, y3 := w.y3, casks := Enc.list eI (List.length w.casks) (Enc.F eI (Enc.list eI (List.length w.casks) (Enc.F eI w.casks))) }))) ≥ (0 : Int))))]))))))) (T.ret [Ar.c (D.bool false)])) (T.ret [Ar.c (D.bool false)])) (T.ret [Ar.c (D.bool false)])))))))))))))))))))))))))))))))))))
theorem t15 (q_l : Bool) (l : List Cask) (sv : Int) (l0 : Int) (h0 : Int) (l1 : Int) (h1 : Int) (l2 : Int) (h2 : Int) (l3 : Int) (h3 : Int) (pden : Int) (q_pp : Bool) (pp : List Int) (den : Int) (each : Int) (x0 : Int) (x1 : Int) (x2 : Int) (x3 : Int) (y0 : Int) (y1 : Int) (y2 : Int) (y3 : Int) (q_ps : Bool) (ps : List Int) : runFnX Try.prog G0 (lookS [v18, v19, v21, v51, v53, v56, v55, v57, v39]) (fun _ => []) [] 1 20 3 15 Try.f15 [.c (.sl q_l l.length 7 (eC.F l)), .agg [dI sv, dI l0, dI h0, dI l1, dI h1, dI l2, dI h2, dI l3, dI h3, dI pden, .sl q_pp pp.length 1 (eI.F pp), dI den, dI each, dI x0, dI x1, dI x2, dI x3, dI y0, dI y1, dI y2, dI y3, .sl q_ps ps.length 1 (eI.F ps)]] =
    tr15 l (⟨sv, ⟨l0, h0⟩, ⟨l1, h1⟩, ⟨l2, h2⟩, ⟨l3, h3⟩⟩ : Sample) pden pp (⟨den, each, x0, x1, x2, x3, y0, y1, y2, y3, ps⟩ : Wts) := by kernel_rfl
theorem w15 (l : List Cask) (s : Sample) (pden : Int) (pp : List Int) (w : Wts) : (tr15 l s pden pp w).wp (fun rs => rsEqv rs [rB true]) := by
  unfold tr15
  simp only [Enc.list_F]
  refine wp_br (fun hb => absurd hb (by decide)) (fun _ => ⟨Enc.is_F _ _ _, wp_br (fun _ => rsEqv_refl _) (fun hb => wp_br (fun _ => rsEqv_refl _) (fun hc => wp_br (fun _ => rsEqv_refl _) (fun hc2 => ?_)))⟩)
  have hs : M.someN 4 l = true := by simpa using hb
  obtain ⟨hl, hn⟩ := someN_small hs
  have hn' : ∀ c, c ∈ l → c.nm.size ≤ 1000000 := fun c hc => Nat.le_trans (hn c hc) (by decide)
  have hl' : l.length ≤ 1000000 := by omega
  have hq : pp.length ≤ 1000000 := by
    have : ¬ (pp.length : Int) > 12 := of_decide_eq_false hc
    omega
  have hq' : pp.length ≤ 1000 := by
    have : ¬ (pp.length : Int) > 12 := of_decide_eq_false hc
    omega
  have hp' : w.casks.length ≤ 1000000 := by
    have : ¬ (w.casks.length : Int) > 12 := of_decide_eq_false hc2
    omega
  have key1 : (M.blendR l s pden pp).2.2 ≠ 0 → ((M.blendR l s pden pp).1 == 0 && ((M.blendR l s pden pp).2.1 == 0 && true)) = true := by
    intro h; obtain ⟨e1, e2⟩ := blend_no h; rw [e1, e2]; rfl
  have key2 : (M.proves l s w).2.2 ≠ 0 → ((M.proves l s w).1 == 0 && ((M.proves l s w).2.1 == 0 && true)) = true := by
    intro h; obtain ⟨e1, e2⟩ := proves_no h; rw [e1, e2]; rfl
  have key3 : (M.blendR l s pden pp).2.2 = 0 → M.fails l s w ≠ 0 := by
    intro h e
    obtain ⟨hr, ho, hb, _⟩ := blend_yes h
    obtain ⟨hw, hg, h0⟩ := fails_yes e
    exact no_failure hb hw hg h0
  have key4 : (M.blendR l s pden pp).2.2 = 0 → (M.proves l s w).2.2 = 0 → 0 < (M.blendR l s pden pp).2.1 ∧ 0 < (M.proves l s w).2.1 ∧ (M.blendR l s pden pp).1.natAbs < 9223372036854775808 ∧ (M.blendR l s pden pp).2.1.natAbs < 9223372036854775808 ∧ (M.proves l s w).1.natAbs < 9223372036854775808 ∧ (M.proves l s w).2.1.natAbs < 9223372036854775808 ∧
      M.cmp (M.blendR l s pden pp).1 (M.blendR l s pden pp).2.1 (M.proves l s w).1 (M.proves l s w).2.1 ≥ 0 := by
    intro h h2
    obtain ⟨hr, ho, hb, e1⟩ := blend_yes h
    obtain ⟨hw, hg, e2⟩ := proves_yes h2
    have hwd : 0 < w.den := by have := hw.den; omega
    have hc := cost_ok ho
    rw [sum_cost hr ho.parts] at hc
    have hb2 := (boundR_eq hw).2
    have hd := (den_ok ho).2
    have hd2 := hw.den
    have t1 := told_ok (n := cost l pp) hb.dp
    have t2 := told_ok (n := bound l s w) hwd
    rw [e1, e2]
    unfold i64ok at hc hd
    refine ⟨told_pos hb.dp, told_pos hwd, by show (M.told1 _ _).natAbs < _; omega, by show (M.told2 _ _).natAbs < _; omega, by show (M.told1 _ _).natAbs < _; omega, by show (M.told2 _ _).natAbs < _; omega, ?_⟩
    show M.cmp (M.told1 _ _) (M.told2 _ _) (M.told1 _ _) (M.told2 _ _) ≥ 0
    rw [cmp_told hb.dp hwd]
    exact cmp_ge (cheaper hb hw hg)
  generalize M.blendR l s pden pp = B at *
  generalize M.proves l s w = P at *
  generalize M.fails l s w = F at *
  obtain ⟨b1, b2, b3⟩ := B
  obtain ⟨p1, p2, p3⟩ := P
  simp only at key1 key2 key3 key4
  iterate 17 refine ⟨by first | exact Enc.is_F _ _ _ | assumption, ?_⟩
  refine wp_br (fun hb => ?_) (fun hb => ?_)
  · rw [key1 (by simpa using hb)]; exact rsEqv_refl _
  have hb : b3 = 0 := by simpa using hb
  have key3 := key3 hb
  have key4 := key4 hb
  iterate 9 refine ⟨by first | exact Enc.is_F _ _ _ | assumption, ?_⟩
  refine wp_br (fun h => absurd (eq_of_beq h) key3) (fun _ => ?_)
  have fin : p3 = 0 → (T.br (p3 == 0) (T.br (decide (b2 > 0)) (T.br (decide (p2 > 0)) (T.need (0 < b2) (T.need (0 < p2) (T.need (b1.natAbs < 9223372036854775808) (T.need (b2.natAbs < 9223372036854775808) (T.need (p1.natAbs < 9223372036854775808) (T.need (p2.natAbs < 9223372036854775808) (T.ret [Ar.c (D.bool (decide (M.cmp b1 b2 p1 p2 ≥ 0)))]))))))) (T.ret [Ar.c (D.bool false)])) (T.ret [Ar.c (D.bool false)])) (T.ret [Ar.c (D.bool false)])).wp (fun rs => rsEqv rs [rB true]) := by
    intro h
    obtain ⟨q1, q2, q3, q4, q5, q6, q7⟩ := key4 h
    refine wp_br (fun _ => wp_br (fun _ => wp_br (fun _ => ⟨q1, q2, q3, q4, q5, q6, ?_⟩) (fun e => absurd q2 (of_decide_eq_false e))) (fun e => absurd q1 (of_decide_eq_false e))) (fun e => by rw [h] at e; exact absurd e (by decide))
    rw [decide_eq_true q7]; exact rsEqv_refl _
  refine wp_br (fun hp => ?_) (fun hp => ?_)
  · have k2 := key2 (by simpa using hp)
    rw [k2]
    exact wp_br (fun _ => rsEqv_refl _) (fun e => absurd e (by decide))
  · exact fin (by simpa using hp)
def dom15 : DomF
  | [.c (.sl _ n_l st_l F_l), .agg [.int .i64 sv, .int .i64 l0, .int .i64 h0, .int .i64 l1, .int .i64 h1, .int .i64 l2, .int .i64 h2, .int .i64 l3, .int .i64 h3, .int .i64 pden, .sl _ n_pp st_pp F_pp, .int .i64 den, .int .i64 each, .int .i64 x0, .int .i64 x1, .int .i64 x2, .int .i64 x3, .int .i64 y0, .int .i64 y1, .int .i64 y2, .int .i64 y3, .sl _ n_ps st_ps F_ps]] => (match Nat.beq st_l 7 && Nat.beq st_pp 1 && Nat.beq st_ps 1 with
    | true => some ([eC.Is n_l F_l, eI.Is n_pp F_pp, eI.Is n_ps F_ps], [rB true])
    | _ => none)
  | _ => none
theorem C15 : FOK Try.prog G0 gw 15 dom15 := by
  intro ags p r hd hp κ w xs hw hl hG hx
  unfold dom15 at hd
  split at hd
  · rename_i q_l n_l st_l F_l sv l0 h0 l1 h1 l2 h2 l3 h3 pden q_pp n_pp st_pp F_pp den each x0 x1 x2 x3 y0 y1 y2 y3 q_ps n_ps st_ps F_ps
    split at hd
    · rename_i hst
      simp only [Bool.and_eq_true] at hst
      obtain ⟨⟨g1, g2⟩, g3⟩ := hst
      have g1 := Nat.eq_of_beq_eq_true g1
      have g2 := Nat.eq_of_beq_eq_true g2
      have g3 := Nat.eq_of_beq_eq_true g3
      subst g1 g2 g3
      simp only [Option.some.injEq, Prod.mk.injEq] at hd
      obtain ⟨rfl, rfl⟩ := hd
      obtain ⟨hI_l, hI_pp, hI_ps, hp⟩ := hp
      have heq : agsEqv [.c (.sl q_l n_l 7 F_l), .agg [.int .i64 sv, .int .i64 l0, .int .i64 h0, .int .i64 l1, .int .i64 h1, .int .i64 l2, .int .i64 h2, .int .i64 l3, .int .i64 h3, .int .i64 pden, .sl q_pp n_pp 1 F_pp, .int .i64 den, .int .i64 each, .int .i64 x0, .int .i64 x1, .int .i64 x2, .int .i64 x3, .int .i64 y0, .int .i64 y1, .int .i64 y2, .int .i64 y3, .sl q_ps n_ps 1 F_ps]] [.c (.sl q_l (eC.list n_l F_l).length 7 (eC.F (eC.list n_l F_l))), .agg [.int .i64 sv, .int .i64 l0, .int .i64 h0, .int .i64 l1, .int .i64 h1, .int .i64 l2, .int .i64 h2, .int .i64 l3, .int .i64 h3, .int .i64 pden, .sl q_pp (eI.list n_pp F_pp).length 1 (eI.F (eI.list n_pp F_pp)), .int .i64 den, .int .i64 each, .int .i64 x0, .int .i64 x1, .int .i64 x2, .int .i64 x3, .int .i64 y0, .int .i64 y1, .int .i64 y2, .int .i64 y3, .sl q_ps (eI.list n_ps F_ps).length 1 (eI.F (eI.list n_ps F_ps))]] := ⟨eC.to id hI_l, ⟨rfl, rfl, rfl, rfl, rfl, rfl, rfl, rfl, rfl, rfl, eI.to id hI_pp, rfl, rfl, rfl, rfl, rfl, rfl, rfl, rfl, rfl, rfl, eI.to id hI_ps, trivial⟩, trivial⟩
      have len_l : (eC.list n_l F_l).length = n_l := eC.list_len
      have len_pp : (eI.list n_pp F_pp).length = n_pp := eI.list_len
      have len_ps : (eI.list n_ps F_ps).length = n_ps := eI.list_len
      generalize eC.list n_l F_l = l at *
      generalize eI.list n_pp F_pp = pp at *
      generalize eI.list n_ps F_ps = ps at *
      subst len_l len_pp len_ps
      exact fokX_fin mixed gw_stable (sl := [v18, v19, v21, v51, v53, v56, v55, v57, v39]) ⟨S18, S19, S21, S51, S53, S56, S55, S57, S39, trivial⟩ Try.func15 hw hl hG hx heq rfl (t15 q_l l sv l0 h0 l1 h1 l2 h2 l3 h3 pden q_pp pp den each x0 x1 x2 x3 y0 y1 y2 y3 q_ps ps) (w15 l _ pden pp _)
    · cases hd
  · cases hd
end Go.Bl
end
