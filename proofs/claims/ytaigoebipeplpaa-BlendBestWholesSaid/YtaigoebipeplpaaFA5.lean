/- The parts of the engines, of their contracts and of the plain laws that the claim rests on: B22, B24, B25, B26, B27, B28, B29, B30, B31, B32, B33, B34, B35, B36, B37, B38, B39, B40, P5, L1, L2, L3, L4, L5, L6, L7, B41, B42, B43, B44, B45, B46, B47, B48, L8, L9, L10, B50, B54, B55, L11, B56, B57, B58, B59, B60, B61. -/
import Derived.Test.YtaigoebipeplpaaFA4
set_option linter.unusedVariables false
set_option linter.unusedSimpArgs false
section
set_option linter.unusedVariables false
set_option linter.unusedSimpArgs false
set_option maxRecDepth 100000
namespace Go.Bl
open Go.V Go.Proofs
namespace M
def rgErr (r : Rg) : Int := first [unl (within r.lo 0 1000 && within r.hi 0 1000) 2, unl (decide (r.lo ≤ r.hi)) 9]
def checkSample (s : Sample) : Int := cond (within s.vol 1 10000) (first [rgErr s.r0, rgErr s.r1, rgErr s.r2, rgErr s.r3]) 2
def wholeErr (l : List Cask) : Int := (checkCasks l).2
def casksErr (l : List Cask) : Int := first [(checkCasks l).2, unl (decide ((l.length : Int) ≤ 4)) 8]
def taskErr (l : List Cask) (s : Sample) : Int := first [casksErr l, checkSample s]
def volumes (l : List Cask) : Int := (List.range l.length).foldl (fun a i => IntKind.i64.wrap (a + (l.getD i dfC).vol)) 0
def mx (a b : Int) : Int := if b > a then b else a
def awayK (V n : Int) (r : Rg) (a : Int) : Int := mx (mx a (IntKind.i64.wrap (IntKind.i64.wrap (r.lo * V) - n))) (IntKind.i64.wrap (n - IntKind.i64.wrap (r.hi * V)))
def away (l : List Cask) (ps : List Int) (s : Sample) : Int :=
  awayK (sumP (fun _ => 1) l ps) (sumP (kOf 3) l ps) s.r3 (awayK (sumP (fun _ => 1) l ps) (sumP (kOf 2) l ps) s.r2 (awayK (sumP (fun _ => 1) l ps) (sumP (kOf 1) l ps) s.r1 (awayK (sumP (fun _ => 1) l ps) (sumP (kOf 0) l ps) s.r0 0)))
end M
theorem first_cons (x : Int) (l : List Int) : M.first (x :: l) = if x = 0 then M.first l else x := by
  by_cases h : x = 0
  · rw [if_pos h, h]; rfl
  · rw [if_neg h]
    have : (x != 0) = true := bne_iff_ne.2 h
    simp only [M.first, this, cond_true]
def pieceB {α : Type} (lo hi : Int) (bad : Int → α) (rest : T α) : T α :=
  .br (M.within lo 0 1000) (.need (M.within lo 0 1000 = true) (.br (M.first [M.unl (M.within hi 0 1000) 2, M.unl (decide (lo ≤ hi)) 9] != 0) (.ret (bad (M.first [M.unl (M.within hi 0 1000) 2, M.unl (decide (lo ≤ hi)) 9]))) rest))
    (.need (M.within lo 0 1000 = false) (.br (M.first [2, M.unl (decide (lo ≤ hi)) 9] != 0) (.ret (bad (M.first [2, M.unl (decide (lo ≤ hi)) 9]))) rest))
def pieceR {α : Type} (lo hi : Int) (bad : Int → α) (rest : T α) : T α :=
  .br (!M.within lo 0 1000) (.ret (bad 2)) (.br (!M.within hi 0 1000) (.ret (bad 2)) (.br (decide (lo > hi)) (.ret (bad 9)) rest))
theorem pieceB_wp {α : Type} {lo hi : Int} {bad : Int → α} {rest : T α} {Q : α → Prop} (h1 : M.rgErr ⟨lo, hi⟩ ≠ 0 → Q (bad (M.rgErr ⟨lo, hi⟩))) (h2 : M.rgErr ⟨lo, hi⟩ = 0 → rest.wp Q) : (pieceB lo hi bad rest).wp Q := by
  have fin : ∀ e : Int, M.rgErr ⟨lo, hi⟩ = e → (T.br (e != 0) (.ret (bad e)) rest : T α).wp Q := by
    intro e he
    refine wp_br (fun h => ?_) (fun h => ?_)
    · rw [← he] at h ⊢; exact h1 (bne_iff_ne.1 h)
    · rw [← he] at h; exact h2 (by simpa using h)
  refine wp_br (fun h => ⟨h, fin _ ?_⟩) (fun h => ⟨h, fin _ ?_⟩)
  · unfold M.rgErr; rw [h]; rfl
  · unfold M.rgErr; rw [h]; rfl
theorem pieceR_wp {α : Type} {lo hi : Int} {bad : Int → α} {rest : T α} {Q : α → Prop} (h1 : M.rgErr ⟨lo, hi⟩ ≠ 0 → Q (bad (M.rgErr ⟨lo, hi⟩))) (h2 : M.rgErr ⟨lo, hi⟩ = 0 → rest.wp Q) : (pieceR lo hi bad rest).wp Q := by
  have fin : ∀ e : Int, M.rgErr ⟨lo, hi⟩ = e → e ≠ 0 → Q (bad e) := fun e he hn => by subst he; exact h1 hn
  refine wp_br (fun a => ?_) (fun a => wp_br (fun b => ?_) (fun b => wp_br (fun c => ?_) (fun c => ?_)))
  · have a : M.within lo 0 1000 = false := by simpa using a
    exact fin 2 (by unfold M.rgErr; rw [a]; rfl) (by decide)
  · have a : M.within lo 0 1000 = true := by simpa using a
    have b : M.within hi 0 1000 = false := by simpa using b
    exact fin 2 (by unfold M.rgErr; rw [a, b]; rfl) (by decide)
  · have a : M.within lo 0 1000 = true := by simpa using a
    have b : M.within hi 0 1000 = true := by simpa using b
    have c : decide (lo ≤ hi) = false := decide_eq_false (by have := of_decide_eq_true c; omega)
    exact fin 9 (by unfold M.rgErr; rw [a, b, c]; rfl) (by decide)
  · have a : M.within lo 0 1000 = true := by simpa using a
    have b : M.within hi 0 1000 = true := by simpa using b
    have c : decide (lo ≤ hi) = true := decide_eq_true (by have := of_decide_eq_false c; omega)
    exact h2 (by unfold M.rgErr; rw [a, b, c]; rfl)
def tr49 (sv l0 h0 l1 h1 l2 h2 l3 h3 : Int) : T (List Ar) :=
  .br (!M.within sv 1 10000) (.ret [rI 2]) (pieceB l0 h0 (fun e => [rI e]) (pieceB l1 h1 (fun e => [rI e]) (pieceB l2 h2 (fun e => [rI e]) (pieceB l3 h3 (fun e => [rI e]) (.ret [rI 0])))))
theorem t49 (sv l0 h0 l1 h1 l2 h2 l3 h3 : Int) : runFnX Try.prog G0 (lookS [v64, v80, v95, v102]) (fun _ => [(1000013, [], none), (3000012, [], none), (3000035, [], none)]) [] 1 40 3 49 Try.f49 [.agg [dI sv, dI l0, dI h0, dI l1, dI h1, dI l2, dI h2, dI l3, dI h3]] =
    tr49 sv l0 h0 l1 h1 l2 h2 l3 h3 := by kernel_rfl
theorem w49 (sv l0 h0 l1 h1 l2 h2 l3 h3 : Int) : (tr49 sv l0 h0 l1 h1 l2 h2 l3 h3).wp (fun rs => rsEqv rs [rI (M.checkSample ⟨sv, ⟨l0, h0⟩, ⟨l1, h1⟩, ⟨l2, h2⟩, ⟨l3, h3⟩⟩)]) := by
  have fin : ∀ e : Int, M.checkSample ⟨sv, ⟨l0, h0⟩, ⟨l1, h1⟩, ⟨l2, h2⟩, ⟨l3, h3⟩⟩ = e → rsEqv [rI e] [rI (M.checkSample ⟨sv, ⟨l0, h0⟩, ⟨l1, h1⟩, ⟨l2, h2⟩, ⟨l3, h3⟩⟩)] := fun e he => by rw [he]; exact rsEqv_refl _
  refine wp_br (fun a => ?_) (fun a => ?_)
  · have a : M.within sv 1 10000 = false := by simpa using a
    exact fin 2 (by unfold M.checkSample; rw [a]; rfl)
  · have a : M.within sv 1 10000 = true := by simpa using a
    refine pieceB_wp (fun h => fin _ ?_) (fun b0 => pieceB_wp (fun h => fin _ ?_) (fun b1 => pieceB_wp (fun h => fin _ ?_) (fun b2 => pieceB_wp (fun h => fin _ ?_) (fun b3 => fin _ ?_))))
    all_goals (unfold M.checkSample; simp only [a, cond_true, first_cons])
    · rw [if_neg h]
    · rw [b0, if_pos rfl, if_neg h]
    · rw [b0, b1, if_pos rfl, if_pos rfl, if_neg h]
    · rw [b0, b1, b2, if_pos rfl, if_pos rfl, if_pos rfl, if_neg h]
    · rw [b0, b1, b2, b3, if_pos rfl, if_pos rfl, if_pos rfl, if_pos rfl]; rfl
def dom49 : DomF
  | [.agg [.int .i64 sv, .int .i64 l0, .int .i64 h0, .int .i64 l1, .int .i64 h1, .int .i64 l2, .int .i64 h2, .int .i64 l3, .int .i64 h3]] => some ([], [rI (M.checkSample ⟨sv, ⟨l0, h0⟩, ⟨l1, h1⟩, ⟨l2, h2⟩, ⟨l3, h3⟩⟩)])
  | _ => none
def v49 : Nat × Sm := (49, fokSm dom49)
theorem C49 : FOK Try.prog G0 gw 49 dom49 := by
  intro ags p r hd hp κ w xs hw hl hG hx
  unfold dom49 at hd
  split at hd
  · rename_i sv l0 h0 l1 h1 l2 h2 l3 h3
    simp only [Option.some.injEq, Prod.mk.injEq] at hd
    obtain ⟨rfl, rfl⟩ := hd
    have heq : agsEqv [.agg [.int .i64 sv, .int .i64 l0, .int .i64 h0, .int .i64 l1, .int .i64 h1, .int .i64 l2, .int .i64 h2, .int .i64 l3, .int .i64 h3]] [.agg [.int .i64 sv, .int .i64 l0, .int .i64 h0, .int .i64 l1, .int .i64 h1, .int .i64 l2, .int .i64 h2, .int .i64 l3, .int .i64 h3]] := ⟨Ag.eqv_refl _, trivial⟩
    exact fokX_fin mixed gw_stable (sl := [v64, v80, v95, v102]) ⟨S64, S80, S95, S102, trivial⟩ Try.func49 hw hl hG hx heq rfl (t49 sv l0 h0 l1 h1 l2 h2 l3 h3) (w49 sv l0 h0 l1 h1 l2 h2 l3 h3)
  · cases hd
theorem S49 : SumOK Try.prog G0 gw 49 (fokSm dom49) := fok_sum Try.func49 rfl C49
def tr32 (sv l0 h0 l1 h1 l2 h2 l3 h3 : Int) : T (List Ar) :=
  .br (!M.within sv 1 10000) (.ret [rI 2]) (pieceR l0 h0 (fun e => [rI e]) (pieceR l1 h1 (fun e => [rI e]) (pieceR l2 h2 (fun e => [rI e]) (pieceR l3 h3 (fun e => [rI e]) (.ret [rI 0])))))
theorem t32 (sv l0 h0 l1 h1 l2 h2 l3 h3 : Int) : runFnX Try.prog G0 (lookS [v35]) (fun _ => [(1000010, [], none), (3000012, [], none)]) [] 1 40 3 32 Try.f32 [.agg [dI sv, dI l0, dI h0, dI l1, dI h1, dI l2, dI h2, dI l3, dI h3]] =
    tr32 sv l0 h0 l1 h1 l2 h2 l3 h3 := by kernel_rfl
theorem w32 (sv l0 h0 l1 h1 l2 h2 l3 h3 : Int) : (tr32 sv l0 h0 l1 h1 l2 h2 l3 h3).wp (fun rs => rsEqv rs [rI (M.checkSample ⟨sv, ⟨l0, h0⟩, ⟨l1, h1⟩, ⟨l2, h2⟩, ⟨l3, h3⟩⟩)]) := by
  have fin : ∀ e : Int, M.checkSample ⟨sv, ⟨l0, h0⟩, ⟨l1, h1⟩, ⟨l2, h2⟩, ⟨l3, h3⟩⟩ = e → rsEqv [rI e] [rI (M.checkSample ⟨sv, ⟨l0, h0⟩, ⟨l1, h1⟩, ⟨l2, h2⟩, ⟨l3, h3⟩⟩)] := fun e he => by rw [he]; exact rsEqv_refl _
  refine wp_br (fun a => ?_) (fun a => ?_)
  · have a : M.within sv 1 10000 = false := by simpa using a
    exact fin 2 (by unfold M.checkSample; rw [a]; rfl)
  · have a : M.within sv 1 10000 = true := by simpa using a
    refine pieceR_wp (fun h => fin _ ?_) (fun b0 => pieceR_wp (fun h => fin _ ?_) (fun b1 => pieceR_wp (fun h => fin _ ?_) (fun b2 => pieceR_wp (fun h => fin _ ?_) (fun b3 => fin _ ?_))))
    all_goals (unfold M.checkSample; simp only [a, cond_true, first_cons])
    · rw [if_neg h]
    · rw [b0, if_pos rfl, if_neg h]
    · rw [b0, b1, if_pos rfl, if_pos rfl, if_neg h]
    · rw [b0, b1, b2, if_pos rfl, if_pos rfl, if_pos rfl, if_neg h]
    · rw [b0, b1, b2, b3, if_pos rfl, if_pos rfl, if_pos rfl, if_pos rfl]; rfl
def dom32 : DomF
  | [.agg [.int .i64 sv, .int .i64 l0, .int .i64 h0, .int .i64 l1, .int .i64 h1, .int .i64 l2, .int .i64 h2, .int .i64 l3, .int .i64 h3]] => some ([], [rI (M.checkSample ⟨sv, ⟨l0, h0⟩, ⟨l1, h1⟩, ⟨l2, h2⟩, ⟨l3, h3⟩⟩)])
  | _ => none
def v32 : Nat × Sm := (32, fokSm dom32)
theorem C32 : FOK Try.prog G0 gw 32 dom32 := by
  intro ags p r hd hp κ w xs hw hl hG hx
  unfold dom32 at hd
  split at hd
  · rename_i sv l0 h0 l1 h1 l2 h2 l3 h3
    simp only [Option.some.injEq, Prod.mk.injEq] at hd
    obtain ⟨rfl, rfl⟩ := hd
    have heq : agsEqv [.agg [.int .i64 sv, .int .i64 l0, .int .i64 h0, .int .i64 l1, .int .i64 h1, .int .i64 l2, .int .i64 h2, .int .i64 l3, .int .i64 h3]] [.agg [.int .i64 sv, .int .i64 l0, .int .i64 h0, .int .i64 l1, .int .i64 h1, .int .i64 l2, .int .i64 h2, .int .i64 l3, .int .i64 h3]] := ⟨Ag.eqv_refl _, trivial⟩
    exact fokX_fin mixed gw_stable (sl := [v35]) ⟨S35, trivial⟩ Try.func32 hw hl hG hx heq rfl (t32 sv l0 h0 l1 h1 l2 h2 l3 h3) (w32 sv l0 h0 l1 h1 l2 h2 l3 h3)
  · cases hd
theorem S32 : SumOK Try.prog G0 gw 32 (fokSm dom32) := fok_sum Try.func32 rfl C32
theorem t65 (q_l : Bool) (l : List Cask) : runFnX Try.prog G0 (lookS [v64, v80, v47]) (fun _ => []) [] 1 40 3 65 Try.f65 [.c (.sl q_l l.length 7 (eC.F l))] =
    T.need (eC.Is l.length (eC.F l)) (T.need (∀ c, c ∈ eC.list l.length (eC.F l) → c.nm.size ≤ 1000000) (T.ret [rI (M.first [(M.checkCasks (eC.list l.length (eC.F l))).2, M.unl (decide ((l.length : Int) ≤ 4)) 8])])) := by kernel_rfl
def dom65 : DomF
  | [.c (.sl _ n_l st_l F_l)] => (match Nat.beq st_l 7 with
    | true => some ([eC.Is n_l F_l, ∀ c, c ∈ (eC.list n_l F_l) → c.nm.size ≤ 1000000], [rI (M.casksErr (eC.list n_l F_l))])
    | _ => none)
  | _ => none
def v65 : Nat × Sm := (65, fokSm dom65)
theorem C65 : FOK Try.prog G0 gw 65 dom65 := by
  intro ags p r hd hp κ w xs hw hl hG hx
  unfold dom65 at hd
  split at hd
  · rename_i q_l n_l st_l F_l
    split at hd
    · rename_i hst
      have g1 := hst
      have g1 := Nat.eq_of_beq_eq_true g1
      subst g1
      simp only [Option.some.injEq, Prod.mk.injEq] at hd
      obtain ⟨rfl, rfl⟩ := hd
      obtain ⟨hI_l, hp⟩ := hp
      have heq : agsEqv [.c (.sl q_l n_l 7 F_l)] [.c (.sl q_l (eC.list n_l F_l).length 7 (eC.F (eC.list n_l F_l)))] := ⟨eC.to id hI_l, trivial⟩
      have len_l : (eC.list n_l F_l).length = n_l := eC.list_len
      generalize eC.list n_l F_l = l at *
      subst len_l
      exact fokX_fin mixed gw_stable (sl := [v64, v80, v47]) ⟨S64, S80, S47, trivial⟩ Try.func65 hw hl hG hx heq rfl (t65 q_l l) ((by rw [Enc.list_F]; exact ⟨Enc.is_F _ _ _, hp.1, rsEqv_refl _⟩))
    · cases hd
  · cases hd
theorem S65 : SumOK Try.prog G0 gw 65 (fokSm dom65) := fok_sum Try.func65 rfl C65
theorem t31 (q_l : Bool) (l : List Cask) : runFnX Try.prog G0 (lookS [v48]) (fun _ => []) [] 1 40 3 31 Try.f31 [.c (.sl q_l l.length 7 (eC.F l))] =
    T.need (eC.Is l.length (eC.F l)) (T.need (∀ c, c ∈ eC.list l.length (eC.F l) → c.nm.size ≤ 1000000) (T.ret [rI (M.checkCasks (eC.list l.length (eC.F l))).2])) := by kernel_rfl
def dom31 : DomF
  | [.c (.sl _ n_l st_l F_l)] => (match Nat.beq st_l 7 with
    | true => some ([eC.Is n_l F_l, ∀ c, c ∈ (eC.list n_l F_l) → c.nm.size ≤ 1000000], [rI (M.wholeErr (eC.list n_l F_l))])
    | _ => none)
  | _ => none
def v31 : Nat × Sm := (31, fokSm dom31)
theorem C31 : FOK Try.prog G0 gw 31 dom31 := by
  intro ags p r hd hp κ w xs hw hl hG hx
  unfold dom31 at hd
  split at hd
  · rename_i q_l n_l st_l F_l
    split at hd
    · rename_i hst
      have g1 := hst
      have g1 := Nat.eq_of_beq_eq_true g1
      subst g1
      simp only [Option.some.injEq, Prod.mk.injEq] at hd
      obtain ⟨rfl, rfl⟩ := hd
      obtain ⟨hI_l, hp⟩ := hp
      have heq : agsEqv [.c (.sl q_l n_l 7 F_l)] [.c (.sl q_l (eC.list n_l F_l).length 7 (eC.F (eC.list n_l F_l)))] := ⟨eC.to id hI_l, trivial⟩
      have len_l : (eC.list n_l F_l).length = n_l := eC.list_len
      generalize eC.list n_l F_l = l at *
      subst len_l
      exact fokX_fin mixed gw_stable (sl := [v48]) ⟨S48, trivial⟩ Try.func31 hw hl hG hx heq rfl (t31 q_l l) ((by rw [Enc.list_F]; exact ⟨Enc.is_F _ _ _, hp.1, rsEqv_refl _⟩))
    · cases hd
  · cases hd
theorem S31 : SumOK Try.prog G0 gw 31 (fokSm dom31) := fok_sum Try.func31 rfl C31
theorem t81 (q_l : Bool) (l : List Cask) (sv l0 h0 l1 h1 l2 h2 l3 h3 : Int) : runFnX Try.prog G0 (lookS []) (fun _ => [(3, [.slot 10 (.int .i64), .slot 5 (.int .i64)], none)]) [] 1 40 3 81 Try.f81 [.c (.sl q_l l.length 7 (eC.F l)), .agg [dI sv, dI l0, dI h0, dI l1, dI h1, dI l2, dI h2, dI l3, dI h3]] =
    T.loop (Int × Int × PUnit) (0, 0, PUnit.unit) fun x => T.br (decide (x.1 < (l.length : Int))) (T.need (0 ≤ x.1) (T.need (x.1 < (l.length : Int)) (T.ret (.inl (IntKind.i64.wrap (x.1 + 1), IntKind.i64.wrap (x.2.1 + (l.getD x.1.toNat dfC).vol), PUnit.unit))))) (T.ret (.inr [rB (decide (x.2.1 ≥ sv))])) := by kernel_rfl
theorem w81 (l : List Cask) (sv : Int) (hl : l.length ≤ 1000000) : (T.loop (Int × Int × PUnit) (0, 0, PUnit.unit) fun x => T.br (decide (x.1 < (l.length : Int))) (T.need (0 ≤ x.1) (T.need (x.1 < (l.length : Int)) (T.ret (.inl (IntKind.i64.wrap (x.1 + 1), IntKind.i64.wrap (x.2.1 + (l.getD x.1.toNat dfC).vol), PUnit.unit))))) (T.ret (.inr [rB (decide (x.2.1 ≥ sv))])) : T (List Ar)).wp (fun rs => rsEqv rs [rB (decide (M.volumes l ≥ sv))]) := by
  refine range_wp (n := l.length) (fun k s => s.1 = (List.range k).foldl (fun a i => IntKind.i64.wrap (a + (l.getD i dfC).vol)) 0) rfl ?_
  rintro k ⟨a, u⟩ hk hI
  simp only at hI
  refine ⟨fun hb => ?_, fun hb => ?_⟩
  · have hlt := lt_of_dec hb
    refine ⟨by show (0 : Int) ≤ k; omega, by show (k : Int) < l.length; omega, hlt, wrap_succ (by omega), ?_⟩
    rw [foldl_succ, ← hI]
    rfl
  · have hge := ge_of_dec hb
    obtain rfl : k = l.length := by omega
    have e : a = M.volumes l := hI
    subst e
    exact rsEqv_refl _
def dom81 : DomF
  | [.c (.sl _ n_l st_l F_l), .agg [.int .i64 sv, .int .i64 l0, .int .i64 h0, .int .i64 l1, .int .i64 h1, .int .i64 l2, .int .i64 h2, .int .i64 l3, .int .i64 h3]] => (match Nat.beq st_l 7 with
    | true => some ([eC.Is n_l F_l, (eC.list n_l F_l).length ≤ 1000000], [rB (decide (M.volumes (eC.list n_l F_l) ≥ sv))])
    | _ => none)
  | _ => none
def v81 : Nat × Sm := (81, fokSm dom81)
theorem C81 : FOK Try.prog G0 gw 81 dom81 := by
  intro ags p r hd hp κ w xs hw hl hG hx
  unfold dom81 at hd
  split at hd
  · rename_i q_l n_l st_l F_l sv l0 h0 l1 h1 l2 h2 l3 h3
    split at hd
    · rename_i hst
      have g1 := hst
      have g1 := Nat.eq_of_beq_eq_true g1
      subst g1
      simp only [Option.some.injEq, Prod.mk.injEq] at hd
      obtain ⟨rfl, rfl⟩ := hd
      obtain ⟨hI_l, hp⟩ := hp
      have heq : agsEqv [.c (.sl q_l n_l 7 F_l), .agg [.int .i64 sv, .int .i64 l0, .int .i64 h0, .int .i64 l1, .int .i64 h1, .int .i64 l2, .int .i64 h2, .int .i64 l3, .int .i64 h3]] [.c (.sl q_l (eC.list n_l F_l).length 7 (eC.F (eC.list n_l F_l))), .agg [.int .i64 sv, .int .i64 l0, .int .i64 h0, .int .i64 l1, .int .i64 h1, .int .i64 l2, .int .i64 h2, .int .i64 l3, .int .i64 h3]] := ⟨eC.to id hI_l, Ag.eqv_refl _, trivial⟩
      have len_l : (eC.list n_l F_l).length = n_l := eC.list_len
      generalize eC.list n_l F_l = l at *
      subst len_l
      exact fokX_fin mixed gw_stable (sl := []) trivial Try.func81 hw hl hG hx heq rfl (t81 q_l l sv l0 h0 l1 h1 l2 h2 l3 h3) (w81 l sv hp.1)
    · cases hd
  · cases hd
theorem S81 : SumOK Try.prog G0 gw 81 (fokSm dom81) := fok_sum Try.func81 rfl C81
theorem t84 (q_l : Bool) (l : List Cask) (den : Int) (q_ps : Bool) (ps : List Int) (sv l0 h0 l1 h1 l2 h2 l3 h3 : Int) : runFnX Try.prog G0 (lookS [v85, v97]) (fun _ => [(1000015, [], none), (3000014, [], none), (3000035, [], none), (3000019, [], none)]) [] 1 40 3 84 Try.f84 [.agg [.sl q_l l.length 7 (eC.F l), dI den, .sl q_ps ps.length 1 (eI.F ps)], .agg [dI sv, dI l0, dI h0, dI l1, dI h1, dI l2, dI h2, dI l3, dI h3]] =
    T.need (eC.Is l.length (eC.F l)) (T.need (eI.Is ps.length (eI.F ps)) (T.need (ps.length ≤ l.length) (T.need (ps.length ≤ 1000) (T.need (eC.Is l.length (eC.F l)) (T.need (eI.Is ps.length (eI.F ps)) (T.need (ps.length ≤ l.length) (T.need (ps.length ≤ 1000) (T.need (eC.Is l.length (eC.F l)) (T.need (eI.Is ps.length (eI.F ps)) (T.need (ps.length ≤ l.length) (T.need (ps.length ≤ 1000) (T.need (eC.Is l.length (eC.F l)) (T.need (eI.Is ps.length (eI.F ps)) (T.need (ps.length ≤ l.length) (T.need (ps.length ≤ 1000) (T.need (eC.Is l.length (eC.F l)) (T.need (eI.Is ps.length (eI.F ps)) (T.need (ps.length ≤ l.length) (T.need (ps.length ≤ 1000) (T.ret [rI (M.away (eC.list l.length (eC.F l)) (eI.list ps.length (eI.F ps)) ⟨sv, ⟨l0, h0⟩, ⟨l1, h1⟩, ⟨l2, h2⟩, ⟨l3, h3⟩⟩)])))))))))))))))))))) := by kernel_rfl
def dom84 : DomF
  | [.agg [.sl _ n_l st_l F_l, .int .i64 den, .sl _ n_ps st_ps F_ps], .agg [.int .i64 sv, .int .i64 l0, .int .i64 h0, .int .i64 l1, .int .i64 h1, .int .i64 l2, .int .i64 h2, .int .i64 l3, .int .i64 h3]] => (match Nat.beq st_l 7 && Nat.beq st_ps 1 with
    | true => some ([eC.Is n_l F_l, eI.Is n_ps F_ps, (eI.list n_ps F_ps).length ≤ (eC.list n_l F_l).length, (eI.list n_ps F_ps).length ≤ 1000], [rI (M.away (eC.list n_l F_l) (eI.list n_ps F_ps) ⟨sv, ⟨l0, h0⟩, ⟨l1, h1⟩, ⟨l2, h2⟩, ⟨l3, h3⟩⟩)])
    | _ => none)
  | _ => none
def v84 : Nat × Sm := (84, fokSm dom84)
theorem C84 : FOK Try.prog G0 gw 84 dom84 := by
  intro ags p r hd hp κ w xs hw hl hG hx
  unfold dom84 at hd
  split at hd
  · rename_i q_l n_l st_l F_l den q_ps n_ps st_ps F_ps sv l0 h0 l1 h1 l2 h2 l3 h3
    split at hd
    · rename_i hst
      simp only [Bool.and_eq_true] at hst
      obtain ⟨g1, g2⟩ := hst
      have g1 := Nat.eq_of_beq_eq_true g1
      have g2 := Nat.eq_of_beq_eq_true g2
      subst g1 g2
      simp only [Option.some.injEq, Prod.mk.injEq] at hd
      obtain ⟨rfl, rfl⟩ := hd
      obtain ⟨hI_l, hI_ps, hp⟩ := hp
      have heq : agsEqv [.agg [.sl q_l n_l 7 F_l, .int .i64 den, .sl q_ps n_ps 1 F_ps], .agg [.int .i64 sv, .int .i64 l0, .int .i64 h0, .int .i64 l1, .int .i64 h1, .int .i64 l2, .int .i64 h2, .int .i64 l3, .int .i64 h3]] [.agg [.sl q_l (eC.list n_l F_l).length 7 (eC.F (eC.list n_l F_l)), .int .i64 den, .sl q_ps (eI.list n_ps F_ps).length 1 (eI.F (eI.list n_ps F_ps))], .agg [.int .i64 sv, .int .i64 l0, .int .i64 h0, .int .i64 l1, .int .i64 h1, .int .i64 l2, .int .i64 h2, .int .i64 l3, .int .i64 h3]] := ⟨⟨eC.to id hI_l, rfl, eI.to id hI_ps, trivial⟩, Ag.eqv_refl _, trivial⟩
      have len_l : (eC.list n_l F_l).length = n_l := eC.list_len
      have len_ps : (eI.list n_ps F_ps).length = n_ps := eI.list_len
      generalize eC.list n_l F_l = l at *
      generalize eI.list n_ps F_ps = ps at *
      subst len_l len_ps
      have c1 := Enc.is_F eC l l.length
      have c2 := Enc.is_F eI ps ps.length
      obtain ⟨c3, c4, _⟩ := hp
      exact fokX_fin mixed gw_stable (sl := [v85, v97]) ⟨S85, S97, trivial⟩ Try.func84 hw hl hG hx heq rfl (t84 q_l l den q_ps ps sv l0 h0 l1 h1 l2 h2 l3 h3) ((by rw [Enc.list_F, Enc.list_F]; exact ⟨c1, c2, c3, c4, c1, c2, c3, c4, c1, c2, c3, c4, c1, c2, c3, c4, c1, c2, c3, c4, rsEqv_refl _⟩))
    · cases hd
  · cases hd
theorem S84 : SumOK Try.prog G0 gw 84 (fokSm dom84) := fok_sum Try.func84 rfl C84
end Go.Bl
end

section
set_option linter.unusedVariables false
set_option linter.unusedSimpArgs false
set_option maxRecDepth 100000
namespace Go.Bl
open Go.V Go.Proofs
structure BestR where
  c0 : Int
  c1 : Int
  den : Int
  pt : List Int
  w : Wts
  e : Int
namespace M
def zeroW : Wts := ⟨0, 0, 0, 0, 0, 0, 0, 0, 0, 0, []⟩
def pBest (l : List Cask) (s : Sample) : Option Corner := psolve (shares l 0) s.vol (costs l) (limits l s 0)
def wtsOf (x : Corner) (n : Nat) : Wts := weights x.wd x.each x.tight x.by_ n
def bestC (l : List Cask) (x : Corner) : BestR := ⟨told1 (sumP Cask.cost l x.pt) x.den, told2 (sumP Cask.cost l x.pt) x.den, x.den, x.pt, wtsOf x l.length, 0⟩
def best (l : List Cask) (s : Sample) : BestR :=
  cond (taskErr l s != 0) ⟨0, 0, 0, [], zeroW, taskErr l s⟩ (match pBest l s with | some x => bestC l x | none => ⟨0, 0, 0, [], zeroW, 12⟩)
end M
def resB (b : BestR) : List Ar := [.agg [dI b.c0, dI b.c1, dI b.den, dL b.pt, dI b.w.den, dI b.w.each, dI b.w.x0, dI b.w.x1, dI b.w.x2, dI b.w.x3, dI b.w.y0, dI b.w.y1, dI b.w.y2, dI b.w.y3, dL b.w.casks], rI b.e]
def CornerOK (l : List Cask) (n : Nat) (x : M.Corner) : Prop :=
  x.pt.length ≤ n ∧ x.den ≠ 0 ∧ i64ok x.den ∧ x.tight.length ≤ x.by_.length ∧ x.tight.length ≤ 1000 ∧ WhichOK l.length x.tight
def BestOK (l : List Cask) (s : Sample) : Prop := M.taskErr l s = 0 → 1 ≤ l.length ∧ l.length ≤ 4 ∧ (∀ c, c ∈ M.limits l s 0 → c.coefs.length = (M.shares l 0).length) ∧ TurnOK (M.shares l 0) (M.limits l s 0) ∧
  ∀ x, M.pBest l s = some x → CornerOK l l.length x ∧ i64ok (M.sumP Cask.cost l x.pt)
theorem shares_len (l : List Cask) (k : Nat) : (M.shares l k).length = l.length + k := by simp [M.shares]
theorem costs_len (l : List Cask) : (M.costs l).length = l.length := by simp [M.costs]
theorem far_len (l : List Cask) : (M.far l).length = l.length + 1 := by simp [M.far]
theorem limits_len (l : List Cask) (s : Sample) (k : Nat) : (M.limits l s k).length = 2 * l.length + k + 8 := by
  simp only [M.limits, List.length_append, List.length_map, List.length_range]
  have : ((List.range 4).flatMap fun (k' : Nat) => [(⟨2, k', M.by_ l (l.length + k) fun c => IntKind.i64.wrap (M.val c k' - (M.rg s k').hi), 0⟩ : Cond), ⟨3, k', M.by_ l (l.length + k) fun c => IntKind.i64.wrap ((M.rg s k').lo - M.val c k'), 0⟩]).length = 8 := rfl
  rw [this]; omega
def P20 (LL : List Cask) (SS : Sample) : Option M.Corner := (M.psolve (Enc.list eI (List.length (M.shares LL (0 : Nat))) (Enc.F eI (M.shares LL (0 : Nat)))) (Sample.vol SS) (Enc.list eI (List.length (M.costs LL)) (Enc.F eI (M.costs LL))) (Enc.list eK (List.length (M.limits LL SS (0 : Nat))) (Enc.F eK (M.limits LL SS (0 : Nat)))))
def tr20 (l : List Cask) (s : Sample) : T (List Ar) :=
    T.need (Enc.Is eC (List.length l) (Enc.F eC l)) (T.need (∀ (c : Cask), c ∈ (Enc.list eC (List.length l) (Enc.F eC l)) → ByteArray.size (Cask.nm c) ≤ (1000000 : Nat)) (T.br (M.first [M.casksErr (Enc.list eC (List.length l) (Enc.F eC l)), M.checkSample s] != (0 : Int)) (T.ret [Ar.agg [D.int IntKind.i64 (0 : Int), D.int IntKind.i64 (0 : Int), D.int IntKind.i64 (0 : Int), D.sl false (0 : Nat) (0 : Nat) fun (x x_1 : Nat) => D.nilp, D.int IntKind.i64 (0 : Int), D.int IntKind.i64 (0 : Int), D.int IntKind.i64 (0 : Int), D.int IntKind.i64 (0 : Int), D.int IntKind.i64 (0 : Int), D.int IntKind.i64 (0 : Int), D.int IntKind.i64 (0 : Int), D.int IntKind.i64 (0 : Int), D.int IntKind.i64 (0 : Int), D.int IntKind.i64 (0 : Int), D.sl false (0 : Nat) (0 : Nat) fun (x x_1 : Nat) => D.nilp], Ar.c (D.int IntKind.i64 (M.first [M.casksErr (Enc.list eC (List.length l) (Enc.F eC l)), M.checkSample s]))]) (T.need (Enc.Is eC (List.length l) (Enc.F eC l)) (T.need ((1 : Nat) ≤ List.length l) (T.need (List.length l ≤ (4 : Nat)) (T.need (Enc.Is eI (List.length (M.shares (Enc.list eC (List.length l) (Enc.F eC l)) (0 : Nat))) (Enc.F eI (M.shares (Enc.list eC (List.length l) (Enc.F eC l)) (0 : Nat)))) (T.need (Enc.Is eI (List.length (M.costs (Enc.list eC (List.length l) (Enc.F eC l)))) (Enc.F eI (M.costs (Enc.list eC (List.length l) (Enc.F eC l))))) (T.need (Enc.Is eK (List.length (M.limits (Enc.list eC (List.length l) (Enc.F eC l)) s (0 : Nat))) (Enc.F eK (M.limits (Enc.list eC (List.length l) (Enc.F eC l)) s (0 : Nat)))) (T.need ((1 : Nat) ≤ List.length (M.shares (Enc.list eC (List.length l) (Enc.F eC l)) (0 : Nat))) (T.need (List.length (M.shares (Enc.list eC (List.length l) (Enc.F eC l)) (0 : Nat)) ≤ (5 : Nat)) (T.need (List.length (M.shares (Enc.list eC (List.length l) (Enc.F eC l)) (0 : Nat)) = List.length (M.costs (Enc.list eC (List.length l) (Enc.F eC l)))) (T.need (List.length (M.limits (Enc.list eC (List.length l) (Enc.F eC l)) s (0 : Nat)) ≤ (1000 : Nat)) (T.need (∀ (c : Cond), c ∈ Enc.list eK (List.length (M.limits (Enc.list eC (List.length l) (Enc.F eC l)) s (0 : Nat))) (Enc.F eK (M.limits (Enc.list eC (List.length l) (Enc.F eC l)) s (0 : Nat))) → List.length (Cond.coefs c) = List.length (M.shares (Enc.list eC (List.length l) (Enc.F eC l)) (0 : Nat))) (T.need (∀ (set : List Cond), List.length set + (1 : Nat) = List.length (Enc.list eI (List.length (M.shares (Enc.list eC (List.length l) (Enc.F eC l)) (0 : Nat))) (Enc.F eI (M.shares (Enc.list eC (List.length l) (Enc.F eC l)) (0 : Nat)))) → (∀ (c : Cond), c ∈ set → c ∈ Enc.list eK (List.length (M.limits (Enc.list eC (List.length l) (Enc.F eC l)) s (0 : Nat))) (Enc.F eK (M.limits (Enc.list eC (List.length l) (Enc.F eC l)) s (0 : Nat)))) → M.det (M.mat (Enc.list eI (List.length (M.shares (Enc.list eC (List.length l) (Enc.F eC l)) (0 : Nat))) (Enc.F eI (M.shares (Enc.list eC (List.length l) (Enc.F eC l)) (0 : Nat)))) set) ≠ (0 : Int) → M.det (M.turned (M.mat (Enc.list eI (List.length (M.shares (Enc.list eC (List.length l) (Enc.F eC l)) (0 : Nat))) (Enc.F eI (M.shares (Enc.list eC (List.length l) (Enc.F eC l)) (0 : Nat)))) set)) ≠ (0 : Int)) (T.br (!Option.isSome (P20 (Enc.list eC (List.length l) (Enc.F eC l)) s)) (T.ret [Ar.agg [D.int IntKind.i64 (0 : Int), D.int IntKind.i64 (0 : Int), D.int IntKind.i64 (0 : Int), D.sl false (0 : Nat) (0 : Nat) fun (x x_1 : Nat) => D.nilp, D.int IntKind.i64 (0 : Int), D.int IntKind.i64 (0 : Int), D.int IntKind.i64 (0 : Int), D.int IntKind.i64 (0 : Int), D.int IntKind.i64 (0 : Int), D.int IntKind.i64 (0 : Int), D.int IntKind.i64 (0 : Int), D.int IntKind.i64 (0 : Int), D.int IntKind.i64 (0 : Int), D.int IntKind.i64 (0 : Int), D.sl false (0 : Nat) (0 : Nat) fun (x x_1 : Nat) => D.nilp], Ar.c (D.int IntKind.i64 (12 : Int))]) (T.need (Enc.Is eC (List.length l) (Enc.F eC l)) (T.need (Enc.Is eI (List.length (M.Corner.pt (cOf (P20 (Enc.list eC (List.length l) (Enc.F eC l)) s)))) (Enc.F eI (M.Corner.pt (cOf (P20 (Enc.list eC (List.length l) (Enc.F eC l)) s))))) (T.need (List.length (M.Corner.pt (cOf (P20 (Enc.list eC (List.length l) (Enc.F eC l)) s))) ≤ List.length l) (T.need (List.length (M.Corner.pt (cOf (P20 (Enc.list eC (List.length l) (Enc.F eC l)) s))) ≤ (1000 : Nat)) (T.need (M.Corner.den (cOf (P20 (Enc.list eC (List.length l) (Enc.F eC l)) s)) ≠ (0 : Int)) (T.need (Int.natAbs (M.Corner.den (cOf (P20 (Enc.list eC (List.length l) (Enc.F eC l)) s))) < (9223372036854775808 : Nat)) (T.need (Int.natAbs (M.sumP Cask.cost (Enc.list eC (List.length l) (Enc.F eC l)) (Enc.list eI (List.length (M.Corner.pt (cOf (P20 (Enc.list eC (List.length l) (Enc.F eC l)) s)))) (Enc.F eI (M.Corner.pt (cOf (P20 (Enc.list eC (List.length l) (Enc.F eC l)) s)))))) < (9223372036854775808 : Nat)) (T.need (Enc.Is eK (List.length (M.Corner.tight (cOf (P20 (Enc.list eC (List.length l) (Enc.F eC l)) s)))) (Enc.F eK (M.Corner.tight (cOf (P20 (Enc.list eC (List.length l) (Enc.F eC l)) s))))) (T.need (Enc.Is eI (List.length (M.Corner.by_ (cOf (P20 (Enc.list eC (List.length l) (Enc.F eC l)) s)))) (Enc.F eI (M.Corner.by_ (cOf (P20 (Enc.list eC (List.length l) (Enc.F eC l)) s))))) (T.need ((0 : Int) ≤ (Nat.cast (R := Int) (List.length l))) (T.need ((Nat.cast (R := Int) (List.length l)) ≤ (1000 : Int)) (T.need (List.length (M.Corner.tight (cOf (P20 (Enc.list eC (List.length l) (Enc.F eC l)) s))) ≤ List.length (M.Corner.by_ (cOf (P20 (Enc.list eC (List.length l) (Enc.F eC l)) s)))) (T.need (List.length (M.Corner.tight (cOf (P20 (Enc.list eC (List.length l) (Enc.F eC l)) s))) ≤ (1000 : Nat)) (T.need (∀ (c : Cond), c ∈ Enc.list eK (List.length (M.Corner.tight (cOf (P20 (Enc.list eC (List.length l) (Enc.F eC l)) s)))) (Enc.F eK (M.Corner.tight (cOf (P20 (Enc.list eC (List.length l) (Enc.F eC l)) s)))) → (0 : Int) ≤ Cond.which c ∧ (Cond.kind c = (1 : Int) → Cond.which c < (Nat.cast (R := Int) (List.length l))) ∧ (Cond.kind c ≠ (1 : Int) → Cond.kind c ≠ (0 : Int) → Cond.which c < (4 : Int))) (T.ret [Ar.agg [D.int IntKind.i64 (M.told1 (M.sumP (fun (self : Cask) => self.3) (Enc.list eC (List.length l) (Enc.F eC l)) (Enc.list eI (List.length (M.Corner.pt (cOf (P20 (Enc.list eC (List.length l) (Enc.F eC l)) s)))) (Enc.F eI (M.Corner.pt (cOf (P20 (Enc.list eC (List.length l) (Enc.F eC l)) s)))))) (M.Corner.den (cOf (P20 (Enc.list eC (List.length l) (Enc.F eC l)) s)))), D.int IntKind.i64 (M.told2 (M.sumP (fun (self : Cask) => self.3) (Enc.list eC (List.length l) (Enc.F eC l)) (Enc.list eI (List.length (M.Corner.pt (cOf (P20 (Enc.list eC (List.length l) (Enc.F eC l)) s)))) (Enc.F eI (M.Corner.pt (cOf (P20 (Enc.list eC (List.length l) (Enc.F eC l)) s)))))) (M.Corner.den (cOf (P20 (Enc.list eC (List.length l) (Enc.F eC l)) s)))), D.int IntKind.i64 (M.Corner.den (cOf (P20 (Enc.list eC (List.length l) (Enc.F eC l)) s))), D.sl false (List.length (M.Corner.pt (cOf (P20 (Enc.list eC (List.length l) (Enc.F eC l)) s)))) (1 : Nat) (Enc.F eI (M.Corner.pt (cOf (P20 (Enc.list eC (List.length l) (Enc.F eC l)) s)))), D.int IntKind.i64 (M.weights (M.Corner.wd (cOf (P20 (Enc.list eC (List.length l) (Enc.F eC l)) s))) (M.Corner.each (cOf (P20 (Enc.list eC (List.length l) (Enc.F eC l)) s))) (Enc.list eK (List.length (M.Corner.tight (cOf (P20 (Enc.list eC (List.length l) (Enc.F eC l)) s)))) (Enc.F eK (M.Corner.tight (cOf (P20 (Enc.list eC (List.length l) (Enc.F eC l)) s))))) (Enc.list eI (List.length (M.Corner.by_ (cOf (P20 (Enc.list eC (List.length l) (Enc.F eC l)) s)))) (Enc.F eI (M.Corner.by_ (cOf (P20 (Enc.list eC (List.length l) (Enc.F eC l)) s))))) (Int.toNat (Nat.cast (R := Int) (List.length l)))).1, D.int IntKind.i64 (M.weights (M.Corner.wd (cOf (P20 (Enc.list eC (List.length l) (Enc.F eC l)) s))) (M.Corner.each (cOf (P20 (Enc.list eC (List.length l) (Enc.F eC l)) s))) (Enc.list eK (List.length (M.Corner.tight (cOf (P20 (Enc.list eC (List.length l) (Enc.F eC l)) s)))) (Enc.F eK (M.Corner.tight (cOf (P20 (Enc.list eC (List.length l) (Enc.F eC l)) s))))) (Enc.list eI (List.length (M.Corner.by_ (cOf (P20 (Enc.list eC (List.length l) (Enc.F eC l)) s)))) (Enc.F eI (M.Corner.by_ (cOf (P20 (Enc.list eC (List.length l) (Enc.F eC l)) s))))) (Int.toNat (Nat.cast (R := Int) (List.length l)))).2, D.int IntKind.i64 (M.weights (M.Corner.wd (cOf (P20 (Enc.list eC (List.length l) (Enc.F eC l)) s))) (M.Corner.each (cOf (P20 (Enc.list eC (List.length l) (Enc.F eC l)) s))) (Enc.list eK (List.length (M.Corner.tight (cOf (P20 (Enc.list eC (List.length l) (Enc.F eC l)) s)))) (Enc.F eK (M.Corner.tight (cOf (P20 (Enc.list eC (List.length l) (Enc.F eC l)) s))))) (Enc.list eI (List.length (M.Corner.by_ (cOf (P20 (Enc.list eC (List.length l) (Enc.F eC l)) s)))) (Enc.F eI (M.Corner.by_ (cOf (P20 (Enc.list eC (List.length l) (Enc.F eC l)) s))))) (Int.toNat (Nat.cast (R := Int) (List.length l)))).3, D.int IntKind.i64 (M.weights (M.Corner.wd (cOf (P20 (Enc.list eC (List.length l) (Enc.F eC l)) s))) (M.Corner.each (cOf (P20 (Enc.list eC (List.length l) (Enc.F eC l)) s))) (Enc.list eK (List.length (M.Corner.tight (cOf (P20 (Enc.list eC (List.length l) (Enc.F eC l)) s)))) (Enc.F eK (M.Corner.tight (cOf (P20 (Enc.list eC (List.length l) (Enc.F eC l)) s))))) (Enc.list eI (List.length (M.Corner.by_ (cOf (P20 (Enc.list eC (List.length l) (Enc.F eC l)) s)))) (Enc.F eI (M.Corner.by_ (cOf (P20 (Enc.list eC (List.length l) (Enc.F eC l)) s))))) (Int.toNat (Nat.cast (R := Int) (List.length l)))).4, D.int IntKind.i64 (M.weights (M.Corner.wd (cOf (P20 (Enc.list eC (List.length l) (Enc.F eC l)) s))) (M.Corner.each (cOf (P20 (Enc.list eC (List.length l) (Enc.F eC l)) s))) (Enc.list eK (List.length (M.Corner.tight (cOf (P20 (Enc.list eC (List.length l) (Enc.F eC l)) s)))) (Enc.F eK (M.Corner.tight (cOf (P20 (Enc.list eC (List.length l) (Enc.F eC l)) s))))) (Enc.list eI (List.length (M.Corner.by_ (cOf (P20 (Enc.list eC (List.length l) (Enc.F eC l)) s)))) (Enc.F eI (M.Corner.by_ (cOf (P20 (Enc.list eC (List.length l) (Enc.F eC l)) s))))) (Int.toNat (Nat.cast (R := Int) (List.length l)))).5, D.int IntKind.i64 (M.weights (M.Corner.wd (cOf (P20 (Enc.list eC (List.length l) (Enc.F eC l)) s))) (M.Corner.each (cOf (P20 (Enc.list eC (List.length l) (Enc.F eC l)) s))) (Enc.list eK (List.length (M.Corner.tight (cOf (P20 (Enc.list eC (List.length l) (Enc.F eC l)) s)))) (Enc.F eK (M.Corner.tight (cOf (P20 (Enc.list eC (List.length l) (Enc.F eC l)) s))))) (Enc.list eI (List.length (M.Corner.by_ (cOf (P20 (Enc.list eC (List.length l) (Enc.F eC l)) s)))) (Enc.F eI (M.Corner.by_ (cOf (P20 (Enc.list eC (List.length l) (Enc.F eC l)) s))))) (Int.toNat (Nat.cast (R := Int) (List.length l)))).6, D.int IntKind.i64 (M.weights (M.Corner.wd (cOf (P20 (Enc.list eC (List.length l) (Enc.F eC l)) s))) (M.Corner.each (cOf (P20 (Enc.list eC (List.length l) (Enc.F eC l)) s))) (Enc.list eK (List.length (M.Corner.tight (cOf (P20 (Enc.list eC (List.length l) (Enc.F eC l)) s)))) (Enc.F eK (M.Corner.tight (cOf (P20 (Enc.list eC (List.length l) (Enc.F eC l)) s))))) (Enc.list eI (List.length (M.Corner.by_ (cOf (P20 (Enc.list eC (List.length l) (Enc.F eC l)) s)))) (Enc.F eI (M.Corner.by_ (cOf (P20 (Enc.list eC (List.length l) (Enc.F eC l)) s))))) (Int.toNat (Nat.cast (R := Int) (List.length l)))).7, D.int IntKind.i64 (M.weights (M.Corner.wd (cOf (P20 (Enc.list eC (List.length l) (Enc.F eC l)) s))) (M.Corner.each (cOf (P20 (Enc.list eC (List.length l) (Enc.F eC l)) s))) (Enc.list eK (List.length (M.Corner.tight (cOf (P20 (Enc.list eC (List.length l) (Enc.F eC l)) s)))) (Enc.F eK (M.Corner.tight (cOf (P20 (Enc.list eC (List.length l) (Enc.F eC l)) s))))) (Enc.list eI (List.length (M.Corner.by_ (cOf (P20 (Enc.list eC (List.length l) (Enc.F eC l)) s)))) (Enc.F eI (M.Corner.by_ (cOf (P20 (Enc.list eC (List.length l) (Enc.F eC l)) s))))) (Int.toNat (Nat.cast (R := Int) (List.length l)))).8, D.int IntKind.i64 (M.weights (M.Corner.wd (cOf (P20 (Enc.list eC (List.length l) (Enc.F eC l)) s))) (M.Corner.each (cOf (P20 (Enc.list eC (List.length l) (Enc.F eC l)) s))) (Enc.list eK (List.length (M.Corner.tight (cOf (P20 (Enc.list eC (List.length l) (Enc.F eC l)) s)))) (Enc.F eK (M.Corner.tight (cOf (P20 (Enc.list eC (List.length l) (Enc.F eC l)) s))))) (Enc.list eI (List.length (M.Corner.by_ (cOf (P20 (Enc.list eC (List.length l) (Enc.F eC l)) s)))) (Enc.F eI (M.Corner.by_ (cOf (P20 (Enc.list eC (List.length l) (Enc.F eC l)) s))))) (Int.toNat (Nat.cast (R := Int) (List.length l)))).9, D.int IntKind.i64 (M.weights (M.Corner.wd (cOf (P20 (Enc.list eC (List.length l) (Enc.F eC l)) s))) (M.Corner.each (cOf (P20 (Enc.list eC (List.length l) (Enc.F eC l)) s))) (Enc.list eK (List.length (M.Corner.tight (cOf (P20 (Enc.list eC (List.length l) (Enc.F eC l)) s)))) (Enc.F eK (M.Corner.tight (cOf (P20 (Enc.list eC (List.length l) (Enc.F eC l)) s))))) (Enc.list eI (List.length (M.Corner.by_ (cOf (P20 (Enc.list eC (List.length l) (Enc.F eC l)) s)))) (Enc.F eI (M.Corner.by_ (cOf (P20 (Enc.list eC (List.length l) (Enc.F eC l)) s))))) (Int.toNat (Nat.cast (R := Int) (List.length l)))).10, D.sl false (List.length (M.weights (M.Corner.wd (cOf (P20 (Enc.list eC (List.length l) (Enc.F eC l)) s))) (M.Corner.each (cOf (P20 (Enc.list eC (List.length l) (Enc.F eC l)) s))) (Enc.list eK (List.length (M.Corner.tight (cOf (P20 (Enc.list eC (List.length l) (Enc.F eC l)) s)))) (Enc.F eK (M.Corner.tight (cOf (P20 (Enc.list eC (List.length l) (Enc.F eC l)) s))))) (Enc.list eI (List.length (M.Corner.by_ (cOf (P20 (Enc.list eC (List.length l) (Enc.F eC l)) s)))) (Enc.F eI (M.Corner.by_ (cOf (P20 (Enc.list eC (List.length l) (Enc.F eC l)) s))))) (Int.toNat (Nat.cast (R := Int) (List.length l)))).11) (1 : Nat) (Enc.F eI (M.weights (M.Corner.wd (cOf (P20 (Enc.list eC (List.length l) (Enc.F eC l)) s))) (M.Corner.each (cOf (P20 (Enc.list eC (List.length l) (Enc.F eC l)) s))) (Enc.list eK (List.length (M.Corner.tight (cOf (P20 (Enc.list eC (List.length l) (Enc.F eC l)) s)))) (Enc.F eK (M.Corner.tight (cOf (P20 (Enc.list eC (List.length l) (Enc.F eC l)) s))))) (Enc.list eI (List.length (M.Corner.by_ (cOf (P20 (Enc.list eC (List.length l) (Enc.F eC l)) s)))) (Enc.F eI (M.Corner.by_ (cOf (P20 (Enc.list eC (List.length l) (Enc.F eC l)) s))))) (Int.toNat (Nat.cast (R := Int) (List.length l)))).11)], Ar.c (D.int IntKind.i64 (0 : Int))]))))))))))))))))))))))))))))))
theorem t20 (q_l : Bool) (l : List Cask) (sv l0 h0 l1 h1 l2 h2 l3 h3 : Int) : runFnX Try.prog G0 (lookS [v65, v49, v64, v66, v67, v68, v69]) (fun _ => []) [] 1 40 3 20 Try.f20 [.c (.sl q_l l.length 7 (eC.F l)), .agg [dI sv, dI l0, dI h0, dI l1, dI h1, dI l2, dI h2, dI l3, dI h3]] =
    tr20 l (⟨sv, ⟨l0, h0⟩, ⟨l1, h1⟩, ⟨l2, h2⟩, ⟨l3, h3⟩⟩ : Sample) := by kernel_rfl
theorem w20 (l : List Cask) (s : Sample) (hn : ∀ c, c ∈ l → c.nm.size ≤ 1000000) (h : BestOK l s) : (tr20 l s).wp (fun rs => rsEqv rs (resB (M.best l s))) := by
  have hP : P20 l s = M.pBest l s := by unfold P20 M.pBest; simp only [Enc.list_F]
  have z0 : (nilD).eqv (dL []) := ⟨(fun e => by cases e), rfl, (fun h => absurd h (Nat.lt_irrefl 0)), fun i j hi => absurd hi (Nat.not_lt_zero i)⟩
  unfold tr20
  simp only [Enc.list_F, hP]
  refine ⟨Enc.is_F _ _ _, hn, wp_br (fun hb => ?_) (fun hb => ?_)⟩
  · have : M.best l s = ⟨0, 0, 0, [], M.zeroW, M.taskErr l s⟩ := by
      unfold M.best; rw [show (M.taskErr l s != 0) = true from hb]; rfl
    rw [this]
    exact ⟨⟨rfl, rfl, rfl, z0, rfl, rfl, rfl, rfl, rfl, rfl, rfl, rfl, rfl, rfl, z0, trivial⟩, rfl, trivial⟩
  · have hb' : (M.taskErr l s != 0) = false := hb
    have he : M.taskErr l s = 0 := by simpa using hb'
    obtain ⟨h1, h4, hco, htd, hx⟩ := h he
    have hbest : M.best l s = (match M.pBest l s with | some x => M.bestC l x | none => ⟨0, 0, 0, [], M.zeroW, 12⟩) := by
      unfold M.best; rw [hb']; rfl
    rw [hbest]
    refine ⟨Enc.is_F _ _ _, h1, h4, Enc.is_F _ _ _, Enc.is_F _ _ _, Enc.is_F _ _ _, by rw [shares_len]; omega, by rw [shares_len]; omega, by rw [shares_len, costs_len]; omega, by rw [limits_len]; omega, hco, htd, ?_⟩
    cases hp : M.pBest l s with
    | none =>
      refine ⟨fun _ => ?_, (fun h => (by cases h))⟩
      exact ⟨⟨rfl, rfl, rfl, z0, rfl, rfl, rfl, rfl, rfl, rfl, rfl, rfl, rfl, rfl, z0, trivial⟩, rfl, trivial⟩
    | some x =>
      obtain ⟨⟨c1, c2, c3, c4, c5, c6⟩, c7⟩ := hx x hp
      refine ⟨(fun h => (by cases h)), fun _ => ?_⟩
      refine ⟨Enc.is_F _ _ _, Enc.is_F _ _ _, c1, Nat.le_trans c1 (by omega), c2, c3, c7, Enc.is_F _ _ _, Enc.is_F _ _ _, by omega, by omega, c4, c5, c6, ?_⟩
      exact ⟨⟨rfl, rfl, rfl, D.eqv_refl _, rfl, rfl, rfl, rfl, rfl, rfl, rfl, rfl, rfl, rfl, D.eqv_refl _, trivial⟩, rfl, trivial⟩
def dom20 : DomF
  | [.c (.sl _ n_l st_l F_l), .agg [.int .i64 sv, .int .i64 l0, .int .i64 h0, .int .i64 l1, .int .i64 h1, .int .i64 l2, .int .i64 h2, .int .i64 l3, .int .i64 h3]] => (match Nat.beq st_l 7 with
    | true => some ([eC.Is n_l F_l, ∀ c, c ∈ (eC.list n_l F_l) → c.nm.size ≤ 1000000, BestOK (eC.list n_l F_l) ⟨sv, ⟨l0, h0⟩, ⟨l1, h1⟩, ⟨l2, h2⟩, ⟨l3, h3⟩⟩], resB (M.best (eC.list n_l F_l) ⟨sv, ⟨l0, h0⟩, ⟨l1, h1⟩, ⟨l2, h2⟩, ⟨l3, h3⟩⟩))
    | _ => none)
  | _ => none
def v20 : Nat × Sm := (20, fokSm dom20)
theorem C20 : FOK Try.prog G0 gw 20 dom20 := by
  intro ags p r hd hp κ w xs hw hl hG hx
  unfold dom20 at hd
  split at hd
  · rename_i q_l n_l st_l F_l sv l0 h0 l1 h1 l2 h2 l3 h3
    split at hd
    · rename_i hst
      have g1 := hst
      have g1 := Nat.eq_of_beq_eq_true g1
      subst g1
      simp only [Option.some.injEq, Prod.mk.injEq] at hd
      obtain ⟨rfl, rfl⟩ := hd
      obtain ⟨hI_l, hp⟩ := hp
      have heq : agsEqv [.c (.sl q_l n_l 7 F_l), .agg [.int .i64 sv, .int .i64 l0, .int .i64 h0, .int .i64 l1, .int .i64 h1, .int .i64 l2, .int .i64 h2, .int .i64 l3, .int .i64 h3]] [.c (.sl q_l (eC.list n_l F_l).length 7 (eC.F (eC.list n_l F_l))), .agg [.int .i64 sv, .int .i64 l0, .int .i64 h0, .int .i64 l1, .int .i64 h1, .int .i64 l2, .int .i64 h2, .int .i64 l3, .int .i64 h3]] := ⟨eC.to id hI_l, Ag.eqv_refl _, trivial⟩
      have len_l : (eC.list n_l F_l).length = n_l := eC.list_len
      generalize eC.list n_l F_l = l at *
      subst len_l
      exact fokX_fin mixed gw_stable (sl := [v65, v49, v64, v66, v67, v68, v69]) ⟨S65, S49, S64, S66, S67, S68, S69, trivial⟩ Try.func20 hw hl hG hx heq rfl (t20 q_l l sv l0 h0 l1 h1 l2 h2 l3 h3) (w20 l _ hp.1 hp.2.1)
    · cases hd
  · cases hd
theorem S20 : SumOK Try.prog G0 gw 20 (fokSm dom20) := fok_sum Try.func20 rfl C20
end Go.Bl
end

section
set_option linter.unusedVariables false
set_option linter.unusedSimpArgs false
set_option maxRecDepth 100000
namespace Go.Bl
open Go.V Go.Proofs
structure NearR where
  den : Int
  pt : List Int
  d0 : Int
  d1 : Int
  e : Int
namespace M
def nearErr (l : List Cask) (s : Sample) : Int := first [casksErr l, checkSample s, unl (decide (volumes l ≥ s.vol)) 24]
def pNear (l : List Cask) (s : Sample) : Corner := cOf (psolve (shares l 1) s.vol (far l) (limits l s 1))
def nearC (l : List Cask) (s : Sample) (x : Corner) : NearR := ⟨x.den, x.pt.take l.length, told1 (away l (x.pt.take l.length) s) (sumP (fun _ => 1) l (x.pt.take l.length)), told2 (away l (x.pt.take l.length) s) (sumP (fun _ => 1) l (x.pt.take l.length)), 0⟩
def near (l : List Cask) (s : Sample) : NearR := cond (nearErr l s != 0) ⟨0, [], 0, 0, nearErr l s⟩ (nearC l s (pNear l s))
end M
def resN (b : NearR) : List Ar := [.agg [dI b.den, dL b.pt], .agg [dI b.d0, dI b.d1], rI b.e]
def NearOK (l : List Cask) (s : Sample) : Prop := M.nearErr l s = 0 → 1 ≤ l.length ∧ l.length ≤ 4 ∧ (∀ c, c ∈ M.limits l s 1 → c.coefs.length = (M.shares l 1).length) ∧ TurnOK (M.shares l 1) (M.limits l s 1) ∧
  l.length ≤ (M.pNear l s).pt.length ∧ M.sumP (fun _ => 1) l ((M.pNear l s).pt.take l.length) ≠ 0 ∧ i64ok (M.away l ((M.pNear l s).pt.take l.length) s) ∧ i64ok (M.sumP (fun _ => 1) l ((M.pNear l s).pt.take l.length))
theorem list_take {l : List Int} {n : Nat} (h : n ≤ l.length) : eI.list n (eI.F l) = l.take n := by
  apply List.ext_getElem
  · simp [Enc.list]; omega
  · intro i h1 h2
    simp only [Enc.list, List.getElem_map, List.getElem_range, Enc.F, List.getElem_take]
    show l.getD i 0 = _
    simp [List.length_take] at h2
    simp [(by omega : i < l.length)]
theorem take_eqv {l : List Int} {n : Nat} (h : n ≤ l.length) : (D.sl false n 1 (eI.F l)).eqv (dL (l.take n)) := by
  refine ⟨(fun e => by cases e), by simp [h], fun _ => rfl, fun i j hi hj => ?_⟩
  obtain rfl : j = 0 := Nat.lt_one_iff.1 hj
  show (dI (l.getD i 0)).eqv (dI ((l.take n).getD i 0))
  have : (l.take n).getD i 0 = l.getD i 0 := by
    simp only [List.getD_eq_getElem?_getD, List.getElem?_take, if_pos hi]
  rw [this]
  exact D.eqv_refl _
def P26 (LL : List Cask) (SS : Sample) : Option M.Corner := (M.psolve (Enc.list eI (List.length (M.shares LL (1 : Nat))) (Enc.F eI (M.shares LL (1 : Nat)))) (Sample.vol SS) (Enc.list eI (List.length (M.far LL)) (Enc.F eI (M.far LL))) (Enc.list eK (List.length (M.limits LL SS (1 : Nat))) (Enc.F eK (M.limits LL SS (1 : Nat)))))
def tr26 (l : List Cask) (s : Sample) : T (List Ar) :=
    T.need (Enc.Is eC (List.length l) (Enc.F eC l)) (T.need (∀ (c : Cask), c ∈ (Enc.list eC (List.length l) (Enc.F eC l)) → ByteArray.size (Cask.nm c) ≤ (1000000 : Nat)) (T.need (Enc.Is eC (List.length l) (Enc.F eC l)) (T.need (List.length (Enc.list eC (List.length l) (Enc.F eC l)) ≤ (1000000 : Nat)) (T.br (M.first [M.casksErr (Enc.list eC (List.length l) (Enc.F eC l)), M.checkSample s, M.unl (decide (M.volumes (Enc.list eC (List.length l) (Enc.F eC l)) ≥ s.vol)) (24 : Int)] != (0 : Int)) (T.ret [Ar.agg [D.int IntKind.i64 (0 : Int), D.sl false (0 : Nat) (0 : Nat) fun (x x_1 : Nat) => D.nilp], Ar.agg [D.int IntKind.i64 (0 : Int), D.int IntKind.i64 (0 : Int)], Ar.c (D.int IntKind.i64 (M.first [M.casksErr (Enc.list eC (List.length l) (Enc.F eC l)), M.checkSample s, M.unl (decide (M.volumes (Enc.list eC (List.length l) (Enc.F eC l)) ≥ s.vol)) (24 : Int)]))]) (T.need (Enc.Is eC (List.length l) (Enc.F eC l)) (T.need ((1 : Nat) ≤ List.length l) (T.need (List.length l ≤ (4 : Nat)) (T.need (Enc.Is eI (List.length (M.shares (Enc.list eC (List.length l) (Enc.F eC l)) (1 : Nat))) (Enc.F eI (M.shares (Enc.list eC (List.length l) (Enc.F eC l)) (1 : Nat)))) (T.need (Enc.Is eI (List.length (M.far (Enc.list eC (List.length l) (Enc.F eC l)))) (Enc.F eI (M.far (Enc.list eC (List.length l) (Enc.F eC l))))) (T.need (Enc.Is eK (List.length (M.limits (Enc.list eC (List.length l) (Enc.F eC l)) s (1 : Nat))) (Enc.F eK (M.limits (Enc.list eC (List.length l) (Enc.F eC l)) s (1 : Nat)))) (T.need ((1 : Nat) ≤ List.length (M.shares (Enc.list eC (List.length l) (Enc.F eC l)) (1 : Nat))) (T.need (List.length (M.shares (Enc.list eC (List.length l) (Enc.F eC l)) (1 : Nat)) ≤ (5 : Nat)) (T.need (List.length (M.shares (Enc.list eC (List.length l) (Enc.F eC l)) (1 : Nat)) = List.length (M.far (Enc.list eC (List.length l) (Enc.F eC l)))) (T.need (List.length (M.limits (Enc.list eC (List.length l) (Enc.F eC l)) s (1 : Nat)) ≤ (1000 : Nat)) (T.need (∀ (c : Cond), c ∈ Enc.list eK (List.length (M.limits (Enc.list eC (List.length l) (Enc.F eC l)) s (1 : Nat))) (Enc.F eK (M.limits (Enc.list eC (List.length l) (Enc.F eC l)) s (1 : Nat))) → List.length (Cond.coefs c) = List.length (M.shares (Enc.list eC (List.length l) (Enc.F eC l)) (1 : Nat))) (T.need (∀ (set : List Cond), List.length set + (1 : Nat) = List.length (Enc.list eI (List.length (M.shares (Enc.list eC (List.length l) (Enc.F eC l)) (1 : Nat))) (Enc.F eI (M.shares (Enc.list eC (List.length l) (Enc.F eC l)) (1 : Nat)))) → (∀ (c : Cond), c ∈ set → c ∈ Enc.list eK (List.length (M.limits (Enc.list eC (List.length l) (Enc.F eC l)) s (1 : Nat))) (Enc.F eK (M.limits (Enc.list eC (List.length l) (Enc.F eC l)) s (1 : Nat)))) → M.det (M.mat (Enc.list eI (List.length (M.shares (Enc.list eC (List.length l) (Enc.F eC l)) (1 : Nat))) (Enc.F eI (M.shares (Enc.list eC (List.length l) (Enc.F eC l)) (1 : Nat)))) set) ≠ (0 : Int) → M.det (M.turned (M.mat (Enc.list eI (List.length (M.shares (Enc.list eC (List.length l) (Enc.F eC l)) (1 : Nat))) (Enc.F eI (M.shares (Enc.list eC (List.length l) (Enc.F eC l)) (1 : Nat)))) set)) ≠ (0 : Int)) (T.need ((0 : Int) ≤ (Nat.cast (R := Int) (List.length l))) (T.need ((Nat.cast (R := Int) (List.length l)) = (Nat.cast (R := Int) (List.length l))) (T.need ((Nat.cast (R := Int) (List.length l)) ≤ (Nat.cast (R := Int) (List.length (M.Corner.pt (cOf (P26 (Enc.list eC (List.length l) (Enc.F eC l)) s)))))) (T.need (Enc.Is eC (List.length l) (Enc.F eC l)) (T.need (Enc.Is eI (Int.toNat (Nat.cast (R := Int) (List.length l))) (Enc.F eI (M.Corner.pt (cOf (P26 (Enc.list eC (List.length l) (Enc.F eC l)) s))))) (T.need (List.length (Enc.list eI (Int.toNat (Nat.cast (R := Int) (List.length l))) (Enc.F eI (M.Corner.pt (cOf (P26 (Enc.list eC (List.length l) (Enc.F eC l)) s))))) ≤ List.length (Enc.list eC (List.length l) (Enc.F eC l))) (T.need (List.length (Enc.list eI (Int.toNat (Nat.cast (R := Int) (List.length l))) (Enc.F eI (M.Corner.pt (cOf (P26 (Enc.list eC (List.length l) (Enc.F eC l)) s))))) ≤ (1000 : Nat)) (T.need (Enc.Is eC (List.length l) (Enc.F eC l)) (T.need (Enc.Is eI (Int.toNat (Nat.cast (R := Int) (List.length l))) (Enc.F eI (M.Corner.pt (cOf (P26 (Enc.list eC (List.length l) (Enc.F eC l)) s))))) (T.need (Int.toNat (Nat.cast (R := Int) (List.length l)) ≤ List.length l) (T.need (Int.toNat (Nat.cast (R := Int) (List.length l)) ≤ (1000 : Nat)) (T.need (M.sumP (fun (x : Cask) => (1 : Int)) (Enc.list eC (List.length l) (Enc.F eC l)) (Enc.list eI (Int.toNat (Nat.cast (R := Int) (List.length l))) (Enc.F eI (M.Corner.pt (cOf (P26 (Enc.list eC (List.length l) (Enc.F eC l)) s))))) ≠ (0 : Int)) (T.need (Int.natAbs (M.away (Enc.list eC (List.length l) (Enc.F eC l)) (Enc.list eI (Int.toNat (Nat.cast (R := Int) (List.length l))) (Enc.F eI (M.Corner.pt (cOf (P26 (Enc.list eC (List.length l) (Enc.F eC l)) s))))) s) < (9223372036854775808 : Nat)) (T.need (Int.natAbs (M.sumP (fun (x : Cask) => (1 : Int)) (Enc.list eC (List.length l) (Enc.F eC l)) (Enc.list eI (Int.toNat (Nat.cast (R := Int) (List.length l))) (Enc.F eI (M.Corner.pt (cOf (P26 (Enc.list eC (List.length l) (Enc.F eC l)) s)))))) < (9223372036854775808 : Nat)) (T.ret [Ar.agg [D.int IntKind.i64 (M.Corner.den (cOf (P26 (Enc.list eC (List.length l) (Enc.F eC l)) s))), D.sl false (Int.toNat (Nat.cast (R := Int) (List.length l))) (1 : Nat) (Enc.F eI (M.Corner.pt (cOf (P26 (Enc.list eC (List.length l) (Enc.F eC l)) s))))], Ar.agg [D.int IntKind.i64 (M.told1 (M.away (Enc.list eC (List.length l) (Enc.F eC l)) (Enc.list eI (Int.toNat (Nat.cast (R := Int) (List.length l))) (Enc.F eI (M.Corner.pt (cOf (P26 (Enc.list eC (List.length l) (Enc.F eC l)) s))))) s) (M.sumP (fun (x : Cask) => (1 : Int)) (Enc.list eC (List.length l) (Enc.F eC l)) (Enc.list eI (Int.toNat (Nat.cast (R := Int) (List.length l))) (Enc.F eI (M.Corner.pt (cOf (P26 (Enc.list eC (List.length l) (Enc.F eC l)) s))))))), D.int IntKind.i64 (M.told2 (M.away (Enc.list eC (List.length l) (Enc.F eC l)) (Enc.list eI (Int.toNat (Nat.cast (R := Int) (List.length l))) (Enc.F eI (M.Corner.pt (cOf (P26 (Enc.list eC (List.length l) (Enc.F eC l)) s))))) s) (M.sumP (fun (x : Cask) => (1 : Int)) (Enc.list eC (List.length l) (Enc.F eC l)) (Enc.list eI (Int.toNat (Nat.cast (R := Int) (List.length l))) (Enc.F eI (M.Corner.pt (cOf (P26 (Enc.list eC (List.length l) (Enc.F eC l)) s)))))))], Ar.c (D.int IntKind.i64 (0 : Int))])))))))))))))))))))))))))))))))
theorem t26 (q_l : Bool) (l : List Cask) (sv l0 h0 l1 h1 l2 h2 l3 h3 : Int) : runFnX Try.prog G0 (lookS [v65, v49, v64, v80, v81, v82, v67, v83, v84, v85]) (fun _ => []) [] 1 40 3 26 Try.f26 [.c (.sl q_l l.length 7 (eC.F l)), .agg [dI sv, dI l0, dI h0, dI l1, dI h1, dI l2, dI h2, dI l3, dI h3]] =
    tr26 l (⟨sv, ⟨l0, h0⟩, ⟨l1, h1⟩, ⟨l2, h2⟩, ⟨l3, h3⟩⟩ : Sample) := by kernel_rfl
theorem w26 (l : List Cask) (s : Sample) (hn : ∀ c, c ∈ l → c.nm.size ≤ 1000000) (hl : l.length ≤ 1000000) (h : NearOK l s) : (tr26 l s).wp (fun rs => rsEqv rs (resN (M.near l s))) := by
  have hP : cOf (P26 l s) = M.pNear l s := by unfold P26 M.pNear; simp only [Enc.list_F]
  have z0 : (nilD).eqv (dL []) := ⟨(fun e => by cases e), rfl, (fun h => absurd h (Nat.lt_irrefl 0)), fun i j hi => absurd hi (Nat.not_lt_zero i)⟩
  unfold tr26
  simp only [Enc.list_F, hP]
  refine ⟨Enc.is_F _ _ _, hn, Enc.is_F _ _ _, hl, wp_br (fun hb => ?_) (fun hb => ?_)⟩
  · have : M.near l s = ⟨0, [], 0, 0, M.nearErr l s⟩ := by
      unfold M.near; rw [show (M.nearErr l s != 0) = true from hb]; rfl
    rw [this]
    exact ⟨⟨rfl, z0, trivial⟩, ⟨rfl, rfl, trivial⟩, rfl, trivial⟩
  · have hb' : (M.nearErr l s != 0) = false := hb
    have he : M.nearErr l s = 0 := by simpa using hb'
    obtain ⟨h1, h4, hco, htd, hx, c1, c2, c3⟩ := h he
    have hnear : M.near l s = M.nearC l s (M.pNear l s) := by
      unfold M.near; rw [hb']; rfl
    rw [hnear]
    have hnn : Int.toNat (l.length : Int) = l.length := Int.toNat_natCast _
    have htake := list_take hx
    have hlen : ((M.pNear l s).pt.take l.length).length = l.length := by simp [hx]
    simp only [hnn, htake, hlen]
    refine ⟨Enc.is_F _ _ _, h1, h4, Enc.is_F _ _ _, Enc.is_F _ _ _, Enc.is_F _ _ _, by rw [shares_len]; omega, by rw [shares_len]; omega, by rw [shares_len, far_len], by rw [limits_len]; omega, hco, htd, by omega, trivial, by omega, Enc.is_F _ _ _, Enc.is_F _ _ _, Nat.le_refl _, by omega, Enc.is_F _ _ _, Enc.is_F _ _ _, Nat.le_refl _, by omega, c1, c2, c3, ?_⟩
    exact ⟨⟨rfl, take_eqv hx, trivial⟩, ⟨rfl, rfl, trivial⟩, rfl, trivial⟩
def dom26 : DomF
  | [.c (.sl _ n_l st_l F_l), .agg [.int .i64 sv, .int .i64 l0, .int .i64 h0, .int .i64 l1, .int .i64 h1, .int .i64 l2, .int .i64 h2, .int .i64 l3, .int .i64 h3]] => (match Nat.beq st_l 7 with
    | true => some ([eC.Is n_l F_l, ∀ c, c ∈ (eC.list n_l F_l) → c.nm.size ≤ 1000000, (eC.list n_l F_l).length ≤ 1000000, NearOK (eC.list n_l F_l) ⟨sv, ⟨l0, h0⟩, ⟨l1, h1⟩, ⟨l2, h2⟩, ⟨l3, h3⟩⟩], resN (M.near (eC.list n_l F_l) ⟨sv, ⟨l0, h0⟩, ⟨l1, h1⟩, ⟨l2, h2⟩, ⟨l3, h3⟩⟩))
    | _ => none)
  | _ => none
def v26 : Nat × Sm := (26, fokSm dom26)
theorem C26 : FOK Try.prog G0 gw 26 dom26 := by
  intro ags p r hd hp κ w xs hw hl hG hx
  unfold dom26 at hd
  split at hd
  · rename_i q_l n_l st_l F_l sv l0 h0 l1 h1 l2 h2 l3 h3
    split at hd
    · rename_i hst
      have g1 := hst
      have g1 := Nat.eq_of_beq_eq_true g1
      subst g1
      simp only [Option.some.injEq, Prod.mk.injEq] at hd
      obtain ⟨rfl, rfl⟩ := hd
      obtain ⟨hI_l, hp⟩ := hp
      have heq : agsEqv [.c (.sl q_l n_l 7 F_l), .agg [.int .i64 sv, .int .i64 l0, .int .i64 h0, .int .i64 l1, .int .i64 h1, .int .i64 l2, .int .i64 h2, .int .i64 l3, .int .i64 h3]] [.c (.sl q_l (eC.list n_l F_l).length 7 (eC.F (eC.list n_l F_l))), .agg [.int .i64 sv, .int .i64 l0, .int .i64 h0, .int .i64 l1, .int .i64 h1, .int .i64 l2, .int .i64 h2, .int .i64 l3, .int .i64 h3]] := ⟨eC.to id hI_l, Ag.eqv_refl _, trivial⟩
      have len_l : (eC.list n_l F_l).length = n_l := eC.list_len
      generalize eC.list n_l F_l = l at *
      subst len_l
      exact fokX_fin mixed gw_stable (sl := [v65, v49, v64, v80, v81, v82, v67, v83, v84, v85]) ⟨S65, S49, S64, S80, S81, S82, S67, S83, S84, S85, trivial⟩ Try.func26 hw hl hG hx heq rfl (t26 q_l l sv l0 h0 l1 h1 l2 h2 l3 h3) (w26 l _ hp.1 hp.2.1 hp.2.2.1)
    · cases hd
  · cases hd
theorem S26 : SumOK Try.prog G0 gw 26 (fokSm dom26) := fok_sum Try.func26 rfl C26
end Go.Bl
end

section
set_option linter.unusedVariables false
set_option linter.unusedSimpArgs false
namespace Go.Bl
open Go.V Go.Proofs
def exC : List Cask := [⟨⟨#[100, 114, 121]⟩, 100, 10, 0, 0, 0, 0⟩, ⟨⟨#[115, 119, 101, 101, 116]⟩, 100, 30, 100, 0, 0, 0⟩, ⟨⟨#[114, 105, 99, 104]⟩, 50, 20, 200, 0, 0, 0⟩]
def exS (lo hi : Int) : Sample := ⟨100, ⟨lo, hi⟩, ⟨0, 1000⟩, ⟨0, 1000⟩, ⟨0, 1000⟩⟩
end Go.Bl
end

section
set_option linter.unusedVariables false
set_option linter.unusedSimpArgs false
set_option maxRecDepth 100000
namespace Go.Bl
open Go.V Go.Proofs
namespace M
def meets (l : List Cask) (ps : List Int) (s : Sample) : Int := first [unl (decide (sumP (fun _ => 1) l ps ≥ s.vol)) 14, unl (decide (away l ps s ≤ 0)) 13]
end M
theorem t91 (q_l : Bool) (l : List Cask) (den : Int) (q_ps : Bool) (ps : List Int) (sv l0 h0 l1 h1 l2 h2 l3 h3 : Int) : runFnX Try.prog G0 (lookS [v85, v80, v84, v64]) (fun _ => []) [] 1 40 3 91 Try.f91 [.agg [.sl q_l l.length 7 (eC.F l), dI den, .sl q_ps ps.length 1 (eI.F ps)], .agg [dI sv, dI l0, dI h0, dI l1, dI h1, dI l2, dI h2, dI l3, dI h3]] =
    T.need (eC.Is l.length (eC.F l)) (T.need (eI.Is ps.length (eI.F ps)) (T.need (ps.length ≤ l.length) (T.need (ps.length ≤ 1000) (T.need (eC.Is l.length (eC.F l)) (T.need (eI.Is ps.length (eI.F ps)) (T.need ((eI.list ps.length (eI.F ps)).length ≤ (eC.list l.length (eC.F l)).length) (T.need ((eI.list ps.length (eI.F ps)).length ≤ 1000) (T.ret [rI (M.meets (eC.list l.length (eC.F l)) (eI.list ps.length (eI.F ps)) ⟨sv, ⟨l0, h0⟩, ⟨l1, h1⟩, ⟨l2, h2⟩, ⟨l3, h3⟩⟩)])))))))) := by kernel_rfl
def dom91 : DomF
  | [.agg [.sl _ n_l st_l F_l, .int .i64 den, .sl _ n_ps st_ps F_ps], .agg [.int .i64 sv, .int .i64 l0, .int .i64 h0, .int .i64 l1, .int .i64 h1, .int .i64 l2, .int .i64 h2, .int .i64 l3, .int .i64 h3]] => (match Nat.beq st_l 7 && Nat.beq st_ps 1 with
    | true => some ([eC.Is n_l F_l, eI.Is n_ps F_ps, (eI.list n_ps F_ps).length ≤ (eC.list n_l F_l).length, (eI.list n_ps F_ps).length ≤ 1000], [rI (M.meets (eC.list n_l F_l) (eI.list n_ps F_ps) ⟨sv, ⟨l0, h0⟩, ⟨l1, h1⟩, ⟨l2, h2⟩, ⟨l3, h3⟩⟩)])
    | _ => none)
  | _ => none
def v91 : Nat × Sm := (91, fokSm dom91)
theorem C91 : FOK Try.prog G0 gw 91 dom91 := by
  intro ags p r hd hp κ w xs hw hl hG hx
  unfold dom91 at hd
  split at hd
  · rename_i q_l n_l st_l F_l den q_ps n_ps st_ps F_ps sv l0 h0 l1 h1 l2 h2 l3 h3
    split at hd
    · rename_i hst
      simp only [Bool.and_eq_true] at hst
      obtain ⟨g1, g2⟩ := hst
      have g1 := Nat.eq_of_beq_eq_true g1
      have g2 := Nat.eq_of_beq_eq_true g2
      subst g1 g2
      simp only [Option.some.injEq, Prod.mk.injEq] at hd
      obtain ⟨rfl, rfl⟩ := hd
      obtain ⟨hI_l, hI_ps, hp⟩ := hp
      have heq : agsEqv [.agg [.sl q_l n_l 7 F_l, .int .i64 den, .sl q_ps n_ps 1 F_ps], .agg [.int .i64 sv, .int .i64 l0, .int .i64 h0, .int .i64 l1, .int .i64 h1, .int .i64 l2, .int .i64 h2, .int .i64 l3, .int .i64 h3]] [.agg [.sl q_l (eC.list n_l F_l).length 7 (eC.F (eC.list n_l F_l)), .int .i64 den, .sl q_ps (eI.list n_ps F_ps).length 1 (eI.F (eI.list n_ps F_ps))], .agg [.int .i64 sv, .int .i64 l0, .int .i64 h0, .int .i64 l1, .int .i64 h1, .int .i64 l2, .int .i64 h2, .int .i64 l3, .int .i64 h3]] := ⟨⟨eC.to id hI_l, rfl, eI.to id hI_ps, trivial⟩, Ag.eqv_refl _, trivial⟩
      have len_l : (eC.list n_l F_l).length = n_l := eC.list_len
      have len_ps : (eI.list n_ps F_ps).length = n_ps := eI.list_len
      generalize eC.list n_l F_l = l at *
      generalize eI.list n_ps F_ps = ps at *
      subst len_l len_ps
      have c1 := Enc.is_F eC l l.length
      have c2 := Enc.is_F eI ps ps.length
      obtain ⟨c3, c4, _⟩ := hp
      exact fokX_fin mixed gw_stable (sl := [v85, v80, v84, v64]) ⟨S85, S80, S84, S64, trivial⟩ Try.func91 hw hl hG hx heq rfl (t91 q_l l den q_ps ps sv l0 h0 l1 h1 l2 h2 l3 h3) ((by simp only [Enc.list_F]; exact ⟨c1, c2, c3, c4, c1, c2, c3, c4, rsEqv_refl _⟩))
    · cases hd
  · cases hd
theorem S91 : SumOK Try.prog G0 gw 91 (fokSm dom91) := fok_sum Try.func91 rfl C91
end Go.Bl
end

section
set_option linter.unusedVariables false
set_option linter.unusedSimpArgs false
set_option maxRecDepth 100000
namespace Go.Bl
open Go.V Go.Proofs
namespace M
def intsEq (u v : List Int) : Bool := decide (u = v)
def some_ (l : List Cask) : Bool := decide (l.length ≤ 12 ∧ ∀ k, k < l.length → (l.getD k dfC).nm.size ≤ 20)
end M
def tr34 (u v : List Int) : T (List Ar) :=
    T.br ((Nat.cast (R := Int) (List.length u)) != (Nat.cast (R := Int) (List.length v))) (T.ret [Ar.c (D.bool false)]) (T.loop (Int × PUnit) ((0 : Int), PUnit.unit) fun (x : Int × PUnit) => T.br (decide (Prod.fst x < (Nat.cast (R := Int) (List.length u)))) (T.need ((0 : Int) ≤ Prod.fst x) (T.need (Prod.fst x < (Nat.cast (R := Int) (List.length u))) (T.need ((0 : Int) ≤ Prod.fst x) (T.need (Prod.fst x < (Nat.cast (R := Int) (List.length v))) (T.br (List.getD u (Int.toNat (Prod.fst x)) (0 : Int) != List.getD v (Int.toNat (Prod.fst x)) (0 : Int)) (T.ret (Sum.inr [Ar.c (D.bool false)])) (T.ret (Sum.inl (IntKind.wrap IntKind.i64 (Prod.fst x + (1 : Int)), PUnit.unit)))))))) (T.ret (Sum.inr [Ar.c (D.bool true)])))
theorem t34 (q_u : Bool) (u : List Int) (q_v : Bool) (v : List Int) : runFnX Try.prog G0 (lookS []) (fun _ => [(4, [.slot 5 (.int .i64)], none)]) [] 1 20 3 34 Try.f34 [.c (.sl q_u u.length 1 (eI.F u)), .c (.sl q_v v.length 1 (eI.F v))] =
    tr34 u v := by kernel_rfl
def tr63 (l : List Cask) : T (List Ar) :=
    T.br (decide ((Nat.cast (R := Int) (List.length l)) > (12 : Int))) (T.ret [Ar.c (D.bool false)]) (T.loop (Int × PUnit) ((0 : Int), PUnit.unit) fun (x : Int × PUnit) => T.br (decide (Prod.fst x < (Nat.cast (R := Int) (List.length l)))) (T.need ((0 : Int) ≤ Prod.fst x) (T.need (Prod.fst x < (Nat.cast (R := Int) (List.length l))) (T.br (decide ((Nat.cast (R := Int) (ByteArray.size (List.getD l (Int.toNat (Prod.fst x)) (Enc.dflt eC)).1)) > (20 : Int))) (T.ret (Sum.inr [Ar.c (D.bool false)])) (T.ret (Sum.inl (IntKind.wrap IntKind.i64 (Prod.fst x + (1 : Int)), PUnit.unit)))))) (T.ret (Sum.inr [Ar.c (D.bool true)])))
theorem t63 (q_l : Bool) (l : List Cask) : runFnX Try.prog G0 (lookS []) (fun _ => [(4, [.slot 3 (.int .i64)], none)]) [] 1 20 3 63 Try.f63 [.c (.sl q_l l.length 7 (eC.F l))] =
    tr63 l := by kernel_rfl
def tr21 (l : List Cask) : T (List Ar) :=
    T.need ((0 : Nat) + List.length l ≤ (1000000 : Nat)) (T.need ((0 : Nat) + List.length l ≤ (0 : Nat) + List.length l) (T.ret [Ar.c (D.sl true ((0 : Nat) + List.length l) (7 : Nat) (joinF (0 : Nat) (fun (i j : Nat) => List.getD [] (i * (7 : Nat) + j) D.nilp) (Enc.F eC l)))]))
theorem t21 (q_l : Bool) (l : List Cask) : runFnX Try.prog G0 (lookS []) (fun _ => []) [] 1 20 3 21 Try.f21 [.c (.sl q_l l.length 7 (eC.F l))] =
    tr21 l := by kernel_rfl
theorem w34 (u v : List Int) (h : u.length ≤ 1000000) : (tr34 u v).wp (fun rs => rsEqv rs [rB (M.intsEq u v)]) := by
  unfold tr34
  have no : u ≠ v → rsEqv [rB false] [rB (M.intsEq u v)] := fun hn => by
    unfold M.intsEq; rw [decide_eq_false hn]; exact rsEqv_refl _
  refine wp_br (fun hb => ?_) (fun hb => ?_)
  · refine no fun e => ?_
    rw [e] at hb
    simp at hb
  · have hl : u.length = v.length := by have := hb; simp at this; omega
    refine range_wp (n := u.length) (fun k _ => ∀ j, j < k → u.getD j 0 = v.getD j 0) (fun j hj => by omega) ?_
    rintro k s hk hI
    refine wp_br (fun hb => ?_) (fun hb => ?_)
    · have hlt := lt_of_dec hb
      refine ⟨by show (0 : Int) ≤ k; omega, by show (k : Int) < u.length; omega, by show (0 : Int) ≤ k; omega, by show (k : Int) < v.length; omega, wp_br (fun hc => ?_) (fun hc => ?_)⟩
      · refine no fun e => ?_
        rw [e] at hc
        simp at hc
      · have hc : u.getD k 0 = v.getD k 0 := by
          have := hc
          rw [bne_eq_false_iff_eq] at this
          exact this
        refine ⟨hlt, wrap_succ (by omega), fun j hj => ?_⟩
        rcases Nat.lt_or_ge j k with g | g
        · exact hI j g
        · obtain rfl : j = k := by omega
          exact hc
    · have hge := ge_of_dec hb
      obtain rfl : k = u.length := by omega
      have : u = v := by
        apply List.ext_getElem hl
        intro i h1 h2
        have := hI i h1
        simpa [h1, h2] using this
      show rsEqv [rB true] [rB (M.intsEq u v)]
      unfold M.intsEq; rw [decide_eq_true this]; exact rsEqv_refl _
theorem w63 (l : List Cask) : (tr63 l).wp (fun rs => rsEqv rs [rB (M.some_ l)]) := by
  unfold tr63
  have no : ¬ (l.length ≤ 12 ∧ ∀ k, k < l.length → (l.getD k dfC).nm.size ≤ 20) → rsEqv [rB false] [rB (M.some_ l)] := fun hn => by
    unfold M.some_; rw [decide_eq_false hn]; exact rsEqv_refl _
  refine wp_br (fun hb => ?_) (fun hb => ?_)
  · have hb : (l.length : Int) > 12 := of_decide_eq_true hb
    exact no fun ⟨h, _⟩ => by omega
  · have hb : ¬ (l.length : Int) > 12 := of_decide_eq_false hb
    refine range_wp (n := l.length) (fun k _ => ∀ j, j < k → (l.getD j dfC).nm.size ≤ 20) (fun j hj => by omega) ?_
    rintro k s hk hI
    refine wp_br (fun hb => ?_) (fun hb => ?_)
    · have hlt := lt_of_dec hb
      refine ⟨by show (0 : Int) ≤ k; omega, by show (k : Int) < l.length; omega, wp_br (fun hc => ?_) (fun hc => ?_)⟩
      · have hc : ((l.getD k dfC).nm.size : Int) > 20 := of_decide_eq_true hc
        exact no fun ⟨_, h⟩ => by have := h k hlt; omega
      · have hc : ¬ ((l.getD k dfC).nm.size : Int) > 20 := of_decide_eq_false hc
        refine ⟨hlt, wrap_succ (by omega), fun j hj => ?_⟩
        rcases Nat.lt_or_ge j k with g | g
        · exact hI j g
        · obtain rfl : j = k := by omega
          omega
    · have hge := ge_of_dec hb
      obtain rfl : k = l.length := by omega
      show rsEqv [rB true] [rB (M.some_ l)]
      unfold M.some_; rw [decide_eq_true ⟨by omega, hI⟩]; exact rsEqv_refl _
theorem copy_eqv {α : Type} (E : Enc α) (l : List α) (F0 : Nat → Nat → D) : (D.sl true (0 + l.length) E.st (joinF 0 F0 (E.F l))).eqv (.sl true l.length E.st (E.F l)) := by
  refine ⟨id, Nat.zero_add _, fun _ => rfl, fun i j _ _ => ?_⟩
  have : joinF 0 F0 (E.F l) i j = E.F l i j := by
    unfold joinF
    rw [show Nat.blt i 0 = false by rw [← Bool.not_eq_true, Nat.blt_eq]; omega]
    rfl
  rw [this]; exact D.eqv_refl _
def dom34 : DomF
  | [.c (.sl _ n_u st_u F_u), .c (.sl _ n_v st_v F_v)] => (match Nat.beq st_u 1 && Nat.beq st_v 1 with
    | true => some ([eI.Is n_u F_u, eI.Is n_v F_v, (eI.list n_u F_u).length ≤ 1000000], [rB (M.intsEq (eI.list n_u F_u) (eI.list n_v F_v))])
    | _ => none)
  | _ => none
def v34 : Nat × Sm := (34, fokSm dom34)
theorem C34 : FOK Try.prog G0 gw 34 dom34 := by
  intro ags p r hd hp κ w xs hw hl hG hx
  unfold dom34 at hd
  split at hd
  · rename_i q_u n_u st_u F_u q_v n_v st_v F_v
    split at hd
    · rename_i hst
      simp only [Bool.and_eq_true] at hst
      obtain ⟨g1, g2⟩ := hst
      have g1 := Nat.eq_of_beq_eq_true g1
      have g2 := Nat.eq_of_beq_eq_true g2
      subst g1 g2
      simp only [Option.some.injEq, Prod.mk.injEq] at hd
      obtain ⟨rfl, rfl⟩ := hd
      obtain ⟨hI_u, hI_v, hp⟩ := hp
      have heq : agsEqv [.c (.sl q_u n_u 1 F_u), .c (.sl q_v n_v 1 F_v)] [.c (.sl q_u (eI.list n_u F_u).length 1 (eI.F (eI.list n_u F_u))), .c (.sl q_v (eI.list n_v F_v).length 1 (eI.F (eI.list n_v F_v)))] := ⟨eI.to id hI_u, eI.to id hI_v, trivial⟩
      have len_u : (eI.list n_u F_u).length = n_u := eI.list_len
      have len_v : (eI.list n_v F_v).length = n_v := eI.list_len
      generalize eI.list n_u F_u = u at *
      generalize eI.list n_v F_v = v at *
      subst len_u len_v
      exact fokX_fin mixed gw_stable (sl := []) trivial Try.func34 hw hl hG hx heq rfl (t34 q_u u q_v v) (w34 u v hp.1)
    · cases hd
  · cases hd
theorem S34 : SumOK Try.prog G0 gw 34 (fokSm dom34) := fok_sum Try.func34 rfl C34
def dom63 : DomF
  | [.c (.sl _ n_l st_l F_l)] => (match Nat.beq st_l 7 with
    | true => some ([eC.Is n_l F_l], [rB (M.some_ (eC.list n_l F_l))])
    | _ => none)
  | _ => none
def v63 : Nat × Sm := (63, fokSm dom63)
theorem C63 : FOK Try.prog G0 gw 63 dom63 := by
  intro ags p r hd hp κ w xs hw hl hG hx
  unfold dom63 at hd
  split at hd
  · rename_i q_l n_l st_l F_l
    split at hd
    · rename_i hst
      have g1 := hst
      have g1 := Nat.eq_of_beq_eq_true g1
      subst g1
      simp only [Option.some.injEq, Prod.mk.injEq] at hd
      obtain ⟨rfl, rfl⟩ := hd
      obtain ⟨hI_l, hp⟩ := hp
      have heq : agsEqv [.c (.sl q_l n_l 7 F_l)] [.c (.sl q_l (eC.list n_l F_l).length 7 (eC.F (eC.list n_l F_l)))] := ⟨eC.to id hI_l, trivial⟩
      have len_l : (eC.list n_l F_l).length = n_l := eC.list_len
      generalize eC.list n_l F_l = l at *
      subst len_l
      exact fokX_fin mixed gw_stable (sl := []) trivial Try.func63 hw hl hG hx heq rfl (t63 q_l l) (w63 l)
    · cases hd
  · cases hd
theorem S63 : SumOK Try.prog G0 gw 63 (fokSm dom63) := fok_sum Try.func63 rfl C63
def dom21 : DomF
  | [.c (.sl _ n_l st_l F_l)] => (match Nat.beq st_l 7 with
    | true => some ([eC.Is n_l F_l, (eC.list n_l F_l).length ≤ 1000000], [.c (.sl true n_l 7 (eC.F (eC.list n_l F_l)))])
    | _ => none)
  | _ => none
def v21 : Nat × Sm := (21, fokSm dom21)
theorem C21 : FOK Try.prog G0 gw 21 dom21 := by
  intro ags p r hd hp κ w xs hw hl hG hx
  unfold dom21 at hd
  split at hd
  · rename_i q_l n_l st_l F_l
    split at hd
    · rename_i hst
      have g1 := hst
      have g1 := Nat.eq_of_beq_eq_true g1
      subst g1
      simp only [Option.some.injEq, Prod.mk.injEq] at hd
      obtain ⟨rfl, rfl⟩ := hd
      obtain ⟨hI_l, hp⟩ := hp
      have heq : agsEqv [.c (.sl q_l n_l 7 F_l)] [.c (.sl q_l (eC.list n_l F_l).length 7 (eC.F (eC.list n_l F_l)))] := ⟨eC.to id hI_l, trivial⟩
      have len_l : (eC.list n_l F_l).length = n_l := eC.list_len
      generalize eC.list n_l F_l = l at *
      subst len_l
      exact fokX_fin mixed gw_stable (sl := []) trivial Try.func21 hw hl hG hx heq rfl (t21 q_l l) (⟨by have := hp.1; omega, Nat.le_refl _, ⟨copy_eqv eC l _, trivial⟩⟩)
    · cases hd
  · cases hd
theorem S21 : SumOK Try.prog G0 gw 21 (fokSm dom21) := fok_sum Try.func21 rfl C21
end Go.Bl
end

section
set_option linter.unusedVariables false
set_option linter.unusedSimpArgs false
set_option maxRecDepth 100000
namespace Go.Bl
open Go.V Go.Proofs
theorem is3 {F : Nat → Nat → D} {a b c : Int} (h0 : F 0 0 = dI a) (h1 : F 1 0 = dI b) (h2 : F 2 0 = dI c) : eI.Is 3 F := by
  intro i j hi hj
  obtain rfl : j = 0 := Nat.lt_one_iff.1 hj
  match i, hi with
  | 0, _ => show (F 0 0).eqv (dI (rdI (F 0) 0)); unfold rdI; rw [h0]; exact D.eqv_refl _
  | 1, _ => show (F 1 0).eqv (dI (rdI (F 1) 0)); unfold rdI; rw [h1]; exact D.eqv_refl _
  | 2, _ => show (F 2 0).eqv (dI (rdI (F 2) 0)); unfold rdI; rw [h2]; exact D.eqv_refl _
theorem exC_nm : ∀ c, c ∈ eC.list 3 (eC.F exC) → c.nm.size ≤ 1000000 := by
  have : eC.list 3 (eC.F exC) = exC := Enc.list_F eC exC
  rw [this]
  decide
def tr40c : T (List Ar) :=
    T.need (Enc.Is eC (3 : Nat) (Enc.F eC [{ nm := { data := { toList := [(100 : UInt8), (114 : UInt8), (121 : UInt8)] } }, vol := (100 : Int), cost := (10 : Int), k0 := (0 : Int), k1 := (0 : Int), k2 := (0 : Int), k3 := (0 : Int) }, { nm := { data := { toList := [(115 : UInt8), (119 : UInt8), (101 : UInt8), (101 : UInt8), (116 : UInt8)] } }, vol := (100 : Int), cost := (30 : Int), k0 := (100 : Int), k1 := (0 : Int), k2 := (0 : Int), k3 := (0 : Int) }, { nm := { data := { toList := [(114 : UInt8), (105 : UInt8), (99 : UInt8), (104 : UInt8)] } }, vol := (50 : Int), cost := (20 : Int), k0 := (200 : Int), k1 := (0 : Int), k2 := (0 : Int), k3 := (0 : Int) }])) (T.need (∀ (c : Cask), c ∈ Enc.list eC (3 : Nat) (Enc.F eC exC) → ByteArray.size (Cask.nm c) ≤ (1000000 : Nat)) (T.need ((0 : Int) ≤ (0 : Int)) (T.need ((0 : Int) < (2 : Int)) (T.need ((0 : Int) ≤ (1 : Int)) (T.need ((1 : Int) < (2 : Int)) (T.need ((0 : Int) ≤ (0 : Int)) (T.need ((0 : Int) < (2 : Int)) (T.need ((0 : Int) ≤ (0 : Int)) (T.need ((0 : Int) < (2 : Int)) (T.need ((0 : Int) ≤ (0 : Int)) (T.need ((0 : Int) < (3 : Int)) (T.need ((0 : Int) ≤ (1 : Int)) (T.need ((1 : Int) < (2 : Int)) (T.need ((0 : Int) ≤ (2 : Int)) (T.need ((2 : Int) < (3 : Int)) (T.need (Enc.Is eC (3 : Nat) (Enc.F eC [{ nm := { data := { toList := [(100 : UInt8), (114 : UInt8), (121 : UInt8)] } }, vol := (100 : Int), cost := (10 : Int), k0 := (0 : Int), k1 := (0 : Int), k2 := (0 : Int), k3 := (0 : Int) }, { nm := { data := { toList := [(115 : UInt8), (119 : UInt8), (101 : UInt8), (101 : UInt8), (116 : UInt8)] } }, vol := (100 : Int), cost := (30 : Int), k0 := (100 : Int), k1 := (0 : Int), k2 := (0 : Int), k3 := (0 : Int) }, { nm := { data := { toList := [(114 : UInt8), (105 : UInt8), (99 : UInt8), (104 : UInt8)] } }, vol := (50 : Int), cost := (20 : Int), k0 := (200 : Int), k1 := (0 : Int), k2 := (0 : Int), k3 := (0 : Int) }])) (T.need (Enc.Is eI (3 : Nat) fun (i j : Nat) => List.getD [D.int IntKind.i64 (100 : Int), D.int IntKind.i64 (0 : Int), D.int IntKind.i64 (50 : Int)] (i * (1 : Nat) + j) D.nilp) (T.need ((3 : Nat) ≤ (3 : Nat)) (T.need ((3 : Nat) ≤ (1000 : Nat)) (T.need (Enc.Is eC (3 : Nat) (Enc.F eC [{ nm := { data := { toList := [(100 : UInt8), (114 : UInt8), (121 : UInt8)] } }, vol := (100 : Int), cost := (10 : Int), k0 := (0 : Int), k1 := (0 : Int), k2 := (0 : Int), k3 := (0 : Int) }, { nm := { data := { toList := [(115 : UInt8), (119 : UInt8), (101 : UInt8), (101 : UInt8), (116 : UInt8)] } }, vol := (100 : Int), cost := (30 : Int), k0 := (100 : Int), k1 := (0 : Int), k2 := (0 : Int), k3 := (0 : Int) }, { nm := { data := { toList := [(114 : UInt8), (105 : UInt8), (99 : UInt8), (104 : UInt8)] } }, vol := (50 : Int), cost := (20 : Int), k0 := (200 : Int), k1 := (0 : Int), k2 := (0 : Int), k3 := (0 : Int) }])) (T.need (Enc.Is eI (3 : Nat) fun (i j : Nat) => List.getD [D.int IntKind.i64 (100 : Int), D.int IntKind.i64 (0 : Int), D.int IntKind.i64 (50 : Int)] (i * (1 : Nat) + j) D.nilp) (T.need ((3 : Nat) ≤ (3 : Nat)) (T.need ((3 : Nat) ≤ (1000 : Nat)) (T.need (Enc.Is eC (3 : Nat) (Enc.F eC [{ nm := { data := { toList := [(100 : UInt8), (114 : UInt8), (121 : UInt8)] } }, vol := (100 : Int), cost := (10 : Int), k0 := (0 : Int), k1 := (0 : Int), k2 := (0 : Int), k3 := (0 : Int) }, { nm := { data := { toList := [(115 : UInt8), (119 : UInt8), (101 : UInt8), (101 : UInt8), (116 : UInt8)] } }, vol := (100 : Int), cost := (30 : Int), k0 := (100 : Int), k1 := (0 : Int), k2 := (0 : Int), k3 := (0 : Int) }, { nm := { data := { toList := [(114 : UInt8), (105 : UInt8), (99 : UInt8), (104 : UInt8)] } }, vol := (50 : Int), cost := (20 : Int), k0 := (200 : Int), k1 := (0 : Int), k2 := (0 : Int), k3 := (0 : Int) }])) (T.need (Enc.Is eI (3 : Nat) fun (i j : Nat) => List.getD [D.int IntKind.i64 (100 : Int), D.int IntKind.i64 (0 : Int), D.int IntKind.i64 (50 : Int)] (i * (1 : Nat) + j) D.nilp) (T.need ((3 : Nat) ≤ (3 : Nat)) (T.need ((3 : Nat) ≤ (1000 : Nat)) (T.need (Enc.Is eC (3 : Nat) (Enc.F eC [{ nm := { data := { toList := [(100 : UInt8), (114 : UInt8), (121 : UInt8)] } }, vol := (100 : Int), cost := (10 : Int), k0 := (0 : Int), k1 := (0 : Int), k2 := (0 : Int), k3 := (0 : Int) }, { nm := { data := { toList := [(115 : UInt8), (119 : UInt8), (101 : UInt8), (101 : UInt8), (116 : UInt8)] } }, vol := (100 : Int), cost := (30 : Int), k0 := (100 : Int), k1 := (0 : Int), k2 := (0 : Int), k3 := (0 : Int) }, { nm := { data := { toList := [(114 : UInt8), (105 : UInt8), (99 : UInt8), (104 : UInt8)] } }, vol := (50 : Int), cost := (20 : Int), k0 := (200 : Int), k1 := (0 : Int), k2 := (0 : Int), k3 := (0 : Int) }])) (T.need (Enc.Is eI (3 : Nat) fun (i j : Nat) => List.getD [D.int IntKind.i64 (100 : Int), D.int IntKind.i64 (0 : Int), D.int IntKind.i64 (50 : Int)] (i * (1 : Nat) + j) D.nilp) (T.need ((3 : Nat) ≤ (3 : Nat)) (T.need ((3 : Nat) ≤ (1000 : Nat)) (T.need (Enc.Is eC (3 : Nat) (Enc.F eC [{ nm := { data := { toList := [(100 : UInt8), (114 : UInt8), (121 : UInt8)] } }, vol := (100 : Int), cost := (10 : Int), k0 := (0 : Int), k1 := (0 : Int), k2 := (0 : Int), k3 := (0 : Int) }, { nm := { data := { toList := [(115 : UInt8), (119 : UInt8), (101 : UInt8), (101 : UInt8), (116 : UInt8)] } }, vol := (100 : Int), cost := (30 : Int), k0 := (100 : Int), k1 := (0 : Int), k2 := (0 : Int), k3 := (0 : Int) }, { nm := { data := { toList := [(114 : UInt8), (105 : UInt8), (99 : UInt8), (104 : UInt8)] } }, vol := (50 : Int), cost := (20 : Int), k0 := (200 : Int), k1 := (0 : Int), k2 := (0 : Int), k3 := (0 : Int) }])) (T.need (Enc.Is eI (3 : Nat) fun (i j : Nat) => List.getD [D.int IntKind.i64 (100 : Int), D.int IntKind.i64 (0 : Int), D.int IntKind.i64 (50 : Int)] (i * (1 : Nat) + j) D.nilp) (T.need ((3 : Nat) ≤ (3 : Nat)) (T.need ((3 : Nat) ≤ (1000 : Nat)) (T.ret [Ar.agg [D.int IntKind.i64 (66 : Int), D.int IntKind.i64 (67 : Int), D.int IntKind.i64 (0 : Int), D.int IntKind.i64 (0 : Int), D.int IntKind.i64 (0 : Int), D.int IntKind.i64 (0 : Int), D.int IntKind.i64 (0 : Int), D.int IntKind.i64 (0 : Int)], Ar.c (D.int IntKind.i64 (0 : Int))]))))))))))))))))))))))))))))))))))))
theorem t40c (q q2 : Bool) : runFnX Try.prog G0 (lookS [v47, v64, v85, v97]) (fun _ => [(999999, [], none)]) [96, 102, 80, 90] 1 20 6 40 Try.f40 [.c (.sl q 3 7 (eC.F exC)), .c (.sl q2 2 1 (eI.F [0, 2]))] =
    tr40c := by kernel_rfl
def tr30c : T (List Ar) :=
    T.need (Enc.Is eC (3 : Nat) (Enc.F eC [{ nm := { data := { toList := [(100 : UInt8), (114 : UInt8), (121 : UInt8)] } }, vol := (100 : Int), cost := (10 : Int), k0 := (0 : Int), k1 := (0 : Int), k2 := (0 : Int), k3 := (0 : Int) }, { nm := { data := { toList := [(115 : UInt8), (119 : UInt8), (101 : UInt8), (101 : UInt8), (116 : UInt8)] } }, vol := (100 : Int), cost := (30 : Int), k0 := (100 : Int), k1 := (0 : Int), k2 := (0 : Int), k3 := (0 : Int) }, { nm := { data := { toList := [(114 : UInt8), (105 : UInt8), (99 : UInt8), (104 : UInt8)] } }, vol := (50 : Int), cost := (20 : Int), k0 := (200 : Int), k1 := (0 : Int), k2 := (0 : Int), k3 := (0 : Int) }])) (T.need (∀ (c : Cask), c ∈ Enc.list eC (3 : Nat) (Enc.F eC exC) → ByteArray.size (Cask.nm c) ≤ (1000000 : Nat)) (T.need (Enc.Is eC (3 : Nat) (Enc.F eC [{ nm := { data := { toList := [(100 : UInt8), (114 : UInt8), (121 : UInt8)] } }, vol := (100 : Int), cost := (10 : Int), k0 := (0 : Int), k1 := (0 : Int), k2 := (0 : Int), k3 := (0 : Int) }, { nm := { data := { toList := [(115 : UInt8), (119 : UInt8), (101 : UInt8), (101 : UInt8), (116 : UInt8)] } }, vol := (100 : Int), cost := (30 : Int), k0 := (100 : Int), k1 := (0 : Int), k2 := (0 : Int), k3 := (0 : Int) }, { nm := { data := { toList := [(114 : UInt8), (105 : UInt8), (99 : UInt8), (104 : UInt8)] } }, vol := (50 : Int), cost := (20 : Int), k0 := (200 : Int), k1 := (0 : Int), k2 := (0 : Int), k3 := (0 : Int) }])) (T.need (Enc.Is eI (3 : Nat) fun (i j : Nat) => List.getD [D.int IntKind.i64 (0 : Int), D.int IntKind.i64 (0 : Int), D.int IntKind.i64 (0 : Int)] (i * (1 : Nat) + j) D.nilp) (T.need ((3 : Nat) ≤ (3 : Nat)) (T.need ((3 : Nat) ≤ (1000 : Nat)) (T.need ((1 : Nat) ≤ (1000000 : Nat)) (T.need ((0 : Int) ≤ (0 : Int)) (T.need ((0 : Int) < (1 : Int)) (T.need ((0 : Nat) < (1 : Nat)) (T.need ((0 : Int) ≤ (0 : Int)) (T.need ((0 : Int) < (3 : Int)) (T.need (Enc.Is eC (3 : Nat) (Enc.F eC [{ nm := { data := { toList := [(100 : UInt8), (114 : UInt8), (121 : UInt8)] } }, vol := (100 : Int), cost := (10 : Int), k0 := (0 : Int), k1 := (0 : Int), k2 := (0 : Int), k3 := (0 : Int) }, { nm := { data := { toList := [(115 : UInt8), (119 : UInt8), (101 : UInt8), (101 : UInt8), (116 : UInt8)] } }, vol := (100 : Int), cost := (30 : Int), k0 := (100 : Int), k1 := (0 : Int), k2 := (0 : Int), k3 := (0 : Int) }, { nm := { data := { toList := [(114 : UInt8), (105 : UInt8), (99 : UInt8), (104 : UInt8)] } }, vol := (50 : Int), cost := (20 : Int), k0 := (200 : Int), k1 := (0 : Int), k2 := (0 : Int), k3 := (0 : Int) }])) (T.need (Enc.Is eI (3 : Nat) fun (i j : Nat) => List.getD [D.int IntKind.i64 (100 : Int), D.int IntKind.i64 (0 : Int), D.int IntKind.i64 (0 : Int)] (i * (1 : Nat) + j) D.nilp) (T.need ((3 : Nat) ≤ (3 : Nat)) (T.need ((3 : Nat) ≤ (1000 : Nat)) (T.need ((1 : Nat) ≤ (1000000 : Nat)) (T.need ((0 : Int) ≤ (0 : Int)) (T.need ((0 : Int) < (1 : Int)) (T.need ((0 : Nat) < (1 : Nat)) (T.need ((0 : Int) ≤ (1 : Int)) (T.need ((1 : Int) < (3 : Int)) (T.need (Enc.Is eC (3 : Nat) (Enc.F eC [{ nm := { data := { toList := [(100 : UInt8), (114 : UInt8), (121 : UInt8)] } }, vol := (100 : Int), cost := (10 : Int), k0 := (0 : Int), k1 := (0 : Int), k2 := (0 : Int), k3 := (0 : Int) }, { nm := { data := { toList := [(115 : UInt8), (119 : UInt8), (101 : UInt8), (101 : UInt8), (116 : UInt8)] } }, vol := (100 : Int), cost := (30 : Int), k0 := (100 : Int), k1 := (0 : Int), k2 := (0 : Int), k3 := (0 : Int) }, { nm := { data := { toList := [(114 : UInt8), (105 : UInt8), (99 : UInt8), (104 : UInt8)] } }, vol := (50 : Int), cost := (20 : Int), k0 := (200 : Int), k1 := (0 : Int), k2 := (0 : Int), k3 := (0 : Int) }])) (T.need (Enc.Is eI (3 : Nat) fun (i j : Nat) => List.getD [D.int IntKind.i64 (0 : Int), D.int IntKind.i64 (100 : Int), D.int IntKind.i64 (0 : Int)] (i * (1 : Nat) + j) D.nilp) (T.need ((3 : Nat) ≤ (3 : Nat)) (T.need ((3 : Nat) ≤ (1000 : Nat)) (T.need ((1 : Nat) ≤ (1000000 : Nat)) (T.need ((2 : Nat) ≤ (1000000 : Nat)) (T.need ((1 : Nat) ≤ (1 : Nat)) (T.need ((0 : Int) ≤ (0 : Int)) (T.need ((0 : Int) < (2 : Int)) (T.need ((0 : Nat) < (2 : Nat)) (T.need ((0 : Int) ≤ (0 : Int)) (T.need ((0 : Int) < (3 : Int)) (T.need ((0 : Int) ≤ (1 : Int)) (T.need ((1 : Int) < (2 : Int)) (T.need ((1 : Nat) < (2 : Nat)) (T.need ((0 : Int) ≤ (1 : Int)) (T.need ((1 : Int) < (3 : Int)) (T.need (Enc.Is eC (3 : Nat) (Enc.F eC [{ nm := { data := { toList := [(100 : UInt8), (114 : UInt8), (121 : UInt8)] } }, vol := (100 : Int), cost := (10 : Int), k0 := (0 : Int), k1 := (0 : Int), k2 := (0 : Int), k3 := (0 : Int) }, { nm := { data := { toList := [(115 : UInt8), (119 : UInt8), (101 : UInt8), (101 : UInt8), (116 : UInt8)] } }, vol := (100 : Int), cost := (30 : Int), k0 := (100 : Int), k1 := (0 : Int), k2 := (0 : Int), k3 := (0 : Int) }, { nm := { data := { toList := [(114 : UInt8), (105 : UInt8), (99 : UInt8), (104 : UInt8)] } }, vol := (50 : Int), cost := (20 : Int), k0 := (200 : Int), k1 := (0 : Int), k2 := (0 : Int), k3 := (0 : Int) }])) (T.need (Enc.Is eI (3 : Nat) fun (i j : Nat) => List.getD [D.int IntKind.i64 (100 : Int), D.int IntKind.i64 (100 : Int), D.int IntKind.i64 (0 : Int)] (i * (1 : Nat) + j) D.nilp) (T.need ((3 : Nat) ≤ (3 : Nat)) (T.need ((3 : Nat) ≤ (1000 : Nat)) (T.need ((1 : Nat) ≤ (1000000 : Nat)) (T.need ((0 : Int) ≤ (0 : Int)) (T.need ((0 : Int) < (1 : Int)) (T.need ((0 : Nat) < (1 : Nat)) (T.need ((0 : Int) ≤ (2 : Int)) (T.need ((2 : Int) < (3 : Int)) (T.need (Enc.Is eC (3 : Nat) (Enc.F eC [{ nm := { data := { toList := [(100 : UInt8), (114 : UInt8), (121 : UInt8)] } }, vol := (100 : Int), cost := (10 : Int), k0 := (0 : Int), k1 := (0 : Int), k2 := (0 : Int), k3 := (0 : Int) }, { nm := { data := { toList := [(115 : UInt8), (119 : UInt8), (101 : UInt8), (101 : UInt8), (116 : UInt8)] } }, vol := (100 : Int), cost := (30 : Int), k0 := (100 : Int), k1 := (0 : Int), k2 := (0 : Int), k3 := (0 : Int) }, { nm := { data := { toList := [(114 : UInt8), (105 : UInt8), (99 : UInt8), (104 : UInt8)] } }, vol := (50 : Int), cost := (20 : Int), k0 := (200 : Int), k1 := (0 : Int), k2 := (0 : Int), k3 := (0 : Int) }])) (T.need (Enc.Is eI (3 : Nat) fun (i j : Nat) => List.getD [D.int IntKind.i64 (0 : Int), D.int IntKind.i64 (0 : Int), D.int IntKind.i64 (50 : Int)] (i * (1 : Nat) + j) D.nilp) (T.need ((3 : Nat) ≤ (3 : Nat)) (T.need ((3 : Nat) ≤ (1000 : Nat)) (T.need ((1 : Nat) ≤ (1000000 : Nat)) (T.need ((2 : Nat) ≤ (1000000 : Nat)) (T.need ((1 : Nat) ≤ (1 : Nat)) (T.need ((0 : Int) ≤ (0 : Int)) (T.need ((0 : Int) < (2 : Int)) (T.need ((0 : Nat) < (2 : Nat)) (T.need ((0 : Int) ≤ (0 : Int)) (T.need ((0 : Int) < (3 : Int)) (T.need ((0 : Int) ≤ (1 : Int)) (T.need ((1 : Int) < (2 : Int)) (T.need ((1 : Nat) < (2 : Nat)) (T.need ((0 : Int) ≤ (2 : Int)) (T.need ((2 : Int) < (3 : Int)) (T.need (Enc.Is eC (3 : Nat) (Enc.F eC [{ nm := { data := { toList := [(100 : UInt8), (114 : UInt8), (121 : UInt8)] } }, vol := (100 : Int), cost := (10 : Int), k0 := (0 : Int), k1 := (0 : Int), k2 := (0 : Int), k3 := (0 : Int) }, { nm := { data := { toList := [(115 : UInt8), (119 : UInt8), (101 : UInt8), (101 : UInt8), (116 : UInt8)] } }, vol := (100 : Int), cost := (30 : Int), k0 := (100 : Int), k1 := (0 : Int), k2 := (0 : Int), k3 := (0 : Int) }, { nm := { data := { toList := [(114 : UInt8), (105 : UInt8), (99 : UInt8), (104 : UInt8)] } }, vol := (50 : Int), cost := (20 : Int), k0 := (200 : Int), k1 := (0 : Int), k2 := (0 : Int), k3 := (0 : Int) }])) (T.need (Enc.Is eI (3 : Nat) fun (i j : Nat) => List.getD [D.int IntKind.i64 (100 : Int), D.int IntKind.i64 (0 : Int), D.int IntKind.i64 (50 : Int)] (i * (1 : Nat) + j) D.nilp) (T.need ((3 : Nat) ≤ (3 : Nat)) (T.need ((3 : Nat) ≤ (1000 : Nat)) (T.need (Enc.Is eC (3 : Nat) (Enc.F eC [{ nm := { data := { toList := [(100 : UInt8), (114 : UInt8), (121 : UInt8)] } }, vol := (100 : Int), cost := (10 : Int), k0 := (0 : Int), k1 := (0 : Int), k2 := (0 : Int), k3 := (0 : Int) }, { nm := { data := { toList := [(115 : UInt8), (119 : UInt8), (101 : UInt8), (101 : UInt8), (116 : UInt8)] } }, vol := (100 : Int), cost := (30 : Int), k0 := (100 : Int), k1 := (0 : Int), k2 := (0 : Int), k3 := (0 : Int) }, { nm := { data := { toList := [(114 : UInt8), (105 : UInt8), (99 : UInt8), (104 : UInt8)] } }, vol := (50 : Int), cost := (20 : Int), k0 := (200 : Int), k1 := (0 : Int), k2 := (0 : Int), k3 := (0 : Int) }])) (T.need (Enc.Is eI (3 : Nat) fun (i j : Nat) => List.getD [D.int IntKind.i64 (100 : Int), D.int IntKind.i64 (0 : Int), D.int IntKind.i64 (50 : Int)] (i * (1 : Nat) + j) D.nilp) (T.need ((3 : Nat) ≤ (3 : Nat)) (T.need ((3 : Nat) ≤ (1000 : Nat)) (T.need ((1 : Int) ≠ (0 : Int)) (T.need ((1 : Nat) < (9223372036854775808 : Nat)) (T.need ((2000 : Nat) < (9223372036854775808 : Nat)) (T.need ((1 : Nat) ≤ (1000000 : Nat)) (T.need ((2 : Nat) ≤ (1000000 : Nat)) (T.need ((1 : Nat) ≤ (1 : Nat)) (T.need ((0 : Int) ≤ (0 : Int)) (T.need ((0 : Int) < (2 : Int)) (T.need ((0 : Nat) < (2 : Nat)) (T.need ((0 : Int) ≤ (1 : Int)) (T.need ((1 : Int) < (3 : Int)) (T.need ((0 : Int) ≤ (1 : Int)) (T.need ((1 : Int) < (2 : Int)) (T.need ((1 : Nat) < (2 : Nat)) (T.need ((0 : Int) ≤ (2 : Int)) (T.need ((2 : Int) < (3 : Int)) (T.need (Enc.Is eC (3 : Nat) (Enc.F eC [{ nm := { data := { toList := [(100 : UInt8), (114 : UInt8), (121 : UInt8)] } }, vol := (100 : Int), cost := (10 : Int), k0 := (0 : Int), k1 := (0 : Int), k2 := (0 : Int), k3 := (0 : Int) }, { nm := { data := { toList := [(115 : UInt8), (119 : UInt8), (101 : UInt8), (101 : UInt8), (116 : UInt8)] } }, vol := (100 : Int), cost := (30 : Int), k0 := (100 : Int), k1 := (0 : Int), k2 := (0 : Int), k3 := (0 : Int) }, { nm := { data := { toList := [(114 : UInt8), (105 : UInt8), (99 : UInt8), (104 : UInt8)] } }, vol := (50 : Int), cost := (20 : Int), k0 := (200 : Int), k1 := (0 : Int), k2 := (0 : Int), k3 := (0 : Int) }])) (T.need (Enc.Is eI (3 : Nat) fun (i j : Nat) => List.getD [D.int IntKind.i64 (0 : Int), D.int IntKind.i64 (100 : Int), D.int IntKind.i64 (50 : Int)] (i * (1 : Nat) + j) D.nilp) (T.need ((3 : Nat) ≤ (3 : Nat)) (T.need ((3 : Nat) ≤ (1000 : Nat)) (T.need ((1 : Nat) ≤ (1000000 : Nat)) (T.need ((2 : Nat) ≤ (1000000 : Nat)) (T.need ((1 : Nat) ≤ (1 : Nat)) (T.need ((3 : Nat) ≤ (1000000 : Nat)) (T.need ((2 : Nat) ≤ (2 : Nat)) (T.need ((0 : Int) ≤ (0 : Int)) (T.need ((0 : Int) < (3 : Int)) (T.need ((0 : Nat) < (3 : Nat)) (T.need ((0 : Int) ≤ (0 : Int)) (T.need ((0 : Int) < (3 : Int)) (T.need ((0 : Int) ≤ (1 : Int)) (T.need ((1 : Int) < (3 : Int)) (T.need ((1 : Nat) < (3 : Nat)) (T.need ((0 : Int) ≤ (1 : Int)) (T.need ((1 : Int) < (3 : Int)) (T.need ((0 : Int) ≤ (2 : Int)) (T.need ((2 : Int) < (3 : Int)) (T.need ((2 : Nat) < (3 : Nat)) (T.need ((0 : Int) ≤ (2 : Int)) (T.need ((2 : Int) < (3 : Int)) (T.need (Enc.Is eC (3 : Nat) (Enc.F eC [{ nm := { data := { toList := [(100 : UInt8), (114 : UInt8), (121 : UInt8)] } }, vol := (100 : Int), cost := (10 : Int), k0 := (0 : Int), k1 := (0 : Int), k2 := (0 : Int), k3 := (0 : Int) }, { nm := { data := { toList := [(115 : UInt8), (119 : UInt8), (101 : UInt8), (101 : UInt8), (116 : UInt8)] } }, vol := (100 : Int), cost := (30 : Int), k0 := (100 : Int), k1 := (0 : Int), k2 := (0 : Int), k3 := (0 : Int) }, { nm := { data := { toList := [(114 : UInt8), (105 : UInt8), (99 : UInt8), (104 : UInt8)] } }, vol := (50 : Int), cost := (20 : Int), k0 := (200 : Int), k1 := (0 : Int), k2 := (0 : Int), k3 := (0 : Int) }])) (T.need (Enc.Is eI (3 : Nat) fun (i j : Nat) => List.getD [D.int IntKind.i64 (100 : Int), D.int IntKind.i64 (100 : Int), D.int IntKind.i64 (50 : Int)] (i * (1 : Nat) + j) D.nilp) (T.need ((3 : Nat) ≤ (3 : Nat)) (T.need ((3 : Nat) ≤ (1000 : Nat)) (T.need ((2 : Nat) ≤ (2 : Nat)) (T.ret [Ar.c (D.sl true (2 : Nat) (1 : Nat) (joinF (1 : Nat) (joinF (0 : Nat) (fun (x x_1 : Nat) => D.nilp) fun (i j : Nat) => List.getD [D.int IntKind.i64 (0 : Int)] (i * (1 : Nat) + j) D.nilp) fun (i j : Nat) => List.getD [D.int IntKind.i64 (2 : Int)] (i * (1 : Nat) + j) D.nilp)), Ar.c (D.int IntKind.i64 (2000 : Int)), Ar.c (D.int IntKind.i64 (0 : Int))])))))))))))))))))))))))))))))))))))))))))))))))))))))))))))))))))))))))))))))))))))))))))))))))))))))))))))))))))))))))
theorem t30c (q : Bool) : runFnX Try.prog G0 (lookS [v47, v49, v64, v68, v91]) (fun _ => [(999999, [], none)]) [90, 92, 123, 145] 1 20 6 30 Try.f30 [.c (.sl q 3 7 (eC.F exC)), .agg [dI 100, dI 60, dI 70, dI 0, dI 1000, dI 0, dI 1000, dI 0, dI 1000]] =
    tr30c := by kernel_rfl
theorem w40c : tr40c.wp (fun rs => rsEqv rs [.agg [dI 66, dI 67, dI 0, dI 0, dI 0, dI 0, dI 0, dI 0], rI 0]) := by
  unfold tr40c
  repeat (first | refine ⟨by decide, ?_⟩ | refine ⟨exC_nm, ?_⟩ | refine ⟨Enc.is_F _ _ _, ?_⟩ | refine ⟨is3 rfl rfl rfl, ?_⟩ | refine ⟨by decide +kernel, ?_⟩)
  exact ⟨⟨rfl, rfl, rfl, rfl, rfl, rfl, rfl, rfl, trivial⟩, rfl, trivial⟩
theorem w30c : tr30c.wp (fun rs => rsEqv rs [.c (dL [0, 2]), rI 2000, rI 0]) := by
  unfold tr30c
  repeat (first | refine ⟨by decide, ?_⟩ | refine ⟨exC_nm, ?_⟩ | refine ⟨Enc.is_F _ _ _, ?_⟩ | refine ⟨is3 rfl rfl rfl, ?_⟩ | refine ⟨by decide +kernel, ?_⟩)
  refine ⟨⟨(fun e => by cases e), rfl, fun _ => rfl, fun i j hi hj => ?_⟩, rfl, rfl, trivial⟩
  obtain rfl : j = 0 := Nat.lt_one_iff.1 hj
  match i, hi with
  | 0, _ => exact D.eqv_refl _
  | 1, _ => exact D.eqv_refl _
def dom30c : DomF
  | [.c (.sl _ n_l st_l F_l), .agg [.int .i64 sv, .int .i64 l0, .int .i64 h0, .int .i64 l1, .int .i64 h1, .int .i64 l2, .int .i64 h2, .int .i64 l3, .int .i64 h3]] => (match Nat.beq st_l 7 with
    | true => some ([eC.Is n_l F_l, (eC.list n_l F_l) = exC, (⟨sv, ⟨l0, h0⟩, ⟨l1, h1⟩, ⟨l2, h2⟩, ⟨l3, h3⟩⟩ : Sample) = exS 60 70], [.c (dL [0, 2]), rI 2000, rI 0])
    | _ => none)
  | _ => none
def v30c : Nat × Sm := (30, fokSm dom30c)
theorem C30c : FOK Try.prog G0 gw 30 dom30c := by
  intro ags p r hd hp κ w xs hw hl hG hx
  unfold dom30c at hd
  split at hd
  · rename_i q_l n_l st_l F_l sv l0 h0 l1 h1 l2 h2 l3 h3
    split at hd
    · rename_i hst
      have g1 := hst
      have g1 := Nat.eq_of_beq_eq_true g1
      subst g1
      simp only [Option.some.injEq, Prod.mk.injEq] at hd
      obtain ⟨rfl, rfl⟩ := hd
      obtain ⟨hI_l, hp⟩ := hp
      have heq : agsEqv [.c (.sl q_l n_l 7 F_l), .agg [.int .i64 sv, .int .i64 l0, .int .i64 h0, .int .i64 l1, .int .i64 h1, .int .i64 l2, .int .i64 h2, .int .i64 l3, .int .i64 h3]] [.c (.sl q_l (eC.list n_l F_l).length 7 (eC.F (eC.list n_l F_l))), .agg [.int .i64 sv, .int .i64 l0, .int .i64 h0, .int .i64 l1, .int .i64 h1, .int .i64 l2, .int .i64 h2, .int .i64 l3, .int .i64 h3]] := ⟨eC.to id hI_l, Ag.eqv_refl _, trivial⟩
      have len_l : (eC.list n_l F_l).length = n_l := eC.list_len
      generalize eC.list n_l F_l = l at *
      subst len_l
      obtain ⟨rfl, hs, _⟩ := hp
      simp only [exS, Sample.mk.injEq, Rg.mk.injEq] at hs
      obtain ⟨rfl, ⟨rfl, rfl⟩, ⟨rfl, rfl⟩, ⟨rfl, rfl⟩, rfl, rfl⟩ := hs
      exact fokX_fin mixed gw_stable (sl := [v47, v49, v64, v68, v91]) ⟨S47, S49, S64, S68, S91, trivial⟩ Try.func30 hw hl hG hx heq rfl (t30c q_l) (w30c)
    · cases hd
  · cases hd
theorem S30c : SumOK Try.prog G0 gw 30 (fokSm dom30c) := fok_sum Try.func30 rfl C30c
def dom40c : DomF
  | [.c (.sl _ n_l st_l F_l), .c (.sl _ n_u st_u F_u)] => (match Nat.beq st_l 7 && Nat.beq st_u 1 with
    | true => some ([eC.Is n_l F_l, eI.Is n_u F_u, (eC.list n_l F_l) = exC, (eI.list n_u F_u) = [0, 2]], [.agg [dI 66, dI 67, dI 0, dI 0, dI 0, dI 0, dI 0, dI 0], rI 0])
    | _ => none)
  | _ => none
def v40c : Nat × Sm := (40, fokSm dom40c)
theorem C40c : FOK Try.prog G0 gw 40 dom40c := by
  intro ags p r hd hp κ w xs hw hl hG hx
  unfold dom40c at hd
  split at hd
  · rename_i q_l n_l st_l F_l q_u n_u st_u F_u
    split at hd
    · rename_i hst
      simp only [Bool.and_eq_true] at hst
      obtain ⟨g1, g2⟩ := hst
      have g1 := Nat.eq_of_beq_eq_true g1
      have g2 := Nat.eq_of_beq_eq_true g2
      subst g1 g2
      simp only [Option.some.injEq, Prod.mk.injEq] at hd
      obtain ⟨rfl, rfl⟩ := hd
      obtain ⟨hI_l, hI_u, hp⟩ := hp
      have heq : agsEqv [.c (.sl q_l n_l 7 F_l), .c (.sl q_u n_u 1 F_u)] [.c (.sl q_l (eC.list n_l F_l).length 7 (eC.F (eC.list n_l F_l))), .c (.sl q_u (eI.list n_u F_u).length 1 (eI.F (eI.list n_u F_u)))] := ⟨eC.to id hI_l, eI.to id hI_u, trivial⟩
      have len_l : (eC.list n_l F_l).length = n_l := eC.list_len
      have len_u : (eI.list n_u F_u).length = n_u := eI.list_len
      generalize eC.list n_l F_l = l at *
      generalize eI.list n_u F_u = u at *
      subst len_l len_u
      obtain ⟨rfl, rfl, _⟩ := hp
      exact fokX_fin mixed gw_stable (sl := [v47, v64, v85, v97]) ⟨S47, S64, S85, S97, trivial⟩ Try.func40 hw hl hG hx heq rfl (t40c q_l q_u) (w40c)
    · cases hd
  · cases hd
theorem S40c : SumOK Try.prog G0 gw 40 (fokSm dom40c) := fok_sum Try.func40 rfl C40c
end Go.Bl
end

section
set_option linter.unusedVariables false
set_option linter.unusedSimpArgs false
set_option maxRecDepth 100000
namespace Go.Bl
open Go.V Go.Proofs
def FA : Nat → Nat → D := fun (i j : Nat) => List.getD [D.str { data := { toList := [(100 : UInt8), (114 : UInt8), (121 : UInt8)] } }, D.int IntKind.i64 (100 : Int), D.int IntKind.i64 (10 : Int), D.int IntKind.i64 (0 : Int), D.int IntKind.i64 (0 : Int), D.int IntKind.i64 (0 : Int), D.int IntKind.i64 (0 : Int), D.str { data := { toList := [(115 : UInt8), (119 : UInt8), (101 : UInt8), (101 : UInt8), (116 : UInt8)] } }, D.int IntKind.i64 (100 : Int), D.int IntKind.i64 (30 : Int), D.int IntKind.i64 (100 : Int), D.int IntKind.i64 (0 : Int), D.int IntKind.i64 (0 : Int), D.int IntKind.i64 (0 : Int), D.str { data := { toList := [(114 : UInt8), (105 : UInt8), (99 : UInt8), (104 : UInt8)] } }, D.int IntKind.i64 (50 : Int), D.int IntKind.i64 (20 : Int), D.int IntKind.i64 (200 : Int), D.int IntKind.i64 (0 : Int), D.int IntKind.i64 (0 : Int), D.int IntKind.i64 (0 : Int)] (i * (7 : Nat) + j) D.nilp
def FI : Nat → Nat → D := fun (i j : Nat) => List.getD [D.int IntKind.i64 (0 : Int), D.int IntKind.i64 (2 : Int)] (i * (1 : Nat) + j) D.nilp
def tr18 : T (List Ar) :=
    T.need (Enc.Is eC (3 : Nat) FA) (T.need (∀ (c : Cask), (c ∈ Enc.list eC (3 : Nat) FA) → ByteArray.size (Cask.nm c) ≤ (1000000 : Nat)) (T.need (M.taskErr (Enc.list eC (3 : Nat) FA) (exS 50 60) = (0 : Int) → (1 : Nat) ≤ List.length (Enc.list eC (3 : Nat) FA) ∧ List.length (Enc.list eC (3 : Nat) FA) ≤ (4 : Nat) ∧ (∀ (c : Cond), c ∈ M.limits (Enc.list eC (3 : Nat) FA) (exS 50 60) (0 : Nat) → List.length (Cond.coefs c) = List.length (M.shares (Enc.list eC (3 : Nat) FA) (0 : Nat))) ∧ TurnOK (M.shares (Enc.list eC (3 : Nat) FA) (0 : Nat)) (M.limits (Enc.list eC (3 : Nat) FA) (exS 50 60) (0 : Nat)) ∧ ∀ (x : M.Corner), M.pBest (Enc.list eC (3 : Nat) FA) (exS 50 60) = some x → CornerOK (Enc.list eC (3 : Nat) FA) (List.length (Enc.list eC (3 : Nat) FA)) x ∧ i64ok (M.sumP Cask.cost (Enc.list eC (3 : Nat) FA) (M.Corner.pt x))) (T.need (Enc.Is eC (3 : Nat) FA) (T.need (∀ (c : Cask), (c ∈ Enc.list eC (3 : Nat) FA) → ByteArray.size (Cask.nm c) ≤ (1000000 : Nat)) (T.need ((3 : Nat) ≤ (1000000 : Nat)) (T.need (M.nearErr (Enc.list eC (3 : Nat) FA) (exS 180 200) = (0 : Int) → (1 : Nat) ≤ List.length (Enc.list eC (3 : Nat) FA) ∧ List.length (Enc.list eC (3 : Nat) FA) ≤ (4 : Nat) ∧ (∀ (c : Cond), c ∈ M.limits (Enc.list eC (3 : Nat) FA) (exS 180 200) (1 : Nat) → List.length (Cond.coefs c) = List.length (M.shares (Enc.list eC (3 : Nat) FA) (1 : Nat))) ∧ TurnOK (M.shares (Enc.list eC (3 : Nat) FA) (1 : Nat)) (M.limits (Enc.list eC (3 : Nat) FA) (exS 180 200) (1 : Nat)) ∧ List.length (Enc.list eC (3 : Nat) FA) ≤ List.length (M.Corner.pt (M.pNear (Enc.list eC (3 : Nat) FA) (exS 180 200))) ∧ M.sumP (fun (x : Cask) => (1 : Int)) (Enc.list eC (3 : Nat) FA) (List.take (List.length (Enc.list eC (3 : Nat) FA)) (M.Corner.pt (M.pNear (Enc.list eC (3 : Nat) FA) (exS 180 200)))) ≠ (0 : Int) ∧ i64ok (M.away (Enc.list eC (3 : Nat) FA) (List.take (List.length (Enc.list eC (3 : Nat) FA)) (M.Corner.pt (M.pNear (Enc.list eC (3 : Nat) FA) (exS 180 200)))) (exS 180 200)) ∧ i64ok (M.sumP (fun (x : Cask) => (1 : Int)) (Enc.list eC (3 : Nat) FA) (List.take (List.length (Enc.list eC (3 : Nat) FA)) (M.Corner.pt (M.pNear (Enc.list eC (3 : Nat) FA) (exS 180 200)))))) (T.need (Enc.Is eC (3 : Nat) FA) (T.need ((Enc.list eC (3 : Nat) FA) = exC) (T.need ((exS 60 70) = (exS 60 70)) (T.need (Enc.Is eC (3 : Nat) FA) (T.need (Enc.Is eI (2 : Nat) FI) (T.need ((Enc.list eC (3 : Nat) FA) = exC) (T.need ((Enc.list eI (2 : Nat) FI) = [(0 : Int), (2 : Int)]) (T.br ((0 : Int) == (0 : Int)) (T.br ((1250 : Int) == (1250 : Int) && ((1 : Int) == (1 : Int) && true)) (T.br ((0 : Int) == (0 : Int)) (T.br ((30 : Int) == (30 : Int) && ((1 : Int) == (1 : Int) && true)) (T.br ((0 : Int) == (0 : Int)) (T.br ((2000 : Int) == (2000 : Int)) (T.need (Enc.Is eI (2 : Nat) (Enc.F eI [(0 : Int), (2 : Int)])) (T.need (Enc.Is eI (2 : Nat) FI) (T.need ((2 : Nat) ≤ (1000000 : Nat)) (T.br (M.intsEq (Enc.list eI (2 : Nat) (Enc.F eI [(0 : Int), (2 : Int)])) (Enc.list eI (2 : Nat) FI)) (T.br ((0 : Int) == (0 : Int)) (T.ret [Ar.c (D.bool ((66 : Int) == (66 : Int) && ((67 : Int) == (67 : Int) && true)))]) (T.ret [Ar.c (D.bool false)])) (T.ret [Ar.c (D.bool false)]))))) (T.ret [Ar.c (D.bool false)])) (T.ret [Ar.c (D.bool false)])) (T.ret [Ar.c (D.bool false)])) (T.ret [Ar.c (D.bool false)])) (T.ret [Ar.c (D.bool false)])) (T.ret [Ar.c (D.bool false)])))))))))))))))
theorem t18 : runFnX Try.prog G0 (lookS [v20, v26, v30c, v40c, v34]) (fun _ => []) [61, 62] 1 20 4 18 Try.f18 [] =
    tr18 := by kernel_rfl
theorem lA : eC.list 3 FA = exC := rfl
theorem lI : eI.list 2 FI = [0, 2] := by decide
theorem isA : eC.Is 3 FA := by
  intro i j hi hj
  have hj' : j < 7 := hj
  match i, hi, j, hj' with
  | 0, _, 0, _ => exact D.eqv_refl _
  | 0, _, 1, _ => exact D.eqv_refl _
  | 0, _, 2, _ => exact D.eqv_refl _
  | 0, _, 3, _ => exact D.eqv_refl _
  | 0, _, 4, _ => exact D.eqv_refl _
  | 0, _, 5, _ => exact D.eqv_refl _
  | 0, _, 6, _ => exact D.eqv_refl _
  | 1, _, 0, _ => exact D.eqv_refl _
  | 1, _, 1, _ => exact D.eqv_refl _
  | 1, _, 2, _ => exact D.eqv_refl _
  | 1, _, 3, _ => exact D.eqv_refl _
  | 1, _, 4, _ => exact D.eqv_refl _
  | 1, _, 5, _ => exact D.eqv_refl _
  | 1, _, 6, _ => exact D.eqv_refl _
  | 2, _, 0, _ => exact D.eqv_refl _
  | 2, _, 1, _ => exact D.eqv_refl _
  | 2, _, 2, _ => exact D.eqv_refl _
  | 2, _, 3, _ => exact D.eqv_refl _
  | 2, _, 4, _ => exact D.eqv_refl _
  | 2, _, 5, _ => exact D.eqv_refl _
  | 2, _, 6, _ => exact D.eqv_refl _
theorem isI : eI.Is 2 FI := by
  intro i j hi hj
  obtain rfl : j = 0 := Nat.lt_one_iff.1 hj
  match i, hi with
  | 0, _ => exact D.eqv_refl _
  | 1, _ => exact D.eqv_refl _
def okB (l : List Cask) (n : Nat) (x : M.Corner) : Bool :=
  decide (x.pt.length ≤ n) && decide (x.den ≠ 0) && decide (x.den.natAbs < 9223372036854775808) && decide (x.tight.length ≤ x.by_.length) && decide (x.tight.length ≤ 1000) &&
    x.tight.all (fun c => decide (0 ≤ c.which) && (!(c.kind == 1) || decide (c.which < (l.length : Int))) && ((c.kind == 1) || (c.kind == 0) || decide (c.which < 4))) && decide ((M.sumP Cask.cost l x.pt).natAbs < 9223372036854775808)
theorem exC_best : (M.pBest exC (exS 50 60)).all (okB exC 3) = true := by decide +kernel
theorem bestOK_ex : BestOK exC (exS 50 60) := by
  intro _
  refine ⟨by decide, by decide, by decide +kernel, turnOK (by decide) (by decide +kernel) (by decide +kernel), fun x hx => ?_⟩
  have h := exC_best
  rw [hx] at h
  have h' : okB exC 3 x = true := h
  unfold okB at h'
  simp only [Bool.and_eq_true, decide_eq_true_eq, List.all_eq_true, Bool.or_eq_true, beq_iff_eq, Bool.not_eq_true', beq_eq_false_iff_ne] at h'
  obtain ⟨⟨⟨⟨⟨⟨a1, a2⟩, a3⟩, a4⟩, a5⟩, a6⟩, a7⟩ := h'
  refine ⟨⟨a1, a2, a3, a4, a5, fun c hc => ?_⟩, a7⟩
  obtain ⟨⟨b1, b2⟩, b3⟩ := a6 c hc
  refine ⟨b1, fun e => ?_, fun e1 e0 => ?_⟩
  · rcases b2 with b2 | b2
    · exact absurd e b2
    · exact b2
  · rcases b3 with (b3 | b3) | b3
    · exact absurd b3 e1
    · exact absurd b3 e0
    · exact b3
theorem nearOK_ex : NearOK exC (exS 180 200) := by
  intro _
  exact ⟨by decide, by decide, by decide +kernel, turnOK (by decide) (by decide +kernel) (by decide +kernel), by decide +kernel, by decide +kernel, by decide +kernel, by decide +kernel⟩
theorem exC_nm' : ∀ c, c ∈ exC → c.nm.size ≤ 1000000 := by decide
theorem w18 : tr18.wp (fun rs => rsEqv rs [rB true]) := by
  have f1 : M.intsEq [0, 2] [0, 2] = true := by decide
  unfold tr18
  simp only [lA, lI, Enc.list_F, f1]
  refine ⟨isA, exC_nm', bestOK_ex, isA, exC_nm', by decide, nearOK_ex, isA, trivial, trivial, isA, isI, trivial, trivial, ?_⟩
  refine wp_br (fun _ => ?_) (fun h => absurd h (by decide))
  refine wp_br (fun _ => ?_) (fun h => absurd h (by decide))
  refine wp_br (fun _ => ?_) (fun h => absurd h (by decide))
  refine wp_br (fun _ => ?_) (fun h => absurd h (by decide))
  refine wp_br (fun _ => ?_) (fun h => absurd h (by decide))
  refine wp_br (fun _ => ?_) (fun h => absurd h (by decide))
  refine ⟨Enc.is_F _ _ _, isI, by decide, ?_⟩
  refine wp_br (fun _ => ?_) (fun h => absurd h (by decide))
  refine wp_br (fun _ => ?_) (fun h => absurd h (by decide))
  exact ⟨rfl, trivial⟩
def dom18 : DomF
  | [] => some ([], [rB true])
  | _ => none
def v18 : Nat × Sm := (18, fokSm dom18)
theorem C18 : FOK Try.prog G0 gw 18 dom18 := by
  intro ags p r hd hp κ w xs hw hl hG hx
  unfold dom18 at hd
  split at hd
  · simp only [Option.some.injEq, Prod.mk.injEq] at hd
    obtain ⟨rfl, rfl⟩ := hd
    have heq : agsEqv [] [] := trivial
    exact fokX_fin mixed gw_stable (sl := [v20, v26, v30c, v40c, v34]) ⟨S20, S26, S30c, S40c, S34, trivial⟩ Try.func18 hw hl hG hx heq rfl (t18) (w18)
  · cases hd
theorem S18 : SumOK Try.prog G0 gw 18 (fokSm dom18) := fok_sum Try.func18 rfl C18
end Go.Bl
end

section
set_option linter.unusedVariables false
set_option linter.unusedSimpArgs false
set_option maxRecDepth 100000
namespace Go.Bl
open Go.V Go.Proofs
namespace M
def someN (n : Nat) (l : List Cask) : Bool := (decide (l.length ≤ n) || decide (l.length > 10)) && some_ l
end M
def tr29 (l : List Cask) : T (List Ar) :=
    T.br (decide ((Nat.cast (R := Int) (List.length l)) ≤ (6 : Int))) (T.need (Enc.Is eC (List.length l) (Enc.F eC l)) (T.ret [Ar.c (D.bool (M.some_ (Enc.list eC (List.length l) (Enc.F eC l))))])) (T.br (decide ((Nat.cast (R := Int) (List.length l)) > (10 : Int))) (T.need (Enc.Is eC (List.length l) (Enc.F eC l)) (T.ret [Ar.c (D.bool (M.some_ (Enc.list eC (List.length l) (Enc.F eC l))))])) (T.ret [Ar.c (D.bool false)]))
theorem t29 (q_l : Bool) (l : List Cask) : runFnX Try.prog G0 (lookS [v63]) (fun _ => []) [] 1 20 3 29 Try.f29 [.c (.sl q_l l.length 7 (eC.F l))] =
    tr29 l := by kernel_rfl
theorem w29 (l : List Cask) : (tr29 l).wp (fun rs => rsEqv rs [rB (M.someN 6 l)]) := by
  unfold tr29
  simp only [Enc.list_F]
  refine wp_br (fun hb => ?_) (fun hb => ?_)
  · have hb : (l.length : Int) ≤ 6 := of_decide_eq_true hb
    have : M.someN 6 l = M.some_ l := by unfold M.someN; rw [decide_eq_true (by omega)]; rfl
    rw [this]; exact ⟨Enc.is_F _ _ _, rsEqv_refl _⟩
  · have hb : ¬ (l.length : Int) ≤ 6 := of_decide_eq_false hb
    refine wp_br (fun hc => ?_) (fun hc => ?_)
    · have hc : (l.length : Int) > 10 := of_decide_eq_true hc
      have : M.someN 6 l = M.some_ l := by unfold M.someN; rw [decide_eq_false (by omega), decide_eq_true (by omega)]; rfl
      rw [this]; exact ⟨Enc.is_F _ _ _, rsEqv_refl _⟩
    · have hc : ¬ (l.length : Int) > 10 := of_decide_eq_false hc
      have : M.someN 6 l = false := by unfold M.someN; rw [decide_eq_false (by omega), decide_eq_false (by omega)]; rfl
      rw [this]; exact rsEqv_refl _
def dom29 : DomF
  | [.c (.sl _ n_l st_l F_l)] => (match Nat.beq st_l 7 with
    | true => some ([eC.Is n_l F_l], [rB (M.someN 6 (eC.list n_l F_l))])
    | _ => none)
  | _ => none
def v29 : Nat × Sm := (29, fokSm dom29)
theorem C29 : FOK Try.prog G0 gw 29 dom29 := by
  intro ags p r hd hp κ w xs hw hl hG hx
  unfold dom29 at hd
  split at hd
  · rename_i q_l n_l st_l F_l
    split at hd
    · rename_i hst
      have g1 := hst
      have g1 := Nat.eq_of_beq_eq_true g1
      subst g1
      simp only [Option.some.injEq, Prod.mk.injEq] at hd
      obtain ⟨rfl, rfl⟩ := hd
      obtain ⟨hI_l, hp⟩ := hp
      have heq : agsEqv [.c (.sl q_l n_l 7 F_l)] [.c (.sl q_l (eC.list n_l F_l).length 7 (eC.F (eC.list n_l F_l)))] := ⟨eC.to id hI_l, trivial⟩
      have len_l : (eC.list n_l F_l).length = n_l := eC.list_len
      generalize eC.list n_l F_l = l at *
      subst len_l
      exact fokX_fin mixed gw_stable (sl := [v63]) ⟨S63, trivial⟩ Try.func29 hw hl hG hx heq rfl (t29 q_l l) (w29 l)
    · cases hd
  · cases hd
theorem S29 : SumOK Try.prog G0 gw 29 (fokSm dom29) := fok_sum Try.func29 rfl C29
end Go.Bl
end

section
set_option linter.unusedVariables false
set_option linter.unusedSimpArgs false
set_option maxRecDepth 100000
namespace Go.Bl
open Go.V Go.Proofs
namespace M
end M
end Go.Bl
end

section
set_option linter.unusedVariables false
set_option linter.unusedSimpArgs false
set_option maxRecDepth 100000
namespace Go.Bl
open Go.V Go.Proofs
theorem someN_small {n : Nat} {l : List Cask} (h : M.someN n l = true) : l.length ≤ 12 ∧ ∀ c, c ∈ l → c.nm.size ≤ 20 := by
  unfold M.someN at h
  simp only [Bool.and_eq_true] at h
  have h2 : l.length ≤ 12 ∧ ∀ k, k < l.length → (l.getD k dfC).nm.size ≤ 20 := of_decide_eq_true h.2
  refine ⟨h2.1, fun c hc => ?_⟩
  obtain ⟨k, hk, rfl⟩ := List.mem_iff_getElem.1 hc
  have := h2.2 k hk
  have e : l.getD k dfC = l[k] := by simp [hk]
  rwa [e] at this
end Go.Bl
end

section
set_option linter.unusedVariables false
set_option linter.unusedSimpArgs false
set_option maxRecDepth 100000
namespace Go.Bl
open Go.V Go.Proofs
namespace M
def isum (ps : List Int) : Int := (List.range ps.length).foldl (fun a i => IntKind.i64.wrap (a + ps.getD i 0)) 0
def valL (l : List Cask) (ps : List Int) (of : Cask → Int) (less : Int) : Int := (List.range l.length).foldl (fun a i => IntKind.i64.wrap (a + IntKind.i64.wrap (ps.getD i 0 * IntKind.i64.wrap (of (l.getD i dfC) - less)))) 0
end M
def trVal (of : Cask → Int) (kk : Int) (l : List Cask) (ps : List Int) (less : Int) : T (List Ar) :=
    T.loop (Int × Int × PUnit) ((0 : Int), (0 : Int), PUnit.unit) fun (x : Int × Int × PUnit) => T.br (decide (Prod.fst x < (Nat.cast (R := Int) (List.length l)))) (T.need ((0 : Int) ≤ Prod.fst x) (T.need (Prod.fst x < (Nat.cast (R := Int) (List.length ps))) (T.need ((0 : Int) ≤ Prod.fst x) (T.need (Prod.fst x < (Nat.cast (R := Int) (List.length l))) (T.need ((0 : Int) ≤ kk) (T.need (kk < (4 : Int)) (T.ret (Sum.inl (IntKind.wrap IntKind.i64 (Prod.fst x + (1 : Int)), IntKind.wrap IntKind.i64 (Prod.fst (Prod.snd x) + IntKind.wrap IntKind.i64 (List.getD ps (Int.toNat (Prod.fst x)) (0 : Int) * IntKind.wrap IntKind.i64 (of (List.getD l (Int.toNat (Prod.fst x)) (Enc.dflt eC)) - less))), PUnit.unit))))))))) (T.ret (Sum.inr [Ar.c (D.int IntKind.i64 (Prod.fst (Prod.snd x)))]))
theorem t88_0 (q_l : Bool) (l : List Cask) (q_ps : Bool) (ps : List Int) (less : Int) : runFnX Try.prog G0 (lookS []) (fun _ => [(3, [.slot 10 (.int .i64), .slot 9 (.int .i64)], none)]) [] 1 20 3 88 Try.f88 [.c (.sl q_l l.length 7 (eC.F l)), .c (.sl q_ps ps.length 1 (eI.F ps)), .c (dI 0), .c (dI less)] =
    trVal (M.kOf 0) 0 l ps less := by kernel_rfl
theorem t88_1 (q_l : Bool) (l : List Cask) (q_ps : Bool) (ps : List Int) (less : Int) : runFnX Try.prog G0 (lookS []) (fun _ => [(3, [.slot 10 (.int .i64), .slot 9 (.int .i64)], none)]) [] 1 20 3 88 Try.f88 [.c (.sl q_l l.length 7 (eC.F l)), .c (.sl q_ps ps.length 1 (eI.F ps)), .c (dI 1), .c (dI less)] =
    trVal (M.kOf 1) 1 l ps less := by kernel_rfl
theorem t88_2 (q_l : Bool) (l : List Cask) (q_ps : Bool) (ps : List Int) (less : Int) : runFnX Try.prog G0 (lookS []) (fun _ => [(3, [.slot 10 (.int .i64), .slot 9 (.int .i64)], none)]) [] 1 20 3 88 Try.f88 [.c (.sl q_l l.length 7 (eC.F l)), .c (.sl q_ps ps.length 1 (eI.F ps)), .c (dI 2), .c (dI less)] =
    trVal (M.kOf 2) 2 l ps less := by kernel_rfl
theorem t88_3 (q_l : Bool) (l : List Cask) (q_ps : Bool) (ps : List Int) (less : Int) : runFnX Try.prog G0 (lookS []) (fun _ => [(3, [.slot 10 (.int .i64), .slot 9 (.int .i64)], none)]) [] 1 20 3 88 Try.f88 [.c (.sl q_l l.length 7 (eC.F l)), .c (.sl q_ps ps.length 1 (eI.F ps)), .c (dI 3), .c (dI less)] =
    trVal (M.kOf 3) 3 l ps less := by kernel_rfl
def tr89 (ps : List Int) : T (List Ar) :=
    T.loop (Int × Int × PUnit) ((0 : Int), (0 : Int), PUnit.unit) fun (x : Int × Int × PUnit) => T.br (decide (Prod.fst x < (Nat.cast (R := Int) (List.length ps)))) (T.need ((0 : Int) ≤ Prod.fst x) (T.need (Prod.fst x < (Nat.cast (R := Int) (List.length ps))) (T.ret (Sum.inl (IntKind.wrap IntKind.i64 (Prod.fst x + (1 : Int)), IntKind.wrap IntKind.i64 (Prod.fst (Prod.snd x) + List.getD ps (Int.toNat (Prod.fst x)) (0 : Int)), PUnit.unit))))) (T.ret (Sum.inr [Ar.c (D.int IntKind.i64 (Prod.fst (Prod.snd x)))]))
theorem t89 (q_ps : Bool) (ps : List Int) : runFnX Try.prog G0 (lookS []) (fun _ => [(3, [.slot 4 (.int .i64), .slot 3 (.int .i64)], none)]) [] 1 20 3 89 Try.f89 [.c (.sl q_ps ps.length 1 (eI.F ps))] =
    tr89 ps := by kernel_rfl
theorem wVal (of : Cask → Int) (kk : Int) (l : List Cask) (ps : List Int) (less : Int) (h0 : 0 ≤ kk) (h4 : kk < 4) (h1 : ps.length = l.length) (h2 : l.length ≤ 1000000) : (trVal of kk l ps less).wp (fun rs => rsEqv rs [rI (M.valL l ps of less)]) := by
  unfold trVal
  refine range_wp (n := l.length) (fun k s => s.1 = (List.range k).foldl (fun a i => IntKind.i64.wrap (a + IntKind.i64.wrap (ps.getD i 0 * IntKind.i64.wrap (of (l.getD i dfC) - less)))) 0) rfl ?_
  rintro k ⟨a, u⟩ hk hI
  simp only at hI
  refine ⟨fun hb => ?_, fun hb => ?_⟩
  · have hlt := lt_of_dec hb
    refine ⟨by show (0 : Int) ≤ k; omega, by show (k : Int) < ps.length; omega, by show (0 : Int) ≤ k; omega, by show (k : Int) < l.length; omega, h0, h4, hlt, wrap_succ (by omega), ?_⟩
    rw [foldl_succ, ← hI]
    rfl
  · have hge := ge_of_dec hb
    obtain rfl : k = l.length := by omega
    have e : a = M.valL l ps of less := hI
    show rsEqv [rI a] _
    rw [e]; exact rsEqv_refl _
theorem w89 (ps : List Int) (h : ps.length ≤ 1000000) : (tr89 ps).wp (fun rs => rsEqv rs [rI (M.isum ps)]) := by
  unfold tr89
  refine range_wp (n := ps.length) (fun k s => s.1 = (List.range k).foldl (fun a i => IntKind.i64.wrap (a + ps.getD i 0)) 0) rfl ?_
  rintro k ⟨a, u⟩ hk hI
  simp only at hI
  refine ⟨fun hb => ?_, fun hb => ?_⟩
  · have hlt := lt_of_dec hb
    refine ⟨by show (0 : Int) ≤ k; omega, by show (k : Int) < ps.length; omega, hlt, wrap_succ (by omega), ?_⟩
    rw [foldl_succ, ← hI]
    rfl
  · have hge := ge_of_dec hb
    obtain rfl : k = ps.length := by omega
    have e : a = M.isum ps := hI
    show rsEqv [rI a] _
    rw [e]; exact rsEqv_refl _
theorem sl_eqv {q : Bool} {n st : Nat} {F : Nat → Nat → D} : (D.sl q n st F).eqv (.sl false n st F) := ⟨(fun e => by cases e), rfl, fun _ => rfl, fun i j _ _ => D.eqv_refl _⟩
def dom89 : DomF
  | [.c (.sl _ n_ps st_ps F_ps)] => (match Nat.beq st_ps 1 with
    | true => some ([eI.Is n_ps F_ps, (eI.list n_ps F_ps).length ≤ 1000000], [rI (M.isum (eI.list n_ps F_ps))])
    | _ => none)
  | _ => none
def v89 : Nat × Sm := (89, fokSm dom89)
theorem C89 : FOK Try.prog G0 gw 89 dom89 := by
  intro ags p r hd hp κ w xs hw hl hG hx
  unfold dom89 at hd
  split at hd
  · rename_i q_ps n_ps st_ps F_ps
    split at hd
    · rename_i hst
      have g1 := hst
      have g1 := Nat.eq_of_beq_eq_true g1
      subst g1
      simp only [Option.some.injEq, Prod.mk.injEq] at hd
      obtain ⟨rfl, rfl⟩ := hd
      obtain ⟨hI_ps, hp⟩ := hp
      have heq : agsEqv [.c (.sl q_ps n_ps 1 F_ps)] [.c (.sl q_ps (eI.list n_ps F_ps).length 1 (eI.F (eI.list n_ps F_ps)))] := ⟨eI.to id hI_ps, trivial⟩
      have len_ps : (eI.list n_ps F_ps).length = n_ps := eI.list_len
      generalize eI.list n_ps F_ps = ps at *
      subst len_ps
      exact fokX_fin mixed gw_stable (sl := []) trivial Try.func89 hw hl hG hx heq rfl (t89 q_ps ps) (w89 ps hp.1)
    · cases hd
  · cases hd
theorem S89 : SumOK Try.prog G0 gw 89 (fokSm dom89) := fok_sum Try.func89 rfl C89
def dom88 : DomF
  | [.c (.sl _ n_l st_l F_l), .c (.sl _ n_ps st_ps F_ps), .c (.int .i64 kk), .c (.int .i64 less)] => (match Nat.beq st_l 7 && Nat.beq st_ps 1 with
    | true => some ([eC.Is n_l F_l, eI.Is n_ps F_ps, isKind kk = true, (eI.list n_ps F_ps).length = (eC.list n_l F_l).length, (eC.list n_l F_l).length ≤ 1000000], [rI (M.valL (eC.list n_l F_l) (eI.list n_ps F_ps) (M.kOf kk) less)])
    | _ => none)
  | _ => none
def v88 : Nat × Sm := (88, fokSm dom88)
theorem C88 : FOK Try.prog G0 gw 88 dom88 := by
  intro ags p r hd hp κ w xs hw hl hG hx
  unfold dom88 at hd
  split at hd
  · rename_i q_l n_l st_l F_l q_ps n_ps st_ps F_ps kk less
    split at hd
    · rename_i hst
      simp only [Bool.and_eq_true] at hst
      obtain ⟨g1, g2⟩ := hst
      have g1 := Nat.eq_of_beq_eq_true g1
      have g2 := Nat.eq_of_beq_eq_true g2
      subst g1 g2
      simp only [Option.some.injEq, Prod.mk.injEq] at hd
      obtain ⟨rfl, rfl⟩ := hd
      obtain ⟨hI_l, hI_ps, hp⟩ := hp
      have heq : agsEqv [.c (.sl q_l n_l 7 F_l), .c (.sl q_ps n_ps 1 F_ps), .c (.int .i64 kk), .c (.int .i64 less)] [.c (.sl q_l (eC.list n_l F_l).length 7 (eC.F (eC.list n_l F_l))), .c (.sl q_ps (eI.list n_ps F_ps).length 1 (eI.F (eI.list n_ps F_ps))), .c (.int .i64 kk), .c (.int .i64 less)] := ⟨eC.to id hI_l, eI.to id hI_ps, Ag.eqv_refl _, Ag.eqv_refl _, trivial⟩
      have len_l : (eC.list n_l F_l).length = n_l := eC.list_len
      have len_ps : (eI.list n_ps F_ps).length = n_ps := eI.list_len
      generalize eC.list n_l F_l = l at *
      generalize eI.list n_ps F_ps = ps at *
      subst len_l len_ps
      obtain ⟨hk, hlen, hle, _⟩ := hp
      rcases isKind_spec hk with rfl | rfl | rfl | rfl
      · exact fokX_fin mixed gw_stable (sl := []) trivial Try.func88 hw hl hG hx heq rfl (t88_0 q_l l q_ps ps less) (wVal (M.kOf 0) 0 l ps less (by decide) (by decide) hlen hle)
      · exact fokX_fin mixed gw_stable (sl := []) trivial Try.func88 hw hl hG hx heq rfl (t88_1 q_l l q_ps ps less) (wVal (M.kOf 1) 1 l ps less (by decide) (by decide) hlen hle)
      · exact fokX_fin mixed gw_stable (sl := []) trivial Try.func88 hw hl hG hx heq rfl (t88_2 q_l l q_ps ps less) (wVal (M.kOf 2) 2 l ps less (by decide) (by decide) hlen hle)
      · exact fokX_fin mixed gw_stable (sl := []) trivial Try.func88 hw hl hG hx heq rfl (t88_3 q_l l q_ps ps less) (wVal (M.kOf 3) 3 l ps less (by decide) (by decide) hlen hle)
    · cases hd
  · cases hd
theorem S88 : SumOK Try.prog G0 gw 88 (fokSm dom88) := fok_sum Try.func88 rfl C88
end Go.Bl
end

section
set_option linter.unusedVariables false
set_option linter.unusedSimpArgs false
set_option maxRecDepth 100000
namespace Go.Bl
open Go.V Go.Proofs
theorem first_nil (l : List Int) (h : M.first l = 0) : ∀ x, x ∈ l → x = 0 := by
  induction l with
  | nil => intro x hx; cases hx
  | cons y t ih =>
    unfold M.first at h
    cases hy : y != 0
    · rw [hy] at h
      have hy0 : y = 0 := by simpa using hy
      intro x hx
      rcases List.mem_cons.1 hx with rfl | hx
      · exact hy0
      · exact ih h x hx
    · rw [hy] at h
      have h : y = 0 := h
      rw [h] at hy
      exact absurd hy (by decide)
theorem unl_zero {b : Bool} {e : Int} (he : e ≠ 0) (h : M.unl b e = 0) : b = true := by
  cases b with
  | true => rfl
  | false => exact absurd h he
theorem casksFrom_zero {l : List Cask} : ∀ (n i : Nat), (M.casksFrom l n i).2 = 0 → ∀ j, i ≤ j → j < i + n → M.caskErr l j = 0
  | 0, i, _, j, h1, h2 => by omega
  | n + 1, i, h, j, h1, h2 => by
    unfold M.casksFrom at h
    cases hx : M.caskErr l i != 0
    · rw [hx] at h
      rcases Nat.eq_or_lt_of_le h1 with rfl | hlt
      · simpa using hx
      · exact casksFrom_zero n (i + 1) h j hlt (by omega)
    · rw [hx] at h
      have h : M.caskErr l i = 0 := h
      rw [h] at hx
      exact absurd hx (by decide)
theorem within_spec {n lo hi : Int} (h : M.within n lo hi = true) : lo ≤ n ∧ n ≤ hi := by
  unfold M.within at h
  simp only [Bool.and_eq_true, decide_eq_true_eq] at h
  exact h
structure RightC (c : Cask) : Prop where
  vol : 0 ≤ c.vol ∧ c.vol ≤ 10000
  cost : 0 ≤ c.cost ∧ c.cost ≤ 1000
  k0 : 0 ≤ c.k0 ∧ c.k0 ≤ 1000
  k1 : 0 ≤ c.k1 ∧ c.k1 ≤ 1000
  k2 : 0 ≤ c.k2 ∧ c.k2 ≤ 1000
  k3 : 0 ≤ c.k3 ∧ c.k3 ≤ 1000
theorem rightC_spec {c : Cask} (h : M.rightC c = true) : RightC c := by
  unfold M.rightC at h
  cases h1 : M.within c.vol 0 10000
  · rw [h1] at h; cases h
  rw [h1] at h
  have h : cond (M.within c.cost 0 1000) (M.kindsOk c) false = true := h
  cases h2 : M.within c.cost 0 1000
  · rw [h2] at h; cases h
  rw [h2] at h
  have h : M.kindsOk c = true := h
  unfold M.kindsOk M.allB M.allB M.allB M.allB M.allB at h
  cases g0 : M.isValue c.k0
  · rw [g0] at h; cases h
  cases g1 : M.isValue c.k1
  · rw [g0, g1] at h; cases h
  cases g2 : M.isValue c.k2
  · rw [g0, g1, g2] at h; cases h
  cases g3 : M.isValue c.k3
  · rw [g0, g1, g2, g3] at h; cases h
  exact ⟨within_spec h1, within_spec h2, within_spec g0, within_spec g1, within_spec g2, within_spec g3⟩
structure RightP (l : List Cask) (den : Int) (ps : List Int) : Prop where
  len : ps.length = l.length
  den : 1 ≤ den ∧ den ≤ 200000000000
  part : ∀ i, i < l.length → 0 ≤ ps.getD i 0 ∧ ps.getD i 0 ≤ 2000000000000000
def dot (g : Nat → Int) : Nat → Int
  | 0 => 0
  | n + 1 => dot g n + g n
theorem dot_congr {g h : Nat → Int} : ∀ {n : Nat}, (∀ i, i < n → g i = h i) → dot g n = dot h n
  | 0, _ => rfl
  | n + 1, e => by
    show dot g n + g n = dot h n + h n
    rw [dot_congr fun i hi => e i (by omega), e n (by omega)]
theorem dot_sub (p v : Nat → Int) (c : Int) : ∀ n, dot (fun i => p i * (v i - c)) n = dot (fun i => p i * v i) n - c * dot p n
  | 0 => by simp [dot]
  | n + 1 => by
    show dot (fun i => p i * (v i - c)) n + p n * (v n - c) = dot (fun i => p i * v i) n + p n * v n - c * (dot p n + p n)
    rw [dot_sub p v c n, Int.mul_sub, Int.mul_add, Int.mul_comm (p n) c]
    omega
theorem wrap_add_wrap (a b : Int) : IntKind.i64.wrap (a + IntKind.i64.wrap b) = IntKind.i64.wrap (a + b) := by
  simp only [IntKind.wrap_i64]; omega
section
variable {l : List Cask} {den : Int} {ps : List Int}
theorem isum_eq : ps.length = l.length → M.isum ps = M.sumP (fun _ => 1) l ps := by
  intro _
  unfold M.isum M.sumP
  congr 1
  funext a i
  rw [wrap_add_wrap, Int.mul_one]
end
end Go.Bl
end

section
set_option linter.unusedVariables false
set_option linter.unusedSimpArgs false
set_option maxRecDepth 100000
namespace Go.Bl
open Go.V Go.Proofs
namespace M
def badK (l : List Cask) (ps : List Int) (of : Cask → Int) (r : Rg) : Bool := decide (valL l ps of r.lo < 0) || decide (valL l ps of r.hi > 0)
def meetsR (l : List Cask) (s : Sample) (ps : List Int) : Bool := !(badK l ps (kOf 0) s.r0 || (badK l ps (kOf 1) s.r1 || (badK l ps (kOf 2) s.r2 || badK l ps (kOf 3) s.r3)))
end M
def tr75 (l : List Cask) (s : Sample) (ps : List Int) : T (List Ar) :=
    T.need (Enc.Is eC (List.length l) (Enc.F eC l)) (T.need (Enc.Is eI (List.length ps) (Enc.F eI ps)) (T.need (true = true) (T.need (List.length (Enc.list eI (List.length ps) (Enc.F eI ps)) = List.length (Enc.list eC (List.length l) (Enc.F eC l))) (T.need (List.length (Enc.list eC (List.length l) (Enc.F eC l)) ≤ (1000000 : Nat)) (T.br (decide (M.valL (Enc.list eC (List.length l) (Enc.F eC l)) (Enc.list eI (List.length ps) (Enc.F eI ps)) (M.kOf (0 : Int)) s.r0.lo < (0 : Int))) (T.ret [Ar.c (D.bool false)]) (T.need (Enc.Is eC (List.length l) (Enc.F eC l)) (T.need (Enc.Is eI (List.length ps) (Enc.F eI ps)) (T.need (true = true) (T.need (List.length (Enc.list eI (List.length ps) (Enc.F eI ps)) = List.length (Enc.list eC (List.length l) (Enc.F eC l))) (T.need (List.length (Enc.list eC (List.length l) (Enc.F eC l)) ≤ (1000000 : Nat)) (T.br (decide (M.valL (Enc.list eC (List.length l) (Enc.F eC l)) (Enc.list eI (List.length ps) (Enc.F eI ps)) (M.kOf (0 : Int)) s.r0.hi > (0 : Int))) (T.ret [Ar.c (D.bool false)]) (T.need (Enc.Is eC (List.length l) (Enc.F eC l)) (T.need (Enc.Is eI (List.length ps) (Enc.F eI ps)) (T.need (true = true) (T.need (List.length (Enc.list eI (List.length ps) (Enc.F eI ps)) = List.length (Enc.list eC (List.length l) (Enc.F eC l))) (T.need (List.length (Enc.list eC (List.length l) (Enc.F eC l)) ≤ (1000000 : Nat)) (T.br (decide (M.valL (Enc.list eC (List.length l) (Enc.F eC l)) (Enc.list eI (List.length ps) (Enc.F eI ps)) (M.kOf (1 : Int)) s.r1.lo < (0 : Int))) (T.ret [Ar.c (D.bool false)]) (T.need (Enc.Is eC (List.length l) (Enc.F eC l)) (T.need (Enc.Is eI (List.length ps) (Enc.F eI ps)) (T.need (true = true) (T.need (List.length (Enc.list eI (List.length ps) (Enc.F eI ps)) = List.length (Enc.list eC (List.length l) (Enc.F eC l))) (T.need (List.length (Enc.list eC (List.length l) (Enc.F eC l)) ≤ (1000000 : Nat)) (T.br (decide (M.valL (Enc.list eC (List.length l) (Enc.F eC l)) (Enc.list eI (List.length ps) (Enc.F eI ps)) (M.kOf (1 : Int)) s.r1.hi > (0 : Int))) (T.ret [Ar.c (D.bool false)]) (T.need (Enc.Is eC (List.length l) (Enc.F eC l)) (T.need (Enc.Is eI (List.length ps) (Enc.F eI ps)) (T.need (true = true) (T.need (List.length (Enc.list eI (List.length ps) (Enc.F eI ps)) = List.length (Enc.list eC (List.length l) (Enc.F eC l))) (T.need (List.length (Enc.list eC (List.length l) (Enc.F eC l)) ≤ (1000000 : Nat)) (T.br (decide (M.valL (Enc.list eC (List.length l) (Enc.F eC l)) (Enc.list eI (List.length ps) (Enc.F eI ps)) (M.kOf (2 : Int)) s.r2.lo < (0 : Int))) (T.ret [Ar.c (D.bool false)]) (T.need (Enc.Is eC (List.length l) (Enc.F eC l)) (T.need (Enc.Is eI (List.length ps) (Enc.F eI ps)) (T.need (true = true) (T.need (List.length (Enc.list eI (List.length ps) (Enc.F eI ps)) = List.length (Enc.list eC (List.length l) (Enc.F eC l))) (T.need (List.length (Enc.list eC (List.length l) (Enc.F eC l)) ≤ (1000000 : Nat)) (T.br (decide (M.valL (Enc.list eC (List.length l) (Enc.F eC l)) (Enc.list eI (List.length ps) (Enc.F eI ps)) (M.kOf (2 : Int)) s.r2.hi > (0 : Int))) (T.ret [Ar.c (D.bool false)]) (T.need (Enc.Is eC (List.length l) (Enc.F eC l)) (T.need (Enc.Is eI (List.length ps) (Enc.F eI ps)) (T.need (true = true) (T.need (List.length (Enc.list eI (List.length ps) (Enc.F eI ps)) = List.length (Enc.list eC (List.length l) (Enc.F eC l))) (T.need (List.length (Enc.list eC (List.length l) (Enc.F eC l)) ≤ (1000000 : Nat)) (T.br (decide (M.valL (Enc.list eC (List.length l) (Enc.F eC l)) (Enc.list eI (List.length ps) (Enc.F eI ps)) (M.kOf (3 : Int)) s.r3.lo < (0 : Int))) (T.ret [Ar.c (D.bool false)]) (T.need (Enc.Is eC (List.length l) (Enc.F eC l)) (T.need (Enc.Is eI (List.length ps) (Enc.F eI ps)) (T.need (true = true) (T.need (List.length (Enc.list eI (List.length ps) (Enc.F eI ps)) = List.length (Enc.list eC (List.length l) (Enc.F eC l))) (T.need (List.length (Enc.list eC (List.length l) (Enc.F eC l)) ≤ (1000000 : Nat)) (T.br (decide (M.valL (Enc.list eC (List.length l) (Enc.F eC l)) (Enc.list eI (List.length ps) (Enc.F eI ps)) (M.kOf (3 : Int)) s.r3.hi > (0 : Int))) (T.ret [Ar.c (D.bool false)]) (T.ret [Ar.c (D.bool true)]))))))))))))))))))))))))))))))))))))))))))))))))
theorem t75 (q_l : Bool) (l : List Cask) (sv l0 h0 l1 h1 l2 h2 l3 h3 : Int) (q_ps : Bool) (ps : List Int) : runFnX Try.prog G0 (lookS [v88]) (fun _ => [(1000009, [], none), (3000007, [], none)]) [] 1 20 3 75 Try.f75 [.c (.sl q_l l.length 7 (eC.F l)), .agg [dI sv, dI l0, dI h0, dI l1, dI h1, dI l2, dI h2, dI l3, dI h3], .c (.sl q_ps ps.length 1 (eI.F ps))] =
    tr75 l (⟨sv, ⟨l0, h0⟩, ⟨l1, h1⟩, ⟨l2, h2⟩, ⟨l3, h3⟩⟩ : Sample) ps := by kernel_rfl
theorem w75 (l : List Cask) (s : Sample) (ps : List Int) (hl : ps.length = l.length) (h2 : l.length ≤ 1000000) : (tr75 l s ps).wp (fun rs => rsEqv rs [rB (M.meetsR l s ps)]) := by
  unfold tr75
  simp only [Enc.list_F]
  refine ⟨Enc.is_F _ _ _, Enc.is_F _ _ _, by trivial, hl, h2, wp_br (fun b0lo => ?_) (fun b0lo => ?_)⟩
  · have : M.meetsR l s ps = false := by unfold M.meetsR M.badK; simp [of_decide_eq_true b0lo]
    rw [this]; exact rsEqv_refl _
  refine ⟨Enc.is_F _ _ _, Enc.is_F _ _ _, by trivial, hl, h2, wp_br (fun b0hi => ?_) (fun b0hi => ?_)⟩
  · have : M.meetsR l s ps = false := by unfold M.meetsR M.badK; simp [of_decide_eq_false b0lo, of_decide_eq_true b0hi]
    rw [this]; exact rsEqv_refl _
  refine ⟨Enc.is_F _ _ _, Enc.is_F _ _ _, by trivial, hl, h2, wp_br (fun b1lo => ?_) (fun b1lo => ?_)⟩
  · have : M.meetsR l s ps = false := by unfold M.meetsR M.badK; simp [of_decide_eq_false b0lo, of_decide_eq_false b0hi, of_decide_eq_true b1lo]
    rw [this]; exact rsEqv_refl _
  refine ⟨Enc.is_F _ _ _, Enc.is_F _ _ _, by trivial, hl, h2, wp_br (fun b1hi => ?_) (fun b1hi => ?_)⟩
  · have : M.meetsR l s ps = false := by unfold M.meetsR M.badK; simp [of_decide_eq_false b0lo, of_decide_eq_false b0hi, of_decide_eq_false b1lo, of_decide_eq_true b1hi]
    rw [this]; exact rsEqv_refl _
  refine ⟨Enc.is_F _ _ _, Enc.is_F _ _ _, by trivial, hl, h2, wp_br (fun b2lo => ?_) (fun b2lo => ?_)⟩
  · have : M.meetsR l s ps = false := by unfold M.meetsR M.badK; simp [of_decide_eq_false b0lo, of_decide_eq_false b0hi, of_decide_eq_false b1lo, of_decide_eq_false b1hi, of_decide_eq_true b2lo]
    rw [this]; exact rsEqv_refl _
  refine ⟨Enc.is_F _ _ _, Enc.is_F _ _ _, by trivial, hl, h2, wp_br (fun b2hi => ?_) (fun b2hi => ?_)⟩
  · have : M.meetsR l s ps = false := by unfold M.meetsR M.badK; simp [of_decide_eq_false b0lo, of_decide_eq_false b0hi, of_decide_eq_false b1lo, of_decide_eq_false b1hi, of_decide_eq_false b2lo, of_decide_eq_true b2hi]
    rw [this]; exact rsEqv_refl _
  refine ⟨Enc.is_F _ _ _, Enc.is_F _ _ _, by trivial, hl, h2, wp_br (fun b3lo => ?_) (fun b3lo => ?_)⟩
  · have : M.meetsR l s ps = false := by unfold M.meetsR M.badK; simp [of_decide_eq_false b0lo, of_decide_eq_false b0hi, of_decide_eq_false b1lo, of_decide_eq_false b1hi, of_decide_eq_false b2lo, of_decide_eq_false b2hi, of_decide_eq_true b3lo]
    rw [this]; exact rsEqv_refl _
  refine ⟨Enc.is_F _ _ _, Enc.is_F _ _ _, by trivial, hl, h2, wp_br (fun b3hi => ?_) (fun b3hi => ?_)⟩
  · have : M.meetsR l s ps = false := by unfold M.meetsR M.badK; simp [of_decide_eq_false b0lo, of_decide_eq_false b0hi, of_decide_eq_false b1lo, of_decide_eq_false b1hi, of_decide_eq_false b2lo, of_decide_eq_false b2hi, of_decide_eq_false b3lo, of_decide_eq_true b3hi]
    rw [this]; exact rsEqv_refl _
  have : M.meetsR l s ps = true := by unfold M.meetsR M.badK; rw [b0lo, b0hi, b1lo, b1hi, b2lo, b2hi, b3lo, b3hi]; rfl
  rw [this]; exact rsEqv_refl _
def dom75 : DomF
  | [.c (.sl _ n_l st_l F_l), .agg [.int .i64 sv, .int .i64 l0, .int .i64 h0, .int .i64 l1, .int .i64 h1, .int .i64 l2, .int .i64 h2, .int .i64 l3, .int .i64 h3], .c (.sl _ n_ps st_ps F_ps)] => (match Nat.beq st_l 7 && Nat.beq st_ps 1 with
    | true => some ([eC.Is n_l F_l, eI.Is n_ps F_ps, (eI.list n_ps F_ps).length = (eC.list n_l F_l).length, (eC.list n_l F_l).length ≤ 1000000], [rB (M.meetsR (eC.list n_l F_l) (⟨sv, ⟨l0, h0⟩, ⟨l1, h1⟩, ⟨l2, h2⟩, ⟨l3, h3⟩⟩ : Sample) (eI.list n_ps F_ps))])
    | _ => none)
  | _ => none
def v75 : Nat × Sm := (75, fokSm dom75)
theorem C75 : FOK Try.prog G0 gw 75 dom75 := by
  intro ags p r hd hp κ w xs hw hl hG hx
  unfold dom75 at hd
  split at hd
  · rename_i q_l n_l st_l F_l sv l0 h0 l1 h1 l2 h2 l3 h3 q_ps n_ps st_ps F_ps
    split at hd
    · rename_i hst
      simp only [Bool.and_eq_true] at hst
      obtain ⟨g1, g2⟩ := hst
      have g1 := Nat.eq_of_beq_eq_true g1
      have g2 := Nat.eq_of_beq_eq_true g2
      subst g1 g2
      simp only [Option.some.injEq, Prod.mk.injEq] at hd
      obtain ⟨rfl, rfl⟩ := hd
      obtain ⟨hI_l, hI_ps, hp⟩ := hp
      have heq : agsEqv [.c (.sl q_l n_l 7 F_l), .agg [.int .i64 sv, .int .i64 l0, .int .i64 h0, .int .i64 l1, .int .i64 h1, .int .i64 l2, .int .i64 h2, .int .i64 l3, .int .i64 h3], .c (.sl q_ps n_ps 1 F_ps)] [.c (.sl q_l (eC.list n_l F_l).length 7 (eC.F (eC.list n_l F_l))), .agg [.int .i64 sv, .int .i64 l0, .int .i64 h0, .int .i64 l1, .int .i64 h1, .int .i64 l2, .int .i64 h2, .int .i64 l3, .int .i64 h3], .c (.sl q_ps (eI.list n_ps F_ps).length 1 (eI.F (eI.list n_ps F_ps)))] := ⟨eC.to id hI_l, Ag.eqv_refl _, eI.to id hI_ps, trivial⟩
      have len_l : (eC.list n_l F_l).length = n_l := eC.list_len
      have len_ps : (eI.list n_ps F_ps).length = n_ps := eI.list_len
      generalize eC.list n_l F_l = l at *
      generalize eI.list n_ps F_ps = ps at *
      subst len_l len_ps
      exact fokX_fin mixed gw_stable (sl := [v88]) ⟨S88, trivial⟩ Try.func75 hw hl hG hx heq rfl (t75 q_l l sv l0 h0 l1 h1 l2 h2 l3 h3 q_ps ps) (w75 l _ ps hp.1 hp.2.1)
    · cases hd
  · cases hd
theorem S75 : SumOK Try.prog G0 gw 75 (fokSm dom75) := fok_sum Try.func75 rfl C75
end Go.Bl
end

section
set_option linter.unusedVariables false
set_option linter.unusedSimpArgs false
set_option maxRecDepth 100000
namespace Go.Bl
open Go.V Go.Proofs
namespace M
end M
structure OpenR (l : List Cask) (s : Sample) (den : Int) (ps : List Int) : Prop where
  n4 : l.length ≤ 4
  right : ∀ i, i < l.length → RightC (l.getD i dfC)
  parts : RightP l den ps
  vol : M.sumP (fun _ => 1) l ps ≠ 0
  r0 : (0 ≤ s.r0.lo ∧ s.r0.lo ≤ 1000) ∧ (0 ≤ s.r0.hi ∧ s.r0.hi ≤ 1000)
  r1 : (0 ≤ s.r1.lo ∧ s.r1.lo ≤ 1000) ∧ (0 ≤ s.r1.hi ∧ s.r1.hi ≤ 1000)
  r2 : (0 ≤ s.r2.lo ∧ s.r2.lo ≤ 1000) ∧ (0 ≤ s.r2.hi ∧ s.r2.hi ≤ 1000)
  r3 : (0 ≤ s.r3.lo ∧ s.r3.lo ≤ 1000) ∧ (0 ≤ s.r3.hi ∧ s.r3.hi ≤ 1000)
theorem rg_right {r : Rg} (h : M.rgErr r = 0) : (0 ≤ r.lo ∧ r.lo ≤ 1000) ∧ (0 ≤ r.hi ∧ r.hi ≤ 1000) := by
  unfold M.rgErr at h
  have h1 := unl_zero (by decide) (first_nil _ h _ (List.mem_cons_self ..))
  rw [Bool.and_eq_true] at h1
  exact ⟨within_spec h1.1, within_spec h1.2⟩
theorem mx_le {a b c : Int} : M.mx a b ≤ c ↔ a ≤ c ∧ b ≤ c := by unfold M.mx; split <;> omega
section
variable {l : List Cask} {s : Sample} {den : Int} {ps : List Int}
end
end Go.Bl
end

section
set_option linter.unusedVariables false
set_option linter.unusedSimpArgs false
set_option maxRecDepth 100000
namespace Go.Bl
open Go.V Go.Proofs
section
variable {l : List Cask} {s : Sample} {den : Int} {ps : List Int}
end
end Go.Bl
end

section
set_option linter.unusedVariables false
set_option linter.unusedSimpArgs false
set_option maxRecDepth 100000
namespace Go.Bl
open Go.V Go.Proofs
end Go.Bl
end

section
set_option linter.unusedVariables false
set_option linter.unusedSimpArgs false
set_option maxRecDepth 100000
namespace Go.Bl
open Go.V Go.Proofs
end Go.Bl
end

section
set_option linter.unusedVariables false
set_option linter.unusedSimpArgs false
namespace Go.Lp
def smI {α : Type} (g : α → Int) : List α → Int
  | [] => 0
  | a :: l => g a + smI g l
section
variable {α β γ : Type}
theorem smI_congr {g h : α → Int} : ∀ {l : List α}, (∀ a, a ∈ l → g a = h a) → smI g l = smI h l := by
  intro l
  induction l with
  | nil => intro _; rfl
  | cons a l ih => intro e; simp only [smI]; rw [e a (List.mem_cons_self ..), ih fun b hb => e b (List.mem_cons_of_mem _ hb)]
end
end Go.Lp
end

section
set_option linter.unusedVariables false
set_option linter.unusedSimpArgs false
set_option maxRecDepth 100000
namespace Go.Bl
open Go.V Go.Proofs Go.Lp
theorem en_set {r : List Int} {k c : Nat} {v : Int} (hk : k < r.length) : en (r.set k v) c = if c = k then v else en r c := by
  unfold en
  rw [List.getD_eq_getElem?_getD, List.getElem?_set]
  by_cases h : k = c
  · subst h; simp [hk]
  · rw [if_neg h, if_neg (fun e => h e.symm), ← List.getD_eq_getElem?_getD]
theorem getD_mem {α : Type} {l : List α} {d : α} {i : Nat} (h : i < l.length) : l.getD i d ∈ l := by
  rw [List.getD_eq_getElem?_getD, List.getElem?_eq_getElem h]; exact List.getElem_mem h
theorem map_getD {α : Type} {f : Nat → α} {n i : Nat} {d : α} (h : i < n) : ((List.range n).map f).getD i d = f i := by
  rw [List.getD_eq_getElem?_getD, List.getElem?_map, List.getElem?_range h]; rfl
theorem setCol_len {m : List (List Int)} {k : Nat} {r : List Int} : (M.setCol m k r).length = m.length := by simp [M.setCol]
theorem small_fact : ∀ n, n ≤ 5 → ∀ k, k < 5 → fact n * pK (fun c => if c = k then 10000 else 1000) (List.range n) < 9223372036854775808 := by decide +kernel
structure Sq (n : Nat) (m : List (List Int)) : Prop where
  n5 : n ≤ 5
  len : m.length = n
  row : ∀ r, r ∈ m → r.length = n
  ent : ∀ r, r ∈ m → ∀ c, (en r c).natAbs ≤ 1000
theorem Sq.turned {n : Nat} {m : List (List Int)} (h : Sq n m) : Sq n (M.turned m) := by
  refine ⟨h.n5, turned_len.1.trans h.len, fun r hr => (turned_len.2 r hr).trans h.len, fun r hr c => getD_small (fun x hx => ?_) c⟩
  unfold M.turned at hr
  obtain ⟨k, _, rfl⟩ := List.mem_map.1 hr
  obtain ⟨i, hi, rfl⟩ := List.mem_map.1 hx
  exact h.ent _ (getD_mem (List.mem_range.1 hi)) k
theorem Sq.det {n : Nat} {m : List (List Int)} (h : Sq n m) : M.det m = DI en m (List.range n) := det_small h.n5 h.len h.row h.ent
theorem Sq.set {n k : Nat} {m : List (List Int)} {r : List Int} (h : Sq n m) (hr : ∀ i, (r.getD i 0).natAbs ≤ 10000) (hk : k < n) :
    M.det (M.setCol m k r) = DI en (M.setCol m k r) (List.range n) ∧ (DI en (M.setCol m k r) (List.range n)).natAbs < 9223372036854775808 := by
  have hK := small_fact n h.n5 k (by have := h.n5; omega)
  have hrow : ∀ x, x ∈ M.setCol m k r → x.length = n := by
    intro x hx
    unfold M.setCol at hx
    obtain ⟨i, hi, rfl⟩ := List.mem_map.1 hx
    rw [List.length_set]
    exact h.row _ (getD_mem (List.mem_range.1 hi))
  have hent : ∀ x, x ∈ M.setCol m k r → ∀ c, (en x c).natAbs ≤ (if c = k then 10000 else 1000) := by
    intro x hx c
    unfold M.setCol at hx
    obtain ⟨i, hi, rfl⟩ := List.mem_map.1 hx
    have hm := getD_mem (d := ([] : List Int)) (List.mem_range.1 hi)
    rw [en_set (by rw [h.row _ hm]; exact hk)]
    split
    · exact hr i
    · exact h.ent _ hm c
  constructor
  · exact det_eq (K := fun c => if c = k then 10000 else 1000) h.n5 (fun c => by split <;> decide) (by rw [setCol_len]; exact h.len) hrow (fun x hx c _ => hent x hx c) hK
  · refine Nat.lt_of_le_of_lt (DI_bound (K := fun c => if c = k then 10000 else 1000) (by simp [setCol_len, h.len]) fun x hx c _ => hent x hx c) ?_
    rw [List.length_range]; exact hK
def dl (n : Nat) (a b : List Int) : Int := smI (fun c => en a c * en b c) (List.range n)
end Go.Bl
end

section
set_option linter.unusedVariables false
set_option linter.unusedSimpArgs false
set_option maxRecDepth 100000
namespace Go.Bl
open Go.V Go.Proofs Go.Lp
def dK : Cond := ⟨0, 0, [], 0⟩
structure Small (n : Nat) (sh wo : List Int) (sum : Int) (cs : List Cond) : Prop where
  n1 : 1 ≤ n
  n5 : n ≤ 5
  sl : sh.length = n
  wl : wo.length = n
  she : ∀ x, x ∈ sh → x.natAbs ≤ 1000
  woe : ∀ x, x ∈ wo → x.natAbs ≤ 1000
  sume : sum.natAbs ≤ 10000
  cl : ∀ c, c ∈ cs → c.coefs.length = n
  ce : ∀ c, c ∈ cs → ∀ x, x ∈ c.coefs → x.natAbs ≤ 1000
  le : ∀ c, c ∈ cs → c.limit.natAbs ≤ 10000
  keep : ∀ set : List Cond, set.length + 1 = n → (∀ c, c ∈ set → c ∈ cs) → DI en (M.mat sh set) (List.range n) ≠ 0 → ∀ c, c ∈ cs →
    M.dot c.coefs (M.sol (M.mat sh set) (M.right sum set)) 0 = dl n c.coefs (M.sol (M.mat sh set) (M.right sum set)) ∧ IntKind.i64.wrap (c.limit * M.den (M.mat sh set) (M.right sum set)) = c.limit * M.den (M.mat sh set) (M.right sum set)
theorem right_small {sum : Int} {cs set : List Cond} (sume : sum.natAbs ≤ 10000) (le : ∀ c, c ∈ cs → c.limit.natAbs ≤ 10000) (hm : ∀ c, c ∈ set → c ∈ cs) (i : Nat) : ((M.right sum set).getD i 0).natAbs ≤ 10000 := by
  refine getD_small (l := M.right sum set) (fun x hx => ?_) i
  rcases List.mem_cons.1 hx with rfl | hx
  · exact sume
  · obtain ⟨c, hcm, rfl⟩ := List.mem_map.1 hx
    exact le c (hm c hcm)
section
variable {n : Nat} {sh wo : List Int} {sum : Int} {cs : List Cond}
theorem Small.rs (h : Small n sh wo sum cs) {set : List Cond} (hm : ∀ c, c ∈ set → c ∈ cs) (i : Nat) : ((M.right sum set).getD i 0).natAbs ≤ 10000 := right_small h.sume h.le hm i
theorem Small.ws (h : Small n sh wo sum cs) (i : Nat) : (wo.getD i 0).natAbs ≤ 10000 := getD_small (l := wo) (fun x hx => Nat.le_trans (h.woe x hx) (by decide)) i
structure Opt (n : Nat) (sh : List Int) (sum : Int) (wo : List Int) (cs : List Cond) (x : M.Corner) : Prop where
  sub : x.tight.Sublist cs
  tl : x.tight.length + 1 = n
  den : 0 < x.den
  wd : 0 < x.wd
  pl : x.pt.length = n
  bl : x.by_.length = x.tight.length
  sum : dl n sh x.pt = sum * x.den
  all : ∀ c, c ∈ cs → dl n c.coefs x.pt ≤ c.limit * x.den
  eq : ∀ q, q < x.tight.length → dl n (x.tight.getD q dK).coefs x.pt = (x.tight.getD q dK).limit * x.den
  nn : ∀ q, q < x.tight.length → 0 ≤ en x.by_ q
  dual : ∀ j, j < n → x.each * en sh j - smI (fun q => en x.by_ q * en (x.tight.getD q dK).coefs j) (List.range x.tight.length) = en wo j * x.wd
  denE : x.den = ((DI en (M.mat sh x.tight) (List.range n)).natAbs : Int)
  wdE : x.wd = ((DI en (M.mat sh x.tight) (List.range n)).natAbs : Int)
  eachE : x.each.natAbs = (DI en (M.setCol (M.turned (M.mat sh x.tight)) 0 wo) (List.range n)).natAbs
  byE : ∀ q, q < x.tight.length → (en x.by_ q).natAbs = (DI en (M.setCol (M.turned (M.mat sh x.tight)) (q + 1) wo) (List.range n)).natAbs
end
end Go.Bl
end

section
set_option linter.unusedVariables false
set_option linter.unusedSimpArgs false
set_option maxRecDepth 100000
namespace Go.Bl
open Go.V Go.Proofs Go.Lp
def phi (w : Wts) (m : Nat) (f1 f2 f3 : Nat → Int) : Int :=
  smI (fun i => en w.casks i * f1 i) (List.range m) + (w.x0 * f2 0 + w.x1 * f2 1 + w.x2 * f2 2 + w.x3 * f2 3) + (w.y0 * f3 0 + w.y1 * f3 1 + w.y2 * f3 2 + w.y3 * f3 3)
def wx (w : Wts) : Nat → Int
  | 0 => w.x0
  | 1 => w.x1
  | 2 => w.x2
  | _ => w.x3
def wy (w : Wts) : Nat → Int
  | 0 => w.y0
  | 1 => w.y1
  | 2 => w.y2
  | _ => w.y3
def slot (w : Wts) (c : Cond) : Int := if c.kind = 1 then en w.casks c.which.toNat else if c.kind = 2 then wx w c.which.toNat else if c.kind = 3 then wy w c.which.toNat else 0
def Each (P : Int → Prop) (w : Wts) : Prop := (∀ i, P (en w.casks i)) ∧ (P w.x0 ∧ P w.x1 ∧ P w.x2 ∧ P w.x3) ∧ (P w.y0 ∧ P w.y1 ∧ P w.y2 ∧ P w.y3)
theorem beq_of_ne {a b : Int} (h : a ≠ b) : (a == b) = false := by rw [Bool.eq_false_iff]; intro e; exact h (eq_of_beq e)
end Go.Bl
end

section
set_option linter.unusedVariables false
set_option linter.unusedSimpArgs false
set_option maxRecDepth 100000
namespace Go.Bl
open Go.V Go.Proofs Go.Lp
structure RightL (l : List Cask) (s : Sample) : Prop where
  n1 : 1 ≤ l.length
  n4 : l.length ≤ 4
  rc : ∀ i, i < l.length → RightC (l.getD i dfC)
  v : 1 ≤ s.vol ∧ s.vol ≤ 10000
  lo : ∀ k, k < 4 → 0 ≤ (M.rg s k).lo ∧ (M.rg s k).lo ≤ 1000
  hi : ∀ k, k < 4 → 0 ≤ (M.rg s k).hi ∧ (M.rg s k).hi ≤ 1000
  le : ∀ k, k < 4 → (M.rg s k).lo ≤ (M.rg s k).hi
theorem sample_right {s : Sample} (h : M.checkSample s = 0) : (1 ≤ s.vol ∧ s.vol ≤ 10000) ∧ (∀ k, k < 4 → 0 ≤ (M.rg s k).lo ∧ (M.rg s k).lo ≤ 1000) ∧ (∀ k, k < 4 → 0 ≤ (M.rg s k).hi ∧ (M.rg s k).hi ≤ 1000) ∧ ∀ k, k < 4 → (M.rg s k).lo ≤ (M.rg s k).hi := by
  unfold M.checkSample at h
  cases hw : M.within s.vol 1 10000
  · rw [hw] at h
    have hs : (2 : Int) = 0 := h
    exact absurd hs (by decide)
  rw [hw] at h
  have hs : M.first [M.rgErr s.r0, M.rgErr s.r1, M.rgErr s.r2, M.rgErr s.r3] = 0 := h
  have hz := first_nil _ hs
  have hle : ∀ r, M.rgErr r = 0 → r.lo ≤ r.hi := by
    intro r hr
    unfold M.rgErr at hr
    exact of_decide_eq_true (unl_zero (by decide) (first_nil _ hr _ (List.mem_cons_of_mem _ (List.mem_cons_self ..))))
  have all : ∀ k, k < 4 → M.rgErr (M.rg s k) = 0 := by
    intro k hk
    rcases (by omega : k = 0 ∨ k = 1 ∨ k = 2 ∨ k = 3) with rfl | rfl | rfl | rfl <;> exact hz _ (by simp [M.rg])
  exact ⟨within_spec hw, fun k hk => (rg_right (all k hk)).1, fun k hk => (rg_right (all k hk)).2, fun k hk => hle _ (all k hk)⟩
theorem RightC.val {c : Cask} (h : RightC c) (k : Nat) : 0 ≤ M.val c k ∧ M.val c k ≤ 1000 := by
  unfold M.val
  split
  · exact h.k0
  · exact h.k1
  · exact h.k2
  · exact h.k3
section
variable {l : List Cask} {s : Sample}
theorem RightL.hiF (h : RightL l s) {i k : Nat} (hi : i < l.length) (hk : k < 4) : IntKind.i64.wrap (M.val (l.getD i dfC) k - (M.rg s k).hi) = M.val (l.getD i dfC) k - (M.rg s k).hi ∧ (M.val (l.getD i dfC) k - (M.rg s k).hi).natAbs ≤ 1000 := by
  have h1 := (h.rc i hi).val k
  have h2 := h.hi k hk
  exact ⟨wrap_id (by omega) (by omega), by omega⟩
theorem RightL.loF (h : RightL l s) {i k : Nat} (hi : i < l.length) (hk : k < 4) : IntKind.i64.wrap ((M.rg s k).lo - M.val (l.getD i dfC) k) = (M.rg s k).lo - M.val (l.getD i dfC) k ∧ ((M.rg s k).lo - M.val (l.getD i dfC) k).natAbs ≤ 1000 := by
  have h1 := (h.rc i hi).val k
  have h2 := h.lo k hk
  exact ⟨wrap_id (by omega) (by omega), by omega⟩
section
variable {l : List Cask} {s : Sample} {e : Nat} {set : List Cond}
end
end
end Go.Bl
end

section
set_option linter.unusedVariables false
set_option linter.unusedSimpArgs false
set_option maxRecDepth 100000
namespace Go.Bl
open Go.V Go.Proofs Go.Lp
section
variable {l : List Cask} {s : Sample} {e : Nat}
structure Blend (l : List Cask) (s : Sample) (pt : List Int) (den far : Int) : Prop where
  dp : 0 < den
  p0 : ∀ i, i < l.length → 0 ≤ en pt i
  p1 : ∀ i, i < l.length → en pt i ≤ (l.getD i dfC).vol * den
  sum : smI (fun i => en pt i) (List.range l.length) = s.vol * den
  hi : ∀ k, k < 4 → smI (fun i => (M.val (l.getD i dfC) k - (M.rg s k).hi) * en pt i) (List.range l.length) ≤ far
  lo : ∀ k, k < 4 → smI (fun i => ((M.rg s k).lo - M.val (l.getD i dfC) k) * en pt i) (List.range l.length) ≤ far
def hiF (l : List Cask) (s : Sample) (j k : Nat) : Int := M.val (l.getD j dfC) k - (M.rg s k).hi
def loF (l : List Cask) (s : Sample) (j k : Nat) : Int := (M.rg s k).lo - M.val (l.getD j dfC) k
def gift (l : List Cask) (s : Sample) (w : Wts) (j : Nat) : Int := w.each - phi w l.length (fun i => if i = j then 1 else 0) (hiF l s j) (loF l s j)
def bound (l : List Cask) (s : Sample) (w : Wts) : Int := w.each * s.vol - phi w l.length (fun i => (l.getD i dfC).vol) (fun _ => 0) (fun _ => 0)
structure Proof (l : List Cask) (s : Sample) (wo : List Int) (w : Wts) : Prop where
  den : 1 ≤ w.den ∧ w.den ≤ 200000000000
  each : w.each.natAbs ≤ 100000000000000
  len : w.casks.length = l.length
  all : Each (fun b => 0 ≤ b ∧ b ≤ 200000000000) w
  gift : ∀ j, j < l.length → gift l s w j ≤ en wo j * w.den
end
end Go.Bl
end

section
set_option linter.unusedVariables false
set_option linter.unusedSimpArgs false
set_option maxRecDepth 100000
namespace Go.Bl
open Go.V Go.Proofs Go.Lp
def wsum (w : Wts) : Int := (w.x0 + w.x1 + w.x2 + w.x3) + (w.y0 + w.y1 + w.y2 + w.y3)
section
variable {l : List Cask} {s : Sample} {e : Nat}
end
end Go.Bl
end

section
set_option linter.unusedVariables false
set_option linter.unusedSimpArgs false
set_option maxRecDepth 100000
namespace Go.Bl
open Go.V Go.Proofs Go.Lp
section
variable {l : List Cask} {s : Sample} {x : M.Corner}
def cost (l : List Cask) (pt : List Int) : Int := smI (fun j => (l.getD j dfC).cost * en pt j) (List.range l.length)
theorem Blend.congr {pt pt' : List Int} {den far : Int} (hb : Blend l s pt den far) (h : ∀ i, i < l.length → en pt' i = en pt i) : Blend l s pt' den far := by
  refine ⟨hb.dp, fun i hi => by rw [h i hi]; exact hb.p0 i hi, fun i hi => by rw [h i hi]; exact hb.p1 i hi, ?_, fun k hk => ?_, fun k hk => ?_⟩
  · rw [← hb.sum]; exact smI_congr fun i hi => h i (List.mem_range.1 hi)
  · rw [smI_congr fun i hi => by rw [h i (List.mem_range.1 hi)]]; exact hb.hi k hk
  · rw [smI_congr fun i hi => by rw [h i (List.mem_range.1 hi)]]; exact hb.lo k hk
theorem Blend.mono {pt : List Int} {den far far' : Int} (hb : Blend l s pt den far) (h : far ≤ far') : Blend l s pt den far' :=
  ⟨hb.dp, hb.p0, hb.p1, hb.sum, fun k hk => Int.le_trans (hb.hi k hk) h, fun k hk => Int.le_trans (hb.lo k hk) h⟩
structure BestS (l : List Cask) (s : Sample) (x : M.Corner) : Prop where
  b : Blend l s x.pt x.den 0
  d : x.den ≤ 200000000000
  pl : x.pt.length = l.length
  p : Proof l s (M.costs l) (M.wtsOf x l.length)
  eq : bound l s (M.wtsOf x l.length) * x.den = (M.wtsOf x l.length).den * cost l x.pt
  tb : x.tight.length ≤ x.by_.length ∧ x.tight.length ≤ 1000 ∧ WhichOK l.length x.tight
structure NearS (l : List Cask) (s : Sample) (x : M.Corner) : Prop where
  b : Blend l s x.pt x.den (en x.pt l.length)
  f0 : 0 ≤ en x.pt l.length
  d : x.den ≤ 200000000000
  pl : x.pt.length = l.length + 1
  p : Proof l s (M.far l) (M.wtsOf x l.length)
  eq : bound l s (M.wtsOf x l.length) * x.den = (M.wtsOf x l.length).den * en x.pt l.length
  ws : wsum (M.wtsOf x l.length) ≤ (M.wtsOf x l.length).den
  tb : x.tight.length ≤ x.by_.length ∧ x.tight.length ≤ 1000 ∧ WhichOK l.length x.tight
theorem Blend.parts (h : RightL l s) {pt : List Int} {den far : Int} (hb : Blend l s pt den far) (hd : den ≤ 200000000000) (hl : pt.length = l.length) : RightP l den pt := by
  refine ⟨hl, ⟨hb.dp, hd⟩, fun i hi => ⟨hb.p0 i hi, ?_⟩⟩
  have h1 := hb.p1 i hi
  have h2 := (h.rc i hi).vol
  have h3 : (l.getD i dfC).vol * den ≤ 10000 * 200000000000 := Int.mul_le_mul h2.2 hd (Int.le_of_lt hb.dp) (by decide)
  show pt.getD i 0 ≤ _
  have h1 : pt.getD i 0 ≤ (l.getD i dfC).vol * den := h1
  omega
end
end Go.Bl
end

section
set_option linter.unusedVariables false
set_option linter.unusedSimpArgs false
set_option maxRecDepth 100000
namespace Go.Bl
open Go.V Go.Proofs
end Go.Bl
end

section
set_option linter.unusedVariables false
set_option linter.unusedSimpArgs false
set_option maxRecDepth 100000
namespace Go.Bl
open Go.V Go.Proofs
namespace M
end M
theorem not_true {b : Bool} (h : (!b) = true) : b = false := by cases b <;> simp_all
theorem not_false' {b : Bool} (h : (!b) = false) : b = true := by cases b <;> simp_all
end Go.Bl
end

section
set_option linter.unusedVariables false
set_option linter.unusedSimpArgs false
set_option maxRecDepth 100000
namespace Go.Bl
open Go.V Go.Proofs
namespace M
end M
structure RightW (l : List Cask) (s : Sample) (w : Wts) : Prop where
  rl : RightL l s
  den : 1 ≤ w.den ∧ w.den ≤ 200000000000
  each : w.each.natAbs ≤ 100000000000000
  len : w.casks.length = l.length
  all : Each (fun b => 0 ≤ b ∧ b ≤ 100000000000000) w
section
variable {l : List Cask} {s : Sample} {w : Wts}
end
section
variable {l : List Cask} {s : Sample} {w : Wts}
end
end Go.Bl
end

section
set_option linter.unusedVariables false
set_option linter.unusedSimpArgs false
set_option maxRecDepth 100000
namespace Go.Bl
open Go.V Go.Proofs
end Go.Bl
end

section
set_option linter.unusedVariables false
set_option linter.unusedSimpArgs false
set_option maxRecDepth 100000
namespace Go.Bl
open Go.V Go.Proofs
namespace M
end M
end Go.Bl
end

section
set_option linter.unusedVariables false
set_option linter.unusedSimpArgs false
set_option maxRecDepth 100000
namespace Go.Bl
open Go.V Go.Proofs
open Go.Lp
end Go.Bl
end

section
set_option linter.unusedVariables false
set_option linter.unusedSimpArgs false
set_option maxRecDepth 100000
namespace Go.Bl
open Go.V Go.Proofs
namespace M
def wideR (r : Rg) (d : Int) : Rg := ⟨if IntKind.i64.wrap (r.lo - d) > 0 then IntKind.i64.wrap (r.lo - d) else 0, if IntKind.i64.wrap (r.hi + d) < 1000 then IntKind.i64.wrap (r.hi + d) else 1000⟩
def wide (s : Sample) (d : Int) : Sample := ⟨s.vol, wideR s.r0 d, wideR s.r1 d, wideR s.r2 d, wideR s.r3 d⟩
end M
end Go.Bl
end

section
set_option linter.unusedVariables false
set_option linter.unusedSimpArgs false
set_option maxRecDepth 100000
namespace Go.Bl
open Go.V Go.Proofs
end Go.Bl
end

section
set_option linter.unusedVariables false
set_option linter.unusedSimpArgs false
set_option maxRecDepth 100000
namespace Go.Bl
open Go.V Go.Proofs Go.Lp
section
variable {l : List Cask} {s : Sample} {x : M.Corner}
structure Wide (s s' : Sample) (d : Int) : Prop where
  d0 : 0 ≤ d ∧ d ≤ 1000
  v : s'.vol = s.vol
  hi : ∀ k, k < 4 → (M.rg s k).hi ≤ (M.rg s' k).hi ∧ (M.rg s' k).hi ≤ (M.rg s k).hi + d ∧ ((M.rg s' k).hi = 1000 ∨ (M.rg s' k).hi = (M.rg s k).hi + d)
  lo : ∀ k, k < 4 → (M.rg s' k).lo ≤ (M.rg s k).lo ∧ (M.rg s k).lo - d ≤ (M.rg s' k).lo ∧ ((M.rg s' k).lo = 0 ∨ (M.rg s' k).lo = (M.rg s k).lo - d)
end
end Go.Bl
end

section
set_option linter.unusedVariables false
set_option linter.unusedSimpArgs false
set_option maxRecDepth 100000
namespace Go.Bl
open Go.V Go.Proofs Go.Lp
section
variable {l : List Cask} {s : Sample} {x : M.Corner}
end
section
variable {l : List Cask} {s : Sample} {x : M.Corner}
theorem ceil_spec {n d : Int} (hd : 0 < d) : (-((-n) / d) - 1) * d < n ∧ n ≤ -((-n) / d) * d := by
  have h1 := Int.mul_ediv_add_emod (-n) d
  have h2 := Int.emod_nonneg (-n) (show d ≠ 0 by omega)
  have h3 := Int.emod_lt_of_pos (-n) hd
  rw [Int.mul_comm] at h1
  rw [Int.sub_mul, Int.neg_mul]
  omega
end
end Go.Bl
end

section
set_option linter.unusedVariables false
set_option linter.unusedSimpArgs false
set_option maxRecDepth 100000
namespace Go.Bl
open Go.V Go.Proofs Go.Lp
structure Rev (l k : List Cask) : Prop where
  len : k.length = l.length
  at_ : ∀ i, i < l.length → k.getD i dfC = l.getD (l.length - 1 - i) dfC
theorem Rev.symm {l k : List Cask} (h : Rev l k) : Rev k l := by
  refine ⟨h.len.symm, fun i hi => ?_⟩
  have := h.at_ (k.length - 1 - i) (by rw [h.len] at hi ⊢; omega)
  rw [this]
  congr 1
  rw [h.len] at hi ⊢
  omega
section
variable {l k : List Cask} {s : Sample}
end
end Go.Bl
end

section
set_option linter.unusedVariables false
set_option linter.unusedSimpArgs false
set_option maxRecDepth 100000
namespace Go.Bl
open Go.V Go.Proofs
end Go.Bl
end

section
set_option linter.unusedVariables false
set_option linter.unusedSimpArgs false
set_option maxRecDepth 100000
namespace Go.Bl
open Go.V Go.Proofs
def tr90 (q_l : Bool) (l : List Cask) (ps : List Int) : T (List Ar) :=
    T.need ((0 : Int) ≤ (Nat.cast (R := Int) (List.length l))) (T.need ((Nat.cast (R := Int) (List.length l)) ≤ (Nat.cast (R := Int) (List.length l))) (T.need ((Nat.cast (R := Int) (List.length l)) ≤ (1000000 : Int)) (T.need (Enc.Is eI (Int.toNat (Nat.cast (R := Int) (List.length l))) fun (x j : Nat) => List.getD [D.int IntKind.i64 (0 : Int)] j D.nilp) (T.need (Int.toNat (Nat.cast (R := Int) (List.length l)) ≤ Int.toNat (Nat.cast (R := Int) (List.length l))) (T.loop (Int × D × Int × List Int × PUnit) ((0 : Int), D.sl q_l (List.length l) (7 : Nat) (Enc.F eC l), (1 : Int), Enc.list eI (Int.toNat (Nat.cast (R := Int) (List.length l))) fun (x j : Nat) => List.getD [D.int IntKind.i64 (0 : Int)] j D.nilp, PUnit.unit) fun (x : Int × D × Int × List Int × PUnit) => T.br (decide (Prod.fst x < (Nat.cast (R := Int) (List.length ps)))) (T.need ((0 : Int) ≤ Prod.fst x) (T.need (Prod.fst x < (Nat.cast (R := Int) (List.length ps))) (T.need ((0 : Int) ≤ List.getD ps (Int.toNat (Prod.fst x)) (0 : Int)) (T.need (List.getD ps (Int.toNat (Prod.fst x)) (0 : Int) < (Nat.cast (R := Int) (List.length l))) (T.need ((0 : Int) ≤ List.getD ps (Int.toNat (Prod.fst x)) (0 : Int)) (T.need (List.getD ps (Int.toNat (Prod.fst x)) (0 : Int) < (Nat.cast (R := Int) (List.length (Prod.fst (Prod.snd (Prod.snd (Prod.snd x))))))) (T.need (Int.toNat (List.getD ps (Int.toNat (Prod.fst x)) (0 : Int)) < List.length (Prod.fst (Prod.snd (Prod.snd (Prod.snd x))))) (T.need (Enc.Is eI (List.length (Prod.fst (Prod.snd (Prod.snd (Prod.snd x))))) (putF (Int.toNat (List.getD ps (Int.toNat (Prod.fst x)) (0 : Int))) (0 : Nat) (1 : Nat) [D.int IntKind.i64 (List.getD l (Int.toNat (List.getD ps (Int.toNat (Prod.fst x)) (Enc.dflt eI))) (Enc.dflt eC)).2] (Enc.F eI (Prod.fst (Prod.snd (Prod.snd (Prod.snd x))))))) (T.need (List.length (Prod.fst (Prod.snd (Prod.snd (Prod.snd x)))) ≤ List.length (Prod.fst (Prod.snd (Prod.snd (Prod.snd x))))) (T.ret (Sum.inl (IntKind.wrap IntKind.i64 (Prod.fst x + (1 : Int)), (Prod.snd x).1, Prod.fst (Prod.snd (Prod.snd x)), Enc.list eI (List.length (Prod.fst (Prod.snd (Prod.snd (Prod.snd x))))) (putF (Int.toNat (List.getD ps (Int.toNat (Prod.fst x)) (0 : Int))) (0 : Nat) (1 : Nat) [D.int IntKind.i64 (List.getD l (Int.toNat (List.getD ps (Int.toNat (Prod.fst x)) (Enc.dflt eI))) (Enc.dflt eC)).2] (Enc.F eI (Prod.fst (Prod.snd (Prod.snd (Prod.snd x)))))), PUnit.unit)))))))))))) (T.need (List.length (Prod.fst (Prod.snd (Prod.snd (Prod.snd x)))) ≤ List.length (Prod.fst (Prod.snd (Prod.snd (Prod.snd x))))) (T.ret (Sum.inr [Ar.agg [(Prod.snd x).1, D.int IntKind.i64 (Prod.fst (Prod.snd (Prod.snd x))), D.sl true (List.length (Prod.fst (Prod.snd (Prod.snd (Prod.snd x))))) (1 : Nat) (Enc.F eI (Prod.fst (Prod.snd (Prod.snd (Prod.snd x)))))]]))))))))
theorem t90 (q_l : Bool) (l : List Cask) (q_ps : Bool) (ps : List Int) : runFnX Try.prog G0 (lookS []) (fun _ => [(3, [.slot 16 (.int .i64), .blk 5 [.im, .int .i64, .rowE 3 eI]], none)]) [] 1 40 5 90 Try.f90 [.c (.sl q_l l.length 7 (eC.F l)), .c (.sl q_ps ps.length 1 (eI.F ps))] =
    tr90 q_l l ps := by kernel_rfl
def tr125 (ps : List Int) (k : Int) : T (List Ar) :=
    T.loop (Int × PUnit) ((0 : Int), PUnit.unit) fun (x : Int × PUnit) => T.br (decide (Prod.fst x < (Nat.cast (R := Int) (List.length ps)))) (T.need ((0 : Int) ≤ Prod.fst x) (T.need (Prod.fst x < (Nat.cast (R := Int) (List.length ps))) (T.br (List.getD ps (Int.toNat (Prod.fst x)) (0 : Int) == k) (T.ret (Sum.inr [Ar.c (D.bool true)])) (T.ret (Sum.inl (IntKind.wrap IntKind.i64 (Prod.fst x + (1 : Int)), PUnit.unit)))))) (T.ret (Sum.inr [Ar.c (D.bool false)]))
theorem t125 (q_ps : Bool) (ps : List Int) (k : Int) : runFnX Try.prog G0 (lookS []) (fun _ => [(2, [.slot 5 (.int .i64)], none)]) [] 1 40 5 125 Try.f125 [.c (.sl q_ps ps.length 1 (eI.F ps)), .c (dI k)] =
    tr125 ps k := by kernel_rfl
namespace M
def has (ps : List Int) (k : Int) : Bool := ps.any fun n => n == k
def wholeP (l : List Cask) (ps : List Int) : List Int := (List.range l.length).map fun (i : Nat) => if has ps i then (l.getD i dfC).vol else 0
end M
theorem w125 (ps : List Int) (k : Int) (hp : ps.length ≤ 1000000) : (tr125 ps k).wp (fun rs => rsEqv rs [rB (M.has ps k)]) := by
  unfold tr125
  refine range_wp (n := ps.length) (fun i _ => ∀ j, j < i → (ps.getD j 0 == k) = false) (fun j hj => absurd hj (Nat.not_lt_zero _)) ?_
  rintro i u hk hI
  refine ⟨fun hb => ?_, fun hb => ?_⟩
  · have hlt := lt_of_dec hb
    refine ⟨by show (0 : Int) ≤ i; omega, by show (i : Int) < ps.length; omega, fun hc => ?_, fun hc => ?_⟩
    · have : M.has ps k = true := List.any_eq_true.2 ⟨ps.getD i 0, getD_mem hlt, hc⟩
      rw [this]; exact rsEqv_refl _
    · refine ⟨hlt, wrap_succ (k := i) (by omega), fun j hj => ?_⟩
      by_cases e : j = i
      · subst e; exact hc
      · exact hI j (by omega)
  · have hge := ge_of_dec hb
    have : M.has ps k = false := by
      rw [Bool.eq_false_iff]; intro e
      obtain ⟨x, hx, hxk⟩ := List.any_eq_true.1 e
      obtain ⟨j, hj, rfl⟩ := List.getElem_of_mem hx
      have := hI j (by omega)
      rw [List.getD_eq_getElem?_getD, List.getElem?_eq_getElem hj] at this
      rw [show (some ps[j]).getD 0 = ps[j] from rfl] at this
      rw [hxk] at this; cases this
    rw [this]; exact rsEqv_refl _
theorem has_take {ps : List Int} {k : Nat} {x : Int} (hk : k < ps.length) : M.has (ps.take (k + 1)) x = (M.has (ps.take k) x || (ps.getD k 0 == x)) := by
  unfold M.has
  rw [take_push (d := 0) hk, List.any_append]
  simp
theorem w90 (q_l : Bool) (l : List Cask) (ps : List Int) (hl : l.length ≤ 1000000) (hp : ps.length ≤ 1000000) (hin : ∀ i, i < ps.length → 0 ≤ ps.getD i 0 ∧ ps.getD i 0 < l.length) : (tr90 q_l l ps).wp (fun rs => rsEqv rs [.agg [.sl false l.length 7 (eC.F l), dI 1, .sl false l.length 1 (eI.F (M.wholeP l ps))]]) := by
  unfold tr90
  obtain ⟨z1, z2⟩ := zeros_int l.length
  have hn : ((l.length : Nat) : Int).toNat = l.length := Int.toNat_natCast _
  simp only [hn, z2]
  refine ⟨by omega, Int.le_refl _, by omega, z1, Nat.le_refl _, ?_⟩
  refine range_wp (S := D × Int × List Int × PUnit) (n := ps.length) (fun k s => s.1 = D.sl q_l l.length 7 (eC.F l) ∧ s.2.1 = 1 ∧ s.2.2.1 = M.wholeP l (ps.take k)) ?_ ?_
  · refine ⟨rfl, rfl, ?_⟩
    show List.replicate l.length 0 = M.wholeP l (ps.take 0)
    unfold M.wholeP
    rw [List.take_zero]
    apply List.ext_getElem
    · simp
    · intro i h1 h2; simp [M.has]
  · rintro k ⟨a, d, acc, u⟩ hk ⟨i1, i2, i3⟩
    simp only at i1 i2 i3
    subst i1 i2 i3
    have hlen : ∀ q, (M.wholeP l q).length = l.length := fun q => by simp [M.wholeP]
    have gw : ∀ (q : List Int) (i : Nat) (h : i < (M.wholeP l q).length), (M.wholeP l q)[i] = if M.has q i then (l.getD i dfC).vol else 0 := by
      intro q i h; simp [M.wholeP]
    refine ⟨fun hb => ?_, fun hb => ?_⟩
    · have hlt := lt_of_dec hb
      have hr := hin k hlt
      obtain ⟨m, hm⟩ : ∃ m : Nat, ps.getD k 0 = m := ⟨(ps.getD k 0).toNat, by omega⟩
      have hml : m < l.length := by omega
      obtain ⟨p1, p2⟩ := put_int (l := M.wholeP l (ps.take k)) (i := m) (b := (l.getD m dfC).vol) (by rw [hlen]; exact hml)
      have hmn : (ps.getD k 0).toNat = m := by omega
      refine ⟨by show (0 : Int) ≤ k; omega, by show (k : Int) < ps.length; omega, hr.1, hr.2, hr.1, ?_, ?_, ?_, Nat.le_refl _, ⟨hlt, wrap_succ (k := k) (by omega), rfl, rfl, ?_⟩⟩
      · show ps.getD k 0 < ((M.wholeP l (ps.take k)).length : Int); rw [hlen]; exact hr.2
      · show (ps.getD k 0).toNat < (M.wholeP l (ps.take k)).length; rw [hlen, hmn]; exact hml
      · show eI.Is _ (putF (ps.getD k 0).toNat 0 1 [dI (l.getD (ps.getD k 0).toNat dfC).vol] _); rw [hmn]; exact p1
      · show eI.list _ (putF (ps.getD k 0).toNat 0 1 [dI (l.getD (ps.getD k 0).toNat dfC).vol] _) = _
        rw [hmn]
        refine p2.trans ?_
        apply List.ext_getElem
        · simp [M.wholeP]
        · intro i h1 h2
          have hi : i < l.length := by simpa [M.wholeP] using h2
          rw [List.getElem_set, gw, gw, has_take hlt, hm]
          by_cases e : m = i
          · subst e; simp
          · rw [if_neg e]
            have : ((m : Int) == (i : Int)) = false := beq_of_ne (by omega)
            rw [this, Bool.or_false]
    · have hge := ge_of_dec hb
      have e : ps.take k = ps := List.take_of_length_le (by omega)
      refine ⟨Nat.le_refl _, ⟨sl_eqv, rfl, ?_, trivial⟩, trivial⟩
      show (D.sl true (M.wholeP l (ps.take k)).length 1 (eI.F (M.wholeP l (ps.take k)))).eqv _
      rw [e, hlen]; exact sl_eqv
def dom125 : DomF
  | [.c (.sl _ n_ps st_ps F_ps), .c (.int .i64 k)] => (match Nat.beq st_ps 1 with
    | true => some ([eI.Is n_ps F_ps, (eI.list n_ps F_ps).length ≤ 1000000], [rB (M.has (eI.list n_ps F_ps) k)])
    | _ => none)
  | _ => none
def v125 : Nat × Sm := (125, fokSm dom125)
theorem C125 : FOK Try.prog G0 gw 125 dom125 := by
  intro ags p r hd hp κ w xs hw hl hG hx
  unfold dom125 at hd
  split at hd
  · rename_i q_ps n_ps st_ps F_ps k
    split at hd
    · rename_i hst
      have g1 := hst
      have g1 := Nat.eq_of_beq_eq_true g1
      subst g1
      simp only [Option.some.injEq, Prod.mk.injEq] at hd
      obtain ⟨rfl, rfl⟩ := hd
      obtain ⟨hI_ps, hp⟩ := hp
      have heq : agsEqv [.c (.sl q_ps n_ps 1 F_ps), .c (.int .i64 k)] [.c (.sl q_ps (eI.list n_ps F_ps).length 1 (eI.F (eI.list n_ps F_ps))), .c (.int .i64 k)] := ⟨eI.to id hI_ps, Ag.eqv_refl _, trivial⟩
      have len_ps : (eI.list n_ps F_ps).length = n_ps := eI.list_len
      generalize eI.list n_ps F_ps = ps at *
      subst len_ps
      exact fokX_fin mixed gw_stable (sl := []) trivial Try.func125 hw hl hG hx heq rfl (t125 q_ps ps k) (w125 ps k hp.1)
    · cases hd
  · cases hd
theorem S125 : SumOK Try.prog G0 gw 125 (fokSm dom125) := fok_sum Try.func125 rfl C125
end Go.Bl
end

section
set_option linter.unusedVariables false
set_option linter.unusedSimpArgs false
set_option maxRecDepth 100000
namespace Go.Bl
open Go.V Go.Proofs
def tr98 (l : List Cask) (ps : List Int) : T (List Ar) :=
    T.loop2 (Int × PUnit × PUnit) (Int × List Int × PUnit) (Sum.inl ((0 : Int), PUnit.unit, PUnit.unit)) (fun (x : Int × PUnit × PUnit) => T.br (decide (Prod.fst x < (Nat.cast (R := Int) (List.length l)))) (T.need (Enc.Is eI (List.length ps) (Enc.F eI ps)) (T.need (List.length (Enc.list eI (List.length ps) (Enc.F eI ps)) ≤ (1000000 : Nat)) (T.br (M.has (Enc.list eI (List.length ps) (Enc.F eI ps)) (Prod.fst x)) (T.need ((0 : Int) ≤ Prod.fst x) (T.need (Prod.fst x < (Nat.cast (R := Int) (List.length l))) (T.need ((1 : Nat) ≤ (1000000 : Nat)) (T.need (Enc.Is eI (1 : Nat) (joinF (0 : Nat) (fun (x x_1 : Nat) => D.nilp) (oneF (List.getD l (Int.toNat (Prod.fst x)) (Enc.dflt eC)).2))) (T.need ((1 : Nat) ≤ (1 : Nat)) (T.ret (Sum.inl (Sum.inr (IntKind.wrap IntKind.i64 (Prod.fst x + (1 : Int)), Enc.list eI (1 : Nat) (joinF (0 : Nat) (fun (x x_1 : Nat) => D.nilp) (oneF (List.getD l (Int.toNat (Prod.fst x)) (Enc.dflt eC)).2)), PUnit.unit))))))))) (T.need ((1 : Nat) ≤ (1000000 : Nat)) (T.need (Enc.Is eI (1 : Nat) (joinF (0 : Nat) (fun (x x_1 : Nat) => D.nilp) (oneF (0 : Int)))) (T.need ((1 : Nat) ≤ (1 : Nat)) (T.ret (Sum.inl (Sum.inr (IntKind.wrap IntKind.i64 (Prod.fst x + (1 : Int)), Enc.list eI (1 : Nat) (joinF (0 : Nat) (fun (x x_1 : Nat) => D.nilp) (oneF (0 : Int))), PUnit.unit)))))))))) (T.ret (Sum.inr [Ar.c (D.sl false (0 : Nat) (0 : Nat) fun (x x_1 : Nat) => D.nilp)]))) fun (y : Int × List Int × PUnit) => T.br (decide (Prod.fst y < (Nat.cast (R := Int) (List.length l)))) (T.need (Enc.Is eI (List.length ps) (Enc.F eI ps)) (T.need (List.length (Enc.list eI (List.length ps) (Enc.F eI ps)) ≤ (1000000 : Nat)) (T.br (M.has (Enc.list eI (List.length ps) (Enc.F eI ps)) (Prod.fst y)) (T.need ((0 : Int) ≤ Prod.fst y) (T.need (Prod.fst y < (Nat.cast (R := Int) (List.length l))) (T.need (List.length (Prod.fst (Prod.snd y)) + (1 : Nat) ≤ (1000000 : Nat)) (T.need (List.length (Prod.fst (Prod.snd y)) ≤ List.length (Prod.fst (Prod.snd y))) (T.need (Enc.Is eI (List.length (Prod.fst (Prod.snd y)) + (1 : Nat)) (joinF (List.length (Prod.fst (Prod.snd y))) (Enc.F eI (Prod.fst (Prod.snd y))) (oneF (List.getD l (Int.toNat (Prod.fst y)) (Enc.dflt eC)).2))) (T.need (List.length (Prod.fst (Prod.snd y)) + (1 : Nat) ≤ List.length (Prod.fst (Prod.snd y)) + (1 : Nat)) (T.ret (Sum.inl (Sum.inr (IntKind.wrap IntKind.i64 (Prod.fst y + (1 : Int)), Enc.list eI (List.length (Prod.fst (Prod.snd y)) + (1 : Nat)) (joinF (List.length (Prod.fst (Prod.snd y))) (Enc.F eI (Prod.fst (Prod.snd y))) (oneF (List.getD l (Int.toNat (Prod.fst y)) (Enc.dflt eC)).2)), PUnit.unit)))))))))) (T.need (List.length (Prod.fst (Prod.snd y)) + (1 : Nat) ≤ (1000000 : Nat)) (T.need (List.length (Prod.fst (Prod.snd y)) ≤ List.length (Prod.fst (Prod.snd y))) (T.need (Enc.Is eI (List.length (Prod.fst (Prod.snd y)) + (1 : Nat)) (joinF (List.length (Prod.fst (Prod.snd y))) (Enc.F eI (Prod.fst (Prod.snd y))) (oneF (0 : Int)))) (T.need (List.length (Prod.fst (Prod.snd y)) + (1 : Nat) ≤ List.length (Prod.fst (Prod.snd y)) + (1 : Nat)) (T.ret (Sum.inl (Sum.inr (IntKind.wrap IntKind.i64 (Prod.fst y + (1 : Int)), Enc.list eI (List.length (Prod.fst (Prod.snd y)) + (1 : Nat)) (joinF (List.length (Prod.fst (Prod.snd y))) (Enc.F eI (Prod.fst (Prod.snd y))) (oneF (0 : Int))), PUnit.unit))))))))))) (T.need (List.length (Prod.fst (Prod.snd y)) ≤ List.length (Prod.fst (Prod.snd y))) (T.ret (Sum.inr [Ar.c (D.sl true (List.length (Prod.fst (Prod.snd y))) (1 : Nat) (Enc.F eI (Prod.fst (Prod.snd y))))])))
theorem t98 (q_l : Bool) (l : List Cask) (q_ps : Bool) (ps : List Int) : runFnX Try.prog G0 (lookS [v125]) (fun _ => [(3, [.slot 6 (.int .i64), .slot 5 .nsl], some [.slot 6 (.int .i64), .slot 5 (.rowE 3 eI)])]) [] 1 40 5 98 Try.f98 [.c (.sl q_l l.length 7 (eC.F l)), .c (.sl q_ps ps.length 1 (eI.F ps))] =
    tr98 l ps := by kernel_rfl
theorem whole_len (l : List Cask) (q : List Int) : (M.wholeP l q).length = l.length := by simp [M.wholeP]
theorem whole_get {l : List Cask} {q : List Int} {i : Nat} (h : i < l.length) : (M.wholeP l q).getD i 0 = if M.has q i then (l.getD i dfC).vol else 0 := map_getD h
theorem w98 (l : List Cask) (ps : List Int) (hl : l.length ≤ 100000) (hp : ps.length ≤ 1000000) : (tr98 l ps).wp (fun rs => rsEqv rs [.c (.sl false l.length 1 (eI.F (M.wholeP l ps)))]) := by
  unfold tr98
  simp only [Enc.list_F]
  have hW := whole_len l ps
  have push : ∀ k, k < l.length → (M.wholeP l ps).take k ++ [if M.has ps (k : Int) then (l.getD k dfC).vol else 0] = (M.wholeP l ps).take (k + 1) := by
    intro k hk
    rw [take_push (d := 0) (by omega), whole_get hk]
  refine ⟨fun z => match z with
    | .inl x => x.1 = 0
    | .inr y => 1 ≤ y.1 ∧ y.1 ≤ (l.length : Int) ∧ y.2.1 = (M.wholeP l ps).take y.1.toNat,
    fun z => match z with | .inl _ => l.length + 5 | .inr y => l.length - y.1.toNat, rfl, ?_, ?_⟩
  · rintro ⟨x, u⟩ hx
    obtain rfl : x = 0 := hx
    refine ⟨fun hb => ?_, fun hb => ?_⟩
    · have hb : 0 < l.length := by have : (0 : Int) < l.length := of_decide_eq_true hb; omega
      have hw : IntKind.i64.wrap ((0 : Int) + 1) = 1 := rfl
      have hp0 := push 0 hb
      rw [List.take_zero, List.nil_append] at hp0
      refine ⟨Enc.is_F _ _ _, hp, fun hc => ?_, fun hc => ?_⟩
      · have hc : M.has ps ((0 : Nat) : Int) = true := hc
        rw [hc] at hp0
        obtain ⟨o1, o2⟩ := one_first (l.getD 0 dfC).vol
        refine ⟨Int.le_refl _, by show (0 : Int) < l.length; omega, by decide, o1, Nat.le_refl _, ⟨?_, ?_, ?_⟩, ?_⟩
        · show (1 : Int) ≤ IntKind.i64.wrap ((0 : Int) + 1); rw [hw]; decide
        · show IntKind.i64.wrap ((0 : Int) + 1) ≤ _; rw [hw]; omega
        · exact o2.trans hp0
        · show l.length - (IntKind.i64.wrap ((0 : Int) + 1)).toNat < l.length + 5; omega
      · have hc : M.has ps ((0 : Nat) : Int) = false := hc
        rw [hc] at hp0
        obtain ⟨o1, o2⟩ := one_first 0
        refine ⟨by decide, o1, Nat.le_refl _, ⟨?_, ?_, ?_⟩, ?_⟩
        · show (1 : Int) ≤ IntKind.i64.wrap ((0 : Int) + 1); rw [hw]; decide
        · show IntKind.i64.wrap ((0 : Int) + 1) ≤ _; rw [hw]; omega
        · exact o2.trans hp0
        · show l.length - (IntKind.i64.wrap ((0 : Int) + 1)).toNat < l.length + 5; omega
    · have hb : ¬ (0 : Int) < l.length := of_decide_eq_false hb
      have h0 : l.length = 0 := by omega
      have hW0 : M.wholeP l ps = [] := List.length_eq_zero_iff.1 (by omega)
      show rsEqv [.c nilD] _
      rw [hW0, h0]
      exact ⟨⟨(fun e => by cases e), rfl, fun h => absurd h (Nat.lt_irrefl 0), fun i j hi => absurd hi (Nat.not_lt_zero i)⟩, trivial⟩
  · rintro ⟨y, acc, u⟩ ⟨g1, g2, g3⟩
    simp only at g1 g2 g3
    obtain ⟨k, rfl⟩ : ∃ k : Nat, y = k := ⟨y.toNat, by omega⟩
    rw [Int.toNat_natCast] at g3
    have hacc : acc.length = k := by rw [g3, List.length_take]; omega
    refine ⟨fun hb => ?_, fun hb => ?_⟩
    · have hlt : k < l.length := by have : (k : Int) < l.length := of_decide_eq_true hb; omega
      have hw := wrap_succ (k := k) (by omega)
      have hp0 := push k hlt
      rw [← g3] at hp0
      refine ⟨Enc.is_F _ _ _, hp, fun hc => ?_, fun hc => ?_⟩
      · have hc : M.has ps (k : Int) = true := hc
        rw [hc] at hp0
        obtain ⟨o1, o2⟩ := one_push acc (l.getD k dfC).vol
        refine ⟨by show (0 : Int) ≤ k; omega, by show (k : Int) < l.length; omega, by show acc.length + 1 ≤ 1000000; omega, Nat.le_refl _, o1, Nat.le_refl _, ⟨?_, ?_, ?_⟩, ?_⟩
        · show (1 : Int) ≤ IntKind.i64.wrap ((k : Int) + 1); rw [hw]; omega
        · show IntKind.i64.wrap ((k : Int) + 1) ≤ _; rw [hw]; omega
        · refine o2.trans ?_
          show acc ++ [(l.getD k dfC).vol] = (M.wholeP l ps).take (IntKind.i64.wrap ((k : Int) + 1)).toNat
          rw [hw, Int.toNat_natCast]; exact hp0
        · show l.length - (IntKind.i64.wrap ((k : Int) + 1)).toNat < l.length - ((k : Int)).toNat
          rw [hw]; omega
      · have hc : M.has ps (k : Int) = false := hc
        rw [hc] at hp0
        obtain ⟨o1, o2⟩ := one_push acc 0
        refine ⟨by show acc.length + 1 ≤ 1000000; omega, Nat.le_refl _, o1, Nat.le_refl _, ⟨?_, ?_, ?_⟩, ?_⟩
        · show (1 : Int) ≤ IntKind.i64.wrap ((k : Int) + 1); rw [hw]; omega
        · show IntKind.i64.wrap ((k : Int) + 1) ≤ _; rw [hw]; omega
        · refine o2.trans ?_
          show acc ++ [0] = (M.wholeP l ps).take (IntKind.i64.wrap ((k : Int) + 1)).toNat
          rw [hw, Int.toNat_natCast]; exact hp0
        · show l.length - (IntKind.i64.wrap ((k : Int) + 1)).toNat < l.length - ((k : Int)).toNat
          rw [hw]; omega
    · have hge : ¬ (k : Int) < l.length := of_decide_eq_false hb
      have e : acc = M.wholeP l ps := by rw [g3]; exact List.take_of_length_le (by omega)
      refine ⟨Nat.le_refl _, ?_⟩
      show rsEqv [.c (.sl true acc.length 1 (eI.F acc))] _
      rw [e, hW]; exact ⟨sl_eqv, trivial⟩
def dom98 : DomF
  | [.c (.sl _ n_l st_l F_l), .c (.sl _ n_ps st_ps F_ps)] => (match Nat.beq st_l 7 && Nat.beq st_ps 1 with
    | true => some ([eC.Is n_l F_l, eI.Is n_ps F_ps, (eC.list n_l F_l).length ≤ 100000, (eI.list n_ps F_ps).length ≤ 1000000], [.c (.sl false n_l 1 (eI.F (M.wholeP (eC.list n_l F_l) (eI.list n_ps F_ps))))])
    | _ => none)
  | _ => none
def v98 : Nat × Sm := (98, fokSm dom98)
theorem C98 : FOK Try.prog G0 gw 98 dom98 := by
  intro ags p r hd hp κ w xs hw hl hG hx
  unfold dom98 at hd
  split at hd
  · rename_i q_l n_l st_l F_l q_ps n_ps st_ps F_ps
    split at hd
    · rename_i hst
      simp only [Bool.and_eq_true] at hst
      obtain ⟨g1, g2⟩ := hst
      have g1 := Nat.eq_of_beq_eq_true g1
      have g2 := Nat.eq_of_beq_eq_true g2
      subst g1 g2
      simp only [Option.some.injEq, Prod.mk.injEq] at hd
      obtain ⟨rfl, rfl⟩ := hd
      obtain ⟨hI_l, hI_ps, hp⟩ := hp
      have heq : agsEqv [.c (.sl q_l n_l 7 F_l), .c (.sl q_ps n_ps 1 F_ps)] [.c (.sl q_l (eC.list n_l F_l).length 7 (eC.F (eC.list n_l F_l))), .c (.sl q_ps (eI.list n_ps F_ps).length 1 (eI.F (eI.list n_ps F_ps)))] := ⟨eC.to id hI_l, eI.to id hI_ps, trivial⟩
      have len_l : (eC.list n_l F_l).length = n_l := eC.list_len
      have len_ps : (eI.list n_ps F_ps).length = n_ps := eI.list_len
      generalize eC.list n_l F_l = l at *
      generalize eI.list n_ps F_ps = ps at *
      subst len_l len_ps
      exact fokX_fin mixed gw_stable (sl := [v125]) ⟨S125, trivial⟩ Try.func98 hw hl hG hx heq rfl (t98 q_l l q_ps ps) (w98 l ps hp.1 hp.2.1)
    · cases hd
  · cases hd
theorem S98 : SumOK Try.prog G0 gw 98 (fokSm dom98) := fok_sum Try.func98 rfl C98
end Go.Bl
end

section
set_option linter.unusedVariables false
set_option linter.unusedSimpArgs false
set_option maxRecDepth 100000
namespace Go.Bl
open Go.V Go.Proofs Go.Lp
theorem fold_small {f : Int → Nat → Int} {y : Nat → Int} {n : Nat} (hf : ∀ a i, i < n → f a i = IntKind.i64.wrap (a + y i)) (hy : ∀ i, i < n → (y i).natAbs ≤ 10000000) (hn : n ≤ 10) :
    (List.range n).foldl f 0 = dot y n ∧ (dot y n).natAbs ≤ n * 10000000 := by
  have key : ∀ k, k ≤ n → (List.range k).foldl f 0 = dot y k ∧ (dot y k).natAbs ≤ k * 10000000 := by
    intro k
    induction k with
    | zero => intro _; exact ⟨rfl, by show (0 : Int).natAbs ≤ _; simp⟩
    | succ k ih =>
      intro hk
      obtain ⟨h1, h2⟩ := ih (by omega)
      have hb := hy k (by omega)
      have e : dot y (k + 1) = dot y k + y k := rfl
      have hb' : (dot y (k + 1)).natAbs ≤ (k + 1) * 10000000 := by rw [e]; omega
      refine ⟨?_, hb'⟩
      rw [foldl_succ, h1, hf _ _ (by omega), ← e]
      exact wrap_id (by omega) (by omega)
  exact key n (Nat.le_refl n)
structure RightT (l : List Cask) : Prop where
  n1 : 1 ≤ l.length
  n10 : l.length ≤ 10
  rc : ∀ i, i < l.length → RightC (l.getD i dfC)
theorem casks_ten {l : List Cask} (h : (M.checkCasks l).2 = 0) : RightT l := by
  unfold M.checkCasks at h
  cases e0 : decide (l.length = 0)
  · rw [e0] at h
    have h : (cond (decide (10 < l.length)) ((0 : Int), (8 : Int)) (M.casksFrom l l.length 0)).2 = 0 := h
    cases e1 : decide (10 < l.length)
    · rw [e1] at h
      have h : (M.casksFrom l l.length 0).2 = 0 := h
      have e0 := of_decide_eq_false e0
      have e1 := of_decide_eq_false e1
      refine ⟨by omega, by omega, fun i hi => ?_⟩
      have hc := casksFrom_zero _ _ h i (Nat.zero_le _) (by omega)
      unfold M.caskErr at hc
      exact rightC_spec (unl_zero (e := 2) (by decide) (first_nil _ hc _ (List.mem_cons_of_mem _ (List.mem_cons_of_mem _ (List.mem_cons_self ..)))))
    · rw [e1] at h
      exact absurd (show (8 : Int) = 0 from h) (by decide)
  · rw [e0] at h
    exact absurd (show (10 : Int) = 0 from h) (by decide)
section
variable {l : List Cask} {ps : List Int} {s : Sample}
theorem whole_b (h : RightT l) {i : Nat} (hi : i < l.length) : 0 ≤ (M.wholeP l ps).getD i 0 ∧ (M.wholeP l ps).getD i 0 ≤ 10000 := by
  rw [whole_get hi]
  have := (h.rc i hi).vol
  split <;> omega
theorem mul_tiny {p w : Int} (hp : 0 ≤ p ∧ p ≤ 10000) (hw : w.natAbs ≤ 1000) : (p * w).natAbs ≤ 10000000 := by
  rw [Int.natAbs_mul]
  exact Nat.mul_le_mul (show p.natAbs ≤ 10000 by omega) hw
theorem sumW (h : RightT l) {of : Cask → Int} (hof : ∀ i, i < l.length → (of (l.getD i dfC)).natAbs ≤ 1000) :
    M.sumP of l (M.wholeP l ps) = dot (fun i => (M.wholeP l ps).getD i 0 * of (l.getD i dfC)) l.length ∧ (M.sumP of l (M.wholeP l ps)).natAbs ≤ 100000000 := by
  have hf := fold_small (f := fun a i => IntKind.i64.wrap (a + IntKind.i64.wrap ((M.wholeP l ps).getD i 0 * of (l.getD i dfC)))) (y := fun i => (M.wholeP l ps).getD i 0 * of (l.getD i dfC)) (n := l.length)
    (fun a i _ => wrap_add_wrap _ _) (fun i hi => mul_tiny (whole_b h hi) (hof i hi)) h.n10
  have e : M.sumP of l (M.wholeP l ps) = (List.range l.length).foldl (fun a i => IntKind.i64.wrap (a + IntKind.i64.wrap ((M.wholeP l ps).getD i 0 * of (l.getD i dfC)))) 0 := by unfold M.sumP; rw [whole_len]
  have := h.n10
  rw [e, hf.1]
  exact ⟨rfl, by omega⟩
theorem valW (h : RightT l) {of : Cask → Int} {c : Int} (hof : ∀ i, i < l.length → 0 ≤ of (l.getD i dfC) ∧ of (l.getD i dfC) ≤ 1000) (hc : 0 ≤ c ∧ c ≤ 1000) :
    M.valL l (M.wholeP l ps) of c = dot (fun i => (M.wholeP l ps).getD i 0 * (of (l.getD i dfC) - c)) l.length ∧ (M.valL l (M.wholeP l ps) of c).natAbs ≤ 100000000 := by
  have hf := fold_small (f := fun a i => IntKind.i64.wrap (a + IntKind.i64.wrap ((M.wholeP l ps).getD i 0 * IntKind.i64.wrap (of (l.getD i dfC) - c)))) (y := fun i => (M.wholeP l ps).getD i 0 * (of (l.getD i dfC) - c)) (n := l.length)
    (fun a i hi => by have := hof i hi; rw [wrap_add_wrap, wrap_id (n := of (l.getD i dfC) - c) (by omega) (by omega)]) (fun i hi => mul_tiny (whole_b h hi) (by have := hof i hi; omega)) h.n10
  have e : M.valL l (M.wholeP l ps) of c = (List.range l.length).foldl (fun a i => IntKind.i64.wrap (a + IntKind.i64.wrap ((M.wholeP l ps).getD i 0 * IntKind.i64.wrap (of (l.getD i dfC) - c)))) 0 := rfl
  have := h.n10
  rw [e, hf.1]
  exact ⟨rfl, by omega⟩
theorem dot_nn {y : Nat → Int} : ∀ {n : Nat}, (∀ i, i < n → 0 ≤ y i) → 0 ≤ dot y n
  | 0, _ => Int.le_refl _
  | n + 1, h => by
    have h1 := dot_nn (n := n) fun i hi => h i (by omega)
    have h2 := h n (by omega)
    show 0 ≤ dot y n + y n
    omega
theorem volW (h : RightT l) : M.sumP (fun _ => 1) l (M.wholeP l ps) = dot (fun i => (M.wholeP l ps).getD i 0) l.length ∧ 0 ≤ M.sumP (fun _ => 1) l (M.wholeP l ps) ∧ M.sumP (fun _ => 1) l (M.wholeP l ps) ≤ 100000000 := by
  have hs := sumW (ps := ps) h (of := fun _ => 1) (fun i hi => by decide)
  have e : dot (fun i => (M.wholeP l ps).getD i 0 * 1) l.length = dot (fun i => (M.wholeP l ps).getD i 0) l.length := dot_congr fun i _ => Int.mul_one _
  have h0 := dot_nn (y := fun i => (M.wholeP l ps).getD i 0) (n := l.length) fun i hi => (whole_b h hi).1
  have h1 := hs.1
  rw [e] at h1
  exact ⟨h1, by rw [h1]; exact h0, by have := hs.2; omega⟩
theorem isumW : M.isum (M.wholeP l ps) = M.sumP (fun _ => 1) l (M.wholeP l ps) := isum_eq (whole_len l ps)
theorem val0W (h : RightT l) {of : Cask → Int} (hof : ∀ i, i < l.length → 0 ≤ of (l.getD i dfC) ∧ of (l.getD i dfC) ≤ 1000) : M.valL l (M.wholeP l ps) of 0 = M.sumP of l (M.wholeP l ps) ∧ 0 ≤ M.sumP of l (M.wholeP l ps) ∧ M.sumP of l (M.wholeP l ps) ≤ 100000000 := by
  have h1 := valW (ps := ps) h hof (c := 0) (by decide)
  have h2 := sumW (ps := ps) h (of := of) (fun i hi => by have := hof i hi; omega)
  have e : dot (fun i => (M.wholeP l ps).getD i 0 * (of (l.getD i dfC) - 0)) l.length = dot (fun i => (M.wholeP l ps).getD i 0 * of (l.getD i dfC)) l.length := dot_congr fun i _ => by rw [Int.sub_zero]
  have h0 := dot_nn (y := fun i => (M.wholeP l ps).getD i 0 * of (l.getD i dfC)) (n := l.length) fun i hi => Int.mul_nonneg (whole_b h hi).1 (hof i hi).1
  refine ⟨by rw [h1.1, e, h2.1], by rw [h2.1]; exact h0, by have := h2.2; omega⟩
theorem kindW (h : RightT l) {of : Cask → Int} {lo hi : Int} (hof : ∀ i, i < l.length → 0 ≤ of (l.getD i dfC) ∧ of (l.getD i dfC) ≤ 1000) (h0 : 0 ≤ lo ∧ lo ≤ 1000) (h1 : 0 ≤ hi ∧ hi ≤ 1000) :
    IntKind.i64.wrap (IntKind.i64.wrap (lo * M.sumP (fun _ => 1) l (M.wholeP l ps)) - M.sumP of l (M.wholeP l ps)) = 0 - M.valL l (M.wholeP l ps) of lo ∧ IntKind.i64.wrap (M.sumP of l (M.wholeP l ps) - IntKind.i64.wrap (hi * M.sumP (fun _ => 1) l (M.wholeP l ps))) = M.valL l (M.wholeP l ps) of hi := by
  obtain ⟨v1, v2⟩ := valW (ps := ps) h hof h0
  obtain ⟨w1, w2⟩ := valW (ps := ps) h hof h1
  obtain ⟨s1, s2⟩ := sumW (ps := ps) h (of := of) fun i hi => by have := hof i hi; omega
  obtain ⟨u1, u2, u3⟩ := volW (ps := ps) h
  have d0 := dot_sub (fun i => (M.wholeP l ps).getD i 0) (fun i => of (l.getD i dfC)) lo l.length
  have d1 := dot_sub (fun i => (M.wholeP l ps).getD i 0) (fun i => of (l.getD i dfC)) hi l.length
  rw [← u1, ← s1, ← v1] at d0
  rw [← u1, ← s1, ← w1] at d1
  have m0 : 0 ≤ lo * M.sumP (fun _ => 1) l (M.wholeP l ps) := Int.mul_nonneg h0.1 u2
  have m1 : lo * M.sumP (fun _ => 1) l (M.wholeP l ps) ≤ 1000 * 100000000 := Int.mul_le_mul h0.2 u3 u2 (by decide)
  have m2 : 0 ≤ hi * M.sumP (fun _ => 1) l (M.wholeP l ps) := Int.mul_nonneg h1.1 u2
  have m3 : hi * M.sumP (fun _ => 1) l (M.wholeP l ps) ≤ 1000 * 100000000 := Int.mul_le_mul h1.2 u3 u2 (by decide)
  constructor
  · rw [wrap_id (n := lo * M.sumP (fun _ => 1) l (M.wholeP l ps)) (by omega) (by omega), wrap_id (by omega) (by omega)]
    omega
  · rw [wrap_id (n := hi * M.sumP (fun _ => 1) l (M.wholeP l ps)) (by omega) (by omega), wrap_id (by omega) (by omega)]
    omega
theorem meetsW (h : RightT l) (hs : M.checkSample s = 0) : M.meetsR l s (M.wholeP l ps) = decide (M.away l (M.wholeP l ps) s ≤ 0) := by
  obtain ⟨_, slo, shi, _⟩ := sample_right hs
  obtain ⟨a1, a2⟩ := kindW (ps := ps) h (of := M.kOf 0) (fun i hi => (h.rc i hi).k0) (slo 0 (by decide)) (shi 0 (by decide))
  obtain ⟨b1, b2⟩ := kindW (ps := ps) h (of := M.kOf 1) (fun i hi => (h.rc i hi).k1) (slo 1 (by decide)) (shi 1 (by decide))
  obtain ⟨c1, c2⟩ := kindW (ps := ps) h (of := M.kOf 2) (fun i hi => (h.rc i hi).k2) (slo 2 (by decide)) (shi 2 (by decide))
  obtain ⟨d1, d2⟩ := kindW (ps := ps) h (of := M.kOf 3) (fun i hi => (h.rc i hi).k3) (slo 3 (by decide)) (shi 3 (by decide))
  rw [show M.rg s 0 = s.r0 from rfl] at a1 a2
  rw [show M.rg s 1 = s.r1 from rfl] at b1 b2
  rw [show M.rg s 2 = s.r2 from rfl] at c1 c2
  rw [show M.rg s 3 = s.r3 from rfl] at d1 d2
  unfold M.away M.awayK M.meetsR M.badK
  rw [a1, a2, b1, b2, c1, c2, d1, d2]
  generalize M.valL l (M.wholeP l ps) (M.kOf 0) s.r0.lo = p0 at *
  generalize M.valL l (M.wholeP l ps) (M.kOf 0) s.r0.hi = q0 at *
  generalize M.valL l (M.wholeP l ps) (M.kOf 1) s.r1.lo = p1 at *
  generalize M.valL l (M.wholeP l ps) (M.kOf 1) s.r1.hi = q1 at *
  generalize M.valL l (M.wholeP l ps) (M.kOf 2) s.r2.lo = p2 at *
  generalize M.valL l (M.wholeP l ps) (M.kOf 2) s.r2.hi = q2 at *
  generalize M.valL l (M.wholeP l ps) (M.kOf 3) s.r3.lo = p3 at *
  generalize M.valL l (M.wholeP l ps) (M.kOf 3) s.r3.hi = q3 at *
  rw [Bool.eq_iff_iff]
  simp only [Bool.not_eq_true', Bool.or_eq_false_iff, decide_eq_false_iff_not, decide_eq_true_eq, gt_iff_lt, Int.not_lt, mx_le]
  constructor
  · rintro ⟨⟨x1, x2⟩, ⟨x3, x4⟩, ⟨x5, x6⟩, x7, x8⟩
    refine ⟨⟨⟨⟨⟨⟨⟨⟨?_, ?_⟩, ?_⟩, ?_⟩, ?_⟩, ?_⟩, ?_⟩, ?_⟩, ?_⟩ <;> omega
  · rintro ⟨⟨⟨⟨⟨⟨⟨⟨x0, x1⟩, x2⟩, x3⟩, x4⟩, x5⟩, x6⟩, x7⟩, x8⟩
    refine ⟨⟨?_, ?_⟩, ⟨?_, ?_⟩, ⟨?_, ?_⟩, ?_, ?_⟩ <;> omega
theorem told_one (n : Int) : M.told1 n 1 = n := by
  unfold M.told1
  rw [Int.gcd_one_right]
  exact Int.tdiv_one n
theorem ediv_of {a V q : Int} (hV : 0 < V) (h1 : q * V ≤ a) (h2 : a < (q + 1) * V) : a / V = q := by
  have e := Int.mul_ediv_add_emod a V
  have r0 := Int.emod_nonneg a (show V ≠ 0 by omega)
  have r1 := Int.emod_lt_of_pos a hV
  rw [Int.mul_comm] at e
  rcases Int.lt_trichotomy (a / V) q with h | h | h
  · have := Int.mul_le_mul_of_nonneg_right (show a / V + 1 ≤ q by omega) (Int.le_of_lt hV)
    rw [Int.add_mul, Int.one_mul] at this; omega
  · exact h
  · have := Int.mul_le_mul_of_nonneg_right (show q + 1 ≤ a / V by omega) (Int.le_of_lt hV); omega
theorem ceil_up {n V : Int} (hV : 0 < V) : (n + V - 1) / V = -((-n) / V) := by
  obtain ⟨c1, c2⟩ := ceil_spec (n := n) hV
  rw [Int.sub_mul, Int.one_mul] at c1
  exact ediv_of hV (by omega) (by rw [Int.add_mul, Int.one_mul]; omega)
end
end Go.Bl
end

section
set_option linter.unusedVariables false
set_option linter.unusedSimpArgs false
set_option maxRecDepth 100000
namespace Go.Bl
open Go.V Go.Proofs
namespace M
def wholeR (l : List Cask) (s : Sample) (ps : List Int) : Int × Int := cond (meets l (wholeP l ps) s != 0) (0, meets l (wholeP l ps) s) (sumP Cask.cost l (wholeP l ps), 0)
structure Means where
  r0 : Rg
  r1 : Rg
  r2 : Rg
  r3 : Rg
  e : Int
end M
theorem list_whole (l : List Cask) (ps : List Int) : eI.list l.length (eI.F (M.wholeP l ps)) = M.wholeP l ps := by
  have := Enc.list_F eI (M.wholeP l ps)
  rw [whole_len] at this; exact this
def resP2 (x : Int × Int) : List Ar := [rI x.1, rI x.2]
def tr45 (l : List Cask) (s : Sample) (ps : List Int) : T (List Ar) :=
    T.need (Enc.Is eC (List.length l) (Enc.F eC l)) (T.need (Enc.Is eI (List.length ps) (Enc.F eI ps)) (T.need (List.length (Enc.list eC (List.length l) (Enc.F eC l)) ≤ (100000 : Nat)) (T.need (List.length (Enc.list eI (List.length ps) (Enc.F eI ps)) ≤ (1000000 : Nat)) (T.need (Enc.Is eI (List.length l) (Enc.F eI (M.wholeP (Enc.list eC (List.length l) (Enc.F eC l)) (Enc.list eI (List.length ps) (Enc.F eI ps))))) (T.need (List.length (Enc.list eI (List.length l) (Enc.F eI (M.wholeP (Enc.list eC (List.length l) (Enc.F eC l)) (Enc.list eI (List.length ps) (Enc.F eI ps))))) ≤ (1000000 : Nat)) (T.br (decide (M.isum (Enc.list eI (List.length l) (Enc.F eI (M.wholeP (Enc.list eC (List.length l) (Enc.F eC l)) (Enc.list eI (List.length ps) (Enc.F eI ps))))) < s.vol)) (T.ret [Ar.c (D.int IntKind.i64 (0 : Int)), Ar.c (D.int IntKind.i64 (14 : Int))]) (T.need (Enc.Is eC (List.length l) (Enc.F eC l)) (T.need (Enc.Is eI (List.length l) (Enc.F eI (M.wholeP (Enc.list eC (List.length l) (Enc.F eC l)) (Enc.list eI (List.length ps) (Enc.F eI ps))))) (T.need (List.length (Enc.list eI (List.length l) (Enc.F eI (M.wholeP (Enc.list eC (List.length l) (Enc.F eC l)) (Enc.list eI (List.length ps) (Enc.F eI ps))))) = List.length (Enc.list eC (List.length l) (Enc.F eC l))) (T.need (List.length (Enc.list eC (List.length l) (Enc.F eC l)) ≤ (1000000 : Nat)) (T.br (!M.meetsR (Enc.list eC (List.length l) (Enc.F eC l)) s (Enc.list eI (List.length l) (Enc.F eI (M.wholeP (Enc.list eC (List.length l) (Enc.F eC l)) (Enc.list eI (List.length ps) (Enc.F eI ps)))))) (T.ret [Ar.c (D.int IntKind.i64 (0 : Int)), Ar.c (D.int IntKind.i64 (13 : Int))]) (T.loop (Int × Int × PUnit) ((0 : Int), (0 : Int), PUnit.unit) fun (x : Int × Int × PUnit) => T.br (decide (Prod.fst x < (Nat.cast (R := Int) (List.length l)))) (T.need ((0 : Int) ≤ Prod.fst x) (T.need (Prod.fst x < (Nat.cast (R := Int) (List.length l))) (T.need ((0 : Int) ≤ Prod.fst x) (T.need (Prod.fst x < (Nat.cast (R := Int) (List.length l))) (T.ret (Sum.inl (IntKind.wrap IntKind.i64 (Prod.fst x + (1 : Int)), IntKind.wrap IntKind.i64 (Prod.fst (Prod.snd x) + IntKind.wrap IntKind.i64 (List.getD (M.wholeP (Enc.list eC (List.length l) (Enc.F eC l)) (Enc.list eI (List.length ps) (Enc.F eI ps))) (Int.toNat (Prod.fst x)) (0 : Int) * (List.getD l (Int.toNat (Prod.fst x)) (Enc.dflt eC)).3)), PUnit.unit))))))) (T.ret (Sum.inr [Ar.c (D.int IntKind.i64 (Prod.fst (Prod.snd x))), Ar.c (D.int IntKind.i64 (0 : Int))]))))))))))))))
theorem t45 (q_l : Bool) (l : List Cask) (sv l0 h0 l1 h1 l2 h2 l3 h3 : Int) (q_ps : Bool) (ps : List Int) : runFnX Try.prog G0 (lookS [v98, v89, v75]) (fun _ => [(8, [.slot 10 (.int .i64), .slot 9 (.int .i64)], none)]) [] 1 40 5 45 Try.f45 [.c (.sl q_l l.length 7 (eC.F l)), .agg [dI sv, dI l0, dI h0, dI l1, dI h1, dI l2, dI h2, dI l3, dI h3], .c (.sl q_ps ps.length 1 (eI.F ps))] =
    tr45 l (⟨sv, ⟨l0, h0⟩, ⟨l1, h1⟩, ⟨l2, h2⟩, ⟨l3, h3⟩⟩ : Sample) ps := by kernel_rfl
theorem w45 (l : List Cask) (s : Sample) (ps : List Int) (hl : l.length ≤ 100000) (hp : ps.length ≤ 1000000) (hc : (M.checkCasks l).2 = 0) (hs : M.checkSample s = 0) : (tr45 l s ps).wp (fun rs => rsEqv rs (resP2 (M.wholeR l s ps))) := by
  unfold tr45
  simp only [Enc.list_F, list_whole]
  have hr := casks_ten hc
  have hW := whole_len l ps
  have h10 := hr.n10
  have g1 : (M.wholeP l ps).length ≤ 1000000 := by omega
  have g2 : l.length ≤ 1000000 := by omega
  have hm := meetsW (ps := ps) hr hs
  have hM : M.meets l (M.wholeP l ps) s = M.first [M.unl (decide (M.sumP (fun _ => 1) l (M.wholeP l ps) ≥ s.vol)) 14, M.unl (decide (M.away l (M.wholeP l ps) s ≤ 0)) 13] := rfl
  rw [isumW]
  iterate 6 refine ⟨by first | exact Enc.is_F _ _ _ | assumption | exact Nat.le_refl _ | decide, ?_⟩
  refine wp_br (fun hb => ?_) (fun hb => ?_)
  · have hb := of_decide_eq_true hb
    rw [decide_eq_false (show ¬ M.sumP (fun _ => 1) l (M.wholeP l ps) ≥ s.vol by omega)] at hM
    have hM : M.meets l (M.wholeP l ps) s = 14 := hM
    have : M.wholeR l s ps = (0, 14) := by unfold M.wholeR; rw [hM]; rfl
    rw [this]; exact rsEqv_refl _
  have hb := of_decide_eq_false hb
  rw [decide_eq_true (show M.sumP (fun _ => 1) l (M.wholeP l ps) ≥ s.vol by omega), ← hm] at hM
  iterate 4 refine ⟨by first | exact Enc.is_F _ _ _ | assumption | exact Nat.le_refl _ | decide, ?_⟩
  refine wp_br (fun hd => ?_) (fun hd => ?_)
  · rw [not_true hd] at hM
    have hM : M.meets l (M.wholeP l ps) s = 13 := hM
    have : M.wholeR l s ps = (0, 13) := by unfold M.wholeR; rw [hM]; rfl
    rw [this]; exact rsEqv_refl _
  rw [not_false' hd] at hM
  have hM : M.meets l (M.wholeP l ps) s = 0 := hM
  have : M.wholeR l s ps = (M.sumP Cask.cost l (M.wholeP l ps), 0) := by unfold M.wholeR; rw [hM]; rfl
  rw [this]
  refine range_wp (n := l.length) (fun k s => s.1 = (List.range k).foldl (fun a i => IntKind.i64.wrap (a + IntKind.i64.wrap ((M.wholeP l ps).getD i 0 * (l.getD i dfC).cost))) 0) rfl ?_
  rintro k ⟨a, u⟩ hk hI
  simp only at hI
  refine ⟨fun hb => ?_, fun hb => ?_⟩
  · have hlt := lt_of_dec hb
    refine ⟨by show (0 : Int) ≤ k; omega, by show (k : Int) < l.length; omega, by show (0 : Int) ≤ k; omega, by show (k : Int) < l.length; omega, hlt, wrap_succ (k := k) (by omega), ?_⟩
    rw [foldl_succ, ← hI]; rfl
  · have hge := ge_of_dec hb
    obtain rfl : k = l.length := by omega
    have e : a = M.sumP Cask.cost l (M.wholeP l ps) := by unfold M.sumP; rw [hW]; exact hI
    show rsEqv [rI a, rI 0] _
    rw [e]; exact rsEqv_refl _
theorem kinds {l' : List Cask} (h : RightT l') {ps : List Int} (k : Int) (hk : k = 0 ∨ k = 1 ∨ k = 2 ∨ k = 3) : M.valL l' (M.wholeP l' ps) (M.kOf k) 0 = M.sumP (M.kOf k) l' (M.wholeP l' ps) ∧ 0 ≤ M.sumP (M.kOf k) l' (M.wholeP l' ps) ∧ M.sumP (M.kOf k) l' (M.wholeP l' ps) ≤ 100000000 := by
  refine val0W h fun i hi => ?_
  have := h.rc i hi
  rcases hk with rfl | rfl | rfl | rfl
  · exact this.k0
  · exact this.k1
  · exact this.k2
  · exact this.k3
theorem quo (n V : Int) (h0 : 0 ≤ n) (h1 : n ≤ 100000000) (hV : 0 < V) (hV1 : V ≤ 100000000) : IntKind.i64.wrap (n.tdiv V) = n / V ∧ IntKind.i64.wrap ((IntKind.i64.wrap (IntKind.i64.wrap (n + V) - 1)).tdiv V) = -((-n) / V) := by
  rw [wrap_id (n := n + V) (by omega) (by omega), wrap_id (n := n + V - 1) (by omega) (by omega), Int.tdiv_eq_ediv_of_nonneg h0, Int.tdiv_eq_ediv_of_nonneg (by omega), ← ceil_up hV]
  have a := Int.natAbs_ediv_le_natAbs n V
  have b := Int.natAbs_ediv_le_natAbs (n + V - 1) V
  exact ⟨wrap_id (by omega) (by omega), wrap_id (by omega) (by omega)⟩
end Go.Bl
end

section
set_option linter.unusedVariables false
set_option linter.unusedSimpArgs false
set_option maxRecDepth 100000
namespace Go.Bl
open Go.V Go.Proofs
theorem wp_true {α : Type} {t e : T α} {Q : α → Prop} : (T.br true t e).wp Q = t.wp Q := propext ⟨fun h => h.1 rfl, fun h => ⟨fun _ => h, fun e => by cases e⟩⟩
theorem wp_false {α : Type} {t e : T α} {Q : α → Prop} : (T.br false t e).wp Q = e.wp Q := propext ⟨fun h => h.2 rfl, fun h => ⟨(fun e => by cases e), fun _ => h⟩⟩
theorem wp_needE {α : Type} {p : Prop} {t : T α} {Q : α → Prop} : (T.need p t).wp Q = (p ∧ t.wp Q) := rfl
theorem ne_true {a : Int} (h : a ≠ 0) : (a != 0) = true := by simpa using h
theorem ne_false : ((0 : Int) != 0) = false := rfl
end Go.Bl
end

section
set_option linter.unusedVariables false
set_option linter.unusedSimpArgs false
set_option maxRecDepth 100000
namespace Go.Bl
open Go.V Go.Proofs
open Go.Lp
end Go.Bl
end

section
set_option linter.unusedVariables false
set_option linter.unusedSimpArgs false
set_option maxRecDepth 100000
namespace Go.Bl
open Go.V Go.Proofs
theorem eI_to0 {q : Bool} {n st : Nat} {F : Nat → Nat → D} (hst : (Nat.beq st 1 || Nat.beq n 0) = true) (hI : eI.Is n F) : (D.sl q n st F).eqv (.sl q (eI.list n F).length 1 (eI.F (eI.list n F))) := by
  rw [Bool.or_eq_true] at hst
  rcases hst with h | h
  · have h := Nat.eq_of_beq_eq_true h
    subst h
    exact eI.to id hI
  · have h := Nat.eq_of_beq_eq_true h
    subst h
    exact ⟨id, by simp [Enc.list], fun h => absurd h (Nat.lt_irrefl 0), fun i j hi => absurd hi (Nat.not_lt_zero i)⟩
namespace M
def sign3 (n m : Int) : Int := if n < m then -1 else if n > m then 1 else 0
def lexlt : List Int → List Int → Bool
  | [], [] => false
  | [], _ :: _ => true
  | _ :: _, [] => false
  | a :: u, b :: v => if a = b then lexlt u v else decide (a < b)
def lexc : List Int → List Int → Int
  | [], [] => 0
  | [], _ :: _ => -1
  | _ :: _, [] => 1
  | a :: u, b :: v => if a = b then lexc u v else sign3 a b
end M
theorem lexc_lt : ∀ u v : List Int, decide (M.lexc u v < 0) = M.lexlt u v
  | [], [] => rfl
  | [], _ :: _ => rfl
  | _ :: _, [] => rfl
  | a :: u, b :: v => by
    unfold M.lexc M.lexlt
    by_cases h : a = b
    · rw [if_pos h, if_pos h]; exact lexc_lt u v
    · rw [if_neg h, if_neg h]
      unfold M.sign3
      by_cases h2 : a < b
      · rw [if_pos h2, decide_eq_true h2]; rfl
      · rw [if_neg h2, if_pos (by omega), decide_eq_false h2]; rfl
def tr123 (n m : Int) : T (List Ar) :=
    T.br (n != n) (T.br (m != m) (T.ret [Ar.c (D.int IntKind.i64 (0 : Int))]) (T.ret [Ar.c (D.int IntKind.i64 (-1 : Int))])) (T.br (m != m) (T.ret [Ar.c (D.int IntKind.i64 (1 : Int))]) (T.br (decide (n < m)) (T.ret [Ar.c (D.int IntKind.i64 (-1 : Int))]) (T.br (decide (n > m)) (T.ret [Ar.c (D.int IntKind.i64 (1 : Int))]) (T.ret [Ar.c (D.int IntKind.i64 (0 : Int))]))))
theorem t123 (n m : Int) : runFnX Try.prog G0 (lookS []) (fun _ => []) [145] 1 20 4 123 Try.f123 [.c (dI n), .c (dI m)] =
    tr123 n m := by kernel_rfl
theorem w123 (n m : Int) : (tr123 n m).wp (fun rs => rsEqv rs [rI (M.sign3 n m)]) := by
  unfold tr123
  simp only [bne_self_eq_false]
  refine wp_br (fun h => by cases h) (fun _ => wp_br (fun h => by cases h) (fun _ => wp_br (fun h => ?_) (fun h => wp_br (fun h2 => ?_) (fun h2 => ?_))))
  · unfold M.sign3; rw [if_pos (of_decide_eq_true h)]; exact rsEqv_refl _
  · unfold M.sign3; rw [if_neg (of_decide_eq_false h), if_pos (of_decide_eq_true h2)]; exact rsEqv_refl _
  · unfold M.sign3; rw [if_neg (of_decide_eq_false h), if_neg (of_decide_eq_false h2)]; exact rsEqv_refl _
def dom123 : DomF
  | [.c (.int .i64 n), .c (.int .i64 m)] => some ([], [rI (M.sign3 n m)])
  | _ => none
def v123 : Nat × Sm := (123, fokSm dom123)
theorem C123 : FOK Try.prog G0 gw 123 dom123 := by
  intro ags p r hd hp κ w xs hw hl hG hx
  unfold dom123 at hd
  split at hd
  · rename_i n m
    simp only [Option.some.injEq, Prod.mk.injEq] at hd
    obtain ⟨rfl, rfl⟩ := hd
    have heq : agsEqv [.c (.int .i64 n), .c (.int .i64 m)] [.c (.int .i64 n), .c (.int .i64 m)] := ⟨Ag.eqv_refl _, Ag.eqv_refl _, trivial⟩
    exact fokX_fin mixed gw_stable (sl := []) trivial Try.func123 hw hl hG hx heq rfl (t123 n m) (w123 n m)
  · cases hd
theorem S123 : SumOK Try.prog G0 gw 123 (fokSm dom123) := fok_sum Try.func123 rfl C123
def tr92 (u v : List Int) : T (List Ar) :=
    T.loop (Int × PUnit) ((0 : Int), PUnit.unit) fun (x : Int × PUnit) => T.br (decide (Prod.fst x < (Nat.cast (R := Int) (List.length u)))) (T.need ((0 : Int) ≤ Prod.fst x) (T.need (Prod.fst x < (Nat.cast (R := Int) (List.length u))) (T.br (decide (Prod.fst x ≥ (Nat.cast (R := Int) (List.length v)))) (T.ret (Sum.inr [Ar.c (D.int IntKind.i64 (1 : Int))])) (T.need ((0 : Int) ≤ Prod.fst x) (T.need (Prod.fst x < (Nat.cast (R := Int) (List.length v))) (T.br (M.sign3 (List.getD u (Int.toNat (Prod.fst x)) (0 : Int)) (List.getD v (Int.toNat (Prod.fst x)) (0 : Int)) != (0 : Int)) (T.ret (Sum.inr [Ar.c (D.int IntKind.i64 (M.sign3 (List.getD u (Int.toNat (Prod.fst x)) (0 : Int)) (List.getD v (Int.toNat (Prod.fst x)) (0 : Int))))])) (T.ret (Sum.inl (IntKind.wrap IntKind.i64 (Prod.fst x + (1 : Int)), PUnit.unit))))))))) (T.br (decide ((Nat.cast (R := Int) (List.length u)) < (Nat.cast (R := Int) (List.length v)))) (T.ret (Sum.inr [Ar.c (D.int IntKind.i64 (-1 : Int))])) (T.ret (Sum.inr [Ar.c (D.int IntKind.i64 (0 : Int))])))
theorem t92 (q_u : Bool) (u : List Int) (q_v : Bool) (v : List Int) : runFnX Try.prog G0 (lookS [v123]) (fun _ => [(2, [.slot 11 (.int .i64)], none)]) [] 1 40 5 92 Try.f92 [.c (.sl q_u u.length 1 (eI.F u)), .c (.sl q_v v.length 1 (eI.F v))] =
    tr92 u v := by kernel_rfl
def tr93 (u v : List Int) : T (List Ar) :=
    T.loop (Int × PUnit) ((0 : Int), PUnit.unit) fun (x : Int × PUnit) => T.br (decide (Prod.fst x < (Nat.cast (R := Int) (List.length u)))) (T.br (decide (Prod.fst x < (Nat.cast (R := Int) (List.length v)))) (T.need ((0 : Int) ≤ Prod.fst x) (T.need (Prod.fst x < (Nat.cast (R := Int) (List.length u))) (T.need ((0 : Int) ≤ Prod.fst x) (T.need (Prod.fst x < (Nat.cast (R := Int) (List.length v))) (T.br (List.getD u (Int.toNat (Prod.fst x)) (0 : Int) != List.getD v (Int.toNat (Prod.fst x)) (0 : Int)) (T.need ((0 : Int) ≤ Prod.fst x) (T.need (Prod.fst x < (Nat.cast (R := Int) (List.length u))) (T.need ((0 : Int) ≤ Prod.fst x) (T.need (Prod.fst x < (Nat.cast (R := Int) (List.length v))) (T.ret (Sum.inr [Ar.c (D.bool (decide (List.getD u (Int.toNat (Prod.fst x)) (0 : Int) < List.getD v (Int.toNat (Prod.fst x)) (0 : Int))))])))))) (T.ret (Sum.inl (IntKind.wrap IntKind.i64 (Prod.fst x + (1 : Int)), PUnit.unit)))))))) (T.ret (Sum.inr [Ar.c (D.bool (decide ((Nat.cast (R := Int) (List.length u)) < (Nat.cast (R := Int) (List.length v)))))]))) (T.ret (Sum.inr [Ar.c (D.bool (decide ((Nat.cast (R := Int) (List.length u)) < (Nat.cast (R := Int) (List.length v)))))]))
theorem t93 (q_u : Bool) (u : List Int) (q_v : Bool) (v : List Int) : runFnX Try.prog G0 (lookS []) (fun _ => [(2, [.slot 5 (.int .i64)], none)]) [] 1 40 5 93 Try.f93 [.c (.sl q_u u.length 1 (eI.F u)), .c (.sl q_v v.length 1 (eI.F v))] =
    tr93 u v := by kernel_rfl
theorem lexc_cons (a b : Int) (u v : List Int) : M.lexc (a :: u) (b :: v) = if a = b then M.lexc u v else M.sign3 a b := rfl
theorem lexlt_cons (a b : Int) (u v : List Int) : M.lexlt (a :: u) (b :: v) = if a = b then M.lexlt u v else decide (a < b) := rfl
theorem sign3_zero {n m : Int} : M.sign3 n m = 0 ↔ n = m := by
  unfold M.sign3
  by_cases h : n < m
  · rw [if_pos h]; constructor <;> intro e <;> omega
  · rw [if_neg h]
    by_cases h2 : n > m
    · rw [if_pos h2]; constructor <;> intro e <;> omega
    · rw [if_neg h2]; constructor <;> intro e <;> omega
theorem w92 (u v : List Int) (hu : u.length ≤ 1000000) (hv : v.length ≤ 1000000) : (tr92 u v).wp (fun rs => rsEqv rs [rI (M.lexc u v)]) := by
  unfold tr92
  refine range_wp (n := u.length) (fun k _ => k ≤ v.length ∧ M.lexc u v = M.lexc (u.drop k) (v.drop k)) ⟨Nat.zero_le _, rfl⟩ ?_
  rintro k x hk ⟨hkv, hI⟩
  refine ⟨fun hb => ?_, fun hb => ?_⟩
  · have hlt := lt_of_dec hb
    have du := getD_drop (l := u) (d := 0) hlt
    refine ⟨by show (0 : Int) ≤ k; omega, by show (k : Int) < u.length; omega, fun hc => ?_, fun hc => ?_⟩
    · have hc : (k : Int) ≥ v.length := of_decide_eq_true hc
      rw [hI, du, List.drop_of_length_le (l := v) (by omega)]; exact rsEqv_refl _
    · have hc : ¬ (k : Int) ≥ v.length := of_decide_eq_false hc
      have dv := getD_drop (l := v) (d := 0) (k := k) (by omega)
      rw [du, dv, lexc_cons] at hI
      refine ⟨by show (0 : Int) ≤ k; omega, by show (k : Int) < v.length; omega, fun hd => ?_, fun hd => ?_⟩
      · have hd : M.sign3 (u.getD k 0) (v.getD k 0) ≠ 0 := by simpa using hd
        rw [if_neg (fun e => hd (sign3_zero.2 e))] at hI
        rw [hI]; exact rsEqv_refl _
      · have hd : M.sign3 (u.getD k 0) (v.getD k 0) = 0 := by simpa using hd
        rw [if_pos (sign3_zero.1 hd)] at hI
        exact ⟨hlt, wrap_succ (k := k) (by omega), by show k + 1 ≤ v.length; omega, hI⟩
  · have hge := ge_of_dec hb
    rw [List.drop_of_length_le (l := u) (by omega)] at hI
    refine ⟨fun hc => ?_, fun hc => ?_⟩
    · have hc : (u.length : Int) < v.length := of_decide_eq_true hc
      rw [hI, getD_drop (l := v) (d := 0) (k := k) (by omega)]; exact rsEqv_refl _
    · have hc : ¬ (u.length : Int) < v.length := of_decide_eq_false hc
      rw [hI, List.drop_of_length_le (l := v) (by omega)]; exact rsEqv_refl _
theorem w93 (u v : List Int) (hu : u.length ≤ 1000000) (hv : v.length ≤ 1000000) : (tr93 u v).wp (fun rs => rsEqv rs [rB (M.lexlt u v)]) := by
  unfold tr93
  refine range_wp (n := u.length) (fun k _ => k ≤ v.length ∧ M.lexlt u v = M.lexlt (u.drop k) (v.drop k)) ⟨Nat.zero_le _, rfl⟩ ?_
  rintro k x hk ⟨hkv, hI⟩
  have hfin : (k = u.length ∨ k = v.length) → M.lexlt u v = decide ((u.length : Int) < (v.length : Int)) := by
    intro h
    by_cases e : k = u.length
    · rw [hI, List.drop_of_length_le (l := u) (by omega)]
      by_cases h2 : k < v.length
      · rw [getD_drop (l := v) (d := 0) (k := k) h2, decide_eq_true (by omega)]; rfl
      · rw [List.drop_of_length_le (l := v) (by omega), decide_eq_false (by omega)]; rfl
    · rw [hI, getD_drop (l := u) (d := 0) (k := k) (by omega), List.drop_of_length_le (l := v) (by omega), decide_eq_false (by omega)]; rfl
  refine ⟨fun hb => ⟨fun hc => ?_, fun hc => ?_⟩, fun hb => ?_⟩
  · have hlt := lt_of_dec hb
    have hc : k < v.length := lt_of_dec hc
    have du := getD_drop (l := u) (d := 0) hlt
    have dv := getD_drop (l := v) (d := 0) (k := k) hc
    rw [du, dv, lexlt_cons] at hI
    refine ⟨by show (0 : Int) ≤ k; omega, by show (k : Int) < u.length; omega, by show (0 : Int) ≤ k; omega, by show (k : Int) < v.length; omega, fun hd => ?_, fun hd => ?_⟩
    · have hd : u.getD k 0 ≠ v.getD k 0 := by simpa using hd
      rw [if_neg hd] at hI
      refine ⟨by show (0 : Int) ≤ k; omega, by show (k : Int) < u.length; omega, by show (0 : Int) ≤ k; omega, by show (k : Int) < v.length; omega, ?_⟩
      rw [hI]; exact rsEqv_refl _
    · have hd : u.getD k 0 = v.getD k 0 := by simpa using hd
      rw [if_pos hd] at hI
      exact ⟨hlt, wrap_succ (k := k) (by omega), by show k + 1 ≤ v.length; omega, hI⟩
  · have hc := ge_of_dec hc
    rw [hfin (by omega)]; exact rsEqv_refl _
  · have hge := ge_of_dec hb
    rw [hfin (by omega)]; exact rsEqv_refl _
def dom92z : DomF
  | [.c (.sl _ n_u st_u F_u), .c (.sl _ n_v st_v F_v)] => (match (Nat.beq st_u 1 || Nat.beq n_u 0) && (Nat.beq st_v 1 || Nat.beq n_v 0) with
    | true => some ([eI.Is n_u F_u, eI.Is n_v F_v, (eI.list n_u F_u).length ≤ 1000000, (eI.list n_v F_v).length ≤ 1000000], [rI (M.lexc (eI.list n_u F_u) (eI.list n_v F_v))])
    | _ => none)
  | _ => none
def v92z : Nat × Sm := (92, fokSm dom92z)
theorem C92z : FOK Try.prog G0 gw 92 dom92z := by
  intro ags p r hd hp κ w xs hw hl hG hx
  unfold dom92z at hd
  split at hd
  · rename_i q_u n_u st_u F_u q_v n_v st_v F_v
    split at hd
    · rename_i hst
      rw [Bool.and_eq_true] at hst
      obtain ⟨gz_u, gz_v⟩ := hst
      simp only [Option.some.injEq, Prod.mk.injEq] at hd
      obtain ⟨rfl, rfl⟩ := hd
      obtain ⟨hI_u, hI_v, hp⟩ := hp
      have heq : agsEqv [.c (.sl q_u n_u st_u F_u), .c (.sl q_v n_v st_v F_v)] [.c (.sl q_u (eI.list n_u F_u).length 1 (eI.F (eI.list n_u F_u))), .c (.sl q_v (eI.list n_v F_v).length 1 (eI.F (eI.list n_v F_v)))] := ⟨eI_to0 gz_u hI_u, eI_to0 gz_v hI_v, trivial⟩
      have len_u : (eI.list n_u F_u).length = n_u := eI.list_len
      have len_v : (eI.list n_v F_v).length = n_v := eI.list_len
      generalize eI.list n_u F_u = u at *
      generalize eI.list n_v F_v = v at *
      subst len_u len_v
      exact fokX_fin mixed gw_stable (sl := [v123]) ⟨S123, trivial⟩ Try.func92 hw hl hG hx heq rfl (t92 q_u u q_v v) (w92 u v hp.1 hp.2.1)
    · cases hd
  · cases hd
theorem S92z : SumOK Try.prog G0 gw 92 (fokSm dom92z) := fok_sum Try.func92 rfl C92z
def dom93z : DomF
  | [.c (.sl _ n_u st_u F_u), .c (.sl _ n_v st_v F_v)] => (match (Nat.beq st_u 1 || Nat.beq n_u 0) && (Nat.beq st_v 1 || Nat.beq n_v 0) with
    | true => some ([eI.Is n_u F_u, eI.Is n_v F_v, (eI.list n_u F_u).length ≤ 1000000, (eI.list n_v F_v).length ≤ 1000000], [rB (M.lexlt (eI.list n_u F_u) (eI.list n_v F_v))])
    | _ => none)
  | _ => none
def v93z : Nat × Sm := (93, fokSm dom93z)
theorem C93z : FOK Try.prog G0 gw 93 dom93z := by
  intro ags p r hd hp κ w xs hw hl hG hx
  unfold dom93z at hd
  split at hd
  · rename_i q_u n_u st_u F_u q_v n_v st_v F_v
    split at hd
    · rename_i hst
      rw [Bool.and_eq_true] at hst
      obtain ⟨gz_u, gz_v⟩ := hst
      simp only [Option.some.injEq, Prod.mk.injEq] at hd
      obtain ⟨rfl, rfl⟩ := hd
      obtain ⟨hI_u, hI_v, hp⟩ := hp
      have heq : agsEqv [.c (.sl q_u n_u st_u F_u), .c (.sl q_v n_v st_v F_v)] [.c (.sl q_u (eI.list n_u F_u).length 1 (eI.F (eI.list n_u F_u))), .c (.sl q_v (eI.list n_v F_v).length 1 (eI.F (eI.list n_v F_v)))] := ⟨eI_to0 gz_u hI_u, eI_to0 gz_v hI_v, trivial⟩
      have len_u : (eI.list n_u F_u).length = n_u := eI.list_len
      have len_v : (eI.list n_v F_v).length = n_v := eI.list_len
      generalize eI.list n_u F_u = u at *
      generalize eI.list n_v F_v = v at *
      subst len_u len_v
      exact fokX_fin mixed gw_stable (sl := []) trivial Try.func93 hw hl hG hx heq rfl (t93 q_u u q_v v) (w93 u v hp.1 hp.2.1)
    · cases hd
  · cases hd
theorem S93z : SumOK Try.prog G0 gw 93 (fokSm dom93z) := fok_sum Try.func93 rfl C93z
def dom90z : DomF
  | [.c (.sl _ n_l st_l F_l), .c (.sl _ n_ps st_ps F_ps)] => (match Nat.beq st_l 7 && (Nat.beq st_ps 1 || Nat.beq n_ps 0) with
    | true => some ([eC.Is n_l F_l, eI.Is n_ps F_ps, (eC.list n_l F_l).length ≤ 1000000, (eI.list n_ps F_ps).length ≤ 1000000, ∀ i, i < (eI.list n_ps F_ps).length → 0 ≤ (eI.list n_ps F_ps).getD i 0 ∧ (eI.list n_ps F_ps).getD i 0 < ((eC.list n_l F_l).length : Int)], [.agg [.sl false n_l 7 (eC.F (eC.list n_l F_l)), dI 1, .sl false n_l 1 (eI.F (M.wholeP (eC.list n_l F_l) (eI.list n_ps F_ps)))]])
    | _ => none)
  | _ => none
def v90z : Nat × Sm := (90, fokSm dom90z)
theorem C90z : FOK Try.prog G0 gw 90 dom90z := by
  intro ags p r hd hp κ w xs hw hl hG hx
  unfold dom90z at hd
  split at hd
  · rename_i q_l n_l st_l F_l q_ps n_ps st_ps F_ps
    split at hd
    · rename_i hst
      rw [Bool.and_eq_true] at hst
      obtain ⟨g1, gz_ps⟩ := hst
      have g1 := Nat.eq_of_beq_eq_true g1
      subst g1
      simp only [Option.some.injEq, Prod.mk.injEq] at hd
      obtain ⟨rfl, rfl⟩ := hd
      obtain ⟨hI_l, hI_ps, hp⟩ := hp
      have heq : agsEqv [.c (.sl q_l n_l 7 F_l), .c (.sl q_ps n_ps st_ps F_ps)] [.c (.sl q_l (eC.list n_l F_l).length 7 (eC.F (eC.list n_l F_l))), .c (.sl q_ps (eI.list n_ps F_ps).length 1 (eI.F (eI.list n_ps F_ps)))] := ⟨eC.to id hI_l, eI_to0 gz_ps hI_ps, trivial⟩
      have len_l : (eC.list n_l F_l).length = n_l := eC.list_len
      have len_ps : (eI.list n_ps F_ps).length = n_ps := eI.list_len
      generalize eC.list n_l F_l = l at *
      generalize eI.list n_ps F_ps = ps at *
      subst len_l len_ps
      exact fokX_fin mixed gw_stable (sl := []) trivial Try.func90 hw hl hG hx heq rfl (t90 q_l l q_ps ps) (w90 q_l l ps hp.1 hp.2.1 hp.2.2.1)
    · cases hd
  · cases hd
theorem S90z : SumOK Try.prog G0 gw 90 (fokSm dom90z) := fok_sum Try.func90 rfl C90z
def dom45z : DomF
  | [.c (.sl _ n_l st_l F_l), .agg [.int .i64 sv, .int .i64 l0, .int .i64 h0, .int .i64 l1, .int .i64 h1, .int .i64 l2, .int .i64 h2, .int .i64 l3, .int .i64 h3], .c (.sl _ n_ps st_ps F_ps)] => (match Nat.beq st_l 7 && (Nat.beq st_ps 1 || Nat.beq n_ps 0) with
    | true => some ([eC.Is n_l F_l, eI.Is n_ps F_ps, (eC.list n_l F_l).length ≤ 100000, (eI.list n_ps F_ps).length ≤ 1000000, (M.checkCasks (eC.list n_l F_l)).2 = 0, M.checkSample (⟨sv, ⟨l0, h0⟩, ⟨l1, h1⟩, ⟨l2, h2⟩, ⟨l3, h3⟩⟩ : Sample) = 0], resP2 (M.wholeR (eC.list n_l F_l) (⟨sv, ⟨l0, h0⟩, ⟨l1, h1⟩, ⟨l2, h2⟩, ⟨l3, h3⟩⟩ : Sample) (eI.list n_ps F_ps)))
    | _ => none)
  | _ => none
def v45z : Nat × Sm := (45, fokSm dom45z)
theorem C45z : FOK Try.prog G0 gw 45 dom45z := by
  intro ags p r hd hp κ w xs hw hl hG hx
  unfold dom45z at hd
  split at hd
  · rename_i q_l n_l st_l F_l sv l0 h0 l1 h1 l2 h2 l3 h3 q_ps n_ps st_ps F_ps
    split at hd
    · rename_i hst
      rw [Bool.and_eq_true] at hst
      obtain ⟨g1, gz_ps⟩ := hst
      have g1 := Nat.eq_of_beq_eq_true g1
      subst g1
      simp only [Option.some.injEq, Prod.mk.injEq] at hd
      obtain ⟨rfl, rfl⟩ := hd
      obtain ⟨hI_l, hI_ps, hp⟩ := hp
      have heq : agsEqv [.c (.sl q_l n_l 7 F_l), .agg [.int .i64 sv, .int .i64 l0, .int .i64 h0, .int .i64 l1, .int .i64 h1, .int .i64 l2, .int .i64 h2, .int .i64 l3, .int .i64 h3], .c (.sl q_ps n_ps st_ps F_ps)] [.c (.sl q_l (eC.list n_l F_l).length 7 (eC.F (eC.list n_l F_l))), .agg [.int .i64 sv, .int .i64 l0, .int .i64 h0, .int .i64 l1, .int .i64 h1, .int .i64 l2, .int .i64 h2, .int .i64 l3, .int .i64 h3], .c (.sl q_ps (eI.list n_ps F_ps).length 1 (eI.F (eI.list n_ps F_ps)))] := ⟨eC.to id hI_l, Ag.eqv_refl _, eI_to0 gz_ps hI_ps, trivial⟩
      have len_l : (eC.list n_l F_l).length = n_l := eC.list_len
      have len_ps : (eI.list n_ps F_ps).length = n_ps := eI.list_len
      generalize eC.list n_l F_l = l at *
      generalize eI.list n_ps F_ps = ps at *
      subst len_l len_ps
      exact fokX_fin mixed gw_stable (sl := [v98, v89, v75]) ⟨S98, S89, S75, trivial⟩ Try.func45 hw hl hG hx heq rfl (t45 q_l l sv l0 h0 l1 h1 l2 h2 l3 h3 q_ps ps) (w45 l _ ps hp.1 hp.2.1 hp.2.2.1 hp.2.2.2.1)
    · cases hd
  · cases hd
theorem S45z : SumOK Try.prog G0 gw 45 (fokSm dom45z) := fok_sum Try.func45 rfl C45z
end Go.Bl
end

section
set_option linter.unusedVariables false
set_option linter.unusedSimpArgs false
set_option maxRecDepth 100000
namespace Go.Bl
open Go.V Go.Proofs
namespace M
def bitsL (c : Nat) : Nat → List Int
  | 0 => []
  | k + 1 => if c / 2 ^ k % 2 = 1 then bitsL c k ++ [(k : Int)] else bitsL c k
def better (x : Int) (ps : List Int) (m : Int) (b : List Int) : Bool := decide (x < m) || ((x == m) && (decide (ps.length < b.length) || ((ps.length == b.length) && lexlt ps b)))
def pickW (l : List Cask) (s : Sample) (st : Option (List Int × Int)) (ps : List Int) : Option (List Int × Int) :=
  cond ((wholeR l s ps).2 != 0) st (match st with
    | none => some (ps, (wholeR l s ps).1)
    | some (b, m) => cond (better (wholeR l s ps).1 ps m b) (some (ps, (wholeR l s ps).1)) (some (b, m)))
def bestUpW (l : List Cask) (s : Sample) : Nat → Option (List Int × Int)
  | 0 => none
  | c + 1 => pickW l s (bestUpW l s c) (bitsL c l.length)
def tellW : Option (List Int × Int) → List Int × Int × Int
  | none => ([], 0, 12)
  | some (b, m) => (b, m, 0)
def bestRW (l : List Cask) (s : Sample) : List Int × Int × Int := tellW (bestUpW l s (2 ^ l.length))
end M
def resBW (x : List Int × Int × Int) : List Ar := [.c (.sl false x.1.length 1 (eI.F x.1)), rI x.2.1, rI x.2.2]
theorem bits_succ (c k : Nat) : M.bitsL c (k + 1) = if c / 2 ^ k % 2 = 1 then M.bitsL c k ++ [(k : Int)] else M.bitsL c k := rfl
theorem bits_len (c : Nat) : ∀ k, (M.bitsL c k).length ≤ k
  | 0 => Nat.le_refl _
  | k + 1 => by
    have := bits_len c k
    rw [bits_succ]
    split
    · rw [List.length_append, List.length_singleton]; omega
    · omega
theorem bits_zero : ∀ k, M.bitsL 0 k = []
  | 0 => rfl
  | k + 1 => by rw [bits_succ, Nat.zero_div, if_neg (by decide), bits_zero k]
theorem bits_nil {c : Nat} : ∀ {k : Nat}, M.bitsL c k = [] → c % 2 ^ k = 0
  | 0, _ => by rw [Nat.pow_zero, Nat.mod_one]
  | k + 1, h => by
    rw [bits_succ] at h
    split at h
    · simp at h
    · rename_i hb
      have := bits_nil h
      rw [Nat.mod_pow_succ, this]
      have : c / 2 ^ k % 2 = 0 := by omega
      rw [this]; omega
theorem bits_some {c k : Nat} (h1 : 1 ≤ c) (h2 : c < 2 ^ k) : M.bitsL c k ≠ [] := by
  intro h
  have := bits_nil h
  rw [Nat.mod_eq_of_lt h2] at this
  omega
theorem bits_in {c : Nat} : ∀ {k : Nat} {x : Int}, x ∈ M.bitsL c k → 0 ≤ x ∧ x < (k : Int)
  | 0, x, h => by cases h
  | k + 1, x, h => by
    rw [bits_succ] at h
    split at h
    · rcases List.mem_append.1 h with h | h
      · have := bits_in h; omega
      · simp only [List.mem_singleton] at h; omega
    · have := bits_in h; omega
theorem bits_at {c k i : Nat} (h : i < (M.bitsL c k).length) : 0 ≤ (M.bitsL c k).getD i 0 ∧ (M.bitsL c k).getD i 0 < (k : Int) := by
  refine bits_in (c := c) ?_
  rw [List.getD_eq_getElem?_getD, List.getElem?_eq_getElem h]
  exact List.getElem_mem h
theorem half_step (c k : Nat) : c / 2 ^ k / 2 = c / 2 ^ (k + 1) := by rw [Nat.div_div_eq_div_mul, Nat.pow_succ]
theorem two_pow_le {n : Nat} (h : n ≤ 10) : 2 ^ n ≤ 1024 := Nat.pow_le_pow_right (by decide) h
theorem cost_b {l : List Cask} (h : RightT l) (s : Sample) (ps : List Int) : 0 ≤ (M.wholeR l s ps).1 ∧ (M.wholeR l s ps).1 ≤ 100000000 := by
  unfold M.wholeR
  cases M.meets l (M.wholeP l ps) s != 0
  · have := (val0W (ps := ps) h (of := Cask.cost) fun i hi => by have := (h.rc i hi).cost; omega).2
    exact this
  · exact ⟨Int.le_refl _, show (0 : Int) ≤ 100000000 by decide⟩
theorem pickW_bad {l : List Cask} {s : Sample} {st : Option (List Int × Int)} {ps : List Int} (h : ((M.wholeR l s ps).2 != 0) = true) : M.pickW l s st ps = st := by unfold M.pickW; rw [h]; rfl
theorem pickW_none {l : List Cask} {s : Sample} {ps : List Int} (h : ((M.wholeR l s ps).2 != 0) = false) : M.pickW l s none ps = some (ps, (M.wholeR l s ps).1) := by unfold M.pickW; rw [h]; rfl
theorem pickW_yes {l : List Cask} {s : Sample} {ps b : List Int} {m : Int} (h : ((M.wholeR l s ps).2 != 0) = false) (hb : M.better (M.wholeR l s ps).1 ps m b = true) : M.pickW l s (some (b, m)) ps = some (ps, (M.wholeR l s ps).1) := by
  unfold M.pickW; rw [h]; show cond (M.better (M.wholeR l s ps).1 ps m b) _ _ = _; rw [hb]; rfl
theorem pickW_no {l : List Cask} {s : Sample} {ps b : List Int} {m : Int} (h : ((M.wholeR l s ps).2 != 0) = false) (hb : M.better (M.wholeR l s ps).1 ps m b = false) : M.pickW l s (some (b, m)) ps = some (b, m) := by
  unfold M.pickW; rw [h]; show cond (M.better (M.wholeR l s ps).1 ps m b) _ _ = _; rw [hb]; rfl
theorem bestUpW_succ (l : List Cask) (s : Sample) (c : Nat) : M.bestUpW l s (c + 1) = M.pickW l s (M.bestUpW l s c) (M.bitsL c l.length) := rfl
theorem none_bad {l : List Cask} {s : Sample} (h : RightT l) (hs : M.checkSample s = 0) : ((M.wholeR l s []).2 != 0) = true := by
  have hv : M.sumP (fun _ => 1) l (M.wholeP l []) = 0 := by
    rw [(volW (ps := []) h).1]
    have : ∀ n, dot (fun i => (M.wholeP l []).getD i 0) n = 0 := by
      intro n
      induction n with
      | zero => rfl
      | succ n ih =>
        show dot _ n + (M.wholeP l []).getD n 0 = 0
        rw [ih]
        by_cases hn : n < l.length
        · rw [whole_get hn]; rfl
        · rw [List.getD_eq_getElem?_getD, List.getElem?_eq_none (by rw [whole_len]; omega)]; rfl
    exact this _
  have h1 := (sample_right hs).1.1
  have hM : M.meets l (M.wholeP l []) s = 14 := by
    unfold M.meets
    rw [hv, decide_eq_false (show ¬ (0 : Int) ≥ s.vol by omega)]
    rfl
  have : M.wholeR l s [] = (0, 14) := by unfold M.wholeR; rw [hM]; rfl
  rw [this]; rfl
theorem tmod_two (a : Nat) : Int.tmod (a : Int) 2 = ((a % 2 : Nat) : Int) := rfl
theorem bit_is {a : Nat} (h : (Int.tmod (a : Int) 2 == 1) = true) : a % 2 = 1 := by
  rw [tmod_two] at h
  have : ((a % 2 : Nat) : Int) = 1 := by simpa using h
  omega
theorem bit_not {a : Nat} (h : (Int.tmod (a : Int) 2 == 1) = false) : ¬ a % 2 = 1 := by
  rw [tmod_two] at h
  have : ¬ ((a % 2 : Nat) : Int) = 1 := by simpa using h
  omega
theorem half_wrap {c k : Nat} (h : c < 1025) : IntKind.wrap IntKind.i64 (Int.tdiv ((c / 2 ^ k : Nat) : Int) 2) = ((c / 2 ^ (k + 1) : Nat) : Int) := by
  have e : Int.tdiv ((c / 2 ^ k : Nat) : Int) 2 = ((c / 2 ^ k / 2 : Nat) : Int) := rfl
  have h1 : c / 2 ^ k / 2 ≤ c := Nat.le_trans (Nat.div_le_self _ _) (Nat.div_le_self _ _)
  rw [e, ← half_step]
  generalize c / 2 ^ k / 2 = q at *
  exact wrap_id (by omega) (by omega)
def tr33 (l : List Cask) (s : Sample) : T (List Ar) :=
    T.loop (Int × Int × PUnit) ((0 : Int), (1 : Int), PUnit.unit) fun (x : Int × Int × PUnit) => T.br (decide (Prod.fst x < (Nat.cast (R := Int) (List.length l)))) (T.ret (Sum.inl (IntKind.wrap IntKind.i64 (Prod.fst x + (1 : Int)), IntKind.wrap IntKind.i64 ((2 : Int) * Prod.fst (Prod.snd x)), PUnit.unit))) (T.loop2 (Int × PUnit × Int × PUnit) (Int × List Int × Int × PUnit) (Sum.inl ((1 : Int), PUnit.unit, (-1 : Int), PUnit.unit)) (fun (x_1 : Int × PUnit × Int × PUnit) => T.br (decide (Prod.fst x_1 < Prod.fst (Prod.snd x))) (T.loop2 (Int × Int × PUnit × PUnit) (Int × Int × List Int × PUnit) (Sum.inl ((0 : Int), Prod.fst x_1, PUnit.unit, PUnit.unit)) (fun (x_2 : Int × Int × PUnit × PUnit) => T.br (decide (Prod.fst x_2 < (Nat.cast (R := Int) (List.length l)))) (T.br (Int.tmod (Prod.fst (Prod.snd x_2)) (2 : Int) == (1 : Int)) (T.need ((1 : Nat) ≤ (1000000 : Nat)) (T.need (Enc.Is eI (1 : Nat) (joinF (0 : Nat) (fun (x x_3 : Nat) => D.nilp) (oneF (Prod.fst x_2)))) (T.need ((1 : Nat) ≤ (1 : Nat)) (T.ret (Sum.inl (Sum.inr (IntKind.wrap IntKind.i64 (Prod.fst x_2 + (1 : Int)), IntKind.wrap IntKind.i64 (Int.tdiv (Prod.fst (Prod.snd x_2)) (2 : Int)), Enc.list eI (1 : Nat) (joinF (0 : Nat) (fun (x x_3 : Nat) => D.nilp) (oneF (Prod.fst x_2))), PUnit.unit))))))) (T.ret (Sum.inl (Sum.inl (IntKind.wrap IntKind.i64 (Prod.fst x_2 + (1 : Int)), IntKind.wrap IntKind.i64 (Int.tdiv (Prod.fst (Prod.snd x_2)) (2 : Int)), PUnit.unit, PUnit.unit))))) (T.need (Enc.Is eC (List.length l) (Enc.F eC l)) (T.need (Enc.Is eI (0 : Nat) fun (x x_3 : Nat) => D.nilp) (T.need (List.length (Enc.list eC (List.length l) (Enc.F eC l)) ≤ (100000 : Nat)) (T.need ((0 : Nat) ≤ (1000000 : Nat)) (T.need (Prod.snd (M.checkCasks (Enc.list eC (List.length l) (Enc.F eC l))) = (0 : Int)) (T.need (M.checkSample s = (0 : Int)) (T.br (Prod.snd (M.wholeR (Enc.list eC (List.length l) (Enc.F eC l)) s (Enc.list eI (0 : Nat) fun (x x_3 : Nat) => D.nilp)) != (0 : Int)) (T.ret (Sum.inr (Sum.inl (Sum.inl (IntKind.wrap IntKind.i64 (Prod.fst x_1 + (1 : Int)), PUnit.unit, Prod.fst (Prod.snd (Prod.snd x_1)), PUnit.unit))))) (T.br (decide (Prod.fst (Prod.snd (Prod.snd x_1)) < (0 : Int))) (T.ret (Sum.inr (Sum.inl (Sum.inl (IntKind.wrap IntKind.i64 (Prod.fst x_1 + (1 : Int)), PUnit.unit, Prod.fst (M.wholeR (Enc.list eC (List.length l) (Enc.F eC l)) s (Enc.list eI (0 : Nat) fun (x x_3 : Nat) => D.nilp)), PUnit.unit))))) (T.br (decide (Prod.fst (M.wholeR (Enc.list eC (List.length l) (Enc.F eC l)) s (Enc.list eI (0 : Nat) fun (x x_3 : Nat) => D.nilp)) < Prod.fst (Prod.snd (Prod.snd x_1)))) (T.ret (Sum.inr (Sum.inl (Sum.inl (IntKind.wrap IntKind.i64 (Prod.fst x_1 + (1 : Int)), PUnit.unit, Prod.fst (M.wholeR (Enc.list eC (List.length l) (Enc.F eC l)) s (Enc.list eI (0 : Nat) fun (x x_3 : Nat) => D.nilp)), PUnit.unit))))) (T.br (Prod.fst (M.wholeR (Enc.list eC (List.length l) (Enc.F eC l)) s (Enc.list eI (0 : Nat) fun (x x_3 : Nat) => D.nilp)) == Prod.fst (Prod.snd (Prod.snd x_1))) (T.need (Enc.Is eI (0 : Nat) fun (x x_3 : Nat) => D.nilp) (T.need (Enc.Is eI (0 : Nat) fun (x x_3 : Nat) => D.nilp) (T.need ((0 : Nat) ≤ (1000000 : Nat)) (T.need ((0 : Nat) ≤ (1000000 : Nat)) (T.br (M.lexlt (Enc.list eI (0 : Nat) fun (x x_3 : Nat) => D.nilp) (Enc.list eI (0 : Nat) fun (x x_3 : Nat) => D.nilp)) (T.ret (Sum.inr (Sum.inl (Sum.inl (IntKind.wrap IntKind.i64 (Prod.fst x_1 + (1 : Int)), PUnit.unit, Prod.fst (M.wholeR (Enc.list eC (List.length l) (Enc.F eC l)) s (Enc.list eI (0 : Nat) fun (x x_3 : Nat) => D.nilp)), PUnit.unit))))) (T.ret (Sum.inr (Sum.inl (Sum.inl (IntKind.wrap IntKind.i64 (Prod.fst x_1 + (1 : Int)), PUnit.unit, Prod.fst (Prod.snd (Prod.snd x_1)), PUnit.unit)))))))))) (T.ret (Sum.inr (Sum.inl (Sum.inl (IntKind.wrap IntKind.i64 (Prod.fst x_1 + (1 : Int)), PUnit.unit, Prod.fst (Prod.snd (Prod.snd x_1)), PUnit.unit)))))))))))))))) fun (y : Int × Int × List Int × PUnit) => T.br (decide (Prod.fst y < (Nat.cast (R := Int) (List.length l)))) (T.br (Int.tmod (Prod.fst (Prod.snd y)) (2 : Int) == (1 : Int)) (T.need (List.length (Prod.fst (Prod.snd (Prod.snd y))) + (1 : Nat) ≤ (1000000 : Nat)) (T.need (List.length (Prod.fst (Prod.snd (Prod.snd y))) ≤ List.length (Prod.fst (Prod.snd (Prod.snd y)))) (T.need (Enc.Is eI (List.length (Prod.fst (Prod.snd (Prod.snd y))) + (1 : Nat)) (joinF (List.length (Prod.fst (Prod.snd (Prod.snd y)))) (Enc.F eI (Prod.fst (Prod.snd (Prod.snd y)))) (oneF (Prod.fst y)))) (T.need (List.length (Prod.fst (Prod.snd (Prod.snd y))) + (1 : Nat) ≤ List.length (Prod.fst (Prod.snd (Prod.snd y))) + (1 : Nat)) (T.ret (Sum.inl (Sum.inr (IntKind.wrap IntKind.i64 (Prod.fst y + (1 : Int)), IntKind.wrap IntKind.i64 (Int.tdiv (Prod.fst (Prod.snd y)) (2 : Int)), Enc.list eI (List.length (Prod.fst (Prod.snd (Prod.snd y))) + (1 : Nat)) (joinF (List.length (Prod.fst (Prod.snd (Prod.snd y)))) (Enc.F eI (Prod.fst (Prod.snd (Prod.snd y)))) (oneF (Prod.fst y))), PUnit.unit)))))))) (T.need (Enc.Is eI (List.length (Prod.fst (Prod.snd (Prod.snd y)))) (Enc.F eI (Prod.fst (Prod.snd (Prod.snd y))))) (T.need (List.length (Prod.fst (Prod.snd (Prod.snd y))) ≤ List.length (Prod.fst (Prod.snd (Prod.snd y)))) (T.ret (Sum.inl (Sum.inr (IntKind.wrap IntKind.i64 (Prod.fst y + (1 : Int)), IntKind.wrap IntKind.i64 (Int.tdiv (Prod.fst (Prod.snd y)) (2 : Int)), Enc.list eI (List.length (Prod.fst (Prod.snd (Prod.snd y)))) (Enc.F eI (Prod.fst (Prod.snd (Prod.snd y)))), PUnit.unit))))))) (T.need (List.length (Prod.fst (Prod.snd (Prod.snd y))) ≤ List.length (Prod.fst (Prod.snd (Prod.snd y)))) (T.need (Enc.Is eC (List.length l) (Enc.F eC l)) (T.need (Enc.Is eI (List.length (Prod.fst (Prod.snd (Prod.snd y)))) (Enc.F eI (Prod.fst (Prod.snd (Prod.snd y))))) (T.need (List.length (Enc.list eC (List.length l) (Enc.F eC l)) ≤ (100000 : Nat)) (T.need (List.length (Enc.list eI (List.length (Prod.fst (Prod.snd (Prod.snd y)))) (Enc.F eI (Prod.fst (Prod.snd (Prod.snd y))))) ≤ (1000000 : Nat)) (T.need (Prod.snd (M.checkCasks (Enc.list eC (List.length l) (Enc.F eC l))) = (0 : Int)) (T.need (M.checkSample s = (0 : Int)) (T.br (Prod.snd (M.wholeR (Enc.list eC (List.length l) (Enc.F eC l)) s (Enc.list eI (List.length (Prod.fst (Prod.snd (Prod.snd y)))) (Enc.F eI (Prod.fst (Prod.snd (Prod.snd y)))))) != (0 : Int)) (T.ret (Sum.inr (Sum.inl (Sum.inl (IntKind.wrap IntKind.i64 (Prod.fst x_1 + (1 : Int)), PUnit.unit, Prod.fst (Prod.snd (Prod.snd x_1)), PUnit.unit))))) (T.br (decide (Prod.fst (Prod.snd (Prod.snd x_1)) < (0 : Int))) (T.need (Enc.Is eI (List.length (Prod.fst (Prod.snd (Prod.snd y)))) (Enc.F eI (Prod.fst (Prod.snd (Prod.snd y))))) (T.need (List.length (Prod.fst (Prod.snd (Prod.snd y))) ≤ List.length (Prod.fst (Prod.snd (Prod.snd y)))) (T.ret (Sum.inr (Sum.inl (Sum.inr (IntKind.wrap IntKind.i64 (Prod.fst x_1 + (1 : Int)), Enc.list eI (List.length (Prod.fst (Prod.snd (Prod.snd y)))) (Enc.F eI (Prod.fst (Prod.snd (Prod.snd y)))), Prod.fst (M.wholeR (Enc.list eC (List.length l) (Enc.F eC l)) s (Enc.list eI (List.length (Prod.fst (Prod.snd (Prod.snd y)))) (Enc.F eI (Prod.fst (Prod.snd (Prod.snd y)))))), PUnit.unit))))))) (T.br (decide (Prod.fst (M.wholeR (Enc.list eC (List.length l) (Enc.F eC l)) s (Enc.list eI (List.length (Prod.fst (Prod.snd (Prod.snd y)))) (Enc.F eI (Prod.fst (Prod.snd (Prod.snd y)))))) < Prod.fst (Prod.snd (Prod.snd x_1)))) (T.need (Enc.Is eI (List.length (Prod.fst (Prod.snd (Prod.snd y)))) (Enc.F eI (Prod.fst (Prod.snd (Prod.snd y))))) (T.need (List.length (Prod.fst (Prod.snd (Prod.snd y))) ≤ List.length (Prod.fst (Prod.snd (Prod.snd y)))) (T.ret (Sum.inr (Sum.inl (Sum.inr (IntKind.wrap IntKind.i64 (Prod.fst x_1 + (1 : Int)), Enc.list eI (List.length (Prod.fst (Prod.snd (Prod.snd y)))) (Enc.F eI (Prod.fst (Prod.snd (Prod.snd y)))), Prod.fst (M.wholeR (Enc.list eC (List.length l) (Enc.F eC l)) s (Enc.list eI (List.length (Prod.fst (Prod.snd (Prod.snd y)))) (Enc.F eI (Prod.fst (Prod.snd (Prod.snd y)))))), PUnit.unit))))))) (T.br (Prod.fst (M.wholeR (Enc.list eC (List.length l) (Enc.F eC l)) s (Enc.list eI (List.length (Prod.fst (Prod.snd (Prod.snd y)))) (Enc.F eI (Prod.fst (Prod.snd (Prod.snd y)))))) == Prod.fst (Prod.snd (Prod.snd x_1))) (T.br (decide ((Nat.cast (R := Int) (List.length (Prod.fst (Prod.snd (Prod.snd y))))) < (0 : Int))) (T.need (Enc.Is eI (List.length (Prod.fst (Prod.snd (Prod.snd y)))) (Enc.F eI (Prod.fst (Prod.snd (Prod.snd y))))) (T.need (List.length (Prod.fst (Prod.snd (Prod.snd y))) ≤ List.length (Prod.fst (Prod.snd (Prod.snd y)))) (T.ret (Sum.inr (Sum.inl (Sum.inr (IntKind.wrap IntKind.i64 (Prod.fst x_1 + (1 : Int)), Enc.list eI (List.length (Prod.fst (Prod.snd (Prod.snd y)))) (Enc.F eI (Prod.fst (Prod.snd (Prod.snd y)))), Prod.fst (M.wholeR (Enc.list eC (List.length l) (Enc.F eC l)) s (Enc.list eI (List.length (Prod.fst (Prod.snd (Prod.snd y)))) (Enc.F eI (Prod.fst (Prod.snd (Prod.snd y)))))), PUnit.unit))))))) (T.br ((Nat.cast (R := Int) (List.length (Prod.fst (Prod.snd (Prod.snd y))))) == (0 : Int)) (T.need (List.length (Prod.fst (Prod.snd (Prod.snd y))) ≤ List.length (Prod.fst (Prod.snd (Prod.snd y)))) (T.need (Enc.Is eI (List.length (Prod.fst (Prod.snd (Prod.snd y)))) (Enc.F eI (Prod.fst (Prod.snd (Prod.snd y))))) (T.need (Enc.Is eI (0 : Nat) fun (x x_2 : Nat) => D.nilp) (T.need (List.length (Enc.list eI (List.length (Prod.fst (Prod.snd (Prod.snd y)))) (Enc.F eI (Prod.fst (Prod.snd (Prod.snd y))))) ≤ (1000000 : Nat)) (T.need ((0 : Nat) ≤ (1000000 : Nat)) (T.br (M.lexlt (Enc.list eI (List.length (Prod.fst (Prod.snd (Prod.snd y)))) (Enc.F eI (Prod.fst (Prod.snd (Prod.snd y))))) (Enc.list eI (0 : Nat) fun (x x_2 : Nat) => D.nilp)) (T.need (Enc.Is eI (List.length (Prod.fst (Prod.snd (Prod.snd y)))) (Enc.F eI (Prod.fst (Prod.snd (Prod.snd y))))) (T.need (List.length (Prod.fst (Prod.snd (Prod.snd y))) ≤ List.length (Prod.fst (Prod.snd (Prod.snd y)))) (T.ret (Sum.inr (Sum.inl (Sum.inr (IntKind.wrap IntKind.i64 (Prod.fst x_1 + (1 : Int)), Enc.list eI (List.length (Prod.fst (Prod.snd (Prod.snd y)))) (Enc.F eI (Prod.fst (Prod.snd (Prod.snd y)))), Prod.fst (M.wholeR (Enc.list eC (List.length l) (Enc.F eC l)) s (Enc.list eI (List.length (Prod.fst (Prod.snd (Prod.snd y)))) (Enc.F eI (Prod.fst (Prod.snd (Prod.snd y)))))), PUnit.unit))))))) (T.ret (Sum.inr (Sum.inl (Sum.inl (IntKind.wrap IntKind.i64 (Prod.fst x_1 + (1 : Int)), PUnit.unit, Prod.fst (Prod.snd (Prod.snd x_1)), PUnit.unit))))))))))) (T.ret (Sum.inr (Sum.inl (Sum.inl (IntKind.wrap IntKind.i64 (Prod.fst x_1 + (1 : Int)), PUnit.unit, Prod.fst (Prod.snd (Prod.snd x_1)), PUnit.unit))))))) (T.ret (Sum.inr (Sum.inl (Sum.inl (IntKind.wrap IntKind.i64 (Prod.fst x_1 + (1 : Int)), PUnit.unit, Prod.fst (Prod.snd (Prod.snd x_1)), PUnit.unit))))))))))))))))) (T.br (decide (Prod.fst (Prod.snd (Prod.snd x_1)) < (0 : Int))) (T.ret (Sum.inr (Sum.inr [Ar.c (D.sl false (0 : Nat) (0 : Nat) fun (x x_2 : Nat) => D.nilp), Ar.c (D.int IntKind.i64 (0 : Int)), Ar.c (D.int IntKind.i64 (12 : Int))]))) (T.ret (Sum.inr (Sum.inr [Ar.c (D.sl false (0 : Nat) (0 : Nat) fun (x x_2 : Nat) => D.nilp), Ar.c (D.int IntKind.i64 (Prod.fst (Prod.snd (Prod.snd x_1)))), Ar.c (D.int IntKind.i64 (0 : Int))]))))) fun (y : Int × List Int × Int × PUnit) => T.br (decide (Prod.fst y < Prod.fst (Prod.snd x))) (T.loop2 (Int × Int × PUnit × PUnit) (Int × Int × List Int × PUnit) (Sum.inl ((0 : Int), Prod.fst y, PUnit.unit, PUnit.unit)) (fun (x_1 : Int × Int × PUnit × PUnit) => T.br (decide (Prod.fst x_1 < (Nat.cast (R := Int) (List.length l)))) (T.br (Int.tmod (Prod.fst (Prod.snd x_1)) (2 : Int) == (1 : Int)) (T.need ((1 : Nat) ≤ (1000000 : Nat)) (T.need (Enc.Is eI (1 : Nat) (joinF (0 : Nat) (fun (x x_2 : Nat) => D.nilp) (oneF (Prod.fst x_1)))) (T.need ((1 : Nat) ≤ (1 : Nat)) (T.ret (Sum.inl (Sum.inr (IntKind.wrap IntKind.i64 (Prod.fst x_1 + (1 : Int)), IntKind.wrap IntKind.i64 (Int.tdiv (Prod.fst (Prod.snd x_1)) (2 : Int)), Enc.list eI (1 : Nat) (joinF (0 : Nat) (fun (x x_2 : Nat) => D.nilp) (oneF (Prod.fst x_1))), PUnit.unit))))))) (T.ret (Sum.inl (Sum.inl (IntKind.wrap IntKind.i64 (Prod.fst x_1 + (1 : Int)), IntKind.wrap IntKind.i64 (Int.tdiv (Prod.fst (Prod.snd x_1)) (2 : Int)), PUnit.unit, PUnit.unit))))) (T.need (Enc.Is eC (List.length l) (Enc.F eC l)) (T.need (Enc.Is eI (0 : Nat) fun (x x_2 : Nat) => D.nilp) (T.need (List.length (Enc.list eC (List.length l) (Enc.F eC l)) ≤ (100000 : Nat)) (T.need ((0 : Nat) ≤ (1000000 : Nat)) (T.need (Prod.snd (M.checkCasks (Enc.list eC (List.length l) (Enc.F eC l))) = (0 : Int)) (T.need (M.checkSample s = (0 : Int)) (T.br (Prod.snd (M.wholeR (Enc.list eC (List.length l) (Enc.F eC l)) s (Enc.list eI (0 : Nat) fun (x x_2 : Nat) => D.nilp)) != (0 : Int)) (T.need (Enc.Is eI (List.length (Prod.fst (Prod.snd y))) (Enc.F eI (Prod.fst (Prod.snd y)))) (T.need (List.length (Prod.fst (Prod.snd y)) ≤ List.length (Prod.fst (Prod.snd y))) (T.ret (Sum.inr (Sum.inl (Sum.inr (IntKind.wrap IntKind.i64 (Prod.fst y + (1 : Int)), Enc.list eI (List.length (Prod.fst (Prod.snd y))) (Enc.F eI (Prod.fst (Prod.snd y))), Prod.fst (Prod.snd (Prod.snd y)), PUnit.unit))))))) (T.br (decide (Prod.fst (Prod.snd (Prod.snd y)) < (0 : Int))) (T.ret (Sum.inr (Sum.inl (Sum.inl (IntKind.wrap IntKind.i64 (Prod.fst y + (1 : Int)), PUnit.unit, Prod.fst (M.wholeR (Enc.list eC (List.length l) (Enc.F eC l)) s (Enc.list eI (0 : Nat) fun (x x_2 : Nat) => D.nilp)), PUnit.unit))))) (T.br (decide (Prod.fst (M.wholeR (Enc.list eC (List.length l) (Enc.F eC l)) s (Enc.list eI (0 : Nat) fun (x x_2 : Nat) => D.nilp)) < Prod.fst (Prod.snd (Prod.snd y)))) (T.ret (Sum.inr (Sum.inl (Sum.inl (IntKind.wrap IntKind.i64 (Prod.fst y + (1 : Int)), PUnit.unit, Prod.fst (M.wholeR (Enc.list eC (List.length l) (Enc.F eC l)) s (Enc.list eI (0 : Nat) fun (x x_2 : Nat) => D.nilp)), PUnit.unit))))) (T.br (Prod.fst (M.wholeR (Enc.list eC (List.length l) (Enc.F eC l)) s (Enc.list eI (0 : Nat) fun (x x_2 : Nat) => D.nilp)) == Prod.fst (Prod.snd (Prod.snd y))) (T.br (decide ((0 : Int) < (Nat.cast (R := Int) (List.length (Prod.fst (Prod.snd y)))))) (T.ret (Sum.inr (Sum.inl (Sum.inl (IntKind.wrap IntKind.i64 (Prod.fst y + (1 : Int)), PUnit.unit, Prod.fst (M.wholeR (Enc.list eC (List.length l) (Enc.F eC l)) s (Enc.list eI (0 : Nat) fun (x x_2 : Nat) => D.nilp)), PUnit.unit))))) (T.br ((0 : Int) == (Nat.cast (R := Int) (List.length (Prod.fst (Prod.snd y))))) (T.need (List.length (Prod.fst (Prod.snd y)) ≤ List.length (Prod.fst (Prod.snd y))) (T.need (Enc.Is eI (0 : Nat) fun (x x_2 : Nat) => D.nilp) (T.need (Enc.Is eI (List.length (Prod.fst (Prod.snd y))) (Enc.F eI (Prod.fst (Prod.snd y)))) (T.need ((0 : Nat) ≤ (1000000 : Nat)) (T.need (List.length (Enc.list eI (List.length (Prod.fst (Prod.snd y))) (Enc.F eI (Prod.fst (Prod.snd y)))) ≤ (1000000 : Nat)) (T.br (M.lexlt (Enc.list eI (0 : Nat) fun (x x_2 : Nat) => D.nilp) (Enc.list eI (List.length (Prod.fst (Prod.snd y))) (Enc.F eI (Prod.fst (Prod.snd y))))) (T.ret (Sum.inr (Sum.inl (Sum.inl (IntKind.wrap IntKind.i64 (Prod.fst y + (1 : Int)), PUnit.unit, Prod.fst (M.wholeR (Enc.list eC (List.length l) (Enc.F eC l)) s (Enc.list eI (0 : Nat) fun (x x_2 : Nat) => D.nilp)), PUnit.unit))))) (T.need (Enc.Is eI (List.length (Prod.fst (Prod.snd y))) (Enc.F eI (Prod.fst (Prod.snd y)))) (T.need (List.length (Prod.fst (Prod.snd y)) ≤ List.length (Prod.fst (Prod.snd y))) (T.ret (Sum.inr (Sum.inl (Sum.inr (IntKind.wrap IntKind.i64 (Prod.fst y + (1 : Int)), Enc.list eI (List.length (Prod.fst (Prod.snd y))) (Enc.F eI (Prod.fst (Prod.snd y))), Prod.fst (Prod.snd (Prod.snd y)), PUnit.unit))))))))))))) (T.need (Enc.Is eI (List.length (Prod.fst (Prod.snd y))) (Enc.F eI (Prod.fst (Prod.snd y)))) (T.need (List.length (Prod.fst (Prod.snd y)) ≤ List.length (Prod.fst (Prod.snd y))) (T.ret (Sum.inr (Sum.inl (Sum.inr (IntKind.wrap IntKind.i64 (Prod.fst y + (1 : Int)), Enc.list eI (List.length (Prod.fst (Prod.snd y))) (Enc.F eI (Prod.fst (Prod.snd y))), Prod.fst (Prod.snd (Prod.snd y)), PUnit.unit))))))))) (T.need (Enc.Is eI (List.length (Prod.fst (Prod.snd y))) (Enc.F eI (Prod.fst (Prod.snd y)))) (T.need (List.length (Prod.fst (Prod.snd y)) ≤ List.length (Prod.fst (Prod.snd y))) (T.ret (Sum.inr (Sum.inl (Sum.inr (IntKind.wrap IntKind.i64 (Prod.fst y + (1 : Int)), Enc.list eI (List.length (Prod.fst (Prod.snd y))) (Enc.F eI (Prod.fst (Prod.snd y))), Prod.fst (Prod.snd (Prod.snd y)), PUnit.unit)))))))))))))))))) fun (y_1 : Int × Int × List Int × PUnit) => T.br (decide (Prod.fst y_1 < (Nat.cast (R := Int) (List.length l)))) (T.br (Int.tmod (Prod.fst (Prod.snd y_1)) (2 : Int) == (1 : Int)) (T.need (List.length (Prod.fst (Prod.snd (Prod.snd y_1))) + (1 : Nat) ≤ (1000000 : Nat)) (T.need (List.length (Prod.fst (Prod.snd (Prod.snd y_1))) ≤ List.length (Prod.fst (Prod.snd (Prod.snd y_1)))) (T.need (Enc.Is eI (List.length (Prod.fst (Prod.snd (Prod.snd y_1))) + (1 : Nat)) (joinF (List.length (Prod.fst (Prod.snd (Prod.snd y_1)))) (Enc.F eI (Prod.fst (Prod.snd (Prod.snd y_1)))) (oneF (Prod.fst y_1)))) (T.need (List.length (Prod.fst (Prod.snd (Prod.snd y_1))) + (1 : Nat) ≤ List.length (Prod.fst (Prod.snd (Prod.snd y_1))) + (1 : Nat)) (T.ret (Sum.inl (Sum.inr (IntKind.wrap IntKind.i64 (Prod.fst y_1 + (1 : Int)), IntKind.wrap IntKind.i64 (Int.tdiv (Prod.fst (Prod.snd y_1)) (2 : Int)), Enc.list eI (List.length (Prod.fst (Prod.snd (Prod.snd y_1))) + (1 : Nat)) (joinF (List.length (Prod.fst (Prod.snd (Prod.snd y_1)))) (Enc.F eI (Prod.fst (Prod.snd (Prod.snd y_1)))) (oneF (Prod.fst y_1))), PUnit.unit)))))))) (T.need (Enc.Is eI (List.length (Prod.fst (Prod.snd (Prod.snd y_1)))) (Enc.F eI (Prod.fst (Prod.snd (Prod.snd y_1))))) (T.need (List.length (Prod.fst (Prod.snd (Prod.snd y_1))) ≤ List.length (Prod.fst (Prod.snd (Prod.snd y_1)))) (T.ret (Sum.inl (Sum.inr (IntKind.wrap IntKind.i64 (Prod.fst y_1 + (1 : Int)), IntKind.wrap IntKind.i64 (Int.tdiv (Prod.fst (Prod.snd y_1)) (2 : Int)), Enc.list eI (List.length (Prod.fst (Prod.snd (Prod.snd y_1)))) (Enc.F eI (Prod.fst (Prod.snd (Prod.snd y_1)))), PUnit.unit))))))) (T.need (List.length (Prod.fst (Prod.snd (Prod.snd y_1))) ≤ List.length (Prod.fst (Prod.snd (Prod.snd y_1)))) (T.need (Enc.Is eC (List.length l) (Enc.F eC l)) (T.need (Enc.Is eI (List.length (Prod.fst (Prod.snd (Prod.snd y_1)))) (Enc.F eI (Prod.fst (Prod.snd (Prod.snd y_1))))) (T.need (List.length (Enc.list eC (List.length l) (Enc.F eC l)) ≤ (100000 : Nat)) (T.need (List.length (Enc.list eI (List.length (Prod.fst (Prod.snd (Prod.snd y_1)))) (Enc.F eI (Prod.fst (Prod.snd (Prod.snd y_1))))) ≤ (1000000 : Nat)) (T.need (Prod.snd (M.checkCasks (Enc.list eC (List.length l) (Enc.F eC l))) = (0 : Int)) (T.need (M.checkSample s = (0 : Int)) (T.br (Prod.snd (M.wholeR (Enc.list eC (List.length l) (Enc.F eC l)) s (Enc.list eI (List.length (Prod.fst (Prod.snd (Prod.snd y_1)))) (Enc.F eI (Prod.fst (Prod.snd (Prod.snd y_1)))))) != (0 : Int)) (T.need (Enc.Is eI (List.length (Prod.fst (Prod.snd y))) (Enc.F eI (Prod.fst (Prod.snd y)))) (T.need (List.length (Prod.fst (Prod.snd y)) ≤ List.length (Prod.fst (Prod.snd y))) (T.ret (Sum.inr (Sum.inl (Sum.inr (IntKind.wrap IntKind.i64 (Prod.fst y + (1 : Int)), Enc.list eI (List.length (Prod.fst (Prod.snd y))) (Enc.F eI (Prod.fst (Prod.snd y))), Prod.fst (Prod.snd (Prod.snd y)), PUnit.unit))))))) (T.br (decide (Prod.fst (Prod.snd (Prod.snd y)) < (0 : Int))) (T.need (Enc.Is eI (List.length (Prod.fst (Prod.snd (Prod.snd y_1)))) (Enc.F eI (Prod.fst (Prod.snd (Prod.snd y_1))))) (T.need (List.length (Prod.fst (Prod.snd (Prod.snd y_1))) ≤ List.length (Prod.fst (Prod.snd (Prod.snd y_1)))) (T.ret (Sum.inr (Sum.inl (Sum.inr (IntKind.wrap IntKind.i64 (Prod.fst y + (1 : Int)), Enc.list eI (List.length (Prod.fst (Prod.snd (Prod.snd y_1)))) (Enc.F eI (Prod.fst (Prod.snd (Prod.snd y_1)))), Prod.fst (M.wholeR (Enc.list eC (List.length l) (Enc.F eC l)) s (Enc.list eI (List.length (Prod.fst (Prod.snd (Prod.snd y_1)))) (Enc.F eI (Prod.fst (Prod.snd (Prod.snd y_1)))))), PUnit.unit))))))) (T.br (decide (Prod.fst (M.wholeR (Enc.list eC (List.length l) (Enc.F eC l)) s (Enc.list eI (List.length (Prod.fst (Prod.snd (Prod.snd y_1)))) (Enc.F eI (Prod.fst (Prod.snd (Prod.snd y_1)))))) < Prod.fst (Prod.snd (Prod.snd y)))) (T.need (Enc.Is eI (List.length (Prod.fst (Prod.snd (Prod.snd y_1)))) (Enc.F eI (Prod.fst (Prod.snd (Prod.snd y_1))))) (T.need (List.length (Prod.fst (Prod.snd (Prod.snd y_1))) ≤ List.length (Prod.fst (Prod.snd (Prod.snd y_1)))) (T.ret (Sum.inr (Sum.inl (Sum.inr (IntKind.wrap IntKind.i64 (Prod.fst y + (1 : Int)), Enc.list eI (List.length (Prod.fst (Prod.snd (Prod.snd y_1)))) (Enc.F eI (Prod.fst (Prod.snd (Prod.snd y_1)))), Prod.fst (M.wholeR (Enc.list eC (List.length l) (Enc.F eC l)) s (Enc.list eI (List.length (Prod.fst (Prod.snd (Prod.snd y_1)))) (Enc.F eI (Prod.fst (Prod.snd (Prod.snd y_1)))))), PUnit.unit))))))) (T.br (Prod.fst (M.wholeR (Enc.list eC (List.length l) (Enc.F eC l)) s (Enc.list eI (List.length (Prod.fst (Prod.snd (Prod.snd y_1)))) (Enc.F eI (Prod.fst (Prod.snd (Prod.snd y_1)))))) == Prod.fst (Prod.snd (Prod.snd y))) (T.br (decide ((Nat.cast (R := Int) (List.length (Prod.fst (Prod.snd (Prod.snd y_1))))) < (Nat.cast (R := Int) (List.length (Prod.fst (Prod.snd y)))))) (T.need (Enc.Is eI (List.length (Prod.fst (Prod.snd (Prod.snd y_1)))) (Enc.F eI (Prod.fst (Prod.snd (Prod.snd y_1))))) (T.need (List.length (Prod.fst (Prod.snd (Prod.snd y_1))) ≤ List.length (Prod.fst (Prod.snd (Prod.snd y_1)))) (T.ret (Sum.inr (Sum.inl (Sum.inr (IntKind.wrap IntKind.i64 (Prod.fst y + (1 : Int)), Enc.list eI (List.length (Prod.fst (Prod.snd (Prod.snd y_1)))) (Enc.F eI (Prod.fst (Prod.snd (Prod.snd y_1)))), Prod.fst (M.wholeR (Enc.list eC (List.length l) (Enc.F eC l)) s (Enc.list eI (List.length (Prod.fst (Prod.snd (Prod.snd y_1)))) (Enc.F eI (Prod.fst (Prod.snd (Prod.snd y_1)))))), PUnit.unit))))))) (T.br ((Nat.cast (R := Int) (List.length (Prod.fst (Prod.snd (Prod.snd y_1))))) == (Nat.cast (R := Int) (List.length (Prod.fst (Prod.snd y))))) (T.need (List.length (Prod.fst (Prod.snd (Prod.snd y_1))) ≤ List.length (Prod.fst (Prod.snd (Prod.snd y_1)))) (T.need (List.length (Prod.fst (Prod.snd y)) ≤ List.length (Prod.fst (Prod.snd y))) (T.need (Enc.Is eI (List.length (Prod.fst (Prod.snd (Prod.snd y_1)))) (Enc.F eI (Prod.fst (Prod.snd (Prod.snd y_1))))) (T.need (Enc.Is eI (List.length (Prod.fst (Prod.snd y))) (Enc.F eI (Prod.fst (Prod.snd y)))) (T.need (List.length (Enc.list eI (List.length (Prod.fst (Prod.snd (Prod.snd y_1)))) (Enc.F eI (Prod.fst (Prod.snd (Prod.snd y_1))))) ≤ (1000000 : Nat)) (T.need (List.length (Enc.list eI (List.length (Prod.fst (Prod.snd y))) (Enc.F eI (Prod.fst (Prod.snd y)))) ≤ (1000000 : Nat)) (T.br (M.lexlt (Enc.list eI (List.length (Prod.fst (Prod.snd (Prod.snd y_1)))) (Enc.F eI (Prod.fst (Prod.snd (Prod.snd y_1))))) (Enc.list eI (List.length (Prod.fst (Prod.snd y))) (Enc.F eI (Prod.fst (Prod.snd y))))) (T.need (Enc.Is eI (List.length (Prod.fst (Prod.snd (Prod.snd y_1)))) (Enc.F eI (Prod.fst (Prod.snd (Prod.snd y_1))))) (T.need (List.length (Prod.fst (Prod.snd (Prod.snd y_1))) ≤ List.length (Prod.fst (Prod.snd (Prod.snd y_1)))) (T.ret (Sum.inr (Sum.inl (Sum.inr (IntKind.wrap IntKind.i64 (Prod.fst y + (1 : Int)), Enc.list eI (List.length (Prod.fst (Prod.snd (Prod.snd y_1)))) (Enc.F eI (Prod.fst (Prod.snd (Prod.snd y_1)))), Prod.fst (M.wholeR (Enc.list eC (List.length l) (Enc.F eC l)) s (Enc.list eI (List.length (Prod.fst (Prod.snd (Prod.snd y_1)))) (Enc.F eI (Prod.fst (Prod.snd (Prod.snd y_1)))))), PUnit.unit))))))) (T.need (Enc.Is eI (List.length (Prod.fst (Prod.snd y))) (Enc.F eI (Prod.fst (Prod.snd y)))) (T.need (List.length (Prod.fst (Prod.snd y)) ≤ List.length (Prod.fst (Prod.snd y))) (T.ret (Sum.inr (Sum.inl (Sum.inr (IntKind.wrap IntKind.i64 (Prod.fst y + (1 : Int)), Enc.list eI (List.length (Prod.fst (Prod.snd y))) (Enc.F eI (Prod.fst (Prod.snd y))), Prod.fst (Prod.snd (Prod.snd y)), PUnit.unit)))))))))))))) (T.need (Enc.Is eI (List.length (Prod.fst (Prod.snd y))) (Enc.F eI (Prod.fst (Prod.snd y)))) (T.need (List.length (Prod.fst (Prod.snd y)) ≤ List.length (Prod.fst (Prod.snd y))) (T.ret (Sum.inr (Sum.inl (Sum.inr (IntKind.wrap IntKind.i64 (Prod.fst y + (1 : Int)), Enc.list eI (List.length (Prod.fst (Prod.snd y))) (Enc.F eI (Prod.fst (Prod.snd y))), Prod.fst (Prod.snd (Prod.snd y)), PUnit.unit))))))))) (T.need (Enc.Is eI (List.length (Prod.fst (Prod.snd y))) (Enc.F eI (Prod.fst (Prod.snd y)))) (T.need (List.length (Prod.fst (Prod.snd y)) ≤ List.length (Prod.fst (Prod.snd y))) (T.ret (Sum.inr (Sum.inl (Sum.inr (IntKind.wrap IntKind.i64 (Prod.fst y + (1 : Int)), Enc.list eI (List.length (Prod.fst (Prod.snd y))) (Enc.F eI (Prod.fst (Prod.snd y))), Prod.fst (Prod.snd (Prod.snd y)), PUnit.unit))))))))))))))))))) (T.br (decide (Prod.fst (Prod.snd (Prod.snd y)) < (0 : Int))) (T.ret (Sum.inr (Sum.inr [Ar.c (D.sl false (0 : Nat) (0 : Nat) fun (x x_1 : Nat) => D.nilp), Ar.c (D.int IntKind.i64 (0 : Int)), Ar.c (D.int IntKind.i64 (12 : Int))]))) (T.need (List.length (Prod.fst (Prod.snd y)) ≤ List.length (Prod.fst (Prod.snd y))) (T.ret (Sum.inr (Sum.inr [Ar.c (D.sl true (List.length (Prod.fst (Prod.snd y))) (1 : Nat) (Enc.F eI (Prod.fst (Prod.snd y)))), Ar.c (D.int IntKind.i64 (Prod.fst (Prod.snd (Prod.snd y)))), Ar.c (D.int IntKind.i64 (0 : Int))]))))))
theorem t33 (q_l : Bool) (l : List Cask) (sv l0 h0 l1 h1 l2 h2 l3 h3 : Int) : runFnX Try.prog G0 (lookS [v45z, v93z]) (fun _ => [(5, [.slot 10 (.int .i64), .slot 9 (.int .i64)], none), (9, [.slot 11 (.int .i64), .slot 7 .nsl, .slot 8 (.int .i64)], some [.slot 11 (.int .i64), .slot 7 (.rowE 3 eI), .slot 8 (.int .i64)]), (14, [.slot 14 (.int .i64), .slot 13 (.int .i64), .slot 12 .nsl], some [.slot 14 (.int .i64), .slot 13 (.int .i64), .slot 12 (.rowE 3 eI)])]) [] 1 80 5 33 Try.f33 [.c (.sl q_l l.length 7 (eC.F l)), .agg [dI sv, dI l0, dI h0, dI l1, dI h1, dI l2, dI h2, dI l3, dI h3]] =
    tr33 l (⟨sv, ⟨l0, h0⟩, ⟨l1, h1⟩, ⟨l2, h2⟩, ⟨l3, h3⟩⟩ : Sample) := by kernel_rfl
theorem w33 (l : List Cask) (s : Sample) (hc : (M.checkCasks l).2 = 0) (hs : M.checkSample s = 0) : (tr33 l s).wp (fun rs => rsEqv rs (resBW (M.bestRW l s))) := by
  unfold tr33
  simp only [Enc.list_F]
  have hr := casks_ten hc
  have h10 := hr.n10
  have hl5 : l.length ≤ 100000 := by omega
  refine range_wp (n := l.length) (fun k s => s.1 = ((2 ^ k : Nat) : Int)) rfl ?_
  rintro k ⟨ch, u⟩ hk hI
  simp only at hI
  subst hI
  refine ⟨fun hb => ?_, fun hb => ?_⟩
  · have hlt := lt_of_dec hb
    refine ⟨hlt, wrap_succ (k := k) (by omega), ?_⟩
    show IntKind.wrap IntKind.i64 (2 * ((2 ^ k : Nat) : Int)) = ((2 ^ (k + 1) : Nat) : Int)
    have := two_pow_le (n := k) (by omega)
    rw [Nat.pow_succ]
    generalize 2 ^ k = p at *
    rw [wrap_id (by omega) (by omega)]; omega
  obtain rfl : k = l.length := by have := ge_of_dec hb; omega
  have hP := two_pow_le hr.n10
  have h2 : 1 ≤ 2 ^ l.length := Nat.one_le_two_pow
  have hR : M.bestRW l s = M.tellW (M.bestUpW l s (2 ^ l.length)) := rfl
  have hbits : ∀ c, c < 2 ^ l.length → 1 ≤ c → M.bitsL c l.length ≠ [] := fun c h1 h2 => bits_some h2 h1
  generalize 2 ^ l.length = K at *
  refine ⟨fun z => match z with
    | .inl x => ∃ c : Nat, 1 ≤ c ∧ c ≤ K ∧ x.1 = c ∧ x.2.2.1 = -1 ∧ M.bestUpW l s c = none
    | .inr y => ∃ c : Nat, 1 ≤ c ∧ c ≤ K ∧ y.1 = c ∧ 0 ≤ y.2.2.1 ∧ y.2.1.length ≤ 10 ∧ M.bestUpW l s c = some (y.2.1, y.2.2.1),
    fun z => match z with | .inl x => K - x.1.toNat | .inr y => K - y.1.toNat, ⟨1, Nat.le_refl _, h2, rfl, rfl, ?_⟩, ?_, ?_⟩
  · rw [bestUpW_succ, bits_zero, pickW_bad (none_bad hr hs)]; rfl
  · rintro ⟨x, u1, cost, u2⟩ ⟨c, hc1, hc2, hx, hco, hB⟩
    simp only at hx hco
    subst hx hco
    refine ⟨fun hb => ?_, fun hb => ?_⟩
    · have hlt := lt_of_dec hb
      have hw := wrap_succ (k := c) (by omega)
      have hne := hbits c hlt hc1
      refine ⟨fun z => match z with
        | .inl x => ∃ k : Nat, k ≤ l.length ∧ x.1 = k ∧ x.2.1 = ((c / 2 ^ k : Nat) : Int) ∧ M.bitsL c k = []
        | .inr y => ∃ k : Nat, k ≤ l.length ∧ y.1 = k ∧ y.2.1 = ((c / 2 ^ k : Nat) : Int) ∧ y.2.2.1 = M.bitsL c k,
        fun z => match z with | .inl x => l.length - x.1.toNat | .inr y => l.length - y.1.toNat, ⟨0, Nat.zero_le _, rfl, ?_, rfl⟩, ?_, ?_⟩
      · show (c : Int) = ((c / 2 ^ 0 : Nat) : Int)
        rw [Nat.pow_zero, Nat.div_one]
      · rintro ⟨i, r, u3, u4⟩ ⟨k, hk, hi, hrr, hbt⟩
        simp only at hi hrr
        subst hi hrr
        refine ⟨fun hb2 => ⟨fun h1 => ?_, fun h1 => ?_⟩, fun hb2 => ?_⟩
        · have hlt2 := lt_of_dec hb2
          have hw2 := wrap_succ (k := k) (by omega)
          obtain ⟨o1, o2⟩ := one_first (k : Int)
          refine ⟨by decide, o1, Nat.le_refl _, ⟨k + 1, hlt2, hw2, half_wrap (by omega), ?_⟩, ?_⟩
          · rw [bits_succ, if_pos (bit_is h1), hbt]; exact o2
          · show l.length - (IntKind.wrap IntKind.i64 ((k : Int) + 1)).toNat < l.length - ((k : Int)).toNat
            rw [hw2]; omega
        · have hlt2 := lt_of_dec hb2
          have hw2 := wrap_succ (k := k) (by omega)
          refine ⟨⟨k + 1, hlt2, hw2, half_wrap (by omega), ?_⟩, ?_⟩
          · rw [bits_succ, if_neg (bit_not h1), hbt]
          · show l.length - (IntKind.wrap IntKind.i64 ((k : Int) + 1)).toNat < l.length - ((k : Int)).toNat
            rw [hw2]; omega
        · obtain rfl : k = l.length := by have := ge_of_dec hb2; omega
          exact absurd hbt hne
      · rintro ⟨i, r, acc, u4⟩ ⟨k, hk, hi, hrr, hbt⟩
        simp only at hi hrr hbt
        subst hi hrr hbt
        have hbl := bits_len c k
        refine ⟨fun hb2 => ⟨fun h1 => ?_, fun h1 => ?_⟩, fun hb2 => ?_⟩
        · have hlt2 := lt_of_dec hb2
          have hw2 := wrap_succ (k := k) (by omega)
          obtain ⟨o1, o2⟩ := one_push (M.bitsL c k) (k : Int)
          refine ⟨by show (M.bitsL c k).length + 1 ≤ 1000000; omega, Nat.le_refl _, o1, Nat.le_refl _, ⟨k + 1, hlt2, hw2, half_wrap (by omega), ?_⟩, ?_⟩
          · rw [bits_succ, if_pos (bit_is h1)]; exact o2
          · show l.length - (IntKind.wrap IntKind.i64 ((k : Int) + 1)).toNat < l.length - ((k : Int)).toNat
            rw [hw2]; omega
        · have hlt2 := lt_of_dec hb2
          have hw2 := wrap_succ (k := k) (by omega)
          refine ⟨Enc.is_F _ _ _, Nat.le_refl _, ⟨k + 1, hlt2, hw2, half_wrap (by omega), ?_⟩, ?_⟩
          · rw [bits_succ, if_neg (bit_not h1)]
          · show l.length - (IntKind.wrap IntKind.i64 ((k : Int) + 1)).toNat < l.length - ((k : Int)).toNat
            rw [hw2]; omega
        · obtain rfl : k = l.length := by have := ge_of_dec hb2; omega
          have hcb := cost_b hr s (M.bitsL c l.length)
          have hS := bestUpW_succ l s c
          rw [hB] at hS
          have hml : (M.bitsL c l.length).length ≤ 1000000 := by omega
          have hmeas : K - (IntKind.wrap IntKind.i64 ((c : Int) + 1)).toNat < K - ((c : Int)).toNat := by rw [hw]; omega
          generalize M.bitsL c l.length = ps at *
          repeat (refine ⟨by first | exact Enc.is_F _ _ _ | exact Nat.le_refl _ | assumption | omega, ?_⟩)
          refine wp_br (fun hd => ?_) (fun hd => ?_)
          · repeat (refine ⟨by first | exact Enc.is_F _ _ _ | exact Nat.le_refl _ | assumption | omega, ?_⟩)
            rw [pickW_bad hd] at hS
            exact ⟨⟨c + 1, by omega, by omega, hw, rfl, hS⟩, hmeas⟩
          · refine wp_br (fun he => ?_) (fun he => absurd he (show ¬ decide ((-1 : Int) < 0) = false by decide))
            repeat (refine ⟨by first | exact Enc.is_F _ _ _ | exact Nat.le_refl _ | assumption | omega, ?_⟩)
            rw [pickW_none hd] at hS
            exact ⟨⟨c + 1, by omega, by omega, hw, hcb.1, by show ps.length ≤ 10; omega, hS⟩, hmeas⟩
    · obtain rfl : c = K := by have := ge_of_dec hb; omega
      refine wp_br (fun he => ?_) (fun he => absurd he (show ¬ decide ((-1 : Int) < 0) = false by decide))
      show rsEqv [.c nilD, rI 0, rI 12] _
      rw [hR, hB]
      exact ⟨⟨(fun e => by cases e), rfl, fun h => absurd h (Nat.lt_irrefl 0), fun i j hi => absurd hi (Nat.not_lt_zero i)⟩, rsEqv_refl _⟩
  · rintro ⟨x, b, m, u2⟩ ⟨c, hc1, hc2, hx, hm0, hb10, hB⟩
    simp only at hx hm0 hb10 hB
    subst hx
    refine ⟨fun hb => ?_, fun hb => ?_⟩
    · have hlt := lt_of_dec hb
      have hw := wrap_succ (k := c) (by omega)
      have hne := hbits c hlt hc1
      refine ⟨fun z => match z with
        | .inl x => ∃ k : Nat, k ≤ l.length ∧ x.1 = k ∧ x.2.1 = ((c / 2 ^ k : Nat) : Int) ∧ M.bitsL c k = []
        | .inr y => ∃ k : Nat, k ≤ l.length ∧ y.1 = k ∧ y.2.1 = ((c / 2 ^ k : Nat) : Int) ∧ y.2.2.1 = M.bitsL c k,
        fun z => match z with | .inl x => l.length - x.1.toNat | .inr y => l.length - y.1.toNat, ⟨0, Nat.zero_le _, rfl, ?_, rfl⟩, ?_, ?_⟩
      · show (c : Int) = ((c / 2 ^ 0 : Nat) : Int)
        rw [Nat.pow_zero, Nat.div_one]
      · rintro ⟨i, r, u3, u4⟩ ⟨k, hk, hi, hrr, hbt⟩
        simp only at hi hrr
        subst hi hrr
        refine ⟨fun hb2 => ⟨fun h1 => ?_, fun h1 => ?_⟩, fun hb2 => ?_⟩
        · have hlt2 := lt_of_dec hb2
          have hw2 := wrap_succ (k := k) (by omega)
          obtain ⟨o1, o2⟩ := one_first (k : Int)
          refine ⟨by decide, o1, Nat.le_refl _, ⟨k + 1, hlt2, hw2, half_wrap (by omega), ?_⟩, ?_⟩
          · rw [bits_succ, if_pos (bit_is h1), hbt]; exact o2
          · show l.length - (IntKind.wrap IntKind.i64 ((k : Int) + 1)).toNat < l.length - ((k : Int)).toNat
            rw [hw2]; omega
        · have hlt2 := lt_of_dec hb2
          have hw2 := wrap_succ (k := k) (by omega)
          refine ⟨⟨k + 1, hlt2, hw2, half_wrap (by omega), ?_⟩, ?_⟩
          · rw [bits_succ, if_neg (bit_not h1), hbt]
          · show l.length - (IntKind.wrap IntKind.i64 ((k : Int) + 1)).toNat < l.length - ((k : Int)).toNat
            rw [hw2]; omega
        · obtain rfl : k = l.length := by have := ge_of_dec hb2; omega
          exact absurd hbt hne
      · rintro ⟨i, r, acc, u4⟩ ⟨k, hk, hi, hrr, hbt⟩
        simp only at hi hrr hbt
        subst hi hrr hbt
        have hbl := bits_len c k
        refine ⟨fun hb2 => ⟨fun h1 => ?_, fun h1 => ?_⟩, fun hb2 => ?_⟩
        · have hlt2 := lt_of_dec hb2
          have hw2 := wrap_succ (k := k) (by omega)
          obtain ⟨o1, o2⟩ := one_push (M.bitsL c k) (k : Int)
          refine ⟨by show (M.bitsL c k).length + 1 ≤ 1000000; omega, Nat.le_refl _, o1, Nat.le_refl _, ⟨k + 1, hlt2, hw2, half_wrap (by omega), ?_⟩, ?_⟩
          · rw [bits_succ, if_pos (bit_is h1)]; exact o2
          · show l.length - (IntKind.wrap IntKind.i64 ((k : Int) + 1)).toNat < l.length - ((k : Int)).toNat
            rw [hw2]; omega
        · have hlt2 := lt_of_dec hb2
          have hw2 := wrap_succ (k := k) (by omega)
          refine ⟨Enc.is_F _ _ _, Nat.le_refl _, ⟨k + 1, hlt2, hw2, half_wrap (by omega), ?_⟩, ?_⟩
          · rw [bits_succ, if_neg (bit_not h1)]
          · show l.length - (IntKind.wrap IntKind.i64 ((k : Int) + 1)).toNat < l.length - ((k : Int)).toNat
            rw [hw2]; omega
        · obtain rfl : k = l.length := by have := ge_of_dec hb2; omega
          have hcb := cost_b hr s (M.bitsL c l.length)
          have hS := bestUpW_succ l s c
          rw [hB] at hS
          have hml : (M.bitsL c l.length).length ≤ 1000000 := by omega
          have hmb : b.length ≤ 1000000 := by omega
          have hmeas : K - (IntKind.wrap IntKind.i64 ((c : Int) + 1)).toNat < K - ((c : Int)).toNat := by rw [hw]; omega
          generalize M.bitsL c l.length = ps at *
          have keep : M.pickW l s (some (b, m)) ps = some (b, m) → (∃ c' : Nat, 1 ≤ c' ∧ c' ≤ K ∧ IntKind.wrap IntKind.i64 ((c : Int) + 1) = c' ∧ 0 ≤ m ∧ b.length ≤ 10 ∧ M.bestUpW l s c' = some (b, m)) ∧ K - (IntKind.wrap IntKind.i64 ((c : Int) + 1)).toNat < K - ((c : Int)).toNat :=
            fun e => ⟨⟨c + 1, by omega, by omega, hw, hm0, hb10, hS.trans e⟩, hmeas⟩
          have take : M.pickW l s (some (b, m)) ps = some (ps, (M.wholeR l s ps).1) → (∃ c' : Nat, 1 ≤ c' ∧ c' ≤ K ∧ IntKind.wrap IntKind.i64 ((c : Int) + 1) = c' ∧ 0 ≤ (M.wholeR l s ps).1 ∧ ps.length ≤ 10 ∧ M.bestUpW l s c' = some (ps, (M.wholeR l s ps).1)) ∧ K - (IntKind.wrap IntKind.i64 ((c : Int) + 1)).toNat < K - ((c : Int)).toNat :=
            fun e => ⟨⟨c + 1, by omega, by omega, hw, hcb.1, by omega, hS.trans e⟩, hmeas⟩
          repeat (refine ⟨by first | exact Enc.is_F _ _ _ | exact Nat.le_refl _ | assumption | omega, ?_⟩)
          refine wp_br (fun hd => ?_) (fun hd => ?_)
          · repeat (refine ⟨by first | exact Enc.is_F _ _ _ | exact Nat.le_refl _ | assumption | omega, ?_⟩)
            exact keep (pickW_bad hd)
          refine wp_br (fun he => absurd (of_decide_eq_true he) (by show ¬ m < 0; omega)) (fun he => ?_)
          refine wp_br (fun he => ?_) (fun he => ?_)
          · repeat (refine ⟨by first | exact Enc.is_F _ _ _ | exact Nat.le_refl _ | assumption | omega, ?_⟩)
            exact take (pickW_yes hd (by unfold M.better; rw [he]; rfl))
          refine wp_br (fun hf => ?_) (fun hf => ?_)
          · refine wp_br (fun hg => ?_) (fun hg => ?_)
            · repeat (refine ⟨by first | exact Enc.is_F _ _ _ | exact Nat.le_refl _ | assumption | omega, ?_⟩)
              refine take (pickW_yes hd ?_)
              unfold M.better
              rw [he, hf, show decide (ps.length < b.length) = true from decide_eq_true (by have : (ps.length : Int) < (b.length : Int) := of_decide_eq_true hg; omega)]; rfl
            have hg' : decide (ps.length < b.length) = false := decide_eq_false (by have : ¬ (ps.length : Int) < (b.length : Int) := of_decide_eq_false hg; omega)
            refine wp_br (fun hh => ?_) (fun hh => ?_)
            · have hh' : (ps.length == b.length) = true := by have : (ps.length : Int) = b.length := by simpa using hh
                                                              have : ps.length = b.length := by omega
                                                              simpa using this
              repeat (refine ⟨by first | exact Enc.is_F _ _ _ | exact Nat.le_refl _ | assumption | omega, ?_⟩)
              refine wp_br (fun hi => ?_) (fun hi => ?_)
              · repeat (refine ⟨by first | exact Enc.is_F _ _ _ | exact Nat.le_refl _ | assumption | omega, ?_⟩)
                refine take (pickW_yes hd ?_)
                unfold M.better
                rw [he, hf, hg', hh', hi]; rfl
              · repeat (refine ⟨by first | exact Enc.is_F _ _ _ | exact Nat.le_refl _ | assumption | omega, ?_⟩)
                refine keep (pickW_no hd ?_)
                unfold M.better
                rw [he, hf, hg', hh', hi]; rfl
            · have hh' : (ps.length == b.length) = false := by have : ¬ (ps.length : Int) = b.length := by simpa using hh
                                                               have : ¬ ps.length = b.length := by omega
                                                               simpa using this
              repeat (refine ⟨by first | exact Enc.is_F _ _ _ | exact Nat.le_refl _ | assumption | omega, ?_⟩)
              refine keep (pickW_no hd ?_)
              unfold M.better
              rw [he, hf, hg', hh']; rfl
          · repeat (refine ⟨by first | exact Enc.is_F _ _ _ | exact Nat.le_refl _ | assumption | omega, ?_⟩)
            refine keep (pickW_no hd ?_)
            unfold M.better
            rw [he, hf]; rfl
    · obtain rfl : c = K := by have := ge_of_dec hb; omega
      refine wp_br (fun he => absurd (of_decide_eq_true he) (by show ¬ m < 0; omega)) (fun he => ?_)
      repeat (refine ⟨by first | exact Enc.is_F _ _ _ | exact Nat.le_refl _ | assumption | omega, ?_⟩)
      show rsEqv [.c (.sl true b.length 1 (eI.F b)), rI m, rI 0] _
      rw [hR, hB]
      exact ⟨sl_eqv, rsEqv_refl _⟩
def dom33 : DomF
  | [.c (.sl _ n_l st_l F_l), .agg [.int .i64 sv, .int .i64 l0, .int .i64 h0, .int .i64 l1, .int .i64 h1, .int .i64 l2, .int .i64 h2, .int .i64 l3, .int .i64 h3]] => (match Nat.beq st_l 7 with
    | true => some ([eC.Is n_l F_l, (M.checkCasks (eC.list n_l F_l)).2 = 0, M.checkSample (⟨sv, ⟨l0, h0⟩, ⟨l1, h1⟩, ⟨l2, h2⟩, ⟨l3, h3⟩⟩ : Sample) = 0], resBW (M.bestRW (eC.list n_l F_l) (⟨sv, ⟨l0, h0⟩, ⟨l1, h1⟩, ⟨l2, h2⟩, ⟨l3, h3⟩⟩ : Sample)))
    | _ => none)
  | _ => none
def v33 : Nat × Sm := (33, fokSm dom33)
theorem C33 : FOK Try.prog G0 gw 33 dom33 := by
  intro ags p r hd hp κ w xs hw hl hG hx
  unfold dom33 at hd
  split at hd
  · rename_i q_l n_l st_l F_l sv l0 h0 l1 h1 l2 h2 l3 h3
    split at hd
    · rename_i hst
      have g1 := hst
      have g1 := Nat.eq_of_beq_eq_true g1
      subst g1
      simp only [Option.some.injEq, Prod.mk.injEq] at hd
      obtain ⟨rfl, rfl⟩ := hd
      obtain ⟨hI_l, hp⟩ := hp
      have heq : agsEqv [.c (.sl q_l n_l 7 F_l), .agg [.int .i64 sv, .int .i64 l0, .int .i64 h0, .int .i64 l1, .int .i64 h1, .int .i64 l2, .int .i64 h2, .int .i64 l3, .int .i64 h3]] [.c (.sl q_l (eC.list n_l F_l).length 7 (eC.F (eC.list n_l F_l))), .agg [.int .i64 sv, .int .i64 l0, .int .i64 h0, .int .i64 l1, .int .i64 h1, .int .i64 l2, .int .i64 h2, .int .i64 l3, .int .i64 h3]] := ⟨eC.to id hI_l, Ag.eqv_refl _, trivial⟩
      have len_l : (eC.list n_l F_l).length = n_l := eC.list_len
      generalize eC.list n_l F_l = l at *
      subst len_l
      exact fokX_fin mixed gw_stable (sl := [v45z, v93z]) ⟨S45z, S93z, trivial⟩ Try.func33 hw hl hG hx heq rfl (t33 q_l l sv l0 h0 l1 h1 l2 h2 l3 h3) (w33 l _ hp.1 hp.2.1)
    · cases hd
  · cases hd
theorem S33 : SumOK Try.prog G0 gw 33 (fokSm dom33) := fok_sum Try.func33 rfl C33
end Go.Bl
end

section
set_option linter.unusedVariables false
set_option linter.unusedSimpArgs false
set_option maxRecDepth 100000
namespace Go.Bl
open Go.V Go.Proofs
namespace M
def best30 (l : List Cask) (s : Sample) : List Int × Int × Int := cond (first [(checkCasks l).2, checkSample s] != 0) ([], 0, first [(checkCasks l).2, checkSample s]) (bestRW l s)
end M
theorem bestUpW_len {l : List Cask} (h : RightT l) (s : Sample) : ∀ c b m, M.bestUpW l s c = some (b, m) → b.length ≤ 10
  | 0, b, m, e => by cases e
  | c + 1, b, m, e => by
    have h10 := h.n10
    have hb := bits_len c l.length
    rw [bestUpW_succ] at e
    unfold M.pickW at e
    cases hd : (M.wholeR l s (M.bitsL c l.length)).2 != 0
    · rw [hd] at e
      cases hu : M.bestUpW l s c with
      | none =>
        rw [hu] at e
        have e : some (M.bitsL c l.length, (M.wholeR l s (M.bitsL c l.length)).1) = some (b, m) := e
        simp only [Option.some.injEq, Prod.mk.injEq] at e
        rw [← e.1]; omega
      | some x =>
        obtain ⟨b', m'⟩ := x
        rw [hu] at e
        have e : cond (M.better (M.wholeR l s (M.bitsL c l.length)).1 (M.bitsL c l.length) m' b') (some (M.bitsL c l.length, (M.wholeR l s (M.bitsL c l.length)).1)) (some (b', m')) = some (b, m) := e
        cases hbt : M.better (M.wholeR l s (M.bitsL c l.length)).1 (M.bitsL c l.length) m' b'
        · rw [hbt] at e
          have e : some (b', m') = some (b, m) := e
          exact bestUpW_len h s c b m (hu.trans e)
        · rw [hbt] at e
          have e : some (M.bitsL c l.length, (M.wholeR l s (M.bitsL c l.length)).1) = some (b, m) := e
          simp only [Option.some.injEq, Prod.mk.injEq] at e
          rw [← e.1]; omega
    · rw [hd] at e
      exact bestUpW_len h s c b m e
theorem bestRW_len {l : List Cask} (h : RightT l) (s : Sample) : (M.bestRW l s).1.length ≤ 1000000 := by
  unfold M.bestRW
  cases hu : M.bestUpW l s (2 ^ l.length) with
  | none => exact Nat.zero_le _
  | some x =>
    obtain ⟨b, m⟩ := x
    have := bestUpW_len h s _ b m hu
    show b.length ≤ 1000000
    omega
def dom30 : DomF
  | [.c (.sl _ n_l st_l F_l), .agg [.int .i64 sv, .int .i64 l0, .int .i64 h0, .int .i64 l1, .int .i64 h1, .int .i64 l2, .int .i64 h2, .int .i64 l3, .int .i64 h3]] => (match Nat.beq st_l 7 with
    | true => some ([eC.Is n_l F_l, ∀ c, c ∈ (eC.list n_l F_l) → c.nm.size ≤ 1000000, (eC.list n_l F_l).length ≤ 100000], resBW (M.best30 (eC.list n_l F_l) (⟨sv, ⟨l0, h0⟩, ⟨l1, h1⟩, ⟨l2, h2⟩, ⟨l3, h3⟩⟩ : Sample)))
    | _ => none)
  | _ => none
def v30 : Nat × Sm := (30, fokSm dom30)
end Go.Bl
end
