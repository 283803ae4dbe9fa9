/- The parts of the engines, of their contracts and of the plain laws that the claim rests on: B22, B24, B25, B26, B27, B28, B29, B30, B31, B32, B33, B34, B35, B36, B37, B38, B39, B40, P5, L1, L2, L3, L4, L5, L6, L7, B41, B42. -/
import Derived.Test.YtaigoebipeplpaaFA4
set_option linter.unusedVariables false
set_option linter.unusedSimpArgs false
section
set_option linter.unusedVariables false
set_option linter.unusedSimpArgs false
set_option maxRecDepth 100000
namespace Go.Bl
open Go.V Go.Proofs
namespace M
def rgErr (r : Rg) : Int := first [unl (within r.lo 0 1000 && within r.hi 0 1000) 2, unl (decide (r.lo ≤ r.hi)) 9]
def checkSample (s : Sample) : Int := cond (within s.vol 1 10000) (first [rgErr s.r0, rgErr s.r1, rgErr s.r2, rgErr s.r3]) 2
def wholeErr (l : List Cask) : Int := (checkCasks l).2
def casksErr (l : List Cask) : Int := first [(checkCasks l).2, unl (decide ((l.length : Int) ≤ 4)) 8]
def taskErr (l : List Cask) (s : Sample) : Int := first [casksErr l, checkSample s]
def volumes (l : List Cask) : Int := (List.range l.length).foldl (fun a i => IntKind.i64.wrap (a + (l.getD i dfC).vol)) 0
def mx (a b : Int) : Int := if b > a then b else a
def awayK (V n : Int) (r : Rg) (a : Int) : Int := mx (mx a (IntKind.i64.wrap (IntKind.i64.wrap (r.lo * V) - n))) (IntKind.i64.wrap (n - IntKind.i64.wrap (r.hi * V)))
def away (l : List Cask) (ps : List Int) (s : Sample) : Int :=
  awayK (sumP (fun _ => 1) l ps) (sumP (kOf 3) l ps) s.r3 (awayK (sumP (fun _ => 1) l ps) (sumP (kOf 2) l ps) s.r2 (awayK (sumP (fun _ => 1) l ps) (sumP (kOf 1) l ps) s.r1 (awayK (sumP (fun _ => 1) l ps) (sumP (kOf 0) l ps) s.r0 0)))
end M
theorem first_cons (x : Int) (l : List Int) : M.first (x :: l) = if x = 0 then M.first l else x := by
  by_cases h : x = 0
  · rw [if_pos h, h]; rfl
  · rw [if_neg h]
    have : (x != 0) = true := bne_iff_ne.2 h
    simp only [M.first, this, cond_true]
/-- One range's test. -/
def pieceB {α : Type} (lo hi : Int) (bad : Int → α) (rest : T α) : T α :=
  .br (M.within lo 0 1000) (.need (M.within lo 0 1000 = true) (.br (M.first [M.unl (M.within hi 0 1000) 2, M.unl (decide (lo ≤ hi)) 9] != 0) (.ret (bad (M.first [M.unl (M.within hi 0 1000) 2, M.unl (decide (lo ≤ hi)) 9]))) rest))
    (.need (M.within lo 0 1000 = false) (.br (M.first [2, M.unl (decide (lo ≤ hi)) 9] != 0) (.ret (bad (M.first [2, M.unl (decide (lo ≤ hi)) 9]))) rest))
def pieceR {α : Type} (lo hi : Int) (bad : Int → α) (rest : T α) : T α :=
  .br (!M.within lo 0 1000) (.ret (bad 2)) (.br (!M.within hi 0 1000) (.ret (bad 2)) (.br (decide (lo > hi)) (.ret (bad 9)) rest))
theorem pieceB_wp {α : Type} {lo hi : Int} {bad : Int → α} {rest : T α} {Q : α → Prop} (h1 : M.rgErr ⟨lo, hi⟩ ≠ 0 → Q (bad (M.rgErr ⟨lo, hi⟩))) (h2 : M.rgErr ⟨lo, hi⟩ = 0 → rest.wp Q) : (pieceB lo hi bad rest).wp Q := by
  have fin : ∀ e : Int, M.rgErr ⟨lo, hi⟩ = e → (T.br (e != 0) (.ret (bad e)) rest : T α).wp Q := by
    intro e he
    refine wp_br (fun h => ?_) (fun h => ?_)
    · rw [← he] at h ⊢; exact h1 (bne_iff_ne.1 h)
    · rw [← he] at h; exact h2 (by simpa using h)
  refine wp_br (fun h => ⟨h, fin _ ?_⟩) (fun h => ⟨h, fin _ ?_⟩)
  · unfold M.rgErr; rw [h]; rfl
  · unfold M.rgErr; rw [h]; rfl
theorem pieceR_wp {α : Type} {lo hi : Int} {bad : Int → α} {rest : T α} {Q : α → Prop} (h1 : M.rgErr ⟨lo, hi⟩ ≠ 0 → Q (bad (M.rgErr ⟨lo, hi⟩))) (h2 : M.rgErr ⟨lo, hi⟩ = 0 → rest.wp Q) : (pieceR lo hi bad rest).wp Q := by
  have fin : ∀ e : Int, M.rgErr ⟨lo, hi⟩ = e → e ≠ 0 → Q (bad e) := fun e he hn => by subst he; exact h1 hn
  refine wp_br (fun a => ?_) (fun a => wp_br (fun b => ?_) (fun b => wp_br (fun c => ?_) (fun c => ?_)))
  · have a : M.within lo 0 1000 = false := by simpa using a
    exact fin 2 (by unfold M.rgErr; rw [a]; rfl) (by decide)
  · have a : M.within lo 0 1000 = true := by simpa using a
    have b : M.within hi 0 1000 = false := by simpa using b
    exact fin 2 (by unfold M.rgErr; rw [a, b]; rfl) (by decide)
  · have a : M.within lo 0 1000 = true := by simpa using a
    have b : M.within hi 0 1000 = true := by simpa using b
    have c : decide (lo ≤ hi) = false := decide_eq_false (by have := of_decide_eq_true c; omega)
    exact fin 9 (by unfold M.rgErr; rw [a, b, c]; rfl) (by decide)
  · have a : M.within lo 0 1000 = true := by simpa using a
    have b : M.within hi 0 1000 = true := by simpa using b
    have c : decide (lo ≤ hi) = true := decide_eq_true (by have := of_decide_eq_false c; omega)
    exact h2 (by unfold M.rgErr; rw [a, b, c]; rfl)
def tr49 (sv l0 h0 l1 h1 l2 h2 l3 h3 : Int) : T (List Ar) :=
  .br (!M.within sv 1 10000) (.ret [rI 2]) (pieceB l0 h0 (fun e => [rI e]) (pieceB l1 h1 (fun e => [rI e]) (pieceB l2 h2 (fun e => [rI e]) (pieceB l3 h3 (fun e => [rI e]) (.ret [rI 0])))))
theorem t49 (sv l0 h0 l1 h1 l2 h2 l3 h3 : Int) : runFnX Try.prog G0 (lookS [v64, v80, v95, v102]) (fun _ => [(1000013, [], none), (3000012, [], none), (3000035, [], none)]) [] 1 40 3 49 Try.f49 [.agg [dI sv, dI l0, dI h0, dI l1, dI h1, dI l2, dI h2, dI l3, dI h3]] =
    tr49 sv l0 h0 l1 h1 l2 h2 l3 h3 := by kernel_rfl
theorem w49 (sv l0 h0 l1 h1 l2 h2 l3 h3 : Int) : (tr49 sv l0 h0 l1 h1 l2 h2 l3 h3).wp (fun rs => rsEqv rs [rI (M.checkSample ⟨sv, ⟨l0, h0⟩, ⟨l1, h1⟩, ⟨l2, h2⟩, ⟨l3, h3⟩⟩)]) := by
  have fin : ∀ e : Int, M.checkSample ⟨sv, ⟨l0, h0⟩, ⟨l1, h1⟩, ⟨l2, h2⟩, ⟨l3, h3⟩⟩ = e → rsEqv [rI e] [rI (M.checkSample ⟨sv, ⟨l0, h0⟩, ⟨l1, h1⟩, ⟨l2, h2⟩, ⟨l3, h3⟩⟩)] := fun e he => by rw [he]; exact rsEqv_refl _
  refine wp_br (fun a => ?_) (fun a => ?_)
  · have a : M.within sv 1 10000 = false := by simpa using a
    exact fin 2 (by unfold M.checkSample; rw [a]; rfl)
  · have a : M.within sv 1 10000 = true := by simpa using a
    refine pieceB_wp (fun h => fin _ ?_) (fun b0 => pieceB_wp (fun h => fin _ ?_) (fun b1 => pieceB_wp (fun h => fin _ ?_) (fun b2 => pieceB_wp (fun h => fin _ ?_) (fun b3 => fin _ ?_))))
    all_goals (unfold M.checkSample; simp only [a, cond_true, first_cons])
    · rw [if_neg h]
    · rw [b0, if_pos rfl, if_neg h]
    · rw [b0, b1, if_pos rfl, if_pos rfl, if_neg h]
    · rw [b0, b1, b2, if_pos rfl, if_pos rfl, if_pos rfl, if_neg h]
    · rw [b0, b1, b2, b3, if_pos rfl, if_pos rfl, if_pos rfl, if_pos rfl]; rfl
def dom49 : DomF
  | [.agg [.int .i64 sv, .int .i64 l0, .int .i64 h0, .int .i64 l1, .int .i64 h1, .int .i64 l2, .int .i64 h2, .int .i64 l3, .int .i64 h3]] => some ([], [rI (M.checkSample ⟨sv, ⟨l0, h0⟩, ⟨l1, h1⟩, ⟨l2, h2⟩, ⟨l3, h3⟩⟩)])
  | _ => none
def v49 : Nat × Sm := (49, fokSm dom49)
theorem C49 : FOK Try.prog G0 gw 49 dom49 := by
  intro ags p r hd hp κ w xs hw hl hG hx
  unfold dom49 at hd
  split at hd
  · rename_i sv l0 h0 l1 h1 l2 h2 l3 h3
    simp only [Option.some.injEq, Prod.mk.injEq] at hd
    obtain ⟨rfl, rfl⟩ := hd
    have heq : agsEqv [.agg [.int .i64 sv, .int .i64 l0, .int .i64 h0, .int .i64 l1, .int .i64 h1, .int .i64 l2, .int .i64 h2, .int .i64 l3, .int .i64 h3]] [.agg [.int .i64 sv, .int .i64 l0, .int .i64 h0, .int .i64 l1, .int .i64 h1, .int .i64 l2, .int .i64 h2, .int .i64 l3, .int .i64 h3]] := ⟨Ag.eqv_refl _, trivial⟩
    exact fokX_fin mixed gw_stable (sl := [v64, v80, v95, v102]) ⟨S64, S80, S95, S102, trivial⟩ Try.func49 hw hl hG hx heq rfl (t49 sv l0 h0 l1 h1 l2 h2 l3 h3) (w49 sv l0 h0 l1 h1 l2 h2 l3 h3)
  · cases hd
theorem S49 : SumOK Try.prog G0 gw 49 (fokSm dom49) := fok_sum Try.func49 rfl C49
def tr32 (sv l0 h0 l1 h1 l2 h2 l3 h3 : Int) : T (List Ar) :=
  .br (!M.within sv 1 10000) (.ret [rI 2]) (pieceR l0 h0 (fun e => [rI e]) (pieceR l1 h1 (fun e => [rI e]) (pieceR l2 h2 (fun e => [rI e]) (pieceR l3 h3 (fun e => [rI e]) (.ret [rI 0])))))
theorem t32 (sv l0 h0 l1 h1 l2 h2 l3 h3 : Int) : runFnX Try.prog G0 (lookS [v35]) (fun _ => [(1000010, [], none), (3000012, [], none)]) [] 1 40 3 32 Try.f32 [.agg [dI sv, dI l0, dI h0, dI l1, dI h1, dI l2, dI h2, dI l3, dI h3]] =
    tr32 sv l0 h0 l1 h1 l2 h2 l3 h3 := by kernel_rfl
theorem w32 (sv l0 h0 l1 h1 l2 h2 l3 h3 : Int) : (tr32 sv l0 h0 l1 h1 l2 h2 l3 h3).wp (fun rs => rsEqv rs [rI (M.checkSample ⟨sv, ⟨l0, h0⟩, ⟨l1, h1⟩, ⟨l2, h2⟩, ⟨l3, h3⟩⟩)]) := by
  have fin : ∀ e : Int, M.checkSample ⟨sv, ⟨l0, h0⟩, ⟨l1, h1⟩, ⟨l2, h2⟩, ⟨l3, h3⟩⟩ = e → rsEqv [rI e] [rI (M.checkSample ⟨sv, ⟨l0, h0⟩, ⟨l1, h1⟩, ⟨l2, h2⟩, ⟨l3, h3⟩⟩)] := fun e he => by rw [he]; exact rsEqv_refl _
  refine wp_br (fun a => ?_) (fun a => ?_)
  · have a : M.within sv 1 10000 = false := by simpa using a
    exact fin 2 (by unfold M.checkSample; rw [a]; rfl)
  · have a : M.within sv 1 10000 = true := by simpa using a
    refine pieceR_wp (fun h => fin _ ?_) (fun b0 => pieceR_wp (fun h => fin _ ?_) (fun b1 => pieceR_wp (fun h => fin _ ?_) (fun b2 => pieceR_wp (fun h => fin _ ?_) (fun b3 => fin _ ?_))))
    all_goals (unfold M.checkSample; simp only [a, cond_true, first_cons])
    · rw [if_neg h]
    · rw [b0, if_pos rfl, if_neg h]
    · rw [b0, b1, if_pos rfl, if_pos rfl, if_neg h]
    · rw [b0, b1, b2, if_pos rfl, if_pos rfl, if_pos rfl, if_neg h]
    · rw [b0, b1, b2, b3, if_pos rfl, if_pos rfl, if_pos rfl, if_pos rfl]; rfl
def dom32 : DomF
  | [.agg [.int .i64 sv, .int .i64 l0, .int .i64 h0, .int .i64 l1, .int .i64 h1, .int .i64 l2, .int .i64 h2, .int .i64 l3, .int .i64 h3]] => some ([], [rI (M.checkSample ⟨sv, ⟨l0, h0⟩, ⟨l1, h1⟩, ⟨l2, h2⟩, ⟨l3, h3⟩⟩)])
  | _ => none
def v32 : Nat × Sm := (32, fokSm dom32)
theorem C32 : FOK Try.prog G0 gw 32 dom32 := by
  intro ags p r hd hp κ w xs hw hl hG hx
  unfold dom32 at hd
  split at hd
  · rename_i sv l0 h0 l1 h1 l2 h2 l3 h3
    simp only [Option.some.injEq, Prod.mk.injEq] at hd
    obtain ⟨rfl, rfl⟩ := hd
    have heq : agsEqv [.agg [.int .i64 sv, .int .i64 l0, .int .i64 h0, .int .i64 l1, .int .i64 h1, .int .i64 l2, .int .i64 h2, .int .i64 l3, .int .i64 h3]] [.agg [.int .i64 sv, .int .i64 l0, .int .i64 h0, .int .i64 l1, .int .i64 h1, .int .i64 l2, .int .i64 h2, .int .i64 l3, .int .i64 h3]] := ⟨Ag.eqv_refl _, trivial⟩
    exact fokX_fin mixed gw_stable (sl := [v35]) ⟨S35, trivial⟩ Try.func32 hw hl hG hx heq rfl (t32 sv l0 h0 l1 h1 l2 h2 l3 h3) (w32 sv l0 h0 l1 h1 l2 h2 l3 h3)
  · cases hd
theorem S32 : SumOK Try.prog G0 gw 32 (fokSm dom32) := fok_sum Try.func32 rfl C32
theorem t65 (q_l : Bool) (l : List Cask) : runFnX Try.prog G0 (lookS [v64, v80, v47]) (fun _ => []) [] 1 40 3 65 Try.f65 [.c (.sl q_l l.length 7 (eC.F l))] =
    T.need (eC.Is l.length (eC.F l)) (T.need (∀ c, c ∈ eC.list l.length (eC.F l) → c.nm.size ≤ 1000000) (T.ret [rI (M.first [(M.checkCasks (eC.list l.length (eC.F l))).2, M.unl (decide ((l.length : Int) ≤ 4)) 8])])) := by kernel_rfl
def dom65 : DomF
  | [.c (.sl _ n_l st_l F_l)] => (match Nat.beq st_l 7 with
    | true => some ([eC.Is n_l F_l, ∀ c, c ∈ (eC.list n_l F_l) → c.nm.size ≤ 1000000], [rI (M.casksErr (eC.list n_l F_l))])
    | _ => none)
  | _ => none
def v65 : Nat × Sm := (65, fokSm dom65)
theorem C65 : FOK Try.prog G0 gw 65 dom65 := by
  intro ags p r hd hp κ w xs hw hl hG hx
  unfold dom65 at hd
  split at hd
  · rename_i q_l n_l st_l F_l
    split at hd
    · rename_i hst
      have g1 := hst
      have g1 := Nat.eq_of_beq_eq_true g1
      subst g1
      simp only [Option.some.injEq, Prod.mk.injEq] at hd
      obtain ⟨rfl, rfl⟩ := hd
      obtain ⟨hI_l, hp⟩ := hp
      have heq : agsEqv [.c (.sl q_l n_l 7 F_l)] [.c (.sl q_l (eC.list n_l F_l).length 7 (eC.F (eC.list n_l F_l)))] := ⟨eC.to id hI_l, trivial⟩
      have len_l : (eC.list n_l F_l).length = n_l := eC.list_len
      generalize eC.list n_l F_l = l at *
      subst len_l
      exact fokX_fin mixed gw_stable (sl := [v64, v80, v47]) ⟨S64, S80, S47, trivial⟩ Try.func65 hw hl hG hx heq rfl (t65 q_l l) ((by rw [Enc.list_F]; exact ⟨Enc.is_F _ _ _, hp.1, rsEqv_refl _⟩))
    · cases hd
  · cases hd
theorem S65 : SumOK Try.prog G0 gw 65 (fokSm dom65) := fok_sum Try.func65 rfl C65
theorem t31 (q_l : Bool) (l : List Cask) : runFnX Try.prog G0 (lookS [v48]) (fun _ => []) [] 1 40 3 31 Try.f31 [.c (.sl q_l l.length 7 (eC.F l))] =
    T.need (eC.Is l.length (eC.F l)) (T.need (∀ c, c ∈ eC.list l.length (eC.F l) → c.nm.size ≤ 1000000) (T.ret [rI (M.checkCasks (eC.list l.length (eC.F l))).2])) := by kernel_rfl
def dom31 : DomF
  | [.c (.sl _ n_l st_l F_l)] => (match Nat.beq st_l 7 with
    | true => some ([eC.Is n_l F_l, ∀ c, c ∈ (eC.list n_l F_l) → c.nm.size ≤ 1000000], [rI (M.wholeErr (eC.list n_l F_l))])
    | _ => none)
  | _ => none
def v31 : Nat × Sm := (31, fokSm dom31)
theorem C31 : FOK Try.prog G0 gw 31 dom31 := by
  intro ags p r hd hp κ w xs hw hl hG hx
  unfold dom31 at hd
  split at hd
  · rename_i q_l n_l st_l F_l
    split at hd
    · rename_i hst
      have g1 := hst
      have g1 := Nat.eq_of_beq_eq_true g1
      subst g1
      simp only [Option.some.injEq, Prod.mk.injEq] at hd
      obtain ⟨rfl, rfl⟩ := hd
      obtain ⟨hI_l, hp⟩ := hp
      have heq : agsEqv [.c (.sl q_l n_l 7 F_l)] [.c (.sl q_l (eC.list n_l F_l).length 7 (eC.F (eC.list n_l F_l)))] := ⟨eC.to id hI_l, trivial⟩
      have len_l : (eC.list n_l F_l).length = n_l := eC.list_len
      generalize eC.list n_l F_l = l at *
      subst len_l
      exact fokX_fin mixed gw_stable (sl := [v48]) ⟨S48, trivial⟩ Try.func31 hw hl hG hx heq rfl (t31 q_l l) ((by rw [Enc.list_F]; exact ⟨Enc.is_F _ _ _, hp.1, rsEqv_refl _⟩))
    · cases hd
  · cases hd
theorem S31 : SumOK Try.prog G0 gw 31 (fokSm dom31) := fok_sum Try.func31 rfl C31
theorem t81 (q_l : Bool) (l : List Cask) (sv l0 h0 l1 h1 l2 h2 l3 h3 : Int) : runFnX Try.prog G0 (lookS []) (fun _ => [(3, [.slot 10 (.int .i64), .slot 5 (.int .i64)], none)]) [] 1 40 3 81 Try.f81 [.c (.sl q_l l.length 7 (eC.F l)), .agg [dI sv, dI l0, dI h0, dI l1, dI h1, dI l2, dI h2, dI l3, dI h3]] =
    T.loop (Int × Int × PUnit) (0, 0, PUnit.unit) fun x => T.br (decide (x.1 < (l.length : Int))) (T.need (0 ≤ x.1) (T.need (x.1 < (l.length : Int)) (T.ret (.inl (IntKind.i64.wrap (x.1 + 1), IntKind.i64.wrap (x.2.1 + (l.getD x.1.toNat dfC).vol), PUnit.unit))))) (T.ret (.inr [rB (decide (x.2.1 ≥ sv))])) := by kernel_rfl
theorem w81 (l : List Cask) (sv : Int) (hl : l.length ≤ 1000000) : (T.loop (Int × Int × PUnit) (0, 0, PUnit.unit) fun x => T.br (decide (x.1 < (l.length : Int))) (T.need (0 ≤ x.1) (T.need (x.1 < (l.length : Int)) (T.ret (.inl (IntKind.i64.wrap (x.1 + 1), IntKind.i64.wrap (x.2.1 + (l.getD x.1.toNat dfC).vol), PUnit.unit))))) (T.ret (.inr [rB (decide (x.2.1 ≥ sv))])) : T (List Ar)).wp (fun rs => rsEqv rs [rB (decide (M.volumes l ≥ sv))]) := by
  refine range_wp (n := l.length) (fun k s => s.1 = (List.range k).foldl (fun a i => IntKind.i64.wrap (a + (l.getD i dfC).vol)) 0) rfl ?_
  rintro k ⟨a, u⟩ hk hI
  simp only at hI
  refine ⟨fun hb => ?_, fun hb => ?_⟩
  · have hlt := lt_of_dec hb
    refine ⟨by show (0 : Int) ≤ k; omega, by show (k : Int) < l.length; omega, hlt, wrap_succ (by omega), ?_⟩
    rw [foldl_succ, ← hI]
    rfl
  · have hge := ge_of_dec hb
    obtain rfl : k = l.length := by omega
    have e : a = M.volumes l := hI
    subst e
    exact rsEqv_refl _
def dom81 : DomF
  | [.c (.sl _ n_l st_l F_l), .agg [.int .i64 sv, .int .i64 l0, .int .i64 h0, .int .i64 l1, .int .i64 h1, .int .i64 l2, .int .i64 h2, .int .i64 l3, .int .i64 h3]] => (match Nat.beq st_l 7 with
    | true => some ([eC.Is n_l F_l, (eC.list n_l F_l).length ≤ 1000000], [rB (decide (M.volumes (eC.list n_l F_l) ≥ sv))])
    | _ => none)
  | _ => none
def v81 : Nat × Sm := (81, fokSm dom81)
theorem C81 : FOK Try.prog G0 gw 81 dom81 := by
  intro ags p r hd hp κ w xs hw hl hG hx
  unfold dom81 at hd
  split at hd
  · rename_i q_l n_l st_l F_l sv l0 h0 l1 h1 l2 h2 l3 h3
    split at hd
    · rename_i hst
      have g1 := hst
      have g1 := Nat.eq_of_beq_eq_true g1
      subst g1
      simp only [Option.some.injEq, Prod.mk.injEq] at hd
      obtain ⟨rfl, rfl⟩ := hd
      obtain ⟨hI_l, hp⟩ := hp
      have heq : agsEqv [.c (.sl q_l n_l 7 F_l), .agg [.int .i64 sv, .int .i64 l0, .int .i64 h0, .int .i64 l1, .int .i64 h1, .int .i64 l2, .int .i64 h2, .int .i64 l3, .int .i64 h3]] [.c (.sl q_l (eC.list n_l F_l).length 7 (eC.F (eC.list n_l F_l))), .agg [.int .i64 sv, .int .i64 l0, .int .i64 h0, .int .i64 l1, .int .i64 h1, .int .i64 l2, .int .i64 h2, .int .i64 l3, .int .i64 h3]] := ⟨eC.to id hI_l, Ag.eqv_refl _, trivial⟩
      have len_l : (eC.list n_l F_l).length = n_l := eC.list_len
      generalize eC.list n_l F_l = l at *
      subst len_l
      exact fokX_fin mixed gw_stable (sl := []) trivial Try.func81 hw hl hG hx heq rfl (t81 q_l l sv l0 h0 l1 h1 l2 h2 l3 h3) (w81 l sv hp.1)
    · cases hd
  · cases hd
theorem S81 : SumOK Try.prog G0 gw 81 (fokSm dom81) := fok_sum Try.func81 rfl C81
theorem t84 (q_l : Bool) (l : List Cask) (den : Int) (q_ps : Bool) (ps : List Int) (sv l0 h0 l1 h1 l2 h2 l3 h3 : Int) : runFnX Try.prog G0 (lookS [v85, v97]) (fun _ => [(1000015, [], none), (3000014, [], none), (3000035, [], none), (3000019, [], none)]) [] 1 40 3 84 Try.f84 [.agg [.sl q_l l.length 7 (eC.F l), dI den, .sl q_ps ps.length 1 (eI.F ps)], .agg [dI sv, dI l0, dI h0, dI l1, dI h1, dI l2, dI h2, dI l3, dI h3]] =
    T.need (eC.Is l.length (eC.F l)) (T.need (eI.Is ps.length (eI.F ps)) (T.need (ps.length ≤ l.length) (T.need (ps.length ≤ 1000) (T.need (eC.Is l.length (eC.F l)) (T.need (eI.Is ps.length (eI.F ps)) (T.need (ps.length ≤ l.length) (T.need (ps.length ≤ 1000) (T.need (eC.Is l.length (eC.F l)) (T.need (eI.Is ps.length (eI.F ps)) (T.need (ps.length ≤ l.length) (T.need (ps.length ≤ 1000) (T.need (eC.Is l.length (eC.F l)) (T.need (eI.Is ps.length (eI.F ps)) (T.need (ps.length ≤ l.length) (T.need (ps.length ≤ 1000) (T.need (eC.Is l.length (eC.F l)) (T.need (eI.Is ps.length (eI.F ps)) (T.need (ps.length ≤ l.length) (T.need (ps.length ≤ 1000) (T.ret [rI (M.away (eC.list l.length (eC.F l)) (eI.list ps.length (eI.F ps)) ⟨sv, ⟨l0, h0⟩, ⟨l1, h1⟩, ⟨l2, h2⟩, ⟨l3, h3⟩⟩)])))))))))))))))))))) := by kernel_rfl
def dom84 : DomF
  | [.agg [.sl _ n_l st_l F_l, .int .i64 den, .sl _ n_ps st_ps F_ps], .agg [.int .i64 sv, .int .i64 l0, .int .i64 h0, .int .i64 l1, .int .i64 h1, .int .i64 l2, .int .i64 h2, .int .i64 l3, .int .i64 h3]] => (match Nat.beq st_l 7 && Nat.beq st_ps 1 with
    | true => some ([eC.Is n_l F_l, eI.Is n_ps F_ps, (eI.list n_ps F_ps).length ≤ (eC.list n_l F_l).length, (eI.list n_ps F_ps).length ≤ 1000], [rI (M.away (eC.list n_l F_l) (eI.list n_ps F_ps) ⟨sv, ⟨l0, h0⟩, ⟨l1, h1⟩, ⟨l2, h2⟩, ⟨l3, h3⟩⟩)])
    | _ => none)
  | _ => none
def v84 : Nat × Sm := (84, fokSm dom84)
theorem C84 : FOK Try.prog G0 gw 84 dom84 := by
  intro ags p r hd hp κ w xs hw hl hG hx
  unfold dom84 at hd
  split at hd
  · rename_i q_l n_l st_l F_l den q_ps n_ps st_ps F_ps sv l0 h0 l1 h1 l2 h2 l3 h3
    split at hd
    · rename_i hst
      simp only [Bool.and_eq_true] at hst
      obtain ⟨g1, g2⟩ := hst
      have g1 := Nat.eq_of_beq_eq_true g1
      have g2 := Nat.eq_of_beq_eq_true g2
      subst g1 g2
      simp only [Option.some.injEq, Prod.mk.injEq] at hd
      obtain ⟨rfl, rfl⟩ := hd
      obtain ⟨hI_l, hI_ps, hp⟩ := hp
      have heq : agsEqv [.agg [.sl q_l n_l 7 F_l, .int .i64 den, .sl q_ps n_ps 1 F_ps], .agg [.int .i64 sv, .int .i64 l0, .int .i64 h0, .int .i64 l1, .int .i64 h1, .int .i64 l2, .int .i64 h2, .int .i64 l3, .int .i64 h3]] [.agg [.sl q_l (eC.list n_l F_l).length 7 (eC.F (eC.list n_l F_l)), .int .i64 den, .sl q_ps (eI.list n_ps F_ps).length 1 (eI.F (eI.list n_ps F_ps))], .agg [.int .i64 sv, .int .i64 l0, .int .i64 h0, .int .i64 l1, .int .i64 h1, .int .i64 l2, .int .i64 h2, .int .i64 l3, .int .i64 h3]] := ⟨⟨eC.to id hI_l, rfl, eI.to id hI_ps, trivial⟩, Ag.eqv_refl _, trivial⟩
      have len_l : (eC.list n_l F_l).length = n_l := eC.list_len
      have len_ps : (eI.list n_ps F_ps).length = n_ps := eI.list_len
      generalize eC.list n_l F_l = l at *
      generalize eI.list n_ps F_ps = ps at *
      subst len_l len_ps
      have c1 := Enc.is_F eC l l.length
      have c2 := Enc.is_F eI ps ps.length
      obtain ⟨c3, c4, _⟩ := hp
      exact fokX_fin mixed gw_stable (sl := [v85, v97]) ⟨S85, S97, trivial⟩ Try.func84 hw hl hG hx heq rfl (t84 q_l l den q_ps ps sv l0 h0 l1 h1 l2 h2 l3 h3) ((by rw [Enc.list_F, Enc.list_F]; exact ⟨c1, c2, c3, c4, c1, c2, c3, c4, c1, c2, c3, c4, c1, c2, c3, c4, c1, c2, c3, c4, rsEqv_refl _⟩))
    · cases hd
  · cases hd
theorem S84 : SumOK Try.prog G0 gw 84 (fokSm dom84) := fok_sum Try.func84 rfl C84
end Go.Bl
end

section
set_option linter.unusedVariables false
set_option linter.unusedSimpArgs false
set_option maxRecDepth 100000
namespace Go.Bl
open Go.V Go.Proofs
structure BestR where
  c0 : Int
  c1 : Int
  den : Int
  pt : List Int
  w : Wts
  e : Int
namespace M
def zeroW : Wts := ⟨0, 0, 0, 0, 0, 0, 0, 0, 0, 0, []⟩
def pBest (l : List Cask) (s : Sample) : Option Corner := psolve (shares l 0) s.vol (costs l) (limits l s 0)
def wtsOf (x : Corner) (n : Nat) : Wts := weights x.wd x.each x.tight x.by_ n
def bestC (l : List Cask) (x : Corner) : BestR := ⟨told1 (sumP Cask.cost l x.pt) x.den, told2 (sumP Cask.cost l x.pt) x.den, x.den, x.pt, wtsOf x l.length, 0⟩
def best (l : List Cask) (s : Sample) : BestR :=
  cond (taskErr l s != 0) ⟨0, 0, 0, [], zeroW, taskErr l s⟩ (match pBest l s with | some x => bestC l x | none => ⟨0, 0, 0, [], zeroW, 12⟩)
end M
def resB (b : BestR) : List Ar := [.agg [dI b.c0, dI b.c1, dI b.den, dL b.pt, dI b.w.den, dI b.w.each, dI b.w.x0, dI b.w.x1, dI b.w.x2, dI b.w.x3, dI b.w.y0, dI b.w.y1, dI b.w.y2, dI b.w.y3, dL b.w.casks], rI b.e]
/-- What a corner must be like for the functions behind it. -/
def CornerOK (l : List Cask) (n : Nat) (x : M.Corner) : Prop :=
  x.pt.length ≤ n ∧ x.den ≠ 0 ∧ i64ok x.den ∧ x.tight.length ≤ x.by_.length ∧ x.tight.length ≤ 1000 ∧ WhichOK l.length x.tight
def BestOK (l : List Cask) (s : Sample) : Prop := M.taskErr l s = 0 → 1 ≤ l.length ∧ l.length ≤ 4 ∧ (∀ c, c ∈ M.limits l s 0 → c.coefs.length = (M.shares l 0).length) ∧ TurnOK (M.shares l 0) (M.limits l s 0) ∧
  ∀ x, M.pBest l s = some x → CornerOK l l.length x ∧ i64ok (M.sumP Cask.cost l x.pt)
theorem shares_len (l : List Cask) (k : Nat) : (M.shares l k).length = l.length + k := by simp [M.shares]
theorem costs_len (l : List Cask) : (M.costs l).length = l.length := by simp [M.costs]
theorem far_len (l : List Cask) : (M.far l).length = l.length + 1 := by simp [M.far]
theorem limits_len (l : List Cask) (s : Sample) (k : Nat) : (M.limits l s k).length = 2 * l.length + k + 8 := by
  simp only [M.limits, List.length_append, List.length_map, List.length_range]
  have : ((List.range 4).flatMap fun (k' : Nat) => [(⟨2, k', M.by_ l (l.length + k) fun c => IntKind.i64.wrap (M.val c k' - (M.rg s k').hi), 0⟩ : Cond), ⟨3, k', M.by_ l (l.length + k) fun c => IntKind.i64.wrap ((M.rg s k').lo - M.val c k'), 0⟩]).length = 8 := rfl
  rw [this]; omega
def P20 (LL : List Cask) (SS : Sample) : Option M.Corner := (M.psolve (Enc.list eI (List.length (M.shares LL (0 : Nat))) (Enc.F eI (M.shares LL (0 : Nat)))) (Sample.vol SS) (Enc.list eI (List.length (M.costs LL)) (Enc.F eI (M.costs LL))) (Enc.list eK (List.length (M.limits LL SS (0 : Nat))) (Enc.F eK (M.limits LL SS (0 : Nat)))))
def tr20 (l : List Cask) (s : Sample) : T (List Ar) :=
    T.need (Enc.Is eC (List.length l) (Enc.F eC l)) (T.need (∀ (c : Cask), c ∈ (Enc.list eC (List.length l) (Enc.F eC l)) → ByteArray.size (Cask.nm c) ≤ (1000000 : Nat)) (T.br (M.first [M.casksErr (Enc.list eC (List.length l) (Enc.F eC l)), M.checkSample s] != (0 : Int)) (T.ret [Ar.agg [D.int IntKind.i64 (0 : Int), D.int IntKind.i64 (0 : Int), D.int IntKind.i64 (0 : Int), D.sl false (0 : Nat) (0 : Nat) fun (x x_1 : Nat) => D.nilp, D.int IntKind.i64 (0 : Int), D.int IntKind.i64 (0 : Int), D.int IntKind.i64 (0 : Int), D.int IntKind.i64 (0 : Int), D.int IntKind.i64 (0 : Int), D.int IntKind.i64 (0 : Int), D.int IntKind.i64 (0 : Int), D.int IntKind.i64 (0 : Int), D.int IntKind.i64 (0 : Int), D.int IntKind.i64 (0 : Int), D.sl false (0 : Nat) (0 : Nat) fun (x x_1 : Nat) => D.nilp], Ar.c (D.int IntKind.i64 (M.first [M.casksErr (Enc.list eC (List.length l) (Enc.F eC l)), M.checkSample s]))]) (T.need (Enc.Is eC (List.length l) (Enc.F eC l)) (T.need ((1 : Nat) ≤ List.length l) (T.need (List.length l ≤ (4 : Nat)) (T.need (Enc.Is eI (List.length (M.shares (Enc.list eC (List.length l) (Enc.F eC l)) (0 : Nat))) (Enc.F eI (M.shares (Enc.list eC (List.length l) (Enc.F eC l)) (0 : Nat)))) (T.need (Enc.Is eI (List.length (M.costs (Enc.list eC (List.length l) (Enc.F eC l)))) (Enc.F eI (M.costs (Enc.list eC (List.length l) (Enc.F eC l))))) (T.need (Enc.Is eK (List.length (M.limits (Enc.list eC (List.length l) (Enc.F eC l)) s (0 : Nat))) (Enc.F eK (M.limits (Enc.list eC (List.length l) (Enc.F eC l)) s (0 : Nat)))) (T.need ((1 : Nat) ≤ List.length (M.shares (Enc.list eC (List.length l) (Enc.F eC l)) (0 : Nat))) (T.need (List.length (M.shares (Enc.list eC (List.length l) (Enc.F eC l)) (0 : Nat)) ≤ (5 : Nat)) (T.need (List.length (M.shares (Enc.list eC (List.length l) (Enc.F eC l)) (0 : Nat)) = List.length (M.costs (Enc.list eC (List.length l) (Enc.F eC l)))) (T.need (List.length (M.limits (Enc.list eC (List.length l) (Enc.F eC l)) s (0 : Nat)) ≤ (1000 : Nat)) (T.need (∀ (c : Cond), c ∈ Enc.list eK (List.length (M.limits (Enc.list eC (List.length l) (Enc.F eC l)) s (0 : Nat))) (Enc.F eK (M.limits (Enc.list eC (List.length l) (Enc.F eC l)) s (0 : Nat))) → List.length (Cond.coefs c) = List.length (M.shares (Enc.list eC (List.length l) (Enc.F eC l)) (0 : Nat))) (T.need (∀ (set : List Cond), List.length set + (1 : Nat) = List.length (Enc.list eI (List.length (M.shares (Enc.list eC (List.length l) (Enc.F eC l)) (0 : Nat))) (Enc.F eI (M.shares (Enc.list eC (List.length l) (Enc.F eC l)) (0 : Nat)))) → (∀ (c : Cond), c ∈ set → c ∈ Enc.list eK (List.length (M.limits (Enc.list eC (List.length l) (Enc.F eC l)) s (0 : Nat))) (Enc.F eK (M.limits (Enc.list eC (List.length l) (Enc.F eC l)) s (0 : Nat)))) → M.det (M.mat (Enc.list eI (List.length (M.shares (Enc.list eC (List.length l) (Enc.F eC l)) (0 : Nat))) (Enc.F eI (M.shares (Enc.list eC (List.length l) (Enc.F eC l)) (0 : Nat)))) set) ≠ (0 : Int) → M.det (M.turned (M.mat (Enc.list eI (List.length (M.shares (Enc.list eC (List.length l) (Enc.F eC l)) (0 : Nat))) (Enc.F eI (M.shares (Enc.list eC (List.length l) (Enc.F eC l)) (0 : Nat)))) set)) ≠ (0 : Int)) (T.br (!Option.isSome (P20 (Enc.list eC (List.length l) (Enc.F eC l)) s)) (T.ret [Ar.agg [D.int IntKind.i64 (0 : Int), D.int IntKind.i64 (0 : Int), D.int IntKind.i64 (0 : Int), D.sl false (0 : Nat) (0 : Nat) fun (x x_1 : Nat) => D.nilp, D.int IntKind.i64 (0 : Int), D.int IntKind.i64 (0 : Int), D.int IntKind.i64 (0 : Int), D.int IntKind.i64 (0 : Int), D.int IntKind.i64 (0 : Int), D.int IntKind.i64 (0 : Int), D.int IntKind.i64 (0 : Int), D.int IntKind.i64 (0 : Int), D.int IntKind.i64 (0 : Int), D.int IntKind.i64 (0 : Int), D.sl false (0 : Nat) (0 : Nat) fun (x x_1 : Nat) => D.nilp], Ar.c (D.int IntKind.i64 (12 : Int))]) (T.need (Enc.Is eC (List.length l) (Enc.F eC l)) (T.need (Enc.Is eI (List.length (M.Corner.pt (cOf (P20 (Enc.list eC (List.length l) (Enc.F eC l)) s)))) (Enc.F eI (M.Corner.pt (cOf (P20 (Enc.list eC (List.length l) (Enc.F eC l)) s))))) (T.need (List.length (M.Corner.pt (cOf (P20 (Enc.list eC (List.length l) (Enc.F eC l)) s))) ≤ List.length l) (T.need (List.length (M.Corner.pt (cOf (P20 (Enc.list eC (List.length l) (Enc.F eC l)) s))) ≤ (1000 : Nat)) (T.need (M.Corner.den (cOf (P20 (Enc.list eC (List.length l) (Enc.F eC l)) s)) ≠ (0 : Int)) (T.need (Int.natAbs (M.Corner.den (cOf (P20 (Enc.list eC (List.length l) (Enc.F eC l)) s))) < (9223372036854775808 : Nat)) (T.need (Int.natAbs (M.sumP Cask.cost (Enc.list eC (List.length l) (Enc.F eC l)) (Enc.list eI (List.length (M.Corner.pt (cOf (P20 (Enc.list eC (List.length l) (Enc.F eC l)) s)))) (Enc.F eI (M.Corner.pt (cOf (P20 (Enc.list eC (List.length l) (Enc.F eC l)) s)))))) < (9223372036854775808 : Nat)) (T.need (Enc.Is eK (List.length (M.Corner.tight (cOf (P20 (Enc.list eC (List.length l) (Enc.F eC l)) s)))) (Enc.F eK (M.Corner.tight (cOf (P20 (Enc.list eC (List.length l) (Enc.F eC l)) s))))) (T.need (Enc.Is eI (List.length (M.Corner.by_ (cOf (P20 (Enc.list eC (List.length l) (Enc.F eC l)) s)))) (Enc.F eI (M.Corner.by_ (cOf (P20 (Enc.list eC (List.length l) (Enc.F eC l)) s))))) (T.need ((0 : Int) ≤ (Nat.cast (R := Int) (List.length l))) (T.need ((Nat.cast (R := Int) (List.length l)) ≤ (1000 : Int)) (T.need (List.length (M.Corner.tight (cOf (P20 (Enc.list eC (List.length l) (Enc.F eC l)) s))) ≤ List.length (M.Corner.by_ (cOf (P20 (Enc.list eC (List.length l) (Enc.F eC l)) s)))) (T.need (List.length (M.Corner.tight (cOf (P20 (Enc.list eC (List.length l) (Enc.F eC l)) s))) ≤ (1000 : Nat)) (T.need (∀ (c : Cond), c ∈ Enc.list eK (List.length (M.Corner.tight (cOf (P20 (Enc.list eC (List.length l) (Enc.F eC l)) s)))) (Enc.F eK (M.Corner.tight (cOf (P20 (Enc.list eC (List.length l) (Enc.F eC l)) s)))) → (0 : Int) ≤ Cond.which c ∧ (Cond.kind c = (1 : Int) → Cond.which c < (Nat.cast (R := Int) (List.length l))) ∧ (Cond.kind c ≠ (1 : Int) → Cond.kind c ≠ (0 : Int) → Cond.which c < (4 : Int))) (T.ret [Ar.agg [D.int IntKind.i64 (M.told1 (M.sumP (fun (self : Cask) => self.3) (Enc.list eC (List.length l) (Enc.F eC l)) (Enc.list eI (List.length (M.Corner.pt (cOf (P20 (Enc.list eC (List.length l) (Enc.F eC l)) s)))) (Enc.F eI (M.Corner.pt (cOf (P20 (Enc.list eC (List.length l) (Enc.F eC l)) s)))))) (M.Corner.den (cOf (P20 (Enc.list eC (List.length l) (Enc.F eC l)) s)))), D.int IntKind.i64 (M.told2 (M.sumP (fun (self : Cask) => self.3) (Enc.list eC (List.length l) (Enc.F eC l)) (Enc.list eI (List.length (M.Corner.pt (cOf (P20 (Enc.list eC (List.length l) (Enc.F eC l)) s)))) (Enc.F eI (M.Corner.pt (cOf (P20 (Enc.list eC (List.length l) (Enc.F eC l)) s)))))) (M.Corner.den (cOf (P20 (Enc.list eC (List.length l) (Enc.F eC l)) s)))), D.int IntKind.i64 (M.Corner.den (cOf (P20 (Enc.list eC (List.length l) (Enc.F eC l)) s))), D.sl false (List.length (M.Corner.pt (cOf (P20 (Enc.list eC (List.length l) (Enc.F eC l)) s)))) (1 : Nat) (Enc.F eI (M.Corner.pt (cOf (P20 (Enc.list eC (List.length l) (Enc.F eC l)) s)))), D.int IntKind.i64 (M.weights (M.Corner.wd (cOf (P20 (Enc.list eC (List.length l) (Enc.F eC l)) s))) (M.Corner.each (cOf (P20 (Enc.list eC (List.length l) (Enc.F eC l)) s))) (Enc.list eK (List.length (M.Corner.tight (cOf (P20 (Enc.list eC (List.length l) (Enc.F eC l)) s)))) (Enc.F eK (M.Corner.tight (cOf (P20 (Enc.list eC (List.length l) (Enc.F eC l)) s))))) (Enc.list eI (List.length (M.Corner.by_ (cOf (P20 (Enc.list eC (List.length l) (Enc.F eC l)) s)))) (Enc.F eI (M.Corner.by_ (cOf (P20 (Enc.list eC (List.length l) (Enc.F eC l)) s))))) (Int.toNat (Nat.cast (R := Int) (List.length l)))).1, D.int IntKind.i64 (M.weights (M.Corner.wd (cOf (P20 (Enc.list eC (List.length l) (Enc.F eC l)) s))) (M.Corner.each (cOf (P20 (Enc.list eC (List.length l) (Enc.F eC l)) s))) (Enc.list eK (List.length (M.Corner.tight (cOf (P20 (Enc.list eC (List.length l) (Enc.F eC l)) s)))) (Enc.F eK (M.Corner.tight (cOf (P20 (Enc.list eC (List.length l) (Enc.F eC l)) s))))) (Enc.list eI (List.length (M.Corner.by_ (cOf (P20 (Enc.list eC (List.length l) (Enc.F eC l)) s)))) (Enc.F eI (M.Corner.by_ (cOf (P20 (Enc.list eC (List.length l) (Enc.F eC l)) s))))) (Int.toNat (Nat.cast (R := Int) (List.length l)))).2, D.int IntKind.i64 (M.weights (M.Corner.wd (cOf (P20 (Enc.list eC (List.length l) (Enc.F eC l)) s))) (M.Corner.each (cOf (P20 (Enc.list eC (List.length l) (Enc.F eC l)) s))) (Enc.list eK (List.length (M.Corner.tight (cOf (P20 (Enc.list eC (List.length l) (Enc.F eC l)) s)))) (Enc.F eK (M.Corner.tight (cOf (P20 (Enc.list eC (List.length l) (Enc.F eC l)) s))))) (Enc.list eI (List.length (M.Corner.by_ (cOf (P20 (Enc.list eC (List.length l) (Enc.F eC l)) s)))) (Enc.F eI (M.Corner.by_ (cOf (P20 (Enc.list eC (List.length l) (Enc.F eC l)) s))))) (Int.toNat (Nat.cast (R := Int) (List.length l)))).3, D.int IntKind.i64 (M.weights (M.Corner.wd (cOf (P20 (Enc.list eC (List.length l) (Enc.F eC l)) s))) (M.Corner.each (cOf (P20 (Enc.list eC (List.length l) (Enc.F eC l)) s))) (Enc.list eK (List.length (M.Corner.tight (cOf (P20 (Enc.list eC (List.length l) (Enc.F eC l)) s)))) (Enc.F eK (M.Corner.tight (cOf (P20 (Enc.list eC (List.length l) (Enc.F eC l)) s))))) (Enc.list eI (List.length (M.Corner.by_ (cOf (P20 (Enc.list eC (List.length l) (Enc.F eC l)) s)))) (Enc.F eI (M.Corner.by_ (cOf (P20 (Enc.list eC (List.length l) (Enc.F eC l)) s))))) (Int.toNat (Nat.cast (R := Int) (List.length l)))).4, D.int IntKind.i64 (M.weights (M.Corner.wd (cOf (P20 (Enc.list eC (List.length l) (Enc.F eC l)) s))) (M.Corner.each (cOf (P20 (Enc.list eC (List.length l) (Enc.F eC l)) s))) (Enc.list eK (List.length (M.Corner.tight (cOf (P20 (Enc.list eC (List.length l) (Enc.F eC l)) s)))) (Enc.F eK (M.Corner.tight (cOf (P20 (Enc.list eC (List.length l) (Enc.F eC l)) s))))) (Enc.list eI (List.length (M.Corner.by_ (cOf (P20 (Enc.list eC (List.length l) (Enc.F eC l)) s)))) (Enc.F eI (M.Corner.by_ (cOf (P20 (Enc.list eC (List.length l) (Enc.F eC l)) s))))) (Int.toNat (Nat.cast (R := Int) (List.length l)))).5, D.int IntKind.i64 (M.weights (M.Corner.wd (cOf (P20 (Enc.list eC (List.length l) (Enc.F eC l)) s))) (M.Corner.each (cOf (P20 (Enc.list eC (List.length l) (Enc.F eC l)) s))) (Enc.list eK (List.length (M.Corner.tight (cOf (P20 (Enc.list eC (List.length l) (Enc.F eC l)) s)))) (Enc.F eK (M.Corner.tight (cOf (P20 (Enc.list eC (List.length l) (Enc.F eC l)) s))))) (Enc.list eI (List.length (M.Corner.by_ (cOf (P20 (Enc.list eC (List.length l) (Enc.F eC l)) s)))) (Enc.F eI (M.Corner.by_ (cOf (P20 (Enc.list eC (List.length l) (Enc.F eC l)) s))))) (Int.toNat (Nat.cast (R := Int) (List.length l)))).6, D.int IntKind.i64 (M.weights (M.Corner.wd (cOf (P20 (Enc.list eC (List.length l) (Enc.F eC l)) s))) (M.Corner.each (cOf (P20 (Enc.list eC (List.length l) (Enc.F eC l)) s))) (Enc.list eK (List.length (M.Corner.tight (cOf (P20 (Enc.list eC (List.length l) (Enc.F eC l)) s)))) (Enc.F eK (M.Corner.tight (cOf (P20 (Enc.list eC (List.length l) (Enc.F eC l)) s))))) (Enc.list eI (List.length (M.Corner.by_ (cOf (P20 (Enc.list eC (List.length l) (Enc.F eC l)) s)))) (Enc.F eI (M.Corner.by_ (cOf (P20 (Enc.list eC (List.length l) (Enc.F eC l)) s))))) (Int.toNat (Nat.cast (R := Int) (List.length l)))).7, D.int IntKind.i64 (M.weights (M.Corner.wd (cOf (P20 (Enc.list eC (List.length l) (Enc.F eC l)) s))) (M.Corner.each (cOf (P20 (Enc.list eC (List.length l) (Enc.F eC l)) s))) (Enc.list eK (List.length (M.Corner.tight (cOf (P20 (Enc.list eC (List.length l) (Enc.F eC l)) s)))) (Enc.F eK (M.Corner.tight (cOf (P20 (Enc.list eC (List.length l) (Enc.F eC l)) s))))) (Enc.list eI (List.length (M.Corner.by_ (cOf (P20 (Enc.list eC (List.length l) (Enc.F eC l)) s)))) (Enc.F eI (M.Corner.by_ (cOf (P20 (Enc.list eC (List.length l) (Enc.F eC l)) s))))) (Int.toNat (Nat.cast (R := Int) (List.length l)))).8, D.int IntKind.i64 (M.weights (M.Corner.wd (cOf (P20 (Enc.list eC (List.length l) (Enc.F eC l)) s))) (M.Corner.each (cOf (P20 (Enc.list eC (List.length l) (Enc.F eC l)) s))) (Enc.list eK (List.length (M.Corner.tight (cOf (P20 (Enc.list eC (List.length l) (Enc.F eC l)) s)))) (Enc.F eK (M.Corner.tight (cOf (P20 (Enc.list eC (List.length l) (Enc.F eC l)) s))))) (Enc.list eI (List.length (M.Corner.by_ (cOf (P20 (Enc.list eC (List.length l) (Enc.F eC l)) s)))) (Enc.F eI (M.Corner.by_ (cOf (P20 (Enc.list eC (List.length l) (Enc.F eC l)) s))))) (Int.toNat (Nat.cast (R := Int) (List.length l)))).9, D.int IntKind.i64 (M.weights (M.Corner.wd (cOf (P20 (Enc.list eC (List.length l) (Enc.F eC l)) s))) (M.Corner.each (cOf (P20 (Enc.list eC (List.length l) (Enc.F eC l)) s))) (Enc.list eK (List.length (M.Corner.tight (cOf (P20 (Enc.list eC (List.length l) (Enc.F eC l)) s)))) (Enc.F eK (M.Corner.tight (cOf (P20 (Enc.list eC (List.length l) (Enc.F eC l)) s))))) (Enc.list eI (List.length (M.Corner.by_ (cOf (P20 (Enc.list eC (List.length l) (Enc.F eC l)) s)))) (Enc.F eI (M.Corner.by_ (cOf (P20 (Enc.list eC (List.length l) (Enc.F eC l)) s))))) (Int.toNat (Nat.cast (R := Int) (List.length l)))).10, D.sl false (List.length (M.weights (M.Corner.wd (cOf (P20 (Enc.list eC (List.length l) (Enc.F eC l)) s))) (M.Corner.each (cOf (P20 (Enc.list eC (List.length l) (Enc.F eC l)) s))) (Enc.list eK (List.length (M.Corner.tight (cOf (P20 (Enc.list eC (List.length l) (Enc.F eC l)) s)))) (Enc.F eK (M.Corner.tight (cOf (P20 (Enc.list eC (List.length l) (Enc.F eC l)) s))))) (Enc.list eI (List.length (M.Corner.by_ (cOf (P20 (Enc.list eC (List.length l) (Enc.F eC l)) s)))) (Enc.F eI (M.Corner.by_ (cOf (P20 (Enc.list eC (List.length l) (Enc.F eC l)) s))))) (Int.toNat (Nat.cast (R := Int) (List.length l)))).11) (1 : Nat) (Enc.F eI (M.weights (M.Corner.wd (cOf (P20 (Enc.list eC (List.length l) (Enc.F eC l)) s))) (M.Corner.each (cOf (P20 (Enc.list eC (List.length l) (Enc.F eC l)) s))) (Enc.list eK (List.length (M.Corner.tight (cOf (P20 (Enc.list eC (List.length l) (Enc.F eC l)) s)))) (Enc.F eK (M.Corner.tight (cOf (P20 (Enc.list eC (List.length l) (Enc.F eC l)) s))))) (Enc.list eI (List.length (M.Corner.by_ (cOf (P20 (Enc.list eC (List.length l) (Enc.F eC l)) s)))) (Enc.F eI (M.Corner.by_ (cOf (P20 (Enc.list eC (List.length l) (Enc.F eC l)) s))))) (Int.toNat (Nat.cast (R := Int) (List.length l)))).11)], Ar.c (D.int IntKind.i64 (0 : Int))]))))))))))))))))))))))))))))))
theorem t20 (q_l : Bool) (l : List Cask) (sv l0 h0 l1 h1 l2 h2 l3 h3 : Int) : runFnX Try.prog G0 (lookS [v65, v49, v64, v66, v67, v68, v69]) (fun _ => []) [] 1 40 3 20 Try.f20 [.c (.sl q_l l.length 7 (eC.F l)), .agg [dI sv, dI l0, dI h0, dI l1, dI h1, dI l2, dI h2, dI l3, dI h3]] =
    tr20 l (⟨sv, ⟨l0, h0⟩, ⟨l1, h1⟩, ⟨l2, h2⟩, ⟨l3, h3⟩⟩ : Sample) := by kernel_rfl
theorem w20 (l : List Cask) (s : Sample) (hn : ∀ c, c ∈ l → c.nm.size ≤ 1000000) (h : BestOK l s) : (tr20 l s).wp (fun rs => rsEqv rs (resB (M.best l s))) := by
  have hP : P20 l s = M.pBest l s := by unfold P20 M.pBest; simp only [Enc.list_F]
  have z0 : (nilD).eqv (dL []) := ⟨(fun e => by cases e), rfl, (fun h => absurd h (Nat.lt_irrefl 0)), fun i j hi => absurd hi (Nat.not_lt_zero i)⟩
  unfold tr20
  simp only [Enc.list_F, hP]
  refine ⟨Enc.is_F _ _ _, hn, wp_br (fun hb => ?_) (fun hb => ?_)⟩
  · have : M.best l s = ⟨0, 0, 0, [], M.zeroW, M.taskErr l s⟩ := by
      unfold M.best; rw [show (M.taskErr l s != 0) = true from hb]; rfl
    rw [this]
    exact ⟨⟨rfl, rfl, rfl, z0, rfl, rfl, rfl, rfl, rfl, rfl, rfl, rfl, rfl, rfl, z0, trivial⟩, rfl, trivial⟩
  · have hb' : (M.taskErr l s != 0) = false := hb
    have he : M.taskErr l s = 0 := by simpa using hb'
    obtain ⟨h1, h4, hco, htd, hx⟩ := h he
    have hbest : M.best l s = (match M.pBest l s with | some x => M.bestC l x | none => ⟨0, 0, 0, [], M.zeroW, 12⟩) := by
      unfold M.best; rw [hb']; rfl
    rw [hbest]
    refine ⟨Enc.is_F _ _ _, h1, h4, Enc.is_F _ _ _, Enc.is_F _ _ _, Enc.is_F _ _ _, by rw [shares_len]; omega, by rw [shares_len]; omega, by rw [shares_len, costs_len]; omega, by rw [limits_len]; omega, hco, htd, ?_⟩
    cases hp : M.pBest l s with
    | none =>
      refine ⟨fun _ => ?_, (fun h => (by cases h))⟩
      exact ⟨⟨rfl, rfl, rfl, z0, rfl, rfl, rfl, rfl, rfl, rfl, rfl, rfl, rfl, rfl, z0, trivial⟩, rfl, trivial⟩
    | some x =>
      obtain ⟨⟨c1, c2, c3, c4, c5, c6⟩, c7⟩ := hx x hp
      refine ⟨(fun h => (by cases h)), fun _ => ?_⟩
      refine ⟨Enc.is_F _ _ _, Enc.is_F _ _ _, c1, Nat.le_trans c1 (by omega), c2, c3, c7, Enc.is_F _ _ _, Enc.is_F _ _ _, by omega, by omega, c4, c5, c6, ?_⟩
      exact ⟨⟨rfl, rfl, rfl, D.eqv_refl _, rfl, rfl, rfl, rfl, rfl, rfl, rfl, rfl, rfl, rfl, D.eqv_refl _, trivial⟩, rfl, trivial⟩
def dom20 : DomF
  | [.c (.sl _ n_l st_l F_l), .agg [.int .i64 sv, .int .i64 l0, .int .i64 h0, .int .i64 l1, .int .i64 h1, .int .i64 l2, .int .i64 h2, .int .i64 l3, .int .i64 h3]] => (match Nat.beq st_l 7 with
    | true => some ([eC.Is n_l F_l, ∀ c, c ∈ (eC.list n_l F_l) → c.nm.size ≤ 1000000, BestOK (eC.list n_l F_l) ⟨sv, ⟨l0, h0⟩, ⟨l1, h1⟩, ⟨l2, h2⟩, ⟨l3, h3⟩⟩], resB (M.best (eC.list n_l F_l) ⟨sv, ⟨l0, h0⟩, ⟨l1, h1⟩, ⟨l2, h2⟩, ⟨l3, h3⟩⟩))
    | _ => none)
  | _ => none
def v20 : Nat × Sm := (20, fokSm dom20)
theorem C20 : FOK Try.prog G0 gw 20 dom20 := by
  intro ags p r hd hp κ w xs hw hl hG hx
  unfold dom20 at hd
  split at hd
  · rename_i q_l n_l st_l F_l sv l0 h0 l1 h1 l2 h2 l3 h3
    split at hd
    · rename_i hst
      have g1 := hst
      have g1 := Nat.eq_of_beq_eq_true g1
      subst g1
      simp only [Option.some.injEq, Prod.mk.injEq] at hd
      obtain ⟨rfl, rfl⟩ := hd
      obtain ⟨hI_l, hp⟩ := hp
      have heq : agsEqv [.c (.sl q_l n_l 7 F_l), .agg [.int .i64 sv, .int .i64 l0, .int .i64 h0, .int .i64 l1, .int .i64 h1, .int .i64 l2, .int .i64 h2, .int .i64 l3, .int .i64 h3]] [.c (.sl q_l (eC.list n_l F_l).length 7 (eC.F (eC.list n_l F_l))), .agg [.int .i64 sv, .int .i64 l0, .int .i64 h0, .int .i64 l1, .int .i64 h1, .int .i64 l2, .int .i64 h2, .int .i64 l3, .int .i64 h3]] := ⟨eC.to id hI_l, Ag.eqv_refl _, trivial⟩
      have len_l : (eC.list n_l F_l).length = n_l := eC.list_len
      generalize eC.list n_l F_l = l at *
      subst len_l
      exact fokX_fin mixed gw_stable (sl := [v65, v49, v64, v66, v67, v68, v69]) ⟨S65, S49, S64, S66, S67, S68, S69, trivial⟩ Try.func20 hw hl hG hx heq rfl (t20 q_l l sv l0 h0 l1 h1 l2 h2 l3 h3) (w20 l _ hp.1 hp.2.1)
    · cases hd
  · cases hd
theorem S20 : SumOK Try.prog G0 gw 20 (fokSm dom20) := fok_sum Try.func20 rfl C20
end Go.Bl
end

section
set_option linter.unusedVariables false
set_option linter.unusedSimpArgs false
set_option maxRecDepth 100000
namespace Go.Bl
open Go.V Go.Proofs
structure NearR where
  den : Int
  pt : List Int
  d0 : Int
  d1 : Int
  e : Int
namespace M
def nearErr (l : List Cask) (s : Sample) : Int := first [casksErr l, checkSample s, unl (decide (volumes l ≥ s.vol)) 24]
def pNear (l : List Cask) (s : Sample) : Corner := cOf (psolve (shares l 1) s.vol (far l) (limits l s 1))
def nearC (l : List Cask) (s : Sample) (x : Corner) : NearR := ⟨x.den, x.pt.take l.length, told1 (away l (x.pt.take l.length) s) (sumP (fun _ => 1) l (x.pt.take l.length)), told2 (away l (x.pt.take l.length) s) (sumP (fun _ => 1) l (x.pt.take l.length)), 0⟩
def near (l : List Cask) (s : Sample) : NearR := cond (nearErr l s != 0) ⟨0, [], 0, 0, nearErr l s⟩ (nearC l s (pNear l s))
end M
def resN (b : NearR) : List Ar := [.agg [dI b.den, dL b.pt], .agg [dI b.d0, dI b.d1], rI b.e]
def NearOK (l : List Cask) (s : Sample) : Prop := M.nearErr l s = 0 → 1 ≤ l.length ∧ l.length ≤ 4 ∧ (∀ c, c ∈ M.limits l s 1 → c.coefs.length = (M.shares l 1).length) ∧ TurnOK (M.shares l 1) (M.limits l s 1) ∧
  l.length ≤ (M.pNear l s).pt.length ∧ M.sumP (fun _ => 1) l ((M.pNear l s).pt.take l.length) ≠ 0 ∧ i64ok (M.away l ((M.pNear l s).pt.take l.length) s) ∧ i64ok (M.sumP (fun _ => 1) l ((M.pNear l s).pt.take l.length))
theorem list_take {l : List Int} {n : Nat} (h : n ≤ l.length) : eI.list n (eI.F l) = l.take n := by
  apply List.ext_getElem
  · simp [Enc.list]; omega
  · intro i h1 h2
    simp only [Enc.list, List.getElem_map, List.getElem_range, Enc.F, List.getElem_take]
    show l.getD i 0 = _
    simp [List.length_take] at h2
    simp [(by omega : i < l.length)]
theorem take_eqv {l : List Int} {n : Nat} (h : n ≤ l.length) : (D.sl false n 1 (eI.F l)).eqv (dL (l.take n)) := by
  refine ⟨(fun e => by cases e), by simp [h], fun _ => rfl, fun i j hi hj => ?_⟩
  obtain rfl : j = 0 := Nat.lt_one_iff.1 hj
  show (dI (l.getD i 0)).eqv (dI ((l.take n).getD i 0))
  have : (l.take n).getD i 0 = l.getD i 0 := by
    simp only [List.getD_eq_getElem?_getD, List.getElem?_take, if_pos hi]
  rw [this]
  exact D.eqv_refl _
def P26 (LL : List Cask) (SS : Sample) : Option M.Corner := (M.psolve (Enc.list eI (List.length (M.shares LL (1 : Nat))) (Enc.F eI (M.shares LL (1 : Nat)))) (Sample.vol SS) (Enc.list eI (List.length (M.far LL)) (Enc.F eI (M.far LL))) (Enc.list eK (List.length (M.limits LL SS (1 : Nat))) (Enc.F eK (M.limits LL SS (1 : Nat)))))
def tr26 (l : List Cask) (s : Sample) : T (List Ar) :=
    T.need (Enc.Is eC (List.length l) (Enc.F eC l)) (T.need (∀ (c : Cask), c ∈ (Enc.list eC (List.length l) (Enc.F eC l)) → ByteArray.size (Cask.nm c) ≤ (1000000 : Nat)) (T.need (Enc.Is eC (List.length l) (Enc.F eC l)) (T.need (List.length (Enc.list eC (List.length l) (Enc.F eC l)) ≤ (1000000 : Nat)) (T.br (M.first [M.casksErr (Enc.list eC (List.length l) (Enc.F eC l)), M.checkSample s, M.unl (decide (M.volumes (Enc.list eC (List.length l) (Enc.F eC l)) ≥ s.vol)) (24 : Int)] != (0 : Int)) (T.ret [Ar.agg [D.int IntKind.i64 (0 : Int), D.sl false (0 : Nat) (0 : Nat) fun (x x_1 : Nat) => D.nilp], Ar.agg [D.int IntKind.i64 (0 : Int), D.int IntKind.i64 (0 : Int)], Ar.c (D.int IntKind.i64 (M.first [M.casksErr (Enc.list eC (List.length l) (Enc.F eC l)), M.checkSample s, M.unl (decide (M.volumes (Enc.list eC (List.length l) (Enc.F eC l)) ≥ s.vol)) (24 : Int)]))]) (T.need (Enc.Is eC (List.length l) (Enc.F eC l)) (T.need ((1 : Nat) ≤ List.length l) (T.need (List.length l ≤ (4 : Nat)) (T.need (Enc.Is eI (List.length (M.shares (Enc.list eC (List.length l) (Enc.F eC l)) (1 : Nat))) (Enc.F eI (M.shares (Enc.list eC (List.length l) (Enc.F eC l)) (1 : Nat)))) (T.need (Enc.Is eI (List.length (M.far (Enc.list eC (List.length l) (Enc.F eC l)))) (Enc.F eI (M.far (Enc.list eC (List.length l) (Enc.F eC l))))) (T.need (Enc.Is eK (List.length (M.limits (Enc.list eC (List.length l) (Enc.F eC l)) s (1 : Nat))) (Enc.F eK (M.limits (Enc.list eC (List.length l) (Enc.F eC l)) s (1 : Nat)))) (T.need ((1 : Nat) ≤ List.length (M.shares (Enc.list eC (List.length l) (Enc.F eC l)) (1 : Nat))) (T.need (List.length (M.shares (Enc.list eC (List.length l) (Enc.F eC l)) (1 : Nat)) ≤ (5 : Nat)) (T.need (List.length (M.shares (Enc.list eC (List.length l) (Enc.F eC l)) (1 : Nat)) = List.length (M.far (Enc.list eC (List.length l) (Enc.F eC l)))) (T.need (List.length (M.limits (Enc.list eC (List.length l) (Enc.F eC l)) s (1 : Nat)) ≤ (1000 : Nat)) (T.need (∀ (c : Cond), c ∈ Enc.list eK (List.length (M.limits (Enc.list eC (List.length l) (Enc.F eC l)) s (1 : Nat))) (Enc.F eK (M.limits (Enc.list eC (List.length l) (Enc.F eC l)) s (1 : Nat))) → List.length (Cond.coefs c) = List.length (M.shares (Enc.list eC (List.length l) (Enc.F eC l)) (1 : Nat))) (T.need (∀ (set : List Cond), List.length set + (1 : Nat) = List.length (Enc.list eI (List.length (M.shares (Enc.list eC (List.length l) (Enc.F eC l)) (1 : Nat))) (Enc.F eI (M.shares (Enc.list eC (List.length l) (Enc.F eC l)) (1 : Nat)))) → (∀ (c : Cond), c ∈ set → c ∈ Enc.list eK (List.length (M.limits (Enc.list eC (List.length l) (Enc.F eC l)) s (1 : Nat))) (Enc.F eK (M.limits (Enc.list eC (List.length l) (Enc.F eC l)) s (1 : Nat)))) → M.det (M.mat (Enc.list eI (List.length (M.shares (Enc.list eC (List.length l) (Enc.F eC l)) (1 : Nat))) (Enc.F eI (M.shares (Enc.list eC (List.length l) (Enc.F eC l)) (1 : Nat)))) set) ≠ (0 : Int) → M.det (M.turned (M.mat (Enc.list eI (List.length (M.shares (Enc.list eC (List.length l) (Enc.F eC l)) (1 : Nat))) (Enc.F eI (M.shares (Enc.list eC (List.length l) (Enc.F eC l)) (1 : Nat)))) set)) ≠ (0 : Int)) (T.need ((0 : Int) ≤ (Nat.cast (R := Int) (List.length l))) (T.need ((Nat.cast (R := Int) (List.length l)) = (Nat.cast (R := Int) (List.length l))) (T.need ((Nat.cast (R := Int) (List.length l)) ≤ (Nat.cast (R := Int) (List.length (M.Corner.pt (cOf (P26 (Enc.list eC (List.length l) (Enc.F eC l)) s)))))) (T.need (Enc.Is eC (List.length l) (Enc.F eC l)) (T.need (Enc.Is eI (Int.toNat (Nat.cast (R := Int) (List.length l))) (Enc.F eI (M.Corner.pt (cOf (P26 (Enc.list eC (List.length l) (Enc.F eC l)) s))))) (T.need (List.length (Enc.list eI (Int.toNat (Nat.cast (R := Int) (List.length l))) (Enc.F eI (M.Corner.pt (cOf (P26 (Enc.list eC (List.length l) (Enc.F eC l)) s))))) ≤ List.length (Enc.list eC (List.length l) (Enc.F eC l))) (T.need (List.length (Enc.list eI (Int.toNat (Nat.cast (R := Int) (List.length l))) (Enc.F eI (M.Corner.pt (cOf (P26 (Enc.list eC (List.length l) (Enc.F eC l)) s))))) ≤ (1000 : Nat)) (T.need (Enc.Is eC (List.length l) (Enc.F eC l)) (T.need (Enc.Is eI (Int.toNat (Nat.cast (R := Int) (List.length l))) (Enc.F eI (M.Corner.pt (cOf (P26 (Enc.list eC (List.length l) (Enc.F eC l)) s))))) (T.need (Int.toNat (Nat.cast (R := Int) (List.length l)) ≤ List.length l) (T.need (Int.toNat (Nat.cast (R := Int) (List.length l)) ≤ (1000 : Nat)) (T.need (M.sumP (fun (x : Cask) => (1 : Int)) (Enc.list eC (List.length l) (Enc.F eC l)) (Enc.list eI (Int.toNat (Nat.cast (R := Int) (List.length l))) (Enc.F eI (M.Corner.pt (cOf (P26 (Enc.list eC (List.length l) (Enc.F eC l)) s))))) ≠ (0 : Int)) (T.need (Int.natAbs (M.away (Enc.list eC (List.length l) (Enc.F eC l)) (Enc.list eI (Int.toNat (Nat.cast (R := Int) (List.length l))) (Enc.F eI (M.Corner.pt (cOf (P26 (Enc.list eC (List.length l) (Enc.F eC l)) s))))) s) < (9223372036854775808 : Nat)) (T.need (Int.natAbs (M.sumP (fun (x : Cask) => (1 : Int)) (Enc.list eC (List.length l) (Enc.F eC l)) (Enc.list eI (Int.toNat (Nat.cast (R := Int) (List.length l))) (Enc.F eI (M.Corner.pt (cOf (P26 (Enc.list eC (List.length l) (Enc.F eC l)) s)))))) < (9223372036854775808 : Nat)) (T.ret [Ar.agg [D.int IntKind.i64 (M.Corner.den (cOf (P26 (Enc.list eC (List.length l) (Enc.F eC l)) s))), D.sl false (Int.toNat (Nat.cast (R := Int) (List.length l))) (1 : Nat) (Enc.F eI (M.Corner.pt (cOf (P26 (Enc.list eC (List.length l) (Enc.F eC l)) s))))], Ar.agg [D.int IntKind.i64 (M.told1 (M.away (Enc.list eC (List.length l) (Enc.F eC l)) (Enc.list eI (Int.toNat (Nat.cast (R := Int) (List.length l))) (Enc.F eI (M.Corner.pt (cOf (P26 (Enc.list eC (List.length l) (Enc.F eC l)) s))))) s) (M.sumP (fun (x : Cask) => (1 : Int)) (Enc.list eC (List.length l) (Enc.F eC l)) (Enc.list eI (Int.toNat (Nat.cast (R := Int) (List.length l))) (Enc.F eI (M.Corner.pt (cOf (P26 (Enc.list eC (List.length l) (Enc.F eC l)) s))))))), D.int IntKind.i64 (M.told2 (M.away (Enc.list eC (List.length l) (Enc.F eC l)) (Enc.list eI (Int.toNat (Nat.cast (R := Int) (List.length l))) (Enc.F eI (M.Corner.pt (cOf (P26 (Enc.list eC (List.length l) (Enc.F eC l)) s))))) s) (M.sumP (fun (x : Cask) => (1 : Int)) (Enc.list eC (List.length l) (Enc.F eC l)) (Enc.list eI (Int.toNat (Nat.cast (R := Int) (List.length l))) (Enc.F eI (M.Corner.pt (cOf (P26 (Enc.list eC (List.length l) (Enc.F eC l)) s)))))))], Ar.c (D.int IntKind.i64 (0 : Int))])))))))))))))))))))))))))))))))
theorem t26 (q_l : Bool) (l : List Cask) (sv l0 h0 l1 h1 l2 h2 l3 h3 : Int) : runFnX Try.prog G0 (lookS [v65, v49, v64, v80, v81, v82, v67, v83, v84, v85]) (fun _ => []) [] 1 40 3 26 Try.f26 [.c (.sl q_l l.length 7 (eC.F l)), .agg [dI sv, dI l0, dI h0, dI l1, dI h1, dI l2, dI h2, dI l3, dI h3]] =
    tr26 l (⟨sv, ⟨l0, h0⟩, ⟨l1, h1⟩, ⟨l2, h2⟩, ⟨l3, h3⟩⟩ : Sample) := by kernel_rfl
theorem w26 (l : List Cask) (s : Sample) (hn : ∀ c, c ∈ l → c.nm.size ≤ 1000000) (hl : l.length ≤ 1000000) (h : NearOK l s) : (tr26 l s).wp (fun rs => rsEqv rs (resN (M.near l s))) := by
  have hP : cOf (P26 l s) = M.pNear l s := by unfold P26 M.pNear; simp only [Enc.list_F]
  have z0 : (nilD).eqv (dL []) := ⟨(fun e => by cases e), rfl, (fun h => absurd h (Nat.lt_irrefl 0)), fun i j hi => absurd hi (Nat.not_lt_zero i)⟩
  unfold tr26
  simp only [Enc.list_F, hP]
  refine ⟨Enc.is_F _ _ _, hn, Enc.is_F _ _ _, hl, wp_br (fun hb => ?_) (fun hb => ?_)⟩
  · have : M.near l s = ⟨0, [], 0, 0, M.nearErr l s⟩ := by
      unfold M.near; rw [show (M.nearErr l s != 0) = true from hb]; rfl
    rw [this]
    exact ⟨⟨rfl, z0, trivial⟩, ⟨rfl, rfl, trivial⟩, rfl, trivial⟩
  · have hb' : (M.nearErr l s != 0) = false := hb
    have he : M.nearErr l s = 0 := by simpa using hb'
    obtain ⟨h1, h4, hco, htd, hx, c1, c2, c3⟩ := h he
    have hnear : M.near l s = M.nearC l s (M.pNear l s) := by
      unfold M.near; rw [hb']; rfl
    rw [hnear]
    have hnn : Int.toNat (l.length : Int) = l.length := Int.toNat_natCast _
    have htake := list_take hx
    have hlen : ((M.pNear l s).pt.take l.length).length = l.length := by simp [hx]
    simp only [hnn, htake, hlen]
    refine ⟨Enc.is_F _ _ _, h1, h4, Enc.is_F _ _ _, Enc.is_F _ _ _, Enc.is_F _ _ _, by rw [shares_len]; omega, by rw [shares_len]; omega, by rw [shares_len, far_len], by rw [limits_len]; omega, hco, htd, by omega, trivial, by omega, Enc.is_F _ _ _, Enc.is_F _ _ _, Nat.le_refl _, by omega, Enc.is_F _ _ _, Enc.is_F _ _ _, Nat.le_refl _, by omega, c1, c2, c3, ?_⟩
    exact ⟨⟨rfl, take_eqv hx, trivial⟩, ⟨rfl, rfl, trivial⟩, rfl, trivial⟩
def dom26 : DomF
  | [.c (.sl _ n_l st_l F_l), .agg [.int .i64 sv, .int .i64 l0, .int .i64 h0, .int .i64 l1, .int .i64 h1, .int .i64 l2, .int .i64 h2, .int .i64 l3, .int .i64 h3]] => (match Nat.beq st_l 7 with
    | true => some ([eC.Is n_l F_l, ∀ c, c ∈ (eC.list n_l F_l) → c.nm.size ≤ 1000000, (eC.list n_l F_l).length ≤ 1000000, NearOK (eC.list n_l F_l) ⟨sv, ⟨l0, h0⟩, ⟨l1, h1⟩, ⟨l2, h2⟩, ⟨l3, h3⟩⟩], resN (M.near (eC.list n_l F_l) ⟨sv, ⟨l0, h0⟩, ⟨l1, h1⟩, ⟨l2, h2⟩, ⟨l3, h3⟩⟩))
    | _ => none)
  | _ => none
def v26 : Nat × Sm := (26, fokSm dom26)
theorem C26 : FOK Try.prog G0 gw 26 dom26 := by
  intro ags p r hd hp κ w xs hw hl hG hx
  unfold dom26 at hd
  split at hd
  · rename_i q_l n_l st_l F_l sv l0 h0 l1 h1 l2 h2 l3 h3
    split at hd
    · rename_i hst
      have g1 := hst
      have g1 := Nat.eq_of_beq_eq_true g1
      subst g1
      simp only [Option.some.injEq, Prod.mk.injEq] at hd
      obtain ⟨rfl, rfl⟩ := hd
      obtain ⟨hI_l, hp⟩ := hp
      have heq : agsEqv [.c (.sl q_l n_l 7 F_l), .agg [.int .i64 sv, .int .i64 l0, .int .i64 h0, .int .i64 l1, .int .i64 h1, .int .i64 l2, .int .i64 h2, .int .i64 l3, .int .i64 h3]] [.c (.sl q_l (eC.list n_l F_l).length 7 (eC.F (eC.list n_l F_l))), .agg [.int .i64 sv, .int .i64 l0, .int .i64 h0, .int .i64 l1, .int .i64 h1, .int .i64 l2, .int .i64 h2, .int .i64 l3, .int .i64 h3]] := ⟨eC.to id hI_l, Ag.eqv_refl _, trivial⟩
      have len_l : (eC.list n_l F_l).length = n_l := eC.list_len
      generalize eC.list n_l F_l = l at *
      subst len_l
      exact fokX_fin mixed gw_stable (sl := [v65, v49, v64, v80, v81, v82, v67, v83, v84, v85]) ⟨S65, S49, S64, S80, S81, S82, S67, S83, S84, S85, trivial⟩ Try.func26 hw hl hG hx heq rfl (t26 q_l l sv l0 h0 l1 h1 l2 h2 l3 h3) (w26 l _ hp.1 hp.2.1 hp.2.2.1)
    · cases hd
  · cases hd
theorem S26 : SumOK Try.prog G0 gw 26 (fokSm dom26) := fok_sum Try.func26 rfl C26
end Go.Bl
end

section
set_option linter.unusedVariables false
set_option linter.unusedSimpArgs false
namespace Go.Bl
open Go.V Go.Proofs
/-- The casks of the examples. -/
def exC : List Cask := [⟨⟨#[100, 114, 121]⟩, 100, 10, 0, 0, 0, 0⟩, ⟨⟨#[115, 119, 101, 101, 116]⟩, 100, 30, 100, 0, 0, 0⟩, ⟨⟨#[114, 105, 99, 104]⟩, 50, 20, 200, 0, 0, 0⟩]
def exS (lo hi : Int) : Sample := ⟨100, ⟨lo, hi⟩, ⟨0, 1000⟩, ⟨0, 1000⟩, ⟨0, 1000⟩⟩
end Go.Bl
end

section
set_option linter.unusedVariables false
set_option linter.unusedSimpArgs false
set_option maxRecDepth 100000
namespace Go.Bl
open Go.V Go.Proofs
namespace M
def meets (l : List Cask) (ps : List Int) (s : Sample) : Int := first [unl (decide (sumP (fun _ => 1) l ps ≥ s.vol)) 14, unl (decide (away l ps s ≤ 0)) 13]
end M
theorem t91 (q_l : Bool) (l : List Cask) (den : Int) (q_ps : Bool) (ps : List Int) (sv l0 h0 l1 h1 l2 h2 l3 h3 : Int) : runFnX Try.prog G0 (lookS [v85, v80, v84, v64]) (fun _ => []) [] 1 40 3 91 Try.f91 [.agg [.sl q_l l.length 7 (eC.F l), dI den, .sl q_ps ps.length 1 (eI.F ps)], .agg [dI sv, dI l0, dI h0, dI l1, dI h1, dI l2, dI h2, dI l3, dI h3]] =
    T.need (eC.Is l.length (eC.F l)) (T.need (eI.Is ps.length (eI.F ps)) (T.need (ps.length ≤ l.length) (T.need (ps.length ≤ 1000) (T.need (eC.Is l.length (eC.F l)) (T.need (eI.Is ps.length (eI.F ps)) (T.need ((eI.list ps.length (eI.F ps)).length ≤ (eC.list l.length (eC.F l)).length) (T.need ((eI.list ps.length (eI.F ps)).length ≤ 1000) (T.ret [rI (M.meets (eC.list l.length (eC.F l)) (eI.list ps.length (eI.F ps)) ⟨sv, ⟨l0, h0⟩, ⟨l1, h1⟩, ⟨l2, h2⟩, ⟨l3, h3⟩⟩)])))))))) := by kernel_rfl
def dom91 : DomF
  | [.agg [.sl _ n_l st_l F_l, .int .i64 den, .sl _ n_ps st_ps F_ps], .agg [.int .i64 sv, .int .i64 l0, .int .i64 h0, .int .i64 l1, .int .i64 h1, .int .i64 l2, .int .i64 h2, .int .i64 l3, .int .i64 h3]] => (match Nat.beq st_l 7 && Nat.beq st_ps 1 with
    | true => some ([eC.Is n_l F_l, eI.Is n_ps F_ps, (eI.list n_ps F_ps).length ≤ (eC.list n_l F_l).length, (eI.list n_ps F_ps).length ≤ 1000], [rI (M.meets (eC.list n_l F_l) (eI.list n_ps F_ps) ⟨sv, ⟨l0, h0⟩, ⟨l1, h1⟩, ⟨l2, h2⟩, ⟨l3, h3⟩⟩)])
    | _ => none)
  | _ => none
def v91 : Nat × Sm := (91, fokSm dom91)
theorem C91 : FOK Try.prog G0 gw 91 dom91 := by
  intro ags p r hd hp κ w xs hw hl hG hx
  unfold dom91 at hd
  split at hd
  · rename_i q_l n_l st_l F_l den q_ps n_ps st_ps F_ps sv l0 h0 l1 h1 l2 h2 l3 h3
    split at hd
    · rename_i hst
      simp only [Bool.and_eq_true] at hst
      obtain ⟨g1, g2⟩ := hst
      have g1 := Nat.eq_of_beq_eq_true g1
      have g2 := Nat.eq_of_beq_eq_true g2
      subst g1 g2
      simp only [Option.some.injEq, Prod.mk.injEq] at hd
      obtain ⟨rfl, rfl⟩ := hd
      obtain ⟨hI_l, hI_ps, hp⟩ := hp
      have heq : agsEqv [.agg [.sl q_l n_l 7 F_l, .int .i64 den, .sl q_ps n_ps 1 F_ps], .agg [.int .i64 sv, .int .i64 l0, .int .i64 h0, .int .i64 l1, .int .i64 h1, .int .i64 l2, .int .i64 h2, .int .i64 l3, .int .i64 h3]] [.agg [.sl q_l (eC.list n_l F_l).length 7 (eC.F (eC.list n_l F_l)), .int .i64 den, .sl q_ps (eI.list n_ps F_ps).length 1 (eI.F (eI.list n_ps F_ps))], .agg [.int .i64 sv, .int .i64 l0, .int .i64 h0, .int .i64 l1, .int .i64 h1, .int .i64 l2, .int .i64 h2, .int .i64 l3, .int .i64 h3]] := ⟨⟨eC.to id hI_l, rfl, eI.to id hI_ps, trivial⟩, Ag.eqv_refl _, trivial⟩
      have len_l : (eC.list n_l F_l).length = n_l := eC.list_len
      have len_ps : (eI.list n_ps F_ps).length = n_ps := eI.list_len
      generalize eC.list n_l F_l = l at *
      generalize eI.list n_ps F_ps = ps at *
      subst len_l len_ps
      have c1 := Enc.is_F eC l l.length
      have c2 := Enc.is_F eI ps ps.length
      obtain ⟨c3, c4, _⟩ := hp
      exact fokX_fin mixed gw_stable (sl := [v85, v80, v84, v64]) ⟨S85, S80, S84, S64, trivial⟩ Try.func91 hw hl hG hx heq rfl (t91 q_l l den q_ps ps sv l0 h0 l1 h1 l2 h2 l3 h3) ((by simp only [Enc.list_F]; exact ⟨c1, c2, c3, c4, c1, c2, c3, c4, rsEqv_refl _⟩))
    · cases hd
  · cases hd
theorem S91 : SumOK Try.prog G0 gw 91 (fokSm dom91) := fok_sum Try.func91 rfl C91
end Go.Bl
end

section
set_option linter.unusedVariables false
set_option linter.unusedSimpArgs false
set_option maxRecDepth 100000
namespace Go.Bl
open Go.V Go.Proofs
namespace M
def intsEq (u v : List Int) : Bool := decide (u = v)
def some_ (l : List Cask) : Bool := decide (l.length ≤ 12 ∧ ∀ k, k < l.length → (l.getD k dfC).nm.size ≤ 20)
end M
def tr34 (u v : List Int) : T (List Ar) :=
    T.br ((Nat.cast (R := Int) (List.length u)) != (Nat.cast (R := Int) (List.length v))) (T.ret [Ar.c (D.bool false)]) (T.loop (Int × PUnit) ((0 : Int), PUnit.unit) fun (x : Int × PUnit) => T.br (decide (Prod.fst x < (Nat.cast (R := Int) (List.length u)))) (T.need ((0 : Int) ≤ Prod.fst x) (T.need (Prod.fst x < (Nat.cast (R := Int) (List.length u))) (T.need ((0 : Int) ≤ Prod.fst x) (T.need (Prod.fst x < (Nat.cast (R := Int) (List.length v))) (T.br (List.getD u (Int.toNat (Prod.fst x)) (0 : Int) != List.getD v (Int.toNat (Prod.fst x)) (0 : Int)) (T.ret (Sum.inr [Ar.c (D.bool false)])) (T.ret (Sum.inl (IntKind.wrap IntKind.i64 (Prod.fst x + (1 : Int)), PUnit.unit)))))))) (T.ret (Sum.inr [Ar.c (D.bool true)])))
theorem t34 (q_u : Bool) (u : List Int) (q_v : Bool) (v : List Int) : runFnX Try.prog G0 (lookS []) (fun _ => [(4, [.slot 5 (.int .i64)], none)]) [] 1 20 3 34 Try.f34 [.c (.sl q_u u.length 1 (eI.F u)), .c (.sl q_v v.length 1 (eI.F v))] =
    tr34 u v := by kernel_rfl
def tr63 (l : List Cask) : T (List Ar) :=
    T.br (decide ((Nat.cast (R := Int) (List.length l)) > (12 : Int))) (T.ret [Ar.c (D.bool false)]) (T.loop (Int × PUnit) ((0 : Int), PUnit.unit) fun (x : Int × PUnit) => T.br (decide (Prod.fst x < (Nat.cast (R := Int) (List.length l)))) (T.need ((0 : Int) ≤ Prod.fst x) (T.need (Prod.fst x < (Nat.cast (R := Int) (List.length l))) (T.br (decide ((Nat.cast (R := Int) (ByteArray.size (List.getD l (Int.toNat (Prod.fst x)) (Enc.dflt eC)).1)) > (20 : Int))) (T.ret (Sum.inr [Ar.c (D.bool false)])) (T.ret (Sum.inl (IntKind.wrap IntKind.i64 (Prod.fst x + (1 : Int)), PUnit.unit)))))) (T.ret (Sum.inr [Ar.c (D.bool true)])))
theorem t63 (q_l : Bool) (l : List Cask) : runFnX Try.prog G0 (lookS []) (fun _ => [(4, [.slot 3 (.int .i64)], none)]) [] 1 20 3 63 Try.f63 [.c (.sl q_l l.length 7 (eC.F l))] =
    tr63 l := by kernel_rfl
def tr21 (l : List Cask) : T (List Ar) :=
    T.need ((0 : Nat) + List.length l ≤ (1000000 : Nat)) (T.need ((0 : Nat) + List.length l ≤ (0 : Nat) + List.length l) (T.ret [Ar.c (D.sl true ((0 : Nat) + List.length l) (7 : Nat) (joinF (0 : Nat) (fun (i j : Nat) => List.getD [] (i * (7 : Nat) + j) D.nilp) (Enc.F eC l)))]))
theorem t21 (q_l : Bool) (l : List Cask) : runFnX Try.prog G0 (lookS []) (fun _ => []) [] 1 20 3 21 Try.f21 [.c (.sl q_l l.length 7 (eC.F l))] =
    tr21 l := by kernel_rfl
def tr41 (u : List Int) : T (List Ar) :=
    T.need ((0 : Nat) + List.length u ≤ (1000000 : Nat)) (T.need ((0 : Nat) + List.length u ≤ (0 : Nat) + List.length u) (T.ret [Ar.c (D.sl true ((0 : Nat) + List.length u) (1 : Nat) (joinF (0 : Nat) (fun (i j : Nat) => List.getD [] (i * (1 : Nat) + j) D.nilp) (Enc.F eI u)))]))
theorem t41 (q_u : Bool) (u : List Int) : runFnX Try.prog G0 (lookS []) (fun _ => []) [] 1 20 3 41 Try.f41 [.c (.sl q_u u.length 1 (eI.F u))] =
    tr41 u := by kernel_rfl
theorem w34 (u v : List Int) (h : u.length ≤ 1000000) : (tr34 u v).wp (fun rs => rsEqv rs [rB (M.intsEq u v)]) := by
  unfold tr34
  have no : u ≠ v → rsEqv [rB false] [rB (M.intsEq u v)] := fun hn => by
    unfold M.intsEq; rw [decide_eq_false hn]; exact rsEqv_refl _
  refine wp_br (fun hb => ?_) (fun hb => ?_)
  · refine no fun e => ?_
    rw [e] at hb
    simp at hb
  · have hl : u.length = v.length := by have := hb; simp at this; omega
    refine range_wp (n := u.length) (fun k _ => ∀ j, j < k → u.getD j 0 = v.getD j 0) (fun j hj => by omega) ?_
    rintro k s hk hI
    refine wp_br (fun hb => ?_) (fun hb => ?_)
    · have hlt := lt_of_dec hb
      refine ⟨by show (0 : Int) ≤ k; omega, by show (k : Int) < u.length; omega, by show (0 : Int) ≤ k; omega, by show (k : Int) < v.length; omega, wp_br (fun hc => ?_) (fun hc => ?_)⟩
      · refine no fun e => ?_
        rw [e] at hc
        simp at hc
      · have hc : u.getD k 0 = v.getD k 0 := by
          have := hc
          rw [bne_eq_false_iff_eq] at this
          exact this
        refine ⟨hlt, wrap_succ (by omega), fun j hj => ?_⟩
        rcases Nat.lt_or_ge j k with g | g
        · exact hI j g
        · obtain rfl : j = k := by omega
          exact hc
    · have hge := ge_of_dec hb
      obtain rfl : k = u.length := by omega
      have : u = v := by
        apply List.ext_getElem hl
        intro i h1 h2
        have := hI i h1
        simpa [h1, h2] using this
      show rsEqv [rB true] [rB (M.intsEq u v)]
      unfold M.intsEq; rw [decide_eq_true this]; exact rsEqv_refl _
theorem w63 (l : List Cask) : (tr63 l).wp (fun rs => rsEqv rs [rB (M.some_ l)]) := by
  unfold tr63
  have no : ¬ (l.length ≤ 12 ∧ ∀ k, k < l.length → (l.getD k dfC).nm.size ≤ 20) → rsEqv [rB false] [rB (M.some_ l)] := fun hn => by
    unfold M.some_; rw [decide_eq_false hn]; exact rsEqv_refl _
  refine wp_br (fun hb => ?_) (fun hb => ?_)
  · have hb : (l.length : Int) > 12 := of_decide_eq_true hb
    exact no fun ⟨h, _⟩ => by omega
  · have hb : ¬ (l.length : Int) > 12 := of_decide_eq_false hb
    refine range_wp (n := l.length) (fun k _ => ∀ j, j < k → (l.getD j dfC).nm.size ≤ 20) (fun j hj => by omega) ?_
    rintro k s hk hI
    refine wp_br (fun hb => ?_) (fun hb => ?_)
    · have hlt := lt_of_dec hb
      refine ⟨by show (0 : Int) ≤ k; omega, by show (k : Int) < l.length; omega, wp_br (fun hc => ?_) (fun hc => ?_)⟩
      · have hc : ((l.getD k dfC).nm.size : Int) > 20 := of_decide_eq_true hc
        exact no fun ⟨_, h⟩ => by have := h k hlt; omega
      · have hc : ¬ ((l.getD k dfC).nm.size : Int) > 20 := of_decide_eq_false hc
        refine ⟨hlt, wrap_succ (by omega), fun j hj => ?_⟩
        rcases Nat.lt_or_ge j k with g | g
        · exact hI j g
        · obtain rfl : j = k := by omega
          omega
    · have hge := ge_of_dec hb
      obtain rfl : k = l.length := by omega
      show rsEqv [rB true] [rB (M.some_ l)]
      unfold M.some_; rw [decide_eq_true ⟨by omega, hI⟩]; exact rsEqv_refl _
theorem copy_eqv {α : Type} (E : Enc α) (l : List α) (F0 : Nat → Nat → D) : (D.sl true (0 + l.length) E.st (joinF 0 F0 (E.F l))).eqv (.sl true l.length E.st (E.F l)) := by
  refine ⟨id, Nat.zero_add _, fun _ => rfl, fun i j _ _ => ?_⟩
  have : joinF 0 F0 (E.F l) i j = E.F l i j := by
    unfold joinF
    rw [show Nat.blt i 0 = false by rw [← Bool.not_eq_true, Nat.blt_eq]; omega]
    rfl
  rw [this]; exact D.eqv_refl _
def dom34 : DomF
  | [.c (.sl _ n_u st_u F_u), .c (.sl _ n_v st_v F_v)] => (match Nat.beq st_u 1 && Nat.beq st_v 1 with
    | true => some ([eI.Is n_u F_u, eI.Is n_v F_v, (eI.list n_u F_u).length ≤ 1000000], [rB (M.intsEq (eI.list n_u F_u) (eI.list n_v F_v))])
    | _ => none)
  | _ => none
def v34 : Nat × Sm := (34, fokSm dom34)
theorem C34 : FOK Try.prog G0 gw 34 dom34 := by
  intro ags p r hd hp κ w xs hw hl hG hx
  unfold dom34 at hd
  split at hd
  · rename_i q_u n_u st_u F_u q_v n_v st_v F_v
    split at hd
    · rename_i hst
      simp only [Bool.and_eq_true] at hst
      obtain ⟨g1, g2⟩ := hst
      have g1 := Nat.eq_of_beq_eq_true g1
      have g2 := Nat.eq_of_beq_eq_true g2
      subst g1 g2
      simp only [Option.some.injEq, Prod.mk.injEq] at hd
      obtain ⟨rfl, rfl⟩ := hd
      obtain ⟨hI_u, hI_v, hp⟩ := hp
      have heq : agsEqv [.c (.sl q_u n_u 1 F_u), .c (.sl q_v n_v 1 F_v)] [.c (.sl q_u (eI.list n_u F_u).length 1 (eI.F (eI.list n_u F_u))), .c (.sl q_v (eI.list n_v F_v).length 1 (eI.F (eI.list n_v F_v)))] := ⟨eI.to id hI_u, eI.to id hI_v, trivial⟩
      have len_u : (eI.list n_u F_u).length = n_u := eI.list_len
      have len_v : (eI.list n_v F_v).length = n_v := eI.list_len
      generalize eI.list n_u F_u = u at *
      generalize eI.list n_v F_v = v at *
      subst len_u len_v
      exact fokX_fin mixed gw_stable (sl := []) trivial Try.func34 hw hl hG hx heq rfl (t34 q_u u q_v v) (w34 u v hp.1)
    · cases hd
  · cases hd
theorem S34 : SumOK Try.prog G0 gw 34 (fokSm dom34) := fok_sum Try.func34 rfl C34
def dom63 : DomF
  | [.c (.sl _ n_l st_l F_l)] => (match Nat.beq st_l 7 with
    | true => some ([eC.Is n_l F_l], [rB (M.some_ (eC.list n_l F_l))])
    | _ => none)
  | _ => none
def v63 : Nat × Sm := (63, fokSm dom63)
theorem C63 : FOK Try.prog G0 gw 63 dom63 := by
  intro ags p r hd hp κ w xs hw hl hG hx
  unfold dom63 at hd
  split at hd
  · rename_i q_l n_l st_l F_l
    split at hd
    · rename_i hst
      have g1 := hst
      have g1 := Nat.eq_of_beq_eq_true g1
      subst g1
      simp only [Option.some.injEq, Prod.mk.injEq] at hd
      obtain ⟨rfl, rfl⟩ := hd
      obtain ⟨hI_l, hp⟩ := hp
      have heq : agsEqv [.c (.sl q_l n_l 7 F_l)] [.c (.sl q_l (eC.list n_l F_l).length 7 (eC.F (eC.list n_l F_l)))] := ⟨eC.to id hI_l, trivial⟩
      have len_l : (eC.list n_l F_l).length = n_l := eC.list_len
      generalize eC.list n_l F_l = l at *
      subst len_l
      exact fokX_fin mixed gw_stable (sl := []) trivial Try.func63 hw hl hG hx heq rfl (t63 q_l l) (w63 l)
    · cases hd
  · cases hd
theorem S63 : SumOK Try.prog G0 gw 63 (fokSm dom63) := fok_sum Try.func63 rfl C63
def dom21 : DomF
  | [.c (.sl _ n_l st_l F_l)] => (match Nat.beq st_l 7 with
    | true => some ([eC.Is n_l F_l, (eC.list n_l F_l).length ≤ 1000000], [.c (.sl true n_l 7 (eC.F (eC.list n_l F_l)))])
    | _ => none)
  | _ => none
def v21 : Nat × Sm := (21, fokSm dom21)
theorem C21 : FOK Try.prog G0 gw 21 dom21 := by
  intro ags p r hd hp κ w xs hw hl hG hx
  unfold dom21 at hd
  split at hd
  · rename_i q_l n_l st_l F_l
    split at hd
    · rename_i hst
      have g1 := hst
      have g1 := Nat.eq_of_beq_eq_true g1
      subst g1
      simp only [Option.some.injEq, Prod.mk.injEq] at hd
      obtain ⟨rfl, rfl⟩ := hd
      obtain ⟨hI_l, hp⟩ := hp
      have heq : agsEqv [.c (.sl q_l n_l 7 F_l)] [.c (.sl q_l (eC.list n_l F_l).length 7 (eC.F (eC.list n_l F_l)))] := ⟨eC.to id hI_l, trivial⟩
      have len_l : (eC.list n_l F_l).length = n_l := eC.list_len
      generalize eC.list n_l F_l = l at *
      subst len_l
      exact fokX_fin mixed gw_stable (sl := []) trivial Try.func21 hw hl hG hx heq rfl (t21 q_l l) (⟨by have := hp.1; omega, Nat.le_refl _, ⟨copy_eqv eC l _, trivial⟩⟩)
    · cases hd
  · cases hd
theorem S21 : SumOK Try.prog G0 gw 21 (fokSm dom21) := fok_sum Try.func21 rfl C21
def dom41 : DomF
  | [.c (.sl _ n_u st_u F_u)] => (match Nat.beq st_u 1 with
    | true => some ([eI.Is n_u F_u, (eI.list n_u F_u).length ≤ 1000000], [.c (.sl true n_u 1 (eI.F (eI.list n_u F_u)))])
    | _ => none)
  | _ => none
def v41 : Nat × Sm := (41, fokSm dom41)
theorem C41 : FOK Try.prog G0 gw 41 dom41 := by
  intro ags p r hd hp κ w xs hw hl hG hx
  unfold dom41 at hd
  split at hd
  · rename_i q_u n_u st_u F_u
    split at hd
    · rename_i hst
      have g1 := hst
      have g1 := Nat.eq_of_beq_eq_true g1
      subst g1
      simp only [Option.some.injEq, Prod.mk.injEq] at hd
      obtain ⟨rfl, rfl⟩ := hd
      obtain ⟨hI_u, hp⟩ := hp
      have heq : agsEqv [.c (.sl q_u n_u 1 F_u)] [.c (.sl q_u (eI.list n_u F_u).length 1 (eI.F (eI.list n_u F_u)))] := ⟨eI.to id hI_u, trivial⟩
      have len_u : (eI.list n_u F_u).length = n_u := eI.list_len
      generalize eI.list n_u F_u = u at *
      subst len_u
      exact fokX_fin mixed gw_stable (sl := []) trivial Try.func41 hw hl hG hx heq rfl (t41 q_u u) (⟨by have := hp.1; omega, Nat.le_refl _, ⟨copy_eqv eI u _, trivial⟩⟩)
    · cases hd
  · cases hd
theorem S41 : SumOK Try.prog G0 gw 41 (fokSm dom41) := fok_sum Try.func41 rfl C41
end Go.Bl
end

section
set_option linter.unusedVariables false
set_option linter.unusedSimpArgs false
set_option maxRecDepth 100000
namespace Go.Bl
open Go.V Go.Proofs
theorem is3 {F : Nat → Nat → D} {a b c : Int} (h0 : F 0 0 = dI a) (h1 : F 1 0 = dI b) (h2 : F 2 0 = dI c) : eI.Is 3 F := by
  intro i j hi hj
  obtain rfl : j = 0 := Nat.lt_one_iff.1 hj
  match i, hi with
  | 0, _ => show (F 0 0).eqv (dI (rdI (F 0) 0)); unfold rdI; rw [h0]; exact D.eqv_refl _
  | 1, _ => show (F 1 0).eqv (dI (rdI (F 1) 0)); unfold rdI; rw [h1]; exact D.eqv_refl _
  | 2, _ => show (F 2 0).eqv (dI (rdI (F 2) 0)); unfold rdI; rw [h2]; exact D.eqv_refl _
theorem exC_nm : ∀ c, c ∈ eC.list 3 (eC.F exC) → c.nm.size ≤ 1000000 := by
  have : eC.list 3 (eC.F exC) = exC := Enc.list_F eC exC
  rw [this]
  decide
def tr40c : T (List Ar) :=
    T.need (Enc.Is eC (3 : Nat) (Enc.F eC [{ nm := { data := { toList := [(100 : UInt8), (114 : UInt8), (121 : UInt8)] } }, vol := (100 : Int), cost := (10 : Int), k0 := (0 : Int), k1 := (0 : Int), k2 := (0 : Int), k3 := (0 : Int) }, { nm := { data := { toList := [(115 : UInt8), (119 : UInt8), (101 : UInt8), (101 : UInt8), (116 : UInt8)] } }, vol := (100 : Int), cost := (30 : Int), k0 := (100 : Int), k1 := (0 : Int), k2 := (0 : Int), k3 := (0 : Int) }, { nm := { data := { toList := [(114 : UInt8), (105 : UInt8), (99 : UInt8), (104 : UInt8)] } }, vol := (50 : Int), cost := (20 : Int), k0 := (200 : Int), k1 := (0 : Int), k2 := (0 : Int), k3 := (0 : Int) }])) (T.need (∀ (c : Cask), c ∈ Enc.list eC (3 : Nat) (Enc.F eC exC) → ByteArray.size (Cask.nm c) ≤ (1000000 : Nat)) (T.need ((0 : Int) ≤ (0 : Int)) (T.need ((0 : Int) < (2 : Int)) (T.need ((0 : Int) ≤ (1 : Int)) (T.need ((1 : Int) < (2 : Int)) (T.need ((0 : Int) ≤ (0 : Int)) (T.need ((0 : Int) < (2 : Int)) (T.need ((0 : Int) ≤ (0 : Int)) (T.need ((0 : Int) < (2 : Int)) (T.need ((0 : Int) ≤ (0 : Int)) (T.need ((0 : Int) < (3 : Int)) (T.need ((0 : Int) ≤ (1 : Int)) (T.need ((1 : Int) < (2 : Int)) (T.need ((0 : Int) ≤ (2 : Int)) (T.need ((2 : Int) < (3 : Int)) (T.need (Enc.Is eC (3 : Nat) (Enc.F eC [{ nm := { data := { toList := [(100 : UInt8), (114 : UInt8), (121 : UInt8)] } }, vol := (100 : Int), cost := (10 : Int), k0 := (0 : Int), k1 := (0 : Int), k2 := (0 : Int), k3 := (0 : Int) }, { nm := { data := { toList := [(115 : UInt8), (119 : UInt8), (101 : UInt8), (101 : UInt8), (116 : UInt8)] } }, vol := (100 : Int), cost := (30 : Int), k0 := (100 : Int), k1 := (0 : Int), k2 := (0 : Int), k3 := (0 : Int) }, { nm := { data := { toList := [(114 : UInt8), (105 : UInt8), (99 : UInt8), (104 : UInt8)] } }, vol := (50 : Int), cost := (20 : Int), k0 := (200 : Int), k1 := (0 : Int), k2 := (0 : Int), k3 := (0 : Int) }])) (T.need (Enc.Is eI (3 : Nat) fun (i j : Nat) => List.getD [D.int IntKind.i64 (100 : Int), D.int IntKind.i64 (0 : Int), D.int IntKind.i64 (50 : Int)] (i * (1 : Nat) + j) D.nilp) (T.need ((3 : Nat) ≤ (3 : Nat)) (T.need ((3 : Nat) ≤ (1000 : Nat)) (T.need (Enc.Is eC (3 : Nat) (Enc.F eC [{ nm := { data := { toList := [(100 : UInt8), (114 : UInt8), (121 : UInt8)] } }, vol := (100 : Int), cost := (10 : Int), k0 := (0 : Int), k1 := (0 : Int), k2 := (0 : Int), k3 := (0 : Int) }, { nm := { data := { toList := [(115 : UInt8), (119 : UInt8), (101 : UInt8), (101 : UInt8), (116 : UInt8)] } }, vol := (100 : Int), cost := (30 : Int), k0 := (100 : Int), k1 := (0 : Int), k2 := (0 : Int), k3 := (0 : Int) }, { nm := { data := { toList := [(114 : UInt8), (105 : UInt8), (99 : UInt8), (104 : UInt8)] } }, vol := (50 : Int), cost := (20 : Int), k0 := (200 : Int), k1 := (0 : Int), k2 := (0 : Int), k3 := (0 : Int) }])) (T.need (Enc.Is eI (3 : Nat) fun (i j : Nat) => List.getD [D.int IntKind.i64 (100 : Int), D.int IntKind.i64 (0 : Int), D.int IntKind.i64 (50 : Int)] (i * (1 : Nat) + j) D.nilp) (T.need ((3 : Nat) ≤ (3 : Nat)) (T.need ((3 : Nat) ≤ (1000 : Nat)) (T.need (Enc.Is eC (3 : Nat) (Enc.F eC [{ nm := { data := { toList := [(100 : UInt8), (114 : UInt8), (121 : UInt8)] } }, vol := (100 : Int), cost := (10 : Int), k0 := (0 : Int), k1 := (0 : Int), k2 := (0 : Int), k3 := (0 : Int) }, { nm := { data := { toList := [(115 : UInt8), (119 : UInt8), (101 : UInt8), (101 : UInt8), (116 : UInt8)] } }, vol := (100 : Int), cost := (30 : Int), k0 := (100 : Int), k1 := (0 : Int), k2 := (0 : Int), k3 := (0 : Int) }, { nm := { data := { toList := [(114 : UInt8), (105 : UInt8), (99 : UInt8), (104 : UInt8)] } }, vol := (50 : Int), cost := (20 : Int), k0 := (200 : Int), k1 := (0 : Int), k2 := (0 : Int), k3 := (0 : Int) }])) (T.need (Enc.Is eI (3 : Nat) fun (i j : Nat) => List.getD [D.int IntKind.i64 (100 : Int), D.int IntKind.i64 (0 : Int), D.int IntKind.i64 (50 : Int)] (i * (1 : Nat) + j) D.nilp) (T.need ((3 : Nat) ≤ (3 : Nat)) (T.need ((3 : Nat) ≤ (1000 : Nat)) (T.need (Enc.Is eC (3 : Nat) (Enc.F eC [{ nm := { data := { toList := [(100 : UInt8), (114 : UInt8), (121 : UInt8)] } }, vol := (100 : Int), cost := (10 : Int), k0 := (0 : Int), k1 := (0 : Int), k2 := (0 : Int), k3 := (0 : Int) }, { nm := { data := { toList := [(115 : UInt8), (119 : UInt8), (101 : UInt8), (101 : UInt8), (116 : UInt8)] } }, vol := (100 : Int), cost := (30 : Int), k0 := (100 : Int), k1 := (0 : Int), k2 := (0 : Int), k3 := (0 : Int) }, { nm := { data := { toList := [(114 : UInt8), (105 : UInt8), (99 : UInt8), (104 : UInt8)] } }, vol := (50 : Int), cost := (20 : Int), k0 := (200 : Int), k1 := (0 : Int), k2 := (0 : Int), k3 := (0 : Int) }])) (T.need (Enc.Is eI (3 : Nat) fun (i j : Nat) => List.getD [D.int IntKind.i64 (100 : Int), D.int IntKind.i64 (0 : Int), D.int IntKind.i64 (50 : Int)] (i * (1 : Nat) + j) D.nilp) (T.need ((3 : Nat) ≤ (3 : Nat)) (T.need ((3 : Nat) ≤ (1000 : Nat)) (T.need (Enc.Is eC (3 : Nat) (Enc.F eC [{ nm := { data := { toList := [(100 : UInt8), (114 : UInt8), (121 : UInt8)] } }, vol := (100 : Int), cost := (10 : Int), k0 := (0 : Int), k1 := (0 : Int), k2 := (0 : Int), k3 := (0 : Int) }, { nm := { data := { toList := [(115 : UInt8), (119 : UInt8), (101 : UInt8), (101 : UInt8), (116 : UInt8)] } }, vol := (100 : Int), cost := (30 : Int), k0 := (100 : Int), k1 := (0 : Int), k2 := (0 : Int), k3 := (0 : Int) }, { nm := { data := { toList := [(114 : UInt8), (105 : UInt8), (99 : UInt8), (104 : UInt8)] } }, vol := (50 : Int), cost := (20 : Int), k0 := (200 : Int), k1 := (0 : Int), k2 := (0 : Int), k3 := (0 : Int) }])) (T.need (Enc.Is eI (3 : Nat) fun (i j : Nat) => List.getD [D.int IntKind.i64 (100 : Int), D.int IntKind.i64 (0 : Int), D.int IntKind.i64 (50 : Int)] (i * (1 : Nat) + j) D.nilp) (T.need ((3 : Nat) ≤ (3 : Nat)) (T.need ((3 : Nat) ≤ (1000 : Nat)) (T.ret [Ar.agg [D.int IntKind.i64 (66 : Int), D.int IntKind.i64 (67 : Int), D.int IntKind.i64 (0 : Int), D.int IntKind.i64 (0 : Int), D.int IntKind.i64 (0 : Int), D.int IntKind.i64 (0 : Int), D.int IntKind.i64 (0 : Int), D.int IntKind.i64 (0 : Int)], Ar.c (D.int IntKind.i64 (0 : Int))]))))))))))))))))))))))))))))))))))))
theorem t40c (q q2 : Bool) : runFnX Try.prog G0 (lookS [v47, v64, v85, v97]) (fun _ => [(999999, [], none)]) [96, 102, 80, 90] 1 20 6 40 Try.f40 [.c (.sl q 3 7 (eC.F exC)), .c (.sl q2 2 1 (eI.F [0, 2]))] =
    tr40c := by kernel_rfl
def tr30c : T (List Ar) :=
    T.need (Enc.Is eC (3 : Nat) (Enc.F eC [{ nm := { data := { toList := [(100 : UInt8), (114 : UInt8), (121 : UInt8)] } }, vol := (100 : Int), cost := (10 : Int), k0 := (0 : Int), k1 := (0 : Int), k2 := (0 : Int), k3 := (0 : Int) }, { nm := { data := { toList := [(115 : UInt8), (119 : UInt8), (101 : UInt8), (101 : UInt8), (116 : UInt8)] } }, vol := (100 : Int), cost := (30 : Int), k0 := (100 : Int), k1 := (0 : Int), k2 := (0 : Int), k3 := (0 : Int) }, { nm := { data := { toList := [(114 : UInt8), (105 : UInt8), (99 : UInt8), (104 : UInt8)] } }, vol := (50 : Int), cost := (20 : Int), k0 := (200 : Int), k1 := (0 : Int), k2 := (0 : Int), k3 := (0 : Int) }])) (T.need (∀ (c : Cask), c ∈ Enc.list eC (3 : Nat) (Enc.F eC exC) → ByteArray.size (Cask.nm c) ≤ (1000000 : Nat)) (T.need (Enc.Is eC (3 : Nat) (Enc.F eC [{ nm := { data := { toList := [(100 : UInt8), (114 : UInt8), (121 : UInt8)] } }, vol := (100 : Int), cost := (10 : Int), k0 := (0 : Int), k1 := (0 : Int), k2 := (0 : Int), k3 := (0 : Int) }, { nm := { data := { toList := [(115 : UInt8), (119 : UInt8), (101 : UInt8), (101 : UInt8), (116 : UInt8)] } }, vol := (100 : Int), cost := (30 : Int), k0 := (100 : Int), k1 := (0 : Int), k2 := (0 : Int), k3 := (0 : Int) }, { nm := { data := { toList := [(114 : UInt8), (105 : UInt8), (99 : UInt8), (104 : UInt8)] } }, vol := (50 : Int), cost := (20 : Int), k0 := (200 : Int), k1 := (0 : Int), k2 := (0 : Int), k3 := (0 : Int) }])) (T.need (Enc.Is eI (3 : Nat) fun (i j : Nat) => List.getD [D.int IntKind.i64 (0 : Int), D.int IntKind.i64 (0 : Int), D.int IntKind.i64 (0 : Int)] (i * (1 : Nat) + j) D.nilp) (T.need ((3 : Nat) ≤ (3 : Nat)) (T.need ((3 : Nat) ≤ (1000 : Nat)) (T.need ((1 : Nat) ≤ (1000000 : Nat)) (T.need ((0 : Int) ≤ (0 : Int)) (T.need ((0 : Int) < (1 : Int)) (T.need ((0 : Nat) < (1 : Nat)) (T.need ((0 : Int) ≤ (0 : Int)) (T.need ((0 : Int) < (3 : Int)) (T.need (Enc.Is eC (3 : Nat) (Enc.F eC [{ nm := { data := { toList := [(100 : UInt8), (114 : UInt8), (121 : UInt8)] } }, vol := (100 : Int), cost := (10 : Int), k0 := (0 : Int), k1 := (0 : Int), k2 := (0 : Int), k3 := (0 : Int) }, { nm := { data := { toList := [(115 : UInt8), (119 : UInt8), (101 : UInt8), (101 : UInt8), (116 : UInt8)] } }, vol := (100 : Int), cost := (30 : Int), k0 := (100 : Int), k1 := (0 : Int), k2 := (0 : Int), k3 := (0 : Int) }, { nm := { data := { toList := [(114 : UInt8), (105 : UInt8), (99 : UInt8), (104 : UInt8)] } }, vol := (50 : Int), cost := (20 : Int), k0 := (200 : Int), k1 := (0 : Int), k2 := (0 : Int), k3 := (0 : Int) }])) (T.need (Enc.Is eI (3 : Nat) fun (i j : Nat) => List.getD [D.int IntKind.i64 (100 : Int), D.int IntKind.i64 (0 : Int), D.int IntKind.i64 (0 : Int)] (i * (1 : Nat) + j) D.nilp) (T.need ((3 : Nat) ≤ (3 : Nat)) (T.need ((3 : Nat) ≤ (1000 : Nat)) (T.need ((1 : Nat) ≤ (1000000 : Nat)) (T.need ((0 : Int) ≤ (0 : Int)) (T.need ((0 : Int) < (1 : Int)) (T.need ((0 : Nat) < (1 : Nat)) (T.need ((0 : Int) ≤ (1 : Int)) (T.need ((1 : Int) < (3 : Int)) (T.need (Enc.Is eC (3 : Nat) (Enc.F eC [{ nm := { data := { toList := [(100 : UInt8), (114 : UInt8), (121 : UInt8)] } }, vol := (100 : Int), cost := (10 : Int), k0 := (0 : Int), k1 := (0 : Int), k2 := (0 : Int), k3 := (0 : Int) }, { nm := { data := { toList := [(115 : UInt8), (119 : UInt8), (101 : UInt8), (101 : UInt8), (116 : UInt8)] } }, vol := (100 : Int), cost := (30 : Int), k0 := (100 : Int), k1 := (0 : Int), k2 := (0 : Int), k3 := (0 : Int) }, { nm := { data := { toList := [(114 : UInt8), (105 : UInt8), (99 : UInt8), (104 : UInt8)] } }, vol := (50 : Int), cost := (20 : Int), k0 := (200 : Int), k1 := (0 : Int), k2 := (0 : Int), k3 := (0 : Int) }])) (T.need (Enc.Is eI (3 : Nat) fun (i j : Nat) => List.getD [D.int IntKind.i64 (0 : Int), D.int IntKind.i64 (100 : Int), D.int IntKind.i64 (0 : Int)] (i * (1 : Nat) + j) D.nilp) (T.need ((3 : Nat) ≤ (3 : Nat)) (T.need ((3 : Nat) ≤ (1000 : Nat)) (T.need ((1 : Nat) ≤ (1000000 : Nat)) (T.need ((2 : Nat) ≤ (1000000 : Nat)) (T.need ((1 : Nat) ≤ (1 : Nat)) (T.need ((0 : Int) ≤ (0 : Int)) (T.need ((0 : Int) < (2 : Int)) (T.need ((0 : Nat) < (2 : Nat)) (T.need ((0 : Int) ≤ (0 : Int)) (T.need ((0 : Int) < (3 : Int)) (T.need ((0 : Int) ≤ (1 : Int)) (T.need ((1 : Int) < (2 : Int)) (T.need ((1 : Nat) < (2 : Nat)) (T.need ((0 : Int) ≤ (1 : Int)) (T.need ((1 : Int) < (3 : Int)) (T.need (Enc.Is eC (3 : Nat) (Enc.F eC [{ nm := { data := { toList := [(100 : UInt8), (114 : UInt8), (121 : UInt8)] } }, vol := (100 : Int), cost := (10 : Int), k0 := (0 : Int), k1 := (0 : Int), k2 := (0 : Int), k3 := (0 : Int) }, { nm := { data := { toList := [(115 : UInt8), (119 : UInt8), (101 : UInt8), (101 : UInt8), (116 : UInt8)] } }, vol := (100 : Int), cost := (30 : Int), k0 := (100 : Int), k1 := (0 : Int), k2 := (0 : Int), k3 := (0 : Int) }, { nm := { data := { toList := [(114 : UInt8), (105 : UInt8), (99 : UInt8), (104 : UInt8)] } }, vol := (50 : Int), cost := (20 : Int), k0 := (200 : Int), k1 := (0 : Int), k2 := (0 : Int), k3 := (0 : Int) }])) (T.need (Enc.Is eI (3 : Nat) fun (i j : Nat) => List.getD [D.int IntKind.i64 (100 : Int), D.int IntKind.i64 (100 : Int), D.int IntKind.i64 (0 : Int)] (i * (1 : Nat) + j) D.nilp) (T.need ((3 : Nat) ≤ (3 : Nat)) (T.need ((3 : Nat) ≤ (1000 : Nat)) (T.need ((1 : Nat) ≤ (1000000 : Nat)) (T.need ((0 : Int) ≤ (0 : Int)) (T.need ((0 : Int) < (1 : Int)) (T.need ((0 : Nat) < (1 : Nat)) (T.need ((0 : Int) ≤ (2 : Int)) (T.need ((2 : Int) < (3 : Int)) (T.need (Enc.Is eC (3 : Nat) (Enc.F eC [{ nm := { data := { toList := [(100 : UInt8), (114 : UInt8), (121 : UInt8)] } }, vol := (100 : Int), cost := (10 : Int), k0 := (0 : Int), k1 := (0 : Int), k2 := (0 : Int), k3 := (0 : Int) }, { nm := { data := { toList := [(115 : UInt8), (119 : UInt8), (101 : UInt8), (101 : UInt8), (116 : UInt8)] } }, vol := (100 : Int), cost := (30 : Int), k0 := (100 : Int), k1 := (0 : Int), k2 := (0 : Int), k3 := (0 : Int) }, { nm := { data := { toList := [(114 : UInt8), (105 : UInt8), (99 : UInt8), (104 : UInt8)] } }, vol := (50 : Int), cost := (20 : Int), k0 := (200 : Int), k1 := (0 : Int), k2 := (0 : Int), k3 := (0 : Int) }])) (T.need (Enc.Is eI (3 : Nat) fun (i j : Nat) => List.getD [D.int IntKind.i64 (0 : Int), D.int IntKind.i64 (0 : Int), D.int IntKind.i64 (50 : Int)] (i * (1 : Nat) + j) D.nilp) (T.need ((3 : Nat) ≤ (3 : Nat)) (T.need ((3 : Nat) ≤ (1000 : Nat)) (T.need ((1 : Nat) ≤ (1000000 : Nat)) (T.need ((2 : Nat) ≤ (1000000 : Nat)) (T.need ((1 : Nat) ≤ (1 : Nat)) (T.need ((0 : Int) ≤ (0 : Int)) (T.need ((0 : Int) < (2 : Int)) (T.need ((0 : Nat) < (2 : Nat)) (T.need ((0 : Int) ≤ (0 : Int)) (T.need ((0 : Int) < (3 : Int)) (T.need ((0 : Int) ≤ (1 : Int)) (T.need ((1 : Int) < (2 : Int)) (T.need ((1 : Nat) < (2 : Nat)) (T.need ((0 : Int) ≤ (2 : Int)) (T.need ((2 : Int) < (3 : Int)) (T.need (Enc.Is eC (3 : Nat) (Enc.F eC [{ nm := { data := { toList := [(100 : UInt8), (114 : UInt8), (121 : UInt8)] } }, vol := (100 : Int), cost := (10 : Int), k0 := (0 : Int), k1 := (0 : Int), k2 := (0 : Int), k3 := (0 : Int) }, { nm := { data := { toList := [(115 : UInt8), (119 : UInt8), (101 : UInt8), (101 : UInt8), (116 : UInt8)] } }, vol := (100 : Int), cost := (30 : Int), k0 := (100 : Int), k1 := (0 : Int), k2 := (0 : Int), k3 := (0 : Int) }, { nm := { data := { toList := [(114 : UInt8), (105 : UInt8), (99 : UInt8), (104 : UInt8)] } }, vol := (50 : Int), cost := (20 : Int), k0 := (200 : Int), k1 := (0 : Int), k2 := (0 : Int), k3 := (0 : Int) }])) (T.need (Enc.Is eI (3 : Nat) fun (i j : Nat) => List.getD [D.int IntKind.i64 (100 : Int), D.int IntKind.i64 (0 : Int), D.int IntKind.i64 (50 : Int)] (i * (1 : Nat) + j) D.nilp) (T.need ((3 : Nat) ≤ (3 : Nat)) (T.need ((3 : Nat) ≤ (1000 : Nat)) (T.need (Enc.Is eC (3 : Nat) (Enc.F eC [{ nm := { data := { toList := [(100 : UInt8), (114 : UInt8), (121 : UInt8)] } }, vol := (100 : Int), cost := (10 : Int), k0 := (0 : Int), k1 := (0 : Int), k2 := (0 : Int), k3 := (0 : Int) }, { nm := { data := { toList := [(115 : UInt8), (119 : UInt8), (101 : UInt8), (101 : UInt8), (116 : UInt8)] } }, vol := (100 : Int), cost := (30 : Int), k0 := (100 : Int), k1 := (0 : Int), k2 := (0 : Int), k3 := (0 : Int) }, { nm := { data := { toList := [(114 : UInt8), (105 : UInt8), (99 : UInt8), (104 : UInt8)] } }, vol := (50 : Int), cost := (20 : Int), k0 := (200 : Int), k1 := (0 : Int), k2 := (0 : Int), k3 := (0 : Int) }])) (T.need (Enc.Is eI (3 : Nat) fun (i j : Nat) => List.getD [D.int IntKind.i64 (100 : Int), D.int IntKind.i64 (0 : Int), D.int IntKind.i64 (50 : Int)] (i * (1 : Nat) + j) D.nilp) (T.need ((3 : Nat) ≤ (3 : Nat)) (T.need ((3 : Nat) ≤ (1000 : Nat)) (T.need ((1 : Int) ≠ (0 : Int)) (T.need ((1 : Nat) < (9223372036854775808 : Nat)) (T.need ((2000 : Nat) < (9223372036854775808 : Nat)) (T.need ((1 : Nat) ≤ (1000000 : Nat)) (T.need ((2 : Nat) ≤ (1000000 : Nat)) (T.need ((1 : Nat) ≤ (1 : Nat)) (T.need ((0 : Int) ≤ (0 : Int)) (T.need ((0 : Int) < (2 : Int)) (T.need ((0 : Nat) < (2 : Nat)) (T.need ((0 : Int) ≤ (1 : Int)) (T.need ((1 : Int) < (3 : Int)) (T.need ((0 : Int) ≤ (1 : Int)) (T.need ((1 : Int) < (2 : Int)) (T.need ((1 : Nat) < (2 : Nat)) (T.need ((0 : Int) ≤ (2 : Int)) (T.need ((2 : Int) < (3 : Int)) (T.need (Enc.Is eC (3 : Nat) (Enc.F eC [{ nm := { data := { toList := [(100 : UInt8), (114 : UInt8), (121 : UInt8)] } }, vol := (100 : Int), cost := (10 : Int), k0 := (0 : Int), k1 := (0 : Int), k2 := (0 : Int), k3 := (0 : Int) }, { nm := { data := { toList := [(115 : UInt8), (119 : UInt8), (101 : UInt8), (101 : UInt8), (116 : UInt8)] } }, vol := (100 : Int), cost := (30 : Int), k0 := (100 : Int), k1 := (0 : Int), k2 := (0 : Int), k3 := (0 : Int) }, { nm := { data := { toList := [(114 : UInt8), (105 : UInt8), (99 : UInt8), (104 : UInt8)] } }, vol := (50 : Int), cost := (20 : Int), k0 := (200 : Int), k1 := (0 : Int), k2 := (0 : Int), k3 := (0 : Int) }])) (T.need (Enc.Is eI (3 : Nat) fun (i j : Nat) => List.getD [D.int IntKind.i64 (0 : Int), D.int IntKind.i64 (100 : Int), D.int IntKind.i64 (50 : Int)] (i * (1 : Nat) + j) D.nilp) (T.need ((3 : Nat) ≤ (3 : Nat)) (T.need ((3 : Nat) ≤ (1000 : Nat)) (T.need ((1 : Nat) ≤ (1000000 : Nat)) (T.need ((2 : Nat) ≤ (1000000 : Nat)) (T.need ((1 : Nat) ≤ (1 : Nat)) (T.need ((3 : Nat) ≤ (1000000 : Nat)) (T.need ((2 : Nat) ≤ (2 : Nat)) (T.need ((0 : Int) ≤ (0 : Int)) (T.need ((0 : Int) < (3 : Int)) (T.need ((0 : Nat) < (3 : Nat)) (T.need ((0 : Int) ≤ (0 : Int)) (T.need ((0 : Int) < (3 : Int)) (T.need ((0 : Int) ≤ (1 : Int)) (T.need ((1 : Int) < (3 : Int)) (T.need ((1 : Nat) < (3 : Nat)) (T.need ((0 : Int) ≤ (1 : Int)) (T.need ((1 : Int) < (3 : Int)) (T.need ((0 : Int) ≤ (2 : Int)) (T.need ((2 : Int) < (3 : Int)) (T.need ((2 : Nat) < (3 : Nat)) (T.need ((0 : Int) ≤ (2 : Int)) (T.need ((2 : Int) < (3 : Int)) (T.need (Enc.Is eC (3 : Nat) (Enc.F eC [{ nm := { data := { toList := [(100 : UInt8), (114 : UInt8), (121 : UInt8)] } }, vol := (100 : Int), cost := (10 : Int), k0 := (0 : Int), k1 := (0 : Int), k2 := (0 : Int), k3 := (0 : Int) }, { nm := { data := { toList := [(115 : UInt8), (119 : UInt8), (101 : UInt8), (101 : UInt8), (116 : UInt8)] } }, vol := (100 : Int), cost := (30 : Int), k0 := (100 : Int), k1 := (0 : Int), k2 := (0 : Int), k3 := (0 : Int) }, { nm := { data := { toList := [(114 : UInt8), (105 : UInt8), (99 : UInt8), (104 : UInt8)] } }, vol := (50 : Int), cost := (20 : Int), k0 := (200 : Int), k1 := (0 : Int), k2 := (0 : Int), k3 := (0 : Int) }])) (T.need (Enc.Is eI (3 : Nat) fun (i j : Nat) => List.getD [D.int IntKind.i64 (100 : Int), D.int IntKind.i64 (100 : Int), D.int IntKind.i64 (50 : Int)] (i * (1 : Nat) + j) D.nilp) (T.need ((3 : Nat) ≤ (3 : Nat)) (T.need ((3 : Nat) ≤ (1000 : Nat)) (T.need ((2 : Nat) ≤ (2 : Nat)) (T.ret [Ar.c (D.sl true (2 : Nat) (1 : Nat) (joinF (1 : Nat) (joinF (0 : Nat) (fun (x x_1 : Nat) => D.nilp) fun (i j : Nat) => List.getD [D.int IntKind.i64 (0 : Int)] (i * (1 : Nat) + j) D.nilp) fun (i j : Nat) => List.getD [D.int IntKind.i64 (2 : Int)] (i * (1 : Nat) + j) D.nilp)), Ar.c (D.int IntKind.i64 (2000 : Int)), Ar.c (D.int IntKind.i64 (0 : Int))])))))))))))))))))))))))))))))))))))))))))))))))))))))))))))))))))))))))))))))))))))))))))))))))))))))))))))))))))))))))
theorem t30c (q : Bool) : runFnX Try.prog G0 (lookS [v47, v49, v64, v68, v91]) (fun _ => [(999999, [], none)]) [90, 92, 123, 145] 1 20 6 30 Try.f30 [.c (.sl q 3 7 (eC.F exC)), .agg [dI 100, dI 60, dI 70, dI 0, dI 1000, dI 0, dI 1000, dI 0, dI 1000]] =
    tr30c := by kernel_rfl
theorem w40c : tr40c.wp (fun rs => rsEqv rs [.agg [dI 66, dI 67, dI 0, dI 0, dI 0, dI 0, dI 0, dI 0], rI 0]) := by
  unfold tr40c
  repeat (first | refine ⟨by decide, ?_⟩ | refine ⟨exC_nm, ?_⟩ | refine ⟨Enc.is_F _ _ _, ?_⟩ | refine ⟨is3 rfl rfl rfl, ?_⟩ | refine ⟨by decide +kernel, ?_⟩)
  exact ⟨⟨rfl, rfl, rfl, rfl, rfl, rfl, rfl, rfl, trivial⟩, rfl, trivial⟩
theorem w30c : tr30c.wp (fun rs => rsEqv rs [.c (dL [0, 2]), rI 2000, rI 0]) := by
  unfold tr30c
  repeat (first | refine ⟨by decide, ?_⟩ | refine ⟨exC_nm, ?_⟩ | refine ⟨Enc.is_F _ _ _, ?_⟩ | refine ⟨is3 rfl rfl rfl, ?_⟩ | refine ⟨by decide +kernel, ?_⟩)
  refine ⟨⟨(fun e => by cases e), rfl, fun _ => rfl, fun i j hi hj => ?_⟩, rfl, rfl, trivial⟩
  obtain rfl : j = 0 := Nat.lt_one_iff.1 hj
  match i, hi with
  | 0, _ => exact D.eqv_refl _
  | 1, _ => exact D.eqv_refl _
def dom30c : DomF
  | [.c (.sl _ n_l st_l F_l), .agg [.int .i64 sv, .int .i64 l0, .int .i64 h0, .int .i64 l1, .int .i64 h1, .int .i64 l2, .int .i64 h2, .int .i64 l3, .int .i64 h3]] => (match Nat.beq st_l 7 with
    | true => some ([eC.Is n_l F_l, (eC.list n_l F_l) = exC, (⟨sv, ⟨l0, h0⟩, ⟨l1, h1⟩, ⟨l2, h2⟩, ⟨l3, h3⟩⟩ : Sample) = exS 60 70], [.c (dL [0, 2]), rI 2000, rI 0])
    | _ => none)
  | _ => none
def v30c : Nat × Sm := (30, fokSm dom30c)
theorem C30c : FOK Try.prog G0 gw 30 dom30c := by
  intro ags p r hd hp κ w xs hw hl hG hx
  unfold dom30c at hd
  split at hd
  · rename_i q_l n_l st_l F_l sv l0 h0 l1 h1 l2 h2 l3 h3
    split at hd
    · rename_i hst
      have g1 := hst
      have g1 := Nat.eq_of_beq_eq_true g1
      subst g1
      simp only [Option.some.injEq, Prod.mk.injEq] at hd
      obtain ⟨rfl, rfl⟩ := hd
      obtain ⟨hI_l, hp⟩ := hp
      have heq : agsEqv [.c (.sl q_l n_l 7 F_l), .agg [.int .i64 sv, .int .i64 l0, .int .i64 h0, .int .i64 l1, .int .i64 h1, .int .i64 l2, .int .i64 h2, .int .i64 l3, .int .i64 h3]] [.c (.sl q_l (eC.list n_l F_l).length 7 (eC.F (eC.list n_l F_l))), .agg [.int .i64 sv, .int .i64 l0, .int .i64 h0, .int .i64 l1, .int .i64 h1, .int .i64 l2, .int .i64 h2, .int .i64 l3, .int .i64 h3]] := ⟨eC.to id hI_l, Ag.eqv_refl _, trivial⟩
      have len_l : (eC.list n_l F_l).length = n_l := eC.list_len
      generalize eC.list n_l F_l = l at *
      subst len_l
      obtain ⟨rfl, hs, _⟩ := hp
      simp only [exS, Sample.mk.injEq, Rg.mk.injEq] at hs
      obtain ⟨rfl, ⟨rfl, rfl⟩, ⟨rfl, rfl⟩, ⟨rfl, rfl⟩, rfl, rfl⟩ := hs
      exact fokX_fin mixed gw_stable (sl := [v47, v49, v64, v68, v91]) ⟨S47, S49, S64, S68, S91, trivial⟩ Try.func30 hw hl hG hx heq rfl (t30c q_l) (w30c)
    · cases hd
  · cases hd
theorem S30c : SumOK Try.prog G0 gw 30 (fokSm dom30c) := fok_sum Try.func30 rfl C30c
def dom40c : DomF
  | [.c (.sl _ n_l st_l F_l), .c (.sl _ n_u st_u F_u)] => (match Nat.beq st_l 7 && Nat.beq st_u 1 with
    | true => some ([eC.Is n_l F_l, eI.Is n_u F_u, (eC.list n_l F_l) = exC, (eI.list n_u F_u) = [0, 2]], [.agg [dI 66, dI 67, dI 0, dI 0, dI 0, dI 0, dI 0, dI 0], rI 0])
    | _ => none)
  | _ => none
def v40c : Nat × Sm := (40, fokSm dom40c)
theorem C40c : FOK Try.prog G0 gw 40 dom40c := by
  intro ags p r hd hp κ w xs hw hl hG hx
  unfold dom40c at hd
  split at hd
  · rename_i q_l n_l st_l F_l q_u n_u st_u F_u
    split at hd
    · rename_i hst
      simp only [Bool.and_eq_true] at hst
      obtain ⟨g1, g2⟩ := hst
      have g1 := Nat.eq_of_beq_eq_true g1
      have g2 := Nat.eq_of_beq_eq_true g2
      subst g1 g2
      simp only [Option.some.injEq, Prod.mk.injEq] at hd
      obtain ⟨rfl, rfl⟩ := hd
      obtain ⟨hI_l, hI_u, hp⟩ := hp
      have heq : agsEqv [.c (.sl q_l n_l 7 F_l), .c (.sl q_u n_u 1 F_u)] [.c (.sl q_l (eC.list n_l F_l).length 7 (eC.F (eC.list n_l F_l))), .c (.sl q_u (eI.list n_u F_u).length 1 (eI.F (eI.list n_u F_u)))] := ⟨eC.to id hI_l, eI.to id hI_u, trivial⟩
      have len_l : (eC.list n_l F_l).length = n_l := eC.list_len
      have len_u : (eI.list n_u F_u).length = n_u := eI.list_len
      generalize eC.list n_l F_l = l at *
      generalize eI.list n_u F_u = u at *
      subst len_l len_u
      obtain ⟨rfl, rfl, _⟩ := hp
      exact fokX_fin mixed gw_stable (sl := [v47, v64, v85, v97]) ⟨S47, S64, S85, S97, trivial⟩ Try.func40 hw hl hG hx heq rfl (t40c q_l q_u) (w40c)
    · cases hd
  · cases hd
theorem S40c : SumOK Try.prog G0 gw 40 (fokSm dom40c) := fok_sum Try.func40 rfl C40c
end Go.Bl
end

section
set_option linter.unusedVariables false
set_option linter.unusedSimpArgs false
set_option maxRecDepth 100000
namespace Go.Bl
open Go.V Go.Proofs
def FA : Nat → Nat → D := fun (i j : Nat) => List.getD [D.str { data := { toList := [(100 : UInt8), (114 : UInt8), (121 : UInt8)] } }, D.int IntKind.i64 (100 : Int), D.int IntKind.i64 (10 : Int), D.int IntKind.i64 (0 : Int), D.int IntKind.i64 (0 : Int), D.int IntKind.i64 (0 : Int), D.int IntKind.i64 (0 : Int), D.str { data := { toList := [(115 : UInt8), (119 : UInt8), (101 : UInt8), (101 : UInt8), (116 : UInt8)] } }, D.int IntKind.i64 (100 : Int), D.int IntKind.i64 (30 : Int), D.int IntKind.i64 (100 : Int), D.int IntKind.i64 (0 : Int), D.int IntKind.i64 (0 : Int), D.int IntKind.i64 (0 : Int), D.str { data := { toList := [(114 : UInt8), (105 : UInt8), (99 : UInt8), (104 : UInt8)] } }, D.int IntKind.i64 (50 : Int), D.int IntKind.i64 (20 : Int), D.int IntKind.i64 (200 : Int), D.int IntKind.i64 (0 : Int), D.int IntKind.i64 (0 : Int), D.int IntKind.i64 (0 : Int)] (i * (7 : Nat) + j) D.nilp
def FI : Nat → Nat → D := fun (i j : Nat) => List.getD [D.int IntKind.i64 (0 : Int), D.int IntKind.i64 (2 : Int)] (i * (1 : Nat) + j) D.nilp
def tr18 : T (List Ar) :=
    T.need (Enc.Is eC (3 : Nat) FA) (T.need (∀ (c : Cask), (c ∈ Enc.list eC (3 : Nat) FA) → ByteArray.size (Cask.nm c) ≤ (1000000 : Nat)) (T.need (M.taskErr (Enc.list eC (3 : Nat) FA) (exS 50 60) = (0 : Int) → (1 : Nat) ≤ List.length (Enc.list eC (3 : Nat) FA) ∧ List.length (Enc.list eC (3 : Nat) FA) ≤ (4 : Nat) ∧ (∀ (c : Cond), c ∈ M.limits (Enc.list eC (3 : Nat) FA) (exS 50 60) (0 : Nat) → List.length (Cond.coefs c) = List.length (M.shares (Enc.list eC (3 : Nat) FA) (0 : Nat))) ∧ TurnOK (M.shares (Enc.list eC (3 : Nat) FA) (0 : Nat)) (M.limits (Enc.list eC (3 : Nat) FA) (exS 50 60) (0 : Nat)) ∧ ∀ (x : M.Corner), M.pBest (Enc.list eC (3 : Nat) FA) (exS 50 60) = some x → CornerOK (Enc.list eC (3 : Nat) FA) (List.length (Enc.list eC (3 : Nat) FA)) x ∧ i64ok (M.sumP Cask.cost (Enc.list eC (3 : Nat) FA) (M.Corner.pt x))) (T.need (Enc.Is eC (3 : Nat) FA) (T.need (∀ (c : Cask), (c ∈ Enc.list eC (3 : Nat) FA) → ByteArray.size (Cask.nm c) ≤ (1000000 : Nat)) (T.need ((3 : Nat) ≤ (1000000 : Nat)) (T.need (M.nearErr (Enc.list eC (3 : Nat) FA) (exS 180 200) = (0 : Int) → (1 : Nat) ≤ List.length (Enc.list eC (3 : Nat) FA) ∧ List.length (Enc.list eC (3 : Nat) FA) ≤ (4 : Nat) ∧ (∀ (c : Cond), c ∈ M.limits (Enc.list eC (3 : Nat) FA) (exS 180 200) (1 : Nat) → List.length (Cond.coefs c) = List.length (M.shares (Enc.list eC (3 : Nat) FA) (1 : Nat))) ∧ TurnOK (M.shares (Enc.list eC (3 : Nat) FA) (1 : Nat)) (M.limits (Enc.list eC (3 : Nat) FA) (exS 180 200) (1 : Nat)) ∧ List.length (Enc.list eC (3 : Nat) FA) ≤ List.length (M.Corner.pt (M.pNear (Enc.list eC (3 : Nat) FA) (exS 180 200))) ∧ M.sumP (fun (x : Cask) => (1 : Int)) (Enc.list eC (3 : Nat) FA) (List.take (List.length (Enc.list eC (3 : Nat) FA)) (M.Corner.pt (M.pNear (Enc.list eC (3 : Nat) FA) (exS 180 200)))) ≠ (0 : Int) ∧ i64ok (M.away (Enc.list eC (3 : Nat) FA) (List.take (List.length (Enc.list eC (3 : Nat) FA)) (M.Corner.pt (M.pNear (Enc.list eC (3 : Nat) FA) (exS 180 200)))) (exS 180 200)) ∧ i64ok (M.sumP (fun (x : Cask) => (1 : Int)) (Enc.list eC (3 : Nat) FA) (List.take (List.length (Enc.list eC (3 : Nat) FA)) (M.Corner.pt (M.pNear (Enc.list eC (3 : Nat) FA) (exS 180 200)))))) (T.need (Enc.Is eC (3 : Nat) FA) (T.need ((Enc.list eC (3 : Nat) FA) = exC) (T.need ((exS 60 70) = (exS 60 70)) (T.need (Enc.Is eC (3 : Nat) FA) (T.need (Enc.Is eI (2 : Nat) FI) (T.need ((Enc.list eC (3 : Nat) FA) = exC) (T.need ((Enc.list eI (2 : Nat) FI) = [(0 : Int), (2 : Int)]) (T.br ((0 : Int) == (0 : Int)) (T.br ((1250 : Int) == (1250 : Int) && ((1 : Int) == (1 : Int) && true)) (T.br ((0 : Int) == (0 : Int)) (T.br ((30 : Int) == (30 : Int) && ((1 : Int) == (1 : Int) && true)) (T.br ((0 : Int) == (0 : Int)) (T.br ((2000 : Int) == (2000 : Int)) (T.need (Enc.Is eI (2 : Nat) (Enc.F eI [(0 : Int), (2 : Int)])) (T.need (Enc.Is eI (2 : Nat) FI) (T.need ((2 : Nat) ≤ (1000000 : Nat)) (T.br (M.intsEq (Enc.list eI (2 : Nat) (Enc.F eI [(0 : Int), (2 : Int)])) (Enc.list eI (2 : Nat) FI)) (T.br ((0 : Int) == (0 : Int)) (T.ret [Ar.c (D.bool ((66 : Int) == (66 : Int) && ((67 : Int) == (67 : Int) && true)))]) (T.ret [Ar.c (D.bool false)])) (T.ret [Ar.c (D.bool false)]))))) (T.ret [Ar.c (D.bool false)])) (T.ret [Ar.c (D.bool false)])) (T.ret [Ar.c (D.bool false)])) (T.ret [Ar.c (D.bool false)])) (T.ret [Ar.c (D.bool false)])) (T.ret [Ar.c (D.bool false)])))))))))))))))
theorem t18 : runFnX Try.prog G0 (lookS [v20, v26, v30c, v40c, v34]) (fun _ => []) [61, 62] 1 20 4 18 Try.f18 [] =
    tr18 := by kernel_rfl
theorem lA : eC.list 3 FA = exC := rfl
theorem lI : eI.list 2 FI = [0, 2] := by decide
theorem isA : eC.Is 3 FA := by
  intro i j hi hj
  have hj' : j < 7 := hj
  match i, hi, j, hj' with
  | 0, _, 0, _ => exact D.eqv_refl _
  | 0, _, 1, _ => exact D.eqv_refl _
  | 0, _, 2, _ => exact D.eqv_refl _
  | 0, _, 3, _ => exact D.eqv_refl _
  | 0, _, 4, _ => exact D.eqv_refl _
  | 0, _, 5, _ => exact D.eqv_refl _
  | 0, _, 6, _ => exact D.eqv_refl _
  | 1, _, 0, _ => exact D.eqv_refl _
  | 1, _, 1, _ => exact D.eqv_refl _
  | 1, _, 2, _ => exact D.eqv_refl _
  | 1, _, 3, _ => exact D.eqv_refl _
  | 1, _, 4, _ => exact D.eqv_refl _
  | 1, _, 5, _ => exact D.eqv_refl _
  | 1, _, 6, _ => exact D.eqv_refl _
  | 2, _, 0, _ => exact D.eqv_refl _
  | 2, _, 1, _ => exact D.eqv_refl _
  | 2, _, 2, _ => exact D.eqv_refl _
  | 2, _, 3, _ => exact D.eqv_refl _
  | 2, _, 4, _ => exact D.eqv_refl _
  | 2, _, 5, _ => exact D.eqv_refl _
  | 2, _, 6, _ => exact D.eqv_refl _
theorem isI : eI.Is 2 FI := by
  intro i j hi hj
  obtain rfl : j = 0 := Nat.lt_one_iff.1 hj
  match i, hi with
  | 0, _ => exact D.eqv_refl _
  | 1, _ => exact D.eqv_refl _
def okB (l : List Cask) (n : Nat) (x : M.Corner) : Bool :=
  decide (x.pt.length ≤ n) && decide (x.den ≠ 0) && decide (x.den.natAbs < 9223372036854775808) && decide (x.tight.length ≤ x.by_.length) && decide (x.tight.length ≤ 1000) &&
    x.tight.all (fun c => decide (0 ≤ c.which) && (!(c.kind == 1) || decide (c.which < (l.length : Int))) && ((c.kind == 1) || (c.kind == 0) || decide (c.which < 4))) && decide ((M.sumP Cask.cost l x.pt).natAbs < 9223372036854775808)
theorem exC_best : (M.pBest exC (exS 50 60)).all (okB exC 3) = true := by decide +kernel
theorem bestOK_ex : BestOK exC (exS 50 60) := by
  intro _
  refine ⟨by decide, by decide, by decide +kernel, turnOK (by decide) (by decide +kernel) (by decide +kernel), fun x hx => ?_⟩
  have h := exC_best
  rw [hx] at h
  have h' : okB exC 3 x = true := h
  unfold okB at h'
  simp only [Bool.and_eq_true, decide_eq_true_eq, List.all_eq_true, Bool.or_eq_true, beq_iff_eq, Bool.not_eq_true', beq_eq_false_iff_ne] at h'
  obtain ⟨⟨⟨⟨⟨⟨a1, a2⟩, a3⟩, a4⟩, a5⟩, a6⟩, a7⟩ := h'
  refine ⟨⟨a1, a2, a3, a4, a5, fun c hc => ?_⟩, a7⟩
  obtain ⟨⟨b1, b2⟩, b3⟩ := a6 c hc
  refine ⟨b1, fun e => ?_, fun e1 e0 => ?_⟩
  · rcases b2 with b2 | b2
    · exact absurd e b2
    · exact b2
  · rcases b3 with (b3 | b3) | b3
    · exact absurd b3 e1
    · exact absurd b3 e0
    · exact b3
theorem nearOK_ex : NearOK exC (exS 180 200) := by
  intro _
  exact ⟨by decide, by decide, by decide +kernel, turnOK (by decide) (by decide +kernel) (by decide +kernel), by decide +kernel, by decide +kernel, by decide +kernel, by decide +kernel⟩
theorem exC_nm' : ∀ c, c ∈ exC → c.nm.size ≤ 1000000 := by decide
theorem w18 : tr18.wp (fun rs => rsEqv rs [rB true]) := by
  have f1 : M.intsEq [0, 2] [0, 2] = true := by decide
  unfold tr18
  simp only [lA, lI, Enc.list_F, f1]
  refine ⟨isA, exC_nm', bestOK_ex, isA, exC_nm', by decide, nearOK_ex, isA, trivial, trivial, isA, isI, trivial, trivial, ?_⟩
  refine wp_br (fun _ => ?_) (fun h => absurd h (by decide))
  refine wp_br (fun _ => ?_) (fun h => absurd h (by decide))
  refine wp_br (fun _ => ?_) (fun h => absurd h (by decide))
  refine wp_br (fun _ => ?_) (fun h => absurd h (by decide))
  refine wp_br (fun _ => ?_) (fun h => absurd h (by decide))
  refine wp_br (fun _ => ?_) (fun h => absurd h (by decide))
  refine ⟨Enc.is_F _ _ _, isI, by decide, ?_⟩
  refine wp_br (fun _ => ?_) (fun h => absurd h (by decide))
  refine wp_br (fun _ => ?_) (fun h => absurd h (by decide))
  exact ⟨rfl, trivial⟩
def dom18 : DomF
  | [] => some ([], [rB true])
  | _ => none
def v18 : Nat × Sm := (18, fokSm dom18)
theorem C18 : FOK Try.prog G0 gw 18 dom18 := by
  intro ags p r hd hp κ w xs hw hl hG hx
  unfold dom18 at hd
  split at hd
  · simp only [Option.some.injEq, Prod.mk.injEq] at hd
    obtain ⟨rfl, rfl⟩ := hd
    have heq : agsEqv [] [] := trivial
    exact fokX_fin mixed gw_stable (sl := [v20, v26, v30c, v40c, v34]) ⟨S20, S26, S30c, S40c, S34, trivial⟩ Try.func18 hw hl hG hx heq rfl (t18) (w18)
  · cases hd
theorem S18 : SumOK Try.prog G0 gw 18 (fokSm dom18) := fok_sum Try.func18 rfl C18
end Go.Bl
end

section
set_option linter.unusedVariables false
set_option linter.unusedSimpArgs false
set_option maxRecDepth 100000
namespace Go.Bl
open Go.V Go.Proofs
namespace M
def partAt (l : List Cask) (den : Int) (ps : List Int) (i : Nat) : Int := first [unl (decide (ps.getD i 0 ≥ 0)) 2, unl (decide (ps.getD i 0 ≤ IntKind.i64.wrap (den * (l.getD i dfC).vol))) 24]
def partFrom (l : List Cask) (den : Int) (ps : List Int) : Nat → Nat → Int
  | 0, _ => 0
  | k + 1, i => cond (partAt l den ps i != 0) (partAt l den ps i) (partFrom l den ps k (i + 1))
def partHead (l : List Cask) (den : Int) (ps : List Int) : Int := first [unl (within den 1 200000000000) 2, unl ((ps.length : Int) == (l.length : Int)) 10]
def partErr (l : List Cask) (den : Int) (ps : List Int) : Int := cond (partHead l den ps != 0) (partHead l den ps) (partFrom l den ps ps.length 0)
def someN (n : Nat) (l : List Cask) : Bool := (decide (l.length ≤ n) || decide (l.length > 10)) && some_ l
end M
def tr106 (l : List Cask) (den : Int) (ps : List Int) : T (List Ar) :=
    T.br (M.first [M.unl (M.within den (1 : Int) (200000000000 : Int)) (2 : Int), M.unl ((Nat.cast (R := Int) (List.length ps)) == (Nat.cast (R := Int) (List.length l))) (10 : Int)] != (0 : Int)) (T.ret [Ar.c (D.int IntKind.i64 (M.first [M.unl (M.within den (1 : Int) (200000000000 : Int)) (2 : Int), M.unl ((Nat.cast (R := Int) (List.length ps)) == (Nat.cast (R := Int) (List.length l))) (10 : Int)]))]) (T.loop (Int × PUnit) ((0 : Int), PUnit.unit) fun (x : Int × PUnit) => T.br (decide (Prod.fst x < (Nat.cast (R := Int) (List.length ps)))) (T.need ((0 : Int) ≤ Prod.fst x) (T.need (Prod.fst x < (Nat.cast (R := Int) (List.length ps))) (T.need ((0 : Int) ≤ Prod.fst x) (T.need (Prod.fst x < (Nat.cast (R := Int) (List.length l))) (T.br (M.first [M.unl (decide (List.getD ps (Int.toNat (Prod.fst x)) (0 : Int) ≥ (0 : Int))) (2 : Int), M.unl (decide (List.getD ps (Int.toNat (Prod.fst x)) (0 : Int) ≤ IntKind.wrap IntKind.i64 (den * (List.getD l (Int.toNat (Prod.fst x)) (Enc.dflt eC)).2))) (24 : Int)] != (0 : Int)) (T.ret (Sum.inr [Ar.c (D.int IntKind.i64 (M.first [M.unl (decide (List.getD ps (Int.toNat (Prod.fst x)) (0 : Int) ≥ (0 : Int))) (2 : Int), M.unl (decide (List.getD ps (Int.toNat (Prod.fst x)) (0 : Int) ≤ IntKind.wrap IntKind.i64 (den * (List.getD l (Int.toNat (Prod.fst x)) (Enc.dflt eC)).2))) (24 : Int)]))])) (T.ret (Sum.inl (IntKind.wrap IntKind.i64 (Prod.fst x + (1 : Int)), PUnit.unit)))))))) (T.ret (Sum.inr [Ar.c (D.int IntKind.i64 (0 : Int))])))
theorem t106 (q_l : Bool) (l : List Cask) (den : Int) (q_ps : Bool) (ps : List Int) : runFnX Try.prog G0 (lookS [v102, v80, v64]) (fun _ => [(5, [.slot 28 (.int .i64)], none)]) [] 1 20 3 106 Try.f106 [.c (.sl q_l l.length 7 (eC.F l)), .agg [dI den, .sl q_ps ps.length 1 (eI.F ps)]] =
    tr106 l den ps := by kernel_rfl
def tr46 (l : List Cask) : T (List Ar) :=
    T.need (Enc.Is eC (List.length l) (Enc.F eC l)) (T.need (∀ (c : Cask), c ∈ Enc.list eC (List.length l) (Enc.F eC l) → ByteArray.size (Cask.nm c) ≤ (1000000 : Nat)) (T.br (M.wholeErr (Enc.list eC (List.length l) (Enc.F eC l)) != (0 : Int)) (T.ret [Ar.c (D.int IntKind.i64 (M.wholeErr (Enc.list eC (List.length l) (Enc.F eC l))))]) (T.br (decide ((Nat.cast (R := Int) (List.length l)) > (4 : Int))) (T.ret [Ar.c (D.int IntKind.i64 (8 : Int))]) (T.ret [Ar.c (D.int IntKind.i64 (0 : Int))]))))
theorem t46 (q_l : Bool) (l : List Cask) : runFnX Try.prog G0 (lookS [v31]) (fun _ => []) [] 1 20 3 46 Try.f46 [.c (.sl q_l l.length 7 (eC.F l))] =
    tr46 l := by kernel_rfl
def tr19 (l : List Cask) : T (List Ar) :=
    T.br (decide ((Nat.cast (R := Int) (List.length l)) ≤ (4 : Int))) (T.need (Enc.Is eC (List.length l) (Enc.F eC l)) (T.ret [Ar.c (D.bool (M.some_ (Enc.list eC (List.length l) (Enc.F eC l))))])) (T.br (decide ((Nat.cast (R := Int) (List.length l)) > (10 : Int))) (T.need (Enc.Is eC (List.length l) (Enc.F eC l)) (T.ret [Ar.c (D.bool (M.some_ (Enc.list eC (List.length l) (Enc.F eC l))))])) (T.ret [Ar.c (D.bool false)]))
theorem t19 (q_l : Bool) (l : List Cask) : runFnX Try.prog G0 (lookS [v63]) (fun _ => []) [] 1 20 3 19 Try.f19 [.c (.sl q_l l.length 7 (eC.F l))] =
    tr19 l := by kernel_rfl
def tr51 (den : Int) (ps : List Int) : T (List Ar) :=
    T.need (Enc.Is eI (List.length ps) (Enc.F eI ps)) (T.need (List.length (Enc.list eI (List.length ps) (Enc.F eI ps)) ≤ (1000000 : Nat)) (T.ret [Ar.agg [D.int IntKind.i64 den, D.sl true (List.length ps) (1 : Nat) (Enc.F eI (Enc.list eI (List.length ps) (Enc.F eI ps)))]]))
theorem t51 (den : Int) (q_ps : Bool) (ps : List Int) : runFnX Try.prog G0 (lookS [v41]) (fun _ => []) [] 1 20 3 51 Try.f51 [.agg [dI den, .sl q_ps ps.length 1 (eI.F ps)]] =
    tr51 den ps := by kernel_rfl
theorem partFrom_step {l : List Cask} {den : Int} {ps : List Int} {k : Nat} (h : k < ps.length) : M.partFrom l den ps (ps.length - k) k = cond (M.partAt l den ps k != 0) (M.partAt l den ps k) (M.partFrom l den ps (ps.length - (k + 1)) (k + 1)) := by
  obtain ⟨m, hm⟩ : ∃ m, ps.length - k = m + 1 := ⟨ps.length - k - 1, by omega⟩
  rw [hm, show ps.length - (k + 1) = m by omega]
  rfl
theorem w106 (l : List Cask) (den : Int) (ps : List Int) (hn : ps.length ≤ 1000000) : (tr106 l den ps).wp (fun rs => rsEqv rs [rI (M.partErr l den ps)]) := by
  unfold tr106
  refine wp_br (fun hb => ?_) (fun hb => ?_)
  · have hb : (M.partHead l den ps != 0) = true := hb
    show rsEqv [rI (M.partHead l den ps)] [rI (M.partErr l den ps)]
    unfold M.partErr; rw [hb]; exact rsEqv_refl _
  · have hb : (M.partHead l den ps != 0) = false := hb
    have hE : M.partErr l den ps = M.partFrom l den ps ps.length 0 := by unfold M.partErr; rw [hb]; rfl
    have hl : ps.length = l.length := by
      have h0 : M.partHead l den ps = 0 := by simpa using hb
      unfold M.partHead M.first M.first M.first M.unl at h0
      by_cases e : (ps.length : Int) == (l.length : Int)
      · have := eq_of_beq e; omega
      · rw [Bool.eq_false_iff.2 e] at h0
        cases hw : M.within den 1 200000000000 <;> rw [hw] at h0 <;> exact absurd h0 (by decide)
    rw [hE]
    refine range_wp (n := ps.length) (fun k _ => M.partFrom l den ps (ps.length - k) k = M.partFrom l den ps ps.length 0) rfl ?_
    rintro k s hk hI
    refine wp_br (fun hb => ?_) (fun hb => ?_)
    · have hlt := lt_of_dec hb
      rw [partFrom_step hlt] at hI
      refine ⟨by show (0 : Int) ≤ k; omega, by show (k : Int) < ps.length; omega, by show (0 : Int) ≤ k; omega, by show (k : Int) < l.length; omega, wp_br (fun hc => ?_) (fun hc => ?_)⟩
      · have hc : (M.partAt l den ps k != 0) = true := hc
        rw [hc] at hI
        show rsEqv [rI (M.partAt l den ps k)] _
        rw [← hI]; exact rsEqv_refl _
      · have hc : (M.partAt l den ps k != 0) = false := hc
        rw [hc] at hI
        exact ⟨hlt, wrap_succ (by omega), hI⟩
    · have hge := ge_of_dec hb
      obtain rfl : k = ps.length := by omega
      rw [← hI, Nat.sub_self]
      exact rsEqv_refl _
theorem w46 (l : List Cask) (hn : ∀ c, c ∈ l → c.nm.size ≤ 1000000) : (tr46 l).wp (fun rs => rsEqv rs [rI (M.casksErr l)]) := by
  unfold tr46
  simp only [Enc.list_F]
  refine ⟨Enc.is_F _ _ _, hn, wp_br (fun hb => ?_) (fun hb => ?_)⟩
  · have hb : ((M.checkCasks l).2 != 0) = true := hb
    have : M.casksErr l = M.wholeErr l := by unfold M.casksErr M.first; rw [hb]; rfl
    rw [this]; exact rsEqv_refl _
  · have hb : ((M.checkCasks l).2 != 0) = false := hb
    refine wp_br (fun hc => ?_) (fun hc => ?_)
    · have hc : (l.length : Int) > 4 := of_decide_eq_true hc
      have : M.casksErr l = 8 := by unfold M.casksErr M.first; rw [hb, decide_eq_false (by omega)]; rfl
      rw [this]; exact rsEqv_refl _
    · have hc : ¬ (l.length : Int) > 4 := of_decide_eq_false hc
      have : M.casksErr l = 0 := by unfold M.casksErr M.first; rw [hb, decide_eq_true (by omega)]; rfl
      rw [this]; exact rsEqv_refl _
theorem w19 (l : List Cask) : (tr19 l).wp (fun rs => rsEqv rs [rB (M.someN 4 l)]) := by
  unfold tr19
  simp only [Enc.list_F]
  refine wp_br (fun hb => ?_) (fun hb => ?_)
  · have hb : (l.length : Int) ≤ 4 := of_decide_eq_true hb
    have : M.someN 4 l = M.some_ l := by unfold M.someN; rw [decide_eq_true (by omega)]; rfl
    rw [this]; exact ⟨Enc.is_F _ _ _, rsEqv_refl _⟩
  · have hb : ¬ (l.length : Int) ≤ 4 := of_decide_eq_false hb
    refine wp_br (fun hc => ?_) (fun hc => ?_)
    · have hc : (l.length : Int) > 10 := of_decide_eq_true hc
      have : M.someN 4 l = M.some_ l := by unfold M.someN; rw [decide_eq_false (by omega), decide_eq_true (by omega)]; rfl
      rw [this]; exact ⟨Enc.is_F _ _ _, rsEqv_refl _⟩
    · have hc : ¬ (l.length : Int) > 10 := of_decide_eq_false hc
      have : M.someN 4 l = false := by unfold M.someN; rw [decide_eq_false (by omega), decide_eq_false (by omega)]; rfl
      rw [this]; exact rsEqv_refl _
def dom106 : DomF
  | [.c (.sl _ n_l st_l F_l), .agg [.int .i64 den, .sl _ n_ps st_ps F_ps]] => (match Nat.beq st_l 7 && Nat.beq st_ps 1 with
    | true => some ([eC.Is n_l F_l, eI.Is n_ps F_ps, (eI.list n_ps F_ps).length ≤ 1000000], [rI (M.partErr (eC.list n_l F_l) den (eI.list n_ps F_ps))])
    | _ => none)
  | _ => none
def v106 : Nat × Sm := (106, fokSm dom106)
theorem C106 : FOK Try.prog G0 gw 106 dom106 := by
  intro ags p r hd hp κ w xs hw hl hG hx
  unfold dom106 at hd
  split at hd
  · rename_i q_l n_l st_l F_l den q_ps n_ps st_ps F_ps
    split at hd
    · rename_i hst
      simp only [Bool.and_eq_true] at hst
      obtain ⟨g1, g2⟩ := hst
      have g1 := Nat.eq_of_beq_eq_true g1
      have g2 := Nat.eq_of_beq_eq_true g2
      subst g1 g2
      simp only [Option.some.injEq, Prod.mk.injEq] at hd
      obtain ⟨rfl, rfl⟩ := hd
      obtain ⟨hI_l, hI_ps, hp⟩ := hp
      have heq : agsEqv [.c (.sl q_l n_l 7 F_l), .agg [.int .i64 den, .sl q_ps n_ps 1 F_ps]] [.c (.sl q_l (eC.list n_l F_l).length 7 (eC.F (eC.list n_l F_l))), .agg [.int .i64 den, .sl q_ps (eI.list n_ps F_ps).length 1 (eI.F (eI.list n_ps F_ps))]] := ⟨eC.to id hI_l, ⟨rfl, eI.to id hI_ps, trivial⟩, trivial⟩
      have len_l : (eC.list n_l F_l).length = n_l := eC.list_len
      have len_ps : (eI.list n_ps F_ps).length = n_ps := eI.list_len
      generalize eC.list n_l F_l = l at *
      generalize eI.list n_ps F_ps = ps at *
      subst len_l len_ps
      exact fokX_fin mixed gw_stable (sl := [v102, v80, v64]) ⟨S102, S80, S64, trivial⟩ Try.func106 hw hl hG hx heq rfl (t106 q_l l den q_ps ps) (w106 l den ps hp.1)
    · cases hd
  · cases hd
theorem S106 : SumOK Try.prog G0 gw 106 (fokSm dom106) := fok_sum Try.func106 rfl C106
def dom46 : DomF
  | [.c (.sl _ n_l st_l F_l)] => (match Nat.beq st_l 7 with
    | true => some ([eC.Is n_l F_l, ∀ c, c ∈ (eC.list n_l F_l) → c.nm.size ≤ 1000000], [rI (M.casksErr (eC.list n_l F_l))])
    | _ => none)
  | _ => none
def v46 : Nat × Sm := (46, fokSm dom46)
theorem C46 : FOK Try.prog G0 gw 46 dom46 := by
  intro ags p r hd hp κ w xs hw hl hG hx
  unfold dom46 at hd
  split at hd
  · rename_i q_l n_l st_l F_l
    split at hd
    · rename_i hst
      have g1 := hst
      have g1 := Nat.eq_of_beq_eq_true g1
      subst g1
      simp only [Option.some.injEq, Prod.mk.injEq] at hd
      obtain ⟨rfl, rfl⟩ := hd
      obtain ⟨hI_l, hp⟩ := hp
      have heq : agsEqv [.c (.sl q_l n_l 7 F_l)] [.c (.sl q_l (eC.list n_l F_l).length 7 (eC.F (eC.list n_l F_l)))] := ⟨eC.to id hI_l, trivial⟩
      have len_l : (eC.list n_l F_l).length = n_l := eC.list_len
      generalize eC.list n_l F_l = l at *
      subst len_l
      exact fokX_fin mixed gw_stable (sl := [v31]) ⟨S31, trivial⟩ Try.func46 hw hl hG hx heq rfl (t46 q_l l) (w46 l hp.1)
    · cases hd
  · cases hd
theorem S46 : SumOK Try.prog G0 gw 46 (fokSm dom46) := fok_sum Try.func46 rfl C46
def dom19 : DomF
  | [.c (.sl _ n_l st_l F_l)] => (match Nat.beq st_l 7 with
    | true => some ([eC.Is n_l F_l], [rB (M.someN 4 (eC.list n_l F_l))])
    | _ => none)
  | _ => none
def v19 : Nat × Sm := (19, fokSm dom19)
theorem C19 : FOK Try.prog G0 gw 19 dom19 := by
  intro ags p r hd hp κ w xs hw hl hG hx
  unfold dom19 at hd
  split at hd
  · rename_i q_l n_l st_l F_l
    split at hd
    · rename_i hst
      have g1 := hst
      have g1 := Nat.eq_of_beq_eq_true g1
      subst g1
      simp only [Option.some.injEq, Prod.mk.injEq] at hd
      obtain ⟨rfl, rfl⟩ := hd
      obtain ⟨hI_l, hp⟩ := hp
      have heq : agsEqv [.c (.sl q_l n_l 7 F_l)] [.c (.sl q_l (eC.list n_l F_l).length 7 (eC.F (eC.list n_l F_l)))] := ⟨eC.to id hI_l, trivial⟩
      have len_l : (eC.list n_l F_l).length = n_l := eC.list_len
      generalize eC.list n_l F_l = l at *
      subst len_l
      exact fokX_fin mixed gw_stable (sl := [v63]) ⟨S63, trivial⟩ Try.func19 hw hl hG hx heq rfl (t19 q_l l) (w19 l)
    · cases hd
  · cases hd
theorem S19 : SumOK Try.prog G0 gw 19 (fokSm dom19) := fok_sum Try.func19 rfl C19
def dom51 : DomF
  | [.agg [.int .i64 den, .sl _ n_ps st_ps F_ps]] => (match Nat.beq st_ps 1 with
    | true => some ([eI.Is n_ps F_ps, (eI.list n_ps F_ps).length ≤ 1000000], [.agg [dI den, .sl true n_ps 1 (eI.F (eI.list n_ps F_ps))]])
    | _ => none)
  | _ => none
def v51 : Nat × Sm := (51, fokSm dom51)
theorem C51 : FOK Try.prog G0 gw 51 dom51 := by
  intro ags p r hd hp κ w xs hw hl hG hx
  unfold dom51 at hd
  split at hd
  · rename_i den q_ps n_ps st_ps F_ps
    split at hd
    · rename_i hst
      have g1 := hst
      have g1 := Nat.eq_of_beq_eq_true g1
      subst g1
      simp only [Option.some.injEq, Prod.mk.injEq] at hd
      obtain ⟨rfl, rfl⟩ := hd
      obtain ⟨hI_ps, hp⟩ := hp
      have heq : agsEqv [.agg [.int .i64 den, .sl q_ps n_ps 1 F_ps]] [.agg [.int .i64 den, .sl q_ps (eI.list n_ps F_ps).length 1 (eI.F (eI.list n_ps F_ps))]] := ⟨⟨rfl, eI.to id hI_ps, trivial⟩, trivial⟩
      have len_ps : (eI.list n_ps F_ps).length = n_ps := eI.list_len
      generalize eI.list n_ps F_ps = ps at *
      subst len_ps
      exact fokX_fin mixed gw_stable (sl := [v41]) ⟨S41, trivial⟩ Try.func51 hw hl hG hx heq rfl (t51 den q_ps ps) ((by unfold tr51; rw [Enc.list_F]; exact ⟨Enc.is_F _ _ _, hp.1, rsEqv_refl _⟩))
    · cases hd
  · cases hd
theorem S51 : SumOK Try.prog G0 gw 51 (fokSm dom51) := fok_sum Try.func51 rfl C51
end Go.Bl
end

section
set_option linter.unusedVariables false
set_option linter.unusedSimpArgs false
set_option maxRecDepth 100000
namespace Go.Bl
open Go.V Go.Proofs
namespace M
end M
def tr22 (l : List Cask) (s : Sample) : T (List Ar) :=
    T.need (Enc.Is eC (List.length l) (Enc.F eC l)) (T.need (∀ (c : Cask), c ∈ Enc.list eC (List.length l) (Enc.F eC l) → ByteArray.size (Cask.nm c) ≤ (1000000 : Nat)) (T.br (M.casksErr (Enc.list eC (List.length l) (Enc.F eC l)) != (0 : Int)) (T.ret [Ar.c (D.int IntKind.i64 (M.casksErr (Enc.list eC (List.length l) (Enc.F eC l))))]) (T.ret [Ar.c (D.int IntKind.i64 (M.checkSample s))])))
theorem t22 (q_l : Bool) (l : List Cask) (sv l0 h0 l1 h1 l2 h2 l3 h3 : Int) : runFnX Try.prog G0 (lookS [v46, v32]) (fun _ => []) [] 1 20 3 22 Try.f22 [.c (.sl q_l l.length 7 (eC.F l)), .agg [dI sv, dI l0, dI h0, dI l1, dI h1, dI l2, dI h2, dI l3, dI h3]] =
    tr22 l (⟨sv, ⟨l0, h0⟩, ⟨l1, h1⟩, ⟨l2, h2⟩, ⟨l3, h3⟩⟩ : Sample) := by kernel_rfl
theorem first2 {x y : Int} (h : (x != 0) = false) : M.first [x, y] = y := by
  unfold M.first; rw [h]
  show M.first [y] = y
  unfold M.first M.first
  cases hy : y != 0
  · have : y = 0 := by simpa using hy
    rw [this]; rfl
  · rfl
theorem first1 {x : Int} {l : List Int} (h : (x != 0) = true) : M.first (x :: l) = x := by
  unfold M.first; rw [h]; rfl
theorem w22 (l : List Cask) (s : Sample) (hn : ∀ c, c ∈ l → c.nm.size ≤ 1000000) : (tr22 l s).wp (fun rs => rsEqv rs [rI (M.taskErr l s)]) := by
  unfold tr22
  simp only [Enc.list_F]
  refine ⟨Enc.is_F _ _ _, hn, wp_br (fun hb => ?_) (fun hb => ?_)⟩
  · have : M.taskErr l s = M.casksErr l := first1 hb
    rw [this]; exact rsEqv_refl _
  · have : M.taskErr l s = M.checkSample s := first2 hb
    rw [this]; exact rsEqv_refl _
def dom22 : DomF
  | [.c (.sl _ n_l st_l F_l), .agg [.int .i64 sv, .int .i64 l0, .int .i64 h0, .int .i64 l1, .int .i64 h1, .int .i64 l2, .int .i64 h2, .int .i64 l3, .int .i64 h3]] => (match Nat.beq st_l 7 with
    | true => some ([eC.Is n_l F_l, ∀ c, c ∈ (eC.list n_l F_l) → c.nm.size ≤ 1000000], [rI (M.taskErr (eC.list n_l F_l) (⟨sv, ⟨l0, h0⟩, ⟨l1, h1⟩, ⟨l2, h2⟩, ⟨l3, h3⟩⟩ : Sample))])
    | _ => none)
  | _ => none
def v22 : Nat × Sm := (22, fokSm dom22)
theorem C22 : FOK Try.prog G0 gw 22 dom22 := by
  intro ags p r hd hp κ w xs hw hl hG hx
  unfold dom22 at hd
  split at hd
  · rename_i q_l n_l st_l F_l sv l0 h0 l1 h1 l2 h2 l3 h3
    split at hd
    · rename_i hst
      have g1 := hst
      have g1 := Nat.eq_of_beq_eq_true g1
      subst g1
      simp only [Option.some.injEq, Prod.mk.injEq] at hd
      obtain ⟨rfl, rfl⟩ := hd
      obtain ⟨hI_l, hp⟩ := hp
      have heq : agsEqv [.c (.sl q_l n_l 7 F_l), .agg [.int .i64 sv, .int .i64 l0, .int .i64 h0, .int .i64 l1, .int .i64 h1, .int .i64 l2, .int .i64 h2, .int .i64 l3, .int .i64 h3]] [.c (.sl q_l (eC.list n_l F_l).length 7 (eC.F (eC.list n_l F_l))), .agg [.int .i64 sv, .int .i64 l0, .int .i64 h0, .int .i64 l1, .int .i64 h1, .int .i64 l2, .int .i64 h2, .int .i64 l3, .int .i64 h3]] := ⟨eC.to id hI_l, Ag.eqv_refl _, trivial⟩
      have len_l : (eC.list n_l F_l).length = n_l := eC.list_len
      generalize eC.list n_l F_l = l at *
      subst len_l
      exact fokX_fin mixed gw_stable (sl := [v46, v32]) ⟨S46, S32, trivial⟩ Try.func22 hw hl hG hx heq rfl (t22 q_l l sv l0 h0 l1 h1 l2 h2 l3 h3) (w22 l _ hp.1)
    · cases hd
  · cases hd
theorem S22 : SumOK Try.prog G0 gw 22 (fokSm dom22) := fok_sum Try.func22 rfl C22
end Go.Bl
end

section
set_option linter.unusedVariables false
set_option linter.unusedSimpArgs false
set_option maxRecDepth 100000
namespace Go.Bl
open Go.V Go.Proofs
theorem someN_small {n : Nat} {l : List Cask} (h : M.someN n l = true) : l.length ≤ 12 ∧ ∀ c, c ∈ l → c.nm.size ≤ 20 := by
  unfold M.someN at h
  simp only [Bool.and_eq_true] at h
  have h2 : l.length ≤ 12 ∧ ∀ k, k < l.length → (l.getD k dfC).nm.size ≤ 20 := of_decide_eq_true h.2
  refine ⟨h2.1, fun c hc => ?_⟩
  obtain ⟨k, hk, rfl⟩ := List.mem_iff_getElem.1 hc
  have := h2.2 k hk
  have e : l.getD k dfC = l[k] := by simp [hk]
  rwa [e] at this
end Go.Bl
end

section
set_option linter.unusedVariables false
set_option linter.unusedSimpArgs false
set_option maxRecDepth 100000
namespace Go.Bl
open Go.V Go.Proofs
namespace M
def valL (l : List Cask) (ps : List Int) (of : Cask → Int) (less : Int) : Int := (List.range l.length).foldl (fun a i => IntKind.i64.wrap (a + IntKind.i64.wrap (ps.getD i 0 * IntKind.i64.wrap (of (l.getD i dfC) - less)))) 0
def openErr (l : List Cask) (s : Sample) (den : Int) (ps : List Int) : Int := cond (taskErr l s != 0) (taskErr l s) (cond (partErr l den ps != 0) (partErr l den ps) (unl (sumP (fun _ => 1) l ps == IntKind.i64.wrap (den * s.vol)) 14))
end M
theorem t78 (n d : Int) : runFnX Try.prog G0 (lookS []) (fun f => match Nat.beq f 121 with | true => [(1, [.slot 0 (.int .i64), .slot 1 (.int .i64)], none)] | _ => []) [121, 144] 1 20 3 78 Try.f78 [.c (dI n), .c (dI d)] =
    T.loop (Int × Int × PUnit) (n, d, PUnit.unit) fun (x : Int × Int × PUnit) => T.br (Prod.fst (Prod.snd x) != (0 : Int)) (T.need (Prod.fst (Prod.snd x) ≠ (0 : Int)) (T.ret (Sum.inl (Prod.fst (Prod.snd x), Int.tmod (Prod.fst x) (Prod.fst (Prod.snd x)), PUnit.unit)))) (T.need ((if IntKind.wrap IntKind.i64 ((0 : Int) - Prod.fst x) > Prod.fst x then IntKind.wrap IntKind.i64 ((0 : Int) - Prod.fst x) else Prod.fst x) ≠ (0 : Int)) (T.need ((if IntKind.wrap IntKind.i64 ((0 : Int) - Prod.fst x) > Prod.fst x then IntKind.wrap IntKind.i64 ((0 : Int) - Prod.fst x) else Prod.fst x) ≠ (0 : Int)) (T.ret (Sum.inr [Ar.agg [D.int IntKind.i64 (IntKind.wrap IntKind.i64 (Int.tdiv n (if IntKind.wrap IntKind.i64 ((0 : Int) - Prod.fst x) > Prod.fst x then IntKind.wrap IntKind.i64 ((0 : Int) - Prod.fst x) else Prod.fst x))), D.int IntKind.i64 (IntKind.wrap IntKind.i64 (Int.tdiv d (if IntKind.wrap IntKind.i64 ((0 : Int) - Prod.fst x) > Prod.fst x then IntKind.wrap IntKind.i64 ((0 : Int) - Prod.fst x) else Prod.fst x)))]])))) := by kernel_rfl
def tr108 (q_l : Bool) (l : List Cask) (s : Sample) (den : Int) (q_ps : Bool) (ps : List Int) : T (List Ar) :=
    T.need (Enc.Is eC (List.length l) (Enc.F eC l)) (T.need (∀ (c : Cask), c ∈ Enc.list eC (List.length l) (Enc.F eC l) → ByteArray.size (Cask.nm c) ≤ (1000000 : Nat)) (T.br (M.first [M.casksErr (Enc.list eC (List.length l) (Enc.F eC l)), M.checkSample s] != (0 : Int)) (T.ret [Ar.agg [D.sl q_l (List.length l) (7 : Nat) (Enc.F eC l), D.int IntKind.i64 den, D.sl q_ps (List.length ps) (1 : Nat) (Enc.F eI ps)], Ar.c (D.int IntKind.i64 (M.first [M.casksErr (Enc.list eC (List.length l) (Enc.F eC l)), M.checkSample s]))]) (T.need (Enc.Is eC (List.length l) (Enc.F eC l)) (T.need (Enc.Is eI (List.length ps) (Enc.F eI ps)) (T.need (List.length (Enc.list eI (List.length ps) (Enc.F eI ps)) ≤ (1000000 : Nat)) (T.br (M.partErr (Enc.list eC (List.length l) (Enc.F eC l)) den (Enc.list eI (List.length ps) (Enc.F eI ps)) != (0 : Int)) (T.ret [Ar.agg [D.sl q_l (List.length l) (7 : Nat) (Enc.F eC l), D.int IntKind.i64 den, D.sl q_ps (List.length ps) (1 : Nat) (Enc.F eI ps)], Ar.c (D.int IntKind.i64 (M.partErr (Enc.list eC (List.length l) (Enc.F eC l)) den (Enc.list eI (List.length ps) (Enc.F eI ps))))]) (T.need (Enc.Is eC (List.length l) (Enc.F eC l)) (T.need (Enc.Is eI (List.length ps) (Enc.F eI ps)) (T.need (List.length ps ≤ List.length l) (T.need (List.length ps ≤ (1000 : Nat)) (T.ret [Ar.agg [D.sl q_l (List.length l) (7 : Nat) (Enc.F eC l), D.int IntKind.i64 den, D.sl q_ps (List.length ps) (1 : Nat) (Enc.F eI ps)], Ar.c (D.int IntKind.i64 (M.unl (M.sumP (fun (x : Cask) => (1 : Int)) (Enc.list eC (List.length l) (Enc.F eC l)) (Enc.list eI (List.length ps) (Enc.F eI ps)) == IntKind.wrap IntKind.i64 (den * s.vol)) (14 : Int)))])))))))))))
theorem t108 (q_l : Bool) (l : List Cask) (sv l0 h0 l1 h1 l2 h2 l3 h3 : Int) (den : Int) (q_ps : Bool) (ps : List Int) : runFnX Try.prog G0 (lookS [v65, v49, v64, v106, v85, v80]) (fun _ => []) [] 1 20 3 108 Try.f108 [.c (.sl q_l l.length 7 (eC.F l)), .agg [dI sv, dI l0, dI h0, dI l1, dI h1, dI l2, dI h2, dI l3, dI h3], .agg [dI den, .sl q_ps ps.length 1 (eI.F ps)]] =
    tr108 q_l l (⟨sv, ⟨l0, h0⟩, ⟨l1, h1⟩, ⟨l2, h2⟩, ⟨l3, h3⟩⟩ : Sample) den q_ps ps := by kernel_rfl
theorem sl_eqv {q : Bool} {n st : Nat} {F : Nat → Nat → D} : (D.sl q n st F).eqv (.sl false n st F) := ⟨(fun e => by cases e), rfl, fun _ => rfl, fun i j _ _ => D.eqv_refl _⟩
theorem part_len {l : List Cask} {den : Int} {ps : List Int} (h : (M.partErr l den ps != 0) = false) : ps.length = l.length := by
  have h : M.partErr l den ps = 0 := by simpa using h
  unfold M.partErr at h
  have h0 : M.partHead l den ps = 0 := by
    cases hh : M.partHead l den ps != 0
    · simpa using hh
    · rw [hh] at h
      have h : M.partHead l den ps = 0 := h
      exact h
  unfold M.partHead M.first M.first M.first M.unl at h0
  by_cases e : (ps.length : Int) == (l.length : Int)
  · have := eq_of_beq e; omega
  · rw [Bool.eq_false_iff.2 e] at h0
    cases hw : M.within den 1 200000000000 <;> rw [hw] at h0 <;> exact absurd h0 (by decide)
theorem w108 (q_l : Bool) (l : List Cask) (s : Sample) (den : Int) (q_ps : Bool) (ps : List Int) (hn : ∀ c, c ∈ l → c.nm.size ≤ 1000000) (hp : ps.length ≤ 1000) : (tr108 q_l l s den q_ps ps).wp (fun rs => rsEqv rs [.agg [.sl false l.length 7 (eC.F l), dI den, .sl false ps.length 1 (eI.F ps)], rI (M.openErr l s den ps)]) := by
  unfold tr108
  simp only [Enc.list_F]
  refine ⟨Enc.is_F _ _ _, hn, wp_br (fun hb => ?_) (fun hb => ?_)⟩
  · have hb : (M.taskErr l s != 0) = true := hb
    have : M.openErr l s den ps = M.taskErr l s := by unfold M.openErr; rw [hb]; rfl
    rw [this]
    exact ⟨⟨sl_eqv, rfl, sl_eqv, trivial⟩, rfl, trivial⟩
  · have hb : (M.taskErr l s != 0) = false := hb
    refine ⟨Enc.is_F _ _ _, Enc.is_F _ _ _, by omega, wp_br (fun hc => ?_) (fun hc => ?_)⟩
    · have : M.openErr l s den ps = M.partErr l den ps := by unfold M.openErr; rw [hb, hc]; rfl
      rw [this]
      exact ⟨⟨sl_eqv, rfl, sl_eqv, trivial⟩, rfl, trivial⟩
    · have hl := part_len hc
      have : M.openErr l s den ps = M.unl (M.sumP (fun _ => 1) l ps == IntKind.i64.wrap (den * s.vol)) 14 := by unfold M.openErr; rw [hb, hc]; rfl
      rw [this]
      exact ⟨Enc.is_F _ _ _, Enc.is_F _ _ _, by omega, hp, ⟨sl_eqv, rfl, sl_eqv, trivial⟩, rfl, trivial⟩
def dom78 : DomF
  | [.c (.int .i64 n), .c (.int .i64 d)] => some ([d ≠ 0, i64ok n, i64ok d], [.agg [dI (M.told1 n d), dI (M.told2 n d)]])
  | _ => none
def v78 : Nat × Sm := (78, fokSm dom78)
theorem C78 : FOK Try.prog G0 gw 78 dom78 := by
  intro ags p r hd hp κ w xs hw hl hG hx
  unfold dom78 at hd
  split at hd
  · rename_i n d
    simp only [Option.some.injEq, Prod.mk.injEq] at hd
    obtain ⟨rfl, rfl⟩ := hd
    have heq : agsEqv [.c (.int .i64 n), .c (.int .i64 d)] [.c (.int .i64 n), .c (.int .i64 d)] := ⟨Ag.eqv_refl _, Ag.eqv_refl _, trivial⟩
    exact fokX_fin mixed gw_stable (sl := []) trivial Try.func78 hw hl hG hx heq rfl (t78 n d) (w83 hp.1 hp.2.1 hp.2.2.1 (rsEqv_refl _))
  · cases hd
theorem S78 : SumOK Try.prog G0 gw 78 (fokSm dom78) := fok_sum Try.func78 rfl C78
def dom108 : DomF
  | [.c (.sl _ n_l st_l F_l), .agg [.int .i64 sv, .int .i64 l0, .int .i64 h0, .int .i64 l1, .int .i64 h1, .int .i64 l2, .int .i64 h2, .int .i64 l3, .int .i64 h3], .agg [.int .i64 den, .sl _ n_ps st_ps F_ps]] => (match Nat.beq st_l 7 && Nat.beq st_ps 1 with
    | true => some ([eC.Is n_l F_l, eI.Is n_ps F_ps, ∀ c, c ∈ (eC.list n_l F_l) → c.nm.size ≤ 1000000, (eI.list n_ps F_ps).length ≤ 1000], [.agg [.sl false n_l 7 (eC.F (eC.list n_l F_l)), dI den, .sl false n_ps 1 (eI.F (eI.list n_ps F_ps))], rI (M.openErr (eC.list n_l F_l) (⟨sv, ⟨l0, h0⟩, ⟨l1, h1⟩, ⟨l2, h2⟩, ⟨l3, h3⟩⟩ : Sample) den (eI.list n_ps F_ps))])
    | _ => none)
  | _ => none
def v108 : Nat × Sm := (108, fokSm dom108)
theorem C108 : FOK Try.prog G0 gw 108 dom108 := by
  intro ags p r hd hp κ w xs hw hl hG hx
  unfold dom108 at hd
  split at hd
  · rename_i q_l n_l st_l F_l sv l0 h0 l1 h1 l2 h2 l3 h3 den q_ps n_ps st_ps F_ps
    split at hd
    · rename_i hst
      simp only [Bool.and_eq_true] at hst
      obtain ⟨g1, g2⟩ := hst
      have g1 := Nat.eq_of_beq_eq_true g1
      have g2 := Nat.eq_of_beq_eq_true g2
      subst g1 g2
      simp only [Option.some.injEq, Prod.mk.injEq] at hd
      obtain ⟨rfl, rfl⟩ := hd
      obtain ⟨hI_l, hI_ps, hp⟩ := hp
      have heq : agsEqv [.c (.sl q_l n_l 7 F_l), .agg [.int .i64 sv, .int .i64 l0, .int .i64 h0, .int .i64 l1, .int .i64 h1, .int .i64 l2, .int .i64 h2, .int .i64 l3, .int .i64 h3], .agg [.int .i64 den, .sl q_ps n_ps 1 F_ps]] [.c (.sl q_l (eC.list n_l F_l).length 7 (eC.F (eC.list n_l F_l))), .agg [.int .i64 sv, .int .i64 l0, .int .i64 h0, .int .i64 l1, .int .i64 h1, .int .i64 l2, .int .i64 h2, .int .i64 l3, .int .i64 h3], .agg [.int .i64 den, .sl q_ps (eI.list n_ps F_ps).length 1 (eI.F (eI.list n_ps F_ps))]] := ⟨eC.to id hI_l, Ag.eqv_refl _, ⟨rfl, eI.to id hI_ps, trivial⟩, trivial⟩
      have len_l : (eC.list n_l F_l).length = n_l := eC.list_len
      have len_ps : (eI.list n_ps F_ps).length = n_ps := eI.list_len
      generalize eC.list n_l F_l = l at *
      generalize eI.list n_ps F_ps = ps at *
      subst len_l len_ps
      exact fokX_fin mixed gw_stable (sl := [v65, v49, v64, v106, v85, v80]) ⟨S65, S49, S64, S106, S85, S80, trivial⟩ Try.func108 hw hl hG hx heq rfl (t108 q_l l sv l0 h0 l1 h1 l2 h2 l3 h3 den q_ps ps) (w108 q_l l _ den q_ps ps hp.1 hp.2.1)
    · cases hd
  · cases hd
theorem S108 : SumOK Try.prog G0 gw 108 (fokSm dom108) := fok_sum Try.func108 rfl C108
end Go.Bl
end

section
set_option linter.unusedVariables false
set_option linter.unusedSimpArgs false
set_option maxRecDepth 100000
namespace Go.Bl
open Go.V Go.Proofs
theorem first_nil (l : List Int) (h : M.first l = 0) : ∀ x, x ∈ l → x = 0 := by
  induction l with
  | nil => intro x hx; cases hx
  | cons y t ih =>
    unfold M.first at h
    cases hy : y != 0
    · rw [hy] at h
      have hy0 : y = 0 := by simpa using hy
      intro x hx
      rcases List.mem_cons.1 hx with rfl | hx
      · exact hy0
      · exact ih h x hx
    · rw [hy] at h
      have h : y = 0 := h
      rw [h] at hy
      exact absurd hy (by decide)
theorem unl_zero {b : Bool} {e : Int} (he : e ≠ 0) (h : M.unl b e = 0) : b = true := by
  cases b with
  | true => rfl
  | false => exact absurd h he
theorem cond_zero {x y : Int} (h : (cond (x != 0) x y) = 0) : x = 0 ∧ y = 0 := by
  cases hx : x != 0
  · rw [hx] at h
    exact ⟨by simpa using hx, h⟩
  · rw [hx] at h
    have h : x = 0 := h
    rw [h] at hx
    exact absurd hx (by decide)
theorem casksFrom_zero {l : List Cask} : ∀ (n i : Nat), (M.casksFrom l n i).2 = 0 → ∀ j, i ≤ j → j < i + n → M.caskErr l j = 0
  | 0, i, _, j, h1, h2 => by omega
  | n + 1, i, h, j, h1, h2 => by
    unfold M.casksFrom at h
    cases hx : M.caskErr l i != 0
    · rw [hx] at h
      rcases Nat.eq_or_lt_of_le h1 with rfl | hlt
      · simpa using hx
      · exact casksFrom_zero n (i + 1) h j hlt (by omega)
    · rw [hx] at h
      have h : M.caskErr l i = 0 := h
      rw [h] at hx
      exact absurd hx (by decide)
theorem partFrom_zero {l : List Cask} {den : Int} {ps : List Int} : ∀ (n i : Nat), M.partFrom l den ps n i = 0 → ∀ j, i ≤ j → j < i + n → M.partAt l den ps j = 0
  | 0, i, _, j, h1, h2 => by omega
  | n + 1, i, h, j, h1, h2 => by
    unfold M.partFrom at h
    obtain ⟨a, b⟩ := cond_zero h
    rcases Nat.eq_or_lt_of_le h1 with rfl | hlt
    · exact a
    · exact partFrom_zero n (i + 1) b j hlt (by omega)
theorem within_spec {n lo hi : Int} (h : M.within n lo hi = true) : lo ≤ n ∧ n ≤ hi := by
  unfold M.within at h
  simp only [Bool.and_eq_true, decide_eq_true_eq] at h
  exact h
structure RightC (c : Cask) : Prop where
  vol : 0 ≤ c.vol ∧ c.vol ≤ 10000
  cost : 0 ≤ c.cost ∧ c.cost ≤ 1000
  k0 : 0 ≤ c.k0 ∧ c.k0 ≤ 1000
  k1 : 0 ≤ c.k1 ∧ c.k1 ≤ 1000
  k2 : 0 ≤ c.k2 ∧ c.k2 ≤ 1000
  k3 : 0 ≤ c.k3 ∧ c.k3 ≤ 1000
theorem rightC_spec {c : Cask} (h : M.rightC c = true) : RightC c := by
  unfold M.rightC at h
  cases h1 : M.within c.vol 0 10000
  · rw [h1] at h; cases h
  rw [h1] at h
  have h : cond (M.within c.cost 0 1000) (M.kindsOk c) false = true := h
  cases h2 : M.within c.cost 0 1000
  · rw [h2] at h; cases h
  rw [h2] at h
  have h : M.kindsOk c = true := h
  unfold M.kindsOk M.allB M.allB M.allB M.allB M.allB at h
  cases g0 : M.isValue c.k0
  · rw [g0] at h; cases h
  cases g1 : M.isValue c.k1
  · rw [g0, g1] at h; cases h
  cases g2 : M.isValue c.k2
  · rw [g0, g1, g2] at h; cases h
  cases g3 : M.isValue c.k3
  · rw [g0, g1, g2, g3] at h; cases h
  exact ⟨within_spec h1, within_spec h2, within_spec g0, within_spec g1, within_spec g2, within_spec g3⟩
/-- Right casks, at most four. -/
theorem casks_right {l : List Cask} (h : M.casksErr l = 0) : 1 ≤ l.length ∧ l.length ≤ 4 ∧ ∀ i, i < l.length → RightC (l.getD i dfC) := by
  unfold M.casksErr at h
  have h1 := first_nil _ h _ (List.mem_cons_self ..)
  have h2 := unl_zero (by decide) (first_nil _ h _ (List.mem_cons_of_mem _ (List.mem_cons_self ..)))
  have h2 : (l.length : Int) ≤ 4 := of_decide_eq_true h2
  unfold M.checkCasks at h1
  cases e0 : decide (l.length = 0)
  · rw [e0] at h1
    have h1 : (cond (decide (10 < l.length)) ((0 : Int), (8 : Int)) (M.casksFrom l l.length 0)).2 = 0 := h1
    rw [decide_eq_false (by omega)] at h1
    have h1 : (M.casksFrom l l.length 0).2 = 0 := h1
    have e0 : ¬ l.length = 0 := of_decide_eq_false e0
    refine ⟨by omega, by omega, fun i hi => ?_⟩
    have hc := casksFrom_zero _ _ h1 i (Nat.zero_le _) (by omega)
    unfold M.caskErr at hc
    exact rightC_spec (unl_zero (by decide) (first_nil _ hc _ (List.mem_cons_of_mem _ (List.mem_cons_of_mem _ (List.mem_cons_self ..)))))
  · rw [e0] at h1
    have h1 : (10 : Int) = 0 := h1
    exact absurd h1 (by decide)
structure RightP (l : List Cask) (den : Int) (ps : List Int) : Prop where
  len : ps.length = l.length
  den : 1 ≤ den ∧ den ≤ 200000000000
  part : ∀ i, i < l.length → 0 ≤ ps.getD i 0 ∧ ps.getD i 0 ≤ 2000000000000000
theorem parts_right {l : List Cask} {den : Int} {ps : List Int} (hl : ∀ i, i < l.length → RightC (l.getD i dfC)) (h : M.partErr l den ps = 0) : RightP l den ps := by
  have hlen := part_len (l := l) (den := den) (ps := ps) (by rw [h]; rfl)
  unfold M.partErr at h
  obtain ⟨h0, h1⟩ := cond_zero h
  unfold M.partHead at h0
  have hw := within_spec (unl_zero (by decide) (first_nil _ h0 _ (List.mem_cons_self ..)))
  refine ⟨hlen, hw, fun i hi => ?_⟩
  have ha := partFrom_zero _ _ h1 i (Nat.zero_le _) (by omega)
  unfold M.partAt at ha
  have a1 : ps.getD i 0 ≥ 0 := of_decide_eq_true (unl_zero (by decide) (first_nil _ ha _ (List.mem_cons_self ..)))
  have a2 : ps.getD i 0 ≤ IntKind.i64.wrap (den * (l.getD i dfC).vol) := of_decide_eq_true (unl_zero (by decide) (first_nil _ ha _ (List.mem_cons_of_mem _ (List.mem_cons_self ..))))
  have hv := (hl i hi).vol
  have hm0 : 0 ≤ den * (l.getD i dfC).vol := Int.mul_nonneg (by omega) hv.1
  have hm1 : den * (l.getD i dfC).vol ≤ 200000000000 * 10000 := Int.mul_le_mul hw.2 hv.2 hv.1 (by decide)
  rw [wrap_id (by omega) (by omega)] at a2
  exact ⟨a1, by omega⟩
/-- Sums, exactly. -/
def dot (g : Nat → Int) : Nat → Int
  | 0 => 0
  | n + 1 => dot g n + g n
theorem dot_congr {g h : Nat → Int} : ∀ {n : Nat}, (∀ i, i < n → g i = h i) → dot g n = dot h n
  | 0, _ => rfl
  | n + 1, e => by
    show dot g n + g n = dot h n + h n
    rw [dot_congr fun i hi => e i (by omega), e n (by omega)]
theorem fold_dot {f : Int → Nat → Int} {y : Nat → Int} {n : Nat} (hf : ∀ a i, i < n → f a i = IntKind.i64.wrap (a + y i)) (hy : ∀ i, i < n → (y i).natAbs ≤ 2000000000000000000) (hn : n ≤ 4) :
    (List.range n).foldl f 0 = dot y n ∧ (dot y n).natAbs ≤ n * 2000000000000000000 := by
  have key : ∀ k, k ≤ n → (List.range k).foldl f 0 = dot y k ∧ (dot y k).natAbs ≤ k * 2000000000000000000 := by
    intro k
    induction k with
    | zero => intro _; exact ⟨rfl, by show (0 : Int).natAbs ≤ _; simp⟩
    | succ k ih =>
      intro hk
      obtain ⟨h1, h2⟩ := ih (by omega)
      have hb := hy k (by omega)
      have e : dot y (k + 1) = dot y k + y k := rfl
      have hb' : (dot y (k + 1)).natAbs ≤ (k + 1) * 2000000000000000000 := by rw [e]; omega
      refine ⟨?_, hb'⟩
      rw [foldl_succ, h1, hf _ _ (by omega), ← e]
      exact wrap_id (by omega) (by omega)
  exact key n (Nat.le_refl n)
theorem mul_small {p w : Int} (hp : 0 ≤ p ∧ p ≤ 2000000000000000) (hw : w.natAbs ≤ 1000) : (p * w).natAbs ≤ 2000000000000000000 := by
  rw [Int.natAbs_mul]
  exact Nat.mul_le_mul (show p.natAbs ≤ 2000000000000000 by omega) hw
theorem dot_sub (p v : Nat → Int) (c : Int) : ∀ n, dot (fun i => p i * (v i - c)) n = dot (fun i => p i * v i) n - c * dot p n
  | 0 => by simp [dot]
  | n + 1 => by
    show dot (fun i => p i * (v i - c)) n + p n * (v n - c) = dot (fun i => p i * v i) n + p n * v n - c * (dot p n + p n)
    rw [dot_sub p v c n, Int.mul_sub, Int.mul_add, Int.mul_comm (p n) c]
    omega
theorem wrap_add_wrap (a b : Int) : IntKind.i64.wrap (a + IntKind.i64.wrap b) = IntKind.i64.wrap (a + b) := by
  simp only [IntKind.wrap_i64]; omega
section
variable {l : List Cask} {den : Int} {ps : List Int}
theorem sumP_eq (h4 : l.length ≤ 4) (hp : RightP l den ps) {of : Cask → Int} (hof : ∀ i, i < l.length → (of (l.getD i dfC)).natAbs ≤ 1000) :
    M.sumP of l ps = dot (fun i => ps.getD i 0 * of (l.getD i dfC)) l.length ∧ (M.sumP of l ps).natAbs ≤ l.length * 2000000000000000000 := by
  have h := fold_dot (f := fun a i => IntKind.i64.wrap (a + IntKind.i64.wrap (ps.getD i 0 * of (l.getD i dfC)))) (y := fun i => ps.getD i 0 * of (l.getD i dfC)) (n := l.length)
    (fun a i _ => wrap_add_wrap _ _) (fun i hi => mul_small (hp.part i hi) (hof i hi)) h4
  have e : M.sumP of l ps = (List.range l.length).foldl (fun a i => IntKind.i64.wrap (a + IntKind.i64.wrap (ps.getD i 0 * of (l.getD i dfC)))) 0 := by unfold M.sumP; rw [hp.len]
  rw [e, h.1]
  exact ⟨rfl, h.2⟩
theorem valL_eq (h4 : l.length ≤ 4) (hp : RightP l den ps) {of : Cask → Int} {c : Int} (hof : ∀ i, i < l.length → 0 ≤ of (l.getD i dfC) ∧ of (l.getD i dfC) ≤ 1000) (hc : 0 ≤ c ∧ c ≤ 1000) :
    M.valL l ps of c = dot (fun i => ps.getD i 0 * (of (l.getD i dfC) - c)) l.length ∧ (M.valL l ps of c).natAbs ≤ l.length * 2000000000000000000 := by
  have h := fold_dot (f := fun a i => IntKind.i64.wrap (a + IntKind.i64.wrap (ps.getD i 0 * IntKind.i64.wrap (of (l.getD i dfC) - c)))) (y := fun i => ps.getD i 0 * (of (l.getD i dfC) - c)) (n := l.length)
    (fun a i hi => by have := hof i hi; rw [wrap_add_wrap, wrap_id (n := of (l.getD i dfC) - c) (by omega) (by omega)]) (fun i hi => mul_small (hp.part i hi) (by have := hof i hi; omega)) h4
  have e : M.valL l ps of c = (List.range l.length).foldl (fun a i => IntKind.i64.wrap (a + IntKind.i64.wrap (ps.getD i 0 * IntKind.i64.wrap (of (l.getD i dfC) - c)))) 0 := rfl
  rw [e, h.1]
  exact ⟨rfl, h.2⟩
theorem vol_bound (h4 : l.length ≤ 4) (hp : RightP l den ps) : M.sumP (fun _ => 1) l ps = dot (fun i => ps.getD i 0) l.length ∧ 0 ≤ M.sumP (fun _ => 1) l ps ∧ M.sumP (fun _ => 1) l ps ≤ 8000000000000000 := by
  have h := (sumP_eq h4 hp (of := fun _ => 1) fun i hi => by decide).1
  have e : dot (fun i => ps.getD i 0 * 1) l.length = dot (fun i => ps.getD i 0) l.length := dot_congr fun i _ => Int.mul_one _
  rw [h, e]
  refine ⟨rfl, ?_⟩
  have key : ∀ k, k ≤ l.length → 0 ≤ dot (fun i => ps.getD i 0) k ∧ dot (fun i => ps.getD i 0) k ≤ k * 2000000000000000 := by
    intro k
    induction k with
    | zero => intro _; exact ⟨Int.le_refl _, by show (0 : Int) ≤ _; simp⟩
    | succ k ih =>
      intro hk
      have := ih (by omega)
      have hq := hp.part k (by omega)
      have e : dot (fun i => ps.getD i 0) (k + 1) = dot (fun i => ps.getD i 0) k + ps.getD k 0 := rfl
      rw [e]
      omega
  have := key _ (Nat.le_refl _)
  omega
/-- One kind: what is wanted too much or too little. -/
theorem kind_eq (h4 : l.length ≤ 4) (hp : RightP l den ps) {of : Cask → Int} {lo hi : Int} (hof : ∀ i, i < l.length → 0 ≤ of (l.getD i dfC) ∧ of (l.getD i dfC) ≤ 1000) (h0 : 0 ≤ lo ∧ lo ≤ 1000) (h1 : 0 ≤ hi ∧ hi ≤ 1000) :
    IntKind.i64.wrap (IntKind.i64.wrap (lo * M.sumP (fun _ => 1) l ps) - M.sumP of l ps) = 0 - M.valL l ps of lo ∧ IntKind.i64.wrap (M.sumP of l ps - IntKind.i64.wrap (hi * M.sumP (fun _ => 1) l ps)) = M.valL l ps of hi ∧
      IntKind.i64.wrap (0 - M.valL l ps of lo) = 0 - M.valL l ps of lo ∧ (M.valL l ps of lo).natAbs ≤ 8000000000000000000 ∧ (M.valL l ps of hi).natAbs ≤ 8000000000000000000 := by
  obtain ⟨v1, v2⟩ := valL_eq h4 hp hof h0
  obtain ⟨w1, w2⟩ := valL_eq h4 hp hof h1
  obtain ⟨s1, s2⟩ := sumP_eq h4 hp (of := of) fun i hi => by have := hof i hi; omega
  obtain ⟨u1, u2, u3⟩ := vol_bound h4 hp
  have d0 := dot_sub (fun i => ps.getD i 0) (fun i => of (l.getD i dfC)) lo l.length
  have d1 := dot_sub (fun i => ps.getD i 0) (fun i => of (l.getD i dfC)) hi l.length
  rw [← u1, ← s1, ← v1] at d0
  rw [← u1, ← s1, ← w1] at d1
  have m0 : 0 ≤ lo * M.sumP (fun _ => 1) l ps := Int.mul_nonneg h0.1 u2
  have m1 : lo * M.sumP (fun _ => 1) l ps ≤ 1000 * 8000000000000000 := Int.mul_le_mul h0.2 u3 u2 (by decide)
  have m2 : 0 ≤ hi * M.sumP (fun _ => 1) l ps := Int.mul_nonneg h1.1 u2
  have m3 : hi * M.sumP (fun _ => 1) l ps ≤ 1000 * 8000000000000000 := Int.mul_le_mul h1.2 u3 u2 (by decide)
  have b1 : (M.valL l ps of lo).natAbs ≤ 8000000000000000000 := by omega
  have b2 : (M.valL l ps of hi).natAbs ≤ 8000000000000000000 := by omega
  refine ⟨?_, ?_, wrap_id (by omega) (by omega), b1, b2⟩
  · rw [wrap_id (n := lo * M.sumP (fun _ => 1) l ps) (by omega) (by omega), wrap_id (by omega) (by omega)]
    omega
  · rw [wrap_id (n := hi * M.sumP (fun _ => 1) l ps) (by omega) (by omega), wrap_id (by omega) (by omega)]
    omega
end
end Go.Bl
end

section
set_option linter.unusedVariables false
set_option linter.unusedSimpArgs false
set_option maxRecDepth 100000
namespace Go.Bl
open Go.V Go.Proofs
namespace M
def badK (l : List Cask) (ps : List Int) (of : Cask → Int) (r : Rg) : Bool := decide (valL l ps of r.lo < 0) || decide (valL l ps of r.hi > 0)
def meetsR (l : List Cask) (s : Sample) (ps : List Int) : Bool := !(badK l ps (kOf 0) s.r0 || (badK l ps (kOf 1) s.r1 || (badK l ps (kOf 2) s.r2 || badK l ps (kOf 3) s.r3)))
end M
end Go.Bl
end

section
set_option linter.unusedVariables false
set_option linter.unusedSimpArgs false
set_option maxRecDepth 100000
namespace Go.Bl
open Go.V Go.Proofs
namespace M
def farK (l : List Cask) (ps : List Int) (of : Cask → Int) (r : Rg) (a : Int) : Int := mx (mx a (IntKind.i64.wrap (0 - valL l ps of r.lo))) (valL l ps of r.hi)
def farR (l : List Cask) (s : Sample) (ps : List Int) : Int := farK l ps (kOf 3) s.r3 (farK l ps (kOf 2) s.r2 (farK l ps (kOf 1) s.r1 (farK l ps (kOf 0) s.r0 0)))
def blendR (l : List Cask) (s : Sample) (den : Int) (ps : List Int) : Int × Int × Int := cond (openErr l s den ps != 0) (0, 0, openErr l s den ps) (cond (decide (away l ps s > 0)) (0, 0, 13) (told1 (sumP Cask.cost l ps) den, told2 (sumP Cask.cost l ps) den, 0))
end M
def resT (x : Int × Int × Int) : List Ar := [.agg [dI x.1, dI x.2.1], rI x.2.2]
def tr53 (l : List Cask) (s : Sample) (den : Int) (ps : List Int) : T (List Ar) :=
    T.need (Enc.Is eC (List.length l) (Enc.F eC l)) (T.need (Enc.Is eI (List.length ps) (Enc.F eI ps)) (T.need (∀ (c : Cask), c ∈ Enc.list eC (List.length l) (Enc.F eC l) → ByteArray.size (Cask.nm c) ≤ (1000000 : Nat)) (T.need (List.length (Enc.list eI (List.length ps) (Enc.F eI ps)) ≤ (1000 : Nat)) (T.br (M.openErr (Enc.list eC (List.length l) (Enc.F eC l)) s den (Enc.list eI (List.length ps) (Enc.F eI ps)) != (0 : Int)) (T.ret [Ar.agg [D.int IntKind.i64 (0 : Int), D.int IntKind.i64 (0 : Int)], Ar.c (D.int IntKind.i64 (M.openErr (Enc.list eC (List.length l) (Enc.F eC l)) s den (Enc.list eI (List.length ps) (Enc.F eI ps))))]) (T.need (Enc.Is eC (List.length l) (Enc.F eC (Enc.list eC (List.length l) (Enc.F eC l)))) (T.need (Enc.Is eI (List.length ps) (Enc.F eI (Enc.list eI (List.length ps) (Enc.F eI ps)))) (T.need (List.length (Enc.list eI (List.length ps) (Enc.F eI (Enc.list eI (List.length ps) (Enc.F eI ps)))) ≤ List.length (Enc.list eC (List.length l) (Enc.F eC (Enc.list eC (List.length l) (Enc.F eC l))))) (T.need (List.length (Enc.list eI (List.length ps) (Enc.F eI (Enc.list eI (List.length ps) (Enc.F eI ps)))) ≤ (1000 : Nat)) (T.br (decide (M.away (Enc.list eC (List.length l) (Enc.F eC (Enc.list eC (List.length l) (Enc.F eC l)))) (Enc.list eI (List.length ps) (Enc.F eI (Enc.list eI (List.length ps) (Enc.F eI ps)))) s > (0 : Int))) (T.ret [Ar.agg [D.int IntKind.i64 (0 : Int), D.int IntKind.i64 (0 : Int)], Ar.c (D.int IntKind.i64 (13 : Int))]) (T.need (Enc.Is eC (List.length l) (Enc.F eC (Enc.list eC (List.length l) (Enc.F eC l)))) (T.need (Enc.Is eI (List.length ps) (Enc.F eI (Enc.list eI (List.length ps) (Enc.F eI ps)))) (T.need (List.length ps ≤ List.length l) (T.need (List.length ps ≤ (1000 : Nat)) (T.need (den ≠ (0 : Int)) (T.need (Int.natAbs den < (9223372036854775808 : Nat)) (T.need (Int.natAbs (M.sumP Cask.cost (Enc.list eC (List.length l) (Enc.F eC (Enc.list eC (List.length l) (Enc.F eC l)))) (Enc.list eI (List.length ps) (Enc.F eI (Enc.list eI (List.length ps) (Enc.F eI ps))))) < (9223372036854775808 : Nat)) (T.ret [Ar.agg [D.int IntKind.i64 (M.told1 (M.sumP Cask.cost (Enc.list eC (List.length l) (Enc.F eC (Enc.list eC (List.length l) (Enc.F eC l)))) (Enc.list eI (List.length ps) (Enc.F eI (Enc.list eI (List.length ps) (Enc.F eI ps))))) den), D.int IntKind.i64 (M.told2 (M.sumP Cask.cost (Enc.list eC (List.length l) (Enc.F eC (Enc.list eC (List.length l) (Enc.F eC l)))) (Enc.list eI (List.length ps) (Enc.F eI (Enc.list eI (List.length ps) (Enc.F eI ps))))) den)], Ar.c (D.int IntKind.i64 (0 : Int))])))))))))))))))))
theorem t53 (q_l : Bool) (l : List Cask) (sv l0 h0 l1 h1 l2 h2 l3 h3 : Int) (den : Int) (q_ps : Bool) (ps : List Int) : runFnX Try.prog G0 (lookS [v108, v84, v68]) (fun _ => []) [] 1 20 3 53 Try.f53 [.c (.sl q_l l.length 7 (eC.F l)), .agg [dI sv, dI l0, dI h0, dI l1, dI h1, dI l2, dI h2, dI l3, dI h3], .agg [dI den, .sl q_ps ps.length 1 (eI.F ps)]] =
    tr53 l (⟨sv, ⟨l0, h0⟩, ⟨l1, h1⟩, ⟨l2, h2⟩, ⟨l3, h3⟩⟩ : Sample) den ps := by kernel_rfl
structure OpenR (l : List Cask) (s : Sample) (den : Int) (ps : List Int) : Prop where
  n4 : l.length ≤ 4
  right : ∀ i, i < l.length → RightC (l.getD i dfC)
  parts : RightP l den ps
  vol : M.sumP (fun _ => 1) l ps ≠ 0
  r0 : (0 ≤ s.r0.lo ∧ s.r0.lo ≤ 1000) ∧ (0 ≤ s.r0.hi ∧ s.r0.hi ≤ 1000)
  r1 : (0 ≤ s.r1.lo ∧ s.r1.lo ≤ 1000) ∧ (0 ≤ s.r1.hi ∧ s.r1.hi ≤ 1000)
  r2 : (0 ≤ s.r2.lo ∧ s.r2.lo ≤ 1000) ∧ (0 ≤ s.r2.hi ∧ s.r2.hi ≤ 1000)
  r3 : (0 ≤ s.r3.lo ∧ s.r3.lo ≤ 1000) ∧ (0 ≤ s.r3.hi ∧ s.r3.hi ≤ 1000)
theorem rg_right {r : Rg} (h : M.rgErr r = 0) : (0 ≤ r.lo ∧ r.lo ≤ 1000) ∧ (0 ≤ r.hi ∧ r.hi ≤ 1000) := by
  unfold M.rgErr at h
  have h1 := unl_zero (by decide) (first_nil _ h _ (List.mem_cons_self ..))
  rw [Bool.and_eq_true] at h1
  exact ⟨within_spec h1.1, within_spec h1.2⟩
theorem open_right {l : List Cask} {s : Sample} {den : Int} {ps : List Int} (h : (M.openErr l s den ps != 0) = false) : OpenR l s den ps := by
  have h : M.openErr l s den ps = 0 := by simpa using h
  unfold M.openErr at h
  obtain ⟨h1, h⟩ := cond_zero h
  obtain ⟨h2, h3⟩ := cond_zero h
  unfold M.taskErr at h1
  obtain ⟨_, c4, cr⟩ := casks_right (first_nil _ h1 _ (List.mem_cons_self ..))
  have hs := first_nil _ h1 _ (List.mem_cons_of_mem _ (List.mem_cons_self ..))
  have hp := parts_right cr h2
  have h3 := unl_zero (by decide) h3
  have h3 : M.sumP (fun _ => 1) l ps = IntKind.i64.wrap (den * s.vol) := by simpa using h3
  unfold M.checkSample at hs
  cases hw : M.within s.vol 1 10000
  · rw [hw] at hs
    have hs : (2 : Int) = 0 := hs
    exact absurd hs (by decide)
  rw [hw] at hs
  have hs : M.first [M.rgErr s.r0, M.rgErr s.r1, M.rgErr s.r2, M.rgErr s.r3] = 0 := hs
  have hz := first_nil _ hs
  have hv := within_spec hw
  have hd := hp.den
  have m0 : 1 * 1 ≤ den * s.vol := Int.mul_le_mul hd.1 hv.1 (by decide) (by omega)
  have m1 : den * s.vol ≤ 200000000000 * 10000 := Int.mul_le_mul hd.2 hv.2 (by omega) (by decide)
  rw [wrap_id (by omega) (by omega)] at h3
  exact ⟨c4, cr, hp, by omega, rg_right (hz _ (by simp)), rg_right (hz _ (by simp)), rg_right (hz _ (by simp)), rg_right (hz _ (by simp))⟩
theorem mx_le {a b c : Int} : M.mx a b ≤ c ↔ a ≤ c ∧ b ≤ c := by unfold M.mx; split <;> omega
theorem mx_b {a b : Int} {B : Nat} (h1 : a.natAbs ≤ B) (h2 : b.natAbs ≤ B) : (M.mx a b).natAbs ≤ B := by unfold M.mx; split <;> assumption
section
variable {l : List Cask} {s : Sample} {den : Int} {ps : List Int}
theorem far_away (h : OpenR l s den ps) : M.farR l s ps = M.away l ps s ∧ (M.away l ps s).natAbs ≤ 8000000000000000000 ∧ M.meetsR l s ps = !decide (M.away l ps s > 0) := by
  obtain ⟨a1, a2, a3, a4, a5⟩ := kind_eq h.n4 h.parts (of := M.kOf 0) (fun i hi => (h.right i hi).k0) h.r0.1 h.r0.2
  obtain ⟨b1, b2, b3, b4, b5⟩ := kind_eq h.n4 h.parts (of := M.kOf 1) (fun i hi => (h.right i hi).k1) h.r1.1 h.r1.2
  obtain ⟨c1, c2, c3, c4, c5⟩ := kind_eq h.n4 h.parts (of := M.kOf 2) (fun i hi => (h.right i hi).k2) h.r2.1 h.r2.2
  obtain ⟨d1, d2, d3, d4, d5⟩ := kind_eq h.n4 h.parts (of := M.kOf 3) (fun i hi => (h.right i hi).k3) h.r3.1 h.r3.2
  unfold M.farR M.farK M.away M.awayK M.meetsR M.badK
  rw [a1, a2, a3, b1, b2, b3, c1, c2, c3, d1, d2, d3]
  refine ⟨rfl, ?_, ?_⟩
  · repeat' apply mx_b
    all_goals omega
  · generalize M.valL l ps (M.kOf 0) s.r0.lo = p0 at *
    generalize M.valL l ps (M.kOf 0) s.r0.hi = q0 at *
    generalize M.valL l ps (M.kOf 1) s.r1.lo = p1 at *
    generalize M.valL l ps (M.kOf 1) s.r1.hi = q1 at *
    generalize M.valL l ps (M.kOf 2) s.r2.lo = p2 at *
    generalize M.valL l ps (M.kOf 2) s.r2.hi = q2 at *
    generalize M.valL l ps (M.kOf 3) s.r3.lo = p3 at *
    generalize M.valL l ps (M.kOf 3) s.r3.hi = q3 at *
    rw [Bool.eq_iff_iff]
    simp only [Bool.not_eq_true', Bool.or_eq_false_iff, decide_eq_false_iff_not, gt_iff_lt, Int.not_lt, mx_le]
    constructor
    · rintro ⟨⟨x1, x2⟩, ⟨x3, x4⟩, ⟨x5, x6⟩, x7, x8⟩
      refine ⟨⟨⟨⟨⟨⟨⟨⟨?_, ?_⟩, ?_⟩, ?_⟩, ?_⟩, ?_⟩, ?_⟩, ?_⟩, ?_⟩ <;> omega
    · rintro ⟨⟨⟨⟨⟨⟨⟨⟨x0, x1⟩, x2⟩, x3⟩, x4⟩, x5⟩, x6⟩, x7⟩, x8⟩
      refine ⟨⟨?_, ?_⟩, ⟨?_, ?_⟩, ⟨?_, ?_⟩, ?_, ?_⟩ <;> omega
theorem cost_ok (h : OpenR l s den ps) : i64ok (M.sumP Cask.cost l ps) := by
  have := (sumP_eq h.n4 h.parts (of := Cask.cost) fun i hi => by have := (h.right i hi).cost; omega).2
  have := h.n4
  unfold i64ok; omega
end
end Go.Bl
end

section
set_option linter.unusedVariables false
set_option linter.unusedSimpArgs false
set_option maxRecDepth 100000
namespace Go.Bl
open Go.V Go.Proofs
section
variable {l : List Cask} {s : Sample} {den : Int} {ps : List Int}
theorem blendR_err (h : (M.openErr l s den ps != 0) = true) : M.blendR l s den ps = (0, 0, M.openErr l s den ps) := by unfold M.blendR; rw [h]; rfl
theorem blendR_ok (h : (M.openErr l s den ps != 0) = false) : M.blendR l s den ps = cond (decide (M.away l ps s > 0)) (0, 0, 13) (M.told1 (M.sumP Cask.cost l ps) den, M.told2 (M.sumP Cask.cost l ps) den, 0) := by unfold M.blendR; rw [h]; rfl
theorem den_ok (h : OpenR l s den ps) : den ≠ 0 ∧ i64ok den := by
  have := h.parts.den
  unfold i64ok; omega
end
theorem w53 (l : List Cask) (s : Sample) (den : Int) (ps : List Int) (hn : ∀ c, c ∈ l → c.nm.size ≤ 1000000) (hp : ps.length ≤ 1000) : (tr53 l s den ps).wp (fun rs => rsEqv rs (resT (M.blendR l s den ps))) := by
  unfold tr53
  simp only [Enc.list_F]
  refine ⟨Enc.is_F _ _ _, Enc.is_F _ _ _, hn, hp, wp_br (fun hb => ?_) (fun hb => ?_)⟩
  · rw [blendR_err hb]; exact rsEqv_refl _
  · have ho := open_right hb
    have hl := ho.parts.len
    rw [blendR_ok hb]
    refine ⟨Enc.is_F _ _ _, Enc.is_F _ _ _, by omega, hp, wp_br (fun hc => ?_) (fun hc => ?_)⟩
    · rw [hc]; exact rsEqv_refl _
    · rw [hc]
      exact ⟨Enc.is_F _ _ _, Enc.is_F _ _ _, by omega, hp, (den_ok ho).1, (den_ok ho).2, cost_ok ho, rsEqv_refl _⟩
def dom53 : DomF
  | [.c (.sl _ n_l st_l F_l), .agg [.int .i64 sv, .int .i64 l0, .int .i64 h0, .int .i64 l1, .int .i64 h1, .int .i64 l2, .int .i64 h2, .int .i64 l3, .int .i64 h3], .agg [.int .i64 den, .sl _ n_ps st_ps F_ps]] => (match Nat.beq st_l 7 && Nat.beq st_ps 1 with
    | true => some ([eC.Is n_l F_l, eI.Is n_ps F_ps, ∀ c, c ∈ (eC.list n_l F_l) → c.nm.size ≤ 1000000, (eI.list n_ps F_ps).length ≤ 1000], resT (M.blendR (eC.list n_l F_l) (⟨sv, ⟨l0, h0⟩, ⟨l1, h1⟩, ⟨l2, h2⟩, ⟨l3, h3⟩⟩ : Sample) den (eI.list n_ps F_ps)))
    | _ => none)
  | _ => none
def v53 : Nat × Sm := (53, fokSm dom53)
theorem C53 : FOK Try.prog G0 gw 53 dom53 := by
  intro ags p r hd hp κ w xs hw hl hG hx
  unfold dom53 at hd
  split at hd
  · rename_i q_l n_l st_l F_l sv l0 h0 l1 h1 l2 h2 l3 h3 den q_ps n_ps st_ps F_ps
    split at hd
    · rename_i hst
      simp only [Bool.and_eq_true] at hst
      obtain ⟨g1, g2⟩ := hst
      have g1 := Nat.eq_of_beq_eq_true g1
      have g2 := Nat.eq_of_beq_eq_true g2
      subst g1 g2
      simp only [Option.some.injEq, Prod.mk.injEq] at hd
      obtain ⟨rfl, rfl⟩ := hd
      obtain ⟨hI_l, hI_ps, hp⟩ := hp
      have heq : agsEqv [.c (.sl q_l n_l 7 F_l), .agg [.int .i64 sv, .int .i64 l0, .int .i64 h0, .int .i64 l1, .int .i64 h1, .int .i64 l2, .int .i64 h2, .int .i64 l3, .int .i64 h3], .agg [.int .i64 den, .sl q_ps n_ps 1 F_ps]] [.c (.sl q_l (eC.list n_l F_l).length 7 (eC.F (eC.list n_l F_l))), .agg [.int .i64 sv, .int .i64 l0, .int .i64 h0, .int .i64 l1, .int .i64 h1, .int .i64 l2, .int .i64 h2, .int .i64 l3, .int .i64 h3], .agg [.int .i64 den, .sl q_ps (eI.list n_ps F_ps).length 1 (eI.F (eI.list n_ps F_ps))]] := ⟨eC.to id hI_l, Ag.eqv_refl _, ⟨rfl, eI.to id hI_ps, trivial⟩, trivial⟩
      have len_l : (eC.list n_l F_l).length = n_l := eC.list_len
      have len_ps : (eI.list n_ps F_ps).length = n_ps := eI.list_len
      generalize eC.list n_l F_l = l at *
      generalize eI.list n_ps F_ps = ps at *
      subst len_l len_ps
      exact fokX_fin mixed gw_stable (sl := [v108, v84, v68]) ⟨S108, S84, S68, trivial⟩ Try.func53 hw hl hG hx heq rfl (t53 q_l l sv l0 h0 l1 h1 l2 h2 l3 h3 den q_ps ps) (w53 l _ den ps hp.1 hp.2.1)
    · cases hd
  · cases hd
theorem S53 : SumOK Try.prog G0 gw 53 (fokSm dom53) := fok_sum Try.func53 rfl C53
end Go.Bl
end

section
set_option linter.unusedVariables false
set_option linter.unusedSimpArgs false
set_option maxRecDepth 100000
namespace Go.Bl
open Go.V Go.Proofs
end Go.Bl
end

section
set_option linter.unusedVariables false
set_option linter.unusedSimpArgs false
set_option maxRecDepth 100000
namespace Go.Bl
open Go.V Go.Proofs
def dom129 : DomF
  | [.c (.int .i64 n)] => some ([], [rB (M.within n 0 100000000000000)])
  | _ => none
def v129 : Nat × Sm := (129, fokSm dom129)
theorem t129 (n : Int) : runFnX Try.prog G0 (lookS [v102]) (fun _ => []) [] 1 40 3 129 Try.f129 [.c (dI n)] =
    T.ret [Ar.c (D.bool (M.within n (0 : Int) (100000000000000 : Int)))] := by kernel_rfl
theorem C129 : FOK Try.prog G0 gw 129 dom129 := by
  intro ags p r hd hp κ w xs hw hl hG hx
  unfold dom129 at hd
  split at hd
  · rename_i n
    simp only [Option.some.injEq, Prod.mk.injEq] at hd
    obtain ⟨rfl, rfl⟩ := hd
    refine fokX_fin mixed gw_stable (sl := [v102]) ⟨S102, trivial⟩ Try.func129 hw hl hG hx (agsEqv_refl _) rfl (t129 n) ?_
    exact rsEqv_refl _
  · cases hd
theorem S129 : SumOK Try.prog G0 gw 129 (fokSm dom129) := fok_sum Try.func129 rfl C129
def v103w : Nat × Sm := (103, fokSm (dom103 129 M.isWeight))
theorem t103w (q : Bool) (l : List Int) : runFnX Try.prog G0 (lookS [v129]) (fun _ => [(2, [.slot 8 (.int .i64)], none)]) [127, 146, 128] 1 40 6 103 Try.f103 [.c (.sl q l.length 1 (eI.F l)), .c (.op (.func (.func 129) #[] #[]))] =
    T.loop (Int × PUnit) ((0 : Int), PUnit.unit) fun (x : Int × PUnit) => T.br (decide (Prod.fst x < (Nat.cast (R := Int) (List.length l)))) (T.need ((0 : Int) ≤ Prod.fst x) (T.need (Prod.fst x < (Nat.cast (R := Int) (List.length l))) (T.br (!M.within (List.getD l (Int.toNat (Prod.fst x)) (0 : Int)) (0 : Int) (100000000000000 : Int)) (T.ret (Sum.inr [Ar.c (D.bool !decide (Prod.fst x ≥ (0 : Int)))])) (T.ret (Sum.inl (IntKind.wrap IntKind.i64 (Prod.fst x + (1 : Int)), PUnit.unit)))))) (T.ret (Sum.inr [Ar.c (D.bool !decide ((-1 : Int) ≥ (0 : Int)))])) := by kernel_rfl
theorem C103w : FOK Try.prog G0 gw 103 (dom103 129 M.isWeight) := by
  intro ags p r hd hp κ w xs hw hl hG hx
  unfold dom103 at hd
  split at hd
  · rename_i q len st F g a b
    split at hd
    · rename_i hst ha hb
      simp only [Bool.and_eq_true] at hst
      have h1 := Nat.eq_of_beq_eq_true hst.1
      have h2 := Nat.eq_of_beq_eq_true hst.2
      have ea : a = #[] := by apply Array.ext'; simpa using ha
      have eb : b = #[] := by apply Array.ext'; simpa using hb
      subst h1 h2 ea eb
      simp only [Option.some.injEq, Prod.mk.injEq] at hd
      obtain ⟨rfl, rfl⟩ := hd
      obtain ⟨hIs, hn, _⟩ := hp
      obtain ⟨l, hll⟩ : ∃ l, l = eI.list len F := ⟨_, rfl⟩
      have hlen : len = l.length := by rw [hll, Enc.list_len]
      have heq : agsEqv [.c (.sl q len 1 F), .c (.op (.func (.func 129) #[] #[]))] [.c (.sl q l.length 1 (eI.F l)), .c (.op (.func (.func 129) #[] #[]))] := by
        refine ⟨?_, Ag.eqv_refl _, trivial⟩
        rw [hll]; exact eI.to id hIs
      rw [← hll]
      refine fokX_fin mixed gw_stable (sl := [v129]) ⟨S129, trivial⟩ Try.func103 hw hl hG hx heq rfl (t103w q l) ?_
      clear heq hx hIs hll hl hG
      subst hlen
      refine ⟨fun x => 0 ≤ x.1 ∧ x.1 ≤ l.length ∧ M.allB M.isWeight l = M.allB M.isWeight (l.drop x.1.toNat), fun x => l.length - x.1.toNat, ⟨Int.le_refl _, by simp, by simp⟩, ?_⟩
      rintro ⟨k, u⟩ ⟨g1, g2, g3⟩
      simp only at g1 g2 g3
      refine ⟨fun hlt => ?_, fun hge => ?_⟩
      · have hlt : k < l.length := by simpa using hlt
        have hk : k.toNat < l.length := by omega
        have hdrop : M.allB M.isWeight l = cond (M.within (l.getD k.toNat 0) 0 100000000000000) (M.allB M.isWeight (l.drop (k.toNat + 1))) false := by
          rw [g3, getD_drop (d := 0) hk]; rfl
        refine ⟨g1, hlt, fun hb => ?_, fun hb => ?_⟩
        · have hb : M.within (l.getD k.toNat 0) 0 100000000000000 = false := by simpa using hb
          rw [hdrop, hb]
          have hk0 : (!decide (k ≥ 0)) = false := by simp [g1]
          show rsEqv [Ar.c (D.bool (!decide (k ≥ 0)))] _
          rw [hk0]
          exact rsEqv_refl _
        · have hb : M.within (l.getD k.toNat 0) 0 100000000000000 = true := by simpa using hb
          show _ ∧ _
          have e2 : IntKind.wrap IntKind.i64 (k + 1) = k + 1 := wrap_id (by omega) (by omega)
          simp only [e2]
          refine ⟨⟨by omega, by omega, ?_⟩, by omega⟩
          rw [hdrop, hb, show (k + 1).toNat = k.toNat + 1 by omega]
          rfl
      · have hge : ¬ k < l.length := by simpa using hge
        rw [g3, List.drop_of_length_le (l := l) (by omega)]
        exact rsEqv_refl _
    · cases hd
  · cases hd
theorem S103w : SumOK Try.prog G0 gw 103 (fokSm (dom103 129 M.isWeight)) := fok_sum Try.func103 rfl C103w
end Go.Bl
end

section
set_option linter.unusedVariables false
set_option linter.unusedSimpArgs false
namespace Go.Lp
def smI {α : Type} (g : α → Int) : List α → Int
  | [] => 0
  | a :: l => g a + smI g l
section
variable {α β γ : Type}
theorem smI_congr {g h : α → Int} : ∀ {l : List α}, (∀ a, a ∈ l → g a = h a) → smI g l = smI h l := by
  intro l
  induction l with
  | nil => intro _; rfl
  | cons a l ih => intro e; simp only [smI]; rw [e a (List.mem_cons_self ..), ih fun b hb => e b (List.mem_cons_of_mem _ hb)]
theorem smI_append {g : α → Int} : ∀ {l k : List α}, smI g (l ++ k) = smI g l + smI g k := by
  intro l
  induction l with
  | nil => intro k; simp only [List.nil_append, smI]; omega
  | cons a l ih => intro k; simp only [List.cons_append, smI]; rw [ih]; omega
theorem smI_add {g h : α → Int} : ∀ {l : List α}, smI (fun a => g a + h a) l = smI g l + smI h l := by
  intro l
  induction l with
  | nil => simp only [smI]; omega
  | cons a l ih => simp only [smI]; rw [ih]; omega
theorem smI_neg {g : α → Int} : ∀ {l : List α}, smI (fun a => - g a) l = - smI g l := by
  intro l
  induction l with
  | nil => simp only [smI]; omega
  | cons a l ih => simp only [smI]; rw [ih]; omega
theorem smI_smul {k : Int} {g : α → Int} : ∀ {l : List α}, smI (fun a => k * g a) l = k * smI g l := by
  intro l
  induction l with
  | nil => simp only [smI]; omega
  | cons a l ih => simp only [smI]; rw [ih, Int.mul_add]
theorem smI_zero : ∀ {l : List α}, smI (fun _ => (0 : Int)) l = 0 := by
  intro l
  induction l with
  | nil => rfl
  | cons a l ih => simp only [smI]; rw [ih]; omega
theorem smI_le {g h : α → Int} : ∀ {l : List α}, (∀ a, a ∈ l → g a ≤ h a) → smI g l ≤ smI h l := by
  intro l
  induction l with
  | nil => intro _; exact Int.le_refl _
  | cons a l ih =>
    intro e
    have h1 := e a (List.mem_cons_self ..)
    have h2 := ih fun b hb => e b (List.mem_cons_of_mem _ hb)
    simp only [smI]
    omega
end
end Go.Lp
end

section
set_option linter.unusedVariables false
set_option linter.unusedSimpArgs false
set_option maxRecDepth 100000
namespace Go.Bl
open Go.V Go.Proofs Go.Lp
theorem en_set {r : List Int} {k c : Nat} {v : Int} (hk : k < r.length) : en (r.set k v) c = if c = k then v else en r c := by
  unfold en
  rw [List.getD_eq_getElem?_getD, List.getElem?_set]
  by_cases h : k = c
  · subst h; simp [hk]
  · rw [if_neg h, if_neg (fun e => h e.symm), ← List.getD_eq_getElem?_getD]
theorem getD_mem {α : Type} {l : List α} {d : α} {i : Nat} (h : i < l.length) : l.getD i d ∈ l := by
  rw [List.getD_eq_getElem?_getD, List.getElem?_eq_getElem h]; exact List.getElem_mem h
theorem setCol_len {m : List (List Int)} {k : Nat} {r : List Int} : (M.setCol m k r).length = m.length := by simp [M.setCol]
theorem small_fact : ∀ n, n ≤ 5 → ∀ k, k < 5 → fact n * pK (fun c => if c = k then 10000 else 1000) (List.range n) < 9223372036854775808 := by decide +kernel
/-- A square of small numbers. -/
structure Sq (n : Nat) (m : List (List Int)) : Prop where
  n5 : n ≤ 5
  len : m.length = n
  row : ∀ r, r ∈ m → r.length = n
  ent : ∀ r, r ∈ m → ∀ c, (en r c).natAbs ≤ 1000
theorem Sq.turned {n : Nat} {m : List (List Int)} (h : Sq n m) : Sq n (M.turned m) := by
  refine ⟨h.n5, turned_len.1.trans h.len, fun r hr => (turned_len.2 r hr).trans h.len, fun r hr c => getD_small (fun x hx => ?_) c⟩
  unfold M.turned at hr
  obtain ⟨k, _, rfl⟩ := List.mem_map.1 hr
  obtain ⟨i, hi, rfl⟩ := List.mem_map.1 hx
  exact h.ent _ (getD_mem (List.mem_range.1 hi)) k
theorem Sq.det {n : Nat} {m : List (List Int)} (h : Sq n m) : M.det m = DI en m (List.range n) := det_small h.n5 h.len h.row h.ent
theorem Sq.set {n k : Nat} {m : List (List Int)} {r : List Int} (h : Sq n m) (hr : ∀ i, (r.getD i 0).natAbs ≤ 10000) (hk : k < n) :
    M.det (M.setCol m k r) = DI en (M.setCol m k r) (List.range n) ∧ (DI en (M.setCol m k r) (List.range n)).natAbs < 9223372036854775808 := by
  have hK := small_fact n h.n5 k (by have := h.n5; omega)
  have hrow : ∀ x, x ∈ M.setCol m k r → x.length = n := by
    intro x hx
    unfold M.setCol at hx
    obtain ⟨i, hi, rfl⟩ := List.mem_map.1 hx
    rw [List.length_set]
    exact h.row _ (getD_mem (List.mem_range.1 hi))
  have hent : ∀ x, x ∈ M.setCol m k r → ∀ c, (en x c).natAbs ≤ (if c = k then 10000 else 1000) := by
    intro x hx c
    unfold M.setCol at hx
    obtain ⟨i, hi, rfl⟩ := List.mem_map.1 hx
    have hm := getD_mem (d := ([] : List Int)) (List.mem_range.1 hi)
    rw [en_set (by rw [h.row _ hm]; exact hk)]
    split
    · exact hr i
    · exact h.ent _ hm c
  constructor
  · exact det_eq (K := fun c => if c = k then 10000 else 1000) h.n5 (fun c => by split <;> decide) (by rw [setCol_len]; exact h.len) hrow (fun x hx c _ => hent x hx c) hK
  · refine Nat.lt_of_le_of_lt (DI_bound (K := fun c => if c = k then 10000 else 1000) (by simp [setCol_len, h.len]) fun x hx c _ => hent x hx c) ?_
    rw [List.length_range]; exact hK
/-- Numbers times numbers. -/
def dl (n : Nat) (a b : List Int) : Int := smI (fun c => en a c * en b c) (List.range n)
end Go.Bl
end

section
set_option linter.unusedVariables false
set_option linter.unusedSimpArgs false
set_option maxRecDepth 100000
namespace Go.Bl
open Go.V Go.Proofs Go.Lp
def dK : Cond := ⟨0, 0, [], 0⟩
/-- Small numbers of a programme. -/
structure Small (n : Nat) (sh wo : List Int) (sum : Int) (cs : List Cond) : Prop where
  n1 : 1 ≤ n
  n5 : n ≤ 5
  sl : sh.length = n
  wl : wo.length = n
  she : ∀ x, x ∈ sh → x.natAbs ≤ 1000
  woe : ∀ x, x ∈ wo → x.natAbs ≤ 1000
  sume : sum.natAbs ≤ 10000
  cl : ∀ c, c ∈ cs → c.coefs.length = n
  ce : ∀ c, c ∈ cs → ∀ x, x ∈ c.coefs → x.natAbs ≤ 1000
  le : ∀ c, c ∈ cs → c.limit.natAbs ≤ 10000
  keep : ∀ set : List Cond, set.length + 1 = n → (∀ c, c ∈ set → c ∈ cs) → DI en (M.mat sh set) (List.range n) ≠ 0 → ∀ c, c ∈ cs →
    M.dot c.coefs (M.sol (M.mat sh set) (M.right sum set)) 0 = dl n c.coefs (M.sol (M.mat sh set) (M.right sum set)) ∧ IntKind.i64.wrap (c.limit * M.den (M.mat sh set) (M.right sum set)) = c.limit * M.den (M.mat sh set) (M.right sum set)
theorem right_small {sum : Int} {cs set : List Cond} (sume : sum.natAbs ≤ 10000) (le : ∀ c, c ∈ cs → c.limit.natAbs ≤ 10000) (hm : ∀ c, c ∈ set → c ∈ cs) (i : Nat) : ((M.right sum set).getD i 0).natAbs ≤ 10000 := by
  refine getD_small (l := M.right sum set) (fun x hx => ?_) i
  rcases List.mem_cons.1 hx with rfl | hx
  · exact sume
  · obtain ⟨c, hcm, rfl⟩ := List.mem_map.1 hx
    exact le c (hm c hcm)
section
variable {n : Nat} {sh wo : List Int} {sum : Int} {cs : List Cond}
theorem Small.rs (h : Small n sh wo sum cs) {set : List Cond} (hm : ∀ c, c ∈ set → c ∈ cs) (i : Nat) : ((M.right sum set).getD i 0).natAbs ≤ 10000 := right_small h.sume h.le hm i
theorem Small.ws (h : Small n sh wo sum cs) (i : Nat) : (wo.getD i 0).natAbs ≤ 10000 := getD_small (l := wo) (fun x hx => Nat.le_trans (h.woe x hx) (by decide)) i
/-- A corner whose weights are right. -/
structure Opt (n : Nat) (sh : List Int) (sum : Int) (wo : List Int) (cs : List Cond) (x : M.Corner) : Prop where
  sub : x.tight.Sublist cs
  tl : x.tight.length + 1 = n
  den : 0 < x.den
  wd : 0 < x.wd
  pl : x.pt.length = n
  bl : x.by_.length = x.tight.length
  sum : dl n sh x.pt = sum * x.den
  all : ∀ c, c ∈ cs → dl n c.coefs x.pt ≤ c.limit * x.den
  eq : ∀ q, q < x.tight.length → dl n (x.tight.getD q dK).coefs x.pt = (x.tight.getD q dK).limit * x.den
  nn : ∀ q, q < x.tight.length → 0 ≤ en x.by_ q
  dual : ∀ j, j < n → x.each * en sh j - smI (fun q => en x.by_ q * en (x.tight.getD q dK).coefs j) (List.range x.tight.length) = en wo j * x.wd
  denE : x.den = ((DI en (M.mat sh x.tight) (List.range n)).natAbs : Int)
  wdE : x.wd = ((DI en (M.mat sh x.tight) (List.range n)).natAbs : Int)
  eachE : x.each.natAbs = (DI en (M.setCol (M.turned (M.mat sh x.tight)) 0 wo) (List.range n)).natAbs
  byE : ∀ q, q < x.tight.length → (en x.by_ q).natAbs = (DI en (M.setCol (M.turned (M.mat sh x.tight)) (q + 1) wo) (List.range n)).natAbs
end
end Go.Bl
end

section
set_option linter.unusedVariables false
set_option linter.unusedSimpArgs false
set_option maxRecDepth 100000
namespace Go.Bl
open Go.V Go.Proofs Go.Lp
theorem smI_succ {g : Nat → Int} {n : Nat} : smI g (List.range (n + 1)) = smI g (List.range n) + g n := by
  rw [List.range_succ, smI_append]; simp only [smI]; omega
theorem smI_dot {g : Nat → Int} : ∀ {n : Nat}, smI g (List.range n) = dot g n
  | 0 => rfl
  | n + 1 => by rw [smI_succ, smI_dot]; rfl
theorem smI_if {g : Nat → Int} {k : Nat} {v : Int} : ∀ {n : Nat}, smI (fun i => g i + if i = k then v else 0) (List.range n) = smI g (List.range n) + if k < n then v else 0
  | 0 => by simp [smI]
  | n + 1 => by
    rw [smI_succ, smI_if, smI_succ]
    by_cases h : n = k
    · subst h; simp only [if_true, Nat.lt_irrefl, if_false, Nat.lt_succ_self]; omega
    · rw [if_neg h]
      by_cases h2 : k < n
      · rw [if_pos h2, if_pos (by omega)]; omega
      · rw [if_neg h2, if_neg (by omega)]; omega
/-- A sum over weights. -/
def phi (w : Wts) (m : Nat) (f1 f2 f3 : Nat → Int) : Int :=
  smI (fun i => en w.casks i * f1 i) (List.range m) + (w.x0 * f2 0 + w.x1 * f2 1 + w.x2 * f2 2 + w.x3 * f2 3) + (w.y0 * f3 0 + w.y1 * f3 1 + w.y2 * f3 2 + w.y3 * f3 3)
def wx (w : Wts) : Nat → Int
  | 0 => w.x0
  | 1 => w.x1
  | 2 => w.x2
  | _ => w.x3
def wy (w : Wts) : Nat → Int
  | 0 => w.y0
  | 1 => w.y1
  | 2 => w.y2
  | _ => w.y3
def slot (w : Wts) (c : Cond) : Int := if c.kind = 1 then en w.casks c.which.toNat else if c.kind = 2 then wx w c.which.toNat else if c.kind = 3 then wy w c.which.toNat else 0
/-- Each weight is as is said. -/
def Each (P : Int → Prop) (w : Wts) : Prop := (∀ i, P (en w.casks i)) ∧ (P w.x0 ∧ P w.x1 ∧ P w.x2 ∧ P w.x3) ∧ (P w.y0 ∧ P w.y1 ∧ P w.y2 ∧ P w.y3)
theorem four {k : Nat} (h : k < 4) : k = 0 ∨ k = 1 ∨ k = 2 ∨ k = 3 := by omega
end Go.Bl
end

section
set_option linter.unusedVariables false
set_option linter.unusedSimpArgs false
set_option maxRecDepth 100000
namespace Go.Bl
open Go.V Go.Proofs Go.Lp
/-- Right casks, at most four, and a right sample. -/
structure RightL (l : List Cask) (s : Sample) : Prop where
  n1 : 1 ≤ l.length
  n4 : l.length ≤ 4
  rc : ∀ i, i < l.length → RightC (l.getD i dfC)
  v : 1 ≤ s.vol ∧ s.vol ≤ 10000
  lo : ∀ k, k < 4 → 0 ≤ (M.rg s k).lo ∧ (M.rg s k).lo ≤ 1000
  hi : ∀ k, k < 4 → 0 ≤ (M.rg s k).hi ∧ (M.rg s k).hi ≤ 1000
  le : ∀ k, k < 4 → (M.rg s k).lo ≤ (M.rg s k).hi
theorem sample_right {s : Sample} (h : M.checkSample s = 0) : (1 ≤ s.vol ∧ s.vol ≤ 10000) ∧ (∀ k, k < 4 → 0 ≤ (M.rg s k).lo ∧ (M.rg s k).lo ≤ 1000) ∧ (∀ k, k < 4 → 0 ≤ (M.rg s k).hi ∧ (M.rg s k).hi ≤ 1000) ∧ ∀ k, k < 4 → (M.rg s k).lo ≤ (M.rg s k).hi := by
  unfold M.checkSample at h
  cases hw : M.within s.vol 1 10000
  · rw [hw] at h
    have hs : (2 : Int) = 0 := h
    exact absurd hs (by decide)
  rw [hw] at h
  have hs : M.first [M.rgErr s.r0, M.rgErr s.r1, M.rgErr s.r2, M.rgErr s.r3] = 0 := h
  have hz := first_nil _ hs
  have hle : ∀ r, M.rgErr r = 0 → r.lo ≤ r.hi := by
    intro r hr
    unfold M.rgErr at hr
    exact of_decide_eq_true (unl_zero (by decide) (first_nil _ hr _ (List.mem_cons_of_mem _ (List.mem_cons_self ..))))
  have all : ∀ k, k < 4 → M.rgErr (M.rg s k) = 0 := by
    intro k hk
    rcases (by omega : k = 0 ∨ k = 1 ∨ k = 2 ∨ k = 3) with rfl | rfl | rfl | rfl <;> exact hz _ (by simp [M.rg])
  exact ⟨within_spec hw, fun k hk => (rg_right (all k hk)).1, fun k hk => (rg_right (all k hk)).2, fun k hk => hle _ (all k hk)⟩
theorem task_right {l : List Cask} {s : Sample} (h : M.taskErr l s = 0) : RightL l s := by
  unfold M.taskErr at h
  obtain ⟨c1, c4, cr⟩ := casks_right (first_nil _ h _ (List.mem_cons_self ..))
  obtain ⟨h1, h2, h3, h4⟩ := sample_right (first_nil _ h _ (List.mem_cons_of_mem _ (List.mem_cons_self ..)))
  exact ⟨c1, c4, cr, h1, h2, h3, h4⟩
theorem RightC.val {c : Cask} (h : RightC c) (k : Nat) : 0 ≤ M.val c k ∧ M.val c k ≤ 1000 := by
  unfold M.val
  split
  · exact h.k0
  · exact h.k1
  · exact h.k2
  · exact h.k3
section
variable {l : List Cask} {s : Sample}
theorem RightL.hiF (h : RightL l s) {i k : Nat} (hi : i < l.length) (hk : k < 4) : IntKind.i64.wrap (M.val (l.getD i dfC) k - (M.rg s k).hi) = M.val (l.getD i dfC) k - (M.rg s k).hi ∧ (M.val (l.getD i dfC) k - (M.rg s k).hi).natAbs ≤ 1000 := by
  have h1 := (h.rc i hi).val k
  have h2 := h.hi k hk
  exact ⟨wrap_id (by omega) (by omega), by omega⟩
theorem RightL.loF (h : RightL l s) {i k : Nat} (hi : i < l.length) (hk : k < 4) : IntKind.i64.wrap ((M.rg s k).lo - M.val (l.getD i dfC) k) = (M.rg s k).lo - M.val (l.getD i dfC) k ∧ ((M.rg s k).lo - M.val (l.getD i dfC) k).natAbs ≤ 1000 := by
  have h1 := (h.rc i hi).val k
  have h2 := h.lo k hk
  exact ⟨wrap_id (by omega) (by omega), by omega⟩
theorem en_out {a : List Int} {j : Nat} (h : a.length ≤ j) : en a j = 0 := by
  unfold en
  rw [List.getD_eq_getElem?_getD, List.getElem?_eq_none h]; rfl
section
variable {l : List Cask} {s : Sample} {e : Nat} {set : List Cond}
end
end
end Go.Bl
end

section
set_option linter.unusedVariables false
set_option linter.unusedSimpArgs false
set_option maxRecDepth 100000
namespace Go.Bl
open Go.V Go.Proofs Go.Lp
section
variable {l : List Cask} {s : Sample} {e : Nat}
/-- Parts of casks, over a number, that have the sample's volume, and are away at most so much. -/
structure Blend (l : List Cask) (s : Sample) (pt : List Int) (den far : Int) : Prop where
  dp : 0 < den
  p0 : ∀ i, i < l.length → 0 ≤ en pt i
  p1 : ∀ i, i < l.length → en pt i ≤ (l.getD i dfC).vol * den
  sum : smI (fun i => en pt i) (List.range l.length) = s.vol * den
  hi : ∀ k, k < 4 → smI (fun i => (M.val (l.getD i dfC) k - (M.rg s k).hi) * en pt i) (List.range l.length) ≤ far
  lo : ∀ k, k < 4 → smI (fun i => ((M.rg s k).lo - M.val (l.getD i dfC) k) * en pt i) (List.range l.length) ≤ far
/-- What weights give to a cask; their bound. -/
def hiF (l : List Cask) (s : Sample) (j k : Nat) : Int := M.val (l.getD j dfC) k - (M.rg s k).hi
def loF (l : List Cask) (s : Sample) (j k : Nat) : Int := (M.rg s k).lo - M.val (l.getD j dfC) k
def gift (l : List Cask) (s : Sample) (w : Wts) (j : Nat) : Int := w.each - phi w l.length (fun i => if i = j then 1 else 0) (hiF l s j) (loF l s j)
def bound (l : List Cask) (s : Sample) (w : Wts) : Int := w.each * s.vol - phi w l.length (fun i => (l.getD i dfC).vol) (fun _ => 0) (fun _ => 0)
/-- The weights of a corner: they are right, and prove. -/
structure Proof (l : List Cask) (s : Sample) (wo : List Int) (w : Wts) : Prop where
  den : 1 ≤ w.den ∧ w.den ≤ 200000000000
  each : w.each.natAbs ≤ 100000000000000
  len : w.casks.length = l.length
  all : Each (fun b => 0 ≤ b ∧ b ≤ 200000000000) w
  gift : ∀ j, j < l.length → gift l s w j ≤ en wo j * w.den
end
end Go.Bl
end

section
set_option linter.unusedVariables false
set_option linter.unusedSimpArgs false
set_option maxRecDepth 100000
namespace Go.Bl
open Go.V Go.Proofs Go.Lp
def wsum (w : Wts) : Int := (w.x0 + w.x1 + w.x2 + w.x3) + (w.y0 + w.y1 + w.y2 + w.y3)
section
variable {l : List Cask} {s : Sample} {e : Nat}
theorem gift_eq (w : Wts) {j : Nat} (hj : j < l.length) : gift l s w j = w.each - en w.casks j - (w.x0 * hiF l s j 0 + w.x1 * hiF l s j 1 + w.x2 * hiF l s j 2 + w.x3 * hiF l s j 3) - (w.y0 * loF l s j 0 + w.y1 * loF l s j 1 + w.y2 * loF l s j 2 + w.y3 * loF l s j 3) := by
  unfold gift phi
  rw [smI_congr (h := fun i => 0 + if i = j then en w.casks j else 0) (fun i _ => by
    dsimp only
    by_cases e1 : i = j
    · subst e1; rw [if_pos rfl, if_pos rfl]; omega
    · rw [if_neg e1, if_neg e1]; omega), smI_if, smI_zero, if_pos hj]
  omega
theorem bound_eq (w : Wts) : bound l s w = w.each * s.vol - smI (fun i => en w.casks i * (l.getD i dfC).vol) (List.range l.length) := by
  unfold bound phi; dsimp only; omega
theorem smI_mul_right {g : Nat → Int} {k : Int} {L : List Nat} : smI g L * k = smI (fun a => g a * k) L := by
  rw [Int.mul_comm, ← smI_smul]; exact smI_congr fun a _ => Int.mul_comm _ _
/-- A bound that is proved is no greater than what is paid. -/
theorem weak_blend {pt : List Int} {den far : Int} (hb : Blend l s pt den far) {w : Wts} (hw : Each (fun b => 0 ≤ b) w) {g : Nat → Int} (hg : ∀ j, j < l.length → gift l s w j ≤ g j) :
    bound l s w * den ≤ smI (fun j => g j * en pt j) (List.range l.length) + wsum w * far := by
  obtain ⟨hc, ⟨x0, x1, x2, x3⟩, y0, y1, y2, y3⟩ := hw
  have h1 : bound l s w * den = w.each * smI (fun j => en pt j) (List.range l.length) - smI (fun i => en w.casks i * ((l.getD i dfC).vol * den)) (List.range l.length) := by
    rw [bound_eq, Int.sub_mul, hb.sum, Int.mul_assoc, smI_mul_right]
    congr 1
    exact smI_congr fun i _ => Int.mul_assoc _ _ _
  have h2 : smI (fun i => en w.casks i * en pt i) (List.range l.length) ≤ smI (fun i => en w.casks i * ((l.getD i dfC).vol * den)) (List.range l.length) :=
    smI_le fun i hi => Int.mul_le_mul_of_nonneg_left (hb.p1 i (List.mem_range.1 hi)) (hc i)
  have h3 : smI (fun j => gift l s w j * en pt j) (List.range l.length) ≤ smI (fun j => g j * en pt j) (List.range l.length) :=
    smI_le fun j hj => Int.mul_le_mul_of_nonneg_right (hg j (List.mem_range.1 hj)) (hb.p0 j (List.mem_range.1 hj))
  have h4 : smI (fun j => gift l s w j * en pt j) (List.range l.length) = w.each * smI (fun j => en pt j) (List.range l.length) - smI (fun i => en w.casks i * en pt i) (List.range l.length) -
      (w.x0 * smI (fun j => hiF l s j 0 * en pt j) (List.range l.length) + w.x1 * smI (fun j => hiF l s j 1 * en pt j) (List.range l.length) + w.x2 * smI (fun j => hiF l s j 2 * en pt j) (List.range l.length) + w.x3 * smI (fun j => hiF l s j 3 * en pt j) (List.range l.length)) -
      (w.y0 * smI (fun j => loF l s j 0 * en pt j) (List.range l.length) + w.y1 * smI (fun j => loF l s j 1 * en pt j) (List.range l.length) + w.y2 * smI (fun j => loF l s j 2 * en pt j) (List.range l.length) + w.y3 * smI (fun j => loF l s j 3 * en pt j) (List.range l.length)) := by
    simp only [← smI_smul, Int.sub_eq_add_neg, ← smI_neg, ← smI_add]
    refine smI_congr fun j hj => ?_
    rw [gift_eq w (List.mem_range.1 hj)]
    simp only [Int.sub_eq_add_neg, Int.add_mul, Int.neg_mul, Int.mul_assoc]
  have k0 := Int.mul_le_mul_of_nonneg_left (hb.hi 0 (by decide)) x0
  have k1 := Int.mul_le_mul_of_nonneg_left (hb.hi 1 (by decide)) x1
  have k2 := Int.mul_le_mul_of_nonneg_left (hb.hi 2 (by decide)) x2
  have k3 := Int.mul_le_mul_of_nonneg_left (hb.hi 3 (by decide)) x3
  have q0 := Int.mul_le_mul_of_nonneg_left (hb.lo 0 (by decide)) y0
  have q1 := Int.mul_le_mul_of_nonneg_left (hb.lo 1 (by decide)) y1
  have q2 := Int.mul_le_mul_of_nonneg_left (hb.lo 2 (by decide)) y2
  have q3 := Int.mul_le_mul_of_nonneg_left (hb.lo 3 (by decide)) y3
  have e5 : wsum w * far = (w.x0 * far + w.x1 * far + w.x2 * far + w.x3 * far) + (w.y0 * far + w.y1 * far + w.y2 * far + w.y3 * far) := by
    unfold wsum; simp only [Int.add_mul]
  unfold hiF loF at h4
  rw [h1, e5]
  omega
end
end Go.Bl
end

section
set_option linter.unusedVariables false
set_option linter.unusedSimpArgs false
set_option maxRecDepth 100000
namespace Go.Bl
open Go.V Go.Proofs Go.Lp
section
variable {l : List Cask} {s : Sample} {x : M.Corner}
def cost (l : List Cask) (pt : List Int) : Int := smI (fun j => (l.getD j dfC).cost * en pt j) (List.range l.length)
theorem Blend.congr {pt pt' : List Int} {den far : Int} (hb : Blend l s pt den far) (h : ∀ i, i < l.length → en pt' i = en pt i) : Blend l s pt' den far := by
  refine ⟨hb.dp, fun i hi => by rw [h i hi]; exact hb.p0 i hi, fun i hi => by rw [h i hi]; exact hb.p1 i hi, ?_, fun k hk => ?_, fun k hk => ?_⟩
  · rw [← hb.sum]; exact smI_congr fun i hi => h i (List.mem_range.1 hi)
  · rw [smI_congr fun i hi => by rw [h i (List.mem_range.1 hi)]]; exact hb.hi k hk
  · rw [smI_congr fun i hi => by rw [h i (List.mem_range.1 hi)]]; exact hb.lo k hk
theorem Blend.mono {pt : List Int} {den far far' : Int} (hb : Blend l s pt den far) (h : far ≤ far') : Blend l s pt den far' :=
  ⟨hb.dp, hb.p0, hb.p1, hb.sum, fun k hk => Int.le_trans (hb.hi k hk) h, fun k hk => Int.le_trans (hb.lo k hk) h⟩
/-- The cheapest blend. -/
structure BestS (l : List Cask) (s : Sample) (x : M.Corner) : Prop where
  b : Blend l s x.pt x.den 0
  d : x.den ≤ 200000000000
  pl : x.pt.length = l.length
  p : Proof l s (M.costs l) (M.wtsOf x l.length)
  eq : bound l s (M.wtsOf x l.length) * x.den = (M.wtsOf x l.length).den * cost l x.pt
  tb : x.tight.length ≤ x.by_.length ∧ x.tight.length ≤ 1000 ∧ WhichOK l.length x.tight
/-- The nearest blend. -/
structure NearS (l : List Cask) (s : Sample) (x : M.Corner) : Prop where
  b : Blend l s x.pt x.den (en x.pt l.length)
  f0 : 0 ≤ en x.pt l.length
  d : x.den ≤ 200000000000
  pl : x.pt.length = l.length + 1
  p : Proof l s (M.far l) (M.wtsOf x l.length)
  eq : bound l s (M.wtsOf x l.length) * x.den = (M.wtsOf x l.length).den * en x.pt l.length
  ws : wsum (M.wtsOf x l.length) ≤ (M.wtsOf x l.length).den
  tb : x.tight.length ≤ x.by_.length ∧ x.tight.length ≤ 1000 ∧ WhichOK l.length x.tight
/-- Blends in the program's numbers. -/
theorem Blend.parts (h : RightL l s) {pt : List Int} {den far : Int} (hb : Blend l s pt den far) (hd : den ≤ 200000000000) (hl : pt.length = l.length) : RightP l den pt := by
  refine ⟨hl, ⟨hb.dp, hd⟩, fun i hi => ⟨hb.p0 i hi, ?_⟩⟩
  have h1 := hb.p1 i hi
  have h2 := (h.rc i hi).vol
  have h3 : (l.getD i dfC).vol * den ≤ 10000 * 200000000000 := Int.mul_le_mul h2.2 hd (Int.le_of_lt hb.dp) (by decide)
  show pt.getD i 0 ≤ _
  have h1 : pt.getD i 0 ≤ (l.getD i dfC).vol * den := h1
  omega
theorem sum_vol (h : RightL l s) {pt : List Int} {den : Int} (hp : RightP l den pt) : M.sumP (fun _ => 1) l pt = smI (fun i => en pt i) (List.range l.length) := by
  rw [(vol_bound h.n4 hp).1, smI_dot]; rfl
theorem sum_cost (h : RightL l s) {pt : List Int} {den : Int} (hp : RightP l den pt) : M.sumP Cask.cost l pt = cost l pt := by
  rw [(sumP_eq h.n4 hp (of := Cask.cost) fun i hi => by have := (h.rc i hi).cost; omega).1]
  unfold cost
  rw [smI_dot]
  exact dot_congr fun i _ => Int.mul_comm _ _
theorem away_le (h : RightL l s) {pt : List Int} {den : Int} (ho : OpenR l s den pt) {F : Int} : M.away l pt s ≤ F ↔ 0 ≤ F ∧ ∀ k, k < 4 → smI (fun i => (M.val (l.getD i dfC) k - (M.rg s k).hi) * en pt i) (List.range l.length) ≤ F ∧ smI (fun i => ((M.rg s k).lo - M.val (l.getD i dfC) k) * en pt i) (List.range l.length) ≤ F := by
  have hk : ∀ (k : Nat) (of : Cask → Int), k < 4 → (∀ c, of c = M.val c k) → M.valL l pt of (M.rg s k).hi = smI (fun i => (M.val (l.getD i dfC) k - (M.rg s k).hi) * en pt i) (List.range l.length) ∧ IntKind.i64.wrap (0 - M.valL l pt of (M.rg s k).lo) = smI (fun i => ((M.rg s k).lo - M.val (l.getD i dfC) k) * en pt i) (List.range l.length) := by
    intro k of hk hof
    have hof' : ∀ i, i < l.length → 0 ≤ of (l.getD i dfC) ∧ of (l.getD i dfC) ≤ 1000 := fun i hi => by rw [hof]; exact (h.rc i hi).val k
    have h1 := valL_eq h.n4 ho.parts hof' (h.hi k hk)
    have h2 := valL_eq h.n4 ho.parts hof' (h.lo k hk)
    have h3 := (kind_eq h.n4 ho.parts hof' (h.lo k hk) (h.hi k hk)).2.2.1
    constructor
    · rw [h1.1, ← smI_dot]
      refine smI_congr fun i _ => ?_
      rw [hof, Int.mul_comm]; rfl
    · rw [h3, h2.1, ← smI_dot, Int.zero_sub, ← smI_neg]
      refine smI_congr fun i _ => ?_
      rw [hof, ← Int.mul_neg, Int.mul_comm, Int.neg_sub]; rfl
  obtain ⟨a1, a2⟩ := hk 0 (M.kOf 0) (by decide) (fun _ => rfl)
  obtain ⟨b1, b2⟩ := hk 1 (M.kOf 1) (by decide) (fun _ => rfl)
  obtain ⟨c1, c2⟩ := hk 2 (M.kOf 2) (by decide) (fun _ => rfl)
  obtain ⟨d1, d2⟩ := hk 3 (M.kOf 3) (by decide) (fun _ => rfl)
  rw [← (far_away ho).1]
  unfold M.farR M.farK
  rw [show s.r0 = M.rg s 0 from rfl, show s.r1 = M.rg s 1 from rfl, show s.r2 = M.rg s 2 from rfl, show s.r3 = M.rg s 3 from rfl, a1, a2, b1, b2, c1, c2, d1, d2]
  simp only [mx_le]
  constructor
  · rintro ⟨⟨⟨⟨⟨⟨⟨⟨x0, x1⟩, x2⟩, x3⟩, x4⟩, x5⟩, x6⟩, x7⟩, x8⟩
    refine ⟨x0, fun k hk => ?_⟩
    rcases four hk with rfl | rfl | rfl | rfl
    · exact ⟨x2, x1⟩
    · exact ⟨x4, x3⟩
    · exact ⟨x6, x5⟩
    · exact ⟨x8, x7⟩
  · rintro ⟨x0, hx⟩
    exact ⟨⟨⟨⟨⟨⟨⟨⟨x0, (hx 0 (by decide)).2⟩, (hx 0 (by decide)).1⟩, (hx 1 (by decide)).2⟩, (hx 1 (by decide)).1⟩, (hx 2 (by decide)).2⟩, (hx 2 (by decide)).1⟩, (hx 3 (by decide)).2⟩, (hx 3 (by decide)).1⟩
end
end Go.Bl
end

section
set_option linter.unusedVariables false
set_option linter.unusedSimpArgs false
set_option maxRecDepth 100000
namespace Go.Bl
open Go.V Go.Proofs
theorem t130 (n most : Int) : runFnX Try.prog G0 (lookS [v102]) (fun _ => []) [] 1 20 3 130 Try.f130 [.c (dI n), .c (dI most)] =
    T.ret [rB (M.within n (IntKind.wrap IntKind.i64 ((0 : Int) - most)) most)] := by kernel_rfl
def dom130 : DomF
  | [.c (.int .i64 n), .c (.int .i64 most)] => some ([], [rB (M.within n (IntKind.wrap IntKind.i64 ((0 : Int) - most)) most)])
  | _ => none
def v130 : Nat × Sm := (130, fokSm dom130)
theorem C130 : FOK Try.prog G0 gw 130 dom130 := by
  intro ags p r hd hp κ w xs hw hl hG hx
  unfold dom130 at hd
  split at hd
  · rename_i n most
    simp only [Option.some.injEq, Prod.mk.injEq] at hd
    obtain ⟨rfl, rfl⟩ := hd
    have heq : agsEqv [.c (.int .i64 n), .c (.int .i64 most)] [.c (.int .i64 n), .c (.int .i64 most)] := ⟨Ag.eqv_refl _, Ag.eqv_refl _, trivial⟩
    exact fokX_fin mixed gw_stable (sl := [v102]) ⟨S102, trivial⟩ Try.func130 hw hl hG hx heq rfl (t130 n most) (rsEqv_refl _)
  · cases hd
theorem S130 : SumOK Try.prog G0 gw 130 (fokSm dom130) := fok_sum Try.func130 rfl C130
end Go.Bl
end

section
set_option linter.unusedVariables false
set_option linter.unusedSimpArgs false
set_option maxRecDepth 100000
namespace Go.Bl
open Go.V Go.Proofs
namespace M
def wOk (w : Wts) : Bool := allB isWeight [w.x0, w.x1, w.x2, w.x3] && allB isWeight [w.y0, w.y1, w.y2, w.y3] && allB isWeight w.casks
def wHead (w : Wts) : Bool := within w.den 1 200000000000 && within w.each (-100000000000000) 100000000000000
def wErr (n : Nat) (w : Wts) : Int := first [unl (wHead w) 2, unl ((w.casks.length : Int) == (n : Int)) 10, unl (wOk w) 2]
def openW (l : List Cask) (s : Sample) (w : Wts) : Int := first [casksErr l, checkSample s, unl (wHead w) 2, unl ((w.casks.length : Int) == (l.length : Int)) 10, unl (wOk w) 2]
def giveK (x y v lo hi g : Int) : Int := IntKind.i64.wrap (IntKind.i64.wrap (g - IntKind.i64.wrap (x * IntKind.i64.wrap (v - hi))) - IntKind.i64.wrap (y * IntKind.i64.wrap (lo - v)))
def giveR (l : List Cask) (s : Sample) (w : Wts) (i : Nat) : Int :=
  giveK w.x3 w.y3 (l.getD i dfC).k3 s.r3.lo s.r3.hi (giveK w.x2 w.y2 (l.getD i dfC).k2 s.r2.lo s.r2.hi (giveK w.x1 w.y1 (l.getD i dfC).k1 s.r1.lo s.r1.hi (giveK w.x0 w.y0 (l.getD i dfC).k0 s.r0.lo s.r0.hi (IntKind.i64.wrap (w.each - w.casks.getD i 0)))))
def boundR (l : List Cask) (s : Sample) (w : Wts) : Int := (List.range l.length).foldl (fun a i => IntKind.i64.wrap (a - IntKind.i64.wrap (w.casks.getD i 0 * (l.getD i dfC).vol))) (IntKind.i64.wrap (w.each * s.vol))
end M
theorem openW_eq (l : List Cask) (s : Sample) (w : Wts) : M.openW l s w = cond (M.taskErr l s != 0) (M.taskErr l s) (M.wErr l.length w) := by
  unfold M.openW M.taskErr M.wErr
  simp only [first_cons]
  by_cases h1 : M.casksErr l = 0
  · rw [if_pos h1, if_pos h1]
    by_cases h2 : M.checkSample s = 0
    · rw [if_pos h2, if_pos h2]; rfl
    · rw [if_neg h2, if_neg h2, show (M.checkSample s != 0) = true by simpa using h2]; rfl
  · rw [if_neg h1, if_neg h1, show (M.casksErr l != 0) = true by simpa using h1]; rfl
def wF (q : Bool) (w : Wts) (a : Nat) : Nat → Nat → D := fun i j => List.getD [dI w.den, dI w.each, dI w.x0, dI w.x1, dI w.x2, dI w.x3, dI w.y0, dI w.y1, dI w.y2, dI w.y3, .sl q w.casks.length 1 (eI.F w.casks)] (a + (i + j)) .nilp
theorem wF_x (q : Bool) (w : Wts) : eI.list 4 (wF q w 2) = [w.x0, w.x1, w.x2, w.x3] ∧ eI.Is 4 (wF q w 2) := by
  refine ⟨rfl, fun i j hi hj => ?_⟩
  obtain rfl : j = 0 := Nat.lt_one_iff.1 hj
  match i, hi with
  | 0, _ => exact D.eqv_refl _
  | 1, _ => exact D.eqv_refl _
  | 2, _ => exact D.eqv_refl _
  | 3, _ => exact D.eqv_refl _
theorem wF_y (q : Bool) (w : Wts) : eI.list 4 (wF q w 6) = [w.y0, w.y1, w.y2, w.y3] ∧ eI.Is 4 (wF q w 6) := by
  refine ⟨rfl, fun i j hi hj => ?_⟩
  obtain rfl : j = 0 := Nat.lt_one_iff.1 hj
  match i, hi with
  | 0, _ => exact D.eqv_refl _
  | 1, _ => exact D.eqv_refl _
  | 2, _ => exact D.eqv_refl _
  | 3, _ => exact D.eqv_refl _
def tr109 (q_l : Bool) (l : List Cask) (sv l0 h0 l1 h1 l2 h2 l3 h3 : Int) (q_ps : Bool) (den each x0 x1 x2 x3 y0 y1 y2 y3 : Int) (ps : List Int) : T (List Ar) :=
    T.need (Enc.Is eI (4 : Nat) (wF q_ps (⟨den, each, x0, x1, x2, x3, y0, y1, y2, y3, ps⟩ : Wts) 2)) (T.need ((4 : Nat) ≤ (1000000 : Nat)) (T.br (M.allB M.isWeight (Enc.list eI (4 : Nat) (wF q_ps (⟨den, each, x0, x1, x2, x3, y0, y1, y2, y3, ps⟩ : Wts) 2))) (T.need (Enc.Is eI (4 : Nat) (wF q_ps (⟨den, each, x0, x1, x2, x3, y0, y1, y2, y3, ps⟩ : Wts) 6)) (T.need ((4 : Nat) ≤ (1000000 : Nat)) (T.br (M.allB M.isWeight (Enc.list eI (4 : Nat) (wF q_ps (⟨den, each, x0, x1, x2, x3, y0, y1, y2, y3, ps⟩ : Wts) 6))) (T.need (Enc.Is eI (List.length ps) (Enc.F eI ps)) (T.need (List.length ps ≤ (1000000 : Nat)) (T.br (M.within den (1 : Int) (200000000000 : Int)) (T.need (Enc.Is eC (List.length l) (Enc.F eC l)) (T.need (∀ (c : Cask), c ∈ Enc.list eC (List.length l) (Enc.F eC l) → ByteArray.size (Cask.nm c) ≤ (1000000 : Nat)) (T.need (M.within den (1 : Int) (200000000000 : Int) = true) (T.ret [Ar.c (D.int IntKind.i64 (M.first [M.casksErr (Enc.list eC (List.length l) (Enc.F eC l)), M.checkSample (⟨sv, ⟨l0, h0⟩, ⟨l1, h1⟩, ⟨l2, h2⟩, ⟨l3, h3⟩⟩ : Sample), M.unl (M.within each (-100000000000000 : Int) (100000000000000 : Int)) (2 : Int), M.unl ((Nat.cast (R := Int) (List.length ps)) == (Nat.cast (R := Int) (List.length l))) (10 : Int), M.unl (M.allB M.isWeight (Enc.list eI (List.length ps) (Enc.F eI ps))) (2 : Int)]))])))) (T.need (Enc.Is eC (List.length l) (Enc.F eC l)) (T.need (∀ (c : Cask), c ∈ Enc.list eC (List.length l) (Enc.F eC l) → ByteArray.size (Cask.nm c) ≤ (1000000 : Nat)) (T.need (M.within den (1 : Int) (200000000000 : Int) = false) (T.ret [Ar.c (D.int IntKind.i64 (M.first [M.casksErr (Enc.list eC (List.length l) (Enc.F eC l)), M.checkSample (⟨sv, ⟨l0, h0⟩, ⟨l1, h1⟩, ⟨l2, h2⟩, ⟨l3, h3⟩⟩ : Sample), (2 : Int), M.unl ((Nat.cast (R := Int) (List.length ps)) == (Nat.cast (R := Int) (List.length l))) (10 : Int), M.unl (M.allB M.isWeight (Enc.list eI (List.length ps) (Enc.F eI ps))) (2 : Int)]))]))))))) (T.br (M.within den (1 : Int) (200000000000 : Int)) (T.need (Enc.Is eC (List.length l) (Enc.F eC l)) (T.need (∀ (c : Cask), c ∈ Enc.list eC (List.length l) (Enc.F eC l) → ByteArray.size (Cask.nm c) ≤ (1000000 : Nat)) (T.need (M.within den (1 : Int) (200000000000 : Int) = true) (T.ret [Ar.c (D.int IntKind.i64 (M.first [M.casksErr (Enc.list eC (List.length l) (Enc.F eC l)), M.checkSample (⟨sv, ⟨l0, h0⟩, ⟨l1, h1⟩, ⟨l2, h2⟩, ⟨l3, h3⟩⟩ : Sample), M.unl (M.within each (-100000000000000 : Int) (100000000000000 : Int)) (2 : Int), M.unl ((Nat.cast (R := Int) (List.length ps)) == (Nat.cast (R := Int) (List.length l))) (10 : Int), (2 : Int)]))])))) (T.need (Enc.Is eC (List.length l) (Enc.F eC l)) (T.need (∀ (c : Cask), c ∈ Enc.list eC (List.length l) (Enc.F eC l) → ByteArray.size (Cask.nm c) ≤ (1000000 : Nat)) (T.need (M.within den (1 : Int) (200000000000 : Int) = false) (T.ret [Ar.c (D.int IntKind.i64 (M.first [M.casksErr (Enc.list eC (List.length l) (Enc.F eC l)), M.checkSample (⟨sv, ⟨l0, h0⟩, ⟨l1, h1⟩, ⟨l2, h2⟩, ⟨l3, h3⟩⟩ : Sample), (2 : Int), M.unl ((Nat.cast (R := Int) (List.length ps)) == (Nat.cast (R := Int) (List.length l))) (10 : Int), (2 : Int)]))])))))))) (T.br (M.within den (1 : Int) (200000000000 : Int)) (T.need (Enc.Is eC (List.length l) (Enc.F eC l)) (T.need (∀ (c : Cask), c ∈ Enc.list eC (List.length l) (Enc.F eC l) → ByteArray.size (Cask.nm c) ≤ (1000000 : Nat)) (T.need (M.within den (1 : Int) (200000000000 : Int) = true) (T.ret [Ar.c (D.int IntKind.i64 (M.first [M.casksErr (Enc.list eC (List.length l) (Enc.F eC l)), M.checkSample (⟨sv, ⟨l0, h0⟩, ⟨l1, h1⟩, ⟨l2, h2⟩, ⟨l3, h3⟩⟩ : Sample), M.unl (M.within each (-100000000000000 : Int) (100000000000000 : Int)) (2 : Int), M.unl ((Nat.cast (R := Int) (List.length ps)) == (Nat.cast (R := Int) (List.length l))) (10 : Int), (2 : Int)]))])))) (T.need (Enc.Is eC (List.length l) (Enc.F eC l)) (T.need (∀ (c : Cask), c ∈ Enc.list eC (List.length l) (Enc.F eC l) → ByteArray.size (Cask.nm c) ≤ (1000000 : Nat)) (T.need (M.within den (1 : Int) (200000000000 : Int) = false) (T.ret [Ar.c (D.int IntKind.i64 (M.first [M.casksErr (Enc.list eC (List.length l) (Enc.F eC l)), M.checkSample (⟨sv, ⟨l0, h0⟩, ⟨l1, h1⟩, ⟨l2, h2⟩, ⟨l3, h3⟩⟩ : Sample), (2 : Int), M.unl ((Nat.cast (R := Int) (List.length ps)) == (Nat.cast (R := Int) (List.length l))) (10 : Int), (2 : Int)]))])))))))
theorem t109 (q_l : Bool) (l : List Cask) (sv l0 h0 l1 h1 l2 h2 l3 h3 : Int) (den : Int) (each : Int) (x0 : Int) (x1 : Int) (x2 : Int) (x3 : Int) (y0 : Int) (y1 : Int) (y2 : Int) (y3 : Int) (q_ps : Bool) (ps : List Int) : runFnX Try.prog G0 (lookS [v103w, v65, v49, v102, v80, v64, v130]) (fun _ => []) [] 1 40 5 109 Try.f109 [.c (.sl q_l l.length 7 (eC.F l)), .agg [dI sv, dI l0, dI h0, dI l1, dI h1, dI l2, dI h2, dI l3, dI h3], .agg [dI den, dI each, dI x0, dI x1, dI x2, dI x3, dI y0, dI y1, dI y2, dI y3, .sl q_ps ps.length 1 (eI.F ps)]] =
    tr109 q_l l sv l0 h0 l1 h1 l2 h2 l3 h3 q_ps den each x0 x1 x2 x3 y0 y1 y2 y3 ps := by kernel_rfl
def tr56 (q_ps : Bool) (den each x0 x1 x2 x3 y0 y1 y2 y3 : Int) (ps : List Int) : T (List Ar) :=
    T.need (Enc.Is eI (List.length ps) (Enc.F eI ps)) (T.need (List.length (Enc.list eI (List.length ps) (Enc.F eI ps)) ≤ (1000000 : Nat)) (T.ret [Ar.agg [D.int IntKind.i64 den, D.int IntKind.i64 each, D.int IntKind.i64 x0, D.int IntKind.i64 x1, D.int IntKind.i64 x2, D.int IntKind.i64 x3, D.int IntKind.i64 y0, D.int IntKind.i64 y1, D.int IntKind.i64 y2, D.int IntKind.i64 y3, D.sl true (List.length ps) (1 : Nat) (Enc.F eI (Enc.list eI (List.length ps) (Enc.F eI ps)))]]))
theorem t56 (den : Int) (each : Int) (x0 : Int) (x1 : Int) (x2 : Int) (x3 : Int) (y0 : Int) (y1 : Int) (y2 : Int) (y3 : Int) (q_ps : Bool) (ps : List Int) : runFnX Try.prog G0 (lookS [v41]) (fun _ => []) [] 1 20 3 56 Try.f56 [.agg [dI den, dI each, dI x0, dI x1, dI x2, dI x3, dI y0, dI y1, dI y2, dI y3, .sl q_ps ps.length 1 (eI.F ps)]] =
    tr56 q_ps den each x0 x1 x2 x3 y0 y1 y2 y3 ps := by kernel_rfl
def tr76 (l : List Cask) (den each x0 x1 x2 x3 y0 y1 y2 y3 : Int) (ps : List Int) : T (List Ar) :=
    T.br (!M.within den (1 : Int) (200000000000 : Int)) (T.ret [Ar.c (D.int IntKind.i64 (2 : Int))]) (T.br (!M.within each (-100000000000000 : Int) (100000000000000 : Int)) (T.ret [Ar.c (D.int IntKind.i64 (2 : Int))]) (T.br ((Nat.cast (R := Int) (List.length ps)) != (Nat.cast (R := Int) (List.length l))) (T.ret [Ar.c (D.int IntKind.i64 (10 : Int))]) (T.br (!M.within x0 (0 : Int) (100000000000000 : Int)) (T.ret [Ar.c (D.int IntKind.i64 (2 : Int))]) (T.br (!M.within y0 (0 : Int) (100000000000000 : Int)) (T.ret [Ar.c (D.int IntKind.i64 (2 : Int))]) (T.br (!M.within x1 (0 : Int) (100000000000000 : Int)) (T.ret [Ar.c (D.int IntKind.i64 (2 : Int))]) (T.br (!M.within y1 (0 : Int) (100000000000000 : Int)) (T.ret [Ar.c (D.int IntKind.i64 (2 : Int))]) (T.br (!M.within x2 (0 : Int) (100000000000000 : Int)) (T.ret [Ar.c (D.int IntKind.i64 (2 : Int))]) (T.br (!M.within y2 (0 : Int) (100000000000000 : Int)) (T.ret [Ar.c (D.int IntKind.i64 (2 : Int))]) (T.br (!M.within x3 (0 : Int) (100000000000000 : Int)) (T.ret [Ar.c (D.int IntKind.i64 (2 : Int))]) (T.br (!M.within y3 (0 : Int) (100000000000000 : Int)) (T.ret [Ar.c (D.int IntKind.i64 (2 : Int))]) (T.loop (Int × PUnit) ((0 : Int), PUnit.unit) fun (x : Int × PUnit) => T.br (decide (Prod.fst x < (Nat.cast (R := Int) (List.length l)))) (T.need ((0 : Int) ≤ Prod.fst x) (T.need (Prod.fst x < (Nat.cast (R := Int) (List.length ps))) (T.br (!M.within (List.getD ps (Int.toNat (Prod.fst x)) (0 : Int)) (0 : Int) (100000000000000 : Int)) (T.ret (Sum.inr [Ar.c (D.int IntKind.i64 (2 : Int))])) (T.ret (Sum.inl (IntKind.wrap IntKind.i64 (Prod.fst x + (1 : Int)), PUnit.unit)))))) (T.ret (Sum.inr [Ar.c (D.int IntKind.i64 (0 : Int))])))))))))))))
theorem t76 (q_l : Bool) (l : List Cask) (den : Int) (each : Int) (x0 : Int) (x1 : Int) (x2 : Int) (x3 : Int) (y0 : Int) (y1 : Int) (y2 : Int) (y3 : Int) (q_ps : Bool) (ps : List Int) : runFnX Try.prog G0 (lookS [v35]) (fun _ => [(1000024, [], none), (3000005, [], none), (11, [.slot 6 (.int .i64)], none)]) [] 1 40 5 76 Try.f76 [.c (.sl q_l l.length 7 (eC.F l)), .agg [dI den, dI each, dI x0, dI x1, dI x2, dI x3, dI y0, dI y1, dI y2, dI y3, .sl q_ps ps.length 1 (eI.F ps)]] =
    tr76 l den each x0 x1 x2 x3 y0 y1 y2 y3 ps := by kernel_rfl
def tr77 (l : List Cask) (sv l0 h0 l1 h1 l2 h2 l3 h3 : Int) (den each x0 x1 x2 x3 y0 y1 y2 y3 : Int) (ps : List Int) (i : Int) : T (List Ar) :=
    T.need ((0 : Int) ≤ i) (T.need (i < (Nat.cast (R := Int) (List.length ps))) (T.need ((0 : Int) ≤ i) (T.need (i < (Nat.cast (R := Int) (List.length l))) (T.need ((0 : Int) ≤ (0 : Int)) (T.need ((0 : Int) < (4 : Int)) (T.need ((0 : Int) ≤ i) (T.need (i < (Nat.cast (R := Int) (List.length l))) (T.need ((0 : Int) ≤ (0 : Int)) (T.need ((0 : Int) < (4 : Int)) (T.need ((0 : Int) ≤ i) (T.need (i < (Nat.cast (R := Int) (List.length l))) (T.need ((0 : Int) ≤ (1 : Int)) (T.need ((1 : Int) < (4 : Int)) (T.need ((0 : Int) ≤ i) (T.need (i < (Nat.cast (R := Int) (List.length l))) (T.need ((0 : Int) ≤ (1 : Int)) (T.need ((1 : Int) < (4 : Int)) (T.need ((0 : Int) ≤ i) (T.need (i < (Nat.cast (R := Int) (List.length l))) (T.need ((0 : Int) ≤ (2 : Int)) (T.need ((2 : Int) < (4 : Int)) (T.need ((0 : Int) ≤ i) (T.need (i < (Nat.cast (R := Int) (List.length l))) (T.need ((0 : Int) ≤ (2 : Int)) (T.need ((2 : Int) < (4 : Int)) (T.need ((0 : Int) ≤ i) (T.need (i < (Nat.cast (R := Int) (List.length l))) (T.need ((0 : Int) ≤ (3 : Int)) (T.need ((3 : Int) < (4 : Int)) (T.need ((0 : Int) ≤ i) (T.need (i < (Nat.cast (R := Int) (List.length l))) (T.need ((0 : Int) ≤ (3 : Int)) (T.need ((3 : Int) < (4 : Int)) (T.ret [Ar.c (D.int IntKind.i64 (IntKind.wrap IntKind.i64 (IntKind.wrap IntKind.i64 (IntKind.wrap IntKind.i64 (IntKind.wrap IntKind.i64 (IntKind.wrap IntKind.i64 (IntKind.wrap IntKind.i64 (IntKind.wrap IntKind.i64 (IntKind.wrap IntKind.i64 (IntKind.wrap IntKind.i64 (each - List.getD ps (Int.toNat i) (0 : Int)) - IntKind.wrap IntKind.i64 (x0 * IntKind.wrap IntKind.i64 ((List.getD l (Int.toNat i) (Enc.dflt eC)).4 - h0))) - IntKind.wrap IntKind.i64 (y0 * IntKind.wrap IntKind.i64 (l0 - (List.getD l (Int.toNat i) (Enc.dflt eC)).4))) - IntKind.wrap IntKind.i64 (x1 * IntKind.wrap IntKind.i64 ((List.getD l (Int.toNat i) (Enc.dflt eC)).5 - h1))) - IntKind.wrap IntKind.i64 (y1 * IntKind.wrap IntKind.i64 (l1 - (List.getD l (Int.toNat i) (Enc.dflt eC)).5))) - IntKind.wrap IntKind.i64 (x2 * IntKind.wrap IntKind.i64 ((List.getD l (Int.toNat i) (Enc.dflt eC)).6 - h2))) - IntKind.wrap IntKind.i64 (y2 * IntKind.wrap IntKind.i64 (l2 - (List.getD l (Int.toNat i) (Enc.dflt eC)).6))) - IntKind.wrap IntKind.i64 (x3 * IntKind.wrap IntKind.i64 ((List.getD l (Int.toNat i) (Enc.dflt eC)).7 - h3))) - IntKind.wrap IntKind.i64 (y3 * IntKind.wrap IntKind.i64 (l3 - (List.getD l (Int.toNat i) (Enc.dflt eC)).7)))))]))))))))))))))))))))))))))))))))))
theorem t77 (q_l : Bool) (l : List Cask) (sv l0 h0 l1 h1 l2 h2 l3 h3 : Int) (den : Int) (each : Int) (x0 : Int) (x1 : Int) (x2 : Int) (x3 : Int) (y0 : Int) (y1 : Int) (y2 : Int) (y3 : Int) (q_ps : Bool) (ps : List Int) (i : Int) : runFnX Try.prog G0 (lookS []) (fun _ => [(1000020, [], none), (3000010, [], none)]) [] 1 40 5 77 Try.f77 [.c (.sl q_l l.length 7 (eC.F l)), .agg [dI sv, dI l0, dI h0, dI l1, dI h1, dI l2, dI h2, dI l3, dI h3], .agg [dI den, dI each, dI x0, dI x1, dI x2, dI x3, dI y0, dI y1, dI y2, dI y3, .sl q_ps ps.length 1 (eI.F ps)], .c (dI i)] =
    tr77 l sv l0 h0 l1 h1 l2 h2 l3 h3 den each x0 x1 x2 x3 y0 y1 y2 y3 ps i := by kernel_rfl
def tr79 (l : List Cask) (sv l0 h0 l1 h1 l2 h2 l3 h3 : Int) (den each x0 x1 x2 x3 y0 y1 y2 y3 : Int) (ps : List Int) : T (List Ar) :=
    T.loop (Int × Int × PUnit) ((0 : Int), IntKind.wrap IntKind.i64 (each * sv), PUnit.unit) fun (x : Int × Int × PUnit) => T.br (decide (Prod.fst x < (Nat.cast (R := Int) (List.length l)))) (T.need ((0 : Int) ≤ Prod.fst x) (T.need (Prod.fst x < (Nat.cast (R := Int) (List.length ps))) (T.need ((0 : Int) ≤ Prod.fst x) (T.need (Prod.fst x < (Nat.cast (R := Int) (List.length l))) (T.ret (Sum.inl (IntKind.wrap IntKind.i64 (Prod.fst x + (1 : Int)), IntKind.wrap IntKind.i64 (Prod.fst (Prod.snd x) - IntKind.wrap IntKind.i64 (List.getD ps (Int.toNat (Prod.fst x)) (0 : Int) * (List.getD l (Int.toNat (Prod.fst x)) (Enc.dflt eC)).2)), PUnit.unit))))))) (T.ret (Sum.inr [Ar.c (D.int IntKind.i64 (Prod.fst (Prod.snd x)))]))
theorem t79 (q_l : Bool) (l : List Cask) (sv l0 h0 l1 h1 l2 h2 l3 h3 : Int) (den : Int) (each : Int) (x0 : Int) (x1 : Int) (x2 : Int) (x3 : Int) (y0 : Int) (y1 : Int) (y2 : Int) (y3 : Int) (q_ps : Bool) (ps : List Int) : runFnX Try.prog G0 (lookS []) (fun _ => [(3, [.slot 8 (.int .i64), .slot 7 (.int .i64)], none)]) [] 1 40 5 79 Try.f79 [.c (.sl q_l l.length 7 (eC.F l)), .agg [dI sv, dI l0, dI h0, dI l1, dI h1, dI l2, dI h2, dI l3, dI h3], .agg [dI den, dI each, dI x0, dI x1, dI x2, dI x3, dI y0, dI y1, dI y2, dI y3, .sl q_ps ps.length 1 (eI.F ps)]] =
    tr79 l sv l0 h0 l1 h1 l2 h2 l3 h3 den each x0 x1 x2 x3 y0 y1 y2 y3 ps := by kernel_rfl
def tr111 (l : List Cask) (sv l0 h0 l1 h1 l2 h2 l3 h3 : Int) (den each x0 x1 x2 x3 y0 y1 y2 y3 : Int) (ps : List Int) : T (List Ar) :=
    T.loop (Int × Int × PUnit) ((0 : Int), IntKind.wrap IntKind.i64 (each * sv), PUnit.unit) fun (x : Int × Int × PUnit) => T.br (decide (Prod.fst x < (Nat.cast (R := Int) (List.length l)))) (T.need ((0 : Int) ≤ Prod.fst x) (T.need (Prod.fst x < (Nat.cast (R := Int) (List.length l))) (T.need ((0 : Int) ≤ Prod.fst x) (T.need (Prod.fst x < (Nat.cast (R := Int) (List.length ps))) (T.ret (Sum.inl (IntKind.wrap IntKind.i64 (Prod.fst x + (1 : Int)), IntKind.wrap IntKind.i64 (Prod.fst (Prod.snd x) - IntKind.wrap IntKind.i64 (List.getD ps (Int.toNat (Prod.fst x)) (0 : Int) * (List.getD l (Int.toNat (Prod.fst x)) (Enc.dflt eC)).2)), PUnit.unit))))))) (T.ret (Sum.inr [Ar.c (D.int IntKind.i64 (Prod.fst (Prod.snd x)))]))
theorem t111 (q_l : Bool) (l : List Cask) (sv l0 h0 l1 h1 l2 h2 l3 h3 : Int) (den : Int) (each : Int) (x0 : Int) (x1 : Int) (x2 : Int) (x3 : Int) (y0 : Int) (y1 : Int) (y2 : Int) (y3 : Int) (q_ps : Bool) (ps : List Int) : runFnX Try.prog G0 (lookS []) (fun _ => [(3, [.slot 17 (.int .i64), .slot 7 (.int .i64)], none)]) [] 1 40 5 111 Try.f111 [.c (.sl q_l l.length 7 (eC.F l)), .agg [dI sv, dI l0, dI h0, dI l1, dI h1, dI l2, dI h2, dI l3, dI h3], .agg [dI den, dI each, dI x0, dI x1, dI x2, dI x3, dI y0, dI y1, dI y2, dI y3, .sl q_ps ps.length 1 (eI.F ps)]] =
    tr111 l sv l0 h0 l1 h1 l2 h2 l3 h3 den each x0 x1 x2 x3 y0 y1 y2 y3 ps := by kernel_rfl
theorem w109 (q_l : Bool) (l : List Cask) (sv l0 h0 l1 h1 l2 h2 l3 h3 : Int) (q_ps : Bool) (den each x0 x1 x2 x3 y0 y1 y2 y3 : Int) (ps : List Int) (hn : ∀ c, c ∈ l → c.nm.size ≤ 1000000) (hp : ps.length ≤ 1000000) : (tr109 q_l l sv l0 h0 l1 h1 l2 h2 l3 h3 q_ps den each x0 x1 x2 x3 y0 y1 y2 y3 ps).wp (fun rs => rsEqv rs [rI (M.openW l (⟨sv, ⟨l0, h0⟩, ⟨l1, h1⟩, ⟨l2, h2⟩, ⟨l3, h3⟩⟩ : Sample) (⟨den, each, x0, x1, x2, x3, y0, y1, y2, y3, ps⟩ : Wts))]) := by
  unfold tr109
  obtain ⟨a1, a2⟩ := wF_x q_ps (⟨den, each, x0, x1, x2, x3, y0, y1, y2, y3, ps⟩ : Wts)
  obtain ⟨b1, b2⟩ := wF_y q_ps (⟨den, each, x0, x1, x2, x3, y0, y1, y2, y3, ps⟩ : Wts)
  simp only [Enc.list_F, a1, b1]
  have key : M.openW l (⟨sv, ⟨l0, h0⟩, ⟨l1, h1⟩, ⟨l2, h2⟩, ⟨l3, h3⟩⟩ : Sample) (⟨den, each, x0, x1, x2, x3, y0, y1, y2, y3, ps⟩ : Wts) = M.first [M.casksErr l, M.checkSample (⟨sv, ⟨l0, h0⟩, ⟨l1, h1⟩, ⟨l2, h2⟩, ⟨l3, h3⟩⟩ : Sample), M.unl (M.within den 1 200000000000 && M.within each (-100000000000000) 100000000000000) 2, M.unl ((ps.length : Int) == (l.length : Int)) 10, M.unl (M.allB M.isWeight [x0, x1, x2, x3] && M.allB M.isWeight [y0, y1, y2, y3] && M.allB M.isWeight ps) 2] := rfl
  rw [key]
  refine ⟨a2, by decide, wp_br (fun h1 => ⟨b2, by decide, wp_br (fun h2 => ⟨Enc.is_F _ _ _, hp, wp_br (fun h3 => ?_) (fun h3 => ?_)⟩) (fun h2 => wp_br (fun h3 => ?_) (fun h3 => ?_))⟩) (fun h1 => wp_br (fun h3 => ?_) (fun h3 => ?_))⟩
  · rw [h1, h2, h3]; exact ⟨Enc.is_F _ _ _, hn, rfl, rsEqv_refl _⟩
  · rw [h1, h2, h3]; exact ⟨Enc.is_F _ _ _, hn, rfl, rsEqv_refl _⟩
  · rw [h1, h2, h3]; exact ⟨Enc.is_F _ _ _, hn, rfl, rsEqv_refl _⟩
  · rw [h1, h2, h3]; exact ⟨Enc.is_F _ _ _, hn, rfl, rsEqv_refl _⟩
  · rw [h1, h3]; exact ⟨Enc.is_F _ _ _, hn, rfl, rsEqv_refl _⟩
  · rw [h1, h3]; exact ⟨Enc.is_F _ _ _, hn, rfl, rsEqv_refl _⟩
theorem wErr_a {n : Nat} {w : Wts} (h : M.wHead w = false) : M.wErr n w = 2 := by unfold M.wErr; rw [h]; rfl
theorem wErr_l {n : Nat} {w : Wts} (h : M.wHead w = true) (h2 : ((w.casks.length : Int) == (n : Int)) = false) : M.wErr n w = 10 := by unfold M.wErr; rw [h, h2]; rfl
theorem wErr_r {n : Nat} {w : Wts} (h : M.wHead w = true) (h2 : ((w.casks.length : Int) == (n : Int)) = true) (h3 : M.wOk w = false) : M.wErr n w = 2 := by unfold M.wErr; rw [h, h2, h3]; rfl
theorem wErr_ok {n : Nat} {w : Wts} (h : M.wHead w = true) (h2 : ((w.casks.length : Int) == (n : Int)) = true) (h3 : M.wOk w = true) : M.wErr n w = 0 := by unfold M.wErr; rw [h, h2, h3]; rfl
theorem not_true {b : Bool} (h : (!b) = true) : b = false := by cases b <;> simp_all
theorem not_false' {b : Bool} (h : (!b) = false) : b = true := by cases b <;> simp_all
theorem w76 (l : List Cask) (den each x0 x1 x2 x3 y0 y1 y2 y3 : Int) (ps : List Int) (hl : l.length ≤ 1000000) (hp : ps.length ≤ 1000000) : (tr76 l den each x0 x1 x2 x3 y0 y1 y2 y3 ps).wp (fun rs => rsEqv rs [rI (M.wErr l.length (⟨den, each, x0, x1, x2, x3, y0, y1, y2, y3, ps⟩ : Wts))]) := by
  unfold tr76
  have hA : M.wHead (⟨den, each, x0, x1, x2, x3, y0, y1, y2, y3, ps⟩ : Wts) = (M.within den 1 200000000000 && M.within each (-100000000000000) 100000000000000) := rfl
  have hR : M.wOk (⟨den, each, x0, x1, x2, x3, y0, y1, y2, y3, ps⟩ : Wts) = (M.allB M.isWeight [x0, x1, x2, x3] && M.allB M.isWeight [y0, y1, y2, y3] && M.allB M.isWeight ps) := rfl
  have e4 : ∀ a b c d : Int, M.allB M.isWeight [a, b, c, d] = cond (M.within a 0 100000000000000) (cond (M.within b 0 100000000000000) (cond (M.within c 0 100000000000000) (cond (M.within d 0 100000000000000) true false) false) false) false := fun _ _ _ _ => rfl
  rw [e4, e4] at hR
  obtain ⟨P, hP⟩ : ∃ P, P = M.allB M.isWeight ps := ⟨_, rfl⟩
  rw [← hP] at hR
  refine wp_br (fun h1 => ?_) (fun h1 => ?_)
  · rw [wErr_a (by rw [hA, not_true h1]; rfl)]; exact rsEqv_refl _
  refine wp_br (fun h2 => ?_) (fun h2 => ?_)
  · rw [wErr_a (by rw [hA, not_false' h1, not_true h2]; rfl)]; exact rsEqv_refl _
  rw [not_false' h1, not_false' h2] at hA
  refine wp_br (fun h3 => ?_) (fun h3 => ?_)
  · rw [wErr_l hA (by rw [bne] at h3; exact not_true h3)]; exact rsEqv_refl _
  have hL : ((ps.length : Int) == (l.length : Int)) = true := by rw [bne] at h3; exact not_false' h3
  refine wp_br (fun gx0 => ?_) (fun gx0 => ?_)
  · rw [wErr_r hA hL (by rw [hR, not_true gx0]; simp)]; exact rsEqv_refl _
  refine wp_br (fun gy0 => ?_) (fun gy0 => ?_)
  · rw [wErr_r hA hL (by rw [hR, not_false' gx0, not_true gy0]; simp)]; exact rsEqv_refl _
  refine wp_br (fun gx1 => ?_) (fun gx1 => ?_)
  · rw [wErr_r hA hL (by rw [hR, not_false' gx0, not_false' gy0, not_true gx1]; simp)]; exact rsEqv_refl _
  refine wp_br (fun gy1 => ?_) (fun gy1 => ?_)
  · rw [wErr_r hA hL (by rw [hR, not_false' gx0, not_false' gy0, not_false' gx1, not_true gy1]; simp)]; exact rsEqv_refl _
  refine wp_br (fun gx2 => ?_) (fun gx2 => ?_)
  · rw [wErr_r hA hL (by rw [hR, not_false' gx0, not_false' gy0, not_false' gx1, not_false' gy1, not_true gx2]; simp)]; exact rsEqv_refl _
  refine wp_br (fun gy2 => ?_) (fun gy2 => ?_)
  · rw [wErr_r hA hL (by rw [hR, not_false' gx0, not_false' gy0, not_false' gx1, not_false' gy1, not_false' gx2, not_true gy2]; simp)]; exact rsEqv_refl _
  refine wp_br (fun gx3 => ?_) (fun gx3 => ?_)
  · rw [wErr_r hA hL (by rw [hR, not_false' gx0, not_false' gy0, not_false' gx1, not_false' gy1, not_false' gx2, not_false' gy2, not_true gx3]; simp)]; exact rsEqv_refl _
  refine wp_br (fun gy3 => ?_) (fun gy3 => ?_)
  · rw [wErr_r hA hL (by rw [hR, not_false' gx0, not_false' gy0, not_false' gx1, not_false' gy1, not_false' gx2, not_false' gy2, not_false' gx3, not_true gy3]; simp)]; exact rsEqv_refl _
  rw [not_false' gx0, not_false' gy0, not_false' gx1, not_false' gy1, not_false' gx2, not_false' gy2, not_false' gx3, not_false' gy3] at hR
  have hR : M.wOk (⟨den, each, x0, x1, x2, x3, y0, y1, y2, y3, ps⟩ : Wts) = P := hR
  have hlen : ps.length = l.length := by have := eq_of_beq hL; omega
  refine range_wp (n := l.length) (fun k _ => M.allB M.isWeight ps = M.allB M.isWeight (ps.drop k)) rfl ?_
  rintro k u hk hI
  refine ⟨fun hb => ?_, fun hb => ?_⟩
  · have hlt := lt_of_dec hb
    have hdrop : M.allB M.isWeight ps = cond (M.within (ps.getD k 0) 0 100000000000000) (M.allB M.isWeight (ps.drop (k + 1))) false := by
      rw [hI, getD_drop (d := 0) (by omega)]; rfl
    refine ⟨by show (0 : Int) ≤ k; omega, by show (k : Int) < ps.length; omega, fun hc => ?_, fun hc => ?_⟩
    · have hc : M.within (ps.getD k 0) 0 100000000000000 = false := not_true hc
      rw [wErr_r hA hL (by rw [hR, hP, hdrop, hc]; rfl)]; exact rsEqv_refl _
    · have hc : M.within (ps.getD k 0) 0 100000000000000 = true := not_false' hc
      refine ⟨hlt, wrap_succ (by omega), ?_⟩
      rw [hdrop, hc]; rfl
  · have hge := ge_of_dec hb
    rw [List.drop_of_length_le (l := ps) (by omega)] at hI
    rw [wErr_ok hA hL (by rw [hR, hP, hI]; rfl)]; exact rsEqv_refl _
theorem w77 (l : List Cask) (sv l0 h0 l1 h1 l2 h2 l3 h3 : Int) (den each x0 x1 x2 x3 y0 y1 y2 y3 : Int) (ps : List Int) (i : Int) (g0 : 0 ≤ i) (g1 : i < (ps.length : Int)) (g2 : i < (l.length : Int)) : (tr77 l sv l0 h0 l1 h1 l2 h2 l3 h3 den each x0 x1 x2 x3 y0 y1 y2 y3 ps i).wp (fun rs => rsEqv rs [rI (M.giveR l (⟨sv, ⟨l0, h0⟩, ⟨l1, h1⟩, ⟨l2, h2⟩, ⟨l3, h3⟩⟩ : Sample) (⟨den, each, x0, x1, x2, x3, y0, y1, y2, y3, ps⟩ : Wts) i.toNat)]) := by
  unfold tr77
  iterate 34 refine ⟨by first | assumption | decide, ?_⟩
  exact rsEqv_refl _
theorem w79 (l : List Cask) (sv l0 h0 l1 h1 l2 h2 l3 h3 : Int) (den each x0 x1 x2 x3 y0 y1 y2 y3 : Int) (ps : List Int) (g1 : l.length ≤ ps.length) (g2 : l.length ≤ 1000000) : (tr79 l sv l0 h0 l1 h1 l2 h2 l3 h3 den each x0 x1 x2 x3 y0 y1 y2 y3 ps).wp (fun rs => rsEqv rs [rI (M.boundR l (⟨sv, ⟨l0, h0⟩, ⟨l1, h1⟩, ⟨l2, h2⟩, ⟨l3, h3⟩⟩ : Sample) (⟨den, each, x0, x1, x2, x3, y0, y1, y2, y3, ps⟩ : Wts))]) := by
  unfold tr79
  refine range_wp (n := l.length) (fun k s => s.1 = (List.range k).foldl (fun a i => IntKind.i64.wrap (a - IntKind.i64.wrap (ps.getD i 0 * (l.getD i dfC).vol))) (IntKind.i64.wrap (each * sv))) rfl ?_
  rintro k ⟨a, u⟩ hk hI
  simp only at hI
  refine ⟨fun hb => ?_, fun hb => ?_⟩
  · have hlt := lt_of_dec hb
    refine ⟨by show (0 : Int) ≤ k; omega, by show (k : Int) < ps.length; omega, by show (0 : Int) ≤ k; omega, by show (k : Int) < l.length; omega, hlt, wrap_succ (by omega), ?_⟩
    rw [foldl_succ, ← hI]
    rfl
  · have hge := ge_of_dec hb
    obtain rfl : k = l.length := by omega
    have e : a = M.boundR l (⟨sv, ⟨l0, h0⟩, ⟨l1, h1⟩, ⟨l2, h2⟩, ⟨l3, h3⟩⟩ : Sample) (⟨den, each, x0, x1, x2, x3, y0, y1, y2, y3, ps⟩ : Wts) := hI
    show rsEqv [rI a] _
    rw [e]; exact rsEqv_refl _
theorem w111 (l : List Cask) (sv l0 h0 l1 h1 l2 h2 l3 h3 : Int) (den each x0 x1 x2 x3 y0 y1 y2 y3 : Int) (ps : List Int) (g1 : l.length ≤ ps.length) (g2 : l.length ≤ 1000000) : (tr111 l sv l0 h0 l1 h1 l2 h2 l3 h3 den each x0 x1 x2 x3 y0 y1 y2 y3 ps).wp (fun rs => rsEqv rs [rI (M.boundR l (⟨sv, ⟨l0, h0⟩, ⟨l1, h1⟩, ⟨l2, h2⟩, ⟨l3, h3⟩⟩ : Sample) (⟨den, each, x0, x1, x2, x3, y0, y1, y2, y3, ps⟩ : Wts))]) := by
  unfold tr111
  refine range_wp (n := l.length) (fun k s => s.1 = (List.range k).foldl (fun a i => IntKind.i64.wrap (a - IntKind.i64.wrap (ps.getD i 0 * (l.getD i dfC).vol))) (IntKind.i64.wrap (each * sv))) rfl ?_
  rintro k ⟨a, u⟩ hk hI
  simp only at hI
  refine ⟨fun hb => ?_, fun hb => ?_⟩
  · have hlt := lt_of_dec hb
    refine ⟨by show (0 : Int) ≤ k; omega, by show (k : Int) < l.length; omega, by show (0 : Int) ≤ k; omega, by show (k : Int) < ps.length; omega, hlt, wrap_succ (by omega), ?_⟩
    rw [foldl_succ, ← hI]
    rfl
  · have hge := ge_of_dec hb
    obtain rfl : k = l.length := by omega
    have e : a = M.boundR l (⟨sv, ⟨l0, h0⟩, ⟨l1, h1⟩, ⟨l2, h2⟩, ⟨l3, h3⟩⟩ : Sample) (⟨den, each, x0, x1, x2, x3, y0, y1, y2, y3, ps⟩ : Wts) := hI
    show rsEqv [rI a] _
    rw [e]; exact rsEqv_refl _
def dom109 : DomF
  | [.c (.sl _ n_l st_l F_l), .agg [.int .i64 sv, .int .i64 l0, .int .i64 h0, .int .i64 l1, .int .i64 h1, .int .i64 l2, .int .i64 h2, .int .i64 l3, .int .i64 h3], .agg [.int .i64 den, .int .i64 each, .int .i64 x0, .int .i64 x1, .int .i64 x2, .int .i64 x3, .int .i64 y0, .int .i64 y1, .int .i64 y2, .int .i64 y3, .sl _ n_ps st_ps F_ps]] => (match Nat.beq st_l 7 && Nat.beq st_ps 1 with
    | true => some ([eC.Is n_l F_l, eI.Is n_ps F_ps, ∀ c, c ∈ (eC.list n_l F_l) → c.nm.size ≤ 1000000, (eI.list n_ps F_ps).length ≤ 1000000], [rI (M.openW (eC.list n_l F_l) (⟨sv, ⟨l0, h0⟩, ⟨l1, h1⟩, ⟨l2, h2⟩, ⟨l3, h3⟩⟩ : Sample) (⟨den, each, x0, x1, x2, x3, y0, y1, y2, y3, (eI.list n_ps F_ps)⟩ : Wts))])
    | _ => none)
  | _ => none
def v109 : Nat × Sm := (109, fokSm dom109)
theorem C109 : FOK Try.prog G0 gw 109 dom109 := by
  intro ags p r hd hp κ w xs hw hl hG hx
  unfold dom109 at hd
  split at hd
  · rename_i q_l n_l st_l F_l sv l0 h0 l1 h1 l2 h2 l3 h3 den each x0 x1 x2 x3 y0 y1 y2 y3 q_ps n_ps st_ps F_ps
    split at hd
    · rename_i hst
      simp only [Bool.and_eq_true] at hst
      obtain ⟨g1, g2⟩ := hst
      have g1 := Nat.eq_of_beq_eq_true g1
      have g2 := Nat.eq_of_beq_eq_true g2
      subst g1 g2
      simp only [Option.some.injEq, Prod.mk.injEq] at hd
      obtain ⟨rfl, rfl⟩ := hd
      obtain ⟨hI_l, hI_ps, hp⟩ := hp
      have heq : agsEqv [.c (.sl q_l n_l 7 F_l), .agg [.int .i64 sv, .int .i64 l0, .int .i64 h0, .int .i64 l1, .int .i64 h1, .int .i64 l2, .int .i64 h2, .int .i64 l3, .int .i64 h3], .agg [.int .i64 den, .int .i64 each, .int .i64 x0, .int .i64 x1, .int .i64 x2, .int .i64 x3, .int .i64 y0, .int .i64 y1, .int .i64 y2, .int .i64 y3, .sl q_ps n_ps 1 F_ps]] [.c (.sl q_l (eC.list n_l F_l).length 7 (eC.F (eC.list n_l F_l))), .agg [.int .i64 sv, .int .i64 l0, .int .i64 h0, .int .i64 l1, .int .i64 h1, .int .i64 l2, .int .i64 h2, .int .i64 l3, .int .i64 h3], .agg [.int .i64 den, .int .i64 each, .int .i64 x0, .int .i64 x1, .int .i64 x2, .int .i64 x3, .int .i64 y0, .int .i64 y1, .int .i64 y2, .int .i64 y3, .sl q_ps (eI.list n_ps F_ps).length 1 (eI.F (eI.list n_ps F_ps))]] := ⟨eC.to id hI_l, Ag.eqv_refl _, ⟨rfl, rfl, rfl, rfl, rfl, rfl, rfl, rfl, rfl, rfl, eI.to id hI_ps, trivial⟩, trivial⟩
      have len_l : (eC.list n_l F_l).length = n_l := eC.list_len
      have len_ps : (eI.list n_ps F_ps).length = n_ps := eI.list_len
      generalize eC.list n_l F_l = l at *
      generalize eI.list n_ps F_ps = ps at *
      subst len_l len_ps
      exact fokX_fin mixed gw_stable (sl := [v103w, v65, v49, v102, v80, v64, v130]) ⟨S103w, S65, S49, S102, S80, S64, S130, trivial⟩ Try.func109 hw hl hG hx heq rfl (t109 q_l l sv l0 h0 l1 h1 l2 h2 l3 h3 den each x0 x1 x2 x3 y0 y1 y2 y3 q_ps ps) (w109 q_l l sv l0 h0 l1 h1 l2 h2 l3 h3 q_ps den each x0 x1 x2 x3 y0 y1 y2 y3 ps hp.1 hp.2.1)
    · cases hd
  · cases hd
theorem S109 : SumOK Try.prog G0 gw 109 (fokSm dom109) := fok_sum Try.func109 rfl C109
def dom56 : DomF
  | [.agg [.int .i64 den, .int .i64 each, .int .i64 x0, .int .i64 x1, .int .i64 x2, .int .i64 x3, .int .i64 y0, .int .i64 y1, .int .i64 y2, .int .i64 y3, .sl _ n_ps st_ps F_ps]] => (match Nat.beq st_ps 1 with
    | true => some ([eI.Is n_ps F_ps, (eI.list n_ps F_ps).length ≤ 1000000], [.agg [dI den, dI each, dI x0, dI x1, dI x2, dI x3, dI y0, dI y1, dI y2, dI y3, .sl true n_ps 1 (eI.F (eI.list n_ps F_ps))]])
    | _ => none)
  | _ => none
def v56 : Nat × Sm := (56, fokSm dom56)
theorem C56 : FOK Try.prog G0 gw 56 dom56 := by
  intro ags p r hd hp κ w xs hw hl hG hx
  unfold dom56 at hd
  split at hd
  · rename_i den each x0 x1 x2 x3 y0 y1 y2 y3 q_ps n_ps st_ps F_ps
    split at hd
    · rename_i hst
      have g1 := hst
      have g1 := Nat.eq_of_beq_eq_true g1
      subst g1
      simp only [Option.some.injEq, Prod.mk.injEq] at hd
      obtain ⟨rfl, rfl⟩ := hd
      obtain ⟨hI_ps, hp⟩ := hp
      have heq : agsEqv [.agg [.int .i64 den, .int .i64 each, .int .i64 x0, .int .i64 x1, .int .i64 x2, .int .i64 x3, .int .i64 y0, .int .i64 y1, .int .i64 y2, .int .i64 y3, .sl q_ps n_ps 1 F_ps]] [.agg [.int .i64 den, .int .i64 each, .int .i64 x0, .int .i64 x1, .int .i64 x2, .int .i64 x3, .int .i64 y0, .int .i64 y1, .int .i64 y2, .int .i64 y3, .sl q_ps (eI.list n_ps F_ps).length 1 (eI.F (eI.list n_ps F_ps))]] := ⟨⟨rfl, rfl, rfl, rfl, rfl, rfl, rfl, rfl, rfl, rfl, eI.to id hI_ps, trivial⟩, trivial⟩
      have len_ps : (eI.list n_ps F_ps).length = n_ps := eI.list_len
      generalize eI.list n_ps F_ps = ps at *
      subst len_ps
      exact fokX_fin mixed gw_stable (sl := [v41]) ⟨S41, trivial⟩ Try.func56 hw hl hG hx heq rfl (t56 den each x0 x1 x2 x3 y0 y1 y2 y3 q_ps ps) ((by unfold tr56; rw [Enc.list_F]; exact ⟨Enc.is_F _ _ _, hp.1, rsEqv_refl _⟩))
    · cases hd
  · cases hd
theorem S56 : SumOK Try.prog G0 gw 56 (fokSm dom56) := fok_sum Try.func56 rfl C56
def dom76 : DomF
  | [.c (.sl _ n_l st_l F_l), .agg [.int .i64 den, .int .i64 each, .int .i64 x0, .int .i64 x1, .int .i64 x2, .int .i64 x3, .int .i64 y0, .int .i64 y1, .int .i64 y2, .int .i64 y3, .sl _ n_ps st_ps F_ps]] => (match Nat.beq st_l 7 && Nat.beq st_ps 1 with
    | true => some ([eC.Is n_l F_l, eI.Is n_ps F_ps, (eC.list n_l F_l).length ≤ 1000000, (eI.list n_ps F_ps).length ≤ 1000000], [rI (M.wErr (eC.list n_l F_l).length (⟨den, each, x0, x1, x2, x3, y0, y1, y2, y3, (eI.list n_ps F_ps)⟩ : Wts))])
    | _ => none)
  | _ => none
def v76 : Nat × Sm := (76, fokSm dom76)
theorem C76 : FOK Try.prog G0 gw 76 dom76 := by
  intro ags p r hd hp κ w xs hw hl hG hx
  unfold dom76 at hd
  split at hd
  · rename_i q_l n_l st_l F_l den each x0 x1 x2 x3 y0 y1 y2 y3 q_ps n_ps st_ps F_ps
    split at hd
    · rename_i hst
      simp only [Bool.and_eq_true] at hst
      obtain ⟨g1, g2⟩ := hst
      have g1 := Nat.eq_of_beq_eq_true g1
      have g2 := Nat.eq_of_beq_eq_true g2
      subst g1 g2
      simp only [Option.some.injEq, Prod.mk.injEq] at hd
      obtain ⟨rfl, rfl⟩ := hd
      obtain ⟨hI_l, hI_ps, hp⟩ := hp
      have heq : agsEqv [.c (.sl q_l n_l 7 F_l), .agg [.int .i64 den, .int .i64 each, .int .i64 x0, .int .i64 x1, .int .i64 x2, .int .i64 x3, .int .i64 y0, .int .i64 y1, .int .i64 y2, .int .i64 y3, .sl q_ps n_ps 1 F_ps]] [.c (.sl q_l (eC.list n_l F_l).length 7 (eC.F (eC.list n_l F_l))), .agg [.int .i64 den, .int .i64 each, .int .i64 x0, .int .i64 x1, .int .i64 x2, .int .i64 x3, .int .i64 y0, .int .i64 y1, .int .i64 y2, .int .i64 y3, .sl q_ps (eI.list n_ps F_ps).length 1 (eI.F (eI.list n_ps F_ps))]] := ⟨eC.to id hI_l, ⟨rfl, rfl, rfl, rfl, rfl, rfl, rfl, rfl, rfl, rfl, eI.to id hI_ps, trivial⟩, trivial⟩
      have len_l : (eC.list n_l F_l).length = n_l := eC.list_len
      have len_ps : (eI.list n_ps F_ps).length = n_ps := eI.list_len
      generalize eC.list n_l F_l = l at *
      generalize eI.list n_ps F_ps = ps at *
      subst len_l len_ps
      exact fokX_fin mixed gw_stable (sl := [v35]) ⟨S35, trivial⟩ Try.func76 hw hl hG hx heq rfl (t76 q_l l den each x0 x1 x2 x3 y0 y1 y2 y3 q_ps ps) (w76 l den each x0 x1 x2 x3 y0 y1 y2 y3 ps hp.1 hp.2.1)
    · cases hd
  · cases hd
theorem S76 : SumOK Try.prog G0 gw 76 (fokSm dom76) := fok_sum Try.func76 rfl C76
def dom77 : DomF
  | [.c (.sl _ n_l st_l F_l), .agg [.int .i64 sv, .int .i64 l0, .int .i64 h0, .int .i64 l1, .int .i64 h1, .int .i64 l2, .int .i64 h2, .int .i64 l3, .int .i64 h3], .agg [.int .i64 den, .int .i64 each, .int .i64 x0, .int .i64 x1, .int .i64 x2, .int .i64 x3, .int .i64 y0, .int .i64 y1, .int .i64 y2, .int .i64 y3, .sl _ n_ps st_ps F_ps], .c (.int .i64 i)] => (match Nat.beq st_l 7 && Nat.beq st_ps 1 with
    | true => some ([eC.Is n_l F_l, eI.Is n_ps F_ps, 0 ≤ i, i < ((eI.list n_ps F_ps).length : Int), i < ((eC.list n_l F_l).length : Int)], [rI (M.giveR (eC.list n_l F_l) (⟨sv, ⟨l0, h0⟩, ⟨l1, h1⟩, ⟨l2, h2⟩, ⟨l3, h3⟩⟩ : Sample) (⟨den, each, x0, x1, x2, x3, y0, y1, y2, y3, (eI.list n_ps F_ps)⟩ : Wts) i.toNat)])
    | _ => none)
  | _ => none
def v77 : Nat × Sm := (77, fokSm dom77)
theorem C77 : FOK Try.prog G0 gw 77 dom77 := by
  intro ags p r hd hp κ w xs hw hl hG hx
  unfold dom77 at hd
  split at hd
  · rename_i q_l n_l st_l F_l sv l0 h0 l1 h1 l2 h2 l3 h3 den each x0 x1 x2 x3 y0 y1 y2 y3 q_ps n_ps st_ps F_ps i
    split at hd
    · rename_i hst
      simp only [Bool.and_eq_true] at hst
      obtain ⟨g1, g2⟩ := hst
      have g1 := Nat.eq_of_beq_eq_true g1
      have g2 := Nat.eq_of_beq_eq_true g2
      subst g1 g2
      simp only [Option.some.injEq, Prod.mk.injEq] at hd
      obtain ⟨rfl, rfl⟩ := hd
      obtain ⟨hI_l, hI_ps, hp⟩ := hp
      have heq : agsEqv [.c (.sl q_l n_l 7 F_l), .agg [.int .i64 sv, .int .i64 l0, .int .i64 h0, .int .i64 l1, .int .i64 h1, .int .i64 l2, .int .i64 h2, .int .i64 l3, .int .i64 h3], .agg [.int .i64 den, .int .i64 each, .int .i64 x0, .int .i64 x1, .int .i64 x2, .int .i64 x3, .int .i64 y0, .int .i64 y1, .int .i64 y2, .int .i64 y3, .sl q_ps n_ps 1 F_ps], .c (.int .i64 i)] [.c (.sl q_l (eC.list n_l F_l).length 7 (eC.F (eC.list n_l F_l))), .agg [.int .i64 sv, .int .i64 l0, .int .i64 h0, .int .i64 l1, .int .i64 h1, .int .i64 l2, .int .i64 h2, .int .i64 l3, .int .i64 h3], .agg [.int .i64 den, .int .i64 each, .int .i64 x0, .int .i64 x1, .int .i64 x2, .int .i64 x3, .int .i64 y0, .int .i64 y1, .int .i64 y2, .int .i64 y3, .sl q_ps (eI.list n_ps F_ps).length 1 (eI.F (eI.list n_ps F_ps))], .c (.int .i64 i)] := ⟨eC.to id hI_l, Ag.eqv_refl _, ⟨rfl, rfl, rfl, rfl, rfl, rfl, rfl, rfl, rfl, rfl, eI.to id hI_ps, trivial⟩, Ag.eqv_refl _, trivial⟩
      have len_l : (eC.list n_l F_l).length = n_l := eC.list_len
      have len_ps : (eI.list n_ps F_ps).length = n_ps := eI.list_len
      generalize eC.list n_l F_l = l at *
      generalize eI.list n_ps F_ps = ps at *
      subst len_l len_ps
      exact fokX_fin mixed gw_stable (sl := []) trivial Try.func77 hw hl hG hx heq rfl (t77 q_l l sv l0 h0 l1 h1 l2 h2 l3 h3 den each x0 x1 x2 x3 y0 y1 y2 y3 q_ps ps i) (w77 l sv l0 h0 l1 h1 l2 h2 l3 h3 den each x0 x1 x2 x3 y0 y1 y2 y3 ps i hp.1 hp.2.1 hp.2.2.1)
    · cases hd
  · cases hd
theorem S77 : SumOK Try.prog G0 gw 77 (fokSm dom77) := fok_sum Try.func77 rfl C77
def dom79 : DomF
  | [.c (.sl _ n_l st_l F_l), .agg [.int .i64 sv, .int .i64 l0, .int .i64 h0, .int .i64 l1, .int .i64 h1, .int .i64 l2, .int .i64 h2, .int .i64 l3, .int .i64 h3], .agg [.int .i64 den, .int .i64 each, .int .i64 x0, .int .i64 x1, .int .i64 x2, .int .i64 x3, .int .i64 y0, .int .i64 y1, .int .i64 y2, .int .i64 y3, .sl _ n_ps st_ps F_ps]] => (match Nat.beq st_l 7 && Nat.beq st_ps 1 with
    | true => some ([eC.Is n_l F_l, eI.Is n_ps F_ps, (eC.list n_l F_l).length ≤ (eI.list n_ps F_ps).length, (eC.list n_l F_l).length ≤ 1000000], [rI (M.boundR (eC.list n_l F_l) (⟨sv, ⟨l0, h0⟩, ⟨l1, h1⟩, ⟨l2, h2⟩, ⟨l3, h3⟩⟩ : Sample) (⟨den, each, x0, x1, x2, x3, y0, y1, y2, y3, (eI.list n_ps F_ps)⟩ : Wts))])
    | _ => none)
  | _ => none
def v79 : Nat × Sm := (79, fokSm dom79)
theorem C79 : FOK Try.prog G0 gw 79 dom79 := by
  intro ags p r hd hp κ w xs hw hl hG hx
  unfold dom79 at hd
  split at hd
  · rename_i q_l n_l st_l F_l sv l0 h0 l1 h1 l2 h2 l3 h3 den each x0 x1 x2 x3 y0 y1 y2 y3 q_ps n_ps st_ps F_ps
    split at hd
    · rename_i hst
      simp only [Bool.and_eq_true] at hst
      obtain ⟨g1, g2⟩ := hst
      have g1 := Nat.eq_of_beq_eq_true g1
      have g2 := Nat.eq_of_beq_eq_true g2
      subst g1 g2
      simp only [Option.some.injEq, Prod.mk.injEq] at hd
      obtain ⟨rfl, rfl⟩ := hd
      obtain ⟨hI_l, hI_ps, hp⟩ := hp
      have heq : agsEqv [.c (.sl q_l n_l 7 F_l), .agg [.int .i64 sv, .int .i64 l0, .int .i64 h0, .int .i64 l1, .int .i64 h1, .int .i64 l2, .int .i64 h2, .int .i64 l3, .int .i64 h3], .agg [.int .i64 den, .int .i64 each, .int .i64 x0, .int .i64 x1, .int .i64 x2, .int .i64 x3, .int .i64 y0, .int .i64 y1, .int .i64 y2, .int .i64 y3, .sl q_ps n_ps 1 F_ps]] [.c (.sl q_l (eC.list n_l F_l).length 7 (eC.F (eC.list n_l F_l))), .agg [.int .i64 sv, .int .i64 l0, .int .i64 h0, .int .i64 l1, .int .i64 h1, .int .i64 l2, .int .i64 h2, .int .i64 l3, .int .i64 h3], .agg [.int .i64 den, .int .i64 each, .int .i64 x0, .int .i64 x1, .int .i64 x2, .int .i64 x3, .int .i64 y0, .int .i64 y1, .int .i64 y2, .int .i64 y3, .sl q_ps (eI.list n_ps F_ps).length 1 (eI.F (eI.list n_ps F_ps))]] := ⟨eC.to id hI_l, Ag.eqv_refl _, ⟨rfl, rfl, rfl, rfl, rfl, rfl, rfl, rfl, rfl, rfl, eI.to id hI_ps, trivial⟩, trivial⟩
      have len_l : (eC.list n_l F_l).length = n_l := eC.list_len
      have len_ps : (eI.list n_ps F_ps).length = n_ps := eI.list_len
      generalize eC.list n_l F_l = l at *
      generalize eI.list n_ps F_ps = ps at *
      subst len_l len_ps
      exact fokX_fin mixed gw_stable (sl := []) trivial Try.func79 hw hl hG hx heq rfl (t79 q_l l sv l0 h0 l1 h1 l2 h2 l3 h3 den each x0 x1 x2 x3 y0 y1 y2 y3 q_ps ps) (w79 l sv l0 h0 l1 h1 l2 h2 l3 h3 den each x0 x1 x2 x3 y0 y1 y2 y3 ps hp.1 hp.2.1)
    · cases hd
  · cases hd
theorem S79 : SumOK Try.prog G0 gw 79 (fokSm dom79) := fok_sum Try.func79 rfl C79
def dom111 : DomF
  | [.c (.sl _ n_l st_l F_l), .agg [.int .i64 sv, .int .i64 l0, .int .i64 h0, .int .i64 l1, .int .i64 h1, .int .i64 l2, .int .i64 h2, .int .i64 l3, .int .i64 h3], .agg [.int .i64 den, .int .i64 each, .int .i64 x0, .int .i64 x1, .int .i64 x2, .int .i64 x3, .int .i64 y0, .int .i64 y1, .int .i64 y2, .int .i64 y3, .sl _ n_ps st_ps F_ps]] => (match Nat.beq st_l 7 && Nat.beq st_ps 1 with
    | true => some ([eC.Is n_l F_l, eI.Is n_ps F_ps, (eC.list n_l F_l).length ≤ (eI.list n_ps F_ps).length, (eC.list n_l F_l).length ≤ 1000000], [rI (M.boundR (eC.list n_l F_l) (⟨sv, ⟨l0, h0⟩, ⟨l1, h1⟩, ⟨l2, h2⟩, ⟨l3, h3⟩⟩ : Sample) (⟨den, each, x0, x1, x2, x3, y0, y1, y2, y3, (eI.list n_ps F_ps)⟩ : Wts))])
    | _ => none)
  | _ => none
def v111 : Nat × Sm := (111, fokSm dom111)
theorem C111 : FOK Try.prog G0 gw 111 dom111 := by
  intro ags p r hd hp κ w xs hw hl hG hx
  unfold dom111 at hd
  split at hd
  · rename_i q_l n_l st_l F_l sv l0 h0 l1 h1 l2 h2 l3 h3 den each x0 x1 x2 x3 y0 y1 y2 y3 q_ps n_ps st_ps F_ps
    split at hd
    · rename_i hst
      simp only [Bool.and_eq_true] at hst
      obtain ⟨g1, g2⟩ := hst
      have g1 := Nat.eq_of_beq_eq_true g1
      have g2 := Nat.eq_of_beq_eq_true g2
      subst g1 g2
      simp only [Option.some.injEq, Prod.mk.injEq] at hd
      obtain ⟨rfl, rfl⟩ := hd
      obtain ⟨hI_l, hI_ps, hp⟩ := hp
      have heq : agsEqv [.c (.sl q_l n_l 7 F_l), .agg [.int .i64 sv, .int .i64 l0, .int .i64 h0, .int .i64 l1, .int .i64 h1, .int .i64 l2, .int .i64 h2, .int .i64 l3, .int .i64 h3], .agg [.int .i64 den, .int .i64 each, .int .i64 x0, .int .i64 x1, .int .i64 x2, .int .i64 x3, .int .i64 y0, .int .i64 y1, .int .i64 y2, .int .i64 y3, .sl q_ps n_ps 1 F_ps]] [.c (.sl q_l (eC.list n_l F_l).length 7 (eC.F (eC.list n_l F_l))), .agg [.int .i64 sv, .int .i64 l0, .int .i64 h0, .int .i64 l1, .int .i64 h1, .int .i64 l2, .int .i64 h2, .int .i64 l3, .int .i64 h3], .agg [.int .i64 den, .int .i64 each, .int .i64 x0, .int .i64 x1, .int .i64 x2, .int .i64 x3, .int .i64 y0, .int .i64 y1, .int .i64 y2, .int .i64 y3, .sl q_ps (eI.list n_ps F_ps).length 1 (eI.F (eI.list n_ps F_ps))]] := ⟨eC.to id hI_l, Ag.eqv_refl _, ⟨rfl, rfl, rfl, rfl, rfl, rfl, rfl, rfl, rfl, rfl, eI.to id hI_ps, trivial⟩, trivial⟩
      have len_l : (eC.list n_l F_l).length = n_l := eC.list_len
      have len_ps : (eI.list n_ps F_ps).length = n_ps := eI.list_len
      generalize eC.list n_l F_l = l at *
      generalize eI.list n_ps F_ps = ps at *
      subst len_l len_ps
      exact fokX_fin mixed gw_stable (sl := []) trivial Try.func111 hw hl hG hx heq rfl (t111 q_l l sv l0 h0 l1 h1 l2 h2 l3 h3 den each x0 x1 x2 x3 y0 y1 y2 y3 q_ps ps) (w111 l sv l0 h0 l1 h1 l2 h2 l3 h3 den each x0 x1 x2 x3 y0 y1 y2 y3 ps hp.1 hp.2.1)
    · cases hd
  · cases hd
theorem S111 : SumOK Try.prog G0 gw 111 (fokSm dom111) := fok_sum Try.func111 rfl C111
end Go.Bl
end
