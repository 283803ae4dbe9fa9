/- The parts of the engines, of their contracts and of the plain laws that the claim rests on: A19, A20, A21, A22, A23, A24, A25, A26, A27, A28, A29, A30, A31, A32, A33, A34, A35, A36, A37, A38, A39, A40, A41, R0, RG, A42, A43, A44, A45. -/
import Derived.Test.YtmlcblciegeniaaFP4
import Derived.ChangeSame
import Derived.ChangeVars
import Derived.ProofKit
import Derived.LaidMore
import Derived.OpenShut
import Derived.Carry
import Derived.ChangeArms
set_option linter.unusedVariables false
set_option linter.unusedSimpArgs false
section
set_option linter.unusedVariables false
set_option linter.unusedSimpArgs false
set_option maxRecDepth 100000
namespace Go.Pl
open Go.V Go.Proofs
namespace M
def frac (n d : Int) : Int × Int × Int := cond (small (told1 n d) 1000000000) (cond (decide (told2 n d > 1000000000)) (0, 0, 8) (told1 n d, told2 n d, 0)) (0, 0, 8)
end M
def resF (x : Int × Int × Int) : List Ar := [.agg [dI x.1, dI x.2.1], rI x.2.2]
theorem gcdL2 (n d : Int) : M.gcdL [n, d] = Int.gcd n d := by
  unfold M.gcdL Int.gcd
  simp
def tr85 (n d : Int) : T (List Ar) :=
    T.need (Enc.Is eI (2 : Nat) fun (i j : Nat) => List.getD [D.int IntKind.i64 n, D.int IntKind.i64 d] (i * (1 : Nat) + j) D.nilp) (T.need (List.length (Enc.list eI (2 : Nat) fun (i j : Nat) => List.getD [D.int IntKind.i64 n, D.int IntKind.i64 d] (i * (1 : Nat) + j) D.nilp) ≤ (1000000 : Nat)) (T.need (∀ (x : Int), (x ∈ Enc.list eI (2 : Nat) fun (i j : Nat) => List.getD [D.int IntKind.i64 n, D.int IntKind.i64 d] (i * (nat_lit 0 + (1 : Nat)) + j) D.nilp) → i64ok x) (T.need ((Nat.cast (R := Int) (M.gcdL (Enc.list eI (2 : Nat) fun (i j : Nat) => List.getD [D.int IntKind.i64 n, D.int IntKind.i64 d] (i * (1 : Nat) + j) D.nilp))) ≠ (0 : Int)) (T.need ((Nat.cast (R := Int) (M.gcdL (Enc.list eI (2 : Nat) fun (i j : Nat) => List.getD [D.int IntKind.i64 n, D.int IntKind.i64 d] (i * (1 : Nat) + j) D.nilp))) ≠ (0 : Int)) (T.need ((0 : Int) ≤ (1000000000 : Int) ∧ (1000000000 : Int) < (9223372036854775808 : Int)) (T.br (!M.small (IntKind.wrap IntKind.i64 (Int.tdiv n (Nat.cast (R := Int) (M.gcdL (Enc.list eI (2 : Nat) fun (i j : Nat) => List.getD [D.int IntKind.i64 n, D.int IntKind.i64 d] (i * (1 : Nat) + j) D.nilp))))) (1000000000 : Int)) (T.ret [Ar.agg [D.int IntKind.i64 (0 : Int), D.int IntKind.i64 (0 : Int)], Ar.c (D.int IntKind.i64 (8 : Int))]) (T.br (decide (IntKind.wrap IntKind.i64 (Int.tdiv d (Nat.cast (R := Int) (M.gcdL (Enc.list eI (2 : Nat) fun (i j : Nat) => List.getD [D.int IntKind.i64 n, D.int IntKind.i64 d] (i * (1 : Nat) + j) D.nilp)))) > (1000000000 : Int))) (T.ret [Ar.agg [D.int IntKind.i64 (0 : Int), D.int IntKind.i64 (0 : Int)], Ar.c (D.int IntKind.i64 (8 : Int))]) (T.ret [Ar.agg [D.int IntKind.i64 (IntKind.wrap IntKind.i64 (Int.tdiv n (Nat.cast (R := Int) (M.gcdL (Enc.list eI (2 : Nat) fun (i j : Nat) => List.getD [D.int IntKind.i64 n, D.int IntKind.i64 d] (i * (1 : Nat) + j) D.nilp))))), D.int IntKind.i64 (IntKind.wrap IntKind.i64 (Int.tdiv d (Nat.cast (R := Int) (M.gcdL (Enc.list eI (2 : Nat) fun (i j : Nat) => List.getD [D.int IntKind.i64 n, D.int IntKind.i64 d] (i * (1 : Nat) + j) D.nilp)))))], Ar.c (D.int IntKind.i64 (0 : Int))]))))))))
theorem t85 (n d : Int) : runFnX Try.prog G0 (lookS [v121, v151]) (fun _ => []) [] 1 40 3 85 Try.f85 [.agg [dI n, dI d]] =
    tr85 n d := by kernel_rfl
theorem w85 (n d : Int) (hn : i64ok n) (hd : i64ok d) (h0 : 0 < d) : (tr85 n d).wp (fun rs => rsEqv rs (resF (M.frac n d))) := by
  unfold tr85
  have hl : (eI.list 2 fun (i j : Nat) => List.getD [D.int IntKind.i64 n, D.int IntKind.i64 d] (i * 1 + j) D.nilp) = [n, d] := rfl
  have hl2 : (eI.list 2 fun (i j : Nat) => List.getD [D.int IntKind.i64 n, D.int IntKind.i64 d] (i * (0 + 1) + j) D.nilp) = [n, d] := rfl
  have hg : Int.gcd n d ≠ 0 := by
    intro h
    have := Int.gcd_eq_zero_iff.1 h
    omega
  have w1 := tdiv_ok (n := n) (g := Int.gcd n d) hn
  have w2 := tdiv_ok (n := d) (g := Int.gcd n d) hd
  simp only [hl, gcdL2, w1, w2]
  refine ⟨is_lit2 (D.eqv_refl _) (D.eqv_refl _), of_decide_eq_true rfl, fun x hx => ?_, by omega, by omega, by decide, ?_⟩
  · have hx : x ∈ [n, d] := hx
    simp only [List.mem_cons, List.not_mem_nil, or_false] at hx
    rcases hx with rfl | rfl
    · exact hn
    · exact hd
  · refine wp_br (fun a => ?_) (fun a => wp_br (fun b => ?_) (fun b => ?_))
    · have a : (!M.small (M.told1 n d) 1000000000) = true := a
      rw [Bool.not_eq_true'] at a
      have e : M.frac n d = (0, 0, 8) := by unfold M.frac; rw [a]; rfl
      rw [e]; exact rsEqv_refl _
    · have a : (!M.small (M.told1 n d) 1000000000) = false := a
      rw [Bool.not_eq_false'] at a
      have b : decide (M.told2 n d > 1000000000) = true := b
      have e : M.frac n d = (0, 0, 8) := by unfold M.frac; rw [a, b]; rfl
      rw [e]; exact rsEqv_refl _
    · have a : (!M.small (M.told1 n d) 1000000000) = false := a
      rw [Bool.not_eq_false'] at a
      have b : decide (M.told2 n d > 1000000000) = false := b
      have e : M.frac n d = (M.told1 n d, M.told2 n d, 0) := by unfold M.frac; rw [a, b]; rfl
      rw [e]; exact rsEqv_refl _
def dom85 : DomF
  | [.agg [.int .i64 n, .int .i64 d]] => some ([i64ok n, i64ok d, 0 < d], resF (M.frac n d))
  | _ => none
def v85 : Nat × Sm := (85, fokSm dom85)
theorem C85 : FOK Try.prog G0 gw 85 dom85 := by
  intro ags p r hd hp κ w xs hw hl hG hx
  unfold dom85 at hd
  split at hd
  · rename_i n d
    simp only [Option.some.injEq, Prod.mk.injEq] at hd
    obtain ⟨rfl, rfl⟩ := hd
    exact fokX_fin mixed gw_stable (sl := [v121, v151]) ⟨S121, S151, trivial⟩ Try.func85 hw hl hG hx (agsEqv_refl _) rfl (t85 n d) (w85 n d hp.1 hp.2.1 hp.2.2.1)
  · cases hd
theorem S85 : SumOK Try.prog G0 gw 85 (fokSm dom85) := fok_sum Try.func85 rfl C85
def tr83 (q_mo : Bool) (mo : List Int) (q_ga : Bool) (ga : List Int) (q_de : Bool) (de : List Dem) : T (List Ar) :=
    T.need (Enc.Is eI (List.length mo) (Enc.F eI mo)) (T.need (Enc.Is eI (List.length ga) (Enc.F eI ga)) (T.need (Enc.Is eDm (List.length de) (Enc.F eDm de)) (T.need (List.length (Enc.list eI (List.length mo) (Enc.F eI mo)) ≤ (1000000 : Nat)) (T.need (List.length (Enc.list eI (List.length ga) (Enc.F eI ga)) ≤ (1000000 : Nat)) (T.need (List.length (Enc.list eDm (List.length de) (Enc.F eDm de)) ≤ (1000000 : Nat)) (T.need (∀ (d : Dem), d ∈ Enc.list eDm (List.length de) (Enc.F eDm de) → ByteArray.size (Dem.nm d) ≤ (1000000 : Nat) ∧ List.length (Dem.co d) ≤ (1000000 : Nat)) (T.ret [Ar.agg [D.sl q_mo (List.length mo) (1 : Nat) (Enc.F eI mo), D.sl q_ga (List.length ga) (1 : Nat) (Enc.F eI ga), D.sl q_de (List.length de) (3 : Nat) (Enc.F eDm de)], Ar.c (D.int IntKind.i64 (Prod.snd (M.checkProg (Enc.list eI (List.length mo) (Enc.F eI mo)) (Enc.list eI (List.length ga) (Enc.F eI ga)) (Enc.list eDm (List.length de) (Enc.F eDm de)))))])))))))
theorem t83 (q_mo : Bool) (mo : List Int) (q_ga : Bool) (ga : List Int) (q_de : Bool) (de : List Dem) : runFnX Try.prog G0 (lookS [v42]) (fun _ => []) [] 1 40 3 83 Try.f83 [.agg [.sl q_mo mo.length 1 (eI.F mo), .sl q_ga ga.length 1 (eI.F ga), .sl q_de de.length 3 (eDm.F de)]] =
    tr83 q_mo mo q_ga ga q_de de := by kernel_rfl
theorem w83 (qm : Bool) (mo : List Int) (qg : Bool) (ga : List Int) (qd : Bool) (de : List Dem) (h1 : mo.length ≤ 1000000) (h2 : ga.length ≤ 1000000) (h3 : de.length ≤ 1000000) (hn : ∀ d, d ∈ de → d.nm.size ≤ 1000000 ∧ d.co.length ≤ 1000000) : (tr83 qm mo qg ga qd de).wp (fun rs => rsEqv rs [.agg [.sl qm mo.length 1 (eI.F mo), .sl qg ga.length 1 (eI.F ga), .sl qd de.length 3 (eDm.F de)], rI (M.checkProg mo ga de).2]) := by
  unfold tr83
  simp only [Enc.list_F]
  exact ⟨Enc.is_F _ _ _, Enc.is_F _ _ _, Enc.is_F _ _ _, h1, h2, h3, hn, rsEqv_refl _⟩
def dom83 : DomF
  | [.agg [.sl qm n1 st1 F1, .sl qg n2 st2 F2, .sl qd n3 st3 F3]] => (match Nat.beq st1 1 && Nat.beq st2 1 && Nat.beq st3 3 with
    | true => some ([eI.Is n1 F1, eI.Is n2 F2, eDm.Is n3 F3, n1 ≤ 1000000, n2 ≤ 1000000, n3 ≤ 1000000, ∀ d, d ∈ eDm.list n3 F3 → d.nm.size ≤ 1000000 ∧ d.co.length ≤ 1000000], [.agg [.sl qm n1 1 (eI.F (eI.list n1 F1)), .sl qg n2 1 (eI.F (eI.list n2 F2)), .sl qd n3 3 (eDm.F (eDm.list n3 F3))], rI (M.checkProg (eI.list n1 F1) (eI.list n2 F2) (eDm.list n3 F3)).2])
    | _ => none)
  | _ => none
def v83 : Nat × Sm := (83, fokSm dom83)
theorem C83 : FOK Try.prog G0 gw 83 dom83 := by
  intro ags p r hd hp κ w xs hw hl hG hx
  unfold dom83 at hd
  split at hd
  · rename_i qm n1 st1 F1 qg n2 st2 F2 qd n3 st3 F3
    split at hd
    · rename_i hst
      simp only [Bool.and_eq_true] at hst
      have g1 := Nat.eq_of_beq_eq_true hst.1.1
      have g2 := Nat.eq_of_beq_eq_true hst.1.2
      have g3 := Nat.eq_of_beq_eq_true hst.2
      subst g1 g2 g3
      simp only [Option.some.injEq, Prod.mk.injEq] at hd
      obtain ⟨rfl, rfl⟩ := hd
      obtain ⟨i1, i2, i3, l1, l2, l3, hn, _⟩ := hp
      have heq : agsEqv [.agg [.sl qm n1 1 F1, .sl qg n2 1 F2, .sl qd n3 3 F3]] [.agg [.sl qm (eI.list n1 F1).length 1 (eI.F (eI.list n1 F1)), .sl qg (eI.list n2 F2).length 1 (eI.F (eI.list n2 F2)), .sl qd (eDm.list n3 F3).length 3 (eDm.F (eDm.list n3 F3))]] := ⟨⟨eI.to id i1, eI.to id i2, eDm.to id i3, trivial⟩, trivial⟩
      have e1 : (eI.list n1 F1).length = n1 := Enc.list_len _
      have e2 : (eI.list n2 F2).length = n2 := Enc.list_len _
      have e3 : (eDm.list n3 F3).length = n3 := Enc.list_len _
      have hw0 := w83 qm (eI.list n1 F1) qg (eI.list n2 F2) qd (eDm.list n3 F3) (by omega) (by omega) (by omega) hn
      rw [e1, e2, e3] at hw0
      exact fokX_fin mixed gw_stable (sl := [v42]) ⟨S42, trivial⟩ Try.func83 hw hl hG hx heq rfl (t83 qm _ qg _ qd _) hw0
    · cases hd
  · cases hd
theorem S83 : SumOK Try.prog G0 gw 83 (fokSm dom83) := fok_sum Try.func83 rfl C83
end Go.Pl
end

section
set_option linter.unusedVariables false
set_option linter.unusedSimpArgs false
set_option maxRecDepth 100000
namespace Go.Pl
open Go.V Go.Proofs
def best2 : List Ar := [.agg [dI 34, dI 1, dI 1, dT [10, 2], dI 1, dT [2], dT [1, 0]], rI 0]
def two' : List D := [D.sl true 2 1 (eI.F (eI.list 2 (eI.F [10, 10]))), D.sl true 2 1 (eI.F (eI.list 2 (eI.F [3, 2]))), D.sl true 1 3 (eDm.F (eDm.list 1 (eDm.F [⟨⟨#[97]⟩, [1, 1], 12⟩])))]
theorem two'_eq : two' = two := by kernel_rfl
theorem two1 : Same [.agg two'] [.agg two] := ⟨by rw [two'_eq]; exact agsEqv_refl _⟩
theorem two3 : Same [.agg two', .c (.sl true 2 1 (eI.F (eI.list 2 (eI.F [3, 2])))), .c (.sl false 0 0 (fun _ _ => .nilp))] [.agg two, .c (dT [3, 2]), .c (.sl false 0 0 (fun _ _ => .nilp))] := ⟨by rw [two'_eq]; exact ⟨Ag.eqv_refl _, ag_of_eq (by kernel_rfl), Ag.eqv_refl _, trivial⟩⟩
def nd_t17c : List Prop := [
  Enc.Is eI (2 : Nat) (Enc.F eI [(10 : Int), (10 : Int)]),
  Enc.Is eI (2 : Nat) (Enc.F eI [(3 : Int), (2 : Int)]),
  Enc.Is eDm (1 : Nat) (Enc.F eDm [{ nm := { data := { toList := [(97 : UInt8)] } }, co := [(1 : Int), (1 : Int)], am := (12 : Int) }]),
  (2 : Nat) ≤ (1000000 : Nat),
  (2 : Nat) ≤ (1000000 : Nat),
  (1 : Nat) ≤ (1000000 : Nat),
  ∀ (d : Dem), d ∈ Enc.list eDm (1 : Nat) (Enc.F eDm [{ nm := { data := #[(97 : UInt8)] }, co := [(1 : Int), (1 : Int)], am := (12 : Int) }]) → ByteArray.size (Dem.nm d) ≤ (1000000 : Nat) ∧ List.length (Dem.co d) ≤ (1000000 : Nat),
  Same [Ag.agg [D.sl true (2 : Nat) (1 : Nat) (Enc.F eI (Enc.list eI (2 : Nat) (Enc.F eI [(10 : Int), (10 : Int)]))), D.sl true (2 : Nat) (1 : Nat) (Enc.F eI (Enc.list eI (2 : Nat) (Enc.F eI [(3 : Int), (2 : Int)]))), D.sl true (1 : Nat) (3 : Nat) (Enc.F eDm (Enc.list eDm (1 : Nat) (Enc.F eDm [{ nm := { data := { toList := [(97 : UInt8)] } }, co := [(1 : Int), (1 : Int)], am := (12 : Int) }])))]] [Ag.agg two],
  i64ok (34 : Int),
  i64ok (1 : Int),
  (0 : Int) < (1 : Int),
  Same [Ag.agg [D.sl true (2 : Nat) (1 : Nat) (Enc.F eI (Enc.list eI (2 : Nat) (Enc.F eI [(10 : Int), (10 : Int)]))), D.sl true (2 : Nat) (1 : Nat) (Enc.F eI (Enc.list eI (2 : Nat) (Enc.F eI [(3 : Int), (2 : Int)]))), D.sl true (1 : Nat) (3 : Nat) (Enc.F eDm (Enc.list eDm (1 : Nat) (Enc.F eDm [{ nm := { data := { toList := [(97 : UInt8)] } }, co := [(1 : Int), (1 : Int)], am := (12 : Int) }])))], Ag.c (D.sl true (2 : Nat) (1 : Nat) (Enc.F eI [(3 : Int), (2 : Int)])), Ag.c (D.sl false (0 : Nat) (0 : Nat) fun (x x_1 : Nat) => D.nilp)] [Ag.agg two, Ag.c (dT [(3 : Int), (2 : Int)]), Ag.c (D.sl false (0 : Nat) (0 : Nat) fun (x x_1 : Nat) => D.nilp)]]
theorem t17c  : runFnX Try.prog G0 (lookS [v83, v84c, v85, v86c]) (fun _ => [(999999, [], none)]) [] 1 60 3 17 Try.f17 [.agg two] =
    T.needs nd_t17c (T.ret [Ar.agg [D.int IntKind.i64 (34 : Int), D.int IntKind.i64 (1 : Int), D.int IntKind.i64 (1 : Int), D.sl true (2 : Nat) (1 : Nat) (Enc.F eI [(10 : Int), (2 : Int)]), D.int IntKind.i64 (1 : Int), D.sl true (1 : Nat) (1 : Nat) (Enc.F eI [(2 : Int)]), D.sl true (2 : Nat) (1 : Nat) (Enc.F eI [(1 : Int), (0 : Int)])], Ar.c (D.int IntKind.i64 (0 : Int))]) := by kernel_rfl
theorem all_t17c : All nd_t17c := by
  unfold nd_t17c
  repeat (refine ⟨(by first | exact of_decide_eq_true rfl | exact fun i j _ _ => D.eqv_refl _ | exact Enc.is_F _ _ _ | exact fun i j hi _ => absurd hi (Nat.not_lt_zero i) | exact two1 | exact two3 | exact of_decide_eq_true (by kernel_rfl)), ?_⟩)
  trivial
theorem w_t17c : (T.needs nd_t17c (T.ret [Ar.agg [D.int IntKind.i64 (34 : Int), D.int IntKind.i64 (1 : Int), D.int IntKind.i64 (1 : Int), D.sl true (2 : Nat) (1 : Nat) (Enc.F eI [(10 : Int), (2 : Int)]), D.int IntKind.i64 (1 : Int), D.sl true (1 : Nat) (1 : Nat) (Enc.F eI [(2 : Int)]), D.sl true (2 : Nat) (1 : Nat) (Enc.F eI [(1 : Int), (0 : Int)])], Ar.c (D.int IntKind.i64 (0 : Int))])).wp (fun rs => rsEqv rs best2) := by
  refine T.needs_wp all_t17c ?_
  exact rsEqv_refl _
def nd_t53c : List Prop := [
  Enc.Is eI (2 : Nat) (Enc.F eI [(10 : Int), (10 : Int)]),
  Enc.Is eI (2 : Nat) (Enc.F eI [(3 : Int), (2 : Int)]),
  Enc.Is eDm (1 : Nat) (Enc.F eDm [{ nm := { data := { toList := [(97 : UInt8)] } }, co := [(1 : Int), (1 : Int)], am := (12 : Int) }]),
  (2 : Nat) ≤ (1000000 : Nat),
  (2 : Nat) ≤ (1000000 : Nat),
  (1 : Nat) ≤ (1000000 : Nat),
  ∀ (d : Dem), d ∈ Enc.list eDm (1 : Nat) (Enc.F eDm [{ nm := { data := #[(97 : UInt8)] }, co := [(1 : Int), (1 : Int)], am := (12 : Int) }]) → ByteArray.size (Dem.nm d) ≤ (1000000 : Nat) ∧ List.length (Dem.co d) ≤ (1000000 : Nat),
  ((1 : Int) == (1 : Int)) = true,
  M.within (1 : Int) (1 : Int) (100000000000 : Int) = true,
  Enc.Is eI (1 : Nat) (Enc.F eI [(2 : Int)]),
  (1 : Nat) ≤ (1000000 : Nat),
  (!(badF (170 : Nat) (2 : Int) || false)) = true,
  Enc.Is eI (2 : Nat) (Enc.F eI [(1 : Int), (0 : Int)]),
  (2 : Nat) ≤ (1000000 : Nat),
  Enc.Is eI (2 : Nat) (Enc.F eI [(1 : Int), (0 : Int)]),
  Enc.Is eI (2 : Nat) (Enc.F eI (Enc.list eI (2 : Nat) (Enc.F eI [(10 : Int), (10 : Int)]))),
  List.length (Enc.list eI (2 : Nat) (Enc.F eI [(1 : Int), (0 : Int)])) ≤ (1000000 : Nat),
  List.length (Enc.list eI (2 : Nat) (Enc.F eI [(1 : Int), (0 : Int)])) ≤ List.length (Enc.list eI (2 : Nat) (Enc.F eI (Enc.list eI (2 : Nat) (Enc.F eI [(10 : Int), (10 : Int)])))),
  (0 : Int) ≤ (0 : Int),
  (0 : Int) < (1 : Int),
  (0 : Int) ≤ (0 : Int),
  (0 : Int) < (1 : Int),
  (0 : Int) ≤ (0 : Int),
  (0 : Int) < (2 : Int),
  (0 : Int) ≤ (0 : Int),
  (0 : Int) < (1 : Int),
  (0 : Int) ≤ (0 : Int),
  (0 : Int) < (1 : Int),
  (0 : Int) ≤ (0 : Int),
  (0 : Int) < (2 : Int),
  (0 : Int) ≤ (0 : Int),
  (0 : Int) < (2 : Int),
  (0 : Int) ≤ (1 : Int),
  (1 : Int) < (2 : Int),
  (0 : Int) ≤ (0 : Int),
  (0 : Int) < (1 : Int),
  (0 : Int) ≤ (0 : Int),
  (0 : Int) < (1 : Int),
  (0 : Int) ≤ (1 : Int),
  (1 : Int) < (2 : Int),
  (0 : Int) ≤ (1 : Int),
  (1 : Int) < (2 : Int),
  i64ok (34 : Int),
  i64ok (1 : Int),
  (0 : Int) < (1 : Int)]
theorem t53c  : runFnX Try.prog G0 (lookS [v83, v85, v103, v104, v105, v118, v139]) (fun _ => [(999999, [], none)]) [133, 134, 135] 1 60 6 53 Try.f53 [.agg two, .agg [dI 1, dT [2], dT [1, 0]]] =
    T.needs nd_t53c (T.ret [Ar.agg [D.int IntKind.i64 (34 : Int), D.int IntKind.i64 (1 : Int)], Ar.c (D.int IntKind.i64 (0 : Int))]) := by kernel_rfl
theorem all_t53c : All nd_t53c := by
  unfold nd_t53c
  repeat (refine ⟨(by first | exact of_decide_eq_true rfl | exact fun i j _ _ => D.eqv_refl _ | exact Enc.is_F _ _ _ | exact fun i j hi _ => absurd hi (Nat.not_lt_zero i) | exact of_decide_eq_true (by kernel_rfl)), ?_⟩)
  trivial
theorem w_t53c : (T.needs nd_t53c (T.ret [Ar.agg [D.int IntKind.i64 (34 : Int), D.int IntKind.i64 (1 : Int)], Ar.c (D.int IntKind.i64 (0 : Int))])).wp (fun rs => rsEqv rs [.agg [dI 34, dI 1], rI 0]) := by
  refine T.needs_wp all_t53c ?_
  exact rsEqv_refl _
def dom17c : DomF
  | [.agg ds] => some ([Same [.agg ds] [.agg two]], best2)
  | _ => none
def v17c : Nat × Sm := (17, fokSm dom17c)
theorem C17c : FOK Try.prog G0 gw 17 dom17c := by
  intro ags p r hd hp κ w xs hw hl hG hx
  unfold dom17c at hd
  split at hd
  · simp only [Option.some.injEq, Prod.mk.injEq] at hd
    obtain ⟨rfl, rfl⟩ := hd
    exact fokX_fin mixed gw_stable (sl := [v83, v84c, v85, v86c]) ⟨S83, S84c, S85, S86c, trivial⟩ Try.func17 hw hl hG hx hp.1.h rfl t17c w_t17c
  · cases hd
theorem S17c : SumOK Try.prog G0 gw 17 (fokSm dom17c) := fok_sum Try.func17 rfl C17c
def dom53c : DomF
  | [.agg ds, .agg ws] => some ([Same [.agg ds, .agg ws] [.agg two, .agg [dI 1, dT [2], dT [1, 0]]]], [.agg [dI 34, dI 1], rI 0])
  | _ => none
def v53c : Nat × Sm := (53, fokSm dom53c)
theorem C53c : FOK Try.prog G0 gw 53 dom53c := by
  intro ags p r hd hp κ w xs hw hl hG hx
  unfold dom53c at hd
  split at hd
  · simp only [Option.some.injEq, Prod.mk.injEq] at hd
    obtain ⟨rfl, rfl⟩ := hd
    exact fokX_fin mixed gw_stable (sl := [v83, v85, v103, v104, v105, v118, v139]) ⟨S83, S85, S103, S104, S105, S118, S139, trivial⟩ Try.func53 hw hl hG hx hp.1.h rfl t53c w_t53c
  · cases hd
theorem S53c : SumOK Try.prog G0 gw 53 (fokSm dom53c) := fok_sum Try.func53 rfl C53c
def tr80  : T (List Ar) :=
    T.ret [Ar.agg [D.sl true (2 : Nat) (1 : Nat) fun (i' j : Nat) => List.getD [D.int IntKind.i64 (10 : Int), D.int IntKind.i64 (10 : Int)] (i' * (1 : Nat) + j) D.nilp, D.sl true (2 : Nat) (1 : Nat) fun (i' j : Nat) => List.getD [D.int IntKind.i64 (3 : Int), D.int IntKind.i64 (2 : Int)] (i' * (1 : Nat) + j) D.nilp, D.sl true (1 : Nat) (3 : Nat) fun (i' j : Nat) => List.getD [D.str { data := { toList := [(97 : UInt8)] } }, D.sl true (2 : Nat) (1 : Nat) fun (i' j : Nat) => List.getD [D.int IntKind.i64 (1 : Int), D.int IntKind.i64 (1 : Int)] (i' * (1 : Nat) + j) D.nilp, D.int IntKind.i64 (12 : Int)] (i' * (3 : Nat) + j) D.nilp]]
theorem t80  : runFnX Try.prog G0 (lookS []) (fun _ => []) [] 1 40 6 80 Try.f80 [] =
    tr80  := by kernel_rfl
def tr81  : T (List Ar) :=
    T.ret [Ar.agg [D.sl true (2 : Nat) (4 : Nat) fun (i' j : Nat) => List.getD [D.int IntKind.i64 (1000 : Int), D.int IntKind.i64 (0 : Int), D.int IntKind.i64 (0 : Int), D.int IntKind.i64 (20000 : Int), D.int IntKind.i64 (1000 : Int), D.int IntKind.i64 (0 : Int), D.int IntKind.i64 (0 : Int), D.int IntKind.i64 (10000 : Int)] (i' * (4 : Nat) + j) D.nilp, D.int IntKind.i64 (0 : Int)]]
theorem t81  : runFnX Try.prog G0 (lookS []) (fun _ => []) [] 1 40 6 81 Try.f81 [] =
    tr81  := by kernel_rfl
def tr82 (n : Int) : T (List Ar) :=
    T.ret [Ar.agg [D.int IntKind.i64 n, D.int IntKind.i64 (1 : Int)]]
theorem t82 (n : Int) : runFnX Try.prog G0 (lookS []) (fun _ => []) [] 1 40 3 82 Try.f82 [.c (dI n)] =
    tr82 n := by kernel_rfl
theorem w80 : (tr80).wp (fun rs => rsEqv rs [.agg two]) := by
  unfold tr80
  refine ⟨⟨dT_ok rfl rfl (fun i hi => ?_), dT_ok rfl rfl (fun i hi => ?_), ⟨fun _ => rfl, rfl, fun _ => rfl, fun i j hi hj => ?_⟩, trivial⟩, trivial⟩
  · match i, hi with
    | 0, _ => exact D.eqv_refl _
    | 1, _ => exact D.eqv_refl _
  · match i, hi with
    | 0, _ => exact D.eqv_refl _
    | 1, _ => exact D.eqv_refl _
  · match i, hi, j, hj with
    | 0, _, 0, _ => exact D.eqv_refl _
    | 0, _, 1, _ =>
      refine ⟨fun _ => rfl, rfl, fun _ => rfl, fun i j hi hj => ?_⟩
      obtain rfl : j = 0 := Nat.lt_one_iff.1 hj
      match i, hi with
      | 0, _ => exact D.eqv_refl _
      | 1, _ => exact D.eqv_refl _
    | 0, _, 2, _ => exact D.eqv_refl _
def dom80 : DomF
  | [] => some ([], [.agg two])
  | _ => none
def v80 : Nat × Sm := (80, fokSm dom80)
theorem C80 : FOK Try.prog G0 gw 80 dom80 := by
  intro ags p r hd hp κ w xs hw hl hG hx
  unfold dom80 at hd
  split at hd
  · simp only [Option.some.injEq, Prod.mk.injEq] at hd
    obtain ⟨rfl, rfl⟩ := hd
    exact fokX_fin mixed gw_stable (sl := []) trivial Try.func80 hw hl hG hx (agsEqv_refl _) rfl t80 w80
  · cases hd
theorem S80 : SumOK Try.prog G0 gw 80 (fokSm dom80) := fok_sum Try.func80 rfl C80
theorem w81 : (tr81).wp (fun rs => rsEqv rs [.agg four]) := by
  unfold tr81
  refine ⟨⟨⟨fun _ => rfl, rfl, fun _ => rfl, fun i j hi hj => ?_⟩, rfl, trivial⟩, trivial⟩
  match i, hi, j, hj with
  | 0, _, 0, _ => exact D.eqv_refl _
  | 0, _, 1, _ => exact D.eqv_refl _
  | 0, _, 2, _ => exact D.eqv_refl _
  | 0, _, 3, _ => exact D.eqv_refl _
  | 1, _, 0, _ => exact D.eqv_refl _
  | 1, _, 1, _ => exact D.eqv_refl _
  | 1, _, 2, _ => exact D.eqv_refl _
  | 1, _, 3, _ => exact D.eqv_refl _
def dom81 : DomF
  | [] => some ([], [.agg four])
  | _ => none
def v81 : Nat × Sm := (81, fokSm dom81)
theorem C81 : FOK Try.prog G0 gw 81 dom81 := by
  intro ags p r hd hp κ w xs hw hl hG hx
  unfold dom81 at hd
  split at hd
  · simp only [Option.some.injEq, Prod.mk.injEq] at hd
    obtain ⟨rfl, rfl⟩ := hd
    exact fokX_fin mixed gw_stable (sl := []) trivial Try.func81 hw hl hG hx (agsEqv_refl _) rfl t81 w81
  · cases hd
theorem S81 : SumOK Try.prog G0 gw 81 (fokSm dom81) := fok_sum Try.func81 rfl C81
def dom82 : DomF
  | [.c (.int .i64 n)] => some ([], [.agg [dI n, dI 1]])
  | _ => none
def v82 : Nat × Sm := (82, fokSm dom82)
theorem C82 : FOK Try.prog G0 gw 82 dom82 := by
  intro ags p r hd hp κ w xs hw hl hG hx
  unfold dom82 at hd
  split at hd
  · rename_i n
    simp only [Option.some.injEq, Prod.mk.injEq] at hd
    obtain ⟨rfl, rfl⟩ := hd
    have heq : agsEqv [.c (.int .i64 n)] [.c (.int .i64 n)] := ⟨Ag.eqv_refl _, trivial⟩
    exact fokX_fin mixed gw_stable (sl := []) trivial Try.func82 hw hl hG hx heq rfl (t82 _) (rsEqv_refl _)
  · cases hd
theorem S82 : SumOK Try.prog G0 gw 82 (fokSm dom82) := fok_sum Try.func82 rfl C82
end Go.Pl
end

section
set_option linter.unusedVariables false
set_option linter.unusedSimpArgs false
set_option maxRecDepth 100000
namespace Go.Pl
open Go.V Go.Proofs
theorem sw : Same [.agg two, .agg [dI 1, D.sl true 1 1 fun (i j : Nat) => List.getD [dI 2] (i * 1 + j) D.nilp, D.sl true 2 1 fun (i j : Nat) => List.getD [dI 1, dI 0] (i * 1 + j) D.nilp]] [.agg two, .agg [dI 1, dT [2], dT [1, 0]]] := by
  refine ⟨⟨Ag.eqv_refl _, ⟨rfl, dT_ok rfl rfl (fun i hi => ?_), dT_ok rfl rfl (fun i hi => ?_), trivial⟩, trivial⟩⟩
  · match i, hi with
    | 0, _ => exact D.eqv_refl _
  · match i, hi with
    | 0, _ => exact D.eqv_refl _
    | 1, _ => exact D.eqv_refl _
def nd_t15 : List Prop := [
  Same [Ag.agg [D.sl true (2 : Nat) (1 : Nat) (Enc.F eI [(10 : Int), (10 : Int)]), D.sl true (2 : Nat) (1 : Nat) (Enc.F eI [(3 : Int), (2 : Int)]), D.sl true (1 : Nat) (3 : Nat) (Enc.F eDm [{ nm := { data := { toList := [(97 : UInt8)] } }, co := [(1 : Int), (1 : Int)], am := (12 : Int) }])]] [Ag.agg two],
  Same [Ag.agg [D.sl true (2 : Nat) (1 : Nat) (Enc.F eI [(10 : Int), (10 : Int)]), D.sl true (2 : Nat) (1 : Nat) (Enc.F eI [(3 : Int), (2 : Int)]), D.sl true (1 : Nat) (3 : Nat) (Enc.F eDm [{ nm := { data := { toList := [(97 : UInt8)] } }, co := [(1 : Int), (1 : Int)], am := (12 : Int) }])], Ag.agg [D.int IntKind.i64 (1 : Int), D.sl true (1 : Nat) (1 : Nat) fun (i j : Nat) => List.getD [D.int IntKind.i64 (2 : Int)] (i * (1 : Nat) + j) D.nilp, D.sl true (2 : Nat) (1 : Nat) fun (i j : Nat) => List.getD [D.int IntKind.i64 (1 : Int), D.int IntKind.i64 (0 : Int)] (i * (1 : Nat) + j) D.nilp]] [Ag.agg two, Ag.agg [dI (1 : Int), dT [(2 : Int)], dT [(1 : Int), (0 : Int)]]],
  Same [Ag.agg [D.sl true (2 : Nat) (4 : Nat) (Enc.F eSc [(Scale.mk (1000 : Int) (0 : Int) (0 : Int) (20000 : Int)), (Scale.mk (1000 : Int) (0 : Int) (0 : Int) (10000 : Int))]), D.int IntKind.i64 (0 : Int)]] [Ag.agg four],
  Same [Ag.agg [D.sl true (2 : Nat) (4 : Nat) (Enc.F eSc [(Scale.mk (1000 : Int) (0 : Int) (0 : Int) (20000 : Int)), (Scale.mk (1000 : Int) (0 : Int) (0 : Int) (10000 : Int))]), D.int IntKind.i64 (0 : Int)], Ag.c (D.int IntKind.i64 (100 : Int))] [Ag.agg four, Ag.c (dI (100 : Int))],
  ((34 : Int) == (34 : Int) && ((1 : Int) == (1 : Int) && true)) = true,
  ((34 : Int) == (34 : Int) && ((1 : Int) == (1 : Int) && true)) = true,
  ((2 : Int) == (2 : Int)) = true,
  (0 : Int) ≤ (0 : Int),
  (0 : Int) < (2 : Int)]
theorem t15  : runFnX Try.prog G0 (lookS [v17c, v53c, v28c, v35c, v80, v81, v82]) (fun _ => [(999999, [], none)]) [] 1 60 3 15 Try.f15 [] =
    T.needs nd_t15 (T.ret [Ar.c (D.bool ((20000 : Int) == (20000 : Int) && ((20000 : Int) == (20000 : Int) && true)))]) := by kernel_rfl
theorem all_t15 : All nd_t15 := by
  unfold nd_t15
  repeat (refine ⟨(by first | exact of_decide_eq_true rfl | exact fun i j _ _ => D.eqv_refl _ | exact Enc.is_F _ _ _ | exact fun i j hi _ => absurd hi (Nat.not_lt_zero i) | exact Same.mk (agsEqv_refl _) | exact sw), ?_⟩)
  trivial
theorem w_t15 : (T.needs nd_t15 (T.ret [Ar.c (D.bool ((20000 : Int) == (20000 : Int) && ((20000 : Int) == (20000 : Int) && true)))])).wp (fun rs => rsEqv rs [rB true]) := by
  refine T.needs_wp all_t15 ?_
  exact rsEqv_refl _
def dom15 : DomF
  | [] => some ([], [rB true])
  | _ => none
def v15 : Nat × Sm := (15, fokSm dom15)
theorem C15 : FOK Try.prog G0 gw 15 dom15 := by
  intro ags p r hd hp κ w xs hw hl hG hx
  unfold dom15 at hd
  split at hd
  · simp only [Option.some.injEq, Prod.mk.injEq] at hd
    obtain ⟨rfl, rfl⟩ := hd
    exact fokX_fin mixed gw_stable (sl := [v17c, v53c, v28c, v35c, v80, v81, v82]) ⟨S17c, S53c, S28c, S35c, S80, S81, S82, trivial⟩ Try.func15 hw hl hG hx (agsEqv_refl _) rfl t15 w_t15
  · cases hd
theorem S15 : SumOK Try.prog G0 gw 15 (fokSm dom15) := fok_sum Try.func15 rfl C15
end Go.Pl
end

section
set_option linter.unusedVariables false
set_option linter.unusedSimpArgs false
set_option maxRecDepth 100000
namespace Go.Pl
open Go.V Go.Proofs
namespace M
def agesErr (n : Nat) (ag : List Rg) : Int := cond ((ag.length : Int) != (n : Int)) 10 (badFrom (fun k => rgErr (ag.getD k dfR).lo (ag.getD k dfR).hi 100000) ag.length 0).2
def firstIdx (p : Nat → Bool) : Nat → Nat → Int
  | 0, _ => -1
  | n + 1, k => cond (p k) (k : Int) (firstIdx p n (k + 1))
def floorW (n b : Int) : Int := cond (decide (n.tmod b < 0)) (IntKind.i64.wrap (IntKind.i64.wrap (n.tdiv b) - 1)) (IntKind.i64.wrap (n.tdiv b))
def ceilW (n b : Int) : Int := IntKind.i64.wrap (0 - floorW (IntKind.i64.wrap (0 - n)) b)
def mixed (v f a b : Int) : Int := IntKind.i64.wrap (IntKind.i64.wrap (IntKind.i64.wrap (v - f) * a) + IntKind.i64.wrap (f * b))
end M
theorem idx_step {p : Nat → Bool} {n k : Nat} (h : k < n) : M.firstIdx p (n - k) k = cond (p k) (k : Int) (M.firstIdx p (n - (k + 1)) (k + 1)) := by
  obtain ⟨m, hm⟩ : ∃ m, n - k = m + 1 := ⟨n - k - 1, by omega⟩
  rw [hm, show n - (k + 1) = m by omega]; rfl
end Go.Pl
end

section
set_option linter.unusedVariables false
set_option linter.unusedSimpArgs false
set_option maxRecDepth 100000
namespace Go.Pl
open Go.V Go.Proofs
namespace M
def mn (a b : Int) : Int := if b < a then b else a
def mx (a b : Int) : Int := if b > a then b else a
def yearK (v : Int) (f a n : Rg) : Rg := ⟨IntKind.i64.wrap (floorW (mn (mixed v f.lo a.lo n.lo) (mixed v f.hi a.lo n.lo)) v + 1000), IntKind.i64.wrap (ceilW (mx (mixed v f.lo a.hi n.hi) (mixed v f.hi a.hi n.hi)) v + 1000)⟩
def nextR (ag : List Rg) (nw : Int) (k : Nat) : Rg := if k + 1 < ag.length then ag.getD (k + 1) dfR else ⟨nw, nw⟩
def year (sc : List Scale) (nw : Int) (ag fl : List Rg) : List Rg := (List.range sc.length).map fun k => yearK (sc.getD k dfS).vol (fl.getD k dfR) (ag.getD k dfR) (nextR ag nw k)
end M
end Go.Pl
end

section
set_option linter.unusedVariables false
set_option linter.unusedSimpArgs false
set_option maxRecDepth 100000
namespace Go.Pl
open Go.V Go.Proofs
namespace M
end M
theorem bad_zero {f : Nat → Int} : ∀ (n k : Nat), (M.badFrom f n k).2 = 0 → ∀ i, k ≤ i → i < k + n → f i = 0 := by
  intro n
  induction n with
  | zero => intro k _ i h1 h2; omega
  | succ n ih =>
    intro k h i h1 h2
    simp only [M.badFrom] at h
    cases hb : (f k != 0) with
    | true =>
      rw [hb] at h
      have h : f k = 0 := h
      rw [h] at hb; cases hb
    | false =>
      rw [hb] at h
      have hk : f k = 0 := by simpa using hb
      rcases Nat.lt_or_ge k i with hl | hl
      · exact ih (k + 1) h i (by omega) (by omega)
      · obtain rfl : i = k := by omega
        exact hk
theorem unl_zero {b : Bool} {e : Int} (he : e ≠ 0) (h : M.unl b e = 0) : b = true := by
  cases b with
  | true => rfl
  | false => exact absurd h he
theorem within_iff {n lo hi : Int} : M.within n lo hi = true ↔ lo ≤ n ∧ n ≤ hi := by
  unfold M.within; rw [Bool.and_eq_true, decide_eq_true_eq, decide_eq_true_eq]
end Go.Pl
end

section
set_option linter.unusedVariables false
set_option linter.unusedSimpArgs false
set_option maxRecDepth 100000
namespace Go.Pl
open Go.V Go.Proofs
namespace M
def drawsErr (dr : List Int) : Int := (badFrom (fun k => drawErr (dr.getD k 0)) dr.length 0).2
def yrows (sc : List Scale) (nw : Int) (dr : List Int) : Nat → Nat → List (List Rg) → List (List Rg) × Int
  | 0, _, acc => (acc, 0)
  | m + 1, k, acc => cond (decide (over sc (flows sc (dr.getD k 0)) ≥ 0)) ([], 16) (yrows sc nw dr m (k + 1) (acc ++ [year sc nw (acc.getD k []) (flows sc (dr.getD k 0))]))
def years0 (sc : List Scale) (nw : Int) (ag : List Rg) (dr : List Int) : List (List Rg) × Int := cond (drawsErr dr != 0) ([], drawsErr dr) (yrows sc nw dr dr.length 0 [ag])
def years1 (sc : List Scale) (nw : Int) (ag : List Rg) (dr : List Int) : List (List Rg) × Int := cond (first [agesErr sc.length ag, unl (decide ((dr.length : Int) ≤ 30)) 8] != 0) ([], first [agesErr sc.length ag, unl (decide ((dr.length : Int) ≤ 30)) 8]) (years0 sc nw ag dr)
def years (sc : List Scale) (nw : Int) (ag : List Rg) (dr : List Int) : List (List Rg) × Int := cond ((checkSys sc nw).2 != 0) ([], (checkSys sc nw).2) (years1 sc nw ag dr)
end M
end Go.Pl
end

section
set_option linter.unusedVariables false
set_option linter.unusedSimpArgs false
set_option maxRecDepth 100000
namespace Go.Pl
open Go.V Go.Proofs
namespace M
def after (sc : List Scale) (nw : Int) (ag : List Rg) (dr : List Int) : List Rg × Int := cond ((years sc nw ag dr).2 != 0) ([], (years sc nw ag dr).2) ((years sc nw ag dr).1.getD dr.length [], 0)
end M
theorem getD_mem {α : Type} {l : List α} {i : Nat} {d : α} (h : i < l.length) : l.getD i d ∈ l := by
  rw [List.getD_eq_getElem?_getD, List.getElem?_eq_getElem h]; exact List.getElem_mem h
abbrev resA (x : List Rg × Int) : List Ar := [.c (dR x.1), rI x.2]
end Go.Pl
end

section
set_option linter.unusedVariables false
set_option linter.unusedSimpArgs false
set_option maxRecDepth 100000
namespace Go.Pl
open Go.V Go.Proofs
end Go.Pl
end

section
set_option linter.unusedVariables false
set_option linter.unusedSimpArgs false
set_option maxRecDepth 100000
namespace Go.Pl
open Go.V Go.Proofs
namespace M
end M
end Go.Pl
end

section
set_option linter.unusedVariables false
set_option linter.unusedSimpArgs false
set_option maxRecDepth 100000
namespace Go.Pl
open Go.V Go.Proofs
namespace M
end M
end Go.Pl
end

section
set_option linter.unusedVariables false
set_option linter.unusedSimpArgs false
set_option maxRecDepth 100000
namespace Go.Pl
open Go.V Go.Proofs
namespace M
end M
end Go.Pl
end

section
set_option linter.unusedVariables false
set_option linter.unusedSimpArgs false
set_option maxRecDepth 100000
namespace Go.Pl
open Go.V Go.Proofs
end Go.Pl
end

section
set_option linter.unusedVariables false
set_option linter.unusedSimpArgs false
set_option maxRecDepth 100000
namespace Go.Pl
open Go.V Go.Proofs
theorem br_t {α : Type} {b : Bool} {x y : T α} {Q : α → Prop} (h : b = true) (hx : x.wp Q) : (T.br b x y).wp Q := wp_br (fun _ => hx) (fun h' => by rw [h] at h'; cases h')
theorem br_f {α : Type} {b : Bool} {x y : T α} {Q : α → Prop} (h : b = false) (hy : y.wp Q) : (T.br b x y).wp Q := wp_br (fun h' => by rw [h] at h'; cases h') (fun _ => hy)
abbrev cI (dr : List Int) : List Int := Enc.list eI (List.length dr) (Enc.F eI dr)
abbrev iI (dr : List Int) : Prop := Enc.Is eI (List.length dr) (Enc.F eI dr)
abbrev cN : T (List Ar) := T.ret [Ar.c (D.bool false)]
end Go.Pl
end

section
set_option linter.unusedVariables false
set_option linter.unusedSimpArgs false
set_option maxRecDepth 100000
namespace Go.Pl
open Go.V Go.Proofs
namespace M
def many (de : List Dem) (k : Nat) : Bool := cond (decide (((de.getD k dfD).nm.size : Int) > 20)) true (decide (((de.getD k dfD).co.length : Int) > 6))
def few (mo ga : List Int) (de : List Dem) : Bool := cond (decide ((mo.length : Int) > 6)) false (cond (decide ((ga.length : Int) > 6)) false (cond (decide ((de.length : Int) > 10)) false (decide (firstIdx (many de) de.length 0 < 0))))
end M
theorem idx_none {p : Nat → Bool} : ∀ (n k : Nat), M.firstIdx p n k < 0 → ∀ i, k ≤ i → i < k + n → p i = false := by
  intro n
  induction n with
  | zero => intro k _ i h1 h2; omega
  | succ n ih =>
    intro k h i h1 h2
    simp only [M.firstIdx] at h
    cases hp : p k with
    | true => rw [hp] at h; have h : (k : Int) < 0 := h; omega
    | false =>
      rw [hp] at h
      rcases Nat.lt_or_ge k i with hl | hl
      · exact ih (k + 1) h i (by omega) (by omega)
      · obtain rfl : i = k := by omega
        exact hp
theorem few_yes {mo ga : List Int} {de : List Dem} (h : M.few mo ga de = true) : mo.length ≤ 6 ∧ ga.length ≤ 6 ∧ de.length ≤ 10 ∧ ∀ i, i < de.length → (de.getD i dfD).nm.size ≤ 20 ∧ (de.getD i dfD).co.length ≤ 6 := by
  unfold M.few at h
  cases h1 : decide ((mo.length : Int) > 6) with
  | true => rw [h1] at h; cases h
  | false =>
    cases h2 : decide ((ga.length : Int) > 6) with
    | true => rw [h1, h2] at h; cases h
    | false =>
      cases h3 : decide ((de.length : Int) > 10) with
      | true => rw [h1, h2, h3] at h; cases h
      | false =>
        rw [h1, h2, h3] at h
        have h : M.firstIdx (M.many de) de.length 0 < 0 := of_decide_eq_true h
        have h1 : ¬ (mo.length : Int) > 6 := of_decide_eq_false h1
        have h2 : ¬ (ga.length : Int) > 6 := of_decide_eq_false h2
        have h3 : ¬ (de.length : Int) > 10 := of_decide_eq_false h3
        refine ⟨by omega, by omega, by omega, fun i hi => ?_⟩
        have hm := idx_none _ _ h i (Nat.zero_le _) (by omega)
        unfold M.many at hm
        cases h4 : decide (((de.getD i dfD).nm.size : Int) > 20) with
        | true => rw [h4] at hm; cases hm
        | false =>
          rw [h4] at hm
          have hm : ¬ ((de.getD i dfD).co.length : Int) > 6 := of_decide_eq_false hm
          have h4 : ¬ ((de.getD i dfD).nm.size : Int) > 20 := of_decide_eq_false h4
          exact ⟨by omega, by omega⟩
def tr41 (q_mo : Bool) (mo : List Int) (q_ga : Bool) (ga : List Int) (q_de : Bool) (de : List Dem) : T (List Ar) :=
    T.br (decide ((Nat.cast (R := Int) (List.length mo)) > (6 : Int))) (T.ret [Ar.c (D.bool false)]) (T.br (decide ((Nat.cast (R := Int) (List.length ga)) > (6 : Int))) (T.ret [Ar.c (D.bool false)]) (T.br (decide ((Nat.cast (R := Int) (List.length de)) > (10 : Int))) (T.ret [Ar.c (D.bool false)]) (T.loop (Int × PUnit) ((0 : Int), PUnit.unit) fun (x : Int × PUnit) => T.br (decide (Prod.fst x < (Nat.cast (R := Int) (List.length de)))) (T.need ((0 : Int) ≤ Prod.fst x) (T.need (Prod.fst x < (Nat.cast (R := Int) (List.length de))) (T.br (decide ((Nat.cast (R := Int) (ByteArray.size (Dem.nm (List.getD de (Int.toNat (Prod.fst x)) dfD)))) > (20 : Int))) (T.ret (Sum.inr [Ar.c (D.bool false)])) (T.need ((0 : Int) ≤ Prod.fst x) (T.need (Prod.fst x < (Nat.cast (R := Int) (List.length de))) (T.br (decide ((Nat.cast (R := Int) (List.length (Dem.co (List.getD de (Int.toNat (Prod.fst x)) dfD)))) > (6 : Int))) (T.ret (Sum.inr [Ar.c (D.bool false)])) (T.ret (Sum.inl (IntKind.i64.wrap (Prod.fst x + (1 : Int)), PUnit.unit))))))))) (T.ret (Sum.inr [Ar.c (D.bool true)])))))
theorem t41 (q_mo : Bool) (mo : List Int) (q_ga : Bool) (ga : List Int) (q_de : Bool) (de : List Dem) : runFnX Try.prog G0 (lookS []) (fun f => [(4, [.slot 3 (.int .i64)], none)]) [] 1 60 4 41 Try.f41 [.agg [.sl q_mo mo.length 1 (eI.F mo), .sl q_ga ga.length 1 (eI.F ga), .sl q_de de.length 3 (eDm.F de)]] =
    tr41 q_mo mo q_ga ga q_de de := by kernel_rfl
theorem w41 (qm : Bool) (mo : List Int) (qg : Bool) (ga : List Int) (qd : Bool) (de : List Dem) : (tr41 qm mo qg ga qd de).wp (fun rs => rsEqv rs [rB (M.few mo ga de)]) := by
  unfold tr41 M.few
  refine wp_br (fun hb => by rw [hb]; exact rsEqv_refl _) (fun hb => ?_)
  rw [hb]
  refine wp_br (fun hb => by rw [hb]; exact rsEqv_refl _) (fun hb => ?_)
  rw [hb]
  refine wp_br (fun hb => by rw [hb]; exact rsEqv_refl _) (fun hb => ?_)
  rw [hb]
  have h10 : ¬ (de.length : Int) > 10 := of_decide_eq_false hb
  refine range_wp (n := de.length) (fun k _ => M.firstIdx (M.many de) de.length 0 = M.firstIdx (M.many de) (de.length - k) k) rfl ?_
  rintro k u hk hI
  rw [hI]
  refine wp_br (fun hb => ?_) (fun hb => ?_)
  · have hlt := lt_of_dec hb
    have hs := idx_step (p := M.many de) hlt
    have hit : M.many de k = true → rsEqv [rB false] [rB (decide (M.firstIdx (M.many de) (de.length - k) k < 0))] := by
      intro h
      rw [hs, h]
      show rsEqv _ [rB (decide ((k : Int) < 0))]
      rw [decide_eq_false (by omega)]; exact rsEqv_refl _
    refine ⟨by show (0 : Int) ≤ k; omega, by show (k : Int) < de.length; omega, wp_br (fun hx => hit ?_) (fun hx => ?_)⟩
    · unfold M.many; rw [show decide (((de.getD k dfD).nm.size : Int) > 20) = true from hx]; rfl
    refine ⟨by show (0 : Int) ≤ k; omega, by show (k : Int) < de.length; omega, wp_br (fun hy => hit ?_) (fun hy => ?_)⟩
    · unfold M.many; rw [show decide (((de.getD k dfD).nm.size : Int) > 20) = false from hx]; exact hy
    have hm : M.many de k = false := by unfold M.many; rw [show decide (((de.getD k dfD).nm.size : Int) > 20) = false from hx]; exact hy
    exact ⟨hlt, wrap_succ (by omega), by rw [hs, hm]; rfl⟩
  · have hge := ge_of_dec hb
    obtain rfl : k = de.length := by omega
    rw [Nat.sub_self]; exact rsEqv_refl _
def dom41 : DomF
  | [.agg [.sl _ n_mo st_mo F_mo, .sl _ n_ga st_ga F_ga, .sl _ n_de st_de F_de]] => (match Nat.beq st_mo 1 && Nat.beq st_ga 1 && Nat.beq st_de 3 with
    | true => some ([eI.Is n_mo F_mo, eI.Is n_ga F_ga, eDm.Is n_de F_de], [rB (M.few (eI.list n_mo F_mo) (eI.list n_ga F_ga) (eDm.list n_de F_de))])
    | _ => none)
  | _ => none
def v41 : Nat × Sm := (41, fokSm dom41)
theorem C41 : FOK Try.prog G0 gw 41 dom41 := by
  intro ags p r hd hp κ w xs hw hl hG hx
  unfold dom41 at hd
  split at hd
  · rename_i q_mo n_mo st_mo F_mo q_ga n_ga st_ga F_ga q_de n_de st_de F_de
    split at hd
    · rename_i hst
      simp only [Bool.and_eq_true] at hst
      obtain ⟨⟨g1, g2⟩, g3⟩ := hst
      have g1 := Nat.eq_of_beq_eq_true g1
      have g2 := Nat.eq_of_beq_eq_true g2
      have g3 := Nat.eq_of_beq_eq_true g3
      subst g1 g2 g3
      simp only [Option.some.injEq, Prod.mk.injEq] at hd
      obtain ⟨rfl, rfl⟩ := hd
      obtain ⟨hI_mo, hI_ga, hI_de, hp⟩ := hp
      have heq : agsEqv [.agg [.sl q_mo n_mo 1 F_mo, .sl q_ga n_ga 1 F_ga, .sl q_de n_de 3 F_de]] [.agg [.sl q_mo (eI.list n_mo F_mo).length 1 (eI.F (eI.list n_mo F_mo)), .sl q_ga (eI.list n_ga F_ga).length 1 (eI.F (eI.list n_ga F_ga)), .sl q_de (eDm.list n_de F_de).length 3 (eDm.F (eDm.list n_de F_de))]] := ⟨⟨eI.to id hI_mo, eI.to id hI_ga, eDm.to id hI_de, trivial⟩, trivial⟩
      have len_mo : (eI.list n_mo F_mo).length = n_mo := eI.list_len
      have len_ga : (eI.list n_ga F_ga).length = n_ga := eI.list_len
      have len_de : (eDm.list n_de F_de).length = n_de := eDm.list_len
      generalize eI.list n_mo F_mo = mo at *
      generalize eI.list n_ga F_ga = ga at *
      generalize eDm.list n_de F_de = de at *
      subst len_mo len_ga len_de
      exact fokX_fin mixed gw_stable (sl := []) trivial Try.func41 hw hl hG hx heq rfl (t41 _ _ _ _ _ _) (w41 _ _ _ _ _ _)
    · cases hd
  · cases hd
theorem S41 : SumOK Try.prog G0 gw 41 (fokSm dom41) := fok_sum Try.func41 rfl C41
end Go.Pl
end

section
set_option linter.unusedVariables false
set_option linter.unusedSimpArgs false
set_option maxRecDepth 100000
namespace Go.Pl
open Go.V Go.Proofs
def tr128 (q_mo : Bool) (mo : List Int) (q_ga : Bool) (ga : List Int) (q_de : Bool) (de : List Dem) (i : Int) : T (List Ar) :=
    T.need ((0 : Int) ≤ i) (T.need (i < (Nat.cast (R := Int) (List.length de))) (T.need (ByteArray.size (Dem.nm (List.getD de (Int.toNat i) dfD)) ≤ (1000000 : Nat)) (T.br (!M.isName (Dem.nm (List.getD de (Int.toNat i) dfD))) (T.ret [Ar.c (D.int IntKind.i64 (4 : Int))]) (T.loop (Int × PUnit) ((0 : Int), PUnit.unit) fun (x : Int × PUnit) => T.br (decide (Prod.fst x < i)) (T.need ((0 : Int) ≤ Prod.fst x) (T.need (Prod.fst x < (Nat.cast (R := Int) (List.length de))) (T.br (ByteArray.toList (Dem.nm (List.getD de (Int.toNat (Prod.fst x)) dfD)) == ByteArray.toList (Dem.nm (List.getD de (Int.toNat i) dfD))) (T.ret (Sum.inr [Ar.c (D.int IntKind.i64 (5 : Int))])) (T.ret (Sum.inl (IntKind.i64.wrap (Prod.fst x + (1 : Int)), PUnit.unit)))))) (T.br ((Nat.cast (R := Int) (List.length (Dem.co (List.getD de (Int.toNat i) dfD)))) != (Nat.cast (R := Int) (List.length mo))) (T.ret (Sum.inr [Ar.c (D.int IntKind.i64 (10 : Int))])) (T.loop (Int × PUnit) ((0 : Int), PUnit.unit) fun (x_1 : Int × PUnit) => T.br (decide (Prod.fst x_1 < (Nat.cast (R := Int) (List.length (Dem.co (List.getD de (Int.toNat i) dfD)))))) (T.need ((0 : Int) ≤ Prod.fst x_1) (T.need (Prod.fst x_1 < (Nat.cast (R := Int) (List.length (Dem.co (List.getD de (Int.toNat i) dfD))))) (T.need ((0 : Int) ≤ (100 : Int) ∧ (100 : Int) < (9223372036854775808 : Int)) (T.br (!M.small (List.getD (Dem.co (List.getD de (Int.toNat i) dfD)) (Int.toNat (Prod.fst x_1)) (0 : Int)) (100 : Int)) (T.ret (Sum.inr (Sum.inr [Ar.c (D.int IntKind.i64 (2 : Int))]))) (T.ret (Sum.inl (IntKind.i64.wrap (Prod.fst x_1 + (1 : Int)), PUnit.unit))))))) (T.need ((0 : Int) ≤ (1000000 : Int) ∧ (1000000 : Int) < (9223372036854775808 : Int)) (T.br (!M.small (Dem.am (List.getD de (Int.toNat i) dfD)) (1000000 : Int)) (T.ret (Sum.inr (Sum.inr [Ar.c (D.int IntKind.i64 (2 : Int))]))) (T.ret (Sum.inr (Sum.inr [Ar.c (D.int IntKind.i64 (0 : Int))])))))))))))
theorem t128 (q_mo : Bool) (mo : List Int) (q_ga : Bool) (ga : List Int) (q_de : Bool) (de : List Dem) (i : Int) : runFnX Try.prog G0 (lookS [v127, v167]) (fun f => [(5, [.slot 6 (.int .i64)], none), (12, [.slot 7 (.int .i64)], none)]) [] 1 60 4 128 Try.f128 [.agg [.sl q_mo mo.length 1 (eI.F mo), .sl q_ga ga.length 1 (eI.F ga), .sl q_de de.length 3 (eDm.F de)], .c (dI i)] =
    tr128 q_mo mo q_ga ga q_de de i := by kernel_rfl
theorem w128 (qm : Bool) (mo : List Int) (qg : Bool) (ga : List Int) (qd : Bool) (de : List Dem) (i : Int) (h0 : 0 ≤ i) (hi : i < de.length) (h1 : mo.length ≤ 1000000) (h3 : de.length ≤ 1000000) (hn : ∀ d, d ∈ de → d.nm.size ≤ 1000000 ∧ d.co.length ≤ 1000000) :
    (tr128 qm mo qg ga qd de i).wp (fun rs => rsEqv rs [rI (M.demErr mo.length de i.toNat)]) := by
  obtain ⟨k, rfl⟩ : ∃ k : Nat, i = k := ⟨i.toNat, by omega⟩
  have hlt : k < de.length := by omega
  have hmem : de.getD k dfD ∈ de := getD_mem hlt
  obtain ⟨hs, hc⟩ := hn _ hmem
  unfold tr128
  simp only [Int.toNat_natCast]
  refine ⟨h0, hi, hs, wp_br (fun hb => rI_eqv' ?_) (fun hb => ?_)⟩
  · have hb : M.isName (de.getD k dfD).nm = false := by simpa using hb
    unfold M.demErr; rw [hb]; rfl
  have hnm : M.isName (de.getD k dfD).nm = true := by simpa using hb
  refine range_wp (n := k) (fun j _ => ∀ i, i < j → M.same (de.getD i dfD) (de.getD k dfD) = false) (fun i hi => by omega) ?_
  rintro j u hj hJ
  refine wp_br (fun hb => ?_) (fun hb => ?_)
  · have hjlt := lt_of_dec hb
    refine ⟨by show (0 : Int) ≤ j; omega, by show (j : Int) < de.length; omega, wp_br (fun hx => rI_eqv' ?_) (fun hx => ?_)⟩
    · have hx : M.same (de.getD j dfD) (de.getD k dfD) = true := by rw [← same_eq]; exact hx
      unfold M.demErr; rw [hnm, dup_yes hjlt hx]; rfl
    · have hx : M.same (de.getD j dfD) (de.getD k dfD) = false := by rw [← same_eq]; exact hx
      refine ⟨hjlt, wrap_succ (by omega), fun i hi => ?_⟩
      rcases Nat.lt_or_ge i j with h | h
      · exact hJ i h
      · obtain rfl : i = j := by omega
        exact hx
  · have hge := ge_of_dec hb
    obtain rfl : j = k := by omega
    have hdup := dup_no hJ
    refine wp_br (fun hb => rI_eqv' ?_) (fun hb => ?_)
    · have hb : (((de.getD j dfD).co.length : Int) == (mo.length : Int)) = false := by simpa using hb
      unfold M.demErr; rw [hnm, hdup, hb]; rfl
    have hl : (((de.getD j dfD).co.length : Int) == (mo.length : Int)) = true := by simpa using hb
    have e : M.demErr mo.length de j = M.unl (cond (((de.getD j dfD).co.drop 0).any (badF 124)) false (M.small (de.getD j dfD).am 1000000)) 2 := by
      unfold M.demErr; rw [hnm, hdup, hl, List.drop_zero]
      show M.first [0, 0, 0, _] = _
      simp only [first_of]
      cases cond ((de.getD j dfD).co.any (badF 124)) false (M.small (de.getD j dfD).am 1000000) <;> rfl
    refine range_wp (n := (de.getD j dfD).co.length) (fun k _ => M.demErr mo.length de j = M.unl (cond (((de.getD j dfD).co.drop k).any (badF 124)) false (M.small (de.getD j dfD).am 1000000)) 2) e ?_
    rintro k v hk hK
    rw [hK]
    refine wp_br (fun hb => ?_) (fun hb => ?_)
    · have hklt := lt_of_dec hb
      have hst := any_step (is := badF 124) hklt
      refine ⟨by show (0 : Int) ≤ k; omega, by show (k : Int) < (de.getD j dfD).co.length; omega, by decide, wp_br (fun hx => ?_) (fun hx => ?_)⟩
      · have hx : badF 124 ((de.getD j dfD).co.getD k 0) = true := hx
        rw [hst, hx]; exact rsEqv_refl _
      · have hx : badF 124 ((de.getD j dfD).co.getD k 0) = false := hx
        exact ⟨hklt, wrap_succ (by omega), by rw [hst, hx]; rfl⟩
    · have hge := ge_of_dec hb
      obtain rfl : k = (de.getD j dfD).co.length := by omega
      rw [List.drop_length]
      refine ⟨by decide, wp_br (fun hx => rI_eqv' ?_) (fun hx => rI_eqv' ?_)⟩
      · have hx : M.small (de.getD j dfD).am 1000000 = false := by simpa using hx
        rw [hx]; rfl
      · have hx : M.small (de.getD j dfD).am 1000000 = true := by simpa using hx
        rw [hx]; rfl
def dom128 : DomF
  | [.agg [.sl _ n_mo st_mo F_mo, .sl _ n_ga st_ga F_ga, .sl _ n_de st_de F_de], .c (.int .i64 i)] => (match Nat.beq st_mo 1 && Nat.beq st_ga 1 && Nat.beq st_de 3 with
    | true => some ([eI.Is n_mo F_mo, eI.Is n_ga F_ga, eDm.Is n_de F_de, 0 ≤ i, i < (eDm.list n_de F_de).length, (eI.list n_mo F_mo).length ≤ 1000000, (eDm.list n_de F_de).length ≤ 1000000, ∀ d, d ∈ (eDm.list n_de F_de) → d.nm.size ≤ 1000000 ∧ d.co.length ≤ 1000000], [rI (M.demErr (eI.list n_mo F_mo).length (eDm.list n_de F_de) i.toNat)])
    | _ => none)
  | _ => none
def v128 : Nat × Sm := (128, fokSm dom128)
theorem C128 : FOK Try.prog G0 gw 128 dom128 := by
  intro ags p r hd hp κ w xs hw hl hG hx
  unfold dom128 at hd
  split at hd
  · rename_i q_mo n_mo st_mo F_mo q_ga n_ga st_ga F_ga q_de n_de st_de F_de i
    split at hd
    · rename_i hst
      simp only [Bool.and_eq_true] at hst
      obtain ⟨⟨g1, g2⟩, g3⟩ := hst
      have g1 := Nat.eq_of_beq_eq_true g1
      have g2 := Nat.eq_of_beq_eq_true g2
      have g3 := Nat.eq_of_beq_eq_true g3
      subst g1 g2 g3
      simp only [Option.some.injEq, Prod.mk.injEq] at hd
      obtain ⟨rfl, rfl⟩ := hd
      obtain ⟨hI_mo, hI_ga, hI_de, hp⟩ := hp
      have heq : agsEqv [.agg [.sl q_mo n_mo 1 F_mo, .sl q_ga n_ga 1 F_ga, .sl q_de n_de 3 F_de], .c (.int .i64 i)] [.agg [.sl q_mo (eI.list n_mo F_mo).length 1 (eI.F (eI.list n_mo F_mo)), .sl q_ga (eI.list n_ga F_ga).length 1 (eI.F (eI.list n_ga F_ga)), .sl q_de (eDm.list n_de F_de).length 3 (eDm.F (eDm.list n_de F_de))], .c (.int .i64 i)] := ⟨⟨eI.to id hI_mo, eI.to id hI_ga, eDm.to id hI_de, trivial⟩, Ag.eqv_refl _, trivial⟩
      have len_mo : (eI.list n_mo F_mo).length = n_mo := eI.list_len
      have len_ga : (eI.list n_ga F_ga).length = n_ga := eI.list_len
      have len_de : (eDm.list n_de F_de).length = n_de := eDm.list_len
      generalize eI.list n_mo F_mo = mo at *
      generalize eI.list n_ga F_ga = ga at *
      generalize eDm.list n_de F_de = de at *
      subst len_mo len_ga len_de
      exact fokX_fin mixed gw_stable (sl := [v127, v167]) ⟨S127, S167, trivial⟩ Try.func128 hw hl hG hx heq rfl (t128 _ _ _ _ _ _ _) (w128 _ _ _ _ _ _ _ hp.1 hp.2.1 hp.2.2.1 hp.2.2.2.1 hp.2.2.2.2.1)
    · cases hd
  · cases hd
theorem S128 : SumOK Try.prog G0 gw 128 (fokSm dom128) := fok_sum Try.func128 rfl C128
end Go.Pl
end

section
set_option linter.unusedVariables false
set_option linter.unusedSimpArgs false
set_option maxRecDepth 100000
namespace Go.Pl
open Go.V Go.Proofs
def tr44 (q_mo : Bool) (mo : List Int) (q_ga : Bool) (ga : List Int) (q_de : Bool) (de : List Dem) : T (List Ar) :=
    T.br ((Nat.cast (R := Int) (List.length mo)) == (0 : Int)) (T.ret [Ar.c (D.int IntKind.i64 (0 : Int)), Ar.c (D.int IntKind.i64 (10 : Int))]) (T.br ((Nat.cast (R := Int) (List.length ga)) != (Nat.cast (R := Int) (List.length mo))) (T.ret [Ar.c (D.int IntKind.i64 (0 : Int)), Ar.c (D.int IntKind.i64 (10 : Int))]) (T.br (decide ((Nat.cast (R := Int) (List.length mo)) > (4 : Int))) (T.ret [Ar.c (D.int IntKind.i64 (0 : Int)), Ar.c (D.int IntKind.i64 (8 : Int))]) (T.loop (Int × PUnit) ((0 : Int), PUnit.unit) fun (x : Int × PUnit) => T.br (decide (Prod.fst x < (Nat.cast (R := Int) (List.length mo)))) (T.need ((0 : Int) ≤ Prod.fst x) (T.need (Prod.fst x < (Nat.cast (R := Int) (List.length mo))) (T.br (!M.within (List.getD mo (Int.toNat (Prod.fst x)) (0 : Int)) (0 : Int) (1000000 : Int)) (T.ret (Sum.inr [Ar.c (D.int IntKind.i64 (0 : Int)), Ar.c (D.int IntKind.i64 (2 : Int))])) (T.need ((0 : Int) ≤ Prod.fst x) (T.need (Prod.fst x < (Nat.cast (R := Int) (List.length ga))) (T.need ((0 : Int) ≤ (100 : Int) ∧ (100 : Int) < (9223372036854775808 : Int)) (T.br (!M.small (List.getD ga (Int.toNat (Prod.fst x)) (0 : Int)) (100 : Int)) (T.ret (Sum.inr [Ar.c (D.int IntKind.i64 (0 : Int)), Ar.c (D.int IntKind.i64 (2 : Int))])) (T.ret (Sum.inl (IntKind.i64.wrap (Prod.fst x + (1 : Int)), PUnit.unit)))))))))) (T.br (decide ((Nat.cast (R := Int) (List.length de)) > (8 : Int))) (T.ret (Sum.inr [Ar.c (D.int IntKind.i64 (0 : Int)), Ar.c (D.int IntKind.i64 (8 : Int))])) (T.loop (Int × PUnit) ((0 : Int), PUnit.unit) fun (x_1 : Int × PUnit) => T.br (decide (Prod.fst x_1 < (Nat.cast (R := Int) (List.length de)))) (T.need (Enc.Is eI (List.length mo) (Enc.F eI mo)) (T.need (Enc.Is eI (List.length ga) (Enc.F eI ga)) (T.need (Enc.Is eDm (List.length de) (Enc.F eDm de)) (T.need ((0 : Int) ≤ Prod.fst x_1) (T.need (Prod.fst x_1 < (Nat.cast (R := Int) (List.length (Enc.list eDm (List.length de) (Enc.F eDm de))))) (T.need (List.length (Enc.list eI (List.length mo) (Enc.F eI mo)) ≤ (1000000 : Nat)) (T.need (List.length (Enc.list eDm (List.length de) (Enc.F eDm de)) ≤ (1000000 : Nat)) (T.need (∀ (d : Dem), d ∈ Enc.list eDm (List.length de) (Enc.F eDm de) → ByteArray.size (Dem.nm d) ≤ (1000000 : Nat) ∧ List.length (Dem.co d) ≤ (1000000 : Nat)) (T.br (M.demErr (List.length (Enc.list eI (List.length mo) (Enc.F eI mo))) (Enc.list eDm (List.length de) (Enc.F eDm de)) (Int.toNat (Prod.fst x_1)) != (0 : Int)) (T.ret (Sum.inr (Sum.inr [Ar.c (D.int IntKind.i64 (Prod.fst x_1)), Ar.c (D.int IntKind.i64 (M.demErr (List.length (Enc.list eI (List.length mo) (Enc.F eI mo))) (Enc.list eDm (List.length de) (Enc.F eDm de)) (Int.toNat (Prod.fst x_1))))]))) (T.ret (Sum.inl (IntKind.i64.wrap (Prod.fst x_1 + (1 : Int)), PUnit.unit)))))))))))) (T.ret (Sum.inr (Sum.inr [Ar.c (D.int IntKind.i64 (0 : Int)), Ar.c (D.int IntKind.i64 (0 : Int))]))))))))
theorem t44 (q_mo : Bool) (mo : List Int) (q_ga : Bool) (ga : List Int) (q_de : Bool) (de : List Dem) : runFnX Try.prog G0 (lookS [v45, v127, v128]) (fun f => [(7, [.slot 5 (.int .i64)], none), (14, [.slot 6 (.int .i64)], none)]) [] 1 60 4 44 Try.f44 [.agg [.sl q_mo mo.length 1 (eI.F mo), .sl q_ga ga.length 1 (eI.F ga), .sl q_de de.length 3 (eDm.F de)]] =
    tr44 q_mo mo q_ga ga q_de de := by kernel_rfl
theorem w44 (qm : Bool) (mo : List Int) (qg : Bool) (ga : List Int) (qd : Bool) (de : List Dem) (h1 : mo.length ≤ 1000000) (h3 : de.length ≤ 1000000) (hn : ∀ d, d ∈ de → d.nm.size ≤ 1000000 ∧ d.co.length ≤ 1000000) :
    (tr44 qm mo qg ga qd de).wp (fun rs => rsEqv rs (resP (M.checkProg mo ga de))) := by
  unfold tr44
  simp only [Enc.list_F]
  have er : ∀ e : Int, e ≠ 0 → M.progErr0 mo ga de = e → rsEqv [rI 0, rI e] (resP (M.checkProg mo ga de)) := by
    intro e he h
    have hb : (e != 0) = true := bne_iff_ne.2 he
    have : M.checkProg mo ga de = (0, e) := by unfold M.checkProg; rw [h, hb]; rfl
    rw [this]; exact rsEqv_refl _
  refine wp_br (fun hb => er 10 (by decide) ?_) (fun hb => ?_)
  · have hb : (mo.length : Int) = 0 := by simpa using hb
    unfold M.progErr0; rw [decide_eq_false (by omega)]; rfl
  have hm0 : (mo.length : Int) > 0 := by
    have : (mo.length : Int) ≠ 0 := by simpa using hb
    omega
  refine wp_br (fun hb => er 10 (by decide) ?_) (fun hb => ?_)
  · have hb : ((ga.length : Int) == (mo.length : Int)) = false := by simpa using hb
    unfold M.progErr0; rw [decide_eq_true hm0, hb]; rfl
  have hg : ((ga.length : Int) == (mo.length : Int)) = true := by simpa using hb
  have hgl : ga.length = mo.length := by have : (ga.length : Int) = mo.length := by simpa using hb
                                         omega
  refine wp_br (fun hb => er 8 (by decide) ?_) (fun hb => ?_)
  · have hb : (mo.length : Int) > 4 := of_decide_eq_true hb
    unfold M.progErr0; rw [decide_eq_true hm0, hg, decide_eq_false (by omega)]; rfl
  have hm4 : (mo.length : Int) ≤ 4 := by have : ¬ (mo.length : Int) > 4 := of_decide_eq_false hb
                                         omega
  have pe : ∀ bm bg : Bool, mo.any (badF 119) = bm → ga.any (badF 120) = bg → M.progErr0 mo ga de = M.first [M.unl (!bm) 2, M.unl (!bg) 2, M.unl (decide ((de.length : Int) ≤ 8)) 8] := by
    intro bm bg h h'
    unfold M.progErr0; rw [decide_eq_true hm0, hg, decide_eq_true hm4, h, h']
    show M.first [0, 0, _, _, _] = _
    rw [first_of, if_pos rfl, first_of, if_pos rfl]
  refine range_wp (n := mo.length) (fun k _ => mo.any (badF 119) = (mo.drop k).any (badF 119) ∧ ga.any (badF 120) = (ga.drop k).any (badF 120)) ⟨by rw [List.drop_zero], by rw [List.drop_zero]⟩ ?_
  rintro k u hk ⟨hI, hJ⟩
  refine wp_br (fun hb => ?_) (fun hb => ?_)
  · have hlt := lt_of_dec hb
    have s1 := any_step (is := badF 119) hlt
    have s2 := any_step (is := badF 120) (show k < ga.length by omega)
    refine ⟨by show (0 : Int) ≤ k; omega, by show (k : Int) < mo.length; omega, wp_br (fun hx => er 2 (by decide) ?_) (fun hx => ?_)⟩
    · have hx : badF 119 (mo.getD k 0) = true := hx
      rw [hx] at s1
      rw [pe true _ (hI.trans s1) rfl]; rfl
    have hx : badF 119 (mo.getD k 0) = false := hx
    rw [hx] at s1
    refine ⟨by show (0 : Int) ≤ k; omega, by show (k : Int) < ga.length; omega, by decide, wp_br (fun hy => er 2 (by decide) ?_) (fun hy => ?_)⟩
    · have hy : badF 120 (ga.getD k 0) = true := hy
      rw [hy] at s2
      rw [pe _ true rfl (hJ.trans s2)]
      cases mo.any (badF 119) <;> rfl
    have hy : badF 120 (ga.getD k 0) = false := hy
    rw [hy] at s2
    exact ⟨hlt, wrap_succ (by omega), hI.trans s1, hJ.trans s2⟩
  · have hge := ge_of_dec hb
    obtain rfl : k = mo.length := by omega
    rw [List.drop_length] at hI
    rw [← hgl, List.drop_length] at hJ
    have pe := pe false false hI hJ
    refine wp_br (fun hb => er 8 (by decide) ?_) (fun hb => ?_)
    · have hb : (de.length : Int) > 8 := of_decide_eq_true hb
      rw [pe, decide_eq_false (by omega)]; rfl
    have hd8 : ¬ (de.length : Int) > 8 := of_decide_eq_false hb
    have pe : M.progErr0 mo ga de = 0 := by rw [pe, decide_eq_true (by omega)]; rfl
    have hchk : M.checkProg mo ga de = M.badFrom (M.demErr mo.length de) (de.length - 0) 0 := by unfold M.checkProg; rw [pe]; rfl
    rw [hchk]
    refine range_wp (n := de.length) (fun k _ => M.badFrom (M.demErr mo.length de) (de.length - 0) 0 = M.badFrom (M.demErr mo.length de) (de.length - k) k) rfl ?_
    rintro k u hk hI
    rw [hI]
    refine wp_br (fun hb => ?_) (fun hb => ?_)
    · have hlt := lt_of_dec hb
      refine ⟨Enc.is_F _ _ _, Enc.is_F _ _ _, Enc.is_F _ _ _, by show (0 : Int) ≤ k; omega, by show (k : Int) < de.length; omega, h1, h3, hn, wp_br (fun hx => ?_) (fun hx => ?_)⟩
      · have hx : (M.demErr mo.length de k != 0) = true := hx
        rw [bad_hit hlt (bne_iff_ne.1 hx)]; exact rsEqv_refl _
      · have hx : (M.demErr mo.length de k != 0) = false := hx
        exact ⟨hlt, wrap_succ (by omega), bad_next hlt (by simpa using hx)⟩
    · have hge := ge_of_dec hb
      obtain rfl : k = de.length := by omega
      rw [Nat.sub_self]; exact rsEqv_refl _
def dom44 : DomF
  | [.agg [.sl _ n_mo st_mo F_mo, .sl _ n_ga st_ga F_ga, .sl _ n_de st_de F_de]] => (match Nat.beq st_mo 1 && Nat.beq st_ga 1 && Nat.beq st_de 3 with
    | true => some ([eI.Is n_mo F_mo, eI.Is n_ga F_ga, eDm.Is n_de F_de, (eI.list n_mo F_mo).length ≤ 1000000, (eDm.list n_de F_de).length ≤ 1000000, ∀ d, d ∈ (eDm.list n_de F_de) → d.nm.size ≤ 1000000 ∧ d.co.length ≤ 1000000], resP (M.checkProg (eI.list n_mo F_mo) (eI.list n_ga F_ga) (eDm.list n_de F_de)))
    | _ => none)
  | _ => none
def v44 : Nat × Sm := (44, fokSm dom44)
theorem C44 : FOK Try.prog G0 gw 44 dom44 := by
  intro ags p r hd hp κ w xs hw hl hG hx
  unfold dom44 at hd
  split at hd
  · rename_i q_mo n_mo st_mo F_mo q_ga n_ga st_ga F_ga q_de n_de st_de F_de
    split at hd
    · rename_i hst
      simp only [Bool.and_eq_true] at hst
      obtain ⟨⟨g1, g2⟩, g3⟩ := hst
      have g1 := Nat.eq_of_beq_eq_true g1
      have g2 := Nat.eq_of_beq_eq_true g2
      have g3 := Nat.eq_of_beq_eq_true g3
      subst g1 g2 g3
      simp only [Option.some.injEq, Prod.mk.injEq] at hd
      obtain ⟨rfl, rfl⟩ := hd
      obtain ⟨hI_mo, hI_ga, hI_de, hp⟩ := hp
      have heq : agsEqv [.agg [.sl q_mo n_mo 1 F_mo, .sl q_ga n_ga 1 F_ga, .sl q_de n_de 3 F_de]] [.agg [.sl q_mo (eI.list n_mo F_mo).length 1 (eI.F (eI.list n_mo F_mo)), .sl q_ga (eI.list n_ga F_ga).length 1 (eI.F (eI.list n_ga F_ga)), .sl q_de (eDm.list n_de F_de).length 3 (eDm.F (eDm.list n_de F_de))]] := ⟨⟨eI.to id hI_mo, eI.to id hI_ga, eDm.to id hI_de, trivial⟩, trivial⟩
      have len_mo : (eI.list n_mo F_mo).length = n_mo := eI.list_len
      have len_ga : (eI.list n_ga F_ga).length = n_ga := eI.list_len
      have len_de : (eDm.list n_de F_de).length = n_de := eDm.list_len
      generalize eI.list n_mo F_mo = mo at *
      generalize eI.list n_ga F_ga = ga at *
      generalize eDm.list n_de F_de = de at *
      subst len_mo len_ga len_de
      exact fokX_fin mixed gw_stable (sl := [v45, v127, v128]) ⟨S45, S127, S128, trivial⟩ Try.func44 hw hl hG hx heq rfl (t44 _ _ _ _ _ _) (w44 _ _ _ _ _ _ hp.1 hp.2.1 hp.2.2.1)
    · cases hd
  · cases hd
theorem S44 : SumOK Try.prog G0 gw 44 (fokSm dom44) := fok_sum Try.func44 rfl C44
end Go.Pl
end

section
set_option linter.unusedVariables false
set_option linter.unusedSimpArgs false
set_option maxRecDepth 100000
namespace Go.Pl
open Go.V Go.Proofs
abbrev dmG (d : Dem) : Nat → Nat → D := fun (i j : Nat) => List.getD [D.str d.nm, D.sl true (List.length d.co) 1 (Enc.F eI d.co), D.int IntKind.i64 d.am] (i * 3 + j) D.nilp
theorem dm_push {d : Dem} : (∀ j, j < eDm.st → (dmG d 0 j).eqv (eDm.enc d j)) ∧ eDm.rd (dmG d 0) = d := by
  refine ⟨fun j hj => ?_, ?_⟩
  · have hj : j < 3 := hj
    match j, hj with
    | 0, _ => exact D.eqv_refl _
    | 1, _ => exact ⟨(fun e => by cases e), rfl, fun _ => rfl, fun i j hi hj => D.eqv_refl _⟩
    | 2, _ => exact D.eqv_refl _
  · show (⟨d.nm, eI.list d.co.length (eI.F d.co), d.am⟩ : Dem) = d
    rw [Enc.list_F]
def tr18 (q_mo : Bool) (mo : List Int) (q_ga : Bool) (ga : List Int) (q_de : Bool) (de : List Dem) : T (List Ar) :=
    T.need (Enc.Is eI (List.length mo) (Enc.F eI mo)) (T.need (List.length (Enc.list eI (List.length mo) (Enc.F eI mo)) ≤ (1000000 : Nat)) (T.need (Enc.Is eI (List.length ga) (Enc.F eI ga)) (T.need (List.length (Enc.list eI (List.length ga) (Enc.F eI ga)) ≤ (1000000 : Nat)) (T.need (Enc.Is eI (List.length (Enc.list eI (List.length mo) (Enc.F eI mo))) (Enc.F eI (Enc.list eI (List.length mo) (Enc.F eI mo)))) (T.need (Enc.Is eI (List.length (Enc.list eI (List.length ga) (Enc.F eI ga))) (Enc.F eI (Enc.list eI (List.length ga) (Enc.F eI ga)))) (T.loop2 (Int × List Int × List Int × PUnit × PUnit) (Int × List Int × List Int × List Dem × PUnit) (Sum.inl ((0 : Int), Enc.list eI (List.length (Enc.list eI (List.length mo) (Enc.F eI mo))) (Enc.F eI (Enc.list eI (List.length mo) (Enc.F eI mo))), Enc.list eI (List.length (Enc.list eI (List.length ga) (Enc.F eI ga))) (Enc.F eI (Enc.list eI (List.length ga) (Enc.F eI ga))), PUnit.unit, PUnit.unit)) (fun (x : Int × List Int × List Int × PUnit × PUnit) => T.br (decide (Prod.fst x < (Nat.cast (R := Int) (List.length de)))) (T.need ((0 : Int) ≤ Prod.fst x) (T.need (Prod.fst x < (Nat.cast (R := Int) (List.length de))) (T.need (Enc.Is eI (List.length (Dem.co (List.getD de (Int.toNat (Prod.fst x)) dfD))) (Enc.F eI (Dem.co (List.getD de (Int.toNat (Prod.fst x)) dfD)))) (T.need (List.length (Enc.list eI (List.length (Dem.co (List.getD de (Int.toNat (Prod.fst x)) dfD))) (Enc.F eI (Dem.co (List.getD de (Int.toNat (Prod.fst x)) dfD)))) ≤ (1000000 : Nat)) (T.need ((1 : Nat) ≤ (1000000 : Nat)) (T.need (Enc.Is eI (List.length (Prod.fst (Prod.snd x))) (Enc.F eI (Prod.fst (Prod.snd x)))) (T.need (Enc.Is eI (List.length (Prod.fst (Prod.snd (Prod.snd x)))) (Enc.F eI (Prod.fst (Prod.snd (Prod.snd x))))) (T.need (Enc.Is eDm (1 : Nat) (joinF (0 : Nat) (fun (x x_1 : Nat) => D.nilp) fun (i j : Nat) => List.getD [D.str (Dem.nm (List.getD de (Int.toNat (Prod.fst x)) dfD)), D.sl true (List.length (Enc.list eI (List.length (Dem.co (List.getD de (Int.toNat (Prod.fst x)) dfD))) (Enc.F eI (Dem.co (List.getD de (Int.toNat (Prod.fst x)) dfD))))) (1 : Nat) (Enc.F eI (Enc.list eI (List.length (Dem.co (List.getD de (Int.toNat (Prod.fst x)) dfD))) (Enc.F eI (Dem.co (List.getD de (Int.toNat (Prod.fst x)) dfD))))), D.int IntKind.i64 (Dem.am (List.getD de (Int.toNat (Prod.fst x)) dfD))] (i * (3 : Nat) + j) D.nilp)) (T.need ((1 : Nat) ≤ (1 : Nat)) (T.ret (Sum.inl (Sum.inr (IntKind.i64.wrap (Prod.fst x + (1 : Int)), Enc.list eI (List.length (Prod.fst (Prod.snd x))) (Enc.F eI (Prod.fst (Prod.snd x))), Enc.list eI (List.length (Prod.fst (Prod.snd (Prod.snd x)))) (Enc.F eI (Prod.fst (Prod.snd (Prod.snd x)))), Enc.list eDm (1 : Nat) (joinF (0 : Nat) (fun (x x_1 : Nat) => D.nilp) fun (i j : Nat) => List.getD [D.str (Dem.nm (List.getD de (Int.toNat (Prod.fst x)) dfD)), D.sl true (List.length (Enc.list eI (List.length (Dem.co (List.getD de (Int.toNat (Prod.fst x)) dfD))) (Enc.F eI (Dem.co (List.getD de (Int.toNat (Prod.fst x)) dfD))))) (1 : Nat) (Enc.F eI (Enc.list eI (List.length (Dem.co (List.getD de (Int.toNat (Prod.fst x)) dfD))) (Enc.F eI (Dem.co (List.getD de (Int.toNat (Prod.fst x)) dfD))))), D.int IntKind.i64 (Dem.am (List.getD de (Int.toNat (Prod.fst x)) dfD))] (i * (3 : Nat) + j) D.nilp), PUnit.unit))))))))))))) (T.ret (Sum.inr [Ar.agg [D.sl false (List.length (Prod.fst (Prod.snd x))) (1 : Nat) (Enc.F eI (Prod.fst (Prod.snd x))), D.sl false (List.length (Prod.fst (Prod.snd (Prod.snd x)))) (1 : Nat) (Enc.F eI (Prod.fst (Prod.snd (Prod.snd x)))), D.sl false (0 : Nat) (0 : Nat) fun (x x_1 : Nat) => D.nilp]]))) fun (y : Int × List Int × List Int × List Dem × PUnit) => T.br (decide (Prod.fst y < (Nat.cast (R := Int) (List.length de)))) (T.need ((0 : Int) ≤ Prod.fst y) (T.need (Prod.fst y < (Nat.cast (R := Int) (List.length de))) (T.need (Enc.Is eI (List.length (Dem.co (List.getD de (Int.toNat (Prod.fst y)) dfD))) (Enc.F eI (Dem.co (List.getD de (Int.toNat (Prod.fst y)) dfD)))) (T.need (List.length (Enc.list eI (List.length (Dem.co (List.getD de (Int.toNat (Prod.fst y)) dfD))) (Enc.F eI (Dem.co (List.getD de (Int.toNat (Prod.fst y)) dfD)))) ≤ (1000000 : Nat)) (T.need (List.length (Prod.fst (Prod.snd (Prod.snd (Prod.snd y)))) + (1 : Nat) ≤ (1000000 : Nat)) (T.need (List.length (Prod.fst (Prod.snd (Prod.snd (Prod.snd y)))) ≤ List.length (Prod.fst (Prod.snd (Prod.snd (Prod.snd y))))) (T.need (Enc.Is eI (List.length (Prod.fst (Prod.snd y))) (Enc.F eI (Prod.fst (Prod.snd y)))) (T.need (Enc.Is eI (List.length (Prod.fst (Prod.snd (Prod.snd y)))) (Enc.F eI (Prod.fst (Prod.snd (Prod.snd y))))) (T.need (Enc.Is eDm (List.length (Prod.fst (Prod.snd (Prod.snd (Prod.snd y)))) + (1 : Nat)) (joinF (List.length (Prod.fst (Prod.snd (Prod.snd (Prod.snd y))))) (Enc.F eDm (Prod.fst (Prod.snd (Prod.snd (Prod.snd y))))) fun (i j : Nat) => List.getD [D.str (Dem.nm (List.getD de (Int.toNat (Prod.fst y)) dfD)), D.sl true (List.length (Enc.list eI (List.length (Dem.co (List.getD de (Int.toNat (Prod.fst y)) dfD))) (Enc.F eI (Dem.co (List.getD de (Int.toNat (Prod.fst y)) dfD))))) (1 : Nat) (Enc.F eI (Enc.list eI (List.length (Dem.co (List.getD de (Int.toNat (Prod.fst y)) dfD))) (Enc.F eI (Dem.co (List.getD de (Int.toNat (Prod.fst y)) dfD))))), D.int IntKind.i64 (Dem.am (List.getD de (Int.toNat (Prod.fst y)) dfD))] (i * (3 : Nat) + j) D.nilp)) (T.need (List.length (Prod.fst (Prod.snd (Prod.snd (Prod.snd y)))) + (1 : Nat) ≤ List.length (Prod.fst (Prod.snd (Prod.snd (Prod.snd y)))) + (1 : Nat)) (T.ret (Sum.inl (Sum.inr (IntKind.i64.wrap (Prod.fst y + (1 : Int)), Enc.list eI (List.length (Prod.fst (Prod.snd y))) (Enc.F eI (Prod.fst (Prod.snd y))), Enc.list eI (List.length (Prod.fst (Prod.snd (Prod.snd y)))) (Enc.F eI (Prod.fst (Prod.snd (Prod.snd y)))), Enc.list eDm (List.length (Prod.fst (Prod.snd (Prod.snd (Prod.snd y)))) + (1 : Nat)) (joinF (List.length (Prod.fst (Prod.snd (Prod.snd (Prod.snd y))))) (Enc.F eDm (Prod.fst (Prod.snd (Prod.snd (Prod.snd y))))) fun (i j : Nat) => List.getD [D.str (Dem.nm (List.getD de (Int.toNat (Prod.fst y)) dfD)), D.sl true (List.length (Enc.list eI (List.length (Dem.co (List.getD de (Int.toNat (Prod.fst y)) dfD))) (Enc.F eI (Dem.co (List.getD de (Int.toNat (Prod.fst y)) dfD))))) (1 : Nat) (Enc.F eI (Enc.list eI (List.length (Dem.co (List.getD de (Int.toNat (Prod.fst y)) dfD))) (Enc.F eI (Dem.co (List.getD de (Int.toNat (Prod.fst y)) dfD))))), D.int IntKind.i64 (Dem.am (List.getD de (Int.toNat (Prod.fst y)) dfD))] (i * (3 : Nat) + j) D.nilp), PUnit.unit)))))))))))))) (T.need (List.length (Prod.fst (Prod.snd (Prod.snd (Prod.snd y)))) ≤ List.length (Prod.fst (Prod.snd (Prod.snd (Prod.snd y))))) (T.ret (Sum.inr [Ar.agg [D.sl false (List.length (Prod.fst (Prod.snd y))) (1 : Nat) (Enc.F eI (Prod.fst (Prod.snd y))), D.sl false (List.length (Prod.fst (Prod.snd (Prod.snd y)))) (1 : Nat) (Enc.F eI (Prod.fst (Prod.snd (Prod.snd y)))), D.sl true (List.length (Prod.fst (Prod.snd (Prod.snd (Prod.snd y))))) (3 : Nat) (Enc.F eDm (Prod.fst (Prod.snd (Prod.snd (Prod.snd y)))))]])))))))))
theorem t18 (q_mo : Bool) (mo : List Int) (q_ga : Bool) (ga : List Int) (q_de : Bool) (de : List Dem) : runFnX Try.prog G0 (lookS [v71]) (fun f => [(3, [.slot 4 (.int .i64), .blk 3 [.imE eI, .imE eI, .nsl]], some [.slot 4 (.int .i64), .blk 3 [.imE eI, .imE eI, .rowE 124 eDm]])]) [] 1 60 4 18 Try.f18 [.agg [.sl q_mo mo.length 1 (eI.F mo), .sl q_ga ga.length 1 (eI.F ga), .sl q_de de.length 3 (eDm.F de)]] =
    tr18 q_mo mo q_ga ga q_de de := by kernel_rfl
theorem w18 (qm : Bool) (mo : List Int) (qg : Bool) (ga : List Int) (qd : Bool) (de : List Dem) (h1 : mo.length ≤ 1000000) (h2 : ga.length ≤ 1000000) (h3 : de.length ≤ 1000000) (hn : ∀ d, d ∈ de → d.co.length ≤ 1000000) :
    (tr18 qm mo qg ga qd de).wp (fun rs => rsEqv rs [.agg [.sl false mo.length 1 (eI.F mo), .sl false ga.length 1 (eI.F ga), .sl false de.length 3 (eDm.F de)]]) := by
  unfold tr18
  simp only [Enc.list_F]
  refine ⟨Enc.is_F _ _ _, h1, Enc.is_F _ _ _, h2, Enc.is_F _ _ _, Enc.is_F _ _ _, ?_⟩
  refine ⟨fun z => match z with
    | .inl x => x = ((0 : Int), mo, ga, PUnit.unit, PUnit.unit)
    | .inr y => ∃ k : Nat, 1 ≤ k ∧ k ≤ de.length ∧ y.1 = k ∧ y.2.1 = mo ∧ y.2.2.1 = ga ∧ y.2.2.2.1 = de.take k,
    fun z => match z with | .inl _ => de.length + 5 | .inr y => de.length - y.1.toNat, rfl, ?_, ?_⟩
  · rintro x rfl
    refine ⟨fun hb => ?_, fun hb => ?_⟩
    · have hb : 0 < de.length := by have : (0 : Int) < de.length := of_decide_eq_true hb; omega
      obtain ⟨o1, o2⟩ := push_one eDm (F := fun _ _ => .nilp) (G := dmG (de.getD 0 dfD)) dm_push.1 dm_push.2
      have o3 : [de.getD 0 dfD] = de.take 1 := by
        have := take_push (l := de) (d := dfD) hb
        rw [← this]; rfl
      refine ⟨by dsimp only; omega, by dsimp only; omega, Enc.is_F _ _ _, hn _ (getD_mem hb), by decide, Enc.is_F _ _ _, Enc.is_F _ _ _, o1, Nat.le_refl _, ⟨1, Nat.le_refl _, hb, rfl, rfl, rfl, o2.trans o3⟩, ?_⟩
      show de.length - (1 : Int).toNat < de.length + 5; omega
    · have h0 : de.length = 0 := by have : ¬ (0 : Int) < de.length := of_decide_eq_false hb; omega
      have hW0 : de = [] := List.length_eq_zero_iff.1 h0
      subst hW0
      exact ⟨⟨D.eqv_refl _, D.eqv_refl _, nil_eqv eDm, trivial⟩, trivial⟩
  · rintro ⟨y, m, g, acc, u⟩ ⟨k, g1, g2, g3, g4, g5, g6⟩
    simp only at g3 g4 g5 g6
    subst g3 g4 g5
    have hacc : acc.length = k := by rw [g6, List.length_take]; omega
    have hw : IntKind.i64.wrap ((k : Int) + 1) = ((k + 1 : Nat) : Int) := wrap_succ (by omega)
    refine ⟨fun hb => ?_, fun hb => ?_⟩
    · have hlt := lt_of_dec hb
      obtain ⟨o1, o2⟩ := eDm.push (l := acc) (a := de.getD k dfD) (G := dmG (de.getD k dfD)) dm_push.1 dm_push.2
      have o3 : acc ++ [de.getD k dfD] = de.take (k + 1) := by rw [g6, take_push (d := dfD) hlt]
      have mu : de.length - (IntKind.i64.wrap ((k : Int) + 1)).toNat < de.length - (k : Int).toNat := by rw [hw]; omega
      refine ⟨by dsimp only; omega, by dsimp only; omega, Enc.is_F _ _ _, hn _ (getD_mem hlt), by dsimp only; omega, Nat.le_refl _, Enc.is_F _ _ _, Enc.is_F _ _ _, o1, Nat.le_refl _, ⟨k + 1, by omega, hlt, hw, rfl, rfl, o2.trans o3⟩, mu⟩
    · have hge := ge_of_dec hb
      obtain rfl : k = de.length := by omega
      have hfin : acc = de := by rw [g6, List.take_of_length_le (by omega)]
      subst hfin
      exact ⟨Nat.le_refl _, ⟨D.eqv_refl _, D.eqv_refl _, ⟨(fun e => by cases e), rfl, fun _ => rfl, fun i j hi hj => D.eqv_refl _⟩, trivial⟩, trivial⟩
def dom18 : DomF
  | [.agg [.sl _ n_mo st_mo F_mo, .sl _ n_ga st_ga F_ga, .sl _ n_de st_de F_de]] => (match Nat.beq st_mo 1 && Nat.beq st_ga 1 && Nat.beq st_de 3 with
    | true => some ([eI.Is n_mo F_mo, eI.Is n_ga F_ga, eDm.Is n_de F_de, (eI.list n_mo F_mo).length ≤ 1000000, (eI.list n_ga F_ga).length ≤ 1000000, (eDm.list n_de F_de).length ≤ 1000000, ∀ d, d ∈ (eDm.list n_de F_de) → d.co.length ≤ 1000000], [.agg [.sl false (eI.list n_mo F_mo).length 1 (eI.F (eI.list n_mo F_mo)), .sl false (eI.list n_ga F_ga).length 1 (eI.F (eI.list n_ga F_ga)), .sl false (eDm.list n_de F_de).length 3 (eDm.F (eDm.list n_de F_de))]])
    | _ => none)
  | _ => none
def v18 : Nat × Sm := (18, fokSm dom18)
theorem C18 : FOK Try.prog G0 gw 18 dom18 := by
  intro ags p r hd hp κ w xs hw hl hG hx
  unfold dom18 at hd
  split at hd
  · rename_i q_mo n_mo st_mo F_mo q_ga n_ga st_ga F_ga q_de n_de st_de F_de
    split at hd
    · rename_i hst
      simp only [Bool.and_eq_true] at hst
      obtain ⟨⟨g1, g2⟩, g3⟩ := hst
      have g1 := Nat.eq_of_beq_eq_true g1
      have g2 := Nat.eq_of_beq_eq_true g2
      have g3 := Nat.eq_of_beq_eq_true g3
      subst g1 g2 g3
      simp only [Option.some.injEq, Prod.mk.injEq] at hd
      obtain ⟨rfl, rfl⟩ := hd
      obtain ⟨hI_mo, hI_ga, hI_de, hp⟩ := hp
      have heq : agsEqv [.agg [.sl q_mo n_mo 1 F_mo, .sl q_ga n_ga 1 F_ga, .sl q_de n_de 3 F_de]] [.agg [.sl q_mo (eI.list n_mo F_mo).length 1 (eI.F (eI.list n_mo F_mo)), .sl q_ga (eI.list n_ga F_ga).length 1 (eI.F (eI.list n_ga F_ga)), .sl q_de (eDm.list n_de F_de).length 3 (eDm.F (eDm.list n_de F_de))]] := ⟨⟨eI.to id hI_mo, eI.to id hI_ga, eDm.to id hI_de, trivial⟩, trivial⟩
      have len_mo : (eI.list n_mo F_mo).length = n_mo := eI.list_len
      have len_ga : (eI.list n_ga F_ga).length = n_ga := eI.list_len
      have len_de : (eDm.list n_de F_de).length = n_de := eDm.list_len
      generalize eI.list n_mo F_mo = mo at *
      generalize eI.list n_ga F_ga = ga at *
      generalize eDm.list n_de F_de = de at *
      subst len_mo len_ga len_de
      exact fokX_fin mixed gw_stable (sl := [v71]) ⟨S71, trivial⟩ Try.func18 hw hl hG hx heq rfl (t18 _ _ _ _ _ _) (w18 _ _ _ _ _ _ hp.1 hp.2.1 hp.2.2.1 hp.2.2.2.1)
    · cases hd
  · cases hd
theorem S18 : SumOK Try.prog G0 gw 18 (fokSm dom18) := fok_sum Try.func18 rfl C18
end Go.Pl
end

section
set_option linter.unusedVariables false
set_option linter.unusedSimpArgs false
set_option maxRecDepth 100000
namespace Go.Pl
open Go.V Go.Proofs
theorem t150n : runFnX Try.prog G0 (lookS []) (fun _ => []) [] 1 40 6 150 Try.f150 [.c (.op (.slice none 0 0))] = T.br true (T.ret [.c (.sl false 0 0 (fun _ _ => .nilp))]) .fail := by kernel_rfl
theorem w150q (u : List Int) (h1 : u.length ≤ 1000000) : (tr150 u).wp (fun rs => rsEqv rs [.c (.sl false u.length 1 (eI.F u))]) := by
  unfold tr150
  refine ⟨by omega, Nat.le_refl _, ?_⟩
  simp only [Nat.zero_add, join0]
  exact ⟨⟨(fun e => by cases e), rfl, fun _ => rfl, fun i j hi hj => D.eqv_refl _⟩, trivial⟩
def dom150q : DomF
  | [.c (.sl _ n st F)] => (match Nat.beq st 1 with
    | true => some ([eI.Is n F, n ≤ 1000000], [.c (.sl false (eI.list n F).length 1 (eI.F (eI.list n F)))])
    | _ => none)
  | _ => none
def v150q : Nat × Sm := (150, fokSm dom150q)
theorem C150q : FOK Try.prog G0 gw 150 dom150q := by
  intro ags p r hd hp κ w xs hw hl hG hx
  unfold dom150q at hd
  split at hd
  · rename_i q n st F
    split at hd
    · rename_i hst
      have g1 := Nat.eq_of_beq_eq_true hst
      subst g1
      simp only [Option.some.injEq, Prod.mk.injEq] at hd
      obtain ⟨rfl, rfl⟩ := hd
      obtain ⟨hI, hn, _⟩ := hp
      cases hx with
      | cons h0 h1 =>
        cases h1
        have h0' := h0
        simp only [Ag.rel, D.rel] at h0
        rcases h0 with ⟨rfl, rfl, rfl⟩ | h0
        · have hx' : F2 (Ag.rel Try.prog gw κ) [.c (.op (.slice none 0 0))] [.slice none 0 0] := .cons ⟨rfl, rfl, by simp, by simp⟩ .nil
          refine fokX_fin mixed gw_stable (sl := []) trivial Try.func150 hw hl hG hx' (ags' := [.c (.op (.slice none 0 0))]) (agsEqv_refl _) rfl t150n ⟨fun _ => ⟨nil_eqv eI, trivial⟩, fun h => by cases h⟩
        · rename_i x
          have hx' : F2 (Ag.rel Try.prog gw κ) [.c (.sl true n 1 F)] [x] := .cons (.inr h0) .nil
          have heq : agsEqv [.c (.sl true n 1 F)] [.c (.sl true (eI.list n F).length 1 (eI.F (eI.list n F)))] := ⟨eI.to id hI, trivial⟩
          exact fokX_fin mixed gw_stable (sl := []) trivial Try.func150 hw hl hG hx' heq rfl (t150 _) (w150q _ (by rw [Enc.list_len]; exact hn))
    · cases hd
  · cases hd
theorem S150q : SumOK Try.prog G0 gw 150 (fokSm dom150q) := fok_sum Try.func150 rfl C150q
end Go.Pl
end

section
set_option linter.unusedVariables false
set_option linter.unusedSimpArgs false
set_option maxRecDepth 100000
namespace Go.Pl
open Go.V Go.Proofs
abbrev dmH (d : Dem) : Nat → Nat → D := fun (i j : Nat) => List.getD [D.str d.nm, D.sl false (List.length d.co) 1 (Enc.F eI d.co), D.int IntKind.i64 d.am] (i * 3 + j) D.nilp
theorem dmH_push {d : Dem} : (∀ j, j < eDm.st → (dmH d 0 j).eqv (eDm.enc d j)) ∧ eDm.rd (dmH d 0) = d := by
  refine ⟨fun j hj => ?_, ?_⟩
  · have hj : j < 3 := hj
    match j, hj with
    | 0, _ => exact D.eqv_refl _
    | 1, _ => exact ⟨(fun e => by cases e), rfl, fun _ => rfl, fun i j hi hj => D.eqv_refl _⟩
    | 2, _ => exact D.eqv_refl _
  · show (⟨d.nm, eI.list d.co.length (eI.F d.co), d.am⟩ : Dem) = d
    rw [Enc.list_F]
namespace M
def erase (de : List Dem) (i : Int) : List Dem := de.eraseIdx i.toNat
end M
def wo (de : List Dem) (j k : Nat) : List Dem := (de.take k).eraseIdx j
theorem wo_skip {de : List Dem} {j k : Nat} (hk : k < de.length) (h : j = k) : wo de j (k + 1) = wo de j k := by
  subst h
  unfold wo
  rw [← take_push (d := dfD) hk, List.eraseIdx_append_of_length_le (by rw [List.length_take]; omega), List.length_take, Nat.min_eq_left (by omega), Nat.sub_self, List.eraseIdx_of_length_le (l := de.take j) (by rw [List.length_take]; omega)]
  simp
theorem wo_take {de : List Dem} {j k : Nat} (hk : k < de.length) (h : j ≠ k) : wo de j (k + 1) = wo de j k ++ [de.getD k dfD] := by
  unfold wo
  rw [← take_push (d := dfD) hk]
  rcases Nat.lt_or_ge j k with hj | hj
  · rw [List.eraseIdx_append_of_lt_length (by rw [List.length_take]; omega)]
  · rw [List.eraseIdx_append_of_length_le (by rw [List.length_take]; omega), List.length_take, Nat.min_eq_left (by omega), List.eraseIdx_of_length_le (l := [de.getD k dfD]) (by simp; omega), List.eraseIdx_of_length_le (l := de.take k) (by rw [List.length_take]; omega)]
theorem wo_len (de : List Dem) (j k : Nat) : (wo de j k).length ≤ k := by
  unfold wo
  have := List.length_eraseIdx_le (de.take k) j
  rw [List.length_take] at this
  omega
theorem wo_end {de : List Dem} {j : Nat} : wo de j de.length = de.eraseIdx j := by unfold wo; rw [List.take_length]
def tr126 (q_mo : Bool) (mo : List Int) (q_ga : Bool) (ga : List Int) (q_de : Bool) (de : List Dem) (i : Int) : T (List Ar) :=
    T.need (Enc.Is eI (List.length mo) (Enc.F eI mo)) (T.need (List.length mo ≤ (1000000 : Nat)) (T.need (Enc.Is eI (List.length ga) (Enc.F eI ga)) (T.need (List.length ga ≤ (1000000 : Nat)) (T.need (Enc.Is eI (List.length (Enc.list eI (List.length mo) (Enc.F eI mo))) (Enc.F eI (Enc.list eI (List.length mo) (Enc.F eI mo)))) (T.need (Enc.Is eI (List.length (Enc.list eI (List.length ga) (Enc.F eI ga))) (Enc.F eI (Enc.list eI (List.length ga) (Enc.F eI ga)))) (T.loop2 (Int × List Int × List Int × PUnit × PUnit) (Int × List Int × List Int × List Dem × PUnit) (Sum.inl ((0 : Int), Enc.list eI (List.length (Enc.list eI (List.length mo) (Enc.F eI mo))) (Enc.F eI (Enc.list eI (List.length mo) (Enc.F eI mo))), Enc.list eI (List.length (Enc.list eI (List.length ga) (Enc.F eI ga))) (Enc.F eI (Enc.list eI (List.length ga) (Enc.F eI ga))), PUnit.unit, PUnit.unit)) (fun (x : Int × List Int × List Int × PUnit × PUnit) => T.br (decide (Prod.fst x < (Nat.cast (R := Int) (List.length de)))) (T.need ((0 : Int) ≤ Prod.fst x) (T.need (Prod.fst x < (Nat.cast (R := Int) (List.length de))) (T.br (Prod.fst x != i) (T.need (Enc.Is eI (List.length (Dem.co (List.getD de (Int.toNat (Prod.fst x)) dfD))) (Enc.F eI (Dem.co (List.getD de (Int.toNat (Prod.fst x)) dfD)))) (T.need (List.length (Dem.co (List.getD de (Int.toNat (Prod.fst x)) dfD)) ≤ (1000000 : Nat)) (T.need ((1 : Nat) ≤ (1000000 : Nat)) (T.need (Enc.Is eI (List.length (Prod.fst (Prod.snd x))) (Enc.F eI (Prod.fst (Prod.snd x)))) (T.need (Enc.Is eI (List.length (Prod.fst (Prod.snd (Prod.snd x)))) (Enc.F eI (Prod.fst (Prod.snd (Prod.snd x))))) (T.need (Enc.Is eDm (1 : Nat) (joinF (0 : Nat) (fun (x x_1 : Nat) => D.nilp) fun (i_1 j : Nat) => List.getD [D.str (Dem.nm (List.getD de (Int.toNat (Prod.fst x)) dfD)), D.sl false (List.length (Enc.list eI (List.length (Dem.co (List.getD de (Int.toNat (Prod.fst x)) dfD))) (Enc.F eI (Dem.co (List.getD de (Int.toNat (Prod.fst x)) dfD))))) (1 : Nat) (Enc.F eI (Enc.list eI (List.length (Dem.co (List.getD de (Int.toNat (Prod.fst x)) dfD))) (Enc.F eI (Dem.co (List.getD de (Int.toNat (Prod.fst x)) dfD))))), D.int IntKind.i64 (Dem.am (List.getD de (Int.toNat (Prod.fst x)) dfD))] (i_1 * (3 : Nat) + j) D.nilp)) (T.need ((1 : Nat) ≤ (1 : Nat)) (T.ret (Sum.inl (Sum.inr (IntKind.i64.wrap (Prod.fst x + (1 : Int)), Enc.list eI (List.length (Prod.fst (Prod.snd x))) (Enc.F eI (Prod.fst (Prod.snd x))), Enc.list eI (List.length (Prod.fst (Prod.snd (Prod.snd x)))) (Enc.F eI (Prod.fst (Prod.snd (Prod.snd x)))), Enc.list eDm (1 : Nat) (joinF (0 : Nat) (fun (x x_1 : Nat) => D.nilp) fun (i_1 j : Nat) => List.getD [D.str (Dem.nm (List.getD de (Int.toNat (Prod.fst x)) dfD)), D.sl false (List.length (Enc.list eI (List.length (Dem.co (List.getD de (Int.toNat (Prod.fst x)) dfD))) (Enc.F eI (Dem.co (List.getD de (Int.toNat (Prod.fst x)) dfD))))) (1 : Nat) (Enc.F eI (Enc.list eI (List.length (Dem.co (List.getD de (Int.toNat (Prod.fst x)) dfD))) (Enc.F eI (Dem.co (List.getD de (Int.toNat (Prod.fst x)) dfD))))), D.int IntKind.i64 (Dem.am (List.getD de (Int.toNat (Prod.fst x)) dfD))] (i_1 * (3 : Nat) + j) D.nilp), PUnit.unit))))))))))) (T.need (Enc.Is eI (List.length (Prod.fst (Prod.snd x))) (Enc.F eI (Prod.fst (Prod.snd x)))) (T.need (Enc.Is eI (List.length (Prod.fst (Prod.snd (Prod.snd x)))) (Enc.F eI (Prod.fst (Prod.snd (Prod.snd x))))) (T.ret (Sum.inl (Sum.inl (IntKind.i64.wrap (Prod.fst x + (1 : Int)), Enc.list eI (List.length (Prod.fst (Prod.snd x))) (Enc.F eI (Prod.fst (Prod.snd x))), Enc.list eI (List.length (Prod.fst (Prod.snd (Prod.snd x)))) (Enc.F eI (Prod.fst (Prod.snd (Prod.snd x)))), PUnit.unit, PUnit.unit))))))))) (T.ret (Sum.inr [Ar.agg [D.sl false (List.length (Prod.fst (Prod.snd x))) (1 : Nat) (Enc.F eI (Prod.fst (Prod.snd x))), D.sl false (List.length (Prod.fst (Prod.snd (Prod.snd x)))) (1 : Nat) (Enc.F eI (Prod.fst (Prod.snd (Prod.snd x)))), D.sl false (0 : Nat) (0 : Nat) fun (x x_1 : Nat) => D.nilp]]))) fun (y : Int × List Int × List Int × List Dem × PUnit) => T.br (decide (Prod.fst y < (Nat.cast (R := Int) (List.length de)))) (T.need ((0 : Int) ≤ Prod.fst y) (T.need (Prod.fst y < (Nat.cast (R := Int) (List.length de))) (T.br (Prod.fst y != i) (T.need (Enc.Is eI (List.length (Dem.co (List.getD de (Int.toNat (Prod.fst y)) dfD))) (Enc.F eI (Dem.co (List.getD de (Int.toNat (Prod.fst y)) dfD)))) (T.need (List.length (Dem.co (List.getD de (Int.toNat (Prod.fst y)) dfD)) ≤ (1000000 : Nat)) (T.need (List.length (Prod.fst (Prod.snd (Prod.snd (Prod.snd y)))) + (1 : Nat) ≤ (1000000 : Nat)) (T.need (List.length (Prod.fst (Prod.snd (Prod.snd (Prod.snd y)))) ≤ List.length (Prod.fst (Prod.snd (Prod.snd (Prod.snd y))))) (T.need (Enc.Is eI (List.length (Prod.fst (Prod.snd y))) (Enc.F eI (Prod.fst (Prod.snd y)))) (T.need (Enc.Is eI (List.length (Prod.fst (Prod.snd (Prod.snd y)))) (Enc.F eI (Prod.fst (Prod.snd (Prod.snd y))))) (T.need (Enc.Is eDm (List.length (Prod.fst (Prod.snd (Prod.snd (Prod.snd y)))) + (1 : Nat)) (joinF (List.length (Prod.fst (Prod.snd (Prod.snd (Prod.snd y))))) (Enc.F eDm (Prod.fst (Prod.snd (Prod.snd (Prod.snd y))))) fun (i_1 j : Nat) => List.getD [D.str (Dem.nm (List.getD de (Int.toNat (Prod.fst y)) dfD)), D.sl false (List.length (Enc.list eI (List.length (Dem.co (List.getD de (Int.toNat (Prod.fst y)) dfD))) (Enc.F eI (Dem.co (List.getD de (Int.toNat (Prod.fst y)) dfD))))) (1 : Nat) (Enc.F eI (Enc.list eI (List.length (Dem.co (List.getD de (Int.toNat (Prod.fst y)) dfD))) (Enc.F eI (Dem.co (List.getD de (Int.toNat (Prod.fst y)) dfD))))), D.int IntKind.i64 (Dem.am (List.getD de (Int.toNat (Prod.fst y)) dfD))] (i_1 * (3 : Nat) + j) D.nilp)) (T.need (List.length (Prod.fst (Prod.snd (Prod.snd (Prod.snd y)))) + (1 : Nat) ≤ List.length (Prod.fst (Prod.snd (Prod.snd (Prod.snd y)))) + (1 : Nat)) (T.ret (Sum.inl (Sum.inr (IntKind.i64.wrap (Prod.fst y + (1 : Int)), Enc.list eI (List.length (Prod.fst (Prod.snd y))) (Enc.F eI (Prod.fst (Prod.snd y))), Enc.list eI (List.length (Prod.fst (Prod.snd (Prod.snd y)))) (Enc.F eI (Prod.fst (Prod.snd (Prod.snd y)))), Enc.list eDm (List.length (Prod.fst (Prod.snd (Prod.snd (Prod.snd y)))) + (1 : Nat)) (joinF (List.length (Prod.fst (Prod.snd (Prod.snd (Prod.snd y))))) (Enc.F eDm (Prod.fst (Prod.snd (Prod.snd (Prod.snd y))))) fun (i_1 j : Nat) => List.getD [D.str (Dem.nm (List.getD de (Int.toNat (Prod.fst y)) dfD)), D.sl false (List.length (Enc.list eI (List.length (Dem.co (List.getD de (Int.toNat (Prod.fst y)) dfD))) (Enc.F eI (Dem.co (List.getD de (Int.toNat (Prod.fst y)) dfD))))) (1 : Nat) (Enc.F eI (Enc.list eI (List.length (Dem.co (List.getD de (Int.toNat (Prod.fst y)) dfD))) (Enc.F eI (Dem.co (List.getD de (Int.toNat (Prod.fst y)) dfD))))), D.int IntKind.i64 (Dem.am (List.getD de (Int.toNat (Prod.fst y)) dfD))] (i_1 * (3 : Nat) + j) D.nilp), PUnit.unit)))))))))))) (T.need (Enc.Is eI (List.length (Prod.fst (Prod.snd y))) (Enc.F eI (Prod.fst (Prod.snd y)))) (T.need (Enc.Is eI (List.length (Prod.fst (Prod.snd (Prod.snd y)))) (Enc.F eI (Prod.fst (Prod.snd (Prod.snd y))))) (T.need (Enc.Is eDm (List.length (Prod.fst (Prod.snd (Prod.snd (Prod.snd y))))) (Enc.F eDm (Prod.fst (Prod.snd (Prod.snd (Prod.snd y)))))) (T.need (List.length (Prod.fst (Prod.snd (Prod.snd (Prod.snd y)))) ≤ List.length (Prod.fst (Prod.snd (Prod.snd (Prod.snd y))))) (T.ret (Sum.inl (Sum.inr (IntKind.i64.wrap (Prod.fst y + (1 : Int)), Enc.list eI (List.length (Prod.fst (Prod.snd y))) (Enc.F eI (Prod.fst (Prod.snd y))), Enc.list eI (List.length (Prod.fst (Prod.snd (Prod.snd y)))) (Enc.F eI (Prod.fst (Prod.snd (Prod.snd y)))), Enc.list eDm (List.length (Prod.fst (Prod.snd (Prod.snd (Prod.snd y))))) (Enc.F eDm (Prod.fst (Prod.snd (Prod.snd (Prod.snd y))))), PUnit.unit))))))))))) (T.need (List.length (Prod.fst (Prod.snd (Prod.snd (Prod.snd y)))) ≤ List.length (Prod.fst (Prod.snd (Prod.snd (Prod.snd y))))) (T.ret (Sum.inr [Ar.agg [D.sl false (List.length (Prod.fst (Prod.snd y))) (1 : Nat) (Enc.F eI (Prod.fst (Prod.snd y))), D.sl false (List.length (Prod.fst (Prod.snd (Prod.snd y)))) (1 : Nat) (Enc.F eI (Prod.fst (Prod.snd (Prod.snd y)))), D.sl true (List.length (Prod.fst (Prod.snd (Prod.snd (Prod.snd y))))) (3 : Nat) (Enc.F eDm (Prod.fst (Prod.snd (Prod.snd (Prod.snd y)))))]])))))))))
theorem t126 (q_mo : Bool) (mo : List Int) (q_ga : Bool) (ga : List Int) (q_de : Bool) (de : List Dem) (i : Int) : runFnX Try.prog G0 (lookS [v150q]) (fun f => [(3, [.slot 21 (.int .i64), .blk 5 [.imE eI, .imE eI, .nsl]], some [.slot 21 (.int .i64), .blk 5 [.imE eI, .imE eI, .rowE 124 eDm]])]) [] 1 60 4 126 Try.f126 [.agg [.sl q_mo mo.length 1 (eI.F mo), .sl q_ga ga.length 1 (eI.F ga), .sl q_de de.length 3 (eDm.F de)], .c (dI i)] =
    tr126 q_mo mo q_ga ga q_de de i := by kernel_rfl
theorem w126 (qm : Bool) (mo : List Int) (qg : Bool) (ga : List Int) (qd : Bool) (de : List Dem) (j : Nat) (h1 : mo.length ≤ 1000000) (h2 : ga.length ≤ 1000000) (h3 : de.length ≤ 1000000) (hn : ∀ d, d ∈ de → d.co.length ≤ 1000000) :
    (tr126 qm mo qg ga qd de (j : Int)).wp (fun rs => rsEqv rs [.agg [.sl false mo.length 1 (eI.F mo), .sl false ga.length 1 (eI.F ga), .sl false (de.eraseIdx j).length 3 (eDm.F (de.eraseIdx j))]]) := by
  unfold tr126
  simp only [Enc.list_F]
  refine ⟨Enc.is_F _ _ _, h1, Enc.is_F _ _ _, h2, Enc.is_F _ _ _, Enc.is_F _ _ _, ?_⟩
  refine ⟨fun z => match z with
    | .inl x => ∃ k : Nat, k ≤ de.length ∧ x = ((k : Int), mo, ga, PUnit.unit, PUnit.unit) ∧ wo de j k = []
    | .inr y => ∃ k : Nat, k ≤ de.length ∧ y.1 = k ∧ y.2.1 = mo ∧ y.2.2.1 = ga ∧ y.2.2.2.1 = wo de j k,
    fun z => match z with | .inl x => de.length - x.1.toNat | .inr y => de.length - y.1.toNat, ⟨0, Nat.zero_le _, rfl, ?_⟩, ?_, ?_⟩
  · unfold wo; simp
  · rintro x ⟨k, hk, rfl, h0⟩
    have hw : IntKind.i64.wrap ((k : Int) + 1) = ((k + 1 : Nat) : Int) := wrap_succ (by omega)
    refine ⟨fun hb => ?_, fun hb => ?_⟩
    · have hlt := lt_of_dec hb
      have mu : de.length - (IntKind.i64.wrap ((k : Int) + 1)).toNat < de.length - (k : Int).toNat := by rw [hw]; omega
      refine ⟨by dsimp only; omega, by dsimp only; omega, fun hx => ?_, fun hx => ?_⟩
      · have hne : j ≠ k := by rintro rfl; simp at hx
        obtain ⟨o1, o2⟩ := push_one eDm (F := fun _ _ => .nilp) (G := dmH (de.getD k dfD)) dmH_push.1 dmH_push.2
        have o3 : [de.getD k dfD] = wo de j (k + 1) := by rw [wo_take hlt hne, h0]; rfl
        exact ⟨Enc.is_F _ _ _, hn _ (getD_mem hlt), by decide, Enc.is_F _ _ _, Enc.is_F _ _ _, o1, Nat.le_refl _, ⟨k + 1, hlt, hw, rfl, rfl, o2.trans o3⟩, mu⟩
      · have he : j = k := by
          have hx : ((k : Int) != (j : Int)) = false := hx
          have := bne_eq_false_iff_eq.1 hx
          omega
        exact ⟨Enc.is_F _ _ _, Enc.is_F _ _ _, ⟨k + 1, hlt, by rw [hw], (wo_skip hlt he).trans h0⟩, mu⟩
    · have hge := ge_of_dec hb
      obtain rfl : k = de.length := by omega
      rw [wo_end] at h0
      rw [h0]
      exact ⟨⟨D.eqv_refl _, D.eqv_refl _, nil_eqv eDm, trivial⟩, trivial⟩
  · rintro ⟨y, m, g, acc, u⟩ ⟨k, g2, g3, g4, g5, g6⟩
    simp only at g3 g4 g5 g6
    subst g3 g4 g5
    have hacc : acc.length ≤ k := by rw [g6]; exact wo_len _ _ _
    have hw : IntKind.i64.wrap ((k : Int) + 1) = ((k + 1 : Nat) : Int) := wrap_succ (by omega)
    have mu : k < de.length → de.length - (IntKind.i64.wrap ((k : Int) + 1)).toNat < de.length - (k : Int).toNat := by intro _; rw [hw]; omega
    refine ⟨fun hb => ?_, fun hb => ?_⟩
    · have hlt := lt_of_dec hb
      refine ⟨by dsimp only; omega, by dsimp only; omega, fun hx => ?_, fun hx => ?_⟩
      · have hne : j ≠ k := by rintro rfl; simp at hx
        obtain ⟨o1, o2⟩ := eDm.push (l := acc) (a := de.getD k dfD) (G := dmH (de.getD k dfD)) dmH_push.1 dmH_push.2
        have o3 : acc ++ [de.getD k dfD] = wo de j (k + 1) := by rw [g6, wo_take hlt hne]
        exact ⟨Enc.is_F _ _ _, hn _ (getD_mem hlt), by dsimp only; omega, Nat.le_refl _, Enc.is_F _ _ _, Enc.is_F _ _ _, o1, Nat.le_refl _, ⟨k + 1, hlt, hw, rfl, rfl, o2.trans o3⟩, mu hlt⟩
      · have he : j = k := by
          have hx : ((k : Int) != (j : Int)) = false := hx
          have := bne_eq_false_iff_eq.1 hx
          omega
        exact ⟨Enc.is_F _ _ _, Enc.is_F _ _ _, Enc.is_F _ _ _, Nat.le_refl _, ⟨k + 1, hlt, hw, rfl, rfl, g6.trans (wo_skip hlt he).symm⟩, mu hlt⟩
    · have hge := ge_of_dec hb
      obtain rfl : k = de.length := by omega
      rw [wo_end] at g6
      rw [g6]
      exact ⟨Nat.le_refl _, ⟨D.eqv_refl _, D.eqv_refl _, ⟨(fun e => by cases e), rfl, fun _ => rfl, fun i j hi hj => D.eqv_refl _⟩, trivial⟩, trivial⟩
def dom126 : DomF
  | [.agg [.sl _ n_mo st_mo F_mo, .sl _ n_ga st_ga F_ga, .sl _ n_de st_de F_de], .c (.int .i64 i)] => (match Nat.beq st_mo 1 && Nat.beq st_ga 1 && Nat.beq st_de 3 with
    | true => some ([eI.Is n_mo F_mo, eI.Is n_ga F_ga, eDm.Is n_de F_de, 0 ≤ i, (eI.list n_mo F_mo).length ≤ 1000000, (eI.list n_ga F_ga).length ≤ 1000000, (eDm.list n_de F_de).length ≤ 1000000, ∀ d, d ∈ (eDm.list n_de F_de) → d.co.length ≤ 1000000], [.agg [.sl false (eI.list n_mo F_mo).length 1 (eI.F (eI.list n_mo F_mo)), .sl false (eI.list n_ga F_ga).length 1 (eI.F (eI.list n_ga F_ga)), .sl false (M.erase (eDm.list n_de F_de) i).length 3 (eDm.F (M.erase (eDm.list n_de F_de) i))]])
    | _ => none)
  | _ => none
def v126 : Nat × Sm := (126, fokSm dom126)
theorem C126 : FOK Try.prog G0 gw 126 dom126 := by
  intro ags p r hd hp κ w xs hw hl hG hx
  unfold dom126 at hd
  split at hd
  · rename_i q_mo n_mo st_mo F_mo q_ga n_ga st_ga F_ga q_de n_de st_de F_de i
    split at hd
    · rename_i hst
      simp only [Bool.and_eq_true] at hst
      obtain ⟨⟨g1, g2⟩, g3⟩ := hst
      have g1 := Nat.eq_of_beq_eq_true g1
      have g2 := Nat.eq_of_beq_eq_true g2
      have g3 := Nat.eq_of_beq_eq_true g3
      subst g1 g2 g3
      simp only [Option.some.injEq, Prod.mk.injEq] at hd
      obtain ⟨rfl, rfl⟩ := hd
      obtain ⟨hI_mo, hI_ga, hI_de, hp⟩ := hp
      have heq : agsEqv [.agg [.sl q_mo n_mo 1 F_mo, .sl q_ga n_ga 1 F_ga, .sl q_de n_de 3 F_de], .c (.int .i64 i)] [.agg [.sl q_mo (eI.list n_mo F_mo).length 1 (eI.F (eI.list n_mo F_mo)), .sl q_ga (eI.list n_ga F_ga).length 1 (eI.F (eI.list n_ga F_ga)), .sl q_de (eDm.list n_de F_de).length 3 (eDm.F (eDm.list n_de F_de))], .c (.int .i64 i)] := ⟨⟨eI.to id hI_mo, eI.to id hI_ga, eDm.to id hI_de, trivial⟩, Ag.eqv_refl _, trivial⟩
      have len_mo : (eI.list n_mo F_mo).length = n_mo := eI.list_len
      have len_ga : (eI.list n_ga F_ga).length = n_ga := eI.list_len
      have len_de : (eDm.list n_de F_de).length = n_de := eDm.list_len
      generalize eI.list n_mo F_mo = mo at *
      generalize eI.list n_ga F_ga = ga at *
      generalize eDm.list n_de F_de = de at *
      subst len_mo len_ga len_de
      have h0 := hp.1
      obtain ⟨j, rfl⟩ := Int.eq_ofNat_of_zero_le h0
      exact fokX_fin mixed gw_stable (sl := [v150q]) ⟨S150q, trivial⟩ Try.func126 hw hl hG hx heq rfl (t126 _ _ _ _ _ _ _) (w126 _ _ _ _ _ _ j hp.2.1 hp.2.2.1 hp.2.2.2.1 hp.2.2.2.2.1)
    · cases hd
  · cases hd
theorem S126 : SumOK Try.prog G0 gw 126 (fokSm dom126) := fok_sum Try.func126 rfl C126
end Go.Pl
end

section
set_option linter.unusedVariables false
set_option linter.unusedSimpArgs false
set_option maxRecDepth 100000
namespace Go.Pl
open Go.V Go.Proofs
theorem _root_.Go.V.Enc.toz {α : Type} (E : Enc α) {q : Bool} {n s : Nat} {F : Nat → Nat → D} (h : (Nat.beq s E.st || Nat.beq n 0) = true) (hI : E.Is n F) : (D.sl q n s F).eqv (.sl q (E.list n F).length E.st (E.F (E.list n F))) := by
  rcases Bool.or_eq_true _ _ ▸ h with h | h
  · have h := Nat.eq_of_beq_eq_true h
    subst h
    exact E.to id hI
  · have h := Nat.eq_of_beq_eq_true h
    subst h
    exact ⟨id, rfl, fun h => absurd h (Nat.lt_irrefl 0), fun i j hi _ => absurd hi (Nat.not_lt_zero i)⟩
abbrev cD (l : List Dem) : List Dem := Enc.list eDm (List.length l) (Enc.F eDm l)
abbrev iD (l : List Dem) : Prop := Enc.Is eDm (List.length l) (Enc.F eDm l)
namespace M
def diffD (a b : Dem) : Bool := cond (!a.nm.toList == b.nm.toList) true (cond (a.am != b.am) true (!decide (a.co = b.co)))
def samePr (mo ga : List Int) (de : List Dem) (mo' ga' : List Int) (de' : List Dem) : Bool := cond (!decide (mo = mo')) false (cond (!decide (ga = ga')) false (cond ((de.length : Int) != (de'.length : Int)) false (decide (firstIdx (fun k => diffD (de.getD k dfD) (de'.getD k dfD)) de.length 0 < 0))))
end M
theorem diffD_self (a : Dem) : M.diffD a a = false := by unfold M.diffD; simp
theorem firstIdx_none {p : Nat → Bool} : ∀ (n k : Nat), (∀ i, k ≤ i → i < k + n → p i = false) → M.firstIdx p n k < 0 := by
  intro n
  induction n with
  | zero => intro k _; show (-1 : Int) < 0; decide
  | succ n ih =>
    intro k h
    simp only [M.firstIdx]
    rw [h k (Nat.le_refl _) (by omega)]
    exact ih (k + 1) (fun i h1 h2 => h i (by omega) (by omega))
theorem samePr_self (mo ga : List Int) (de : List Dem) : M.samePr mo ga de mo ga de = true := by
  unfold M.samePr
  rw [decide_eq_true (p := mo = mo) rfl, decide_eq_true (p := ga = ga) rfl, bne_self_eq_false]
  exact decide_eq_true (firstIdx_none _ _ (fun i _ _ => diffD_self _))
def tr46 (q_mo : Bool) (mo : List Int) (q_ga : Bool) (ga : List Int) (q_de : Bool) (de : List Dem) (q_mob : Bool) (mob : List Int) (q_gab : Bool) (gab : List Int) (q_deb : Bool) (deb : List Dem) : T (List Ar) :=
    T.need (Enc.Is eI (List.length mo) (Enc.F eI mo)) (T.need (Enc.Is eI (List.length mob) (Enc.F eI mob)) (T.need (List.length (Enc.list eI (List.length mo) (Enc.F eI mo)) ≤ (1000000 : Nat)) (T.br (!decide (Enc.list eI (List.length mo) (Enc.F eI mo) = Enc.list eI (List.length mob) (Enc.F eI mob))) (T.ret [Ar.c (D.bool false)]) (T.need (Enc.Is eI (List.length ga) (Enc.F eI ga)) (T.need (Enc.Is eI (List.length gab) (Enc.F eI gab)) (T.need (List.length (Enc.list eI (List.length ga) (Enc.F eI ga)) ≤ (1000000 : Nat)) (T.br (!decide (Enc.list eI (List.length ga) (Enc.F eI ga) = Enc.list eI (List.length gab) (Enc.F eI gab))) (T.ret [Ar.c (D.bool false)]) (T.br ((Nat.cast (R := Int) (List.length de)) != (Nat.cast (R := Int) (List.length deb))) (T.ret [Ar.c (D.bool false)]) (T.loop (Int × PUnit) ((0 : Int), PUnit.unit) fun (x : Int × PUnit) => T.br (decide (Prod.fst x < (Nat.cast (R := Int) (List.length de)))) (T.need ((0 : Int) ≤ Prod.fst x) (T.need (Prod.fst x < (Nat.cast (R := Int) (List.length de))) (T.need ((0 : Int) ≤ Prod.fst x) (T.need (Prod.fst x < (Nat.cast (R := Int) (List.length deb))) (T.br (!ByteArray.toList (Dem.nm (List.getD de (Int.toNat (Prod.fst x)) dfD)) == ByteArray.toList (Dem.nm (List.getD deb (Int.toNat (Prod.fst x)) dfD))) (T.ret (Sum.inr [Ar.c (D.bool false)])) (T.br (Dem.am (List.getD de (Int.toNat (Prod.fst x)) dfD) != Dem.am (List.getD deb (Int.toNat (Prod.fst x)) dfD)) (T.ret (Sum.inr [Ar.c (D.bool false)])) (T.need (Enc.Is eI (List.length (Dem.co (List.getD de (Int.toNat (Prod.fst x)) dfD))) (Enc.F eI (Dem.co (List.getD de (Int.toNat (Prod.fst x)) dfD)))) (T.need (Enc.Is eI (List.length (Dem.co (List.getD deb (Int.toNat (Prod.fst x)) dfD))) (Enc.F eI (Dem.co (List.getD deb (Int.toNat (Prod.fst x)) dfD)))) (T.need (List.length (Enc.list eI (List.length (Dem.co (List.getD de (Int.toNat (Prod.fst x)) dfD))) (Enc.F eI (Dem.co (List.getD de (Int.toNat (Prod.fst x)) dfD)))) ≤ (1000000 : Nat)) (T.br (!decide (Enc.list eI (List.length (Dem.co (List.getD de (Int.toNat (Prod.fst x)) dfD))) (Enc.F eI (Dem.co (List.getD de (Int.toNat (Prod.fst x)) dfD))) = Enc.list eI (List.length (Dem.co (List.getD deb (Int.toNat (Prod.fst x)) dfD))) (Enc.F eI (Dem.co (List.getD deb (Int.toNat (Prod.fst x)) dfD))))) (T.ret (Sum.inr [Ar.c (D.bool false)])) (T.ret (Sum.inl (IntKind.i64.wrap (Prod.fst x + (1 : Int)), PUnit.unit))))))))))))) (T.ret (Sum.inr [Ar.c (D.bool true)])))))))))))
theorem t46 (q_mo : Bool) (mo : List Int) (q_ga : Bool) (ga : List Int) (q_de : Bool) (de : List Dem) (q_mob : Bool) (mob : List Int) (q_gab : Bool) (gab : List Int) (q_deb : Bool) (deb : List Dem) : runFnX Try.prog G0 (lookS [v49]) (fun f => [(4, [.slot 5 (.int .i64)], none)]) [] 1 60 4 46 Try.f46 [.agg [.sl q_mo mo.length 1 (eI.F mo), .sl q_ga ga.length 1 (eI.F ga), .sl q_de de.length 3 (eDm.F de)], .agg [.sl q_mob mob.length 1 (eI.F mob), .sl q_gab gab.length 1 (eI.F gab), .sl q_deb deb.length 3 (eDm.F deb)]] =
    tr46 q_mo mo q_ga ga q_de de q_mob mob q_gab gab q_deb deb := by kernel_rfl
theorem w46 (qm : Bool) (mo : List Int) (qg : Bool) (ga : List Int) (qd : Bool) (de : List Dem) (qm' : Bool) (mo' : List Int) (qg' : Bool) (ga' : List Int) (qd' : Bool) (de' : List Dem) (h1 : mo.length ≤ 1000000) (h2 : ga.length ≤ 1000000) (h3 : de.length ≤ 1000000) (hn : ∀ d, d ∈ de → d.co.length ≤ 1000000) :
    (tr46 qm mo qg ga qd de qm' mo' qg' ga' qd' de').wp (fun rs => rsEqv rs [rB (M.samePr mo ga de mo' ga' de')]) := by
  unfold tr46 M.samePr
  simp only [Enc.list_F]
  refine ⟨Enc.is_F _ _ _, Enc.is_F _ _ _, h1, wp_br (fun hb => by rw [hb]; exact rsEqv_refl _) (fun hb => ?_)⟩
  rw [hb]
  refine ⟨Enc.is_F _ _ _, Enc.is_F _ _ _, h2, wp_br (fun hb => by rw [hb]; exact rsEqv_refl _) (fun hb => ?_)⟩
  rw [hb]
  refine wp_br (fun hb => by rw [hb]; exact rsEqv_refl _) (fun hb => ?_)
  rw [hb]
  have hlen : de.length = de'.length := by
    have : (de.length : Int) = de'.length := by simpa using hb
    omega
  refine range_wp (n := de.length) (fun k _ => M.firstIdx (fun k => M.diffD (de.getD k dfD) (de'.getD k dfD)) de.length 0 = M.firstIdx (fun k => M.diffD (de.getD k dfD) (de'.getD k dfD)) (de.length - k) k) rfl ?_
  rintro k u hk hI
  rw [hI]
  refine wp_br (fun hb => ?_) (fun hb => ?_)
  · have hlt := lt_of_dec hb
    have hs := idx_step (p := fun k => M.diffD (de.getD k dfD) (de'.getD k dfD)) hlt
    have hit : M.diffD (de.getD k dfD) (de'.getD k dfD) = true → rsEqv [rB false] [rB (decide (M.firstIdx (fun k => M.diffD (de.getD k dfD) (de'.getD k dfD)) (de.length - k) k < 0))] := by
      intro h
      rw [hs, h]
      show rsEqv _ [rB (decide ((k : Int) < 0))]
      rw [decide_eq_false (by omega)]; exact rsEqv_refl _
    refine ⟨by show (0 : Int) ≤ k; omega, by show (k : Int) < de.length; omega, by show (0 : Int) ≤ k; omega, by show (k : Int) < de'.length; omega, wp_br (fun hx => hit ?_) (fun hx => wp_br (fun hy => hit ?_) (fun hy => ⟨Enc.is_F _ _ _, Enc.is_F _ _ _, hn _ (getD_mem hlt), wp_br (fun hz => hit ?_) (fun hz => ?_)⟩))⟩
    · unfold M.diffD; rw [show (!(de.getD k dfD).nm.toList == (de'.getD k dfD).nm.toList) = true from hx]; rfl
    · unfold M.diffD; rw [show (!(de.getD k dfD).nm.toList == (de'.getD k dfD).nm.toList) = false from hx, show ((de.getD k dfD).am != (de'.getD k dfD).am) = true from hy]; rfl
    · unfold M.diffD; rw [show (!(de.getD k dfD).nm.toList == (de'.getD k dfD).nm.toList) = false from hx, show ((de.getD k dfD).am != (de'.getD k dfD).am) = false from hy]; exact hz
    · have hm : M.diffD (de.getD k dfD) (de'.getD k dfD) = false := by unfold M.diffD; rw [show (!(de.getD k dfD).nm.toList == (de'.getD k dfD).nm.toList) = false from hx, show ((de.getD k dfD).am != (de'.getD k dfD).am) = false from hy]; exact hz
      exact ⟨hlt, wrap_succ (by omega), by rw [hs, hm]; rfl⟩
  · have hge := ge_of_dec hb
    obtain rfl : k = de.length := by omega
    rw [Nat.sub_self]; exact rsEqv_refl _
def dom46 : DomF
  | [.agg [.sl _ n_mo st_mo F_mo, .sl _ n_ga st_ga F_ga, .sl _ n_de st_de F_de], .agg [.sl _ n_mob st_mob F_mob, .sl _ n_gab st_gab F_gab, .sl _ n_deb st_deb F_deb]] => (match (Nat.beq st_mo 1 || Nat.beq n_mo 0) && (Nat.beq st_ga 1 || Nat.beq n_ga 0) && (Nat.beq st_de 3 || Nat.beq n_de 0) && (Nat.beq st_mob 1 || Nat.beq n_mob 0) && (Nat.beq st_gab 1 || Nat.beq n_gab 0) && (Nat.beq st_deb 3 || Nat.beq n_deb 0) with
    | true => some ([eI.Is n_mo F_mo, eI.Is n_ga F_ga, eDm.Is n_de F_de, eI.Is n_mob F_mob, eI.Is n_gab F_gab, eDm.Is n_deb F_deb, (eI.list n_mo F_mo).length ≤ 1000000, (eI.list n_ga F_ga).length ≤ 1000000, (eDm.list n_de F_de).length ≤ 1000000, ∀ d, d ∈ (eDm.list n_de F_de) → d.co.length ≤ 1000000], [rB (M.samePr (eI.list n_mo F_mo) (eI.list n_ga F_ga) (eDm.list n_de F_de) (eI.list n_mob F_mob) (eI.list n_gab F_gab) (eDm.list n_deb F_deb))])
    | _ => none)
  | _ => none
def v46 : Nat × Sm := (46, fokSm dom46)
theorem C46 : FOK Try.prog G0 gw 46 dom46 := by
  intro ags p r hd hp κ w xs hw hl hG hx
  unfold dom46 at hd
  split at hd
  · rename_i q_mo n_mo st_mo F_mo q_ga n_ga st_ga F_ga q_de n_de st_de F_de q_mob n_mob st_mob F_mob q_gab n_gab st_gab F_gab q_deb n_deb st_deb F_deb
    split at hd
    · rename_i hst
      simp only [Bool.and_eq_true] at hst
      obtain ⟨⟨⟨⟨⟨g1, g2⟩, g3⟩, g4⟩, g5⟩, g6⟩ := hst
      simp only [Option.some.injEq, Prod.mk.injEq] at hd
      obtain ⟨rfl, rfl⟩ := hd
      obtain ⟨hI_mo, hI_ga, hI_de, hI_mob, hI_gab, hI_deb, hp⟩ := hp
      have heq : agsEqv [.agg [.sl q_mo n_mo st_mo F_mo, .sl q_ga n_ga st_ga F_ga, .sl q_de n_de st_de F_de], .agg [.sl q_mob n_mob st_mob F_mob, .sl q_gab n_gab st_gab F_gab, .sl q_deb n_deb st_deb F_deb]] [.agg [.sl q_mo (eI.list n_mo F_mo).length 1 (eI.F (eI.list n_mo F_mo)), .sl q_ga (eI.list n_ga F_ga).length 1 (eI.F (eI.list n_ga F_ga)), .sl q_de (eDm.list n_de F_de).length 3 (eDm.F (eDm.list n_de F_de))], .agg [.sl q_mob (eI.list n_mob F_mob).length 1 (eI.F (eI.list n_mob F_mob)), .sl q_gab (eI.list n_gab F_gab).length 1 (eI.F (eI.list n_gab F_gab)), .sl q_deb (eDm.list n_deb F_deb).length 3 (eDm.F (eDm.list n_deb F_deb))]] := ⟨⟨eI.toz g1 hI_mo, eI.toz g2 hI_ga, eDm.toz g3 hI_de, trivial⟩, ⟨eI.toz g4 hI_mob, eI.toz g5 hI_gab, eDm.toz g6 hI_deb, trivial⟩, trivial⟩
      have len_mo : (eI.list n_mo F_mo).length = n_mo := eI.list_len
      have len_ga : (eI.list n_ga F_ga).length = n_ga := eI.list_len
      have len_de : (eDm.list n_de F_de).length = n_de := eDm.list_len
      have len_mob : (eI.list n_mob F_mob).length = n_mob := eI.list_len
      have len_gab : (eI.list n_gab F_gab).length = n_gab := eI.list_len
      have len_deb : (eDm.list n_deb F_deb).length = n_deb := eDm.list_len
      generalize eI.list n_mo F_mo = mo at *
      generalize eI.list n_ga F_ga = ga at *
      generalize eDm.list n_de F_de = de at *
      generalize eI.list n_mob F_mob = mob at *
      generalize eI.list n_gab F_gab = gab at *
      generalize eDm.list n_deb F_deb = deb at *
      subst len_mo len_ga len_de len_mob len_gab len_deb
      exact fokX_fin mixed gw_stable (sl := [v49]) ⟨S49, trivial⟩ Try.func46 hw hl hG hx heq rfl (t46 _ _ _ _ _ _ _ _ _ _ _ _) (w46 _ _ _ _ _ _ _ _ _ _ _ _ hp.1 hp.2.1 hp.2.2.1 hp.2.2.2.1)
    · cases hd
  · cases hd
theorem S46 : SumOK Try.prog G0 gw 46 (fokSm dom46) := fok_sum Try.func46 rfl C46
end Go.Pl
end

section
set_option linter.unusedVariables false
set_option linter.unusedSimpArgs false
set_option maxRecDepth 100000
namespace Go.Pl
open Go.V Go.Proofs
theorem er_getD (de : List Dem) (j a : Nat) : (de.eraseIdx j).getD a dfD = if a < j then de.getD a dfD else de.getD (a + 1) dfD := by
  simp only [List.getD_eq_getElem?_getD, List.getElem?_eraseIdx]
  split <;> rfl
theorem er_len {de : List Dem} {j : Nat} (h : j < de.length) : (de.eraseIdx j).length = de.length - 1 := by rw [List.length_eraseIdx, if_pos h]
theorem er_eqv {de : List Dem} {j n : Nat} (hj : j < de.length) (hn : n = de.length - 1) (q : Bool) {m : Nat} (hm : m = j + 1) : (D.sl q n 3 (joinF j (Enc.F eDm de) fun (a b : Nat) => Enc.F eDm de (m + a) b)).eqv (.sl false (de.eraseIdx j).length 3 (eDm.F (de.eraseIdx j))) := by
  refine ⟨(fun e => by cases e), by rw [er_len hj, hn], fun _ => rfl, fun a b ha hb => ?_⟩
  have e : eDm.F (de.eraseIdx j) a b = eDm.enc ((de.eraseIdx j).getD a dfD) b := rfl
  rw [e, er_getD]
  unfold joinF
  by_cases h : a < j
  · rw [if_pos h, show Nat.blt a j = true by simp [Nat.blt_eq]; exact h]
    exact D.eqv_refl _
  · rw [if_neg h, show Nat.blt a j = false by simp only [Bool.eq_false_iff, ne_eq, Nat.blt_eq]; exact h]
    show (Enc.F eDm de (m + (a - j)) b).eqv _
    rw [show m + (a - j) = a + 1 by omega]
    exact D.eqv_refl _
def tr47 (q_mo : Bool) (mo : List Int) (q_ga : Bool) (ga : List Int) (q_de : Bool) (de : List Dem) (i : Int) : T (List Ar) :=
    T.need (Enc.Is eI (List.length mo) (Enc.F eI mo)) (T.need (Enc.Is eI (List.length ga) (Enc.F eI ga)) (T.need (Enc.Is eDm (List.length de) (Enc.F eDm de)) (T.need (List.length (Enc.list eI (List.length mo) (Enc.F eI mo)) ≤ (1000000 : Nat)) (T.need (List.length (Enc.list eI (List.length ga) (Enc.F eI ga)) ≤ (1000000 : Nat)) (T.need (List.length (Enc.list eDm (List.length de) (Enc.F eDm de)) ≤ (1000000 : Nat)) (T.need (∀ (d : Dem), d ∈ Enc.list eDm (List.length de) (Enc.F eDm de) → List.length (Dem.co d) ≤ (1000000 : Nat)) (T.need ((0 : Int) ≤ i) (T.need (i = i) (T.need (i ≤ (Nat.cast (R := Int) (List.length (Enc.list eDm (List.length de) (Enc.F eDm de))))) (T.need ((0 : Int) ≤ IntKind.i64.wrap (i + (1 : Int))) (T.need (IntKind.i64.wrap (i + (1 : Int)) ≤ (Nat.cast (R := Int) (List.length (Enc.list eDm (List.length de) (Enc.F eDm de))))) (T.need ((Nat.cast (R := Int) (List.length (Enc.list eDm (List.length de) (Enc.F eDm de)))) ≤ (Nat.cast (R := Int) (List.length (Enc.list eDm (List.length de) (Enc.F eDm de))))) (T.need (Int.toNat i + Int.toNat ((Nat.cast (R := Int) (List.length (Enc.list eDm (List.length de) (Enc.F eDm de)))) - IntKind.i64.wrap (i + (1 : Int))) ≤ (1000000 : Nat)) (T.ret [Ar.agg [D.sl false (List.length (Enc.list eI (List.length mo) (Enc.F eI mo))) (1 : Nat) (Enc.F eI (Enc.list eI (List.length mo) (Enc.F eI mo))), D.sl false (List.length (Enc.list eI (List.length ga) (Enc.F eI ga))) (1 : Nat) (Enc.F eI (Enc.list eI (List.length ga) (Enc.F eI ga))), D.sl false (Int.toNat i + Int.toNat ((Nat.cast (R := Int) (List.length (Enc.list eDm (List.length de) (Enc.F eDm de)))) - IntKind.i64.wrap (i + (1 : Int)))) (3 : Nat) (joinF (Int.toNat i) (Enc.F eDm (Enc.list eDm (List.length de) (Enc.F eDm de))) fun (i_1 j : Nat) => Enc.F eDm (Enc.list eDm (List.length de) (Enc.F eDm de)) (Int.toNat (IntKind.i64.wrap (i + (1 : Int))) + i_1) j)]]))))))))))))))
theorem t47 (q_mo : Bool) (mo : List Int) (q_ga : Bool) (ga : List Int) (q_de : Bool) (de : List Dem) (i : Int) : runFnX Try.prog G0 (lookS [v18]) (fun f => []) [] 1 60 4 47 Try.f47 [.agg [.sl q_mo mo.length 1 (eI.F mo), .sl q_ga ga.length 1 (eI.F ga), .sl q_de de.length 3 (eDm.F de)], .c (dI i)] =
    tr47 q_mo mo q_ga ga q_de de i := by kernel_rfl
theorem w47 (qm : Bool) (mo : List Int) (qg : Bool) (ga : List Int) (qd : Bool) (de : List Dem) (j : Nat) (hj : j < de.length) (h1 : mo.length ≤ 1000000) (h2 : ga.length ≤ 1000000) (h3 : de.length ≤ 1000000) (hn : ∀ d, d ∈ de → d.co.length ≤ 1000000) :
    (tr47 qm mo qg ga qd de (j : Int)).wp (fun rs => rsEqv rs [.agg [.sl false mo.length 1 (eI.F mo), .sl false ga.length 1 (eI.F ga), .sl false (de.eraseIdx j).length 3 (eDm.F (de.eraseIdx j))]]) := by
  unfold tr47
  have hw : IntKind.i64.wrap ((j : Int) + 1) = ((j + 1 : Nat) : Int) := wrap_succ (by omega)
  simp only [Enc.list_F, hw]
  exact ⟨Enc.is_F _ _ _, Enc.is_F _ _ _, Enc.is_F _ _ _, h1, h2, h3, hn, by omega, trivial, by omega, by omega, by omega, by omega, by omega, ⟨D.eqv_refl _, D.eqv_refl _, er_eqv hj (by omega) _ (by omega), trivial⟩, trivial⟩
def dom47 : DomF
  | [.agg [.sl _ n_mo st_mo F_mo, .sl _ n_ga st_ga F_ga, .sl _ n_de st_de F_de], .c (.int .i64 i)] => (match Nat.beq st_mo 1 && Nat.beq st_ga 1 && Nat.beq st_de 3 with
    | true => some ([eI.Is n_mo F_mo, eI.Is n_ga F_ga, eDm.Is n_de F_de, 0 ≤ i, i < (eDm.list n_de F_de).length, (eI.list n_mo F_mo).length ≤ 1000000, (eI.list n_ga F_ga).length ≤ 1000000, (eDm.list n_de F_de).length ≤ 1000000, ∀ d, d ∈ (eDm.list n_de F_de) → d.co.length ≤ 1000000], [.agg [.sl false (eI.list n_mo F_mo).length 1 (eI.F (eI.list n_mo F_mo)), .sl false (eI.list n_ga F_ga).length 1 (eI.F (eI.list n_ga F_ga)), .sl false (M.erase (eDm.list n_de F_de) i).length 3 (eDm.F (M.erase (eDm.list n_de F_de) i))]])
    | _ => none)
  | _ => none
def v47 : Nat × Sm := (47, fokSm dom47)
theorem C47 : FOK Try.prog G0 gw 47 dom47 := by
  intro ags p r hd hp κ w xs hw hl hG hx
  unfold dom47 at hd
  split at hd
  · rename_i q_mo n_mo st_mo F_mo q_ga n_ga st_ga F_ga q_de n_de st_de F_de i
    split at hd
    · rename_i hst
      simp only [Bool.and_eq_true] at hst
      obtain ⟨⟨g1, g2⟩, g3⟩ := hst
      have g1 := Nat.eq_of_beq_eq_true g1
      have g2 := Nat.eq_of_beq_eq_true g2
      have g3 := Nat.eq_of_beq_eq_true g3
      subst g1 g2 g3
      simp only [Option.some.injEq, Prod.mk.injEq] at hd
      obtain ⟨rfl, rfl⟩ := hd
      obtain ⟨hI_mo, hI_ga, hI_de, hp⟩ := hp
      have heq : agsEqv [.agg [.sl q_mo n_mo 1 F_mo, .sl q_ga n_ga 1 F_ga, .sl q_de n_de 3 F_de], .c (.int .i64 i)] [.agg [.sl q_mo (eI.list n_mo F_mo).length 1 (eI.F (eI.list n_mo F_mo)), .sl q_ga (eI.list n_ga F_ga).length 1 (eI.F (eI.list n_ga F_ga)), .sl q_de (eDm.list n_de F_de).length 3 (eDm.F (eDm.list n_de F_de))], .c (.int .i64 i)] := ⟨⟨eI.to id hI_mo, eI.to id hI_ga, eDm.to id hI_de, trivial⟩, Ag.eqv_refl _, trivial⟩
      have len_mo : (eI.list n_mo F_mo).length = n_mo := eI.list_len
      have len_ga : (eI.list n_ga F_ga).length = n_ga := eI.list_len
      have len_de : (eDm.list n_de F_de).length = n_de := eDm.list_len
      generalize eI.list n_mo F_mo = mo at *
      generalize eI.list n_ga F_ga = ga at *
      generalize eDm.list n_de F_de = de at *
      subst len_mo len_ga len_de
      have h0 := hp.1
      obtain ⟨j, rfl⟩ := Int.eq_ofNat_of_zero_le h0
      exact fokX_fin mixed gw_stable (sl := [v18]) ⟨S18, trivial⟩ Try.func47 hw hl hG hx heq rfl (t47 _ _ _ _ _ _ _) (w47 _ _ _ _ _ _ j (by have := hp.2.1; omega) hp.2.2.1 hp.2.2.2.1 hp.2.2.2.2.1 hp.2.2.2.2.2.1)
    · cases hd
  · cases hd
theorem S47 : SumOK Try.prog G0 gw 47 (fokSm dom47) := fok_sum Try.func47 rfl C47
namespace M
def woErr (mo ga : List Int) (de : List Dem) (i : Int) : Int := first [(checkProg mo ga de).2, unl (within i 0 (IntKind.i64.wrap ((de.length : Int) - 1))) 6]
def woRes (mo ga : List Int) (de : List Dem) (i : Int) : List Int × List Int × List Dem × Int := cond (woErr mo ga de i != 0) ([], [], [], woErr mo ga de i) (mo, ga, erase de i, 0)
end M
def resWo (x : List Int × List Int × List Dem × Int) : List Ar := [.agg [.sl false x.1.length 1 (eI.F x.1), .sl false x.2.1.length 1 (eI.F x.2.1), .sl false x.2.2.1.length 3 (eDm.F x.2.2.1)], rI x.2.2.2]
def tr43 (q_mo : Bool) (mo : List Int) (q_ga : Bool) (ga : List Int) (q_de : Bool) (de : List Dem) (i : Int) : T (List Ar) :=
    T.need (Enc.Is eI (List.length mo) (Enc.F eI mo)) (T.need (Enc.Is eI (List.length ga) (Enc.F eI ga)) (T.need (Enc.Is eDm (List.length de) (Enc.F eDm de)) (T.need (List.length mo ≤ (1000000 : Nat)) (T.need (List.length ga ≤ (1000000 : Nat)) (T.need (List.length de ≤ (1000000 : Nat)) (T.need (∀ (d : Dem), d ∈ Enc.list eDm (List.length de) (Enc.F eDm de) → ByteArray.size (Dem.nm d) ≤ (1000000 : Nat) ∧ List.length (Dem.co d) ≤ (1000000 : Nat)) (T.br (M.first [Prod.snd (M.checkProg (Enc.list eI (List.length mo) (Enc.F eI mo)) (Enc.list eI (List.length ga) (Enc.F eI ga)) (Enc.list eDm (List.length de) (Enc.F eDm de))), M.unl (M.within i (0 : Int) (IntKind.i64.wrap ((Nat.cast (R := Int) (List.length de)) - (1 : Int)))) (6 : Int)] != (0 : Int)) (T.ret [Ar.agg [D.sl false (0 : Nat) (0 : Nat) fun (x x_1 : Nat) => D.nilp, D.sl false (0 : Nat) (0 : Nat) fun (x x_1 : Nat) => D.nilp, D.sl false (0 : Nat) (0 : Nat) fun (x x_1 : Nat) => D.nilp], Ar.c (D.int IntKind.i64 (M.first [Prod.snd (M.checkProg (Enc.list eI (List.length mo) (Enc.F eI mo)) (Enc.list eI (List.length ga) (Enc.F eI ga)) (Enc.list eDm (List.length de) (Enc.F eDm de))), M.unl (M.within i (0 : Int) (IntKind.i64.wrap ((Nat.cast (R := Int) (List.length de)) - (1 : Int)))) (6 : Int)]))]) (T.need (Enc.Is eI (List.length mo) (Enc.F eI (Enc.list eI (List.length mo) (Enc.F eI mo)))) (T.need (Enc.Is eI (List.length ga) (Enc.F eI (Enc.list eI (List.length ga) (Enc.F eI ga)))) (T.need (Enc.Is eDm (List.length de) (Enc.F eDm (Enc.list eDm (List.length de) (Enc.F eDm de)))) (T.need ((0 : Int) ≤ i) (T.need (List.length (Enc.list eI (List.length mo) (Enc.F eI (Enc.list eI (List.length mo) (Enc.F eI mo)))) ≤ (1000000 : Nat)) (T.need (List.length (Enc.list eI (List.length ga) (Enc.F eI (Enc.list eI (List.length ga) (Enc.F eI ga)))) ≤ (1000000 : Nat)) (T.need (List.length (Enc.list eDm (List.length de) (Enc.F eDm (Enc.list eDm (List.length de) (Enc.F eDm de)))) ≤ (1000000 : Nat)) (T.need (∀ (d : Dem), d ∈ Enc.list eDm (List.length de) (Enc.F eDm (Enc.list eDm (List.length de) (Enc.F eDm de))) → List.length (Dem.co d) ≤ (1000000 : Nat)) (T.ret [Ar.agg [D.sl false (List.length (Enc.list eI (List.length mo) (Enc.F eI (Enc.list eI (List.length mo) (Enc.F eI mo))))) (1 : Nat) (Enc.F eI (Enc.list eI (List.length mo) (Enc.F eI (Enc.list eI (List.length mo) (Enc.F eI mo))))), D.sl false (List.length (Enc.list eI (List.length ga) (Enc.F eI (Enc.list eI (List.length ga) (Enc.F eI ga))))) (1 : Nat) (Enc.F eI (Enc.list eI (List.length ga) (Enc.F eI (Enc.list eI (List.length ga) (Enc.F eI ga))))), D.sl false (List.length (M.erase (Enc.list eDm (List.length de) (Enc.F eDm (Enc.list eDm (List.length de) (Enc.F eDm de)))) i)) (3 : Nat) (Enc.F eDm (M.erase (Enc.list eDm (List.length de) (Enc.F eDm (Enc.list eDm (List.length de) (Enc.F eDm de)))) i))], Ar.c (D.int IntKind.i64 (0 : Int))]))))))))))))))))
theorem t43 (q_mo : Bool) (mo : List Int) (q_ga : Bool) (ga : List Int) (q_de : Bool) (de : List Dem) (i : Int) : runFnX Try.prog G0 (lookS [v83, v103, v104, v105, v126]) (fun f => []) [] 1 60 4 43 Try.f43 [.agg [.sl q_mo mo.length 1 (eI.F mo), .sl q_ga ga.length 1 (eI.F ga), .sl q_de de.length 3 (eDm.F de)], .c (dI i)] =
    tr43 q_mo mo q_ga ga q_de de i := by kernel_rfl
theorem w43 (qm : Bool) (mo : List Int) (qg : Bool) (ga : List Int) (qd : Bool) (de : List Dem) (i : Int) (h1 : mo.length ≤ 1000000) (h2 : ga.length ≤ 1000000) (h3 : de.length ≤ 1000000) (hn : ∀ d, d ∈ de → d.nm.size ≤ 1000000 ∧ d.co.length ≤ 1000000) :
    (tr43 qm mo qg ga qd de i).wp (fun rs => rsEqv rs (resWo (M.woRes mo ga de i))) := by
  unfold tr43
  simp only [Enc.list_F]
  have e0 : M.woErr mo ga de i = M.first [(M.checkProg mo ga de).2, M.unl (M.within i 0 (IntKind.i64.wrap ((de.length : Int) - 1))) 6] := rfl
  rw [← e0]
  refine ⟨Enc.is_F _ _ _, Enc.is_F _ _ _, Enc.is_F _ _ _, h1, h2, h3, hn, wp_br (fun hb => ?_) (fun hb => ?_)⟩
  · have e : M.woRes mo ga de i = ([], [], [], M.woErr mo ga de i) := by unfold M.woRes; rw [hb]; rfl
    rw [e]
    exact ⟨⟨nil_eqv eI, nil_eqv eI, nil_eqv eDm, trivial⟩, rfl, trivial⟩
  · have e : M.woRes mo ga de i = (mo, ga, M.erase de i, 0) := by unfold M.woRes; rw [hb]; rfl
    rw [e]
    have hz : M.first [(M.checkProg mo ga de).2, M.unl (M.within i 0 (IntKind.i64.wrap ((de.length : Int) - 1))) 6] = 0 := by rw [← e0]; simpa using hb
    have hi : 0 ≤ i := by
      rw [first_of] at hz
      split at hz
      · rw [first_of] at hz
        split at hz
        · rename_i h _
          rename_i h'
          cases hw : M.within i 0 (IntKind.i64.wrap ((de.length : Int) - 1)) with
          | true => unfold M.within at hw; simp only [Bool.and_eq_true, decide_eq_true_eq] at hw; exact hw.1
          | false => rw [hw] at h'; cases h'
        · rename_i h'; exact absurd hz h'
      · rename_i h'; exact absurd hz h'
    exact ⟨Enc.is_F _ _ _, Enc.is_F _ _ _, Enc.is_F _ _ _, hi, h1, h2, h3, fun d hd => (hn d hd).2, rsEqv_refl _⟩
def dom43 : DomF
  | [.agg [.sl _ n_mo st_mo F_mo, .sl _ n_ga st_ga F_ga, .sl _ n_de st_de F_de], .c (.int .i64 i)] => (match Nat.beq st_mo 1 && Nat.beq st_ga 1 && Nat.beq st_de 3 with
    | true => some ([eI.Is n_mo F_mo, eI.Is n_ga F_ga, eDm.Is n_de F_de, (eI.list n_mo F_mo).length ≤ 1000000, (eI.list n_ga F_ga).length ≤ 1000000, (eDm.list n_de F_de).length ≤ 1000000, ∀ d, d ∈ (eDm.list n_de F_de) → d.nm.size ≤ 1000000 ∧ d.co.length ≤ 1000000], resWo (M.woRes (eI.list n_mo F_mo) (eI.list n_ga F_ga) (eDm.list n_de F_de) i))
    | _ => none)
  | _ => none
def v43 : Nat × Sm := (43, fokSm dom43)
theorem C43 : FOK Try.prog G0 gw 43 dom43 := by
  intro ags p r hd hp κ w xs hw hl hG hx
  unfold dom43 at hd
  split at hd
  · rename_i q_mo n_mo st_mo F_mo q_ga n_ga st_ga F_ga q_de n_de st_de F_de i
    split at hd
    · rename_i hst
      simp only [Bool.and_eq_true] at hst
      obtain ⟨⟨g1, g2⟩, g3⟩ := hst
      have g1 := Nat.eq_of_beq_eq_true g1
      have g2 := Nat.eq_of_beq_eq_true g2
      have g3 := Nat.eq_of_beq_eq_true g3
      subst g1 g2 g3
      simp only [Option.some.injEq, Prod.mk.injEq] at hd
      obtain ⟨rfl, rfl⟩ := hd
      obtain ⟨hI_mo, hI_ga, hI_de, hp⟩ := hp
      have heq : agsEqv [.agg [.sl q_mo n_mo 1 F_mo, .sl q_ga n_ga 1 F_ga, .sl q_de n_de 3 F_de], .c (.int .i64 i)] [.agg [.sl q_mo (eI.list n_mo F_mo).length 1 (eI.F (eI.list n_mo F_mo)), .sl q_ga (eI.list n_ga F_ga).length 1 (eI.F (eI.list n_ga F_ga)), .sl q_de (eDm.list n_de F_de).length 3 (eDm.F (eDm.list n_de F_de))], .c (.int .i64 i)] := ⟨⟨eI.to id hI_mo, eI.to id hI_ga, eDm.to id hI_de, trivial⟩, Ag.eqv_refl _, trivial⟩
      have len_mo : (eI.list n_mo F_mo).length = n_mo := eI.list_len
      have len_ga : (eI.list n_ga F_ga).length = n_ga := eI.list_len
      have len_de : (eDm.list n_de F_de).length = n_de := eDm.list_len
      generalize eI.list n_mo F_mo = mo at *
      generalize eI.list n_ga F_ga = ga at *
      generalize eDm.list n_de F_de = de at *
      subst len_mo len_ga len_de
      exact fokX_fin mixed gw_stable (sl := [v83, v103, v104, v105, v126]) ⟨S83, S103, S104, S105, S126, trivial⟩ Try.func43 hw hl hG hx heq rfl (t43 _ _ _ _ _ _ _) (w43 _ _ _ _ _ _ _ hp.1 hp.2.1 hp.2.2.1 hp.2.2.2.1)
    · cases hd
  · cases hd
theorem S43 : SumOK Try.prog G0 gw 43 (fokSm dom43) := fok_sum Try.func43 rfl C43
end Go.Pl
end

section
set_option linter.unusedVariables false
set_option linter.unusedSimpArgs false
set_option maxRecDepth 100000
namespace Go.Pl
open Go.V Go.Proofs
abbrev xW (mo ga : List Int) (de : List Dem) (i : Int) := M.woRes (cI (cI mo)) (cI (cI ga)) (cD (cD de)) i
theorem law6 (mo ga : List Int) (de : List Dem) (i : Int) :
    (∃ e, e ≠ 0 ∧ (M.checkProg mo ga de).2 = e ∧ M.woRes mo ga de i = ([], [], [], e)) ∨
    ((M.checkProg mo ga de).2 = 0 ∧ ((M.within i 0 (IntKind.i64.wrap ((de.length : Int) - 1)) = false ∧ M.woRes mo ga de i = ([], [], [], 6)) ∨
      (M.within i 0 (IntKind.i64.wrap ((de.length : Int) - 1)) = true ∧ M.woRes mo ga de i = (mo, ga, M.erase de i, 0)))) := by
  by_cases he : (M.checkProg mo ga de).2 = 0
  · refine .inr ⟨he, ?_⟩
    cases hw : M.within i 0 (IntKind.i64.wrap ((de.length : Int) - 1)) with
    | false =>
      refine .inl ⟨rfl, ?_⟩
      have : M.woErr mo ga de i = 6 := by unfold M.woErr; rw [he, hw]; rfl
      unfold M.woRes; rw [this]; rfl
    | true =>
      refine .inr ⟨rfl, ?_⟩
      have : M.woErr mo ga de i = 0 := by unfold M.woErr; rw [he, hw]; rfl
      unfold M.woRes; rw [this]; rfl
  · refine .inl ⟨_, he, rfl, ?_⟩
    have : M.woErr mo ga de i = (M.checkProg mo ga de).2 := by unfold M.woErr; rw [first_of, if_neg he]
    unfold M.woRes; rw [this, bne_iff_ne.2 he]; rfl
def tr6 (q_mo : Bool) (mo : List Int) (q_ga : Bool) (ga : List Int) (q_de : Bool) (de : List Dem) (i : Int) : T (List Ar) :=
    T.br (!true) cN (T.need (iI mo) (T.need (iI ga) (T.need (iD de) (T.br (!M.few (cI mo) (cI ga) (cD de)) (T.ret [Ar.c (D.bool true)]) (T.need (iI mo) (T.need (iI ga) (T.need (iD de) (T.need (List.length (cI mo) ≤ (1000000 : Nat)) (T.need (List.length (cI ga) ≤ (1000000 : Nat)) (T.need (List.length (cD de) ≤ (1000000 : Nat)) (T.need (∀ (d : Dem), d ∈ cD de → List.length (Dem.co d) ≤ (1000000 : Nat)) (T.need (iI (cI mo)) (T.need (iI (cI ga)) (T.need (iD (cD de)) (T.need (List.length (cI (cI mo)) ≤ (1000000 : Nat)) (T.need (List.length (cI (cI ga)) ≤ (1000000 : Nat)) (T.need (List.length (cD (cD de)) ≤ (1000000 : Nat)) (T.need (∀ (d : Dem), d ∈ cD (cD de) → ByteArray.size (Dem.nm d) ≤ (1000000 : Nat) ∧ List.length (Dem.co d) ≤ (1000000 : Nat)) (T.need (iI mo) (T.need (iI ga) (T.need (iD de) (T.need (List.length (cI mo) ≤ (1000000 : Nat)) (T.need (List.length (cI ga) ≤ (1000000 : Nat)) (T.need (List.length (cD de) ≤ (1000000 : Nat)) (T.need (∀ (d : Dem), d ∈ cD de → List.length (Dem.co d) ≤ (1000000 : Nat)) (T.need (iI (cI mo)) (T.need (iI (cI ga)) (T.need (iD (cD de)) (T.need (List.length (cI (cI mo)) ≤ (1000000 : Nat)) (T.need (List.length (cI (cI ga)) ≤ (1000000 : Nat)) (T.need (List.length (cD (cD de)) ≤ (1000000 : Nat)) (T.need (∀ (d : Dem), d ∈ cD (cD de) → ByteArray.size (Dem.nm d) ≤ (1000000 : Nat) ∧ List.length (Dem.co d) ≤ (1000000 : Nat)) (T.need (iI mo) (T.need (iI ga) (T.need (iD de) (T.need (List.length (cI mo) ≤ (1000000 : Nat)) (T.need (List.length (cD de) ≤ (1000000 : Nat)) (T.need (∀ (d : Dem), d ∈ cD de → ByteArray.size (Dem.nm d) ≤ (1000000 : Nat) ∧ List.length (Dem.co d) ≤ (1000000 : Nat)) (T.br (Prod.snd (M.checkProg (cI (cI mo)) (cI (cI ga)) (cD (cD de))) != Prod.snd (M.checkProg (cI mo) (cI ga) (cD de))) cN (T.br (Prod.fst (M.checkProg (cI (cI mo)) (cI (cI ga)) (cD (cD de))) != Prod.fst (M.checkProg (cI mo) (cI ga) (cD de))) cN (T.br (Prod.snd (M.checkProg (cI mo) (cI ga) (cD de)) == (0 : Int)) (T.br (!M.within i (0 : Int) (IntKind.i64.wrap ((Nat.cast (R := Int) (List.length de)) - (1 : Int)))) (T.br (Prod.snd (Prod.snd (Prod.snd (xW mo ga de i))) == (6 : Int)) (T.need (iI (Prod.fst (xW mo ga de i))) (T.need (iI (Prod.fst (Prod.snd (xW mo ga de i)))) (T.need (iD (Prod.fst (Prod.snd (Prod.snd (xW mo ga de i))))) (T.need (Enc.Is eI (0 : Nat) fun (x x_1 : Nat) => D.nilp) (T.need (Enc.Is eI (0 : Nat) fun (x x_1 : Nat) => D.nilp) (T.need (Enc.Is eDm (0 : Nat) fun (x x_1 : Nat) => D.nilp) (T.need (List.length (cI (Prod.fst (xW mo ga de i))) ≤ (1000000 : Nat)) (T.need (List.length (cI (Prod.fst (Prod.snd (xW mo ga de i)))) ≤ (1000000 : Nat)) (T.need (List.length (cD (Prod.fst (Prod.snd (Prod.snd (xW mo ga de i))))) ≤ (1000000 : Nat)) (T.need (∀ (d : Dem), d ∈ cD (Prod.fst (Prod.snd (Prod.snd (xW mo ga de i)))) → List.length (Dem.co d) ≤ (1000000 : Nat)) (T.ret [Ar.c (D.bool (M.samePr (cI (Prod.fst (xW mo ga de i))) (cI (Prod.fst (Prod.snd (xW mo ga de i)))) (cD (Prod.fst (Prod.snd (Prod.snd (xW mo ga de i))))) (Enc.list eI (0 : Nat) fun (x x_1 : Nat) => D.nilp) (Enc.list eI (0 : Nat) fun (x x_1 : Nat) => D.nilp) (Enc.list eDm (0 : Nat) fun (x x_1 : Nat) => D.nilp)))]))))))))))) cN) (T.br (Prod.snd (M.checkProg (cI mo) (cI ga) (cD de)) != (0 : Int)) (T.br (Prod.snd (Prod.snd (Prod.snd (xW mo ga de i))) == Prod.snd (M.checkProg (cI mo) (cI ga) (cD de))) (T.need (iI (Prod.fst (xW mo ga de i))) (T.need (iI (Prod.fst (Prod.snd (xW mo ga de i)))) (T.need (iD (Prod.fst (Prod.snd (Prod.snd (xW mo ga de i))))) (T.need (Enc.Is eI (0 : Nat) fun (x x_1 : Nat) => D.nilp) (T.need (Enc.Is eI (0 : Nat) fun (x x_1 : Nat) => D.nilp) (T.need (Enc.Is eDm (0 : Nat) fun (x x_1 : Nat) => D.nilp) (T.need (List.length (cI (Prod.fst (xW mo ga de i))) ≤ (1000000 : Nat)) (T.need (List.length (cI (Prod.fst (Prod.snd (xW mo ga de i)))) ≤ (1000000 : Nat)) (T.need (List.length (cD (Prod.fst (Prod.snd (Prod.snd (xW mo ga de i))))) ≤ (1000000 : Nat)) (T.need (∀ (d : Dem), d ∈ cD (Prod.fst (Prod.snd (Prod.snd (xW mo ga de i)))) → List.length (Dem.co d) ≤ (1000000 : Nat)) (T.ret [Ar.c (D.bool (M.samePr (cI (Prod.fst (xW mo ga de i))) (cI (Prod.fst (Prod.snd (xW mo ga de i)))) (cD (Prod.fst (Prod.snd (Prod.snd (xW mo ga de i))))) (Enc.list eI (0 : Nat) fun (x x_1 : Nat) => D.nilp) (Enc.list eI (0 : Nat) fun (x x_1 : Nat) => D.nilp) (Enc.list eDm (0 : Nat) fun (x x_1 : Nat) => D.nilp)))]))))))))))) cN) (T.br (Prod.snd (Prod.snd (Prod.snd (xW mo ga de i))) == (0 : Int)) (T.need ((Prod.snd (Prod.snd (Prod.snd (xW mo ga de i))) == (0 : Int)) = true) (T.need (iI mo) (T.need (iI ga) (T.need (iD de) (T.need ((0 : Int) ≤ i) (T.need (i < (Nat.cast (R := Int) (List.length (cD de)))) (T.need (List.length (cI mo) ≤ (1000000 : Nat)) (T.need (List.length (cI ga) ≤ (1000000 : Nat)) (T.need (List.length (cD de) ≤ (1000000 : Nat)) (T.need (∀ (d : Dem), d ∈ cD de → List.length (Dem.co d) ≤ (1000000 : Nat)) (T.need (iI (Prod.fst (xW mo ga de i))) (T.need (iI (Prod.fst (Prod.snd (xW mo ga de i)))) (T.need (iD (Prod.fst (Prod.snd (Prod.snd (xW mo ga de i))))) (T.need (iI (cI mo)) (T.need (iI (cI ga)) (T.need (iD (M.erase (cD de) i)) (T.need (List.length (cI (Prod.fst (xW mo ga de i))) ≤ (1000000 : Nat)) (T.need (List.length (cI (Prod.fst (Prod.snd (xW mo ga de i)))) ≤ (1000000 : Nat)) (T.need (List.length (cD (Prod.fst (Prod.snd (Prod.snd (xW mo ga de i))))) ≤ (1000000 : Nat)) (T.need (∀ (d : Dem), d ∈ cD (Prod.fst (Prod.snd (Prod.snd (xW mo ga de i)))) → List.length (Dem.co d) ≤ (1000000 : Nat)) (T.ret [Ar.c (D.bool (M.samePr (cI (Prod.fst (xW mo ga de i))) (cI (Prod.fst (Prod.snd (xW mo ga de i)))) (cD (Prod.fst (Prod.snd (Prod.snd (xW mo ga de i))))) (cI (cI mo)) (cI (cI ga)) (cD (M.erase (cD de) i))))]))))))))))))))))))))) (T.need ((Prod.snd (Prod.snd (Prod.snd (xW mo ga de i))) == (0 : Int)) = false) cN)))) (T.br (Prod.snd (M.checkProg (cI mo) (cI ga) (cD de)) != (0 : Int)) (T.br (Prod.snd (Prod.snd (Prod.snd (xW mo ga de i))) == Prod.snd (M.checkProg (cI mo) (cI ga) (cD de))) (T.need (iI (Prod.fst (xW mo ga de i))) (T.need (iI (Prod.fst (Prod.snd (xW mo ga de i)))) (T.need (iD (Prod.fst (Prod.snd (Prod.snd (xW mo ga de i))))) (T.need (Enc.Is eI (0 : Nat) fun (x x_1 : Nat) => D.nilp) (T.need (Enc.Is eI (0 : Nat) fun (x x_1 : Nat) => D.nilp) (T.need (Enc.Is eDm (0 : Nat) fun (x x_1 : Nat) => D.nilp) (T.need (List.length (cI (Prod.fst (xW mo ga de i))) ≤ (1000000 : Nat)) (T.need (List.length (cI (Prod.fst (Prod.snd (xW mo ga de i)))) ≤ (1000000 : Nat)) (T.need (List.length (cD (Prod.fst (Prod.snd (Prod.snd (xW mo ga de i))))) ≤ (1000000 : Nat)) (T.need (∀ (d : Dem), d ∈ cD (Prod.fst (Prod.snd (Prod.snd (xW mo ga de i)))) → List.length (Dem.co d) ≤ (1000000 : Nat)) (T.ret [Ar.c (D.bool (M.samePr (cI (Prod.fst (xW mo ga de i))) (cI (Prod.fst (Prod.snd (xW mo ga de i)))) (cD (Prod.fst (Prod.snd (Prod.snd (xW mo ga de i))))) (Enc.list eI (0 : Nat) fun (x x_1 : Nat) => D.nilp) (Enc.list eI (0 : Nat) fun (x x_1 : Nat) => D.nilp) (Enc.list eDm (0 : Nat) fun (x x_1 : Nat) => D.nilp)))]))))))))))) cN) (T.br (Prod.snd (Prod.snd (Prod.snd (xW mo ga de i))) == (0 : Int)) (T.need ((Prod.snd (Prod.snd (Prod.snd (xW mo ga de i))) == (0 : Int)) = true) (T.need (iI mo) (T.need (iI ga) (T.need (iD de) (T.need ((0 : Int) ≤ i) (T.need (i < (Nat.cast (R := Int) (List.length (cD de)))) (T.need (List.length (cI mo) ≤ (1000000 : Nat)) (T.need (List.length (cI ga) ≤ (1000000 : Nat)) (T.need (List.length (cD de) ≤ (1000000 : Nat)) (T.need (∀ (d : Dem), d ∈ cD de → List.length (Dem.co d) ≤ (1000000 : Nat)) (T.need (iI (Prod.fst (xW mo ga de i))) (T.need (iI (Prod.fst (Prod.snd (xW mo ga de i)))) (T.need (iD (Prod.fst (Prod.snd (Prod.snd (xW mo ga de i))))) (T.need (iI (cI mo)) (T.need (iI (cI ga)) (T.need (iD (M.erase (cD de) i)) (T.need (List.length (cI (Prod.fst (xW mo ga de i))) ≤ (1000000 : Nat)) (T.need (List.length (cI (Prod.fst (Prod.snd (xW mo ga de i)))) ≤ (1000000 : Nat)) (T.need (List.length (cD (Prod.fst (Prod.snd (Prod.snd (xW mo ga de i))))) ≤ (1000000 : Nat)) (T.need (∀ (d : Dem), d ∈ cD (Prod.fst (Prod.snd (Prod.snd (xW mo ga de i)))) → List.length (Dem.co d) ≤ (1000000 : Nat)) (T.ret [Ar.c (D.bool (M.samePr (cI (Prod.fst (xW mo ga de i))) (cI (Prod.fst (Prod.snd (xW mo ga de i)))) (cD (Prod.fst (Prod.snd (Prod.snd (xW mo ga de i))))) (cI (cI mo)) (cI (cI ga)) (cD (M.erase (cD de) i))))]))))))))))))))))))))) (T.need ((Prod.snd (Prod.snd (Prod.snd (xW mo ga de i))) == (0 : Int)) = false) cN))))))))))))))))))))))))))))))))))))))))))))
theorem t6 (q_mo : Bool) (mo : List Int) (q_ga : Bool) (ga : List Int) (q_de : Bool) (de : List Dem) (i : Int) : runFnX Try.prog G0 (lookS [v15, v18, v41, v42, v43, v44, v45, v46, v47]) (fun f => []) [] 1 90 4 6 Try.f6 [.agg [.sl q_mo mo.length 1 (eI.F mo), .sl q_ga ga.length 1 (eI.F ga), .sl q_de de.length 3 (eDm.F de)], .c (dI i)] =
    tr6 q_mo mo q_ga ga q_de de i := by kernel_rfl
theorem w6 (qm : Bool) (mo : List Int) (qg : Bool) (ga : List Int) (qd : Bool) (de : List Dem) (i : Int) : (tr6 qm mo qg ga qd de i).wp (fun rs => rsEqv rs [rB true]) := by
  unfold tr6
  simp only [xW, cI, cD, iI, iD, cN, Enc.list_F]
  refine wp_br (fun hb => by cases hb) (fun _ => ⟨Enc.is_F _ _ _, Enc.is_F _ _ _, Enc.is_F _ _ _, wp_br (fun _ => rsEqv_refl _) (fun hf => ?_)⟩)
  have hf : M.few mo ga de = true := by simpa using hf
  obtain ⟨f1, f2, f3, f4⟩ := few_yes hf
  have g1 : mo.length ≤ 1000000 := by omega
  have g2 : ga.length ≤ 1000000 := by omega
  have g3 : de.length ≤ 1000000 := by omega
  have hn : ∀ d, d ∈ de → d.nm.size ≤ 1000000 ∧ d.co.length ≤ 1000000 := by
    intro d hd
    obtain ⟨k, hk, rfl⟩ := List.getElem_of_mem hd
    have := f4 k hk
    rw [List.getD_eq_getElem?_getD, List.getElem?_eq_getElem hk] at this
    exact ⟨by have := this.1; simp only [Option.getD_some] at this; omega, by have := this.2; simp only [Option.getD_some] at this; omega⟩
  have hn' : ∀ d, d ∈ de → d.co.length ≤ 1000000 := fun d hd => (hn d hd).2
  have z1 : Enc.Is eI (0 : Nat) (fun (x x_1 : Nat) => D.nilp) := fun i j hi _ => absurd hi (Nat.not_lt_zero i)
  have z2 : Enc.Is eDm (0 : Nat) (fun (x x_1 : Nat) => D.nilp) := fun i j hi _ => absurd hi (Nat.not_lt_zero i)
  have hd0 : ∀ d : Dem, d ∈ ([] : List Dem) → d.co.length ≤ 1000000 := fun d hd => by cases hd
  rcases law6 mo ga de i with ⟨e, he, hE, hW⟩ | ⟨hE, ⟨hw, hW⟩ | ⟨hw, hW⟩⟩
  · have hb : (e == 0) = false := by simpa using he
    have hb' : (e != 0) = true := bne_iff_ne.2 he
    rw [hW, hE]
    repeat (first | exact rsEqv_refl _ | refine ⟨Enc.is_F _ _ _, ?_⟩ | refine ⟨g1, ?_⟩ | refine ⟨g2, ?_⟩ | refine ⟨g3, ?_⟩ | refine ⟨hn, ?_⟩ | refine ⟨hn', ?_⟩ | refine ⟨z1, ?_⟩ | refine ⟨z2, ?_⟩ | refine ⟨Nat.zero_le _, ?_⟩ | refine ⟨hd0, ?_⟩ | refine br_f (bne_self_eq_false _) ?_ | refine br_f hb ?_ | refine br_t hb' ?_ | refine br_t (beq_self_eq_true e) ?_)
  · rw [hW, hE]
    repeat (first | exact rsEqv_refl _ | refine ⟨Enc.is_F _ _ _, ?_⟩ | refine ⟨g1, ?_⟩ | refine ⟨g2, ?_⟩ | refine ⟨g3, ?_⟩ | refine ⟨hn, ?_⟩ | refine ⟨hn', ?_⟩ | refine ⟨z1, ?_⟩ | refine ⟨z2, ?_⟩ | refine ⟨Nat.zero_le _, ?_⟩ | refine ⟨hd0, ?_⟩ | refine br_f (bne_self_eq_false _) ?_ | refine br_t rfl ?_ | refine br_t (by rw [hw]; rfl) ?_)
  · rw [hW, hE]
    have hi : 0 ≤ i ∧ i < (de.length : Int) := by
      unfold M.within at hw
      simp only [Bool.and_eq_true, decide_eq_true_eq] at hw
      have hw2 := hw.2
      rw [wrap_id (by omega) (by omega)] at hw2
      omega
    have hi0 := hi.1
    have hi1 := hi.2
    have hs := samePr_self mo ga (M.erase de i)
    have e1 : (M.erase de i).length ≤ 1000000 := by have := List.length_eraseIdx_le de i.toNat; unfold M.erase; omega
    have e2 : ∀ d, d ∈ M.erase de i → d.co.length ≤ 1000000 := fun d hd => hn' d (List.mem_of_mem_eraseIdx hd)
    repeat (first | exact rsEqv_refl _ | refine ⟨Enc.is_F _ _ _, ?_⟩ | refine ⟨g1, ?_⟩ | refine ⟨g2, ?_⟩ | refine ⟨g3, ?_⟩ | refine ⟨hn, ?_⟩ | refine ⟨hn', ?_⟩ | refine ⟨z1, ?_⟩ | refine ⟨z2, ?_⟩ | refine ⟨Nat.zero_le _, ?_⟩ | refine ⟨hd0, ?_⟩ | refine br_f (bne_self_eq_false _) ?_ | refine br_f (by rw [hw]; rfl) ?_ | refine br_t rfl ?_ | refine br_f rfl ?_ | refine ⟨hi0, ?_⟩ | refine ⟨hi1, ?_⟩ | refine ⟨rfl, ?_⟩ | refine ⟨e1, ?_⟩ | refine ⟨e2, ?_⟩ | exact rB_eqv hs)
def dom6 : DomF
  | [.agg [.sl _ n_mo st_mo F_mo, .sl _ n_ga st_ga F_ga, .sl _ n_de st_de F_de], .c (.int .i64 i)] => (match Nat.beq st_mo 1 && Nat.beq st_ga 1 && Nat.beq st_de 3 with
    | true => some ([eI.Is n_mo F_mo, eI.Is n_ga F_ga, eDm.Is n_de F_de], [rB true])
    | _ => none)
  | _ => none
theorem C6 : FOK Try.prog G0 gw 6 dom6 := by
  intro ags p r hd hp κ w xs hw hl hG hx
  unfold dom6 at hd
  split at hd
  · rename_i q_mo n_mo st_mo F_mo q_ga n_ga st_ga F_ga q_de n_de st_de F_de i
    split at hd
    · rename_i hst
      simp only [Bool.and_eq_true] at hst
      obtain ⟨⟨g1, g2⟩, g3⟩ := hst
      have g1 := Nat.eq_of_beq_eq_true g1
      have g2 := Nat.eq_of_beq_eq_true g2
      have g3 := Nat.eq_of_beq_eq_true g3
      subst g1 g2 g3
      simp only [Option.some.injEq, Prod.mk.injEq] at hd
      obtain ⟨rfl, rfl⟩ := hd
      obtain ⟨hI_mo, hI_ga, hI_de, hp⟩ := hp
      have heq : agsEqv [.agg [.sl q_mo n_mo 1 F_mo, .sl q_ga n_ga 1 F_ga, .sl q_de n_de 3 F_de], .c (.int .i64 i)] [.agg [.sl q_mo (eI.list n_mo F_mo).length 1 (eI.F (eI.list n_mo F_mo)), .sl q_ga (eI.list n_ga F_ga).length 1 (eI.F (eI.list n_ga F_ga)), .sl q_de (eDm.list n_de F_de).length 3 (eDm.F (eDm.list n_de F_de))], .c (.int .i64 i)] := ⟨⟨eI.to id hI_mo, eI.to id hI_ga, eDm.to id hI_de, trivial⟩, Ag.eqv_refl _, trivial⟩
      have len_mo : (eI.list n_mo F_mo).length = n_mo := eI.list_len
      have len_ga : (eI.list n_ga F_ga).length = n_ga := eI.list_len
      have len_de : (eDm.list n_de F_de).length = n_de := eDm.list_len
      generalize eI.list n_mo F_mo = mo at *
      generalize eI.list n_ga F_ga = ga at *
      generalize eDm.list n_de F_de = de at *
      subst len_mo len_ga len_de
      exact fokX_fin mixed gw_stable (sl := [v15, v18, v41, v42, v43, v44, v45, v46, v47]) ⟨S15, S18, S41, S42, S43, S44, S45, S46, S47, trivial⟩ Try.func6 hw hl hG hx heq rfl (t6 _ _ _ _ _ _ _) (w6 _ _ _ _ _ _ _)
    · cases hd
  · cases hd
end Go.Pl
end

section
set_option linter.unusedVariables false
set_option linter.unusedSimpArgs false
namespace Go.Rw
open Go Go.ChangeShapes Go.WideShapes Go.RowKit Go.ChangeAt
open Go.V (F2 D fullK fullK_cell f2_append f2_len f2_get)
section
variable {H : Type} {enc : TypeId × Value → H} {P : Program} {w : World} {base : Nat} {sp : Nat → Bool} {hd : Bool}
theorem trodAll_below (hl : laidOutB P = true) {W W' : World} (hb : Below W.heap.size W W') : ∀ {ts : List TypeId} {vs : List Value} {ds : List (DataW H)} {ps : List MemPlace},
    (∀ t ∈ ts, P.readableRec t = true ∧ t < P.types.size) → DataW.TrodAll enc P W 0 (fun _ => true) true ts vs ds ps → (∀ x ∈ ps, x.block < W.heap.size) →
    DataW.TrodAll enc P W' 0 (fun b => decide (b < W.heap.size)) true ts vs ds ps
  | [], _, _, _, _, h, _ => by
    obtain ⟨rfl, rfl, rfl⟩ := trodAll_nil h
    exact trodAll_mk0
  | t :: ts, _, _, _, hr, h, hlt => by
    obtain ⟨v, vs1, d, ds1, a, b, rfl, rfl, rfl, h1, h2⟩ := trodAll_cons h
    refine ⟨a, b, ?_, trodAll_below hl hb (fun u hu => hr u (List.mem_cons_of_mem _ hu)) h2 fun x hx => hlt x (List.mem_append_right _ hx), rfl⟩
    have ht := hr t (List.mem_cons_self ..)
    exact Below.trod hl ht.1 ht.2 h1 hb fun x hx => hlt x (List.mem_append_left _ hx)
theorem law_post {fn : Func} {s : ChangeSpec} {apart fresh handsOn : Bool} {W W' : World} {args : Array Value} {ds gs : List (DataW H)} {before : List MemPlace} {tb : TypeId} (hl : laidOutB P = true)
    (hr : ∀ t ∈ fn.params.toList, P.readableRec t = true ∧ t < P.types.size) (hv : s.vars = []) (hrt : fn.resultTypes = #[tb]) (hbool : P.underlying tb = some .bool)
    (hfn : s.fn H ds = { results := [.lit (.bool true)], args := ds })
    (hW : DataW.Whole enc P fn.params.toList s.vars apart W args.toList ds gs before) (hb : Below W.heap.size W W') : s.post enc P fn apart fresh handsOn false W args (.bool true) W' := by
  have hW' := hW
  obtain ⟨p, q, hA, hV, rfl, _, _⟩ := hW'
  have hlt : ∀ x ∈ p ++ q, x.block < W.heap.size := fun x hx => hW.lt x hx
  rw [hv] at hV
  have hgs : gs = [] ∧ q = [] := by
    cases gs with
    | nil => exact ⟨rfl, hV⟩
    | cons g r => exact absurd hV (by intro h; cases h)
  obtain ⟨rfl, rfl⟩ := hgs
  have e : s.fn H (ds ++ []) = { results := [.lit (.bool true)], args := ds } := by rw [List.append_nil]; exact hfn
  refine ⟨ds, [], _, [], p, [], hW, ?_, ?_, ?_, hb.frame _, fun h => by cases h⟩
  · rw [e, hrt]
    exact trodAll_mk1 (shut_bool hbool true)
  · rw [e]
    exact trodAll_below hl hb hr hA fun x hx => hlt x (List.mem_append_left _ hx)
  · rw [e, hv]
    rfl
end
end Go.Rw
end

section
set_option linter.unusedVariables false
set_option linter.unusedSimpArgs false
namespace Go.Rw
open Go Go.ChangeShapes Go.WideShapes Go.RowKit Go.ChangeAt
open Go.V (F2 D fullK fullK_cell f2_append f2_len f2_get)
inductive SK where
  | i
  | s
  | sl (sh : List SK)
inductive DG : SK → D → Prop where
  | i (n : Int) : DG .i (.int .i64 n)
  | s (t : ByteArray) : DG .s (.str t)
  | sl (sh : List SK) (len : Nat) (F : Nat → Nat → D) (h : ∀ i j k, i < len → sh[j]? = some k → DG k (F i j)) : DG (.sl sh) (.sl false len sh.length F)
def MG (w : World) (k : SK) (v : Value) : Prop := ∃ d, DG k d ∧ D.rel (fullK w) d v
def sgFs (P : Program) (g : TypeId → Option (List SK)) : List Field → Nat → Nat → Option (List SK)
  | [], o, c => (match Nat.beq o c with | true => some [] | false => none)
  | f :: fs, o, c => (match Nat.beq f.offset o, g f.type, sgFs P g fs (o + P.cellsOf f.type) c with
    | true, some a, some b => some (a ++ b)
    | _, _, _ => none)
def sgArr (l : List SK) : Nat → List SK
  | 0 => []
  | n + 1 => l ++ sgArr l n
def sg (P : Program) : Nat → TypeId → Option (List SK)
  | 0, _ => none
  | k + 1, t => match P.underlying t with
    | some (.int .i64) => some [.i]
    | some .string => some [.s]
    | some (.struct fs) => sgFs P (sg P k) fs.toList 0 (P.cellsOf t)
    | some (.array n e) => (match sg P k e, Nat.beq (P.cellsOf t) (n * P.cellsOf e) with | some l, true => some (sgArr l n) | _, _ => none)
    | some (.slice e) => (match sg P k e with | some sh => (match Nat.beq (P.cellsOf e) sh.length && Nat.blt 0 sh.length with | true => some [.sl sh] | false => none) | none => none)
    | _ => none
section
variable {H : Type} {enc : TypeId × Value → H} {P : Program} {w : World} {base : Nat} {sp : Nat → Bool} {hd : Bool}
theorem sgFs_spec {R : SK → Value → Prop} {g : TypeId → Option (List SK)} : ∀ (fs : List Field) (o c : Nat) (cs : List Value) {l : List SK}, sgFs P g fs o c = some l → cs.length = c →
    (∀ f ∈ fs, ∀ l', g f.type = some l' → F2 R l' ((cs.drop f.offset).take (P.cellsOf f.type))) → F2 R l (cs.drop o)
  | [], o, c, cs, l, h, hl, _ => by
    unfold sgFs at h
    split at h
    · rename_i hb
      have : o = c := Nat.eq_of_beq_eq_true hb
      simp only [Option.some.injEq] at h
      subst h
      rw [this, ← hl, List.drop_length]
      exact .nil
    · cases h
  | f :: fs, o, c, cs, l, h, hl, hf => by
    simp only [sgFs] at h
    split at h
    · rename_i a b hb ha hrest
      have ho : f.offset = o := Nat.eq_of_beq_eq_true hb
      simp only [Option.some.injEq] at h
      subst h
      have h1 := hf f (List.mem_cons_self ..) a ha
      have h2 := sgFs_spec fs _ c cs hrest hl fun g hg => hf g (List.mem_cons_of_mem _ hg)
      rw [ho] at h1
      have e : cs.drop o = (cs.drop o).take (P.cellsOf f.type) ++ (cs.drop o).drop (P.cellsOf f.type) := (List.take_append_drop _ _).symm
      rw [e, List.drop_drop]
      exact f2_append h1 h2
    · cases h
theorem sgArr_spec {R : SK → Value → Prop} {l : List SK} {c : Nat} : ∀ (n : Nat) (cs : List Value), cs.length = n * c → (∀ i, i < n → F2 R l ((cs.drop (i * c)).take c)) → F2 R (sgArr l n) cs
  | 0, cs, h, _ => by
    have : cs = [] := List.length_eq_zero_iff.1 (by simpa using h)
    subst this
    exact .nil
  | n + 1, cs, h, hf => by
    have h0 := hf 0 (by omega)
    rw [Nat.zero_mul, List.drop_zero] at h0
    have hr := sgArr_spec (c := c) n (cs.drop c) (by rw [List.length_drop, h, Nat.succ_mul]; omega) fun i hi => by
      have := hf (i + 1) (by omega)
      rw [List.drop_drop, show c + i * c = (i + 1) * c by rw [Nat.succ_mul]; omega]
      exact this
    rw [← List.take_append_drop c cs]
    exact f2_append h0 hr
theorem trod_sg : ∀ (k fuel : Nat) (t : TypeId) (cs : List Value) (x : DataW H × List MemPlace) {l : List SK}, sg P k t = some l → DataW.trod enc P w base sp hd fuel t cs = some x → F2 (MG w) l cs
  | 0, _, _, _, _, _, h, _ => by cases h
  | k + 1, fuel, t, cs, x, l, h, hx => by
    unfold sg at h
    split at h
    · rename_i ht
      simp only [Option.some.injEq] at h
      subst h
      obtain ⟨n, rfl, rfl, _⟩ := DataW.trod_int ht hx
      exact .cons ⟨.int .i64 n, .i n, rfl⟩ .nil
    · rename_i ht
      simp only [Option.some.injEq] at h
      subst h
      obtain ⟨s, rfl, rfl, _⟩ := DataW.trod_string ht hx
      exact .cons ⟨.str s, .s s, rfl⟩ .nil
    · rename_i fs ht
      obtain ⟨xs, n, _, rfl, hl, hlen, hf⟩ := DataW.trod_struct ht hx
      have := sgFs_spec (P := P) (R := MG w) fs.toList 0 (P.cellsOf t) cs h hl (by
        intro f hm l' hl'
        obtain ⟨i, hi, hi'⟩ := List.getElem_of_mem hm
        have hgi : fs[i]? = some f := by rw [← Array.getElem?_toList, List.getElem?_eq_getElem hi, hi']
        have hlt : i < xs.length := by rw [hlen]; exact (Array.getElem?_eq_some_iff.1 hgi).1
        have hy : xs[i]? = some xs[i] := List.getElem?_eq_getElem hlt
        have := hf i f hgi
        rw [hy] at this
        exact trod_sg k n f.type _ _ hl' this)
      simpa using this
    · rename_i n e ht
      split at h
      · rename_i l' hl' hcb
        simp only [Option.some.injEq] at h
        subst h
        obtain ⟨xs, m, _, ex, hlen, hl, hel⟩ := DataW.trod_array ht hx
        have hcz : P.cellsOf t = n * P.cellsOf e := Nat.eq_of_beq_eq_true hcb
        refine sgArr_spec (c := P.cellsOf e) n cs (by rw [← hcz]; exact hlen) fun i hi => ?_
        have hlt : i < xs.length := by omega
        have hy : xs[i]? = some xs[i] := List.getElem?_eq_getElem hlt
        have := hel i hi
        rw [hy] at this
        exact trod_sg k m e _ _ hl' this
      · cases h
    · rename_i e ht
      split at h
      · rename_i sh hsh
        split at h
        · rename_i hc
          simp only [Option.some.injEq] at h
          subst h
          rw [Bool.and_eq_true] at hc
          have hn : P.cellsOf e = sh.length := Nat.eq_of_beq_eq_true hc.1
          have hn0 : 0 < sh.length := Nat.le_of_ble_eq_true hc.2
          rcases DataW.trod_slice ht hx with ⟨h1, _⟩ | ⟨a, len0, cap0, elems, rest, n', _, h1, _, _, hlc, _, hel, hget, _⟩
          · rw [h1]
            exact .cons ⟨.sl false 0 sh.length (fun _ _ => .nilp), .sl sh 0 _ (fun i j k hi => by omega), .inl ⟨rfl, rfl, rfl⟩⟩ .nil
          · rw [h1]
            rw [hn] at hget
            have each : ∀ i, i < len0 → ∀ j, j < sh.length → ∃ d, (∀ k', sh[j]? = some k' → DG k' d) ∧ ∃ y, w.cell? ((a.add (i * sh.length)).add j) = some y ∧ D.rel (fullK w) d y := by
              intro i hi j hj
              have hg := hget i hi
              have hlt : i < elems.length := by omega
              rw [List.getElem?_eq_getElem hlt] at hg
              simp only [Option.bind_eq_some_iff] at hg
              obtain ⟨cs, hcs, hx⟩ := hg
              have hF := trod_sg k n' e cs _ hsh hx
              obtain ⟨_, hl, hcell⟩ := World.cells?_some hcs
              obtain ⟨y, hy, hm⟩ := f2_get hF (i := j) (List.getElem?_eq_getElem hj)
              obtain ⟨d, hd1, hd2⟩ := hm
              have hcj := hcell j hj
              exact ⟨d, fun k' hk' => by rw [List.getElem?_eq_getElem hj] at hk'; cases hk'; exact hd1, y, by rw [hcj, hy], hd2⟩
            have spot0 : 0 < len0 → a.spot = none := by
              intro hp
              obtain ⟨_, _, y, hy, _⟩ := each 0 hp 0 hn0
              have := World.cell?_spot hy
              simpa [Addr.add] using this
            refine .cons ⟨.sl false len0 sh.length (fun i j => if h : i < len0 ∧ j < sh.length then Classical.choose (each i h.1 j h.2) else .nilp), .sl sh len0 _ (fun i j k' hi hk' => ?_), .inr ⟨a, cap0, rfl, hlc, spot0, fun i j hi hj => ?_⟩⟩ .nil
            · have hj : j < sh.length := (List.getElem?_eq_some_iff.1 hk').1
              simp only [dif_pos (And.intro hi hj)]
              exact (Classical.choose_spec (each i hi j hj)).1 k' hk'
            · obtain ⟨_, y, hy, hr⟩ := Classical.choose_spec (each i hi j hj)
              have hp : a.spot = none := spot0 (by omega)
              have e1 : (a.add (i * sh.length)).add j = ⟨a.block, a.off + i * sh.length + j, none⟩ := by
                obtain ⟨b, off, spot⟩ := a
                simp only at hp
                subst hp
                rw [Go.WideShapes.add_plain, Go.WideShapes.add_plain]
              rw [e1] at hy
              refine ⟨_, fullK_cell hy, ?_⟩
              simp only [dif_pos (And.intro hi hj)]
              exact hr
        · cases h
      · cases h
    · cases h
theorem open_st {r : Reach} {b0 : Nat} {t : TypeId} {fs : Array Field} {v : Value} {d : DataW H} {p : List MemPlace} (k : Nat) {l : List SK} (ht : P.underlying t = some (.struct fs)) (ha : sg P k t = some l)
    (hv : Value.okWide P w r b0 t v) (h : DataW.Trod enc P w base sp hd t v d p) : ∃ cs : List Value, F2 (MG w) l cs ∧ v = .agg cs.toArray := by
  obtain ⟨cs, rfl, hsz⟩ := okWide_struct ht hv
  obtain ⟨fuel, hf⟩ := h
  have hF : F2 (MG w) l cs.toList := trod_sg k fuel t _ _ ha hf
  exact ⟨cs.toList, hF, by rw [Array.toArray_toList]⟩
theorem mg_i {v : Value} (h : MG w .i v) : ∃ n, v = .int .i64 n := by
  obtain ⟨d, hd, hr⟩ := h
  cases hd with
  | i n => exact ⟨n, hr⟩
theorem mg_sl {sh : List SK} {v : Value} (h : MG w (.sl sh) v) : ∃ (len : Nat) (F : Nat → Nat → D), (D.sl false len sh.length F).rel (fullK w) v ∧ ∀ i j k, i < len → sh[j]? = some k → DG k (F i j) := by
  obtain ⟨d, hd, hr⟩ := h
  cases hd with
  | sl _ len F hF => exact ⟨len, F, hr, hF⟩
theorem dg_i {d : D} (h : DG .i d) : ∃ n, d = .int .i64 n := by cases h with | i n => exact ⟨n, rfl⟩
theorem dg_s {d : D} (h : DG .s d) : ∃ n, d = .str n := by cases h with | s n => exact ⟨n, rfl⟩
theorem dg_sl {sh : List SK} {d : D} (h : DG (.sl sh) d) : ∃ (len : Nat) (F : Nat → Nat → D), d = .sl false len sh.length F ∧ ∀ i j k, i < len → sh[j]? = some k → DG k (F i j) := by
  cases h with
  | sl _ len F hF => exact ⟨len, F, rfl, hF⟩
end
end Go.Rw
end

section
set_option linter.unusedVariables false
set_option linter.unusedSimpArgs false
set_option maxRecDepth 100000
namespace Go.Pl
open Go.V Go.Proofs
namespace M
def ptOk (den : Int) (pa : List Int) : Bool := cond (within den 1 100000000000) (!pa.any (badF 171)) false
def ptErr (mo : List Int) (den : Int) (pa : List Int) : Int := first [unl ((pa.length : Int) == (mo.length : Int)) 10, unl (ptOk den pa) 2]
def openPt (mo ga : List Int) (de : List Dem) (den : Int) (pa : List Int) : Int := first [(checkProg mo ga de).2, unl ((pa.length : Int) == (mo.length : Int)) 10, unl (ptOk den pa) 2]
def room (d : Dem) (den : Int) (pa : List Int) : Int := IntKind.i64.wrap (IntKind.i64.wrap (d.am * den) - dot d.co pa)
def isSmall (n d : Int) : Bool := cond (within n (-1000000000) 1000000000) (within d 1 1000000000) false
end M
theorem openPt_eq (mo ga : List Int) (de : List Dem) (den : Int) (pa : List Int) : M.openPt mo ga de den pa = cond ((M.checkProg mo ga de).2 != 0) (M.checkProg mo ga de).2 (M.ptErr mo den pa) := by
  unfold M.openPt M.ptErr
  rw [first_of]
  by_cases h : (M.checkProg mo ga de).2 = 0
  · rw [if_pos h, h]; rfl
  · rw [if_neg h, bne_iff_ne.2 h]; rfl
def tr137 (q_mo : Bool) (mo : List Int) (q_ga : Bool) (ga : List Int) (q_de : Bool) (de : List Dem) (denx : Int) (q_pax : Bool) (pax : List Int) : T (List Ar) :=
    T.need (iI mo) (T.need (iI ga) (T.need (iD de) (T.need (List.length mo ≤ (1000000 : Nat)) (T.need (List.length ga ≤ (1000000 : Nat)) (T.need (List.length de ≤ (1000000 : Nat)) (T.need (∀ (d : Dem), d ∈ cD de → ByteArray.size (Dem.nm d) ≤ (1000000 : Nat) ∧ List.length (Dem.co d) ≤ (1000000 : Nat)) (T.need (iI pax) (T.need (List.length pax ≤ (1000000 : Nat)) (T.br (M.within denx (1 : Int) (100000000000 : Int)) (T.need (M.within denx (1 : Int) (100000000000 : Int) = true) (T.ret [Ar.agg [D.sl q_mo (List.length mo) (1 : Nat) (Enc.F eI (cI mo)), D.sl q_ga (List.length ga) (1 : Nat) (Enc.F eI (cI ga)), D.sl q_de (List.length de) (3 : Nat) (Enc.F eDm (cD de))], Ar.c (D.int IntKind.i64 (M.first [Prod.snd (M.checkProg (cI mo) (cI ga) (cD de)), M.unl ((Nat.cast (R := Int) (List.length pax)) == (Nat.cast (R := Int) (List.length mo))) (10 : Int), M.unl (!List.any (cI pax) (badF (171 : Nat))) (2 : Int)]))])) (T.need (M.within denx (1 : Int) (100000000000 : Int) = false) (T.ret [Ar.agg [D.sl q_mo (List.length mo) (1 : Nat) (Enc.F eI (cI mo)), D.sl q_ga (List.length ga) (1 : Nat) (Enc.F eI (cI ga)), D.sl q_de (List.length de) (3 : Nat) (Enc.F eDm (cD de))], Ar.c (D.int IntKind.i64 (M.first [Prod.snd (M.checkProg (cI mo) (cI ga) (cD de)), M.unl ((Nat.cast (R := Int) (List.length pax)) == (Nat.cast (R := Int) (List.length mo))) (10 : Int), (2 : Int)]))])))))))))))
theorem t137 (q_mo : Bool) (mo : List Int) (q_ga : Bool) (ga : List Int) (q_de : Bool) (de : List Dem) (denx : Int) (q_pax : Bool) (pax : List Int) : runFnX Try.prog G0 (lookS [v83, v118, v103, v104, v105]) (fun _ => []) [] 1 60 4 137 Try.f137 [.agg [.sl q_mo mo.length 1 (eI.F mo), .sl q_ga ga.length 1 (eI.F ga), .sl q_de de.length 3 (eDm.F de)], .agg [dI denx, .sl q_pax pax.length 1 (eI.F pax)]] =
    tr137 q_mo mo q_ga ga q_de de denx q_pax pax := by kernel_rfl
theorem w137 (qm : Bool) (mo : List Int) (qg : Bool) (ga : List Int) (qd : Bool) (de : List Dem) (den : Int) (qp : Bool) (pa : List Int) (h1 : mo.length ≤ 1000000) (h2 : ga.length ≤ 1000000) (h3 : de.length ≤ 1000000) (hn : ∀ d, d ∈ de → d.nm.size ≤ 1000000 ∧ d.co.length ≤ 1000000) (h4 : pa.length ≤ 1000000) :
    (tr137 qm mo qg ga qd de den qp pa).wp (fun rs => rsEqv rs [.agg [.sl qm mo.length 1 (eI.F mo), .sl qg ga.length 1 (eI.F ga), .sl qd de.length 3 (eDm.F de)], rI (M.openPt mo ga de den pa)]) := by
  unfold tr137
  simp only [cI, cD, iI, iD, Enc.list_F]
  refine ⟨Enc.is_F _ _ _, Enc.is_F _ _ _, Enc.is_F _ _ _, h1, h2, h3, hn, Enc.is_F _ _ _, h4, wp_br (fun hb => ⟨hb, ?_⟩) (fun hb => ⟨hb, ?_⟩)⟩
  · have e : M.openPt mo ga de den pa = M.first [(M.checkProg mo ga de).2, M.unl ((pa.length : Int) == (mo.length : Int)) 10, M.unl (!pa.any (badF 171)) 2] := by unfold M.openPt M.ptOk; rw [hb]; rfl
    rw [e]; exact rsEqv_refl _
  · have e : M.openPt mo ga de den pa = M.first [(M.checkProg mo ga de).2, M.unl ((pa.length : Int) == (mo.length : Int)) 10, 2] := by unfold M.openPt M.ptOk; rw [hb]; rfl
    rw [e]; exact rsEqv_refl _
def dom137 : DomF
  | [.agg [.sl q_mo n_mo st_mo F_mo, .sl q_ga n_ga st_ga F_ga, .sl q_de n_de st_de F_de], .agg [.int .i64 denx, .sl q_pax n_pax st_pax F_pax]] => (match Nat.beq st_mo 1 && Nat.beq st_ga 1 && Nat.beq st_de 3 && Nat.beq st_pax 1 with
    | true => some ([eI.Is n_mo F_mo, eI.Is n_ga F_ga, eDm.Is n_de F_de, eI.Is n_pax F_pax, (eI.list n_mo F_mo).length ≤ 1000000, (eI.list n_ga F_ga).length ≤ 1000000, (eDm.list n_de F_de).length ≤ 1000000, ∀ d, d ∈ (eDm.list n_de F_de) → d.nm.size ≤ 1000000 ∧ d.co.length ≤ 1000000, (eI.list n_pax F_pax).length ≤ 1000000], [.agg [.sl q_mo (eI.list n_mo F_mo).length 1 (eI.F (eI.list n_mo F_mo)), .sl q_ga (eI.list n_ga F_ga).length 1 (eI.F (eI.list n_ga F_ga)), .sl q_de (eDm.list n_de F_de).length 3 (eDm.F (eDm.list n_de F_de))], rI (M.openPt (eI.list n_mo F_mo) (eI.list n_ga F_ga) (eDm.list n_de F_de) denx (eI.list n_pax F_pax))])
    | _ => none)
  | _ => none
def v137 : Nat × Sm := (137, fokSm dom137)
theorem C137 : FOK Try.prog G0 gw 137 dom137 := by
  intro ags p r hd hp κ w xs hw hl hG hx
  unfold dom137 at hd
  split at hd
  · rename_i q_mo n_mo st_mo F_mo q_ga n_ga st_ga F_ga q_de n_de st_de F_de denx q_pax n_pax st_pax F_pax
    split at hd
    · rename_i hst
      simp only [Bool.and_eq_true] at hst
      obtain ⟨⟨⟨g1, g2⟩, g3⟩, g4⟩ := hst
      have g1 := Nat.eq_of_beq_eq_true g1
      have g2 := Nat.eq_of_beq_eq_true g2
      have g3 := Nat.eq_of_beq_eq_true g3
      have g4 := Nat.eq_of_beq_eq_true g4
      subst g1 g2 g3 g4
      simp only [Option.some.injEq, Prod.mk.injEq] at hd
      obtain ⟨rfl, rfl⟩ := hd
      obtain ⟨hI_mo, hI_ga, hI_de, hI_pax, hp⟩ := hp
      have heq : agsEqv [.agg [.sl q_mo n_mo 1 F_mo, .sl q_ga n_ga 1 F_ga, .sl q_de n_de 3 F_de], .agg [.int .i64 denx, .sl q_pax n_pax 1 F_pax]] [.agg [.sl q_mo (eI.list n_mo F_mo).length 1 (eI.F (eI.list n_mo F_mo)), .sl q_ga (eI.list n_ga F_ga).length 1 (eI.F (eI.list n_ga F_ga)), .sl q_de (eDm.list n_de F_de).length 3 (eDm.F (eDm.list n_de F_de))], .agg [.int .i64 denx, .sl q_pax (eI.list n_pax F_pax).length 1 (eI.F (eI.list n_pax F_pax))]] := ⟨⟨eI.to id hI_mo, eI.to id hI_ga, eDm.to id hI_de, trivial⟩, ⟨rfl, eI.to id hI_pax, trivial⟩, trivial⟩
      have len_mo : (eI.list n_mo F_mo).length = n_mo := eI.list_len
      have len_ga : (eI.list n_ga F_ga).length = n_ga := eI.list_len
      have len_de : (eDm.list n_de F_de).length = n_de := eDm.list_len
      have len_pax : (eI.list n_pax F_pax).length = n_pax := eI.list_len
      generalize eI.list n_mo F_mo = mo at *
      generalize eI.list n_ga F_ga = ga at *
      generalize eDm.list n_de F_de = de at *
      generalize eI.list n_pax F_pax = pax at *
      subst len_mo len_ga len_de len_pax
      exact fokX_fin mixed gw_stable (sl := [v83, v118, v103, v104, v105]) ⟨S83, S118, S103, S104, S105, trivial⟩ Try.func137 hw hl hG hx heq rfl (t137 _ _ _ _ _ _ _ _ _) (w137 _ _ _ _ _ _ _ _ _ hp.1 hp.2.1 hp.2.2.1 hp.2.2.2.1 hp.2.2.2.2.1)
    · cases hd
  · cases hd
theorem S137 : SumOK Try.prog G0 gw 137 (fokSm dom137) := fok_sum Try.func137 rfl C137
def tr58 (denx : Int) (q_pax : Bool) (pax : List Int) : T (List Ar) :=
    T.need (iI pax) (T.need (List.length (cI pax) ≤ (1000000 : Nat)) (T.ret [Ar.agg [D.int IntKind.i64 denx, D.sl true (List.length (cI pax)) (1 : Nat) (Enc.F eI (cI pax))]]))
theorem t58 (denx : Int) (q_pax : Bool) (pax : List Int) : runFnX Try.prog G0 (lookS [v71]) (fun _ => []) [] 1 60 4 58 Try.f58 [.agg [dI denx, .sl q_pax pax.length 1 (eI.F pax)]] =
    tr58 denx q_pax pax := by kernel_rfl
theorem w58 (den : Int) (q : Bool) (pa : List Int) (h : pa.length ≤ 1000000) : (tr58 den q pa).wp (fun rs => rsEqv rs [.agg [dI den, .sl true pa.length 1 (eI.F pa)]]) := by
  unfold tr58
  simp only [cI, iI, Enc.list_F]
  exact ⟨Enc.is_F _ _ _, h, rsEqv_refl _⟩
def dom58 : DomF
  | [.agg [.int .i64 denx, .sl _ n_pax st_pax F_pax]] => (match Nat.beq st_pax 1 with
    | true => some ([eI.Is n_pax F_pax, (eI.list n_pax F_pax).length ≤ 1000000], [.agg [dI denx, .sl true (eI.list n_pax F_pax).length 1 (eI.F (eI.list n_pax F_pax))]])
    | _ => none)
  | _ => none
def v58 : Nat × Sm := (58, fokSm dom58)
theorem C58 : FOK Try.prog G0 gw 58 dom58 := by
  intro ags p r hd hp κ w xs hw hl hG hx
  unfold dom58 at hd
  split at hd
  · rename_i denx q_pax n_pax st_pax F_pax
    split at hd
    · rename_i hst
      have g1 := hst
      have g1 := Nat.eq_of_beq_eq_true g1
      subst g1
      simp only [Option.some.injEq, Prod.mk.injEq] at hd
      obtain ⟨rfl, rfl⟩ := hd
      obtain ⟨hI_pax, hp⟩ := hp
      have heq : agsEqv [.agg [.int .i64 denx, .sl q_pax n_pax 1 F_pax]] [.agg [.int .i64 denx, .sl q_pax (eI.list n_pax F_pax).length 1 (eI.F (eI.list n_pax F_pax))]] := ⟨⟨rfl, eI.to id hI_pax, trivial⟩, trivial⟩
      have len_pax : (eI.list n_pax F_pax).length = n_pax := eI.list_len
      generalize eI.list n_pax F_pax = pax at *
      subst len_pax
      exact fokX_fin mixed gw_stable (sl := [v71]) ⟨S71, trivial⟩ Try.func58 hw hl hG hx heq rfl (t58 _ _ _) (w58 _ _ _ hp.1)
    · cases hd
  · cases hd
theorem S58 : SumOK Try.prog G0 gw 58 (fokSm dom58) := fok_sum Try.func58 rfl C58
def tr19 (q_mo : Bool) (mo : List Int) (q_ga : Bool) (ga : List Int) (q_de : Bool) (de : List Dem) : T (List Ar) :=
    T.need (iI mo) (T.need (iI ga) (T.need (iD de) (T.need (List.length (cI mo) ≤ (1000000 : Nat)) (T.need (List.length (cD de) ≤ (1000000 : Nat)) (T.need (∀ (d : Dem), d ∈ cD de → ByteArray.size (Dem.nm d) ≤ (1000000 : Nat) ∧ List.length (Dem.co d) ≤ (1000000 : Nat)) (T.ret [Ar.c (D.int IntKind.i64 (Prod.snd (M.checkProg (cI mo) (cI ga) (cD de))))]))))))
theorem t19 (q_mo : Bool) (mo : List Int) (q_ga : Bool) (ga : List Int) (q_de : Bool) (de : List Dem) : runFnX Try.prog G0 (lookS [v44]) (fun _ => []) [] 1 60 4 19 Try.f19 [.agg [.sl q_mo mo.length 1 (eI.F mo), .sl q_ga ga.length 1 (eI.F ga), .sl q_de de.length 3 (eDm.F de)]] =
    tr19 q_mo mo q_ga ga q_de de := by kernel_rfl
theorem w19 (qm : Bool) (mo : List Int) (qg : Bool) (ga : List Int) (qd : Bool) (de : List Dem) (h1 : mo.length ≤ 1000000) (h3 : de.length ≤ 1000000) (hn : ∀ d, d ∈ de → d.nm.size ≤ 1000000 ∧ d.co.length ≤ 1000000) :
    (tr19 qm mo qg ga qd de).wp (fun rs => rsEqv rs [rI (M.checkProg mo ga de).2]) := by
  unfold tr19
  simp only [cI, cD, iI, iD, Enc.list_F]
  exact ⟨Enc.is_F _ _ _, Enc.is_F _ _ _, Enc.is_F _ _ _, h1, h3, hn, rsEqv_refl _⟩
def dom19 : DomF
  | [.agg [.sl _ n_mo st_mo F_mo, .sl _ n_ga st_ga F_ga, .sl _ n_de st_de F_de]] => (match Nat.beq st_mo 1 && Nat.beq st_ga 1 && Nat.beq st_de 3 with
    | true => some ([eI.Is n_mo F_mo, eI.Is n_ga F_ga, eDm.Is n_de F_de, (eI.list n_mo F_mo).length ≤ 1000000, (eDm.list n_de F_de).length ≤ 1000000, ∀ d, d ∈ (eDm.list n_de F_de) → d.nm.size ≤ 1000000 ∧ d.co.length ≤ 1000000], [rI (M.checkProg (eI.list n_mo F_mo) (eI.list n_ga F_ga) (eDm.list n_de F_de)).2])
    | _ => none)
  | _ => none
def v19 : Nat × Sm := (19, fokSm dom19)
theorem C19 : FOK Try.prog G0 gw 19 dom19 := by
  intro ags p r hd hp κ w xs hw hl hG hx
  unfold dom19 at hd
  split at hd
  · rename_i q_mo n_mo st_mo F_mo q_ga n_ga st_ga F_ga q_de n_de st_de F_de
    split at hd
    · rename_i hst
      simp only [Bool.and_eq_true] at hst
      obtain ⟨⟨g1, g2⟩, g3⟩ := hst
      have g1 := Nat.eq_of_beq_eq_true g1
      have g2 := Nat.eq_of_beq_eq_true g2
      have g3 := Nat.eq_of_beq_eq_true g3
      subst g1 g2 g3
      simp only [Option.some.injEq, Prod.mk.injEq] at hd
      obtain ⟨rfl, rfl⟩ := hd
      obtain ⟨hI_mo, hI_ga, hI_de, hp⟩ := hp
      have heq : agsEqv [.agg [.sl q_mo n_mo 1 F_mo, .sl q_ga n_ga 1 F_ga, .sl q_de n_de 3 F_de]] [.agg [.sl q_mo (eI.list n_mo F_mo).length 1 (eI.F (eI.list n_mo F_mo)), .sl q_ga (eI.list n_ga F_ga).length 1 (eI.F (eI.list n_ga F_ga)), .sl q_de (eDm.list n_de F_de).length 3 (eDm.F (eDm.list n_de F_de))]] := ⟨⟨eI.to id hI_mo, eI.to id hI_ga, eDm.to id hI_de, trivial⟩, trivial⟩
      have len_mo : (eI.list n_mo F_mo).length = n_mo := eI.list_len
      have len_ga : (eI.list n_ga F_ga).length = n_ga := eI.list_len
      have len_de : (eDm.list n_de F_de).length = n_de := eDm.list_len
      generalize eI.list n_mo F_mo = mo at *
      generalize eI.list n_ga F_ga = ga at *
      generalize eDm.list n_de F_de = de at *
      subst len_mo len_ga len_de
      exact fokX_fin mixed gw_stable (sl := [v44]) ⟨S44, trivial⟩ Try.func19 hw hl hG hx heq rfl (t19 _ _ _ _ _ _) (w19 _ _ _ _ _ _ hp.1 hp.2.1 hp.2.2.1)
    · cases hd
  · cases hd
theorem S19 : SumOK Try.prog G0 gw 19 (fokSm dom19) := fok_sum Try.func19 rfl C19
def tr23 (q_mo : Bool) (mo : List Int) (q_ga : Bool) (ga : List Int) (q_de : Bool) (de : List Dem) (denx : Int) (q_pax : Bool) (pax : List Int) : T (List Ar) :=
    T.br ((Nat.cast (R := Int) (List.length pax)) != (Nat.cast (R := Int) (List.length mo))) (T.ret [Ar.c (D.int IntKind.i64 (10 : Int))]) (T.br (!M.within denx (1 : Int) (100000000000 : Int)) (T.ret [Ar.c (D.int IntKind.i64 (2 : Int))]) (T.loop (Int × PUnit) ((0 : Int), PUnit.unit) fun (x : Int × PUnit) => T.br (decide (Prod.fst x < (Nat.cast (R := Int) (List.length pax)))) (T.need ((0 : Int) ≤ Prod.fst x) (T.need (Prod.fst x < (Nat.cast (R := Int) (List.length pax))) (T.br (!M.within (List.getD pax (Int.toNat (Prod.fst x)) (0 : Int)) (0 : Int) (1000000000000000 : Int)) (T.ret (Sum.inr [Ar.c (D.int IntKind.i64 (2 : Int))])) (T.ret (Sum.inl (IntKind.i64.wrap (Prod.fst x + (1 : Int)), PUnit.unit)))))) (T.ret (Sum.inr [Ar.c (D.int IntKind.i64 (0 : Int))]))))
theorem t23 (q_mo : Bool) (mo : List Int) (q_ga : Bool) (ga : List Int) (q_de : Bool) (de : List Dem) (denx : Int) (q_pax : Bool) (pax : List Int) : runFnX Try.prog G0 (lookS [v45]) (fun _ => [(6, [.slot 5 (.int .i64)], none)]) [] 1 60 4 23 Try.f23 [.agg [.sl q_mo mo.length 1 (eI.F mo), .sl q_ga ga.length 1 (eI.F ga), .sl q_de de.length 3 (eDm.F de)], .agg [dI denx, .sl q_pax pax.length 1 (eI.F pax)]] =
    tr23 q_mo mo q_ga ga q_de de denx q_pax pax := by kernel_rfl
theorem w23 (qm : Bool) (mo : List Int) (qg : Bool) (ga : List Int) (qd : Bool) (de : List Dem) (den : Int) (qp : Bool) (pa : List Int) (h4 : pa.length ≤ 1000000) :
    (tr23 qm mo qg ga qd de den qp pa).wp (fun rs => rsEqv rs [rI (M.ptErr mo den pa)]) := by
  unfold tr23 M.ptErr M.ptOk
  refine wp_br (fun hb => ?_) (fun hb => ?_)
  · have hb : ((pa.length : Int) == (mo.length : Int)) = false := by simpa using hb
    rw [hb]; exact rsEqv_refl _
  have hb : ((pa.length : Int) == (mo.length : Int)) = true := by simpa using hb
  rw [hb]
  refine wp_br (fun hb => ?_) (fun hb => ?_)
  · have hb : M.within den 1 100000000000 = false := by simpa using hb
    rw [hb]; exact rsEqv_refl _
  have hb : M.within den 1 100000000000 = true := by simpa using hb
  rw [hb]
  refine range_wp (n := pa.length) (fun k _ => pa.any (badF 171) = (pa.drop k).any (badF 171)) rfl ?_
  rintro k u hk hI
  refine wp_br (fun hb => ?_) (fun hb => ?_)
  · have hlt := lt_of_dec hb
    have hs := any_step (is := badF 171) hlt
    refine ⟨by show (0 : Int) ≤ k; omega, by show (k : Int) < pa.length; omega, wp_br (fun hx => ?_) (fun hx => ?_)⟩
    · have hx : badF 171 (pa.getD k 0) = true := hx
      rw [hI, hs, hx]; exact rsEqv_refl _
    · have hx : badF 171 (pa.getD k 0) = false := hx
      rw [hx, Bool.false_or] at hs
      exact ⟨hlt, wrap_succ (by omega), hI.trans hs⟩
  · have hge := ge_of_dec hb
    obtain rfl : k = pa.length := by omega
    rw [hI, List.drop_length]; exact rsEqv_refl _
def dom23 : DomF
  | [.agg [.sl _ n_mo st_mo F_mo, .sl _ n_ga st_ga F_ga, .sl _ n_de st_de F_de], .agg [.int .i64 denx, .sl _ n_pax st_pax F_pax]] => (match Nat.beq st_mo 1 && Nat.beq st_ga 1 && Nat.beq st_de 3 && Nat.beq st_pax 1 with
    | true => some ([eI.Is n_mo F_mo, eI.Is n_ga F_ga, eDm.Is n_de F_de, eI.Is n_pax F_pax, (eI.list n_pax F_pax).length ≤ 1000000], [rI (M.ptErr (eI.list n_mo F_mo) denx (eI.list n_pax F_pax))])
    | _ => none)
  | _ => none
def v23 : Nat × Sm := (23, fokSm dom23)
theorem C23 : FOK Try.prog G0 gw 23 dom23 := by
  intro ags p r hd hp κ w xs hw hl hG hx
  unfold dom23 at hd
  split at hd
  · rename_i q_mo n_mo st_mo F_mo q_ga n_ga st_ga F_ga q_de n_de st_de F_de denx q_pax n_pax st_pax F_pax
    split at hd
    · rename_i hst
      simp only [Bool.and_eq_true] at hst
      obtain ⟨⟨⟨g1, g2⟩, g3⟩, g4⟩ := hst
      have g1 := Nat.eq_of_beq_eq_true g1
      have g2 := Nat.eq_of_beq_eq_true g2
      have g3 := Nat.eq_of_beq_eq_true g3
      have g4 := Nat.eq_of_beq_eq_true g4
      subst g1 g2 g3 g4
      simp only [Option.some.injEq, Prod.mk.injEq] at hd
      obtain ⟨rfl, rfl⟩ := hd
      obtain ⟨hI_mo, hI_ga, hI_de, hI_pax, hp⟩ := hp
      have heq : agsEqv [.agg [.sl q_mo n_mo 1 F_mo, .sl q_ga n_ga 1 F_ga, .sl q_de n_de 3 F_de], .agg [.int .i64 denx, .sl q_pax n_pax 1 F_pax]] [.agg [.sl q_mo (eI.list n_mo F_mo).length 1 (eI.F (eI.list n_mo F_mo)), .sl q_ga (eI.list n_ga F_ga).length 1 (eI.F (eI.list n_ga F_ga)), .sl q_de (eDm.list n_de F_de).length 3 (eDm.F (eDm.list n_de F_de))], .agg [.int .i64 denx, .sl q_pax (eI.list n_pax F_pax).length 1 (eI.F (eI.list n_pax F_pax))]] := ⟨⟨eI.to id hI_mo, eI.to id hI_ga, eDm.to id hI_de, trivial⟩, ⟨rfl, eI.to id hI_pax, trivial⟩, trivial⟩
      have len_mo : (eI.list n_mo F_mo).length = n_mo := eI.list_len
      have len_ga : (eI.list n_ga F_ga).length = n_ga := eI.list_len
      have len_de : (eDm.list n_de F_de).length = n_de := eDm.list_len
      have len_pax : (eI.list n_pax F_pax).length = n_pax := eI.list_len
      generalize eI.list n_mo F_mo = mo at *
      generalize eI.list n_ga F_ga = ga at *
      generalize eDm.list n_de F_de = de at *
      generalize eI.list n_pax F_pax = pax at *
      subst len_mo len_ga len_de len_pax
      exact fokX_fin mixed gw_stable (sl := [v45]) ⟨S45, trivial⟩ Try.func23 hw hl hG hx heq rfl (t23 _ _ _ _ _ _ _ _ _) (w23 _ _ _ _ _ _ _ _ _ hp.1)
    · cases hd
  · cases hd
theorem S23 : SumOK Try.prog G0 gw 23 (fokSm dom23) := fok_sum Try.func23 rfl C23
def tr132 (nm : ByteArray) (q_co : Bool) (co : List Int) (am : Int) (denx : Int) (q_pax : Bool) (pax : List Int) : T (List Ar) :=
    T.need (iI co) (T.need (iI pax) (T.need (List.length (cI co) ≤ (1000000 : Nat)) (T.need (List.length (cI co) ≤ List.length (cI pax)) (T.ret [Ar.c (D.int IntKind.i64 (IntKind.i64.wrap (IntKind.i64.wrap (am * denx) - M.dot (cI co) (cI pax))))]))))
theorem t132 (nm : ByteArray) (q_co : Bool) (co : List Int) (am : Int) (denx : Int) (q_pax : Bool) (pax : List Int) : runFnX Try.prog G0 (lookS [v90]) (fun _ => []) [] 1 60 4 132 Try.f132 [.agg [.str nm, .sl q_co co.length 1 (eI.F co), .int .i64 am], .agg [dI denx, .sl q_pax pax.length 1 (eI.F pax)]] =
    tr132 nm q_co co am denx q_pax pax := by kernel_rfl
theorem w132 (nm : ByteArray) (qc : Bool) (co : List Int) (am den : Int) (qp : Bool) (pa : List Int) (h : co.length ≤ 1000000) (h2 : co.length ≤ pa.length) : (tr132 nm qc co am den qp pa).wp (fun rs => rsEqv rs [rI (M.room ⟨nm, co, am⟩ den pa)]) := by
  unfold tr132
  simp only [cI, iI, Enc.list_F]
  exact ⟨Enc.is_F _ _ _, Enc.is_F _ _ _, h, h2, rsEqv_refl _⟩
def dom132 : DomF
  | [.agg [.str nm, .sl qc n st F, .int .i64 am], .agg [.int .i64 den, .sl qp n' st' F']] => (match Nat.beq st 1 && Nat.beq st' 1 with
    | true => some ([eI.Is n F, eI.Is n' F', (eI.list n F).length ≤ 1000000, (eI.list n F).length ≤ (eI.list n' F').length], [rI (M.room ⟨nm, eI.list n F, am⟩ den (eI.list n' F'))])
    | _ => none)
  | _ => none
def v132 : Nat × Sm := (132, fokSm dom132)
theorem C132 : FOK Try.prog G0 gw 132 dom132 := by
  intro ags p r hd hp κ w xs hw hl hG hx
  unfold dom132 at hd
  split at hd
  · rename_i nm qc n st F am den qp n' st' F'
    split at hd
    · rename_i hst
      simp only [Bool.and_eq_true] at hst
      have g1 := Nat.eq_of_beq_eq_true hst.1
      have g2 := Nat.eq_of_beq_eq_true hst.2
      subst g1 g2
      simp only [Option.some.injEq, Prod.mk.injEq] at hd
      obtain ⟨rfl, rfl⟩ := hd
      obtain ⟨i1, i2, l1, l2, _⟩ := hp
      have heq : agsEqv [.agg [.str nm, .sl qc n 1 F, .int .i64 am], .agg [.int .i64 den, .sl qp n' 1 F']] [.agg [.str nm, .sl qc (eI.list n F).length 1 (eI.F (eI.list n F)), .int .i64 am], .agg [.int .i64 den, .sl qp (eI.list n' F').length 1 (eI.F (eI.list n' F'))]] := ⟨⟨rfl, eI.to id i1, rfl, trivial⟩, ⟨rfl, eI.to id i2, trivial⟩, trivial⟩
      exact fokX_fin mixed gw_stable (sl := [v90]) ⟨S90, trivial⟩ Try.func132 hw hl hG hx heq rfl (t132 _ _ _ _ _ _ _) (w132 _ _ _ _ _ _ _ l1 l2)
    · cases hd
  · cases hd
theorem S132 : SumOK Try.prog G0 gw 132 (fokSm dom132) := fok_sum Try.func132 rfl C132
def tr21 (n d : Int) : T (List Ar) :=
    T.need (i64ok n) (T.need (i64ok d) (T.br (decide (d < 0)) (T.need (IntKind.i64.wrap (0 - ((Int.gcd n d : Nat) : Int)) ≠ 0) (T.need (IntKind.i64.wrap (0 - ((Int.gcd n d : Nat) : Int)) ≠ 0) (T.ret [.agg [dI (IntKind.i64.wrap (n.tdiv (IntKind.i64.wrap (0 - ((Int.gcd n d : Nat) : Int))))), dI (IntKind.i64.wrap (d.tdiv (IntKind.i64.wrap (0 - ((Int.gcd n d : Nat) : Int)))))]]))) (T.need (((Int.gcd n d : Nat) : Int) ≠ 0) (T.need (((Int.gcd n d : Nat) : Int) ≠ 0) (T.ret [.agg [dI (IntKind.i64.wrap (n.tdiv ((Int.gcd n d : Nat) : Int))), dI (IntKind.i64.wrap (d.tdiv ((Int.gcd n d : Nat) : Int)))]])))))
theorem t21 (n d : Int) : runFnX Try.prog G0 (lookS [v91]) (fun _ => []) [] 1 60 4 21 Try.f21 [.c (dI n), .c (dI d)] =
    tr21 n d := by kernel_rfl
theorem w21 (n d : Int) (hn : i64ok n) (hd : i64ok d) (h0 : 0 < d) : (tr21 n d).wp (fun rs => rsEqv rs [.agg [dI (M.told1 n d), dI (M.told2 n d)]]) := by
  unfold tr21
  have hg : Int.gcd n d ≠ 0 := by
    intro h
    have := Int.gcd_eq_zero_iff.1 h
    omega
  have w1 := tdiv_ok (n := n) (g := Int.gcd n d) hn
  have w2 := tdiv_ok (n := d) (g := Int.gcd n d) hd
  refine ⟨hn, hd, wp_br (fun hb => ?_) (fun _ => ⟨by omega, by omega, ?_⟩)⟩
  · have : d < 0 := of_decide_eq_true hb
    omega
  · rw [w1, w2]; exact rsEqv_refl _
def dom21 : DomF
  | [.c (.int .i64 n), .c (.int .i64 d)] => some ([i64ok n, i64ok d, 0 < d], [.agg [dI (M.told1 n d), dI (M.told2 n d)]])
  | _ => none
def v21 : Nat × Sm := (21, fokSm dom21)
theorem C21 : FOK Try.prog G0 gw 21 dom21 := by
  intro ags p r hd hp κ w xs hw hl hG hx
  unfold dom21 at hd
  split at hd
  · rename_i n d
    simp only [Option.some.injEq, Prod.mk.injEq] at hd
    obtain ⟨rfl, rfl⟩ := hd
    have heq : agsEqv [.c (.int .i64 n), .c (.int .i64 d)] [.c (.int .i64 n), .c (.int .i64 d)] := ⟨Ag.eqv_refl _, Ag.eqv_refl _, trivial⟩
    exact fokX_fin mixed gw_stable (sl := [v91]) ⟨S91, trivial⟩ Try.func21 hw hl hG hx heq rfl (t21 n d) (w21 n d hp.1 hp.2.1 hp.2.2.1)
  · cases hd
theorem S21 : SumOK Try.prog G0 gw 21 (fokSm dom21) := fok_sum Try.func21 rfl C21
def tr22 (n d : Int) : T (List Ar) :=
    T.br (M.within n (-1000000000 : Int) (1000000000 : Int)) (T.ret [Ar.c (D.bool (M.within d (1 : Int) (1000000000 : Int)))]) (T.ret [Ar.c (D.bool false)])
theorem t22 (n d : Int) : runFnX Try.prog G0 (lookS [v45]) (fun _ => []) [] 1 60 4 22 Try.f22 [.agg [dI n, dI d]] =
    tr22 n d := by kernel_rfl
theorem w22 (n d : Int) : (tr22 n d).wp (fun rs => rsEqv rs [rB (M.isSmall n d)]) := by
  unfold tr22 M.isSmall
  exact wp_br (fun hb => by rw [hb]; exact rsEqv_refl _) (fun hb => by rw [hb]; exact rsEqv_refl _)
def dom22 : DomF
  | [.agg [.int .i64 n, .int .i64 d]] => some ([], [rB (M.isSmall n d)])
  | _ => none
def v22 : Nat × Sm := (22, fokSm dom22)
theorem C22 : FOK Try.prog G0 gw 22 dom22 := by
  intro ags p r hd hp κ w xs hw hl hG hx
  unfold dom22 at hd
  split at hd
  · rename_i n d
    simp only [Option.some.injEq, Prod.mk.injEq] at hd
    obtain ⟨rfl, rfl⟩ := hd
    exact fokX_fin mixed gw_stable (sl := [v45]) ⟨S45, trivial⟩ Try.func22 hw hl hG hx (agsEqv_refl _) rfl (t22 n d) (w22 n d)
  · cases hd
theorem S22 : SumOK Try.prog G0 gw 22 (fokSm dom22) := fok_sum Try.func22 rfl C22
end Go.Pl
end

section
set_option linter.unusedVariables false
set_option linter.unusedSimpArgs false
set_option maxRecDepth 100000
namespace Go.Pl
open Go.V Go.Proofs
namespace M
def overP (mo : List Int) (den : Int) (pa : List Int) (k : Nat) : Bool := decide (pa.getD k 0 > IntKind.i64.wrap (mo.getD k 0 * den))
def negR (de : List Dem) (den : Int) (pa : List Int) (k : Nat) : Bool := decide (room (de.getD k dfD) den pa < 0)
def zeroR (de : List Dem) (den : Int) (pa : List Int) (k : Nat) : Bool := room (de.getD k dfD) den pa == 0
def brk (de : List Dem) (den : Int) (pa : List Int) : Int := firstIdx (negR de den pa) de.length 0
def allowE (mo : List Int) (de : List Dem) (den : Int) (pa : List Int) : Int := cond (decide (firstIdx (overP mo den pa) mo.length 0 < 0)) (cond (decide (brk de den pa < 0)) 0 13) 24
def bindK (z : Nat → Bool) (k : Nat) : List Int := ((List.range k).filter z).map (fun i : Nat => (i : Int))
def binds (de : List Dem) (den : Int) (pa : List Int) : List Int := bindK (zeroR de den pa) de.length
def ckPt (mo ga : List Int) (de : List Dem) (den : Int) (pa : List Int) : Int × Int × Int := cond (allowE mo de den pa != 0) (0, 0, allowE mo de den pa) (frac (dot ga pa) den)
end M
theorem bindK_succ (z : Nat → Bool) (k : Nat) : M.bindK z (k + 1) = M.bindK z k ++ (if z k = true then [(k : Int)] else []) := by
  unfold M.bindK
  rw [List.range_succ, List.filter_append, List.map_append]
  congr 1
  by_cases h : z k = true
  · rw [if_pos h, List.filter_cons_of_pos h]; rfl
  · rw [if_neg h, List.filter_cons_of_neg h]; rfl
theorem bindK_len (z : Nat → Bool) (k : Nat) : (M.bindK z k).length ≤ k := by
  unfold M.bindK
  rw [List.length_map]
  have := List.length_filter_le z (List.range k)
  rw [List.length_range] at this
  exact this
abbrev inQ (n : Int) : Nat → Nat → D := fun (i j : Nat) => List.getD [D.int IntKind.i64 n] (i * 1 + j) D.nilp
theorem inQ_push {n : Int} : (∀ j, j < eI.st → (inQ n 0 j).eqv (eI.enc n j)) ∧ eI.rd (inQ n 0) = n := by
  refine ⟨fun j hj => ?_, rfl⟩
  obtain rfl : j = 0 := Nat.lt_one_iff.1 hj
  exact D.eqv_refl _
theorem small_sm (n d : Int) (h0 : 0 < d) (hd : i64ok d) : M.frac n d = cond (M.isSmall (M.told1 n d) (M.told2 n d)) (M.told1 n d, M.told2 n d, 0) (0, 0, 8) := by
  have h1 : 1 ≤ M.told2 n d := by
    unfold M.told2
    have hg : Int.gcd n d ≠ 0 := fun h => by have := Int.gcd_eq_zero_iff.1 h; omega
    have hdv : ((Int.gcd n d : Nat) : Int) ∣ d := Int.gcd_dvd_right ..
    obtain ⟨c, hc⟩ := hdv
    have hgp : (0 : Int) < (Int.gcd n d : Nat) := by omega
    have key : ∀ g : Int, 0 < g → d = g * c → d.tdiv g = c := by
      intro g hg h
      rw [h]
      exact Int.mul_tdiv_cancel_left _ (by omega)
    have : d.tdiv (Int.gcd n d : Nat) = c := key _ hgp hc
    rw [this]
    rcases Int.lt_or_le 0 c with h | h
    · omega
    · have h2 : ((Int.gcd n d : Nat) : Int) * c ≤ 0 := Int.mul_nonpos_of_nonneg_of_nonpos (by omega) h
      have := Int.le_trans (Int.le_of_eq hc) h2
      omega
  unfold M.frac M.isSmall
  have e1 : M.within (M.told1 n d) (-1000000000) 1000000000 = M.small (M.told1 n d) 1000000000 := rfl
  rw [e1]
  cases M.small (M.told1 n d) 1000000000 with
  | false => rfl
  | true =>
    show cond (decide (M.told2 n d > 1000000000)) _ _ = cond (M.within (M.told2 n d) 1 1000000000) _ _
    unfold M.within
    by_cases h : M.told2 n d > 1000000000
    · rw [decide_eq_true h, decide_eq_false (show ¬ M.told2 n d ≤ 1000000000 by omega), Bool.and_false]; rfl
    · rw [decide_eq_false h, decide_eq_true (show M.told2 n d ≤ 1000000000 by omega), decide_eq_true h1]; rfl
def tr92 (n d : Int) : T (List Ar) :=
    T.need (i64ok n) (T.need (i64ok d) (T.need ((0 : Int) < d) (T.br (!M.isSmall (M.told1 n d) (M.told2 n d)) (T.ret [Ar.agg [D.int IntKind.i64 (0 : Int), D.int IntKind.i64 (0 : Int)], Ar.c (D.int IntKind.i64 (8 : Int))]) (T.ret [Ar.agg [D.int IntKind.i64 (M.told1 n d), D.int IntKind.i64 (M.told2 n d)], Ar.c (D.int IntKind.i64 (0 : Int))]))))
theorem t92 (n d : Int) : runFnX Try.prog G0 (lookS [v21, v22]) (fun _ => []) [] 1 60 4 92 Try.f92 [.c (dI n), .c (dI d)] =
    tr92 n d := by kernel_rfl
theorem w92 (n d : Int) (hn : i64ok n) (hd : i64ok d) (h0 : 0 < d) : (tr92 n d).wp (fun rs => rsEqv rs (resF (M.frac n d))) := by
  unfold tr92
  rw [small_sm n d h0 hd]
  refine ⟨hn, hd, h0, wp_br (fun hb => ?_) (fun hb => ?_)⟩
  · rw [Bool.not_eq_true'] at hb; rw [hb]; exact rsEqv_refl _
  · rw [Bool.not_eq_false'] at hb; rw [hb]; exact rsEqv_refl _
def dom92 : DomF
  | [.c (.int .i64 n), .c (.int .i64 d)] => some ([i64ok n, i64ok d, 0 < d], resF (M.frac n d))
  | _ => none
def v92 : Nat × Sm := (92, fokSm dom92)
theorem C92 : FOK Try.prog G0 gw 92 dom92 := by
  intro ags p r hd hp κ w xs hw hl hG hx
  unfold dom92 at hd
  split at hd
  · rename_i n d
    simp only [Option.some.injEq, Prod.mk.injEq] at hd
    obtain ⟨rfl, rfl⟩ := hd
    have heq : agsEqv [.c (.int .i64 n), .c (.int .i64 d)] [.c (.int .i64 n), .c (.int .i64 d)] := ⟨Ag.eqv_refl _, Ag.eqv_refl _, trivial⟩
    exact fokX_fin mixed gw_stable (sl := [v21, v22]) ⟨S21, S22, trivial⟩ Try.func92 hw hl hG hx heq rfl (t92 n d) (w92 n d hp.1 hp.2.1 hp.2.2.1)
  · cases hd
theorem S92 : SumOK Try.prog G0 gw 92 (fokSm dom92) := fok_sum Try.func92 rfl C92
def tr89 (q_mo : Bool) (mo : List Int) (q_ga : Bool) (ga : List Int) (q_de : Bool) (de : List Dem) (denx : Int) (q_pax : Bool) (pax : List Int) : T (List Ar) :=
    T.loop (Int × PUnit) ((0 : Int), PUnit.unit) fun (x : Int × PUnit) => T.br (decide (Prod.fst x < (Nat.cast (R := Int) (List.length mo)))) (T.need ((0 : Int) ≤ Prod.fst x) (T.need (Prod.fst x < (Nat.cast (R := Int) (List.length pax))) (T.need ((0 : Int) ≤ Prod.fst x) (T.need (Prod.fst x < (Nat.cast (R := Int) (List.length mo))) (T.br (decide (List.getD pax (Int.toNat (Prod.fst x)) (0 : Int) > IntKind.i64.wrap (List.getD mo (Int.toNat (Prod.fst x)) (0 : Int) * denx))) (T.ret (Sum.inr [Ar.c (D.int IntKind.i64 (24 : Int))])) (T.ret (Sum.inl (IntKind.i64.wrap (Prod.fst x + (1 : Int)), PUnit.unit)))))))) (T.loop (Int × PUnit) ((0 : Int), PUnit.unit) fun (x_1 : Int × PUnit) => T.br (decide (Prod.fst x_1 < (Nat.cast (R := Int) (List.length de)))) (T.need ((0 : Int) ≤ Prod.fst x_1) (T.need (Prod.fst x_1 < (Nat.cast (R := Int) (List.length de))) (T.need (Enc.Is eI (List.length (Dem.co (List.getD de (Int.toNat (Prod.fst x_1)) dfD))) (Enc.F eI (Dem.co (List.getD de (Int.toNat (Prod.fst x_1)) dfD)))) (T.need (iI pax) (T.need (List.length (Enc.list eI (List.length (Dem.co (List.getD de (Int.toNat (Prod.fst x_1)) dfD))) (Enc.F eI (Dem.co (List.getD de (Int.toNat (Prod.fst x_1)) dfD)))) ≤ (1000000 : Nat)) (T.need (List.length (Enc.list eI (List.length (Dem.co (List.getD de (Int.toNat (Prod.fst x_1)) dfD))) (Enc.F eI (Dem.co (List.getD de (Int.toNat (Prod.fst x_1)) dfD)))) ≤ List.length (cI pax)) (T.br (decide (M.room { nm := Dem.nm (List.getD de (Int.toNat (Prod.fst x_1)) dfD), co := Enc.list eI (List.length (Dem.co (List.getD de (Int.toNat (Prod.fst x_1)) dfD))) (Enc.F eI (Dem.co (List.getD de (Int.toNat (Prod.fst x_1)) dfD))), am := Dem.am (List.getD de (Int.toNat (Prod.fst x_1)) dfD) } denx (cI pax) < (0 : Int))) (T.ret (Sum.inr (Sum.inr [Ar.c (D.int IntKind.i64 (13 : Int))]))) (T.ret (Sum.inl (IntKind.i64.wrap (Prod.fst x_1 + (1 : Int)), PUnit.unit)))))))))) (T.ret (Sum.inr (Sum.inr [Ar.c (D.int IntKind.i64 (0 : Int))]))))
theorem t89 (q_mo : Bool) (mo : List Int) (q_ga : Bool) (ga : List Int) (q_de : Bool) (de : List Dem) (denx : Int) (q_pax : Bool) (pax : List Int) : runFnX Try.prog G0 (lookS [v132]) (fun _ => [(2, [.slot 5 (.int .i64)], none), (7, [.slot 6 (.int .i64)], none)]) [] 1 60 4 89 Try.f89 [.agg [.sl q_mo mo.length 1 (eI.F mo), .sl q_ga ga.length 1 (eI.F ga), .sl q_de de.length 3 (eDm.F de)], .agg [dI denx, .sl q_pax pax.length 1 (eI.F pax)]] =
    tr89 q_mo mo q_ga ga q_de de denx q_pax pax := by kernel_rfl
theorem w89 (qm : Bool) (mo : List Int) (qg : Bool) (ga : List Int) (qd : Bool) (de : List Dem) (den : Int) (qp : Bool) (pa : List Int) (h1 : mo.length ≤ 1000000) (h3 : de.length ≤ 1000000) (hl : mo.length ≤ pa.length) (hn : ∀ d, d ∈ de → d.co.length ≤ 1000000 ∧ d.co.length ≤ pa.length) :
    (tr89 qm mo qg ga qd de den qp pa).wp (fun rs => rsEqv rs [rI (M.allowE mo de den pa)]) := by
  unfold tr89 M.allowE M.brk
  simp only [cI, cD, iI, iD, Enc.list_F]
  refine range_wp (n := mo.length) (fun k _ => M.firstIdx (M.overP mo den pa) mo.length 0 = M.firstIdx (M.overP mo den pa) (mo.length - k) k) rfl ?_
  rintro k u hk hJ
  refine wp_br (fun hb => ?_) (fun hb => ?_)
  · have hlt := lt_of_dec hb
    have hs := idx_step (p := M.overP mo den pa) hlt
    refine ⟨by show (0 : Int) ≤ k; omega, by show (k : Int) < pa.length; omega, by show (0 : Int) ≤ k; omega, by show (k : Int) < mo.length; omega, wp_br (fun hx => ?_) (fun hx => ?_)⟩
    · have hx : M.overP mo den pa k = true := hx
      rw [hx] at hs
      rw [hJ, hs]
      show rsEqv _ [rI (cond (decide ((k : Int) < 0)) _ 24)]
      rw [decide_eq_false (by omega)]; exact rsEqv_refl _
    · have hx : M.overP mo den pa k = false := hx
      rw [hx] at hs
      exact ⟨hlt, wrap_succ (by omega), hJ.trans hs⟩
  have hge := ge_of_dec hb
  obtain rfl : k = mo.length := by omega
  rw [Nat.sub_self] at hJ
  rw [hJ]
  refine range_wp (n := de.length) (fun k _ => M.firstIdx (M.negR de den pa) de.length 0 = M.firstIdx (M.negR de den pa) (de.length - k) k) rfl ?_
  rintro k u hk hI
  refine wp_br (fun hb => ?_) (fun hb => ?_)
  · have hlt := lt_of_dec hb
    have hs := idx_step (p := M.negR de den pa) hlt
    refine ⟨by show (0 : Int) ≤ k; omega, by show (k : Int) < de.length; omega, Enc.is_F _ _ _, Enc.is_F _ _ _, (hn _ (getD_mem hlt)).1, (hn _ (getD_mem hlt)).2, wp_br (fun hx => ?_) (fun hx => ?_)⟩
    · have hx : M.negR de den pa k = true := hx
      rw [hx] at hs
      rw [hI, hs]
      show rsEqv _ [rI (cond (decide ((k : Int) < 0)) 0 13)]
      rw [decide_eq_false (by omega)]; exact rsEqv_refl _
    · have hx : M.negR de den pa k = false := hx
      rw [hx] at hs
      exact ⟨hlt, wrap_succ (by omega), hI.trans hs⟩
  · have hge := ge_of_dec hb
    obtain rfl : k = de.length := by omega
    rw [Nat.sub_self] at hI
    rw [hI]; exact rsEqv_refl _
def dom89 : DomF
  | [.agg [.sl _ n_mo st_mo F_mo, .sl _ n_ga st_ga F_ga, .sl _ n_de st_de F_de], .agg [.int .i64 denx, .sl _ n_pax st_pax F_pax]] => (match Nat.beq st_mo 1 && Nat.beq st_ga 1 && Nat.beq st_de 3 && Nat.beq st_pax 1 with
    | true => some ([eI.Is n_mo F_mo, eI.Is n_ga F_ga, eDm.Is n_de F_de, eI.Is n_pax F_pax, (eI.list n_mo F_mo).length ≤ 1000000, (eDm.list n_de F_de).length ≤ 1000000, (eI.list n_mo F_mo).length ≤ (eI.list n_pax F_pax).length, ∀ d, d ∈ (eDm.list n_de F_de) → d.co.length ≤ 1000000 ∧ d.co.length ≤ (eI.list n_pax F_pax).length], [rI (M.allowE (eI.list n_mo F_mo) (eDm.list n_de F_de) denx (eI.list n_pax F_pax))])
    | _ => none)
  | _ => none
def v89 : Nat × Sm := (89, fokSm dom89)
theorem C89 : FOK Try.prog G0 gw 89 dom89 := by
  intro ags p r hd hp κ w xs hw hl hG hx
  unfold dom89 at hd
  split at hd
  · rename_i q_mo n_mo st_mo F_mo q_ga n_ga st_ga F_ga q_de n_de st_de F_de denx q_pax n_pax st_pax F_pax
    split at hd
    · rename_i hst
      simp only [Bool.and_eq_true] at hst
      obtain ⟨⟨⟨g1, g2⟩, g3⟩, g4⟩ := hst
      have g1 := Nat.eq_of_beq_eq_true g1
      have g2 := Nat.eq_of_beq_eq_true g2
      have g3 := Nat.eq_of_beq_eq_true g3
      have g4 := Nat.eq_of_beq_eq_true g4
      subst g1 g2 g3 g4
      simp only [Option.some.injEq, Prod.mk.injEq] at hd
      obtain ⟨rfl, rfl⟩ := hd
      obtain ⟨hI_mo, hI_ga, hI_de, hI_pax, hp⟩ := hp
      have heq : agsEqv [.agg [.sl q_mo n_mo 1 F_mo, .sl q_ga n_ga 1 F_ga, .sl q_de n_de 3 F_de], .agg [.int .i64 denx, .sl q_pax n_pax 1 F_pax]] [.agg [.sl q_mo (eI.list n_mo F_mo).length 1 (eI.F (eI.list n_mo F_mo)), .sl q_ga (eI.list n_ga F_ga).length 1 (eI.F (eI.list n_ga F_ga)), .sl q_de (eDm.list n_de F_de).length 3 (eDm.F (eDm.list n_de F_de))], .agg [.int .i64 denx, .sl q_pax (eI.list n_pax F_pax).length 1 (eI.F (eI.list n_pax F_pax))]] := ⟨⟨eI.to id hI_mo, eI.to id hI_ga, eDm.to id hI_de, trivial⟩, ⟨rfl, eI.to id hI_pax, trivial⟩, trivial⟩
      have len_mo : (eI.list n_mo F_mo).length = n_mo := eI.list_len
      have len_ga : (eI.list n_ga F_ga).length = n_ga := eI.list_len
      have len_de : (eDm.list n_de F_de).length = n_de := eDm.list_len
      have len_pax : (eI.list n_pax F_pax).length = n_pax := eI.list_len
      generalize eI.list n_mo F_mo = mo at *
      generalize eI.list n_ga F_ga = ga at *
      generalize eDm.list n_de F_de = de at *
      generalize eI.list n_pax F_pax = pax at *
      subst len_mo len_ga len_de len_pax
      exact fokX_fin mixed gw_stable (sl := [v132]) ⟨S132, trivial⟩ Try.func89 hw hl hG hx heq rfl (t89 _ _ _ _ _ _ _ _ _) (w89 _ _ _ _ _ _ _ _ _ hp.1 hp.2.1 hp.2.2.1 hp.2.2.2.1)
    · cases hd
  · cases hd
theorem S89 : SumOK Try.prog G0 gw 89 (fokSm dom89) := fok_sum Try.func89 rfl C89
def tr65 (q_mo : Bool) (mo : List Int) (q_ga : Bool) (ga : List Int) (q_de : Bool) (de : List Dem) (denx : Int) (q_pax : Bool) (pax : List Int) : T (List Ar) :=
    T.loop (Int × PUnit) ((0 : Int), PUnit.unit) fun (x : Int × PUnit) => T.br (decide (Prod.fst x < (Nat.cast (R := Int) (List.length de)))) (T.need ((0 : Int) ≤ Prod.fst x) (T.need (Prod.fst x < (Nat.cast (R := Int) (List.length de))) (T.need (Enc.Is eI (List.length (Dem.co (List.getD de (Int.toNat (Prod.fst x)) dfD))) (Enc.F eI (Dem.co (List.getD de (Int.toNat (Prod.fst x)) dfD)))) (T.need (iI pax) (T.need (List.length (Enc.list eI (List.length (Dem.co (List.getD de (Int.toNat (Prod.fst x)) dfD))) (Enc.F eI (Dem.co (List.getD de (Int.toNat (Prod.fst x)) dfD)))) ≤ (1000000 : Nat)) (T.need (List.length (Enc.list eI (List.length (Dem.co (List.getD de (Int.toNat (Prod.fst x)) dfD))) (Enc.F eI (Dem.co (List.getD de (Int.toNat (Prod.fst x)) dfD)))) ≤ List.length (cI pax)) (T.br (decide (M.room { nm := Dem.nm (List.getD de (Int.toNat (Prod.fst x)) dfD), co := Enc.list eI (List.length (Dem.co (List.getD de (Int.toNat (Prod.fst x)) dfD))) (Enc.F eI (Dem.co (List.getD de (Int.toNat (Prod.fst x)) dfD))), am := Dem.am (List.getD de (Int.toNat (Prod.fst x)) dfD) } denx (cI pax) < (0 : Int))) (T.ret (Sum.inr [Ar.c (D.int IntKind.i64 (Prod.fst x))])) (T.ret (Sum.inl (IntKind.i64.wrap (Prod.fst x + (1 : Int)), PUnit.unit)))))))))) (T.ret (Sum.inr [Ar.c (D.int IntKind.i64 (-1 : Int))]))
theorem t65 (q_mo : Bool) (mo : List Int) (q_ga : Bool) (ga : List Int) (q_de : Bool) (de : List Dem) (denx : Int) (q_pax : Bool) (pax : List Int) : runFnX Try.prog G0 (lookS [v132]) (fun _ => [(2, [.slot 5 (.int .i64)], none)]) [] 1 60 4 65 Try.f65 [.agg [.sl q_mo mo.length 1 (eI.F mo), .sl q_ga ga.length 1 (eI.F ga), .sl q_de de.length 3 (eDm.F de)], .agg [dI denx, .sl q_pax pax.length 1 (eI.F pax)]] =
    tr65 q_mo mo q_ga ga q_de de denx q_pax pax := by kernel_rfl
theorem w65 (qm : Bool) (mo : List Int) (qg : Bool) (ga : List Int) (qd : Bool) (de : List Dem) (den : Int) (qp : Bool) (pa : List Int) (h3 : de.length ≤ 1000000) (hn : ∀ d, d ∈ de → d.co.length ≤ 1000000 ∧ d.co.length ≤ pa.length) :
    (tr65 qm mo qg ga qd de den qp pa).wp (fun rs => rsEqv rs [rI (M.brk de den pa)]) := by
  unfold tr65 M.brk
  simp only [cI, cD, iI, iD, Enc.list_F]
  refine range_wp (n := de.length) (fun k _ => M.firstIdx (M.negR de den pa) de.length 0 = M.firstIdx (M.negR de den pa) (de.length - k) k) rfl ?_
  rintro k u hk hI
  refine wp_br (fun hb => ?_) (fun hb => ?_)
  · have hlt := lt_of_dec hb
    have hs := idx_step (p := M.negR de den pa) hlt
    refine ⟨by show (0 : Int) ≤ k; omega, by show (k : Int) < de.length; omega, Enc.is_F _ _ _, Enc.is_F _ _ _, (hn _ (getD_mem hlt)).1, (hn _ (getD_mem hlt)).2, wp_br (fun hx => ?_) (fun hx => ?_)⟩
    · have hx : M.negR de den pa k = true := hx
      rw [hx] at hs
      rw [hI, hs]; exact rsEqv_refl _
    · have hx : M.negR de den pa k = false := hx
      rw [hx] at hs
      exact ⟨hlt, wrap_succ (by omega), hI.trans hs⟩
  · have hge := ge_of_dec hb
    obtain rfl : k = de.length := by omega
    rw [Nat.sub_self] at hI
    rw [hI]; exact rsEqv_refl _
def dom65 : DomF
  | [.agg [.sl _ n_mo st_mo F_mo, .sl _ n_ga st_ga F_ga, .sl _ n_de st_de F_de], .agg [.int .i64 denx, .sl _ n_pax st_pax F_pax]] => (match Nat.beq st_mo 1 && Nat.beq st_ga 1 && Nat.beq st_de 3 && Nat.beq st_pax 1 with
    | true => some ([eI.Is n_mo F_mo, eI.Is n_ga F_ga, eDm.Is n_de F_de, eI.Is n_pax F_pax, (eDm.list n_de F_de).length ≤ 1000000, ∀ d, d ∈ (eDm.list n_de F_de) → d.co.length ≤ 1000000 ∧ d.co.length ≤ (eI.list n_pax F_pax).length], [rI (M.brk (eDm.list n_de F_de) denx (eI.list n_pax F_pax))])
    | _ => none)
  | _ => none
def v65 : Nat × Sm := (65, fokSm dom65)
theorem C65 : FOK Try.prog G0 gw 65 dom65 := by
  intro ags p r hd hp κ w xs hw hl hG hx
  unfold dom65 at hd
  split at hd
  · rename_i q_mo n_mo st_mo F_mo q_ga n_ga st_ga F_ga q_de n_de st_de F_de denx q_pax n_pax st_pax F_pax
    split at hd
    · rename_i hst
      simp only [Bool.and_eq_true] at hst
      obtain ⟨⟨⟨g1, g2⟩, g3⟩, g4⟩ := hst
      have g1 := Nat.eq_of_beq_eq_true g1
      have g2 := Nat.eq_of_beq_eq_true g2
      have g3 := Nat.eq_of_beq_eq_true g3
      have g4 := Nat.eq_of_beq_eq_true g4
      subst g1 g2 g3 g4
      simp only [Option.some.injEq, Prod.mk.injEq] at hd
      obtain ⟨rfl, rfl⟩ := hd
      obtain ⟨hI_mo, hI_ga, hI_de, hI_pax, hp⟩ := hp
      have heq : agsEqv [.agg [.sl q_mo n_mo 1 F_mo, .sl q_ga n_ga 1 F_ga, .sl q_de n_de 3 F_de], .agg [.int .i64 denx, .sl q_pax n_pax 1 F_pax]] [.agg [.sl q_mo (eI.list n_mo F_mo).length 1 (eI.F (eI.list n_mo F_mo)), .sl q_ga (eI.list n_ga F_ga).length 1 (eI.F (eI.list n_ga F_ga)), .sl q_de (eDm.list n_de F_de).length 3 (eDm.F (eDm.list n_de F_de))], .agg [.int .i64 denx, .sl q_pax (eI.list n_pax F_pax).length 1 (eI.F (eI.list n_pax F_pax))]] := ⟨⟨eI.to id hI_mo, eI.to id hI_ga, eDm.to id hI_de, trivial⟩, ⟨rfl, eI.to id hI_pax, trivial⟩, trivial⟩
      have len_mo : (eI.list n_mo F_mo).length = n_mo := eI.list_len
      have len_ga : (eI.list n_ga F_ga).length = n_ga := eI.list_len
      have len_de : (eDm.list n_de F_de).length = n_de := eDm.list_len
      have len_pax : (eI.list n_pax F_pax).length = n_pax := eI.list_len
      generalize eI.list n_mo F_mo = mo at *
      generalize eI.list n_ga F_ga = ga at *
      generalize eDm.list n_de F_de = de at *
      generalize eI.list n_pax F_pax = pax at *
      subst len_mo len_ga len_de len_pax
      exact fokX_fin mixed gw_stable (sl := [v132]) ⟨S132, trivial⟩ Try.func65 hw hl hG hx heq rfl (t65 _ _ _ _ _ _ _ _ _) (w65 _ _ _ _ _ _ _ _ _ hp.1 hp.2.1)
    · cases hd
  · cases hd
theorem S65 : SumOK Try.prog G0 gw 65 (fokSm dom65) := fok_sum Try.func65 rfl C65
def tr51 (q_mo : Bool) (mo : List Int) (q_ga : Bool) (ga : List Int) (q_de : Bool) (de : List Dem) (denx : Int) (q_pax : Bool) (pax : List Int) : T (List Ar) :=
    T.loop2 (Int × PUnit × PUnit) (Int × List Int × PUnit) (Sum.inl ((0 : Int), PUnit.unit, PUnit.unit)) (fun (x : Int × PUnit × PUnit) => T.br (decide (Prod.fst x < (Nat.cast (R := Int) (List.length de)))) (T.need ((0 : Int) ≤ Prod.fst x) (T.need (Prod.fst x < (Nat.cast (R := Int) (List.length de))) (T.need (Enc.Is eI (List.length (Dem.co (List.getD de (Int.toNat (Prod.fst x)) dfD))) (Enc.F eI (Dem.co (List.getD de (Int.toNat (Prod.fst x)) dfD)))) (T.need (iI pax) (T.need (List.length (Enc.list eI (List.length (Dem.co (List.getD de (Int.toNat (Prod.fst x)) dfD))) (Enc.F eI (Dem.co (List.getD de (Int.toNat (Prod.fst x)) dfD)))) ≤ (1000000 : Nat)) (T.need (List.length (Enc.list eI (List.length (Dem.co (List.getD de (Int.toNat (Prod.fst x)) dfD))) (Enc.F eI (Dem.co (List.getD de (Int.toNat (Prod.fst x)) dfD)))) ≤ List.length (cI pax)) (T.br (M.room { nm := Dem.nm (List.getD de (Int.toNat (Prod.fst x)) dfD), co := Enc.list eI (List.length (Dem.co (List.getD de (Int.toNat (Prod.fst x)) dfD))) (Enc.F eI (Dem.co (List.getD de (Int.toNat (Prod.fst x)) dfD))), am := Dem.am (List.getD de (Int.toNat (Prod.fst x)) dfD) } denx (cI pax) == (0 : Int)) (T.need ((1 : Nat) ≤ (1000000 : Nat)) (T.need (Enc.Is eI (1 : Nat) (joinF (0 : Nat) (fun (x x_1 : Nat) => D.nilp) fun (i j : Nat) => List.getD [D.int IntKind.i64 (Prod.fst x)] (i * (1 : Nat) + j) D.nilp)) (T.need ((1 : Nat) ≤ (1 : Nat)) (T.ret (Sum.inl (Sum.inr (IntKind.i64.wrap (Prod.fst x + (1 : Int)), Enc.list eI (1 : Nat) (joinF (0 : Nat) (fun (x x_1 : Nat) => D.nilp) fun (i j : Nat) => List.getD [D.int IntKind.i64 (Prod.fst x)] (i * (1 : Nat) + j) D.nilp), PUnit.unit))))))) (T.ret (Sum.inl (Sum.inl (IntKind.i64.wrap (Prod.fst x + (1 : Int)), PUnit.unit, PUnit.unit))))))))))) (T.ret (Sum.inr [Ar.c (D.sl false (0 : Nat) (0 : Nat) fun (x x_1 : Nat) => D.nilp)]))) fun (y : Int × List Int × PUnit) => T.br (decide (Prod.fst y < (Nat.cast (R := Int) (List.length de)))) (T.need ((0 : Int) ≤ Prod.fst y) (T.need (Prod.fst y < (Nat.cast (R := Int) (List.length de))) (T.need (Enc.Is eI (List.length (Dem.co (List.getD de (Int.toNat (Prod.fst y)) dfD))) (Enc.F eI (Dem.co (List.getD de (Int.toNat (Prod.fst y)) dfD)))) (T.need (iI pax) (T.need (List.length (Enc.list eI (List.length (Dem.co (List.getD de (Int.toNat (Prod.fst y)) dfD))) (Enc.F eI (Dem.co (List.getD de (Int.toNat (Prod.fst y)) dfD)))) ≤ (1000000 : Nat)) (T.need (List.length (Enc.list eI (List.length (Dem.co (List.getD de (Int.toNat (Prod.fst y)) dfD))) (Enc.F eI (Dem.co (List.getD de (Int.toNat (Prod.fst y)) dfD)))) ≤ List.length (cI pax)) (T.br (M.room { nm := Dem.nm (List.getD de (Int.toNat (Prod.fst y)) dfD), co := Enc.list eI (List.length (Dem.co (List.getD de (Int.toNat (Prod.fst y)) dfD))) (Enc.F eI (Dem.co (List.getD de (Int.toNat (Prod.fst y)) dfD))), am := Dem.am (List.getD de (Int.toNat (Prod.fst y)) dfD) } denx (cI pax) == (0 : Int)) (T.need (List.length (Prod.fst (Prod.snd y)) + (1 : Nat) ≤ (1000000 : Nat)) (T.need (List.length (Prod.fst (Prod.snd y)) ≤ List.length (Prod.fst (Prod.snd y))) (T.need (Enc.Is eI (List.length (Prod.fst (Prod.snd y)) + (1 : Nat)) (joinF (List.length (Prod.fst (Prod.snd y))) (Enc.F eI (Prod.fst (Prod.snd y))) fun (i j : Nat) => List.getD [D.int IntKind.i64 (Prod.fst y)] (i * (1 : Nat) + j) D.nilp)) (T.need (List.length (Prod.fst (Prod.snd y)) + (1 : Nat) ≤ List.length (Prod.fst (Prod.snd y)) + (1 : Nat)) (T.ret (Sum.inl (Sum.inr (IntKind.i64.wrap (Prod.fst y + (1 : Int)), Enc.list eI (List.length (Prod.fst (Prod.snd y)) + (1 : Nat)) (joinF (List.length (Prod.fst (Prod.snd y))) (Enc.F eI (Prod.fst (Prod.snd y))) fun (i j : Nat) => List.getD [D.int IntKind.i64 (Prod.fst y)] (i * (1 : Nat) + j) D.nilp), PUnit.unit)))))))) (T.need (Enc.Is eI (List.length (Prod.fst (Prod.snd y))) (Enc.F eI (Prod.fst (Prod.snd y)))) (T.need (List.length (Prod.fst (Prod.snd y)) ≤ List.length (Prod.fst (Prod.snd y))) (T.ret (Sum.inl (Sum.inr (IntKind.i64.wrap (Prod.fst y + (1 : Int)), Enc.list eI (List.length (Prod.fst (Prod.snd y))) (Enc.F eI (Prod.fst (Prod.snd y))), PUnit.unit))))))))))))) (T.need (List.length (Prod.fst (Prod.snd y)) ≤ List.length (Prod.fst (Prod.snd y))) (T.ret (Sum.inr [Ar.c (D.sl true (List.length (Prod.fst (Prod.snd y))) (1 : Nat) (Enc.F eI (Prod.fst (Prod.snd y))))])))
theorem t51 (q_mo : Bool) (mo : List Int) (q_ga : Bool) (ga : List Int) (q_de : Bool) (de : List Dem) (denx : Int) (q_pax : Bool) (pax : List Int) : runFnX Try.prog G0 (lookS [v132]) (fun _ => [(3, [.slot 6 (.int .i64), .slot 5 .nsl], some [.slot 6 (.int .i64), .slot 5 (.rowE 3 eI)])]) [] 1 60 4 51 Try.f51 [.agg [.sl q_mo mo.length 1 (eI.F mo), .sl q_ga ga.length 1 (eI.F ga), .sl q_de de.length 3 (eDm.F de)], .agg [dI denx, .sl q_pax pax.length 1 (eI.F pax)]] =
    tr51 q_mo mo q_ga ga q_de de denx q_pax pax := by kernel_rfl
theorem w51 (qm : Bool) (mo : List Int) (qg : Bool) (ga : List Int) (qd : Bool) (de : List Dem) (den : Int) (qp : Bool) (pa : List Int) (h3 : de.length ≤ 1000000) (hn : ∀ d, d ∈ de → d.co.length ≤ 1000000 ∧ d.co.length ≤ pa.length) :
    (tr51 qm mo qg ga qd de den qp pa).wp (fun rs => rsEqv rs [.c (.sl false (M.binds de den pa).length 1 (eI.F (M.binds de den pa)))]) := by
  unfold tr51 M.binds
  simp only [cI, cD, iI, iD, Enc.list_F]
  refine ⟨fun z => match z with
    | .inl x => ∃ k : Nat, k ≤ de.length ∧ x = ((k : Int), PUnit.unit, PUnit.unit) ∧ M.bindK (M.zeroR de den pa) k = []
    | .inr y => ∃ k : Nat, k ≤ de.length ∧ y.1 = k ∧ y.2.1 = M.bindK (M.zeroR de den pa) k,
    fun z => match z with | .inl x => de.length - x.1.toNat | .inr y => de.length - y.1.toNat, ⟨0, Nat.zero_le _, rfl, rfl⟩, ?_, ?_⟩
  · rintro x ⟨k, hk, rfl, h0⟩
    have hw : IntKind.i64.wrap ((k : Int) + 1) = ((k + 1 : Nat) : Int) := wrap_succ (by omega)
    refine ⟨fun hb => ?_, fun hb => ?_⟩
    · have hlt := lt_of_dec hb
      have mu : de.length - (IntKind.i64.wrap ((k : Int) + 1)).toNat < de.length - (k : Int).toNat := by rw [hw]; omega
      refine ⟨by dsimp only; omega, by dsimp only; omega, Enc.is_F _ _ _, Enc.is_F _ _ _, (hn _ (getD_mem hlt)).1, (hn _ (getD_mem hlt)).2, fun hx => ?_, fun hx => ?_⟩
      · have hx : M.zeroR de den pa k = true := hx
        obtain ⟨o1, o2⟩ := push_one eI (F := fun _ _ => .nilp) (G := inQ (k : Int)) inQ_push.1 inQ_push.2
        have o3 : [(k : Int)] = M.bindK (M.zeroR de den pa) (k + 1) := by rw [bindK_succ, if_pos hx, h0]; rfl
        exact ⟨by decide, o1, Nat.le_refl _, ⟨k + 1, hlt, hw, o2.trans o3⟩, mu⟩
      · have hx : ¬ M.zeroR de den pa k = true := by have hx : M.zeroR de den pa k = false := hx
                                                     rw [hx]; decide
        exact ⟨⟨k + 1, hlt, by rw [hw], by rw [bindK_succ, if_neg hx, h0]; rfl⟩, mu⟩
    · have hge := ge_of_dec hb
      obtain rfl : k = de.length := by omega
      rw [h0]
      exact ⟨nil_eqv eI, trivial⟩
  · rintro ⟨y, acc, u⟩ ⟨k, g2, g3, g4⟩
    simp only at g3 g4
    subst g3
    have hacc : acc.length ≤ k := by rw [g4]; exact bindK_len _ _
    have hw : IntKind.i64.wrap ((k : Int) + 1) = ((k + 1 : Nat) : Int) := wrap_succ (by omega)
    have mu : k < de.length → de.length - (IntKind.i64.wrap ((k : Int) + 1)).toNat < de.length - (k : Int).toNat := by intro _; rw [hw]; omega
    refine ⟨fun hb => ?_, fun hb => ?_⟩
    · have hlt := lt_of_dec hb
      refine ⟨by dsimp only; omega, by dsimp only; omega, Enc.is_F _ _ _, Enc.is_F _ _ _, (hn _ (getD_mem hlt)).1, (hn _ (getD_mem hlt)).2, fun hx => ?_, fun hx => ?_⟩
      · have hx : M.zeroR de den pa k = true := hx
        obtain ⟨o1, o2⟩ := eI.push (l := acc) (a := (k : Int)) (G := inQ (k : Int)) inQ_push.1 inQ_push.2
        have o3 : acc ++ [(k : Int)] = M.bindK (M.zeroR de den pa) (k + 1) := by rw [bindK_succ, if_pos hx, g4]
        exact ⟨by dsimp only; omega, Nat.le_refl _, o1, Nat.le_refl _, ⟨k + 1, hlt, hw, o2.trans o3⟩, mu hlt⟩
      · have hx : ¬ M.zeroR de den pa k = true := by have hx : M.zeroR de den pa k = false := hx
                                                     rw [hx]; decide
        have o3 : acc = M.bindK (M.zeroR de den pa) (k + 1) := by rw [bindK_succ, if_neg hx, g4, List.append_nil]
        exact ⟨Enc.is_F _ _ _, Nat.le_refl _, ⟨k + 1, hlt, hw, o3⟩, mu hlt⟩
    · have hge := ge_of_dec hb
      obtain rfl : k = de.length := by omega
      rw [← g4]
      exact ⟨Nat.le_refl _, ⟨(fun e => by cases e), rfl, fun _ => rfl, fun i j hi hj => D.eqv_refl _⟩, trivial⟩
def dom51 : DomF
  | [.agg [.sl _ n_mo st_mo F_mo, .sl _ n_ga st_ga F_ga, .sl _ n_de st_de F_de], .agg [.int .i64 denx, .sl _ n_pax st_pax F_pax]] => (match Nat.beq st_mo 1 && Nat.beq st_ga 1 && Nat.beq st_de 3 && Nat.beq st_pax 1 with
    | true => some ([eI.Is n_mo F_mo, eI.Is n_ga F_ga, eDm.Is n_de F_de, eI.Is n_pax F_pax, (eDm.list n_de F_de).length ≤ 1000000, ∀ d, d ∈ (eDm.list n_de F_de) → d.co.length ≤ 1000000 ∧ d.co.length ≤ (eI.list n_pax F_pax).length], [.c (.sl false (M.binds (eDm.list n_de F_de) denx (eI.list n_pax F_pax)).length 1 (eI.F (M.binds (eDm.list n_de F_de) denx (eI.list n_pax F_pax))))])
    | _ => none)
  | _ => none
def v51 : Nat × Sm := (51, fokSm dom51)
theorem C51 : FOK Try.prog G0 gw 51 dom51 := by
  intro ags p r hd hp κ w xs hw hl hG hx
  unfold dom51 at hd
  split at hd
  · rename_i q_mo n_mo st_mo F_mo q_ga n_ga st_ga F_ga q_de n_de st_de F_de denx q_pax n_pax st_pax F_pax
    split at hd
    · rename_i hst
      simp only [Bool.and_eq_true] at hst
      obtain ⟨⟨⟨g1, g2⟩, g3⟩, g4⟩ := hst
      have g1 := Nat.eq_of_beq_eq_true g1
      have g2 := Nat.eq_of_beq_eq_true g2
      have g3 := Nat.eq_of_beq_eq_true g3
      have g4 := Nat.eq_of_beq_eq_true g4
      subst g1 g2 g3 g4
      simp only [Option.some.injEq, Prod.mk.injEq] at hd
      obtain ⟨rfl, rfl⟩ := hd
      obtain ⟨hI_mo, hI_ga, hI_de, hI_pax, hp⟩ := hp
      have heq : agsEqv [.agg [.sl q_mo n_mo 1 F_mo, .sl q_ga n_ga 1 F_ga, .sl q_de n_de 3 F_de], .agg [.int .i64 denx, .sl q_pax n_pax 1 F_pax]] [.agg [.sl q_mo (eI.list n_mo F_mo).length 1 (eI.F (eI.list n_mo F_mo)), .sl q_ga (eI.list n_ga F_ga).length 1 (eI.F (eI.list n_ga F_ga)), .sl q_de (eDm.list n_de F_de).length 3 (eDm.F (eDm.list n_de F_de))], .agg [.int .i64 denx, .sl q_pax (eI.list n_pax F_pax).length 1 (eI.F (eI.list n_pax F_pax))]] := ⟨⟨eI.to id hI_mo, eI.to id hI_ga, eDm.to id hI_de, trivial⟩, ⟨rfl, eI.to id hI_pax, trivial⟩, trivial⟩
      have len_mo : (eI.list n_mo F_mo).length = n_mo := eI.list_len
      have len_ga : (eI.list n_ga F_ga).length = n_ga := eI.list_len
      have len_de : (eDm.list n_de F_de).length = n_de := eDm.list_len
      have len_pax : (eI.list n_pax F_pax).length = n_pax := eI.list_len
      generalize eI.list n_mo F_mo = mo at *
      generalize eI.list n_ga F_ga = ga at *
      generalize eDm.list n_de F_de = de at *
      generalize eI.list n_pax F_pax = pax at *
      subst len_mo len_ga len_de len_pax
      exact fokX_fin mixed gw_stable (sl := [v132]) ⟨S132, trivial⟩ Try.func51 hw hl hG hx heq rfl (t51 _ _ _ _ _ _ _ _ _) (w51 _ _ _ _ _ _ _ _ _ hp.1 hp.2.1)
    · cases hd
  · cases hd
theorem S51 : SumOK Try.prog G0 gw 51 (fokSm dom51) := fok_sum Try.func51 rfl C51
end Go.Pl
end

section
set_option linter.unusedVariables false
set_option linter.unusedSimpArgs false
set_option maxRecDepth 100000
namespace Go.Pl
open Go.V Go.Proofs
theorem first_zero : ∀ {l : List Int}, M.first l = 0 → ∀ x, x ∈ l → x = 0 := by
  intro l
  induction l with
  | nil => intro _ x hx; cases hx
  | cons a l ih =>
    intro h x hx
    rw [first_of] at h
    split at h
    · rename_i ha
      rcases List.mem_cons.1 hx with rfl | hx
      · exact ha
      · exact ih h x hx
    · rename_i ha; exact absurd h ha
theorem any_none {α : Type} {l : List α} {p : α → Bool} (h : (!l.any p) = true) : ∀ x, x ∈ l → p x = false := by
  intro x hx
  rw [Bool.not_eq_true'] at h
  cases hp : p x with
  | false => rfl
  | true => rw [List.any_eq_true.2 ⟨x, hx, hp⟩] at h; cases h
theorem within_of {f : Nat} {x lo hi : Int} (h : badF f x = false) (hf : badF f x = !M.within x lo hi) : lo ≤ x ∧ x ≤ hi := by
  rw [hf] at h
  exact within_iff.1 (by simpa using h)
structure RightP (mo ga : List Int) (de : List Dem) : Prop where
  n0 : 0 < mo.length
  n4 : mo.length ≤ 4
  lg : ga.length = mo.length
  ld : de.length ≤ 8
  rm : ∀ x, x ∈ mo → 0 ≤ x ∧ x ≤ 1000000
  rg : ∀ x, x ∈ ga → -100 ≤ x ∧ x ≤ 100
  rd : ∀ d, d ∈ de → d.co.length = mo.length ∧ (∀ x, x ∈ d.co → -100 ≤ x ∧ x ≤ 100) ∧ -1000000 ≤ d.am ∧ d.am ≤ 1000000
theorem prog_right {mo ga : List Int} {de : List Dem} (h : (M.checkProg mo ga de).2 = 0) : RightP mo ga de := by
  unfold M.checkProg at h
  cases hb : (M.progErr0 mo ga de != 0) with
  | true =>
    rw [hb] at h
    have h : M.progErr0 mo ga de = 0 := h
    rw [h] at hb; cases hb
  | false =>
    rw [hb] at h
    have h0 : M.progErr0 mo ga de = 0 := by simpa using hb
    unfold M.progErr0 at h0
    have z := first_zero h0
    have a1 := unl_zero (by decide) (z _ (List.mem_cons_self ..))
    have a2 := unl_zero (by decide) (z _ (List.mem_cons_of_mem _ (List.mem_cons_self ..)))
    have a3 := unl_zero (by decide) (z _ (List.mem_cons_of_mem _ (List.mem_cons_of_mem _ (List.mem_cons_self ..))))
    have a4 := unl_zero (by decide) (z _ (List.mem_cons_of_mem _ (List.mem_cons_of_mem _ (List.mem_cons_of_mem _ (List.mem_cons_self ..)))))
    have a5 := unl_zero (by decide) (z _ (List.mem_cons_of_mem _ (List.mem_cons_of_mem _ (List.mem_cons_of_mem _ (List.mem_cons_of_mem _ (List.mem_cons_self ..))))))
    have a2 := of_decide_eq_true a2
    have a5 := of_decide_eq_true a5
    cases hm : decide ((mo.length : Int) > 0) with
    | false => rw [hm] at a1; cases a1
    | true =>
      rw [hm] at a1
      have hm := of_decide_eq_true hm
      have a1 : ((ga.length : Int) == (mo.length : Int)) = true := a1
      have a1 : (ga.length : Int) = mo.length := by simpa using a1
      refine ⟨by omega, by omega, by omega, by omega, fun x hx => within_of (any_none a3 x hx) rfl, fun x hx => within_of (any_none a4 x hx) rfl, fun d hd => ?_⟩
      obtain ⟨k, hk, rfl⟩ := List.getElem_of_mem hd
      have hz := bad_zero _ _ h k (Nat.zero_le _) (by omega)
      unfold M.demErr at hz
      have e : de.getD k dfD = de[k] := by rw [List.getD_eq_getElem?_getD, List.getElem?_eq_getElem hk]; rfl
      rw [e] at hz
      have y := first_zero hz
      have b3 := unl_zero (by decide) (y _ (List.mem_cons_of_mem _ (List.mem_cons_of_mem _ (List.mem_cons_self ..))))
      have b4 := unl_zero (by decide) (y _ (List.mem_cons_of_mem _ (List.mem_cons_of_mem _ (List.mem_cons_of_mem _ (List.mem_cons_self ..)))))
      have b3 : ((de[k].co.length : Int) = mo.length) := by simpa using b3
      cases hc : de[k].co.any (badF 124) with
      | true => rw [hc] at b4; cases b4
      | false =>
        rw [hc] at b4
        have b4 : M.small de[k].am 1000000 = true := b4
        have b4 : -1000000 ≤ de[k].am ∧ de[k].am ≤ 1000000 := within_iff.1 b4
        exact ⟨by omega, fun x hx => within_of (any_none (by rw [hc]; rfl) x hx) rfl, b4.1, b4.2⟩
theorem pt_right {mo : List Int} {den : Int} {pa : List Int} (h : M.ptErr mo den pa = 0) : pa.length = mo.length ∧ (1 ≤ den ∧ den ≤ 100000000000) ∧ ∀ x, x ∈ pa → 0 ≤ x ∧ x ≤ 1000000000000000 := by
  unfold M.ptErr at h
  have z := first_zero h
  have a1 := unl_zero (by decide) (z _ (List.mem_cons_self ..))
  have a2 := unl_zero (by decide) (z _ (List.mem_cons_of_mem _ (List.mem_cons_self ..)))
  have a1 : (pa.length : Int) = mo.length := by simpa using a1
  unfold M.ptOk at a2
  cases hw : M.within den 1 100000000000 with
  | false => rw [hw] at a2; cases a2
  | true =>
    rw [hw] at a2
    exact ⟨by omega, within_iff.1 hw, fun x hx => within_of (any_none a2 x hx) rfl⟩
theorem open_right {mo ga : List Int} {de : List Dem} {den : Int} {pa : List Int} (h : M.openPt mo ga de den pa = 0) : (M.checkProg mo ga de).2 = 0 ∧ M.ptErr mo den pa = 0 := by
  rw [openPt_eq] at h
  by_cases hc : (M.checkProg mo ga de).2 = 0
  · rw [hc] at h; exact ⟨hc, h⟩
  · rw [bne_iff_ne.2 hc] at h; exact absurd h hc
def dotK (u v : List Int) (k : Nat) : Int := (List.range k).foldl (fun a i => a + u.getD i 0 * v.getD i 0) 0
theorem mul_bnd {x y A B : Int} (hA : 0 ≤ A) (hx : -A ≤ x ∧ x ≤ A) (hy : -B ≤ y ∧ y ≤ B) : -(A * B) ≤ x * y ∧ x * y ≤ A * B := by
  have hn : (x * y).natAbs ≤ A.natAbs * B.natAbs := by
    rw [Int.natAbs_mul]
    exact Nat.mul_le_mul (by omega) (by omega)
  have hAB : ((A.natAbs * B.natAbs : Nat) : Int) = A * B := by
    rw [Int.natCast_mul, Int.natAbs_of_nonneg hA, Int.natAbs_of_nonneg (show 0 ≤ B by omega)]
  have h2 : ((x * y).natAbs : Int) ≤ ((A.natAbs * B.natAbs : Nat) : Int) := by exact_mod_cast hn
  rw [hAB] at h2
  generalize x * y = z at *
  omega
theorem dot_bnd {u v : List Int} {A B : Int} (hA : 0 ≤ A) (hB : 0 ≤ B) (hu : ∀ x, x ∈ u → -A ≤ x ∧ x ≤ A) (hv : ∀ x, x ∈ v → -B ≤ x ∧ x ≤ B) (hAB : A * B ≤ 1000000000000000000) : ∀ k, k ≤ 8 →
    (List.range k).foldl (fun a i => IntKind.i64.wrap (a + IntKind.i64.wrap (u.getD i 0 * v.getD i 0))) 0 = dotK u v k ∧ -(k * (A * B)) ≤ dotK u v k ∧ dotK u v k ≤ k * (A * B) := by
  have g : ∀ {l : List Int} {C : Int}, 0 ≤ C → (∀ x, x ∈ l → -C ≤ x ∧ x ≤ C) → ∀ i, -C ≤ l.getD i 0 ∧ l.getD i 0 ≤ C := by
    intro l C hC h i
    rcases Nat.lt_or_ge i l.length with hi | hi
    · exact h _ (getD_mem hi)
    · rw [List.getD_eq_getElem?_getD, List.getElem?_eq_none hi]; simp only [Option.getD_none]; omega
  intro k
  induction k with
  | zero => intro _; exact ⟨rfl, by simp [dotK], by simp [dotK]⟩
  | succ k ih =>
    intro hk
    obtain ⟨i1, i2, i3⟩ := ih (by omega)
    obtain ⟨p1, p2⟩ := mul_bnd hA (g hA hu k) (g hB hv k)
    have e : dotK u v (k + 1) = dotK u v k + u.getD k 0 * v.getD k 0 := by unfold dotK; rw [foldl_succ]
    rw [foldl_succ, i1]
    generalize hAB' : A * B = AB at *
    have hk1 : ((k + 1 : Nat) : Int) * AB = (k : Int) * AB + AB := by rw [Int.natCast_succ, Int.add_mul, Int.one_mul]
    have hkb : (k : Int) * AB ≤ 8 * 1000000000000000000 := by
      have h0 : 0 ≤ AB := by rw [← hAB']; exact Int.mul_nonneg hA hB
      calc (k : Int) * AB ≤ 8 * AB := Int.mul_le_mul_of_nonneg_right (by omega) h0
        _ ≤ _ := by omega
    generalize hz : u.getD k 0 * v.getD k 0 = z at *
    generalize hkA : (k : Int) * AB = kA at *
    rw [wrap_id (n := z) (by omega) (by omega), wrap_id (by omega) (by omega), e, hk1]
    exact ⟨rfl, by omega, by omega⟩
theorem dot_exact {u v : List Int} {A B : Int} (hA : 0 ≤ A) (hB : 0 ≤ B) (hu : ∀ x, x ∈ u → -A ≤ x ∧ x ≤ A) (hv : ∀ x, x ∈ v → -B ≤ x ∧ x ≤ B) (hAB : A * B ≤ 1000000000000000000) (hl : u.length ≤ 8) :
    M.dot u v = dotK u v u.length ∧ -(u.length * (A * B)) ≤ M.dot u v ∧ M.dot u v ≤ u.length * (A * B) := by
  obtain ⟨h1, h2, h3⟩ := dot_bnd hA hB hu hv hAB u.length hl
  have : M.dot u v = dotK u v u.length := h1
  rw [this]
  exact ⟨rfl, h2, h3⟩
theorem gain_ok {mo ga : List Int} {de : List Dem} {den : Int} {pa : List Int} (hR : RightP mo ga de) (hP : M.ptErr mo den pa = 0) : i64ok (M.dot ga pa) ∧ i64ok den := by
  obtain ⟨p1, p2, p3⟩ := pt_right hP
  obtain ⟨_, h2, h3⟩ := dot_exact (A := 100) (B := 1000000000000000) (by omega) (by omega) hR.rg (fun x hx => by have := p3 x hx; omega) (by omega) (by have := hR.lg; have := hR.n4; omega)
  have hl : (ga.length : Int) ≤ 4 := by have := hR.lg; have := hR.n4; omega
  unfold i64ok
  constructor
  · omega
  · omega
namespace M
def ptRes (mo ga : List Int) (de : List Dem) (den : Int) (pa : List Int) : Int × Int × Int := cond (openPt mo ga de den pa != 0) (0, 0, openPt mo ga de den pa) (ckPt mo ga de den pa)
def brkRes (mo ga : List Int) (de : List Dem) (den : Int) (pa : List Int) : Int × Int := cond (openPt mo ga de den pa != 0) (0, openPt mo ga de den pa) (cond (decide (brk de den pa < 0)) (0, 12) (brk de den pa, 0))
def bindRes (mo ga : List Int) (de : List Dem) (den : Int) (pa : List Int) : List Int × Int := cond (openPt mo ga de den pa != 0) ([], openPt mo ga de den pa) (binds de den pa, 0)
end M
def tr63 (q_mo : Bool) (mo : List Int) (q_ga : Bool) (ga : List Int) (q_de : Bool) (de : List Dem) (denx : Int) (q_pax : Bool) (pax : List Int) : T (List Ar) :=
    T.need (iI mo) (T.need (iI ga) (T.need (iD de) (T.need (iI pax) (T.need (List.length (cI mo) ≤ (1000000 : Nat)) (T.need (List.length (cI ga) ≤ (1000000 : Nat)) (T.need (List.length (cD de) ≤ (1000000 : Nat)) (T.need (∀ (d : Dem), d ∈ cD de → ByteArray.size (Dem.nm d) ≤ (1000000 : Nat) ∧ List.length (Dem.co d) ≤ (1000000 : Nat)) (T.need (List.length (cI pax) ≤ (1000000 : Nat)) (T.br (M.openPt (cI mo) (cI ga) (cD de) denx (cI pax) != (0 : Int)) (T.ret [Ar.c (D.int IntKind.i64 (0 : Int)), Ar.c (D.int IntKind.i64 (M.openPt (cI mo) (cI ga) (cD de) denx (cI pax)))]) (T.loop (Int × Int × Int × PUnit) ((0 : Int), (0 : Int), (0 : Int), PUnit.unit) fun (x : Int × Int × Int × PUnit) => T.br (decide (Prod.fst x < (Nat.cast (R := Int) (List.length (cD de))))) (T.need ((0 : Int) ≤ Prod.fst x) (T.need (Prod.fst x < (Nat.cast (R := Int) (List.length (cD de)))) (T.need (Enc.Is eI (List.length (Dem.co (List.getD (cD de) (Int.toNat (Prod.fst x)) dfD))) (Enc.F eI (Dem.co (List.getD (cD de) (Int.toNat (Prod.fst x)) dfD)))) (T.need (iI pax) (T.need (List.length (Enc.list eI (List.length (Dem.co (List.getD (cD de) (Int.toNat (Prod.fst x)) dfD))) (Enc.F eI (Dem.co (List.getD (cD de) (Int.toNat (Prod.fst x)) dfD)))) ≤ (1000000 : Nat)) (T.need (List.length (Enc.list eI (List.length (Dem.co (List.getD (cD de) (Int.toNat (Prod.fst x)) dfD))) (Enc.F eI (Dem.co (List.getD (cD de) (Int.toNat (Prod.fst x)) dfD)))) ≤ List.length (cI pax)) (T.br (decide (IntKind.i64.wrap (IntKind.i64.wrap (Dem.am (List.getD (cD de) (Int.toNat (Prod.fst x)) dfD) * denx) - M.dot (Enc.list eI (List.length (Dem.co (List.getD (cD de) (Int.toNat (Prod.fst x)) dfD))) (Enc.F eI (Dem.co (List.getD (cD de) (Int.toNat (Prod.fst x)) dfD)))) (cI pax)) < (0 : Int))) (T.ret (Sum.inr [Ar.c (D.int IntKind.i64 (Prod.fst x)), Ar.c (D.int IntKind.i64 (0 : Int))])) (T.ret (Sum.inl (IntKind.i64.wrap (Prod.fst x + (1 : Int)), Prod.fst (Prod.snd x), Prod.fst (Prod.snd (Prod.snd x)), PUnit.unit)))))))))) (T.ret (Sum.inr [Ar.c (D.int IntKind.i64 (0 : Int)), Ar.c (D.int IntKind.i64 (12 : Int))]))))))))))))
theorem t63 (q_mo : Bool) (mo : List Int) (q_ga : Bool) (ga : List Int) (q_de : Bool) (de : List Dem) (denx : Int) (q_pax : Bool) (pax : List Int) : runFnX Try.prog G0 (lookS [v137, v139]) (fun f => match f with | 172 => [(1, [.slot 10 (.int .i64), .blk 1000002 [.int .i64], .blk 1000003 [.int .i64]], none)] | _ => []) [138, 172] 2 60 6 63 Try.f63 [.agg [.sl q_mo mo.length 1 (eI.F mo), .sl q_ga ga.length 1 (eI.F ga), .sl q_de de.length 3 (eDm.F de)], .agg [dI denx, .sl q_pax pax.length 1 (eI.F pax)]] =
    tr63 q_mo mo q_ga ga q_de de denx q_pax pax := by kernel_rfl
theorem w63 (qm : Bool) (mo : List Int) (qg : Bool) (ga : List Int) (qd : Bool) (de : List Dem) (den : Int) (qp : Bool) (pa : List Int) (h1 : mo.length ≤ 1000000) (h2 : ga.length ≤ 1000000) (h3 : de.length ≤ 1000000) (hn : ∀ d, d ∈ de → d.nm.size ≤ 1000000 ∧ d.co.length ≤ 1000000) (h4 : pa.length ≤ 1000000) :
    (tr63 qm mo qg ga qd de den qp pa).wp (fun rs => rsEqv rs [rI (M.brkRes mo ga de den pa).1, rI (M.brkRes mo ga de den pa).2]) := by
  unfold tr63 M.brkRes
  simp only [cI, cD, iI, iD, Enc.list_F]
  refine ⟨Enc.is_F _ _ _, Enc.is_F _ _ _, Enc.is_F _ _ _, Enc.is_F _ _ _, h1, h2, h3, hn, h4, wp_br (fun hb => ?_) (fun hb => ?_)⟩
  · rw [hb]; exact rsEqv_refl _
  rw [hb]
  have h0 : M.openPt mo ga de den pa = 0 := by simpa using hb
  obtain ⟨hc, hpt⟩ := open_right h0
  have hR := prog_right hc
  obtain ⟨p1, p2, p3⟩ := pt_right hpt
  have hn : ∀ d, d ∈ de → d.co.length ≤ 1000000 ∧ d.co.length ≤ pa.length := fun d hd => ⟨(hn d hd).2, by rw [(hR.rd d hd).1, p1]; exact Nat.le_refl _⟩
  unfold M.brk
  refine range_wp (n := de.length) (fun k _ => M.firstIdx (M.negR de den pa) de.length 0 = M.firstIdx (M.negR de den pa) (de.length - k) k) rfl ?_
  rintro k u hk hI
  refine wp_br (fun hb => ?_) (fun hb => ?_)
  · have hlt := lt_of_dec hb
    have hs := idx_step (p := M.negR de den pa) hlt
    refine ⟨by show (0 : Int) ≤ k; omega, by show (k : Int) < de.length; omega, Enc.is_F _ _ _, Enc.is_F _ _ _, (hn _ (getD_mem hlt)).1, (hn _ (getD_mem hlt)).2, wp_br (fun hx => ?_) (fun hx => ?_)⟩
    · have hx : M.negR de den pa k = true := hx
      rw [hx] at hs
      rw [hI, hs]
      show rsEqv _ [rI (cond (decide ((k : Int) < 0)) (0, 12) ((k : Int), 0)).1, rI (cond (decide ((k : Int) < 0)) (0, 12) ((k : Int), 0)).2]
      rw [decide_eq_false (by omega)]; exact rsEqv_refl _
    · have hx : M.negR de den pa k = false := hx
      rw [hx] at hs
      exact ⟨hlt, wrap_succ (by omega), hI.trans hs⟩
  · have hge := ge_of_dec hb
    obtain rfl : k = de.length := by omega
    rw [Nat.sub_self] at hI
    rw [hI]; exact rsEqv_refl _
def dom63 : DomF
  | [.agg [.sl _ n_mo st_mo F_mo, .sl _ n_ga st_ga F_ga, .sl _ n_de st_de F_de], .agg [.int .i64 denx, .sl _ n_pax st_pax F_pax]] => (match Nat.beq st_mo 1 && Nat.beq st_ga 1 && Nat.beq st_de 3 && Nat.beq st_pax 1 with
    | true => some ([eI.Is n_mo F_mo, eI.Is n_ga F_ga, eDm.Is n_de F_de, eI.Is n_pax F_pax, (eI.list n_mo F_mo).length ≤ 1000000, (eI.list n_ga F_ga).length ≤ 1000000, (eDm.list n_de F_de).length ≤ 1000000, ∀ d, d ∈ (eDm.list n_de F_de) → d.nm.size ≤ 1000000 ∧ d.co.length ≤ 1000000, (eI.list n_pax F_pax).length ≤ 1000000], [rI (M.brkRes (eI.list n_mo F_mo) (eI.list n_ga F_ga) (eDm.list n_de F_de) denx (eI.list n_pax F_pax)).1, rI (M.brkRes (eI.list n_mo F_mo) (eI.list n_ga F_ga) (eDm.list n_de F_de) denx (eI.list n_pax F_pax)).2])
    | _ => none)
  | _ => none
def v63 : Nat × Sm := (63, fokSm dom63)
theorem C63 : FOK Try.prog G0 gw 63 dom63 := by
  intro ags p r hd hp κ w xs hw hl hG hx
  unfold dom63 at hd
  split at hd
  · rename_i q_mo n_mo st_mo F_mo q_ga n_ga st_ga F_ga q_de n_de st_de F_de denx q_pax n_pax st_pax F_pax
    split at hd
    · rename_i hst
      simp only [Bool.and_eq_true] at hst
      obtain ⟨⟨⟨g1, g2⟩, g3⟩, g4⟩ := hst
      have g1 := Nat.eq_of_beq_eq_true g1
      have g2 := Nat.eq_of_beq_eq_true g2
      have g3 := Nat.eq_of_beq_eq_true g3
      have g4 := Nat.eq_of_beq_eq_true g4
      subst g1 g2 g3 g4
      simp only [Option.some.injEq, Prod.mk.injEq] at hd
      obtain ⟨rfl, rfl⟩ := hd
      obtain ⟨hI_mo, hI_ga, hI_de, hI_pax, hp⟩ := hp
      have heq : agsEqv [.agg [.sl q_mo n_mo 1 F_mo, .sl q_ga n_ga 1 F_ga, .sl q_de n_de 3 F_de], .agg [.int .i64 denx, .sl q_pax n_pax 1 F_pax]] [.agg [.sl q_mo (eI.list n_mo F_mo).length 1 (eI.F (eI.list n_mo F_mo)), .sl q_ga (eI.list n_ga F_ga).length 1 (eI.F (eI.list n_ga F_ga)), .sl q_de (eDm.list n_de F_de).length 3 (eDm.F (eDm.list n_de F_de))], .agg [.int .i64 denx, .sl q_pax (eI.list n_pax F_pax).length 1 (eI.F (eI.list n_pax F_pax))]] := ⟨⟨eI.to id hI_mo, eI.to id hI_ga, eDm.to id hI_de, trivial⟩, ⟨rfl, eI.to id hI_pax, trivial⟩, trivial⟩
      have len_mo : (eI.list n_mo F_mo).length = n_mo := eI.list_len
      have len_ga : (eI.list n_ga F_ga).length = n_ga := eI.list_len
      have len_de : (eDm.list n_de F_de).length = n_de := eDm.list_len
      have len_pax : (eI.list n_pax F_pax).length = n_pax := eI.list_len
      generalize eI.list n_mo F_mo = mo at *
      generalize eI.list n_ga F_ga = ga at *
      generalize eDm.list n_de F_de = de at *
      generalize eI.list n_pax F_pax = pax at *
      subst len_mo len_ga len_de len_pax
      exact fokX_fin mixed gw_stable (sl := [v137, v139]) ⟨S137, S139, trivial⟩ Try.func63 hw hl hG hx heq rfl (t63 _ _ _ _ _ _ _ _ _) (w63 _ _ _ _ _ _ _ _ _ hp.1 hp.2.1 hp.2.2.1 hp.2.2.2.1 hp.2.2.2.2.1)
    · cases hd
  · cases hd
theorem S63 : SumOK Try.prog G0 gw 63 (fokSm dom63) := fok_sum Try.func63 rfl C63
def tr64 (q_mo : Bool) (mo : List Int) (q_ga : Bool) (ga : List Int) (q_de : Bool) (de : List Dem) (denx : Int) (q_pax : Bool) (pax : List Int) : T (List Ar) :=
    T.need (iI mo) (T.need (iI ga) (T.need (iD de) (T.need (iI pax) (T.need (List.length (cI mo) ≤ (1000000 : Nat)) (T.need (List.length (cI ga) ≤ (1000000 : Nat)) (T.need (List.length (cD de) ≤ (1000000 : Nat)) (T.need (∀ (d : Dem), d ∈ cD de → ByteArray.size (Dem.nm d) ≤ (1000000 : Nat) ∧ List.length (Dem.co d) ≤ (1000000 : Nat)) (T.need (List.length (cI pax) ≤ (1000000 : Nat)) (T.br (M.openPt (cI mo) (cI ga) (cD de) denx (cI pax) != (0 : Int)) (T.ret [Ar.c (D.sl false (0 : Nat) (0 : Nat) fun (x x_1 : Nat) => D.nilp), Ar.c (D.int IntKind.i64 (M.openPt (cI mo) (cI ga) (cD de) denx (cI pax)))]) (T.loop2 (Int × PUnit × PUnit) (Int × List Int × PUnit) (Sum.inl ((0 : Int), PUnit.unit, PUnit.unit)) (fun (x : Int × PUnit × PUnit) => T.br (decide (Prod.fst x < (Nat.cast (R := Int) (List.length (cD de))))) (T.need ((0 : Int) ≤ Prod.fst x) (T.need (Prod.fst x < (Nat.cast (R := Int) (List.length (cD de)))) (T.need (Enc.Is eI (List.length (Dem.co (List.getD (cD de) (Int.toNat (Prod.fst x)) dfD))) (Enc.F eI (Dem.co (List.getD (cD de) (Int.toNat (Prod.fst x)) dfD)))) (T.need (iI pax) (T.need (List.length (Enc.list eI (List.length (Dem.co (List.getD (cD de) (Int.toNat (Prod.fst x)) dfD))) (Enc.F eI (Dem.co (List.getD (cD de) (Int.toNat (Prod.fst x)) dfD)))) ≤ (1000000 : Nat)) (T.need (List.length (Enc.list eI (List.length (Dem.co (List.getD (cD de) (Int.toNat (Prod.fst x)) dfD))) (Enc.F eI (Dem.co (List.getD (cD de) (Int.toNat (Prod.fst x)) dfD)))) ≤ List.length (cI pax)) (T.br (IntKind.i64.wrap (IntKind.i64.wrap (Dem.am (List.getD (cD de) (Int.toNat (Prod.fst x)) dfD) * denx) - M.dot (Enc.list eI (List.length (Dem.co (List.getD (cD de) (Int.toNat (Prod.fst x)) dfD))) (Enc.F eI (Dem.co (List.getD (cD de) (Int.toNat (Prod.fst x)) dfD)))) (cI pax)) == (0 : Int)) (T.need ((1 : Nat) ≤ (1000000 : Nat)) (T.need (Enc.Is eI (1 : Nat) (joinF (0 : Nat) (fun (x x_1 : Nat) => D.nilp) fun (i j : Nat) => List.getD [D.int IntKind.i64 (Prod.fst x)] (i * (1 : Nat) + j) D.nilp)) (T.need ((1 : Nat) ≤ (1 : Nat)) (T.ret (Sum.inl (Sum.inr (IntKind.i64.wrap (Prod.fst x + (1 : Int)), Enc.list eI (1 : Nat) (joinF (0 : Nat) (fun (x x_1 : Nat) => D.nilp) fun (i j : Nat) => List.getD [D.int IntKind.i64 (Prod.fst x)] (i * (1 : Nat) + j) D.nilp), PUnit.unit))))))) (T.ret (Sum.inl (Sum.inl (IntKind.i64.wrap (Prod.fst x + (1 : Int)), PUnit.unit, PUnit.unit))))))))))) (T.ret (Sum.inr [Ar.c (D.sl false (0 : Nat) (0 : Nat) fun (x x_1 : Nat) => D.nilp), Ar.c (D.int IntKind.i64 (0 : Int))]))) fun (y : Int × List Int × PUnit) => T.br (decide (Prod.fst y < (Nat.cast (R := Int) (List.length (cD de))))) (T.need ((0 : Int) ≤ Prod.fst y) (T.need (Prod.fst y < (Nat.cast (R := Int) (List.length (cD de)))) (T.need (Enc.Is eI (List.length (Dem.co (List.getD (cD de) (Int.toNat (Prod.fst y)) dfD))) (Enc.F eI (Dem.co (List.getD (cD de) (Int.toNat (Prod.fst y)) dfD)))) (T.need (iI pax) (T.need (List.length (Enc.list eI (List.length (Dem.co (List.getD (cD de) (Int.toNat (Prod.fst y)) dfD))) (Enc.F eI (Dem.co (List.getD (cD de) (Int.toNat (Prod.fst y)) dfD)))) ≤ (1000000 : Nat)) (T.need (List.length (Enc.list eI (List.length (Dem.co (List.getD (cD de) (Int.toNat (Prod.fst y)) dfD))) (Enc.F eI (Dem.co (List.getD (cD de) (Int.toNat (Prod.fst y)) dfD)))) ≤ List.length (cI pax)) (T.br (IntKind.i64.wrap (IntKind.i64.wrap (Dem.am (List.getD (cD de) (Int.toNat (Prod.fst y)) dfD) * denx) - M.dot (Enc.list eI (List.length (Dem.co (List.getD (cD de) (Int.toNat (Prod.fst y)) dfD))) (Enc.F eI (Dem.co (List.getD (cD de) (Int.toNat (Prod.fst y)) dfD)))) (cI pax)) == (0 : Int)) (T.need (List.length (Prod.fst (Prod.snd y)) + (1 : Nat) ≤ (1000000 : Nat)) (T.need (List.length (Prod.fst (Prod.snd y)) ≤ List.length (Prod.fst (Prod.snd y))) (T.need (Enc.Is eI (List.length (Prod.fst (Prod.snd y)) + (1 : Nat)) (joinF (List.length (Prod.fst (Prod.snd y))) (Enc.F eI (Prod.fst (Prod.snd y))) fun (i j : Nat) => List.getD [D.int IntKind.i64 (Prod.fst y)] (i * (1 : Nat) + j) D.nilp)) (T.need (List.length (Prod.fst (Prod.snd y)) + (1 : Nat) ≤ List.length (Prod.fst (Prod.snd y)) + (1 : Nat)) (T.ret (Sum.inl (Sum.inr (IntKind.i64.wrap (Prod.fst y + (1 : Int)), Enc.list eI (List.length (Prod.fst (Prod.snd y)) + (1 : Nat)) (joinF (List.length (Prod.fst (Prod.snd y))) (Enc.F eI (Prod.fst (Prod.snd y))) fun (i j : Nat) => List.getD [D.int IntKind.i64 (Prod.fst y)] (i * (1 : Nat) + j) D.nilp), PUnit.unit)))))))) (T.need (Enc.Is eI (List.length (Prod.fst (Prod.snd y))) (Enc.F eI (Prod.fst (Prod.snd y)))) (T.need (List.length (Prod.fst (Prod.snd y)) ≤ List.length (Prod.fst (Prod.snd y))) (T.ret (Sum.inl (Sum.inr (IntKind.i64.wrap (Prod.fst y + (1 : Int)), Enc.list eI (List.length (Prod.fst (Prod.snd y))) (Enc.F eI (Prod.fst (Prod.snd y))), PUnit.unit))))))))))))) (T.need (List.length (Prod.fst (Prod.snd y)) ≤ List.length (Prod.fst (Prod.snd y))) (T.ret (Sum.inr [Ar.c (D.sl true (List.length (Prod.fst (Prod.snd y))) (1 : Nat) (Enc.F eI (Prod.fst (Prod.snd y)))), Ar.c (D.int IntKind.i64 (0 : Int))])))))))))))))
theorem t64 (q_mo : Bool) (mo : List Int) (q_ga : Bool) (ga : List Int) (q_de : Bool) (de : List Dem) (denx : Int) (q_pax : Bool) (pax : List Int) : runFnX Try.prog G0 (lookS [v137, v139]) (fun f => match f with | 172 => [(1, [.slot 10 (.int .i64), .blk 1000003 [.nsl]], some [.slot 10 (.int .i64), .blk 1000003 [.rowE 3 eI]])] | _ => []) [138, 172] 2 60 6 64 Try.f64 [.agg [.sl q_mo mo.length 1 (eI.F mo), .sl q_ga ga.length 1 (eI.F ga), .sl q_de de.length 3 (eDm.F de)], .agg [dI denx, .sl q_pax pax.length 1 (eI.F pax)]] =
    tr64 q_mo mo q_ga ga q_de de denx q_pax pax := by kernel_rfl
theorem w64 (qm : Bool) (mo : List Int) (qg : Bool) (ga : List Int) (qd : Bool) (de : List Dem) (den : Int) (qp : Bool) (pa : List Int) (h1 : mo.length ≤ 1000000) (h2 : ga.length ≤ 1000000) (h3 : de.length ≤ 1000000) (hn : ∀ d, d ∈ de → d.nm.size ≤ 1000000 ∧ d.co.length ≤ 1000000) (h4 : pa.length ≤ 1000000) :
    (tr64 qm mo qg ga qd de den qp pa).wp (fun rs => rsEqv rs [.c (.sl false (M.bindRes mo ga de den pa).1.length 1 (eI.F (M.bindRes mo ga de den pa).1)), rI (M.bindRes mo ga de den pa).2]) := by
  unfold tr64 M.bindRes
  simp only [cI, cD, iI, iD, Enc.list_F]
  refine ⟨Enc.is_F _ _ _, Enc.is_F _ _ _, Enc.is_F _ _ _, Enc.is_F _ _ _, h1, h2, h3, hn, h4, wp_br (fun hb => ?_) (fun hb => ?_)⟩
  · rw [hb]; exact ⟨nil_eqv eI, rfl, trivial⟩
  rw [hb]
  have h0 : M.openPt mo ga de den pa = 0 := by simpa using hb
  obtain ⟨hc, hpt⟩ := open_right h0
  have hR := prog_right hc
  obtain ⟨p1, p2, p3⟩ := pt_right hpt
  have hn : ∀ d, d ∈ de → d.co.length ≤ 1000000 ∧ d.co.length ≤ pa.length := fun d hd => ⟨(hn d hd).2, by rw [(hR.rd d hd).1, p1]; exact Nat.le_refl _⟩
  unfold M.binds
  refine ⟨fun z => match z with
    | .inl x => ∃ k : Nat, k ≤ de.length ∧ x = ((k : Int), PUnit.unit, PUnit.unit) ∧ M.bindK (M.zeroR de den pa) k = []
    | .inr y => ∃ k : Nat, k ≤ de.length ∧ y.1 = k ∧ y.2.1 = M.bindK (M.zeroR de den pa) k,
    fun z => match z with | .inl x => de.length - x.1.toNat | .inr y => de.length - y.1.toNat, ⟨0, Nat.zero_le _, rfl, rfl⟩, ?_, ?_⟩
  · rintro x ⟨k, hk, rfl, h0⟩
    have hw : IntKind.i64.wrap ((k : Int) + 1) = ((k + 1 : Nat) : Int) := wrap_succ (by omega)
    refine ⟨fun hb => ?_, fun hb => ?_⟩
    · have hlt := lt_of_dec hb
      have mu : de.length - (IntKind.i64.wrap ((k : Int) + 1)).toNat < de.length - (k : Int).toNat := by rw [hw]; omega
      refine ⟨by dsimp only; omega, by dsimp only; omega, Enc.is_F _ _ _, Enc.is_F _ _ _, (hn _ (getD_mem hlt)).1, (hn _ (getD_mem hlt)).2, fun hx => ?_, fun hx => ?_⟩
      · have hx : M.zeroR de den pa k = true := hx
        obtain ⟨o1, o2⟩ := push_one eI (F := fun _ _ => .nilp) (G := inQ (k : Int)) inQ_push.1 inQ_push.2
        have o3 : [(k : Int)] = M.bindK (M.zeroR de den pa) (k + 1) := by rw [bindK_succ, if_pos hx, h0]; rfl
        exact ⟨by decide, o1, Nat.le_refl _, ⟨k + 1, hlt, hw, o2.trans o3⟩, mu⟩
      · have hx : ¬ M.zeroR de den pa k = true := by have hx : M.zeroR de den pa k = false := hx
                                                     rw [hx]; decide
        exact ⟨⟨k + 1, hlt, by rw [hw], by rw [bindK_succ, if_neg hx, h0]; rfl⟩, mu⟩
    · have hge := ge_of_dec hb
      obtain rfl : k = de.length := by omega
      rw [h0]
      exact ⟨nil_eqv eI, rfl, trivial⟩
  · rintro ⟨y, acc, u⟩ ⟨k, g2, g3, g4⟩
    simp only at g3 g4
    subst g3
    have hacc : acc.length ≤ k := by rw [g4]; exact bindK_len _ _
    have hw : IntKind.i64.wrap ((k : Int) + 1) = ((k + 1 : Nat) : Int) := wrap_succ (by omega)
    have mu : k < de.length → de.length - (IntKind.i64.wrap ((k : Int) + 1)).toNat < de.length - (k : Int).toNat := by intro _; rw [hw]; omega
    refine ⟨fun hb => ?_, fun hb => ?_⟩
    · have hlt := lt_of_dec hb
      refine ⟨by dsimp only; omega, by dsimp only; omega, Enc.is_F _ _ _, Enc.is_F _ _ _, (hn _ (getD_mem hlt)).1, (hn _ (getD_mem hlt)).2, fun hx => ?_, fun hx => ?_⟩
      · have hx : M.zeroR de den pa k = true := hx
        obtain ⟨o1, o2⟩ := eI.push (l := acc) (a := (k : Int)) (G := inQ (k : Int)) inQ_push.1 inQ_push.2
        have o3 : acc ++ [(k : Int)] = M.bindK (M.zeroR de den pa) (k + 1) := by rw [bindK_succ, if_pos hx, g4]
        exact ⟨by dsimp only; omega, Nat.le_refl _, o1, Nat.le_refl _, ⟨k + 1, hlt, hw, o2.trans o3⟩, mu hlt⟩
      · have hx : ¬ M.zeroR de den pa k = true := by have hx : M.zeroR de den pa k = false := hx
                                                     rw [hx]; decide
        have o3 : acc = M.bindK (M.zeroR de den pa) (k + 1) := by rw [bindK_succ, if_neg hx, g4, List.append_nil]
        exact ⟨Enc.is_F _ _ _, Nat.le_refl _, ⟨k + 1, hlt, hw, o3⟩, mu hlt⟩
    · have hge := ge_of_dec hb
      obtain rfl : k = de.length := by omega
      rw [← g4]
      exact ⟨Nat.le_refl _, ⟨(fun e => by cases e), rfl, fun _ => rfl, fun i j hi hj => D.eqv_refl _⟩, rfl, trivial⟩
def dom64 : DomF
  | [.agg [.sl _ n_mo st_mo F_mo, .sl _ n_ga st_ga F_ga, .sl _ n_de st_de F_de], .agg [.int .i64 denx, .sl _ n_pax st_pax F_pax]] => (match Nat.beq st_mo 1 && Nat.beq st_ga 1 && Nat.beq st_de 3 && Nat.beq st_pax 1 with
    | true => some ([eI.Is n_mo F_mo, eI.Is n_ga F_ga, eDm.Is n_de F_de, eI.Is n_pax F_pax, (eI.list n_mo F_mo).length ≤ 1000000, (eI.list n_ga F_ga).length ≤ 1000000, (eDm.list n_de F_de).length ≤ 1000000, ∀ d, d ∈ (eDm.list n_de F_de) → d.nm.size ≤ 1000000 ∧ d.co.length ≤ 1000000, (eI.list n_pax F_pax).length ≤ 1000000], [.c (.sl false (M.bindRes (eI.list n_mo F_mo) (eI.list n_ga F_ga) (eDm.list n_de F_de) denx (eI.list n_pax F_pax)).1.length 1 (eI.F (M.bindRes (eI.list n_mo F_mo) (eI.list n_ga F_ga) (eDm.list n_de F_de) denx (eI.list n_pax F_pax)).1)), rI (M.bindRes (eI.list n_mo F_mo) (eI.list n_ga F_ga) (eDm.list n_de F_de) denx (eI.list n_pax F_pax)).2])
    | _ => none)
  | _ => none
def v64 : Nat × Sm := (64, fokSm dom64)
theorem C64 : FOK Try.prog G0 gw 64 dom64 := by
  intro ags p r hd hp κ w xs hw hl hG hx
  unfold dom64 at hd
  split at hd
  · rename_i q_mo n_mo st_mo F_mo q_ga n_ga st_ga F_ga q_de n_de st_de F_de denx q_pax n_pax st_pax F_pax
    split at hd
    · rename_i hst
      simp only [Bool.and_eq_true] at hst
      obtain ⟨⟨⟨g1, g2⟩, g3⟩, g4⟩ := hst
      have g1 := Nat.eq_of_beq_eq_true g1
      have g2 := Nat.eq_of_beq_eq_true g2
      have g3 := Nat.eq_of_beq_eq_true g3
      have g4 := Nat.eq_of_beq_eq_true g4
      subst g1 g2 g3 g4
      simp only [Option.some.injEq, Prod.mk.injEq] at hd
      obtain ⟨rfl, rfl⟩ := hd
      obtain ⟨hI_mo, hI_ga, hI_de, hI_pax, hp⟩ := hp
      have heq : agsEqv [.agg [.sl q_mo n_mo 1 F_mo, .sl q_ga n_ga 1 F_ga, .sl q_de n_de 3 F_de], .agg [.int .i64 denx, .sl q_pax n_pax 1 F_pax]] [.agg [.sl q_mo (eI.list n_mo F_mo).length 1 (eI.F (eI.list n_mo F_mo)), .sl q_ga (eI.list n_ga F_ga).length 1 (eI.F (eI.list n_ga F_ga)), .sl q_de (eDm.list n_de F_de).length 3 (eDm.F (eDm.list n_de F_de))], .agg [.int .i64 denx, .sl q_pax (eI.list n_pax F_pax).length 1 (eI.F (eI.list n_pax F_pax))]] := ⟨⟨eI.to id hI_mo, eI.to id hI_ga, eDm.to id hI_de, trivial⟩, ⟨rfl, eI.to id hI_pax, trivial⟩, trivial⟩
      have len_mo : (eI.list n_mo F_mo).length = n_mo := eI.list_len
      have len_ga : (eI.list n_ga F_ga).length = n_ga := eI.list_len
      have len_de : (eDm.list n_de F_de).length = n_de := eDm.list_len
      have len_pax : (eI.list n_pax F_pax).length = n_pax := eI.list_len
      generalize eI.list n_mo F_mo = mo at *
      generalize eI.list n_ga F_ga = ga at *
      generalize eDm.list n_de F_de = de at *
      generalize eI.list n_pax F_pax = pax at *
      subst len_mo len_ga len_de len_pax
      exact fokX_fin mixed gw_stable (sl := [v137, v139]) ⟨S137, S139, trivial⟩ Try.func64 hw hl hG hx heq rfl (t64 _ _ _ _ _ _ _ _ _) (w64 _ _ _ _ _ _ _ _ _ hp.1 hp.2.1 hp.2.2.1 hp.2.2.2.1 hp.2.2.2.2.1)
    · cases hd
  · cases hd
theorem S64 : SumOK Try.prog G0 gw 64 (fokSm dom64) := fok_sum Try.func64 rfl C64
def tr57 (q_mo : Bool) (mo : List Int) (q_ga : Bool) (ga : List Int) (q_de : Bool) (de : List Dem) (denx : Int) (q_pax : Bool) (pax : List Int) : T (List Ar) :=
    T.need (iI mo) (T.need (iI ga) (T.need (iD de) (T.need (iI pax) (T.need (List.length (cI mo) ≤ (1000000 : Nat)) (T.need (List.length (cI ga) ≤ (1000000 : Nat)) (T.need (List.length (cD de) ≤ (1000000 : Nat)) (T.need (∀ (d : Dem), d ∈ cD de → ByteArray.size (Dem.nm d) ≤ (1000000 : Nat) ∧ List.length (Dem.co d) ≤ (1000000 : Nat)) (T.need (List.length (cI pax) ≤ (1000000 : Nat)) (T.br (M.openPt (cI mo) (cI ga) (cD de) denx (cI pax) != (0 : Int)) (T.ret [Ar.agg [D.int IntKind.i64 (0 : Int), D.int IntKind.i64 (0 : Int)], Ar.c (D.int IntKind.i64 (M.openPt (cI mo) (cI ga) (cD de) denx (cI pax)))]) (T.loop (Int × Int × Int × Int × PUnit) ((0 : Int), (0 : Int), (0 : Int), (0 : Int), PUnit.unit) fun (x : Int × Int × Int × Int × PUnit) => T.br (decide (Prod.fst x < (Nat.cast (R := Int) (List.length pax)))) (T.need ((0 : Int) ≤ Prod.fst x) (T.need (Prod.fst x < (Nat.cast (R := Int) (List.length pax))) (T.need ((0 : Int) ≤ Prod.fst x) (T.need (Prod.fst x < (Nat.cast (R := Int) (List.length mo))) (T.br (decide (List.getD pax (Int.toNat (Prod.fst x)) (0 : Int) > IntKind.i64.wrap (List.getD mo (Int.toNat (Prod.fst x)) (0 : Int) * denx))) (T.ret (Sum.inr [Ar.agg [D.int IntKind.i64 (0 : Int), D.int IntKind.i64 (0 : Int)], Ar.c (D.int IntKind.i64 (24 : Int))])) (T.ret (Sum.inl (IntKind.i64.wrap (Prod.fst x + (1 : Int)), Prod.fst (Prod.snd x), Prod.fst (Prod.snd (Prod.snd x)), Prod.fst (Prod.snd (Prod.snd (Prod.snd x))), PUnit.unit)))))))) (T.loop (Int × Int × Int × Int × PUnit) ((0 : Int), Prod.fst (Prod.snd x), Prod.fst (Prod.snd (Prod.snd x)), Prod.fst (Prod.snd (Prod.snd (Prod.snd x))), PUnit.unit) fun (x_1 : Int × Int × Int × Int × PUnit) => T.br (decide (Prod.fst x_1 < (Nat.cast (R := Int) (List.length (cD de))))) (T.need ((0 : Int) ≤ Prod.fst x_1) (T.need (Prod.fst x_1 < (Nat.cast (R := Int) (List.length (cD de)))) (T.need (Enc.Is eI (List.length (Dem.co (List.getD (cD de) (Int.toNat (Prod.fst x_1)) dfD))) (Enc.F eI (Dem.co (List.getD (cD de) (Int.toNat (Prod.fst x_1)) dfD)))) (T.need (iI pax) (T.need (List.length (Enc.list eI (List.length (Dem.co (List.getD (cD de) (Int.toNat (Prod.fst x_1)) dfD))) (Enc.F eI (Dem.co (List.getD (cD de) (Int.toNat (Prod.fst x_1)) dfD)))) ≤ (1000000 : Nat)) (T.need (List.length (Enc.list eI (List.length (Dem.co (List.getD (cD de) (Int.toNat (Prod.fst x_1)) dfD))) (Enc.F eI (Dem.co (List.getD (cD de) (Int.toNat (Prod.fst x_1)) dfD)))) ≤ List.length (cI pax)) (T.br (decide (IntKind.i64.wrap (IntKind.i64.wrap (Dem.am (List.getD (cD de) (Int.toNat (Prod.fst x_1)) dfD) * denx) - M.dot (Enc.list eI (List.length (Dem.co (List.getD (cD de) (Int.toNat (Prod.fst x_1)) dfD))) (Enc.F eI (Dem.co (List.getD (cD de) (Int.toNat (Prod.fst x_1)) dfD)))) (cI pax)) < (0 : Int))) (T.ret (Sum.inr (Sum.inr [Ar.agg [D.int IntKind.i64 (0 : Int), D.int IntKind.i64 (0 : Int)], Ar.c (D.int IntKind.i64 (13 : Int))]))) (T.ret (Sum.inl (IntKind.i64.wrap (Prod.fst x_1 + (1 : Int)), Prod.fst (Prod.snd x_1), Prod.fst (Prod.snd (Prod.snd x_1)), Prod.fst (Prod.snd (Prod.snd (Prod.snd x_1))), PUnit.unit)))))))))) (T.need (iI ga) (T.need (iI pax) (T.need (List.length (cI ga) ≤ (1000000 : Nat)) (T.need (List.length (cI ga) ≤ List.length (cI pax)) (T.need (i64ok (M.dot (cI ga) (cI pax))) (T.need (i64ok denx) (T.need ((0 : Int) < denx) (T.ret (Sum.inr (Sum.inr [Ar.agg [D.int IntKind.i64 (Prod.fst (M.frac (M.dot (cI ga) (cI pax)) denx)), D.int IntKind.i64 (Prod.fst (Prod.snd (M.frac (M.dot (cI ga) (cI pax)) denx)))], Ar.c (D.int IntKind.i64 (Prod.snd (Prod.snd (M.frac (M.dot (cI ga) (cI pax)) denx))))])))))))))))))))))))))
theorem t57 (q_mo : Bool) (mo : List Int) (q_ga : Bool) (ga : List Int) (q_de : Bool) (de : List Dem) (denx : Int) (q_pax : Bool) (pax : List Int) : runFnX Try.prog G0 (lookS [v137, v139, v85]) (fun f => match f with | 172 => [(1, [.slot 10 (.int .i64), .blk 1000002 [.int .i64, .int .i64], .blk 1000003 [.int .i64]], none)] | 57 => [(5, [.slot 25 (.int .i64), .blk 4 [.int .i64, .int .i64], .blk 5 [.int .i64]], none)] | _ => []) [138, 172] 2 60 6 57 Try.f57 [.agg [.sl q_mo mo.length 1 (eI.F mo), .sl q_ga ga.length 1 (eI.F ga), .sl q_de de.length 3 (eDm.F de)], .agg [dI denx, .sl q_pax pax.length 1 (eI.F pax)]] =
    tr57 q_mo mo q_ga ga q_de de denx q_pax pax := by kernel_rfl
theorem w57 (qm : Bool) (mo : List Int) (qg : Bool) (ga : List Int) (qd : Bool) (de : List Dem) (den : Int) (qp : Bool) (pa : List Int) (h1 : mo.length ≤ 1000000) (h2 : ga.length ≤ 1000000) (h3 : de.length ≤ 1000000) (hn : ∀ d, d ∈ de → d.nm.size ≤ 1000000 ∧ d.co.length ≤ 1000000) (h4 : pa.length ≤ 1000000) :
    (tr57 qm mo qg ga qd de den qp pa).wp (fun rs => rsEqv rs (resF (M.ptRes mo ga de den pa))) := by
  unfold tr57 M.ptRes
  simp only [cI, cD, iI, iD, Enc.list_F]
  refine ⟨Enc.is_F _ _ _, Enc.is_F _ _ _, Enc.is_F _ _ _, Enc.is_F _ _ _, h1, h2, h3, hn, h4, wp_br (fun hb => ?_) (fun hb => ?_)⟩
  · rw [hb]; exact rsEqv_refl _
  rw [hb]
  have h0 : M.openPt mo ga de den pa = 0 := by simpa using hb
  obtain ⟨hc, hpt⟩ := open_right h0
  have hR := prog_right hc
  obtain ⟨p1, p2, p3⟩ := pt_right hpt
  have hn : ∀ d, d ∈ de → d.co.length ≤ 1000000 ∧ d.co.length ≤ pa.length := fun d hd => ⟨(hn d hd).2, by rw [(hR.rd d hd).1, p1]; exact Nat.le_refl _⟩
  show T.wp _ (fun rs => rsEqv rs (resF (M.ckPt mo ga de den pa)))
  have fin : ∀ e : Int, M.allowE mo de den pa = e → e ≠ 0 → rsEqv [.agg [dI 0, dI 0], rI e] (resF (M.ckPt mo ga de den pa)) := by
    intro e he hne
    unfold M.ckPt
    rw [he, bne_iff_ne.2 hne]; exact rsEqv_refl _
  refine range_wp (n := pa.length) (fun k _ => M.firstIdx (M.overP mo den pa) mo.length 0 = M.firstIdx (M.overP mo den pa) (mo.length - k) k) rfl ?_
  rintro k u hk hJ
  refine wp_br (fun hb => ?_) (fun hb => ?_)
  · have hlt := lt_of_dec hb
    have hs := idx_step (p := M.overP mo den pa) (show k < mo.length by omega)
    refine ⟨by show (0 : Int) ≤ k; omega, by show (k : Int) < pa.length; omega, by show (0 : Int) ≤ k; omega, by show (k : Int) < mo.length; omega, wp_br (fun hx => ?_) (fun hx => ?_)⟩
    · have hx : M.overP mo den pa k = true := hx
      rw [hx] at hs
      refine fin 24 ?_ (by decide)
      unfold M.allowE
      rw [hJ, hs]
      show cond (decide ((k : Int) < 0)) _ 24 = 24
      rw [decide_eq_false (by omega)]; rfl
    · have hx : M.overP mo den pa k = false := hx
      rw [hx] at hs
      exact ⟨hlt, wrap_succ (by omega), hJ.trans hs⟩
  have hge := ge_of_dec hb
  obtain rfl : k = pa.length := by omega
  rw [show mo.length - pa.length = 0 by omega] at hJ
  have fin2 : ∀ e : Int, cond (decide (M.brk de den pa < 0)) 0 13 = e → M.allowE mo de den pa = e := by
    intro e he
    unfold M.allowE
    rw [hJ]; exact he
  refine range_wp (n := de.length) (fun k _ => M.firstIdx (M.negR de den pa) de.length 0 = M.firstIdx (M.negR de den pa) (de.length - k) k) rfl ?_
  rintro k u' hk hI
  refine wp_br (fun hb => ?_) (fun hb => ?_)
  · have hlt := lt_of_dec hb
    have hs := idx_step (p := M.negR de den pa) hlt
    refine ⟨by show (0 : Int) ≤ k; omega, by show (k : Int) < de.length; omega, Enc.is_F _ _ _, Enc.is_F _ _ _, (hn _ (getD_mem hlt)).1, (hn _ (getD_mem hlt)).2, wp_br (fun hx => ?_) (fun hx => ?_)⟩
    · have hx : M.negR de den pa k = true := hx
      rw [hx] at hs
      refine fin 13 (fin2 13 ?_) (by decide)
      unfold M.brk
      rw [hI, hs]
      show cond (decide ((k : Int) < 0)) 0 13 = 13
      rw [decide_eq_false (by omega)]; rfl
    · have hx : M.negR de den pa k = false := hx
      rw [hx] at hs
      exact ⟨hlt, wrap_succ (by omega), hI.trans hs⟩
  · have hge := ge_of_dec hb
    obtain rfl : k = de.length := by omega
    rw [Nat.sub_self] at hI
    have ha := fin2 0 (by unfold M.brk; rw [hI]; rfl)
    obtain ⟨k1, k2⟩ := gain_ok hR hpt
    refine ⟨Enc.is_F _ _ _, Enc.is_F _ _ _, h2, by have := hR.lg; omega, k1, k2, by omega, ?_⟩
    show rsEqv _ (resF (M.ckPt mo ga de den pa))
    unfold M.ckPt
    rw [ha]; exact rsEqv_refl _
def dom57 : DomF
  | [.agg [.sl _ n_mo st_mo F_mo, .sl _ n_ga st_ga F_ga, .sl _ n_de st_de F_de], .agg [.int .i64 denx, .sl _ n_pax st_pax F_pax]] => (match Nat.beq st_mo 1 && Nat.beq st_ga 1 && Nat.beq st_de 3 && Nat.beq st_pax 1 with
    | true => some ([eI.Is n_mo F_mo, eI.Is n_ga F_ga, eDm.Is n_de F_de, eI.Is n_pax F_pax, (eI.list n_mo F_mo).length ≤ 1000000, (eI.list n_ga F_ga).length ≤ 1000000, (eDm.list n_de F_de).length ≤ 1000000, ∀ d, d ∈ (eDm.list n_de F_de) → d.nm.size ≤ 1000000 ∧ d.co.length ≤ 1000000, (eI.list n_pax F_pax).length ≤ 1000000], resF (M.ptRes (eI.list n_mo F_mo) (eI.list n_ga F_ga) (eDm.list n_de F_de) denx (eI.list n_pax F_pax)))
    | _ => none)
  | _ => none
def v57 : Nat × Sm := (57, fokSm dom57)
theorem C57 : FOK Try.prog G0 gw 57 dom57 := by
  intro ags p r hd hp κ w xs hw hl hG hx
  unfold dom57 at hd
  split at hd
  · rename_i q_mo n_mo st_mo F_mo q_ga n_ga st_ga F_ga q_de n_de st_de F_de denx q_pax n_pax st_pax F_pax
    split at hd
    · rename_i hst
      simp only [Bool.and_eq_true] at hst
      obtain ⟨⟨⟨g1, g2⟩, g3⟩, g4⟩ := hst
      have g1 := Nat.eq_of_beq_eq_true g1
      have g2 := Nat.eq_of_beq_eq_true g2
      have g3 := Nat.eq_of_beq_eq_true g3
      have g4 := Nat.eq_of_beq_eq_true g4
      subst g1 g2 g3 g4
      simp only [Option.some.injEq, Prod.mk.injEq] at hd
      obtain ⟨rfl, rfl⟩ := hd
      obtain ⟨hI_mo, hI_ga, hI_de, hI_pax, hp⟩ := hp
      have heq : agsEqv [.agg [.sl q_mo n_mo 1 F_mo, .sl q_ga n_ga 1 F_ga, .sl q_de n_de 3 F_de], .agg [.int .i64 denx, .sl q_pax n_pax 1 F_pax]] [.agg [.sl q_mo (eI.list n_mo F_mo).length 1 (eI.F (eI.list n_mo F_mo)), .sl q_ga (eI.list n_ga F_ga).length 1 (eI.F (eI.list n_ga F_ga)), .sl q_de (eDm.list n_de F_de).length 3 (eDm.F (eDm.list n_de F_de))], .agg [.int .i64 denx, .sl q_pax (eI.list n_pax F_pax).length 1 (eI.F (eI.list n_pax F_pax))]] := ⟨⟨eI.to id hI_mo, eI.to id hI_ga, eDm.to id hI_de, trivial⟩, ⟨rfl, eI.to id hI_pax, trivial⟩, trivial⟩
      have len_mo : (eI.list n_mo F_mo).length = n_mo := eI.list_len
      have len_ga : (eI.list n_ga F_ga).length = n_ga := eI.list_len
      have len_de : (eDm.list n_de F_de).length = n_de := eDm.list_len
      have len_pax : (eI.list n_pax F_pax).length = n_pax := eI.list_len
      generalize eI.list n_mo F_mo = mo at *
      generalize eI.list n_ga F_ga = ga at *
      generalize eDm.list n_de F_de = de at *
      generalize eI.list n_pax F_pax = pax at *
      subst len_mo len_ga len_de len_pax
      exact fokX_fin mixed gw_stable (sl := [v137, v139, v85]) ⟨S137, S139, S85, trivial⟩ Try.func57 hw hl hG hx heq rfl (t57 _ _ _ _ _ _ _ _ _) (w57 _ _ _ _ _ _ _ _ _ hp.1 hp.2.1 hp.2.2.1 hp.2.2.2.1 hp.2.2.2.2.1)
    · cases hd
  · cases hd
theorem S57 : SumOK Try.prog G0 gw 57 (fokSm dom57) := fok_sum Try.func57 rfl C57
end Go.Pl
end

section
set_option linter.unusedVariables false
set_option linter.unusedSimpArgs false
set_option maxRecDepth 100000
namespace Go.Pl
open Go.V Go.Proofs
def tr25 (q_mo : Bool) (mo : List Int) (q_ga : Bool) (ga : List Int) (q_de : Bool) (de : List Dem) (denx : Int) (q_pax : Bool) (pax : List Int) : T (List Ar) :=
    T.need (iI mo) (T.need (iI ga) (T.need (iD de) (T.need (iI pax) (T.need (List.length (cI mo) ≤ (1000000 : Nat)) (T.need (List.length (cD de) ≤ (1000000 : Nat)) (T.need (List.length (cI mo) ≤ List.length (cI pax)) (T.need (∀ (d : Dem), d ∈ cD de → List.length (Dem.co d) ≤ (1000000 : Nat) ∧ List.length (Dem.co d) ≤ List.length (cI pax)) (T.br (M.allowE (cI mo) (cD de) denx (cI pax) != (0 : Int)) (T.ret [Ar.agg [D.int IntKind.i64 (0 : Int), D.int IntKind.i64 (0 : Int)], Ar.c (D.int IntKind.i64 (M.allowE (cI mo) (cD de) denx (cI pax)))]) (T.need (iI ga) (T.need (iI pax) (T.need (List.length (cI ga) ≤ (1000000 : Nat)) (T.need (List.length (cI ga) ≤ List.length (cI pax)) (T.need (i64ok (M.dot (cI ga) (cI pax))) (T.need (i64ok denx) (T.need ((0 : Int) < denx) (T.ret [Ar.agg [D.int IntKind.i64 (Prod.fst (M.frac (M.dot (cI ga) (cI pax)) denx)), D.int IntKind.i64 (Prod.fst (Prod.snd (M.frac (M.dot (cI ga) (cI pax)) denx)))], Ar.c (D.int IntKind.i64 (Prod.snd (Prod.snd (M.frac (M.dot (cI ga) (cI pax)) denx))))]))))))))))))))))
theorem t25 (q_mo : Bool) (mo : List Int) (q_ga : Bool) (ga : List Int) (q_de : Bool) (de : List Dem) (denx : Int) (q_pax : Bool) (pax : List Int) : runFnX Try.prog G0 (lookS [v89, v90, v92]) (fun _ => []) [] 1 60 4 25 Try.f25 [.agg [.sl q_mo mo.length 1 (eI.F mo), .sl q_ga ga.length 1 (eI.F ga), .sl q_de de.length 3 (eDm.F de)], .agg [dI denx, .sl q_pax pax.length 1 (eI.F pax)]] =
    tr25 q_mo mo q_ga ga q_de de denx q_pax pax := by kernel_rfl
theorem w25 (qm : Bool) (mo : List Int) (qg : Bool) (ga : List Int) (qd : Bool) (de : List Dem) (den : Int) (qp : Bool) (pa : List Int) (hc : (M.checkProg mo ga de).2 = 0) (hp : M.ptErr mo den pa = 0) :
    (tr25 qm mo qg ga qd de den qp pa).wp (fun rs => rsEqv rs (resF (M.ckPt mo ga de den pa))) := by
  unfold tr25 M.ckPt
  simp only [cI, cD, iI, iD, Enc.list_F]
  have hR := prog_right hc
  obtain ⟨p1, p2, p3⟩ := pt_right hp
  have hn : ∀ d, d ∈ de → d.co.length ≤ 1000000 ∧ d.co.length ≤ pa.length := fun d hd => ⟨by have := (hR.rd d hd).1; have := hR.n4; omega, by rw [(hR.rd d hd).1, p1]; exact Nat.le_refl _⟩
  obtain ⟨k1, k2⟩ := gain_ok hR hp
  have := hR.n4; have := hR.ld; have := hR.lg
  refine ⟨Enc.is_F _ _ _, Enc.is_F _ _ _, Enc.is_F _ _ _, Enc.is_F _ _ _, by omega, by omega, by omega, hn, wp_br (fun hb => ?_) (fun hb => ?_)⟩
  · rw [hb]; exact rsEqv_refl _
  · rw [hb]; exact ⟨Enc.is_F _ _ _, Enc.is_F _ _ _, by omega, by omega, k1, k2, by omega, rsEqv_refl _⟩
def dom25 : DomF
  | [.agg [.sl _ n_mo st_mo F_mo, .sl _ n_ga st_ga F_ga, .sl _ n_de st_de F_de], .agg [.int .i64 denx, .sl _ n_pax st_pax F_pax]] => (match Nat.beq st_mo 1 && Nat.beq st_ga 1 && Nat.beq st_de 3 && Nat.beq st_pax 1 with
    | true => some ([eI.Is n_mo F_mo, eI.Is n_ga F_ga, eDm.Is n_de F_de, eI.Is n_pax F_pax, (M.checkProg (eI.list n_mo F_mo) (eI.list n_ga F_ga) (eDm.list n_de F_de)).2 = 0, M.ptErr (eI.list n_mo F_mo) denx (eI.list n_pax F_pax) = 0], resF (M.ckPt (eI.list n_mo F_mo) (eI.list n_ga F_ga) (eDm.list n_de F_de) denx (eI.list n_pax F_pax)))
    | _ => none)
  | _ => none
def v25 : Nat × Sm := (25, fokSm dom25)
theorem C25 : FOK Try.prog G0 gw 25 dom25 := by
  intro ags p r hd hp κ w xs hw hl hG hx
  unfold dom25 at hd
  split at hd
  · rename_i q_mo n_mo st_mo F_mo q_ga n_ga st_ga F_ga q_de n_de st_de F_de denx q_pax n_pax st_pax F_pax
    split at hd
    · rename_i hst
      simp only [Bool.and_eq_true] at hst
      obtain ⟨⟨⟨g1, g2⟩, g3⟩, g4⟩ := hst
      have g1 := Nat.eq_of_beq_eq_true g1
      have g2 := Nat.eq_of_beq_eq_true g2
      have g3 := Nat.eq_of_beq_eq_true g3
      have g4 := Nat.eq_of_beq_eq_true g4
      subst g1 g2 g3 g4
      simp only [Option.some.injEq, Prod.mk.injEq] at hd
      obtain ⟨rfl, rfl⟩ := hd
      obtain ⟨hI_mo, hI_ga, hI_de, hI_pax, hp⟩ := hp
      have heq : agsEqv [.agg [.sl q_mo n_mo 1 F_mo, .sl q_ga n_ga 1 F_ga, .sl q_de n_de 3 F_de], .agg [.int .i64 denx, .sl q_pax n_pax 1 F_pax]] [.agg [.sl q_mo (eI.list n_mo F_mo).length 1 (eI.F (eI.list n_mo F_mo)), .sl q_ga (eI.list n_ga F_ga).length 1 (eI.F (eI.list n_ga F_ga)), .sl q_de (eDm.list n_de F_de).length 3 (eDm.F (eDm.list n_de F_de))], .agg [.int .i64 denx, .sl q_pax (eI.list n_pax F_pax).length 1 (eI.F (eI.list n_pax F_pax))]] := ⟨⟨eI.to id hI_mo, eI.to id hI_ga, eDm.to id hI_de, trivial⟩, ⟨rfl, eI.to id hI_pax, trivial⟩, trivial⟩
      have len_mo : (eI.list n_mo F_mo).length = n_mo := eI.list_len
      have len_ga : (eI.list n_ga F_ga).length = n_ga := eI.list_len
      have len_de : (eDm.list n_de F_de).length = n_de := eDm.list_len
      have len_pax : (eI.list n_pax F_pax).length = n_pax := eI.list_len
      generalize eI.list n_mo F_mo = mo at *
      generalize eI.list n_ga F_ga = ga at *
      generalize eDm.list n_de F_de = de at *
      generalize eI.list n_pax F_pax = pax at *
      subst len_mo len_ga len_de len_pax
      exact fokX_fin mixed gw_stable (sl := [v89, v90, v92]) ⟨S89, S90, S92, trivial⟩ Try.func25 hw hl hG hx heq rfl (t25 _ _ _ _ _ _ _ _ _) (w25 _ _ _ _ _ _ _ _ _ hp.1 hp.2.1)
    · cases hd
  · cases hd
theorem S25 : SumOK Try.prog G0 gw 25 (fokSm dom25) := fok_sum Try.func25 rfl C25
end Go.Pl
end
