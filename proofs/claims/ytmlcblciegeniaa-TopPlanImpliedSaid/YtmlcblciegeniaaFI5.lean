/- The parts of the engines, of their contracts and of the plain laws that the claim rests on: A13, A16, A17, A19, A20, A21, A22, A24, A26, A28, A32, A33, A34, A35, A36, A39, A42, A43, A44, A56, A76, A77, A78d, A78, A79, A86, A91, A92, A48, P1, P2, P3, P4, P5, A49. -/
import Derived.Test.YtmlcblciegeniaaFI4
set_option linter.unusedVariables false
set_option linter.unusedSimpArgs false
section
set_option maxRecDepth 100000
namespace Go.Pl
open Go.V Go.Proofs
def canon(g:Nat)(i d:Int):List Ag:=[.agg [.sl true 2 4 (eSc.F [⟨1000,0,0,20000⟩,⟨1000,0,0,10000⟩]),dI 0],.c (dI i),.c (.fc g 1 (fun _=>dR [⟨d,d⟩,⟨d,d⟩]))]
def nd_t110_185_0_78:List Prop:=[
 Enc.Is eRg (List.length [(Rg.mk (78:Int) (78:Int)),(Rg.mk (78:Int) (78:Int))]) (Enc.F eRg [(Rg.mk (78:Int) (78:Int)),(Rg.mk (78:Int) (78:Int))]),
 (0:Int)≤(0:Int),
 (0:Int)<(2:Int),
 (0:Int)≤(0:Int),
 (0:Int)<(2:Int),
 (78:Int)≠(0:Int),
 (78:Int)≠(0:Int),
 (78:Int)≠(0:Int),
 Enc.Is eRg (List.length [(Rg.mk (78:Int) (78:Int)),(Rg.mk (78:Int) (78:Int))]) (Enc.F eRg [(Rg.mk (78:Int) (78:Int)),(Rg.mk (78:Int) (78:Int))]),
 (0:Int)≤(1:Int),
 (1:Int)<(2:Int),
 (0:Int)≤(1:Int),
 (1:Int)<(2:Int),
 (78:Int)≠(0:Int),
 (78:Int)≠(0:Int),
 (78:Int)≠(0:Int),
 i64ok (40:Int),
 i64ok (38:Int),
 (0:Int)<(78:Int)∧(78:Int)<(9223372036854775808:Int),
 (0:Int)<(78:Int)∧(78:Int)<(9223372036854775808:Int),
 i64ok (40:Int),
 i64ok (38:Int),
 (0:Int)<(78:Int)∧(78:Int)<(9223372036854775808:Int),
 (0:Int)<(78:Int)∧(78:Int)<(9223372036854775808:Int),
 i64ok (38:Int),
 i64ok (40:Int),
 (0:Int)<(78:Int)∧(78:Int)<(9223372036854775808:Int),
 (0:Int)<(78:Int)∧(78:Int)<(9223372036854775808:Int)]
theorem t110_185_0_78:runFnX Try.prog G0 (lookS [v131,v185]) (fun _=>[(999999,[],none)]) [] 1 60 3 110 Try.f110 (canon 185 0 78) =
  T.needs nd_t110_185_0_78 (T.ret [Ar.agg [D.int IntKind.i64 (25641:Int),D.int IntKind.i64 (25642:Int)]]):=by kernel_rfl
theorem all_t110_185_0_78:All nd_t110_185_0_78:=by
 unfold nd_t110_185_0_78
 repeat (refine⟨(by first|exact of_decide_eq_true rfl|exact fun i j _ _=>D.eqv_refl _|exact Enc.is_F _ _ _|exact fun i j hi _=>absurd hi (Nat.not_lt_zero i)),?_⟩)
 trivial
theorem w_t110_185_0_78:(T.needs nd_t110_185_0_78 (T.ret [Ar.agg [D.int IntKind.i64 (25641:Int),D.int IntKind.i64 (25642:Int)]])).wp (fun rs=>rsEqv rs [.agg [dI 25641,dI 25642]]):=by
 refine T.needs_wp all_t110_185_0_78 ?_
 exact rsEqv_refl _
def nd_t110_185_0_97:List Prop:=[
 Enc.Is eRg (List.length [(Rg.mk (97:Int) (97:Int)),(Rg.mk (97:Int) (97:Int))]) (Enc.F eRg [(Rg.mk (97:Int) (97:Int)),(Rg.mk (97:Int) (97:Int))]),
 (0:Int)≤(0:Int),
 (0:Int)<(2:Int),
 (0:Int)≤(0:Int),
 (0:Int)<(2:Int),
 (97:Int)≠(0:Int),
 (97:Int)≠(0:Int),
 (97:Int)≠(0:Int),
 Enc.Is eRg (List.length [(Rg.mk (97:Int) (97:Int)),(Rg.mk (97:Int) (97:Int))]) (Enc.F eRg [(Rg.mk (97:Int) (97:Int)),(Rg.mk (97:Int) (97:Int))]),
 (0:Int)≤(1:Int),
 (1:Int)<(2:Int),
 (0:Int)≤(1:Int),
 (1:Int)<(2:Int),
 (97:Int)≠(0:Int),
 (97:Int)≠(0:Int),
 (97:Int)≠(0:Int),
 i64ok (27:Int),
 i64ok (70:Int),
 (0:Int)<(97:Int)∧(97:Int)<(9223372036854775808:Int),
 (0:Int)<(97:Int)∧(97:Int)<(9223372036854775808:Int),
 i64ok (27:Int),
 i64ok (70:Int),
 (0:Int)<(97:Int)∧(97:Int)<(9223372036854775808:Int),
 (0:Int)<(97:Int)∧(97:Int)<(9223372036854775808:Int)]
theorem t110_185_0_97:runFnX Try.prog G0 (lookS [v131,v185]) (fun _=>[(999999,[],none)]) [] 1 60 3 110 Try.f110 (canon 185 0 97) =
  T.needs nd_t110_185_0_97 (T.ret [Ar.agg [D.int IntKind.i64 (20618:Int),D.int IntKind.i64 (20619:Int)]]):=by kernel_rfl
theorem all_t110_185_0_97:All nd_t110_185_0_97:=by
 unfold nd_t110_185_0_97
 repeat (refine⟨(by first|exact of_decide_eq_true rfl|exact fun i j _ _=>D.eqv_refl _|exact Enc.is_F _ _ _|exact fun i j hi _=>absurd hi (Nat.not_lt_zero i)),?_⟩)
 trivial
theorem w_t110_185_0_97:(T.needs nd_t110_185_0_97 (T.ret [Ar.agg [D.int IntKind.i64 (20618:Int),D.int IntKind.i64 (20619:Int)]])).wp (fun rs=>rsEqv rs [.agg [dI 20618,dI 20619]]):=by
 refine T.needs_wp all_t110_185_0_97 ?_
 exact rsEqv_refl _
def nd_t110_185_0_99:List Prop:=[
 Enc.Is eRg (List.length [(Rg.mk (99:Int) (99:Int)),(Rg.mk (99:Int) (99:Int))]) (Enc.F eRg [(Rg.mk (99:Int) (99:Int)),(Rg.mk (99:Int) (99:Int))]),
 (0:Int)≤(0:Int),
 (0:Int)<(2:Int),
 (0:Int)≤(0:Int),
 (0:Int)<(2:Int),
 (99:Int)≠(0:Int),
 (99:Int)≠(0:Int),
 (99:Int)≠(0:Int),
 Enc.Is eRg (List.length [(Rg.mk (99:Int) (99:Int)),(Rg.mk (99:Int) (99:Int))]) (Enc.F eRg [(Rg.mk (99:Int) (99:Int)),(Rg.mk (99:Int) (99:Int))]),
 (0:Int)≤(1:Int),
 (1:Int)<(2:Int),
 (0:Int)≤(1:Int),
 (1:Int)<(2:Int),
 (99:Int)≠(0:Int),
 (99:Int)≠(0:Int),
 (99:Int)≠(0:Int),
 i64ok (1:Int),
 i64ok (98:Int),
 (0:Int)<(99:Int)∧(99:Int)<(9223372036854775808:Int),
 (0:Int)<(99:Int)∧(99:Int)<(9223372036854775808:Int),
 i64ok (1:Int),
 i64ok (98:Int),
 (0:Int)<(99:Int)∧(99:Int)<(9223372036854775808:Int),
 (0:Int)<(99:Int)∧(99:Int)<(9223372036854775808:Int)]
theorem t110_185_0_99:runFnX Try.prog G0 (lookS [v131,v185]) (fun _=>[(999999,[],none)]) [] 1 60 3 110 Try.f110 (canon 185 0 99) =
  T.needs nd_t110_185_0_99 (T.ret [Ar.agg [D.int IntKind.i64 (20202:Int),D.int IntKind.i64 (20203:Int)]]):=by kernel_rfl
theorem all_t110_185_0_99:All nd_t110_185_0_99:=by
 unfold nd_t110_185_0_99
 repeat (refine⟨(by first|exact of_decide_eq_true rfl|exact fun i j _ _=>D.eqv_refl _|exact Enc.is_F _ _ _|exact fun i j hi _=>absurd hi (Nat.not_lt_zero i)),?_⟩)
 trivial
theorem w_t110_185_0_99:(T.needs nd_t110_185_0_99 (T.ret [Ar.agg [D.int IntKind.i64 (20202:Int),D.int IntKind.i64 (20203:Int)]])).wp (fun rs=>rsEqv rs [.agg [dI 20202,dI 20203]]):=by
 refine T.needs_wp all_t110_185_0_99 ?_
 exact rsEqv_refl _
def nd_t110_185_0_100:List Prop:=[
 Enc.Is eRg (List.length [(Rg.mk (100:Int) (100:Int)),(Rg.mk (100:Int) (100:Int))]) (Enc.F eRg [(Rg.mk (100:Int) (100:Int)),(Rg.mk (100:Int) (100:Int))]),
 (0:Int)≤(0:Int),
 (0:Int)<(2:Int),
 (0:Int)≤(0:Int),
 (0:Int)<(2:Int),
 (100:Int)≠(0:Int),
 (100:Int)≠(0:Int),
 (100:Int)≠(0:Int),
 Enc.Is eRg (List.length [(Rg.mk (100:Int) (100:Int)),(Rg.mk (100:Int) (100:Int))]) (Enc.F eRg [(Rg.mk (100:Int) (100:Int)),(Rg.mk (100:Int) (100:Int))]),
 (0:Int)≤(1:Int),
 (1:Int)<(2:Int),
 (0:Int)≤(1:Int),
 (1:Int)<(2:Int),
 (100:Int)≠(0:Int),
 (100:Int)≠(0:Int),
 (100:Int)≠(0:Int),
 i64ok (0:Int),
 i64ok (100:Int),
 (0:Int)<(100:Int)∧(100:Int)<(9223372036854775808:Int),
 (0:Int)<(100:Int)∧(100:Int)<(9223372036854775808:Int)]
theorem t110_185_0_100:runFnX Try.prog G0 (lookS [v131,v185]) (fun _=>[(999999,[],none)]) [] 1 60 3 110 Try.f110 (canon 185 0 100) =
  T.needs nd_t110_185_0_100 (T.ret [Ar.agg [D.int IntKind.i64 (20000:Int),D.int IntKind.i64 (20000:Int)]]):=by kernel_rfl
theorem all_t110_185_0_100:All nd_t110_185_0_100:=by
 unfold nd_t110_185_0_100
 repeat (refine⟨(by first|exact of_decide_eq_true rfl|exact fun i j _ _=>D.eqv_refl _|exact Enc.is_F _ _ _|exact fun i j hi _=>absurd hi (Nat.not_lt_zero i)),?_⟩)
 trivial
theorem w_t110_185_0_100:(T.needs nd_t110_185_0_100 (T.ret [Ar.agg [D.int IntKind.i64 (20000:Int),D.int IntKind.i64 (20000:Int)]])).wp (fun rs=>rsEqv rs [.agg [dI 20000,dI 20000]]):=by
 refine T.needs_wp all_t110_185_0_100 ?_
 exact rsEqv_refl _
def nd_t110_185_0_101:List Prop:=[
 Enc.Is eRg (List.length [(Rg.mk (101:Int) (101:Int)),(Rg.mk (101:Int) (101:Int))]) (Enc.F eRg [(Rg.mk (101:Int) (101:Int)),(Rg.mk (101:Int) (101:Int))]),
 (0:Int)≤(0:Int),
 (0:Int)<(2:Int),
 (0:Int)≤(0:Int),
 (0:Int)<(2:Int),
 (101:Int)≠(0:Int),
 (101:Int)≠(0:Int),
 (101:Int)≠(0:Int),
 Enc.Is eRg (List.length [(Rg.mk (101:Int) (101:Int)),(Rg.mk (101:Int) (101:Int))]) (Enc.F eRg [(Rg.mk (101:Int) (101:Int)),(Rg.mk (101:Int) (101:Int))]),
 (0:Int)≤(1:Int),
 (1:Int)<(2:Int),
 (0:Int)≤(1:Int),
 (1:Int)<(2:Int),
 (101:Int)≠(0:Int),
 (101:Int)≠(0:Int),
 (101:Int)≠(0:Int),
 i64ok (100:Int),
 i64ok (1:Int),
 (0:Int)<(101:Int)∧(101:Int)<(9223372036854775808:Int),
 (0:Int)<(101:Int)∧(101:Int)<(9223372036854775808:Int),
 i64ok (100:Int),
 i64ok (1:Int),
 (0:Int)<(101:Int)∧(101:Int)<(9223372036854775808:Int),
 (0:Int)<(101:Int)∧(101:Int)<(9223372036854775808:Int),
 i64ok (1:Int),
 i64ok (100:Int),
 (0:Int)<(101:Int)∧(101:Int)<(9223372036854775808:Int),
 (0:Int)<(101:Int)∧(101:Int)<(9223372036854775808:Int)]
theorem t110_185_0_101:runFnX Try.prog G0 (lookS [v131,v185]) (fun _=>[(999999,[],none)]) [] 1 60 3 110 Try.f110 (canon 185 0 101) =
  T.needs nd_t110_185_0_101 (T.ret [Ar.agg [D.int IntKind.i64 (19801:Int),D.int IntKind.i64 (19802:Int)]]):=by kernel_rfl
theorem all_t110_185_0_101:All nd_t110_185_0_101:=by
 unfold nd_t110_185_0_101
 repeat (refine⟨(by first|exact of_decide_eq_true rfl|exact fun i j _ _=>D.eqv_refl _|exact Enc.is_F _ _ _|exact fun i j hi _=>absurd hi (Nat.not_lt_zero i)),?_⟩)
 trivial
theorem w_t110_185_0_101:(T.needs nd_t110_185_0_101 (T.ret [Ar.agg [D.int IntKind.i64 (19801:Int),D.int IntKind.i64 (19802:Int)]])).wp (fun rs=>rsEqv rs [.agg [dI 19801,dI 19802]]):=by
 refine T.needs_wp all_t110_185_0_101 ?_
 exact rsEqv_refl _
def nd_t110_185_0_102:List Prop:=[
 Enc.Is eRg (List.length [(Rg.mk (102:Int) (102:Int)),(Rg.mk (102:Int) (102:Int))]) (Enc.F eRg [(Rg.mk (102:Int) (102:Int)),(Rg.mk (102:Int) (102:Int))]),
 (0:Int)≤(0:Int),
 (0:Int)<(2:Int),
 (0:Int)≤(0:Int),
 (0:Int)<(2:Int),
 (102:Int)≠(0:Int),
 (102:Int)≠(0:Int),
 (102:Int)≠(0:Int),
 Enc.Is eRg (List.length [(Rg.mk (102:Int) (102:Int)),(Rg.mk (102:Int) (102:Int))]) (Enc.F eRg [(Rg.mk (102:Int) (102:Int)),(Rg.mk (102:Int) (102:Int))]),
 (0:Int)≤(1:Int),
 (1:Int)<(2:Int),
 (0:Int)≤(1:Int),
 (1:Int)<(2:Int),
 (102:Int)≠(0:Int),
 (102:Int)≠(0:Int),
 (102:Int)≠(0:Int),
 i64ok (94:Int),
 i64ok (8:Int),
 (0:Int)<(102:Int)∧(102:Int)<(9223372036854775808:Int),
 (0:Int)<(102:Int)∧(102:Int)<(9223372036854775808:Int),
 i64ok (94:Int),
 i64ok (8:Int),
 (0:Int)<(102:Int)∧(102:Int)<(9223372036854775808:Int),
 (0:Int)<(102:Int)∧(102:Int)<(9223372036854775808:Int),
 i64ok (8:Int),
 i64ok (94:Int),
 (0:Int)<(102:Int)∧(102:Int)<(9223372036854775808:Int),
 (0:Int)<(102:Int)∧(102:Int)<(9223372036854775808:Int)]
theorem t110_185_0_102:runFnX Try.prog G0 (lookS [v131,v185]) (fun _=>[(999999,[],none)]) [] 1 60 3 110 Try.f110 (canon 185 0 102) =
  T.needs nd_t110_185_0_102 (T.ret [Ar.agg [D.int IntKind.i64 (19607:Int),D.int IntKind.i64 (19608:Int)]]):=by kernel_rfl
theorem all_t110_185_0_102:All nd_t110_185_0_102:=by
 unfold nd_t110_185_0_102
 repeat (refine⟨(by first|exact of_decide_eq_true rfl|exact fun i j _ _=>D.eqv_refl _|exact Enc.is_F _ _ _|exact fun i j hi _=>absurd hi (Nat.not_lt_zero i)),?_⟩)
 trivial
theorem w_t110_185_0_102:(T.needs nd_t110_185_0_102 (T.ret [Ar.agg [D.int IntKind.i64 (19607:Int),D.int IntKind.i64 (19608:Int)]])).wp (fun rs=>rsEqv rs [.agg [dI 19607,dI 19608]]):=by
 refine T.needs_wp all_t110_185_0_102 ?_
 exact rsEqv_refl _
def nd_t110_185_0_107:List Prop:=[
 Enc.Is eRg (List.length [(Rg.mk (107:Int) (107:Int)),(Rg.mk (107:Int) (107:Int))]) (Enc.F eRg [(Rg.mk (107:Int) (107:Int)),(Rg.mk (107:Int) (107:Int))]),
 (0:Int)≤(0:Int),
 (0:Int)<(2:Int),
 (0:Int)≤(0:Int),
 (0:Int)<(2:Int),
 (107:Int)≠(0:Int),
 (107:Int)≠(0:Int),
 (107:Int)≠(0:Int),
 Enc.Is eRg (List.length [(Rg.mk (107:Int) (107:Int)),(Rg.mk (107:Int) (107:Int))]) (Enc.F eRg [(Rg.mk (107:Int) (107:Int)),(Rg.mk (107:Int) (107:Int))]),
 (0:Int)≤(1:Int),
 (1:Int)<(2:Int),
 (0:Int)≤(1:Int),
 (1:Int)<(2:Int),
 (107:Int)≠(0:Int),
 (107:Int)≠(0:Int),
 (107:Int)≠(0:Int),
 i64ok (85:Int),
 i64ok (22:Int),
 (0:Int)<(107:Int)∧(107:Int)<(9223372036854775808:Int),
 (0:Int)<(107:Int)∧(107:Int)<(9223372036854775808:Int),
 i64ok (85:Int),
 i64ok (22:Int),
 (0:Int)<(107:Int)∧(107:Int)<(9223372036854775808:Int),
 (0:Int)<(107:Int)∧(107:Int)<(9223372036854775808:Int),
 i64ok (22:Int),
 i64ok (85:Int),
 (0:Int)<(107:Int)∧(107:Int)<(9223372036854775808:Int),
 (0:Int)<(107:Int)∧(107:Int)<(9223372036854775808:Int)]
theorem t110_185_0_107:runFnX Try.prog G0 (lookS [v131,v185]) (fun _=>[(999999,[],none)]) [] 1 60 3 110 Try.f110 (canon 185 0 107) =
  T.needs nd_t110_185_0_107 (T.ret [Ar.agg [D.int IntKind.i64 (18691:Int),D.int IntKind.i64 (18692:Int)]]):=by kernel_rfl
theorem all_t110_185_0_107:All nd_t110_185_0_107:=by
 unfold nd_t110_185_0_107
 repeat (refine⟨(by first|exact of_decide_eq_true rfl|exact fun i j _ _=>D.eqv_refl _|exact Enc.is_F _ _ _|exact fun i j hi _=>absurd hi (Nat.not_lt_zero i)),?_⟩)
 trivial
theorem w_t110_185_0_107:(T.needs nd_t110_185_0_107 (T.ret [Ar.agg [D.int IntKind.i64 (18691:Int),D.int IntKind.i64 (18692:Int)]])).wp (fun rs=>rsEqv rs [.agg [dI 18691,dI 18692]]):=by
 refine T.needs_wp all_t110_185_0_107 ?_
 exact rsEqv_refl _
def nd_t110_185_0_117:List Prop:=[
 Enc.Is eRg (List.length [(Rg.mk (117:Int) (117:Int)),(Rg.mk (117:Int) (117:Int))]) (Enc.F eRg [(Rg.mk (117:Int) (117:Int)),(Rg.mk (117:Int) (117:Int))]),
 (0:Int)≤(0:Int),
 (0:Int)<(2:Int),
 (0:Int)≤(0:Int),
 (0:Int)<(2:Int),
 (117:Int)≠(0:Int),
 (117:Int)≠(0:Int),
 (117:Int)≠(0:Int),
 Enc.Is eRg (List.length [(Rg.mk (117:Int) (117:Int)),(Rg.mk (117:Int) (117:Int))]) (Enc.F eRg [(Rg.mk (117:Int) (117:Int)),(Rg.mk (117:Int) (117:Int))]),
 (0:Int)≤(1:Int),
 (1:Int)<(2:Int),
 (0:Int)≤(1:Int),
 (1:Int)<(2:Int),
 (117:Int)≠(0:Int),
 (117:Int)≠(0:Int),
 (117:Int)≠(0:Int),
 i64ok (1:Int),
 i64ok (116:Int),
 (0:Int)<(117:Int)∧(117:Int)<(9223372036854775808:Int),
 (0:Int)<(117:Int)∧(117:Int)<(9223372036854775808:Int),
 i64ok (1:Int),
 i64ok (116:Int),
 (0:Int)<(117:Int)∧(117:Int)<(9223372036854775808:Int),
 (0:Int)<(117:Int)∧(117:Int)<(9223372036854775808:Int)]
theorem t110_185_0_117:runFnX Try.prog G0 (lookS [v131,v185]) (fun _=>[(999999,[],none)]) [] 1 60 3 110 Try.f110 (canon 185 0 117) =
  T.needs nd_t110_185_0_117 (T.ret [Ar.agg [D.int IntKind.i64 (17094:Int),D.int IntKind.i64 (17095:Int)]]):=by kernel_rfl
theorem all_t110_185_0_117:All nd_t110_185_0_117:=by
 unfold nd_t110_185_0_117
 repeat (refine⟨(by first|exact of_decide_eq_true rfl|exact fun i j _ _=>D.eqv_refl _|exact Enc.is_F _ _ _|exact fun i j hi _=>absurd hi (Nat.not_lt_zero i)),?_⟩)
 trivial
theorem w_t110_185_0_117:(T.needs nd_t110_185_0_117 (T.ret [Ar.agg [D.int IntKind.i64 (17094:Int),D.int IntKind.i64 (17095:Int)]])).wp (fun rs=>rsEqv rs [.agg [dI 17094,dI 17095]]):=by
 refine T.needs_wp all_t110_185_0_117 ?_
 exact rsEqv_refl _
def nd_t110_185_0_156:List Prop:=[
 Enc.Is eRg (List.length [(Rg.mk (156:Int) (156:Int)),(Rg.mk (156:Int) (156:Int))]) (Enc.F eRg [(Rg.mk (156:Int) (156:Int)),(Rg.mk (156:Int) (156:Int))]),
 (0:Int)≤(0:Int),
 (0:Int)<(2:Int),
 (0:Int)≤(0:Int),
 (0:Int)<(2:Int),
 (156:Int)≠(0:Int),
 (156:Int)≠(0:Int),
 (156:Int)≠(0:Int),
 Enc.Is eRg (List.length [(Rg.mk (156:Int) (156:Int)),(Rg.mk (156:Int) (156:Int))]) (Enc.F eRg [(Rg.mk (156:Int) (156:Int)),(Rg.mk (156:Int) (156:Int))]),
 (0:Int)≤(1:Int),
 (1:Int)<(2:Int),
 (0:Int)≤(1:Int),
 (1:Int)<(2:Int),
 (156:Int)≠(0:Int),
 (156:Int)≠(0:Int),
 (156:Int)≠(0:Int),
 i64ok (40:Int),
 i64ok (116:Int),
 (0:Int)<(156:Int)∧(156:Int)<(9223372036854775808:Int),
 (0:Int)<(156:Int)∧(156:Int)<(9223372036854775808:Int),
 i64ok (40:Int),
 i64ok (116:Int),
 (0:Int)<(156:Int)∧(156:Int)<(9223372036854775808:Int),
 (0:Int)<(156:Int)∧(156:Int)<(9223372036854775808:Int)]
theorem t110_185_0_156:runFnX Try.prog G0 (lookS [v131,v185]) (fun _=>[(999999,[],none)]) [] 1 60 3 110 Try.f110 (canon 185 0 156) =
  T.needs nd_t110_185_0_156 (T.ret [Ar.agg [D.int IntKind.i64 (12820:Int),D.int IntKind.i64 (12821:Int)]]):=by kernel_rfl
theorem all_t110_185_0_156:All nd_t110_185_0_156:=by
 unfold nd_t110_185_0_156
 repeat (refine⟨(by first|exact of_decide_eq_true rfl|exact fun i j _ _=>D.eqv_refl _|exact Enc.is_F _ _ _|exact fun i j hi _=>absurd hi (Nat.not_lt_zero i)),?_⟩)
 trivial
theorem w_t110_185_0_156:(T.needs nd_t110_185_0_156 (T.ret [Ar.agg [D.int IntKind.i64 (12820:Int),D.int IntKind.i64 (12821:Int)]])).wp (fun rs=>rsEqv rs [.agg [dI 12820,dI 12821]]):=by
 refine T.needs_wp all_t110_185_0_156 ?_
 exact rsEqv_refl _
def nd_t110_185_0_312:List Prop:=[
 Enc.Is eRg (List.length [(Rg.mk (312:Int) (312:Int)),(Rg.mk (312:Int) (312:Int))]) (Enc.F eRg [(Rg.mk (312:Int) (312:Int)),(Rg.mk (312:Int) (312:Int))]),
 (0:Int)≤(0:Int),
 (0:Int)<(2:Int),
 (0:Int)≤(0:Int),
 (0:Int)<(2:Int),
 (312:Int)≠(0:Int),
 (312:Int)≠(0:Int),
 (312:Int)≠(0:Int),
 Enc.Is eRg (List.length [(Rg.mk (312:Int) (312:Int)),(Rg.mk (312:Int) (312:Int))]) (Enc.F eRg [(Rg.mk (312:Int) (312:Int)),(Rg.mk (312:Int) (312:Int))]),
 (0:Int)≤(1:Int),
 (1:Int)<(2:Int),
 (0:Int)≤(1:Int),
 (1:Int)<(2:Int),
 (312:Int)≠(0:Int),
 (312:Int)≠(0:Int),
 (312:Int)≠(0:Int),
 i64ok (40:Int),
 i64ok (272:Int),
 (0:Int)<(312:Int)∧(312:Int)<(9223372036854775808:Int),
 (0:Int)<(312:Int)∧(312:Int)<(9223372036854775808:Int),
 i64ok (40:Int),
 i64ok (272:Int),
 (0:Int)<(312:Int)∧(312:Int)<(9223372036854775808:Int),
 (0:Int)<(312:Int)∧(312:Int)<(9223372036854775808:Int)]
theorem t110_185_0_312:runFnX Try.prog G0 (lookS [v131,v185]) (fun _=>[(999999,[],none)]) [] 1 60 3 110 Try.f110 (canon 185 0 312) =
  T.needs nd_t110_185_0_312 (T.ret [Ar.agg [D.int IntKind.i64 (6410:Int),D.int IntKind.i64 (6411:Int)]]):=by kernel_rfl
theorem all_t110_185_0_312:All nd_t110_185_0_312:=by
 unfold nd_t110_185_0_312
 repeat (refine⟨(by first|exact of_decide_eq_true rfl|exact fun i j _ _=>D.eqv_refl _|exact Enc.is_F _ _ _|exact fun i j hi _=>absurd hi (Nat.not_lt_zero i)),?_⟩)
 trivial
theorem w_t110_185_0_312:(T.needs nd_t110_185_0_312 (T.ret [Ar.agg [D.int IntKind.i64 (6410:Int),D.int IntKind.i64 (6411:Int)]])).wp (fun rs=>rsEqv rs [.agg [dI 6410,dI 6411]]):=by
 refine T.needs_wp all_t110_185_0_312 ?_
 exact rsEqv_refl _
def nd_t110_185_0_625:List Prop:=[
 Enc.Is eRg (List.length [(Rg.mk (625:Int) (625:Int)),(Rg.mk (625:Int) (625:Int))]) (Enc.F eRg [(Rg.mk (625:Int) (625:Int)),(Rg.mk (625:Int) (625:Int))]),
 (0:Int)≤(0:Int),
 (0:Int)<(2:Int),
 (0:Int)≤(0:Int),
 (0:Int)<(2:Int),
 (625:Int)≠(0:Int),
 (625:Int)≠(0:Int),
 (625:Int)≠(0:Int),
 Enc.Is eRg (List.length [(Rg.mk (625:Int) (625:Int)),(Rg.mk (625:Int) (625:Int))]) (Enc.F eRg [(Rg.mk (625:Int) (625:Int)),(Rg.mk (625:Int) (625:Int))]),
 (0:Int)≤(1:Int),
 (1:Int)<(2:Int),
 (0:Int)≤(1:Int),
 (1:Int)<(2:Int),
 (625:Int)≠(0:Int),
 (625:Int)≠(0:Int),
 (625:Int)≠(0:Int),
 i64ok (0:Int),
 i64ok (625:Int),
 (0:Int)<(625:Int)∧(625:Int)<(9223372036854775808:Int),
 (0:Int)<(625:Int)∧(625:Int)<(9223372036854775808:Int)]
theorem t110_185_0_625:runFnX Try.prog G0 (lookS [v131,v185]) (fun _=>[(999999,[],none)]) [] 1 60 3 110 Try.f110 (canon 185 0 625) =
  T.needs nd_t110_185_0_625 (T.ret [Ar.agg [D.int IntKind.i64 (3200:Int),D.int IntKind.i64 (3200:Int)]]):=by kernel_rfl
theorem all_t110_185_0_625:All nd_t110_185_0_625:=by
 unfold nd_t110_185_0_625
 repeat (refine⟨(by first|exact of_decide_eq_true rfl|exact fun i j _ _=>D.eqv_refl _|exact Enc.is_F _ _ _|exact fun i j hi _=>absurd hi (Nat.not_lt_zero i)),?_⟩)
 trivial
theorem w_t110_185_0_625:(T.needs nd_t110_185_0_625 (T.ret [Ar.agg [D.int IntKind.i64 (3200:Int),D.int IntKind.i64 (3200:Int)]])).wp (fun rs=>rsEqv rs [.agg [dI 3200,dI 3200]]):=by
 refine T.needs_wp all_t110_185_0_625 ?_
 exact rsEqv_refl _
def nd_t110_185_1_78:List Prop:=[
 Enc.Is eRg (List.length [(Rg.mk (78:Int) (78:Int)),(Rg.mk (78:Int) (78:Int))]) (Enc.F eRg [(Rg.mk (78:Int) (78:Int)),(Rg.mk (78:Int) (78:Int))]),
 (0:Int)≤(1:Int),
 (1:Int)<(2:Int),
 (0:Int)≤(1:Int),
 (1:Int)<(2:Int),
 (78:Int)≠(0:Int),
 (78:Int)≠(0:Int),
 (78:Int)≠(0:Int),
 i64ok (0:Int),
 i64ok (38:Int),
 (0:Int)<(1:Int)∧(1:Int)<(9223372036854775808:Int),
 (0:Int)<(78:Int)∧(78:Int)<(9223372036854775808:Int),
 i64ok (0:Int),
 i64ok (38:Int),
 (0:Int)<(1:Int)∧(1:Int)<(9223372036854775808:Int),
 (0:Int)<(78:Int)∧(78:Int)<(9223372036854775808:Int)]
theorem t110_185_1_78:runFnX Try.prog G0 (lookS [v131,v185]) (fun _=>[(999999,[],none)]) [] 1 60 3 110 Try.f110 (canon 185 1 78) =
  T.needs nd_t110_185_1_78 (T.ret [Ar.agg [D.int IntKind.i64 (12820:Int),D.int IntKind.i64 (12821:Int)]]):=by kernel_rfl
theorem all_t110_185_1_78:All nd_t110_185_1_78:=by
 unfold nd_t110_185_1_78
 repeat (refine⟨(by first|exact of_decide_eq_true rfl|exact fun i j _ _=>D.eqv_refl _|exact Enc.is_F _ _ _|exact fun i j hi _=>absurd hi (Nat.not_lt_zero i)),?_⟩)
 trivial
theorem w_t110_185_1_78:(T.needs nd_t110_185_1_78 (T.ret [Ar.agg [D.int IntKind.i64 (12820:Int),D.int IntKind.i64 (12821:Int)]])).wp (fun rs=>rsEqv rs [.agg [dI 12820,dI 12821]]):=by
 refine T.needs_wp all_t110_185_1_78 ?_
 exact rsEqv_refl _
def nd_t110_185_1_97:List Prop:=[
 Enc.Is eRg (List.length [(Rg.mk (97:Int) (97:Int)),(Rg.mk (97:Int) (97:Int))]) (Enc.F eRg [(Rg.mk (97:Int) (97:Int)),(Rg.mk (97:Int) (97:Int))]),
 (0:Int)≤(1:Int),
 (1:Int)<(2:Int),
 (0:Int)≤(1:Int),
 (1:Int)<(2:Int),
 (97:Int)≠(0:Int),
 (97:Int)≠(0:Int),
 (97:Int)≠(0:Int),
 i64ok (0:Int),
 i64ok (70:Int),
 (0:Int)<(1:Int)∧(1:Int)<(9223372036854775808:Int),
 (0:Int)<(97:Int)∧(97:Int)<(9223372036854775808:Int),
 i64ok (0:Int),
 i64ok (70:Int),
 (0:Int)<(1:Int)∧(1:Int)<(9223372036854775808:Int),
 (0:Int)<(97:Int)∧(97:Int)<(9223372036854775808:Int)]
theorem t110_185_1_97:runFnX Try.prog G0 (lookS [v131,v185]) (fun _=>[(999999,[],none)]) [] 1 60 3 110 Try.f110 (canon 185 1 97) =
  T.needs nd_t110_185_1_97 (T.ret [Ar.agg [D.int IntKind.i64 (10309:Int),D.int IntKind.i64 (10310:Int)]]):=by kernel_rfl
theorem all_t110_185_1_97:All nd_t110_185_1_97:=by
 unfold nd_t110_185_1_97
 repeat (refine⟨(by first|exact of_decide_eq_true rfl|exact fun i j _ _=>D.eqv_refl _|exact Enc.is_F _ _ _|exact fun i j hi _=>absurd hi (Nat.not_lt_zero i)),?_⟩)
 trivial
theorem w_t110_185_1_97:(T.needs nd_t110_185_1_97 (T.ret [Ar.agg [D.int IntKind.i64 (10309:Int),D.int IntKind.i64 (10310:Int)]])).wp (fun rs=>rsEqv rs [.agg [dI 10309,dI 10310]]):=by
 refine T.needs_wp all_t110_185_1_97 ?_
 exact rsEqv_refl _
def nd_t110_185_1_99:List Prop:=[
 Enc.Is eRg (List.length [(Rg.mk (99:Int) (99:Int)),(Rg.mk (99:Int) (99:Int))]) (Enc.F eRg [(Rg.mk (99:Int) (99:Int)),(Rg.mk (99:Int) (99:Int))]),
 (0:Int)≤(1:Int),
 (1:Int)<(2:Int),
 (0:Int)≤(1:Int),
 (1:Int)<(2:Int),
 (99:Int)≠(0:Int),
 (99:Int)≠(0:Int),
 (99:Int)≠(0:Int),
 i64ok (0:Int),
 i64ok (98:Int),
 (0:Int)<(1:Int)∧(1:Int)<(9223372036854775808:Int),
 (0:Int)<(99:Int)∧(99:Int)<(9223372036854775808:Int),
 i64ok (0:Int),
 i64ok (98:Int),
 (0:Int)<(1:Int)∧(1:Int)<(9223372036854775808:Int),
 (0:Int)<(99:Int)∧(99:Int)<(9223372036854775808:Int)]
theorem t110_185_1_99:runFnX Try.prog G0 (lookS [v131,v185]) (fun _=>[(999999,[],none)]) [] 1 60 3 110 Try.f110 (canon 185 1 99) =
  T.needs nd_t110_185_1_99 (T.ret [Ar.agg [D.int IntKind.i64 (10101:Int),D.int IntKind.i64 (10102:Int)]]):=by kernel_rfl
theorem all_t110_185_1_99:All nd_t110_185_1_99:=by
 unfold nd_t110_185_1_99
 repeat (refine⟨(by first|exact of_decide_eq_true rfl|exact fun i j _ _=>D.eqv_refl _|exact Enc.is_F _ _ _|exact fun i j hi _=>absurd hi (Nat.not_lt_zero i)),?_⟩)
 trivial
theorem w_t110_185_1_99:(T.needs nd_t110_185_1_99 (T.ret [Ar.agg [D.int IntKind.i64 (10101:Int),D.int IntKind.i64 (10102:Int)]])).wp (fun rs=>rsEqv rs [.agg [dI 10101,dI 10102]]):=by
 refine T.needs_wp all_t110_185_1_99 ?_
 exact rsEqv_refl _
def nd_t110_185_1_100:List Prop:=[
 Enc.Is eRg (List.length [(Rg.mk (100:Int) (100:Int)),(Rg.mk (100:Int) (100:Int))]) (Enc.F eRg [(Rg.mk (100:Int) (100:Int)),(Rg.mk (100:Int) (100:Int))]),
 (0:Int)≤(1:Int),
 (1:Int)<(2:Int),
 (0:Int)≤(1:Int),
 (1:Int)<(2:Int),
 (100:Int)≠(0:Int),
 (100:Int)≠(0:Int),
 (100:Int)≠(0:Int),
 i64ok (0:Int),
 i64ok (100:Int),
 (0:Int)<(1:Int)∧(1:Int)<(9223372036854775808:Int),
 (0:Int)<(100:Int)∧(100:Int)<(9223372036854775808:Int)]
theorem t110_185_1_100:runFnX Try.prog G0 (lookS [v131,v185]) (fun _=>[(999999,[],none)]) [] 1 60 3 110 Try.f110 (canon 185 1 100) =
  T.needs nd_t110_185_1_100 (T.ret [Ar.agg [D.int IntKind.i64 (10000:Int),D.int IntKind.i64 (10000:Int)]]):=by kernel_rfl
theorem all_t110_185_1_100:All nd_t110_185_1_100:=by
 unfold nd_t110_185_1_100
 repeat (refine⟨(by first|exact of_decide_eq_true rfl|exact fun i j _ _=>D.eqv_refl _|exact Enc.is_F _ _ _|exact fun i j hi _=>absurd hi (Nat.not_lt_zero i)),?_⟩)
 trivial
theorem w_t110_185_1_100:(T.needs nd_t110_185_1_100 (T.ret [Ar.agg [D.int IntKind.i64 (10000:Int),D.int IntKind.i64 (10000:Int)]])).wp (fun rs=>rsEqv rs [.agg [dI 10000,dI 10000]]):=by
 refine T.needs_wp all_t110_185_1_100 ?_
 exact rsEqv_refl _
def nd_t110_111_0_100:List Prop:=[
 Enc.Is eRg (List.length [(Rg.mk (100:Int) (100:Int)),(Rg.mk (100:Int) (100:Int))]) (Enc.F eRg [(Rg.mk (100:Int) (100:Int)),(Rg.mk (100:Int) (100:Int))]),
 (0:Int)≤(0:Int),
 (0:Int)<(2:Int),
 (0:Int)≤(0:Int),
 (0:Int)<(2:Int),
 (100:Int)≠(0:Int),
 (100:Int)≠(0:Int),
 (100:Int)≠(0:Int),
 Enc.Is eRg (List.length [(Rg.mk (100:Int) (100:Int)),(Rg.mk (100:Int) (100:Int))]) (Enc.F eRg [(Rg.mk (100:Int) (100:Int)),(Rg.mk (100:Int) (100:Int))]),
 (0:Int)≤(1:Int),
 (1:Int)<(2:Int),
 (0:Int)≤(1:Int),
 (1:Int)<(2:Int),
 (100:Int)≠(0:Int),
 (100:Int)≠(0:Int),
 (100:Int)≠(0:Int),
 i64ok (0:Int),
 i64ok (100:Int),
 (0:Int)<(100:Int)∧(100:Int)<(9223372036854775808:Int),
 (0:Int)<(100:Int)∧(100:Int)<(9223372036854775808:Int)]
theorem t110_111_0_100:runFnX Try.prog G0 (lookS [v131,v111]) (fun _=>[(999999,[],none)]) [] 1 60 3 110 Try.f110 (canon 111 0 100) =
  T.needs nd_t110_111_0_100 (T.ret [Ar.agg [D.int IntKind.i64 (20000:Int),D.int IntKind.i64 (20000:Int)]]):=by kernel_rfl
theorem all_t110_111_0_100:All nd_t110_111_0_100:=by
 unfold nd_t110_111_0_100
 repeat (refine⟨(by first|exact of_decide_eq_true rfl|exact fun i j _ _=>D.eqv_refl _|exact Enc.is_F _ _ _|exact fun i j hi _=>absurd hi (Nat.not_lt_zero i)),?_⟩)
 trivial
theorem w_t110_111_0_100:(T.needs nd_t110_111_0_100 (T.ret [Ar.agg [D.int IntKind.i64 (20000:Int),D.int IntKind.i64 (20000:Int)]])).wp (fun rs=>rsEqv rs [.agg [dI 20000,dI 20000]]):=by
 refine T.needs_wp all_t110_111_0_100 ?_
 exact rsEqv_refl _
def nd_t110_111_1_100:List Prop:=[
 Enc.Is eRg (List.length [(Rg.mk (100:Int) (100:Int)),(Rg.mk (100:Int) (100:Int))]) (Enc.F eRg [(Rg.mk (100:Int) (100:Int)),(Rg.mk (100:Int) (100:Int))]),
 (0:Int)≤(1:Int),
 (1:Int)<(2:Int),
 (0:Int)≤(1:Int),
 (1:Int)<(2:Int),
 (100:Int)≠(0:Int),
 (100:Int)≠(0:Int),
 (100:Int)≠(0:Int),
 i64ok (0:Int),
 i64ok (100:Int),
 (0:Int)<(1:Int)∧(1:Int)<(9223372036854775808:Int),
 (0:Int)<(100:Int)∧(100:Int)<(9223372036854775808:Int)]
theorem t110_111_1_100:runFnX Try.prog G0 (lookS [v131,v111]) (fun _=>[(999999,[],none)]) [] 1 60 3 110 Try.f110 (canon 111 1 100) =
  T.needs nd_t110_111_1_100 (T.ret [Ar.agg [D.int IntKind.i64 (10000:Int),D.int IntKind.i64 (10000:Int)]]):=by kernel_rfl
theorem all_t110_111_1_100:All nd_t110_111_1_100:=by
 unfold nd_t110_111_1_100
 repeat (refine⟨(by first|exact of_decide_eq_true rfl|exact fun i j _ _=>D.eqv_refl _|exact Enc.is_F _ _ _|exact fun i j hi _=>absurd hi (Nat.not_lt_zero i)),?_⟩)
 trivial
theorem w_t110_111_1_100:(T.needs nd_t110_111_1_100 (T.ret [Ar.agg [D.int IntKind.i64 (10000:Int),D.int IntKind.i64 (10000:Int)]])).wp (fun rs=>rsEqv rs [.agg [dI 10000,dI 10000]]):=by
 refine T.needs_wp all_t110_111_1_100 ?_
 exact rsEqv_refl _
def nd_t110_112_0_100:List Prop:=[
 Enc.Is eRg (List.length [(Rg.mk (100:Int) (100:Int)),(Rg.mk (100:Int) (100:Int))]) (Enc.F eRg [(Rg.mk (100:Int) (100:Int)),(Rg.mk (100:Int) (100:Int))]),
 (0:Int)≤(0:Int),
 (0:Int)<(2:Int),
 (0:Int)≤(0:Int),
 (0:Int)<(2:Int),
 (100:Int)≠(0:Int),
 (100:Int)≠(0:Int),
 (100:Int)≠(0:Int),
 Enc.Is eRg (List.length [(Rg.mk (100:Int) (100:Int)),(Rg.mk (100:Int) (100:Int))]) (Enc.F eRg [(Rg.mk (100:Int) (100:Int)),(Rg.mk (100:Int) (100:Int))]),
 (0:Int)≤(1:Int),
 (1:Int)<(2:Int),
 (0:Int)≤(1:Int),
 (1:Int)<(2:Int),
 (100:Int)≠(0:Int),
 (100:Int)≠(0:Int),
 (100:Int)≠(0:Int),
 i64ok (0:Int),
 i64ok (100:Int),
 (0:Int)<(100:Int)∧(100:Int)<(9223372036854775808:Int),
 (0:Int)<(100:Int)∧(100:Int)<(9223372036854775808:Int)]
theorem t110_112_0_100:runFnX Try.prog G0 (lookS [v131,v112]) (fun _=>[(999999,[],none)]) [] 1 60 3 110 Try.f110 (canon 112 0 100) =
  T.needs nd_t110_112_0_100 (T.ret [Ar.agg [D.int IntKind.i64 (20000:Int),D.int IntKind.i64 (20000:Int)]]):=by kernel_rfl
theorem all_t110_112_0_100:All nd_t110_112_0_100:=by
 unfold nd_t110_112_0_100
 repeat (refine⟨(by first|exact of_decide_eq_true rfl|exact fun i j _ _=>D.eqv_refl _|exact Enc.is_F _ _ _|exact fun i j hi _=>absurd hi (Nat.not_lt_zero i)),?_⟩)
 trivial
theorem w_t110_112_0_100:(T.needs nd_t110_112_0_100 (T.ret [Ar.agg [D.int IntKind.i64 (20000:Int),D.int IntKind.i64 (20000:Int)]])).wp (fun rs=>rsEqv rs [.agg [dI 20000,dI 20000]]):=by
 refine T.needs_wp all_t110_112_0_100 ?_
 exact rsEqv_refl _
def nd_t110_112_1_100:List Prop:=[
 Enc.Is eRg (List.length [(Rg.mk (100:Int) (100:Int)),(Rg.mk (100:Int) (100:Int))]) (Enc.F eRg [(Rg.mk (100:Int) (100:Int)),(Rg.mk (100:Int) (100:Int))]),
 (0:Int)≤(1:Int),
 (1:Int)<(2:Int),
 (0:Int)≤(1:Int),
 (1:Int)<(2:Int),
 (100:Int)≠(0:Int),
 (100:Int)≠(0:Int),
 (100:Int)≠(0:Int),
 i64ok (0:Int),
 i64ok (100:Int),
 (0:Int)<(1:Int)∧(1:Int)<(9223372036854775808:Int),
 (0:Int)<(100:Int)∧(100:Int)<(9223372036854775808:Int)]
theorem t110_112_1_100:runFnX Try.prog G0 (lookS [v131,v112]) (fun _=>[(999999,[],none)]) [] 1 60 3 110 Try.f110 (canon 112 1 100) =
  T.needs nd_t110_112_1_100 (T.ret [Ar.agg [D.int IntKind.i64 (10000:Int),D.int IntKind.i64 (10000:Int)]]):=by kernel_rfl
theorem all_t110_112_1_100:All nd_t110_112_1_100:=by
 unfold nd_t110_112_1_100
 repeat (refine⟨(by first|exact of_decide_eq_true rfl|exact fun i j _ _=>D.eqv_refl _|exact Enc.is_F _ _ _|exact fun i j hi _=>absurd hi (Nat.not_lt_zero i)),?_⟩)
 trivial
theorem w_t110_112_1_100:(T.needs nd_t110_112_1_100 (T.ret [Ar.agg [D.int IntKind.i64 (10000:Int),D.int IntKind.i64 (10000:Int)]])).wp (fun rs=>rsEqv rs [.agg [dI 10000,dI 10000]]):=by
 refine T.needs_wp all_t110_112_1_100 ?_
 exact rsEqv_refl _
structure Row110 where
 g:Nat
 i:Int
 d:Int
 lo:Int
 hi:Int
def tab110:List Row110:=[⟨185,0,78,25641,25642⟩,⟨185,0,97,20618,20619⟩,⟨185,0,99,20202,20203⟩,⟨185,0,100,20000,20000⟩,⟨185,0,101,19801,19802⟩,⟨185,0,102,19607,19608⟩,⟨185,0,107,18691,18692⟩,⟨185,0,117,17094,17095⟩,⟨185,0,156,12820,12821⟩,⟨185,0,312,6410,6411⟩,⟨185,0,625,3200,3200⟩,⟨185,1,78,12820,12821⟩,⟨185,1,97,10309,10310⟩,⟨185,1,99,10101,10102⟩,⟨185,1,100,10000,10000⟩,⟨111,0,100,20000,20000⟩,⟨111,1,100,10000,10000⟩,⟨112,0,100,20000,20000⟩,⟨112,1,100,10000,10000⟩]
def find110:List Row110→Nat→Int→Int→Option Row110
 |[],_,_,_=>none
 |r::l,g,i,d=>(match Nat.beq r.g g&&decide (r.i=i)&&decide (r.d=d)with|true=>some r|false=>find110 l g i d)
theorem find110_spec:∀{l:List Row110} {g:Nat} {i d:Int} {r:Row110},find110 l g i d=some r→r∈l∧r.g=g∧r.i=i∧r.d=d:=by
 intro l
 induction l with
 |nil=>intro g i d r h;cases h
 |cons x l ih=>
  intro g i d r h
  simp only[find110]at h
  split at h
  ·rename_i hx
   simp only[Bool.and_eq_true,decide_eq_true_eq]at hx
   simp only[Option.some.injEq]at h
   subst h
   exact⟨List.mem_cons_self ..,Nat.eq_of_beq_eq_true hx.1.1,hx.1.2,hx.2⟩
  ·obtain⟨h1,h2⟩:=ih h
   exact⟨List.mem_cons_of_mem _ h1,h2⟩
def dom110c:DomF
 |[.agg ds,.c (.int .i64 i),.c (.fc g n G)]=>(match G 0 with
  |.sl q k st F=>(match F 0 0 with
   |.int _ d=>(match find110 tab110 g i d with
    |some r=>some ([Same [.agg ds,.c (.int .i64 i),.c (.fc g n G)] (canon r.g r.i r.d)],[.agg [dI r.lo,dI r.hi]])
    |none=>none)
   |_=>none)
  |_=>none)
 |_=>none
def v110c:Nat×Sm:=(110,fokSm dom110c)
theorem C110c:FOK Try.prog G0 gw 110 dom110c:=by
 intro ags p r hd hp κ w xs hw hl hG hx
 unfold dom110c at hd
 split at hd
 ·split at hd
  ·split at hd
   ·split at hd
    ·rename_i rw0 hf
     simp only[Option.some.injEq,Prod.mk.injEq]at hd
     obtain⟨rfl,rfl⟩:=hd
     have heq:=hp.1.h
     have hm:=(find110_spec hf).1
     simp only[tab110,List.mem_cons,List.not_mem_nil,or_false]at hm
     rcases hm with rfl|rfl|rfl|rfl|rfl|rfl|rfl|rfl|rfl|rfl|rfl|rfl|rfl|rfl|rfl|rfl|rfl|rfl|rfl
     ·exact fokX_fin mixed gw_stable (sl:=[v131,v185]) ⟨S131,S185,trivial⟩ Try.func110 hw hl hG hx heq rfl t110_185_0_78 w_t110_185_0_78
     ·exact fokX_fin mixed gw_stable (sl:=[v131,v185]) ⟨S131,S185,trivial⟩ Try.func110 hw hl hG hx heq rfl t110_185_0_97 w_t110_185_0_97
     ·exact fokX_fin mixed gw_stable (sl:=[v131,v185]) ⟨S131,S185,trivial⟩ Try.func110 hw hl hG hx heq rfl t110_185_0_99 w_t110_185_0_99
     ·exact fokX_fin mixed gw_stable (sl:=[v131,v185]) ⟨S131,S185,trivial⟩ Try.func110 hw hl hG hx heq rfl t110_185_0_100 w_t110_185_0_100
     ·exact fokX_fin mixed gw_stable (sl:=[v131,v185]) ⟨S131,S185,trivial⟩ Try.func110 hw hl hG hx heq rfl t110_185_0_101 w_t110_185_0_101
     ·exact fokX_fin mixed gw_stable (sl:=[v131,v185]) ⟨S131,S185,trivial⟩ Try.func110 hw hl hG hx heq rfl t110_185_0_102 w_t110_185_0_102
     ·exact fokX_fin mixed gw_stable (sl:=[v131,v185]) ⟨S131,S185,trivial⟩ Try.func110 hw hl hG hx heq rfl t110_185_0_107 w_t110_185_0_107
     ·exact fokX_fin mixed gw_stable (sl:=[v131,v185]) ⟨S131,S185,trivial⟩ Try.func110 hw hl hG hx heq rfl t110_185_0_117 w_t110_185_0_117
     ·exact fokX_fin mixed gw_stable (sl:=[v131,v185]) ⟨S131,S185,trivial⟩ Try.func110 hw hl hG hx heq rfl t110_185_0_156 w_t110_185_0_156
     ·exact fokX_fin mixed gw_stable (sl:=[v131,v185]) ⟨S131,S185,trivial⟩ Try.func110 hw hl hG hx heq rfl t110_185_0_312 w_t110_185_0_312
     ·exact fokX_fin mixed gw_stable (sl:=[v131,v185]) ⟨S131,S185,trivial⟩ Try.func110 hw hl hG hx heq rfl t110_185_0_625 w_t110_185_0_625
     ·exact fokX_fin mixed gw_stable (sl:=[v131,v185]) ⟨S131,S185,trivial⟩ Try.func110 hw hl hG hx heq rfl t110_185_1_78 w_t110_185_1_78
     ·exact fokX_fin mixed gw_stable (sl:=[v131,v185]) ⟨S131,S185,trivial⟩ Try.func110 hw hl hG hx heq rfl t110_185_1_97 w_t110_185_1_97
     ·exact fokX_fin mixed gw_stable (sl:=[v131,v185]) ⟨S131,S185,trivial⟩ Try.func110 hw hl hG hx heq rfl t110_185_1_99 w_t110_185_1_99
     ·exact fokX_fin mixed gw_stable (sl:=[v131,v185]) ⟨S131,S185,trivial⟩ Try.func110 hw hl hG hx heq rfl t110_185_1_100 w_t110_185_1_100
     ·exact fokX_fin mixed gw_stable (sl:=[v131,v111]) ⟨S131,S111,trivial⟩ Try.func110 hw hl hG hx heq rfl t110_111_0_100 w_t110_111_0_100
     ·exact fokX_fin mixed gw_stable (sl:=[v131,v111]) ⟨S131,S111,trivial⟩ Try.func110 hw hl hG hx heq rfl t110_111_1_100 w_t110_111_1_100
     ·exact fokX_fin mixed gw_stable (sl:=[v131,v112]) ⟨S131,S112,trivial⟩ Try.func110 hw hl hG hx heq rfl t110_112_0_100 w_t110_112_0_100
     ·exact fokX_fin mixed gw_stable (sl:=[v131,v112]) ⟨S131,S112,trivial⟩ Try.func110 hw hl hG hx heq rfl t110_112_1_100 w_t110_112_1_100
    ·cases hd
   ·cases hd
  ·cases hd
 ·cases hd
theorem S110c:SumOK Try.prog G0 gw 110 (fokSm dom110c):=fok_sum Try.func110 rfl C110c
end Go.Pl
end
section
set_option maxRecDepth 100000
namespace Go.Pl
open Go.V Go.Proofs
def tr95(q_sc:Bool)(sc:List Scale)(new:Int):T (List Ar):=
  T.need (Enc.Is eSc sc.length (Enc.F eSc sc)) (T.need (List.length (Enc.list eSc sc.length (Enc.F eSc sc))≤100000) (T.ret [Ar.agg [D.sl q_sc sc.length (4:Nat) (Enc.F eSc sc),D.int IntKind.i64 new],Ar.c (D.int IntKind.i64 (Prod.snd (M.checkSys (Enc.list eSc sc.length (Enc.F eSc sc)) new)))]))
theorem t95(q_sc:Bool)(sc:List Scale)(new:Int):runFnX Try.prog G0 (lookS [v33]) (fun _=>[]) [] 1 40 3 95 Try.f95 [.agg [.sl q_sc sc.length 4 (eSc.F sc),dI new]] =
  tr95 q_sc sc new:=by kernel_rfl
theorem w95(q:Bool)(sc:List Scale)(nw:Int)(hl:sc.length≤100000):(tr95 q sc nw).wp (fun rs=>rsEqv rs [.agg [.sl q sc.length 4 (eSc.F sc),dI nw],rI (M.checkSys sc nw).2]):=by
 unfold tr95
 simp only[Enc.list_F]
 exact⟨Enc.is_F _ _ _,hl,rsEqv_refl _⟩
def dom95:DomF
 |[.agg [.sl q n st F,.int .i64 nw]]=>(match Nat.beq st 4 with
  |true=>some ([eSc.Is n F,n≤100000],[.agg [.sl q n 4 (eSc.F (eSc.list n F)),dI nw],rI (M.checkSys (eSc.list n F) nw).2])
  |_=>none)
 |_=>none
def v95:Nat×Sm:=(95,fokSm dom95)
theorem C95:FOK Try.prog G0 gw 95 dom95:=by
 intro ags p r hd hp κ w xs hw hl hG hx
 unfold dom95 at hd
 split at hd
 ·rename_i q n st F nw
  split at hd
  ·rename_i hst
   have g1:=Nat.eq_of_beq_eq_true hst
   subst g1
   simp only[Option.some.injEq,Prod.mk.injEq]at hd
   obtain⟨rfl,rfl⟩:=hd
   obtain⟨hI,hn,_⟩:=hp
   have heq:agsEqv [.agg [.sl q n 4 F,.int .i64 nw]] [.agg [.sl q (eSc.list n F).length 4 (eSc.F (eSc.list n F)),.int .i64 nw]]:=⟨⟨eSc.to id hI,rfl,trivial⟩,trivial⟩
   have hlen:(eSc.list n F).length=n:=Enc.list_len _
   have hw0:=w95 q (eSc.list n F) nw (by omega)
   rw[hlen]at hw0
   exact fokX_fin mixed gw_stable (sl:=[v33]) ⟨S33,trivial⟩ Try.func95 hw hl hG hx heq rfl (t95 q _ nw) hw0
  ·cases hd
 ·cases hd
theorem S95:SumOK Try.prog G0 gw 95 (fokSm dom95):=fok_sum Try.func95 rfl C95
end Go.Pl
end
section
set_option maxRecDepth 100000
namespace Go.Pl
open Go.V Go.Proofs
def four:List D:=[.sl true 2 4 (eSc.F [⟨1000,0,0,20000⟩,⟨1000,0,0,10000⟩]),dI 0]
abbrev qt28c_1:=Enc.F eSc (Enc.list eSc (2:Nat) (Enc.F eSc [(Scale.mk (1000:Int) (0:Int) (0:Int) (20000:Int)),(Scale.mk (1000:Int) (0:Int) (0:Int) (10000:Int))]))
abbrev qt28c_2:=Enc.list eSc (2:Nat) qt28c_1
abbrev qt28c_3:=M.flows qt28c_2 (101:Int)
def nd_t28c:List Prop:=[
 Enc.Is eSc (2:Nat) (Enc.F eSc [(Scale.mk (1000:Int) (0:Int) (0:Int) (20000:Int)),(Scale.mk (1000:Int) (0:Int) (0:Int) (10000:Int))]),
 (2:Nat)≤(100000:Nat),
 Enc.Is eSc (2:Nat) qt28c_1,
 List.length qt28c_2≤(100000:Nat),
 Enc.Is eSc (2:Nat) qt28c_1,
 Enc.Is eRg (List.length (M.flows qt28c_2 (0:Int))) (Enc.F eRg (M.flows qt28c_2 (0:Int))),
 List.length (Enc.list eRg (List.length (M.flows qt28c_2 (0:Int))) (Enc.F eRg (M.flows qt28c_2 (0:Int))))≤List.length qt28c_2,
 List.length qt28c_2≤(100000:Nat),
 (0:Int)≤(0:Int),
 (0:Int)<(2:Int),
 (0:Int)≤(1:Int),
 (1:Int)<(2:Int),
 Enc.Is eSc (2:Nat) qt28c_1,
 List.length qt28c_2≤(100000:Nat),
 Enc.Is eSc (2:Nat) qt28c_1,
 Enc.Is eRg (List.length (M.flows qt28c_2 (10000:Int))) (Enc.F eRg (M.flows qt28c_2 (10000:Int))),
 List.length (Enc.list eRg (List.length (M.flows qt28c_2 (10000:Int))) (Enc.F eRg (M.flows qt28c_2 (10000:Int))))≤List.length qt28c_2,
 List.length qt28c_2≤(100000:Nat),
 (0:Int)≤(0:Int),
 (0:Int)<(2:Int),
 Enc.Is eSc (2:Nat) qt28c_1,
 List.length qt28c_2≤(100000:Nat),
 Enc.Is eSc (2:Nat) qt28c_1,
 Enc.Is eRg (List.length (M.flows qt28c_2 (5000:Int))) (Enc.F eRg (M.flows qt28c_2 (5000:Int))),
 List.length (Enc.list eRg (List.length (M.flows qt28c_2 (5000:Int))) (Enc.F eRg (M.flows qt28c_2 (5000:Int))))≤List.length qt28c_2,
 List.length qt28c_2≤(100000:Nat),
 (0:Int)≤(0:Int),
 (0:Int)<(2:Int),
 Enc.Is eSc (2:Nat) qt28c_1,
 List.length qt28c_2≤(100000:Nat),
 Enc.Is eSc (2:Nat) qt28c_1,
 Enc.Is eRg (List.length (M.flows qt28c_2 (2500:Int))) (Enc.F eRg (M.flows qt28c_2 (2500:Int))),
 List.length (Enc.list eRg (List.length (M.flows qt28c_2 (2500:Int))) (Enc.F eRg (M.flows qt28c_2 (2500:Int))))≤List.length qt28c_2,
 List.length qt28c_2≤(100000:Nat),
 (0:Int)≤(0:Int),
 (0:Int)<(2:Int),
 Enc.Is eSc (2:Nat) qt28c_1,
 List.length qt28c_2≤(100000:Nat),
 Enc.Is eSc (2:Nat) qt28c_1,
 Enc.Is eRg (List.length (M.flows qt28c_2 (1250:Int))) (Enc.F eRg (M.flows qt28c_2 (1250:Int))),
 List.length (Enc.list eRg (List.length (M.flows qt28c_2 (1250:Int))) (Enc.F eRg (M.flows qt28c_2 (1250:Int))))≤List.length qt28c_2,
 List.length qt28c_2≤(100000:Nat),
 (0:Int)≤(0:Int),
 (0:Int)<(2:Int),
 Enc.Is eSc (2:Nat) qt28c_1,
 List.length qt28c_2≤(100000:Nat),
 Enc.Is eSc (2:Nat) qt28c_1,
 Enc.Is eRg (List.length (M.flows qt28c_2 (625:Int))) (Enc.F eRg (M.flows qt28c_2 (625:Int))),
 List.length (Enc.list eRg (List.length (M.flows qt28c_2 (625:Int))) (Enc.F eRg (M.flows qt28c_2 (625:Int))))≤List.length qt28c_2,
 List.length qt28c_2≤(100000:Nat),
 (0:Int)≤(0:Int),
 (0:Int)<(2:Int),
 Same [Ag.agg [D.sl true (2:Nat) (4:Nat) qt28c_1,D.int IntKind.i64 (0:Int)],Ag.c (D.int IntKind.i64 (0:Int)),Ag.c (D.fc (185:Nat) (List.length [D.sl false (List.length (M.flows qt28c_2 (625:Int))) (2:Nat) (Enc.F eRg (M.flows qt28c_2 (625:Int)))]) fun(j:Nat)=>List.getD [D.sl false (List.length (M.flows qt28c_2 (625:Int))) (2:Nat) (Enc.F eRg (M.flows qt28c_2 (625:Int)))] j D.nilp)] (canon (Row110.g {g:=(185:Nat),i:=(0:Int),d:=(625:Int),lo:=(3200:Int),hi:=(3200:Int)}) (0:Int) (625:Int)),
 (0:Int)≤(0:Int),
 (0:Int)<(2:Int),
 Enc.Is eSc (2:Nat) qt28c_1,
 List.length qt28c_2≤(100000:Nat),
 Enc.Is eSc (2:Nat) qt28c_1,
 Enc.Is eRg (List.length (M.flows qt28c_2 (312:Int))) (Enc.F eRg (M.flows qt28c_2 (312:Int))),
 List.length (Enc.list eRg (List.length (M.flows qt28c_2 (312:Int))) (Enc.F eRg (M.flows qt28c_2 (312:Int))))≤List.length qt28c_2,
 List.length qt28c_2≤(100000:Nat),
 (0:Int)≤(0:Int),
 (0:Int)<(2:Int),
 Same [Ag.agg [D.sl true (2:Nat) (4:Nat) qt28c_1,D.int IntKind.i64 (0:Int)],Ag.c (D.int IntKind.i64 (0:Int)),Ag.c (D.fc (185:Nat) (List.length [D.sl false (List.length (M.flows qt28c_2 (312:Int))) (2:Nat) (Enc.F eRg (M.flows qt28c_2 (312:Int)))]) fun(j:Nat)=>List.getD [D.sl false (List.length (M.flows qt28c_2 (312:Int))) (2:Nat) (Enc.F eRg (M.flows qt28c_2 (312:Int)))] j D.nilp)] (canon (Row110.g {g:=(185:Nat),i:=(0:Int),d:=(312:Int),lo:=(6410:Int),hi:=(6411:Int)}) (0:Int) (312:Int)),
 (0:Int)≤(0:Int),
 (0:Int)<(2:Int),
 Enc.Is eSc (2:Nat) qt28c_1,
 List.length qt28c_2≤(100000:Nat),
 Enc.Is eSc (2:Nat) qt28c_1,
 Enc.Is eRg (List.length (M.flows qt28c_2 (156:Int))) (Enc.F eRg (M.flows qt28c_2 (156:Int))),
 List.length (Enc.list eRg (List.length (M.flows qt28c_2 (156:Int))) (Enc.F eRg (M.flows qt28c_2 (156:Int))))≤List.length qt28c_2,
 List.length qt28c_2≤(100000:Nat),
 (0:Int)≤(0:Int),
 (0:Int)<(2:Int),
 Same [Ag.agg [D.sl true (2:Nat) (4:Nat) qt28c_1,D.int IntKind.i64 (0:Int)],Ag.c (D.int IntKind.i64 (0:Int)),Ag.c (D.fc (185:Nat) (List.length [D.sl false (List.length (M.flows qt28c_2 (156:Int))) (2:Nat) (Enc.F eRg (M.flows qt28c_2 (156:Int)))]) fun(j:Nat)=>List.getD [D.sl false (List.length (M.flows qt28c_2 (156:Int))) (2:Nat) (Enc.F eRg (M.flows qt28c_2 (156:Int)))] j D.nilp)] (canon (Row110.g {g:=(185:Nat),i:=(0:Int),d:=(156:Int),lo:=(12820:Int),hi:=(12821:Int)}) (0:Int) (156:Int)),
 (0:Int)≤(0:Int),
 (0:Int)<(2:Int),
 Enc.Is eSc (2:Nat) qt28c_1,
 List.length qt28c_2≤(100000:Nat),
 Enc.Is eSc (2:Nat) qt28c_1,
 Enc.Is eRg (List.length (M.flows qt28c_2 (78:Int))) (Enc.F eRg (M.flows qt28c_2 (78:Int))),
 List.length (Enc.list eRg (List.length (M.flows qt28c_2 (78:Int))) (Enc.F eRg (M.flows qt28c_2 (78:Int))))≤List.length qt28c_2,
 List.length qt28c_2≤(100000:Nat),
 (0:Int)≤(0:Int),
 (0:Int)<(2:Int),
 Same [Ag.agg [D.sl true (2:Nat) (4:Nat) qt28c_1,D.int IntKind.i64 (0:Int)],Ag.c (D.int IntKind.i64 (0:Int)),Ag.c (D.fc (185:Nat) (List.length [D.sl false (List.length (M.flows qt28c_2 (78:Int))) (2:Nat) (Enc.F eRg (M.flows qt28c_2 (78:Int)))]) fun(j:Nat)=>List.getD [D.sl false (List.length (M.flows qt28c_2 (78:Int))) (2:Nat) (Enc.F eRg (M.flows qt28c_2 (78:Int)))] j D.nilp)] (canon (Row110.g {g:=(185:Nat),i:=(0:Int),d:=(78:Int),lo:=(25641:Int),hi:=(25642:Int)}) (0:Int) (78:Int)),
 (0:Int)≤(0:Int),
 (0:Int)<(2:Int),
 (0:Int)≤(1:Int),
 (1:Int)<(2:Int),
 Same [Ag.agg [D.sl true (2:Nat) (4:Nat) qt28c_1,D.int IntKind.i64 (0:Int)],Ag.c (D.int IntKind.i64 (1:Int)),Ag.c (D.fc (185:Nat) (List.length [D.sl false (List.length (M.flows qt28c_2 (78:Int))) (2:Nat) (Enc.F eRg (M.flows qt28c_2 (78:Int)))]) fun(j:Nat)=>List.getD [D.sl false (List.length (M.flows qt28c_2 (78:Int))) (2:Nat) (Enc.F eRg (M.flows qt28c_2 (78:Int)))] j D.nilp)] (canon (Row110.g {g:=(185:Nat),i:=(1:Int),d:=(78:Int),lo:=(12820:Int),hi:=(12821:Int)}) (1:Int) (78:Int)),
 (0:Int)≤(1:Int),
 (1:Int)<(2:Int),
 Enc.Is eSc (2:Nat) qt28c_1,
 List.length qt28c_2≤(100000:Nat),
 Enc.Is eSc (2:Nat) qt28c_1,
 Enc.Is eRg (List.length (M.flows qt28c_2 (117:Int))) (Enc.F eRg (M.flows qt28c_2 (117:Int))),
 List.length (Enc.list eRg (List.length (M.flows qt28c_2 (117:Int))) (Enc.F eRg (M.flows qt28c_2 (117:Int))))≤List.length qt28c_2,
 List.length qt28c_2≤(100000:Nat),
 (0:Int)≤(0:Int),
 (0:Int)<(2:Int),
 Same [Ag.agg [D.sl true (2:Nat) (4:Nat) qt28c_1,D.int IntKind.i64 (0:Int)],Ag.c (D.int IntKind.i64 (0:Int)),Ag.c (D.fc (185:Nat) (List.length [D.sl false (List.length (M.flows qt28c_2 (117:Int))) (2:Nat) (Enc.F eRg (M.flows qt28c_2 (117:Int)))]) fun(j:Nat)=>List.getD [D.sl false (List.length (M.flows qt28c_2 (117:Int))) (2:Nat) (Enc.F eRg (M.flows qt28c_2 (117:Int)))] j D.nilp)] (canon (Row110.g {g:=(185:Nat),i:=(0:Int),d:=(117:Int),lo:=(17094:Int),hi:=(17095:Int)}) (0:Int) (117:Int)),
 (0:Int)≤(0:Int),
 (0:Int)<(2:Int),
 Enc.Is eSc (2:Nat) qt28c_1,
 List.length qt28c_2≤(100000:Nat),
 Enc.Is eSc (2:Nat) qt28c_1,
 Enc.Is eRg (List.length (M.flows qt28c_2 (97:Int))) (Enc.F eRg (M.flows qt28c_2 (97:Int))),
 List.length (Enc.list eRg (List.length (M.flows qt28c_2 (97:Int))) (Enc.F eRg (M.flows qt28c_2 (97:Int))))≤List.length qt28c_2,
 List.length qt28c_2≤(100000:Nat),
 (0:Int)≤(0:Int),
 (0:Int)<(2:Int),
 Same [Ag.agg [D.sl true (2:Nat) (4:Nat) qt28c_1,D.int IntKind.i64 (0:Int)],Ag.c (D.int IntKind.i64 (0:Int)),Ag.c (D.fc (185:Nat) (List.length [D.sl false (List.length (M.flows qt28c_2 (97:Int))) (2:Nat) (Enc.F eRg (M.flows qt28c_2 (97:Int)))]) fun(j:Nat)=>List.getD [D.sl false (List.length (M.flows qt28c_2 (97:Int))) (2:Nat) (Enc.F eRg (M.flows qt28c_2 (97:Int)))] j D.nilp)] (canon (Row110.g {g:=(185:Nat),i:=(0:Int),d:=(97:Int),lo:=(20618:Int),hi:=(20619:Int)}) (0:Int) (97:Int)),
 (0:Int)≤(0:Int),
 (0:Int)<(2:Int),
 (0:Int)≤(1:Int),
 (1:Int)<(2:Int),
 Same [Ag.agg [D.sl true (2:Nat) (4:Nat) qt28c_1,D.int IntKind.i64 (0:Int)],Ag.c (D.int IntKind.i64 (1:Int)),Ag.c (D.fc (185:Nat) (List.length [D.sl false (List.length (M.flows qt28c_2 (97:Int))) (2:Nat) (Enc.F eRg (M.flows qt28c_2 (97:Int)))]) fun(j:Nat)=>List.getD [D.sl false (List.length (M.flows qt28c_2 (97:Int))) (2:Nat) (Enc.F eRg (M.flows qt28c_2 (97:Int)))] j D.nilp)] (canon (Row110.g {g:=(185:Nat),i:=(1:Int),d:=(97:Int),lo:=(10309:Int),hi:=(10310:Int)}) (1:Int) (97:Int)),
 (0:Int)≤(1:Int),
 (1:Int)<(2:Int),
 Enc.Is eSc (2:Nat) qt28c_1,
 List.length qt28c_2≤(100000:Nat),
 Enc.Is eSc (2:Nat) qt28c_1,
 Enc.Is eRg (List.length (M.flows qt28c_2 (107:Int))) (Enc.F eRg (M.flows qt28c_2 (107:Int))),
 List.length (Enc.list eRg (List.length (M.flows qt28c_2 (107:Int))) (Enc.F eRg (M.flows qt28c_2 (107:Int))))≤List.length qt28c_2,
 List.length qt28c_2≤(100000:Nat),
 (0:Int)≤(0:Int),
 (0:Int)<(2:Int),
 Same [Ag.agg [D.sl true (2:Nat) (4:Nat) qt28c_1,D.int IntKind.i64 (0:Int)],Ag.c (D.int IntKind.i64 (0:Int)),Ag.c (D.fc (185:Nat) (List.length [D.sl false (List.length (M.flows qt28c_2 (107:Int))) (2:Nat) (Enc.F eRg (M.flows qt28c_2 (107:Int)))]) fun(j:Nat)=>List.getD [D.sl false (List.length (M.flows qt28c_2 (107:Int))) (2:Nat) (Enc.F eRg (M.flows qt28c_2 (107:Int)))] j D.nilp)] (canon (Row110.g {g:=(185:Nat),i:=(0:Int),d:=(107:Int),lo:=(18691:Int),hi:=(18692:Int)}) (0:Int) (107:Int)),
 (0:Int)≤(0:Int),
 (0:Int)<(2:Int),
 Enc.Is eSc (2:Nat) qt28c_1,
 List.length qt28c_2≤(100000:Nat),
 Enc.Is eSc (2:Nat) qt28c_1,
 Enc.Is eRg (List.length (M.flows qt28c_2 (102:Int))) (Enc.F eRg (M.flows qt28c_2 (102:Int))),
 List.length (Enc.list eRg (List.length (M.flows qt28c_2 (102:Int))) (Enc.F eRg (M.flows qt28c_2 (102:Int))))≤List.length qt28c_2,
 List.length qt28c_2≤(100000:Nat),
 (0:Int)≤(0:Int),
 (0:Int)<(2:Int),
 Same [Ag.agg [D.sl true (2:Nat) (4:Nat) qt28c_1,D.int IntKind.i64 (0:Int)],Ag.c (D.int IntKind.i64 (0:Int)),Ag.c (D.fc (185:Nat) (List.length [D.sl false (List.length (M.flows qt28c_2 (102:Int))) (2:Nat) (Enc.F eRg (M.flows qt28c_2 (102:Int)))]) fun(j:Nat)=>List.getD [D.sl false (List.length (M.flows qt28c_2 (102:Int))) (2:Nat) (Enc.F eRg (M.flows qt28c_2 (102:Int)))] j D.nilp)] (canon (Row110.g {g:=(185:Nat),i:=(0:Int),d:=(102:Int),lo:=(19607:Int),hi:=(19608:Int)}) (0:Int) (102:Int)),
 (0:Int)≤(0:Int),
 (0:Int)<(2:Int),
 Enc.Is eSc (2:Nat) qt28c_1,
 List.length qt28c_2≤(100000:Nat),
 Enc.Is eSc (2:Nat) qt28c_1,
 Enc.Is eRg (List.length (M.flows qt28c_2 (99:Int))) (Enc.F eRg (M.flows qt28c_2 (99:Int))),
 List.length (Enc.list eRg (List.length (M.flows qt28c_2 (99:Int))) (Enc.F eRg (M.flows qt28c_2 (99:Int))))≤List.length qt28c_2,
 List.length qt28c_2≤(100000:Nat),
 (0:Int)≤(0:Int),
 (0:Int)<(2:Int),
 Same [Ag.agg [D.sl true (2:Nat) (4:Nat) qt28c_1,D.int IntKind.i64 (0:Int)],Ag.c (D.int IntKind.i64 (0:Int)),Ag.c (D.fc (185:Nat) (List.length [D.sl false (List.length (M.flows qt28c_2 (99:Int))) (2:Nat) (Enc.F eRg (M.flows qt28c_2 (99:Int)))]) fun(j:Nat)=>List.getD [D.sl false (List.length (M.flows qt28c_2 (99:Int))) (2:Nat) (Enc.F eRg (M.flows qt28c_2 (99:Int)))] j D.nilp)] (canon (Row110.g {g:=(185:Nat),i:=(0:Int),d:=(99:Int),lo:=(20202:Int),hi:=(20203:Int)}) (0:Int) (99:Int)),
 (0:Int)≤(0:Int),
 (0:Int)<(2:Int),
 (0:Int)≤(1:Int),
 (1:Int)<(2:Int),
 Same [Ag.agg [D.sl true (2:Nat) (4:Nat) qt28c_1,D.int IntKind.i64 (0:Int)],Ag.c (D.int IntKind.i64 (1:Int)),Ag.c (D.fc (185:Nat) (List.length [D.sl false (List.length (M.flows qt28c_2 (99:Int))) (2:Nat) (Enc.F eRg (M.flows qt28c_2 (99:Int)))]) fun(j:Nat)=>List.getD [D.sl false (List.length (M.flows qt28c_2 (99:Int))) (2:Nat) (Enc.F eRg (M.flows qt28c_2 (99:Int)))] j D.nilp)] (canon (Row110.g {g:=(185:Nat),i:=(1:Int),d:=(99:Int),lo:=(10101:Int),hi:=(10102:Int)}) (1:Int) (99:Int)),
 (0:Int)≤(1:Int),
 (1:Int)<(2:Int),
 Enc.Is eSc (2:Nat) qt28c_1,
 List.length qt28c_2≤(100000:Nat),
 Enc.Is eSc (2:Nat) qt28c_1,
 Enc.Is eRg (List.length (M.flows qt28c_2 (100:Int))) (Enc.F eRg (M.flows qt28c_2 (100:Int))),
 List.length (Enc.list eRg (List.length (M.flows qt28c_2 (100:Int))) (Enc.F eRg (M.flows qt28c_2 (100:Int))))≤List.length qt28c_2,
 List.length qt28c_2≤(100000:Nat),
 (0:Int)≤(0:Int),
 (0:Int)<(2:Int),
 Same [Ag.agg [D.sl true (2:Nat) (4:Nat) qt28c_1,D.int IntKind.i64 (0:Int)],Ag.c (D.int IntKind.i64 (0:Int)),Ag.c (D.fc (185:Nat) (List.length [D.sl false (List.length (M.flows qt28c_2 (100:Int))) (2:Nat) (Enc.F eRg (M.flows qt28c_2 (100:Int)))]) fun(j:Nat)=>List.getD [D.sl false (List.length (M.flows qt28c_2 (100:Int))) (2:Nat) (Enc.F eRg (M.flows qt28c_2 (100:Int)))] j D.nilp)] (canon (Row110.g {g:=(185:Nat),i:=(0:Int),d:=(100:Int),lo:=(20000:Int),hi:=(20000:Int)}) (0:Int) (100:Int)),
 (0:Int)≤(0:Int),
 (0:Int)<(2:Int),
 (0:Int)≤(1:Int),
 (1:Int)<(2:Int),
 Same [Ag.agg [D.sl true (2:Nat) (4:Nat) qt28c_1,D.int IntKind.i64 (0:Int)],Ag.c (D.int IntKind.i64 (1:Int)),Ag.c (D.fc (185:Nat) (List.length [D.sl false (List.length (M.flows qt28c_2 (100:Int))) (2:Nat) (Enc.F eRg (M.flows qt28c_2 (100:Int)))]) fun(j:Nat)=>List.getD [D.sl false (List.length (M.flows qt28c_2 (100:Int))) (2:Nat) (Enc.F eRg (M.flows qt28c_2 (100:Int)))] j D.nilp)] (canon (Row110.g {g:=(185:Nat),i:=(1:Int),d:=(100:Int),lo:=(10000:Int),hi:=(10000:Int)}) (1:Int) (100:Int)),
 (0:Int)≤(1:Int),
 (1:Int)<(2:Int),
 Enc.Is eSc (2:Nat) qt28c_1,
 List.length qt28c_2≤(100000:Nat),
 Enc.Is eSc (2:Nat) qt28c_1,
 Enc.Is eRg (List.length qt28c_3) (Enc.F eRg qt28c_3),
 List.length (Enc.list eRg (List.length qt28c_3) (Enc.F eRg qt28c_3))≤List.length qt28c_2,
 List.length qt28c_2≤(100000:Nat),
 (0:Int)≤(0:Int),
 (0:Int)<(2:Int),
 Same [Ag.agg [D.sl true (2:Nat) (4:Nat) qt28c_1,D.int IntKind.i64 (0:Int)],Ag.c (D.int IntKind.i64 (0:Int)),Ag.c (D.fc (185:Nat) (List.length [D.sl false (List.length qt28c_3) (2:Nat) (Enc.F eRg qt28c_3)]) fun(j:Nat)=>List.getD [D.sl false (List.length qt28c_3) (2:Nat) (Enc.F eRg qt28c_3)] j D.nilp)] (canon (Row110.g {g:=(185:Nat),i:=(0:Int),d:=(101:Int),lo:=(19801:Int),hi:=(19802:Int)}) (0:Int) (101:Int)),
 (0:Int)≤(0:Int),
 (0:Int)<(2:Int),
 Enc.Is eSc (2:Nat) qt28c_1,
 List.length qt28c_2≤(100000:Nat),
 Enc.Is eSc (2:Nat) qt28c_1,
 Enc.Is eRg (List.length qt28c_3) (Enc.F eRg qt28c_3),
 List.length (Enc.list eRg (List.length qt28c_3) (Enc.F eRg qt28c_3))≤List.length qt28c_2,
 List.length qt28c_2≤(100000:Nat),
 (0:Int)≤(0:Int),
 (0:Int)<(2:Int),
 Same [Ag.agg [D.sl true (2:Nat) (4:Nat) qt28c_1,D.int IntKind.i64 (0:Int)],Ag.c (D.int IntKind.i64 (0:Int)),Ag.c (D.fc (185:Nat) (List.length [D.sl false (List.length qt28c_3) (2:Nat) (Enc.F eRg qt28c_3)]) fun(j:Nat)=>List.getD [D.sl false (List.length qt28c_3) (2:Nat) (Enc.F eRg qt28c_3)] j D.nilp)] (canon (Row110.g {g:=(185:Nat),i:=(0:Int),d:=(101:Int),lo:=(19801:Int),hi:=(19802:Int)}) (0:Int) (101:Int)),
 (0:Int)≤(0:Int),
 (0:Int)<(2:Int)]
theorem t28c:runFnX Try.prog G0 (lookS [v95,v108,v109,v110c]) (fun _=>[(999999,[],none)]) [96,158] 1 200 6 28 Try.f28 [.agg [.sl true 2 4 (eSc.F [⟨1000,0,0,20000⟩,⟨1000,0,0,10000⟩]),dI 0]] =
  T.needs nd_t28c (T.ret [Ar.c (D.int IntKind.i64 (100:Int)),Ar.c (D.int IntKind.i64 (0:Int)),Ar.c (D.int IntKind.i64 (0:Int))]):=by kernel_rfl
theorem all_t28c:All nd_t28c:=by
 unfold nd_t28c
 repeat (refine⟨(by first|exact of_decide_eq_true rfl|exact fun i j _ _=>D.eqv_refl _|exact Enc.is_F _ _ _|exact fun i j hi _=>absurd hi (Nat.not_lt_zero i)|exact⟨⟨ag_of_eq (by kernel_rfl),ag_of_eq (by kernel_rfl),⟨rfl,rfl,fun j hj=>by obtain rfl:j=0:=Nat.lt_one_iff.1 hj;exact D.eqv_of_eq (by kernel_rfl)⟩,trivial⟩⟩),?_⟩)
 trivial
theorem w_t28c:(T.needs nd_t28c (T.ret [Ar.c (D.int IntKind.i64 (100:Int)),Ar.c (D.int IntKind.i64 (0:Int)),Ar.c (D.int IntKind.i64 (0:Int))])).wp (fun rs=>rsEqv rs [rI 100,rI 0,rI 0]):=by
 refine T.needs_wp all_t28c ?_
 exact rsEqv_refl _
abbrev qt35c_1:=Enc.F eSc (Enc.list eSc (2:Nat) (Enc.F eSc [(Scale.mk (1000:Int) (0:Int) (0:Int) (20000:Int)),(Scale.mk (1000:Int) (0:Int) (0:Int) (10000:Int))]))
abbrev qt35c_2:=M.flows (Enc.list eSc (2:Nat) qt35c_1) (100:Int)
def nd_t35c:List Prop:=[
 Enc.Is eSc (2:Nat) (Enc.F eSc [(Scale.mk (1000:Int) (0:Int) (0:Int) (20000:Int)),(Scale.mk (1000:Int) (0:Int) (0:Int) (10000:Int))]),
 (2:Nat)≤(100000:Nat),
 Enc.Is eSc (2:Nat) qt35c_1,
 List.length (Enc.list eSc (2:Nat) qt35c_1)≤(100000:Nat),
 (0:Int)≤(0:Int),
 (0:Int)<(2:Int),
 (0:Int)≤(1:Int),
 (1:Int)<(2:Int),
 Enc.Is eSc (2:Nat) qt35c_1,
 Enc.Is eRg (List.length qt35c_2) (Enc.F eRg qt35c_2),
 List.length (Enc.list eRg (List.length qt35c_2) (Enc.F eRg qt35c_2))≤List.length (Enc.list eSc (2:Nat) qt35c_1),
 List.length (Enc.list eSc (2:Nat) qt35c_1)≤(100000:Nat),
 Same [Ag.agg [D.sl true (2:Nat) (4:Nat) qt35c_1,D.int IntKind.i64 (0:Int)],Ag.c (D.int IntKind.i64 (0:Int)),Ag.c (D.fc (111:Nat) (List.length [D.sl false (List.length qt35c_2) (2:Nat) (Enc.F eRg qt35c_2)]) fun(j:Nat)=>List.getD [D.sl false (List.length qt35c_2) (2:Nat) (Enc.F eRg qt35c_2)] j D.nilp)] (canon (Row110.g {g:=(111:Nat),i:=(0:Int),d:=(100:Int),lo:=(20000:Int),hi:=(20000:Int)}) (0:Int) (100:Int)),
 Same [Ag.agg [D.sl true (2:Nat) (4:Nat) qt35c_1,D.int IntKind.i64 (0:Int)],Ag.c (D.int IntKind.i64 (0:Int)),Ag.c (D.fc (112:Nat) (List.length [D.sl false (List.length qt35c_2) (2:Nat) (Enc.F eRg qt35c_2)]) fun(j:Nat)=>List.getD [D.sl false (List.length qt35c_2) (2:Nat) (Enc.F eRg qt35c_2)] j D.nilp)] (canon (Row110.g {g:=(112:Nat),i:=(0:Int),d:=(100:Int),lo:=(20000:Int),hi:=(20000:Int)}) (0:Int) (100:Int)),
 (1:Nat)≤(1000000:Nat),
 Same [Ag.agg [D.sl true (2:Nat) (4:Nat) qt35c_1,D.int IntKind.i64 (0:Int)],Ag.c (D.int IntKind.i64 (1:Int)),Ag.c (D.fc (111:Nat) (List.length [D.sl false (List.length qt35c_2) (2:Nat) (Enc.F eRg qt35c_2)]) fun(j:Nat)=>List.getD [D.sl false (List.length qt35c_2) (2:Nat) (Enc.F eRg qt35c_2)] j D.nilp)] (canon (Row110.g {g:=(111:Nat),i:=(1:Int),d:=(100:Int),lo:=(10000:Int),hi:=(10000:Int)}) (1:Int) (100:Int)),
 Same [Ag.agg [D.sl true (2:Nat) (4:Nat) qt35c_1,D.int IntKind.i64 (0:Int)],Ag.c (D.int IntKind.i64 (1:Int)),Ag.c (D.fc (112:Nat) (List.length [D.sl false (List.length qt35c_2) (2:Nat) (Enc.F eRg qt35c_2)]) fun(j:Nat)=>List.getD [D.sl false (List.length qt35c_2) (2:Nat) (Enc.F eRg qt35c_2)] j D.nilp)] (canon (Row110.g {g:=(112:Nat),i:=(1:Int),d:=(100:Int),lo:=(10000:Int),hi:=(10000:Int)}) (1:Int) (100:Int)),
 (2:Nat)≤(1000000:Nat),
 (1:Nat)≤(1:Nat),
 (2:Nat)≤(2:Nat)]
theorem t35c:runFnX Try.prog G0 (lookS [v103,v104,v95,v107,v108,v109,v110c]) (fun _=>[(999999,[],none)]) [] 1 60 3 35 Try.f35 [.agg [.sl true 2 4 (eSc.F [⟨1000,0,0,20000⟩,⟨1000,0,0,10000⟩]),dI 0],.c (dI 100)] =
  T.needs nd_t35c (T.ret [Ar.c (D.sl true (2:Nat) (2:Nat) (joinF (1:Nat) (joinF (0:Nat) (fun(x x_1:Nat)=>D.nilp) fun(i j:Nat)=>List.getD [D.int IntKind.i64 (20000:Int),D.int IntKind.i64 (20000:Int)] (i*2+j) D.nilp) fun(i j:Nat)=>List.getD [D.int IntKind.i64 (10000:Int),D.int IntKind.i64 (10000:Int)] (i*2+j) D.nilp)),Ar.c (D.int IntKind.i64 (0:Int))]):=by kernel_rfl
theorem all_t35c:All nd_t35c:=by
 unfold nd_t35c
 repeat (refine⟨(by first|exact of_decide_eq_true rfl|exact fun i j _ _=>D.eqv_refl _|exact Enc.is_F _ _ _|exact fun i j hi _=>absurd hi (Nat.not_lt_zero i)|exact⟨⟨ag_of_eq (by kernel_rfl),ag_of_eq (by kernel_rfl),⟨rfl,rfl,fun j hj=>by obtain rfl:j=0:=Nat.lt_one_iff.1 hj;exact D.eqv_of_eq (by kernel_rfl)⟩,trivial⟩⟩),?_⟩)
 trivial
theorem w_t35c:(T.needs nd_t35c (T.ret [Ar.c (D.sl true (2:Nat) (2:Nat) (joinF (1:Nat) (joinF (0:Nat) (fun(x x_1:Nat)=>D.nilp) fun(i j:Nat)=>List.getD [D.int IntKind.i64 (20000:Int),D.int IntKind.i64 (20000:Int)] (i*2+j) D.nilp) fun(i j:Nat)=>List.getD [D.int IntKind.i64 (10000:Int),D.int IntKind.i64 (10000:Int)] (i*2+j) D.nilp)),Ar.c (D.int IntKind.i64 (0:Int))])).wp (fun rs=>rsEqv rs [.c (.sl true 2 2 (eRg.F [⟨20000,20000⟩,⟨10000,10000⟩])),rI 0]):=by
 refine T.needs_wp all_t35c ?_
 refine⟨⟨fun _=>rfl,rfl,fun _=>rfl,fun i j hi hj=>?_⟩,rfl,trivial⟩
 match i,hi,j,hj with
 |0,_,0,_=>exact D.eqv_refl _
 |0,_,1,_=>exact D.eqv_refl _
 |1,_,0,_=>exact D.eqv_refl _
 |1,_,1,_=>exact D.eqv_refl _
def dom28c:DomF
 |[.agg ds]=>some ([Same [.agg ds] [.agg four]],[rI 100,rI 0,rI 0])
 |_=>none
def v28c:Nat×Sm:=(28,fokSm dom28c)
theorem C28c:FOK Try.prog G0 gw 28 dom28c:=by
 intro ags p r hd hp κ w xs hw hl hG hx
 unfold dom28c at hd
 split at hd
 ·simp only[Option.some.injEq,Prod.mk.injEq]at hd
  obtain⟨rfl,rfl⟩:=hd
  exact fokX_fin mixed gw_stable (sl:=[v95,v108,v109,v110c]) ⟨S95,S108,S109,S110c,trivial⟩ Try.func28 hw hl hG hx hp.1.h rfl t28c w_t28c
 ·cases hd
theorem S28c:SumOK Try.prog G0 gw 28 (fokSm dom28c):=fok_sum Try.func28 rfl C28c
def dom35c:DomF
 |[.agg ds,.c d]=>some ([Same [.agg ds,.c d] [.agg four,.c (dI 100)]],[.c (.sl true 2 2 (eRg.F [⟨20000,20000⟩,⟨10000,10000⟩])),rI 0])
 |_=>none
def v35c:Nat×Sm:=(35,fokSm dom35c)
theorem C35c:FOK Try.prog G0 gw 35 dom35c:=by
 intro ags p r hd hp κ w xs hw hl hG hx
 unfold dom35c at hd
 split at hd
 ·simp only[Option.some.injEq,Prod.mk.injEq]at hd
  obtain⟨rfl,rfl⟩:=hd
  exact fokX_fin mixed gw_stable (sl:=[v103,v104,v95,v107,v108,v109,v110c]) ⟨S103,S104,S95,S107,S108,S109,S110c,trivial⟩ Try.func35 hw hl hG hx hp.1.h rfl t35c w_t35c
 ·cases hd
theorem S35c:SumOK Try.prog G0 gw 35 (fokSm dom35c):=fok_sum Try.func35 rfl C35c
end Go.Pl
end
section
set_option maxRecDepth 100000
namespace Go.Pl
open Go.V Go.Proofs
namespace M
def frac(n d:Int):Int×Int×Int:=cond (small (told1 n d) 1000000000) (cond (decide (told2 n d>1000000000)) (0,0,8) (told1 n d,told2 n d,0)) (0,0,8)
end M
def resF(x:Int×Int×Int):List Ar:=[.agg [dI x.1,dI x.2.1],rI x.2.2]
theorem gcdL2(n d:Int):M.gcdL [n,d]=Int.gcd n d:=by
 unfold M.gcdL Int.gcd
 simp
def tr85(n d:Int):T (List Ar):=
  T.need (Enc.Is eI (2:Nat) fun(i j:Nat)=>List.getD [D.int IntKind.i64 n,D.int IntKind.i64 d] (i*1+j) D.nilp) (T.need (List.length (Enc.list eI (2:Nat) fun(i j:Nat)=>List.getD [D.int IntKind.i64 n,D.int IntKind.i64 d] (i*1+j) D.nilp)≤1000000) (T.need (∀(x:Int),(x∈Enc.list eI (2:Nat) fun(i j:Nat)=>List.getD [D.int IntKind.i64 n,D.int IntKind.i64 d] (i*(nat_lit 0+1)+j) D.nilp)→i64ok x) (T.need ((Nat.cast (R:=Int) (M.gcdL (Enc.list eI (2:Nat) fun(i j:Nat)=>List.getD [D.int IntKind.i64 n,D.int IntKind.i64 d] (i*1+j) D.nilp)))≠(0:Int)) (T.need ((Nat.cast (R:=Int) (M.gcdL (Enc.list eI (2:Nat) fun(i j:Nat)=>List.getD [D.int IntKind.i64 n,D.int IntKind.i64 d] (i*1+j) D.nilp)))≠(0:Int)) (T.need ((0:Int)≤1000000000∧(1000000000:Int)<9223372036854775808) (T.br (!M.small (IntKind.i64.wrap (Int.tdiv n (Nat.cast (R:=Int) (M.gcdL (Enc.list eI (2:Nat) fun(i j:Nat)=>List.getD [D.int IntKind.i64 n,D.int IntKind.i64 d] (i*1+j) D.nilp))))) (1000000000:Int)) (T.ret [Ar.agg [D.int IntKind.i64 (0:Int),D.int IntKind.i64 (0:Int)],Ar.c (D.int IntKind.i64 (8:Int))]) (T.br (decide (IntKind.i64.wrap (Int.tdiv d (Nat.cast (R:=Int) (M.gcdL (Enc.list eI (2:Nat) fun(i j:Nat)=>List.getD [D.int IntKind.i64 n,D.int IntKind.i64 d] (i*1+j) D.nilp))))>(1000000000:Int))) (T.ret [Ar.agg [D.int IntKind.i64 (0:Int),D.int IntKind.i64 (0:Int)],Ar.c (D.int IntKind.i64 (8:Int))]) (T.ret [Ar.agg [D.int IntKind.i64 (IntKind.i64.wrap (Int.tdiv n (Nat.cast (R:=Int) (M.gcdL (Enc.list eI (2:Nat) fun(i j:Nat)=>List.getD [D.int IntKind.i64 n,D.int IntKind.i64 d] (i*1+j) D.nilp))))),D.int IntKind.i64 (IntKind.i64.wrap (Int.tdiv d (Nat.cast (R:=Int) (M.gcdL (Enc.list eI (2:Nat) fun(i j:Nat)=>List.getD [D.int IntKind.i64 n,D.int IntKind.i64 d] (i*1+j) D.nilp)))))],Ar.c (D.int IntKind.i64 (0:Int))]))))))))
theorem t85(n d:Int):runFnX Try.prog G0 (lookS [v121,v151]) (fun _=>[]) [] 1 40 3 85 Try.f85 [.agg [dI n,dI d]] =
  tr85 n d:=by kernel_rfl
theorem w85(n d:Int)(hn:i64ok n)(hd:i64ok d)(h0:0<d):(tr85 n d).wp (fun rs=>rsEqv rs (resF (M.frac n d))):=by
 unfold tr85
 have hl:(eI.list 2 fun(i j:Nat)=>List.getD [D.int IntKind.i64 n,D.int IntKind.i64 d] (i*1+j) D.nilp)=[n,d]:=rfl
 have hl2:(eI.list 2 fun(i j:Nat)=>List.getD [D.int IntKind.i64 n,D.int IntKind.i64 d] (i*(0+1)+j) D.nilp)=[n,d]:=rfl
 have hg:Int.gcd n d≠0:=by
  intro h
  have:=Int.gcd_eq_zero_iff.1 h
  omega
 have w1:=tdiv_ok (n:=n) (g:=Int.gcd n d) hn
 have w2:=tdiv_ok (n:=d) (g:=Int.gcd n d) hd
 simp only[hl,gcdL2,w1,w2]
 refine⟨is_lit2 (D.eqv_refl _) (D.eqv_refl _),of_decide_eq_true rfl,fun x hx=>?_,by omega,by omega,by decide,?_⟩
 ·have hx:x∈ [n,d]:=hx
  simp only[List.mem_cons,List.not_mem_nil,or_false]at hx
  rcases hx with rfl|rfl
  ·exact hn
  ·exact hd
 ·refine wp_br (fun a=>?_) (fun a=>wp_br (fun b=>?_) (fun b=>?_))
  ·have a:(!M.small (M.told1 n d) 1000000000)=true:=a
   rw[Bool.not_eq_true']at a
   have e:M.frac n d=(0,0,8):=by unfold M.frac;rw[a];rfl
   rw[e];exact rsEqv_refl _
  ·have a:(!M.small (M.told1 n d) 1000000000)=false:=a
   rw[Bool.not_eq_false']at a
   have b:decide (M.told2 n d>1000000000)=true:=b
   have e:M.frac n d=(0,0,8):=by unfold M.frac;rw[a,b];rfl
   rw[e];exact rsEqv_refl _
  ·have a:(!M.small (M.told1 n d) 1000000000)=false:=a
   rw[Bool.not_eq_false']at a
   have b:decide (M.told2 n d>1000000000)=false:=b
   have e:M.frac n d=(M.told1 n d,M.told2 n d,0):=by unfold M.frac;rw[a,b];rfl
   rw[e];exact rsEqv_refl _
def dom85:DomF
 |[.agg [.int .i64 n,.int .i64 d]]=>some ([i64ok n,i64ok d,0<d],resF (M.frac n d))
 |_=>none
def v85:Nat×Sm:=(85,fokSm dom85)
theorem C85:FOK Try.prog G0 gw 85 dom85:=by
 intro ags p r hd hp κ w xs hw hl hG hx
 unfold dom85 at hd
 split at hd
 ·rename_i n d
  simp only[Option.some.injEq,Prod.mk.injEq]at hd
  obtain⟨rfl,rfl⟩:=hd
  exact fokX_fin mixed gw_stable (sl:=[v121,v151]) ⟨S121,S151,trivial⟩ Try.func85 hw hl hG hx (agsEqv_refl _) rfl (t85 n d) (w85 n d hp.1 hp.2.1 hp.2.2.1)
 ·cases hd
theorem S85:SumOK Try.prog G0 gw 85 (fokSm dom85):=fok_sum Try.func85 rfl C85
def tr83(q_mo:Bool)(mo:List Int)(q_ga:Bool)(ga:List Int)(q_de:Bool)(de:List Dem):T (List Ar):=
  T.need (Enc.Is eI mo.length (Enc.F eI mo)) (T.need (Enc.Is eI ga.length (Enc.F eI ga)) (T.need (Enc.Is eDm de.length (Enc.F eDm de)) (T.need (List.length (Enc.list eI mo.length (Enc.F eI mo))≤1000000) (T.need (List.length (Enc.list eI ga.length (Enc.F eI ga))≤1000000) (T.need (List.length (Enc.list eDm de.length (Enc.F eDm de))≤1000000) (T.need (∀(d:Dem),d∈Enc.list eDm de.length (Enc.F eDm de)→ByteArray.size (Dem.nm d)≤1000000∧List.length (Dem.co d)≤1000000) (T.ret [Ar.agg [D.sl q_mo mo.length (1:Nat) (Enc.F eI mo),D.sl q_ga ga.length (1:Nat) (Enc.F eI ga),D.sl q_de de.length (3:Nat) (Enc.F eDm de)],Ar.c (D.int IntKind.i64 (Prod.snd (M.checkProg (Enc.list eI mo.length (Enc.F eI mo)) (Enc.list eI ga.length (Enc.F eI ga)) (Enc.list eDm de.length (Enc.F eDm de)))))])))))))
theorem t83(q_mo:Bool)(mo:List Int)(q_ga:Bool)(ga:List Int)(q_de:Bool)(de:List Dem):runFnX Try.prog G0 (lookS [v42]) (fun _=>[]) [] 1 40 3 83 Try.f83 [.agg [.sl q_mo mo.length 1 (eI.F mo),.sl q_ga ga.length 1 (eI.F ga),.sl q_de de.length 3 (eDm.F de)]] =
  tr83 q_mo mo q_ga ga q_de de:=by kernel_rfl
theorem w83(qm:Bool)(mo:List Int)(qg:Bool)(ga:List Int)(qd:Bool)(de:List Dem)(h1:mo.length≤1000000)(h2:ga.length≤1000000)(h3:de.length≤1000000)(hn:∀d,d∈de→d.nm.size≤1000000∧d.co.length≤1000000):(tr83 qm mo qg ga qd de).wp (fun rs=>rsEqv rs [.agg [.sl qm mo.length 1 (eI.F mo),.sl qg ga.length 1 (eI.F ga),.sl qd de.length 3 (eDm.F de)],rI (M.checkProg mo ga de).2]):=by
 unfold tr83
 simp only[Enc.list_F]
 exact⟨Enc.is_F _ _ _,Enc.is_F _ _ _,Enc.is_F _ _ _,h1,h2,h3,hn,rsEqv_refl _⟩
def dom83:DomF
 |[.agg [.sl qm n1 st1 F1,.sl qg n2 st2 F2,.sl qd n3 st3 F3]]=>(match Nat.beq st1 1&&Nat.beq st2 1&&Nat.beq st3 3 with
  |true=>some ([eI.Is n1 F1,eI.Is n2 F2,eDm.Is n3 F3,n1≤1000000,n2≤1000000,n3≤1000000,∀d,d∈eDm.list n3 F3→d.nm.size≤1000000∧d.co.length≤1000000],[.agg [.sl qm n1 1 (eI.F (eI.list n1 F1)),.sl qg n2 1 (eI.F (eI.list n2 F2)),.sl qd n3 3 (eDm.F (eDm.list n3 F3))],rI (M.checkProg (eI.list n1 F1) (eI.list n2 F2) (eDm.list n3 F3)).2])
  |_=>none)
 |_=>none
def v83:Nat×Sm:=(83,fokSm dom83)
theorem C83:FOK Try.prog G0 gw 83 dom83:=by
 intro ags p r hd hp κ w xs hw hl hG hx
 unfold dom83 at hd
 split at hd
 ·rename_i qm n1 st1 F1 qg n2 st2 F2 qd n3 st3 F3
  split at hd
  ·rename_i hst
   simp only[Bool.and_eq_true]at hst
   have g1:=Nat.eq_of_beq_eq_true hst.1.1
   have g2:=Nat.eq_of_beq_eq_true hst.1.2
   have g3:=Nat.eq_of_beq_eq_true hst.2
   subst g1 g2 g3
   simp only[Option.some.injEq,Prod.mk.injEq]at hd
   obtain⟨rfl,rfl⟩:=hd
   obtain⟨i1,i2,i3,l1,l2,l3,hn,_⟩:=hp
   have heq:agsEqv [.agg [.sl qm n1 1 F1,.sl qg n2 1 F2,.sl qd n3 3 F3]] [.agg [.sl qm (eI.list n1 F1).length 1 (eI.F (eI.list n1 F1)),.sl qg (eI.list n2 F2).length 1 (eI.F (eI.list n2 F2)),.sl qd (eDm.list n3 F3).length 3 (eDm.F (eDm.list n3 F3))]]:=⟨⟨eI.to id i1,eI.to id i2,eDm.to id i3,trivial⟩,trivial⟩
   have e1:(eI.list n1 F1).length=n1:=Enc.list_len _
   have e2:(eI.list n2 F2).length=n2:=Enc.list_len _
   have e3:(eDm.list n3 F3).length=n3:=Enc.list_len _
   have hw0:=w83 qm (eI.list n1 F1) qg (eI.list n2 F2) qd (eDm.list n3 F3) (by omega) (by omega) (by omega) hn
   rw[e1,e2,e3]at hw0
   exact fokX_fin mixed gw_stable (sl:=[v42]) ⟨S42,trivial⟩ Try.func83 hw hl hG hx heq rfl (t83 qm _ qg _ qd _) hw0
  ·cases hd
 ·cases hd
theorem S83:SumOK Try.prog G0 gw 83 (fokSm dom83):=fok_sum Try.func83 rfl C83
end Go.Pl
end
section
set_option maxRecDepth 100000
namespace Go.Pl
open Go.V Go.Proofs
def best2:List Ar:=[.agg [dI 34,dI 1,dI 1,dT [10,2],dI 1,dT [2],dT [1,0]],rI 0]
def two':List D:=[D.sl true 2 1 (eI.F (eI.list 2 (eI.F [10,10]))),D.sl true 2 1 (eI.F (eI.list 2 (eI.F [3,2]))),D.sl true 1 3 (eDm.F (eDm.list 1 (eDm.F [⟨⟨#[97]⟩,[1,1],12⟩])))]
theorem two'_eq:two'=two:=by kernel_rfl
theorem two1:Same [.agg two'] [.agg two]:=⟨by rw[two'_eq];exact agsEqv_refl _⟩
theorem two3:Same [.agg two',.c (.sl true 2 1 (eI.F (eI.list 2 (eI.F [3,2])))),.c (.sl false 0 0 (fun _ _=>.nilp))] [.agg two,.c (dT [3,2]),.c (.sl false 0 0 (fun _ _=>.nilp))]:=⟨by rw[two'_eq];exact⟨Ag.eqv_refl _,ag_of_eq (by kernel_rfl),Ag.eqv_refl _,trivial⟩⟩
def nd_t17c:List Prop:=[
 Enc.Is eI (2:Nat) (Enc.F eI [(10:Int),(10:Int)]),
 Enc.Is eI (2:Nat) (Enc.F eI [(3:Int),(2:Int)]),
 Enc.Is eDm (1:Nat) (Enc.F eDm [{nm:={data:={toList:=[(97:UInt8)]}},co:=[(1:Int),(1:Int)],am:=(12:Int)}]),
 (2:Nat)≤(1000000:Nat),
 (2:Nat)≤(1000000:Nat),
 (1:Nat)≤(1000000:Nat),
 ∀(d:Dem),d∈Enc.list eDm (1:Nat) (Enc.F eDm [{nm:={data:= #[(97:UInt8)]},co:=[(1:Int),(1:Int)],am:=(12:Int)}])→ByteArray.size (Dem.nm d)≤(1000000:Nat)∧List.length (Dem.co d)≤(1000000:Nat),
 Same [Ag.agg [D.sl true (2:Nat) (1:Nat) (Enc.F eI (Enc.list eI (2:Nat) (Enc.F eI [(10:Int),(10:Int)]))),D.sl true (2:Nat) (1:Nat) (Enc.F eI (Enc.list eI (2:Nat) (Enc.F eI [(3:Int),(2:Int)]))),D.sl true (1:Nat) (3:Nat) (Enc.F eDm (Enc.list eDm (1:Nat) (Enc.F eDm [{nm:={data:={toList:=[(97:UInt8)]}},co:=[(1:Int),(1:Int)],am:=(12:Int)}])))]] [Ag.agg two],
 i64ok (34:Int),
 i64ok (1:Int),
 (0:Int)<(1:Int),
 Same [Ag.agg [D.sl true (2:Nat) (1:Nat) (Enc.F eI (Enc.list eI (2:Nat) (Enc.F eI [(10:Int),(10:Int)]))),D.sl true (2:Nat) (1:Nat) (Enc.F eI (Enc.list eI (2:Nat) (Enc.F eI [(3:Int),(2:Int)]))),D.sl true (1:Nat) (3:Nat) (Enc.F eDm (Enc.list eDm (1:Nat) (Enc.F eDm [{nm:={data:={toList:=[(97:UInt8)]}},co:=[(1:Int),(1:Int)],am:=(12:Int)}])))],Ag.c (D.sl true (2:Nat) (1:Nat) (Enc.F eI [(3:Int),(2:Int)])),Ag.c (D.sl false (0:Nat) (0:Nat) fun(x x_1:Nat)=>D.nilp)] [Ag.agg two,Ag.c (dT [(3:Int),(2:Int)]),Ag.c (D.sl false (0:Nat) (0:Nat) fun(x x_1:Nat)=>D.nilp)]]
theorem t17c:runFnX Try.prog G0 (lookS [v83,v84c,v85,v86c]) (fun _=>[(999999,[],none)]) [] 1 60 3 17 Try.f17 [.agg two] =
  T.needs nd_t17c (T.ret [Ar.agg [D.int IntKind.i64 (34:Int),D.int IntKind.i64 (1:Int),D.int IntKind.i64 (1:Int),D.sl true (2:Nat) (1:Nat) (Enc.F eI [(10:Int),(2:Int)]),D.int IntKind.i64 (1:Int),D.sl true (1:Nat) (1:Nat) (Enc.F eI [(2:Int)]),D.sl true (2:Nat) (1:Nat) (Enc.F eI [(1:Int),(0:Int)])],Ar.c (D.int IntKind.i64 (0:Int))]):=by kernel_rfl
theorem all_t17c:All nd_t17c:=by
 unfold nd_t17c
 repeat (refine⟨(by first|exact of_decide_eq_true rfl|exact fun i j _ _=>D.eqv_refl _|exact Enc.is_F _ _ _|exact fun i j hi _=>absurd hi (Nat.not_lt_zero i)|exact two1|exact two3|exact of_decide_eq_true (by kernel_rfl)),?_⟩)
 trivial
theorem w_t17c:(T.needs nd_t17c (T.ret [Ar.agg [D.int IntKind.i64 (34:Int),D.int IntKind.i64 (1:Int),D.int IntKind.i64 (1:Int),D.sl true (2:Nat) (1:Nat) (Enc.F eI [(10:Int),(2:Int)]),D.int IntKind.i64 (1:Int),D.sl true (1:Nat) (1:Nat) (Enc.F eI [(2:Int)]),D.sl true (2:Nat) (1:Nat) (Enc.F eI [(1:Int),(0:Int)])],Ar.c (D.int IntKind.i64 (0:Int))])).wp (fun rs=>rsEqv rs best2):=by
 refine T.needs_wp all_t17c ?_
 exact rsEqv_refl _
def nd_t53c:List Prop:=[
 Enc.Is eI (2:Nat) (Enc.F eI [(10:Int),(10:Int)]),
 Enc.Is eI (2:Nat) (Enc.F eI [(3:Int),(2:Int)]),
 Enc.Is eDm (1:Nat) (Enc.F eDm [{nm:={data:={toList:=[(97:UInt8)]}},co:=[(1:Int),(1:Int)],am:=(12:Int)}]),
 (2:Nat)≤(1000000:Nat),
 (2:Nat)≤(1000000:Nat),
 (1:Nat)≤(1000000:Nat),
 ∀(d:Dem),d∈Enc.list eDm (1:Nat) (Enc.F eDm [{nm:={data:= #[(97:UInt8)]},co:=[(1:Int),(1:Int)],am:=(12:Int)}])→ByteArray.size (Dem.nm d)≤(1000000:Nat)∧List.length (Dem.co d)≤(1000000:Nat),
 ((1:Int)==(1:Int))=true,
 M.within (1:Int) (1:Int) (100000000000:Int)=true,
 Enc.Is eI (1:Nat) (Enc.F eI [(2:Int)]),
 (1:Nat)≤(1000000:Nat),
 (!(badF (170:Nat) (2:Int)||false))=true,
 Enc.Is eI (2:Nat) (Enc.F eI [(1:Int),(0:Int)]),
 (2:Nat)≤(1000000:Nat),
 Enc.Is eI (2:Nat) (Enc.F eI [(1:Int),(0:Int)]),
 Enc.Is eI (2:Nat) (Enc.F eI (Enc.list eI (2:Nat) (Enc.F eI [(10:Int),(10:Int)]))),
 List.length (Enc.list eI (2:Nat) (Enc.F eI [(1:Int),(0:Int)]))≤(1000000:Nat),
 List.length (Enc.list eI (2:Nat) (Enc.F eI [(1:Int),(0:Int)]))≤List.length (Enc.list eI (2:Nat) (Enc.F eI (Enc.list eI (2:Nat) (Enc.F eI [(10:Int),(10:Int)])))),
 (0:Int)≤(0:Int),
 (0:Int)<(1:Int),
 (0:Int)≤(0:Int),
 (0:Int)<(1:Int),
 (0:Int)≤(0:Int),
 (0:Int)<(2:Int),
 (0:Int)≤(0:Int),
 (0:Int)<(1:Int),
 (0:Int)≤(0:Int),
 (0:Int)<(1:Int),
 (0:Int)≤(0:Int),
 (0:Int)<(2:Int),
 (0:Int)≤(0:Int),
 (0:Int)<(2:Int),
 (0:Int)≤(1:Int),
 (1:Int)<(2:Int),
 (0:Int)≤(0:Int),
 (0:Int)<(1:Int),
 (0:Int)≤(0:Int),
 (0:Int)<(1:Int),
 (0:Int)≤(1:Int),
 (1:Int)<(2:Int),
 (0:Int)≤(1:Int),
 (1:Int)<(2:Int),
 i64ok (34:Int),
 i64ok (1:Int),
 (0:Int)<(1:Int)]
theorem t53c:runFnX Try.prog G0 (lookS [v83,v85,v103,v104,v105,v118,v139]) (fun _=>[(999999,[],none)]) [133,134,135] 1 60 6 53 Try.f53 [.agg two,.agg [dI 1,dT [2],dT [1,0]]] =
  T.needs nd_t53c (T.ret [Ar.agg [D.int IntKind.i64 (34:Int),D.int IntKind.i64 (1:Int)],Ar.c (D.int IntKind.i64 (0:Int))]):=by kernel_rfl
theorem all_t53c:All nd_t53c:=by
 unfold nd_t53c
 repeat (refine⟨(by first|exact of_decide_eq_true rfl|exact fun i j _ _=>D.eqv_refl _|exact Enc.is_F _ _ _|exact fun i j hi _=>absurd hi (Nat.not_lt_zero i)|exact of_decide_eq_true (by kernel_rfl)),?_⟩)
 trivial
theorem w_t53c:(T.needs nd_t53c (T.ret [Ar.agg [D.int IntKind.i64 (34:Int),D.int IntKind.i64 (1:Int)],Ar.c (D.int IntKind.i64 (0:Int))])).wp (fun rs=>rsEqv rs [.agg [dI 34,dI 1],rI 0]):=by
 refine T.needs_wp all_t53c ?_
 exact rsEqv_refl _
def dom17c:DomF
 |[.agg ds]=>some ([Same [.agg ds] [.agg two]],best2)
 |_=>none
def v17c:Nat×Sm:=(17,fokSm dom17c)
theorem C17c:FOK Try.prog G0 gw 17 dom17c:=by
 intro ags p r hd hp κ w xs hw hl hG hx
 unfold dom17c at hd
 split at hd
 ·simp only[Option.some.injEq,Prod.mk.injEq]at hd
  obtain⟨rfl,rfl⟩:=hd
  exact fokX_fin mixed gw_stable (sl:=[v83,v84c,v85,v86c]) ⟨S83,S84c,S85,S86c,trivial⟩ Try.func17 hw hl hG hx hp.1.h rfl t17c w_t17c
 ·cases hd
theorem S17c:SumOK Try.prog G0 gw 17 (fokSm dom17c):=fok_sum Try.func17 rfl C17c
def dom53c:DomF
 |[.agg ds,.agg ws]=>some ([Same [.agg ds,.agg ws] [.agg two,.agg [dI 1,dT [2],dT [1,0]]]],[.agg [dI 34,dI 1],rI 0])
 |_=>none
def v53c:Nat×Sm:=(53,fokSm dom53c)
theorem C53c:FOK Try.prog G0 gw 53 dom53c:=by
 intro ags p r hd hp κ w xs hw hl hG hx
 unfold dom53c at hd
 split at hd
 ·simp only[Option.some.injEq,Prod.mk.injEq]at hd
  obtain⟨rfl,rfl⟩:=hd
  exact fokX_fin mixed gw_stable (sl:=[v83,v85,v103,v104,v105,v118,v139]) ⟨S83,S85,S103,S104,S105,S118,S139,trivial⟩ Try.func53 hw hl hG hx hp.1.h rfl t53c w_t53c
 ·cases hd
theorem S53c:SumOK Try.prog G0 gw 53 (fokSm dom53c):=fok_sum Try.func53 rfl C53c
def tr80:T (List Ar):=
  T.ret [Ar.agg [D.sl true (2:Nat) (1:Nat) fun(i' j:Nat)=>List.getD [D.int IntKind.i64 (10:Int),D.int IntKind.i64 (10:Int)] (i'*(1:Nat)+j) D.nilp,D.sl true (2:Nat) (1:Nat) fun(i' j:Nat)=>List.getD [D.int IntKind.i64 (3:Int),D.int IntKind.i64 (2:Int)] (i'*(1:Nat)+j) D.nilp,D.sl true (1:Nat) (3:Nat) fun(i' j:Nat)=>List.getD [D.str {data:={toList:=[(97:UInt8)]}},D.sl true (2:Nat) (1:Nat) fun(i' j:Nat)=>List.getD [D.int IntKind.i64 (1:Int),D.int IntKind.i64 (1:Int)] (i'*(1:Nat)+j) D.nilp,D.int IntKind.i64 (12:Int)] (i'*(3:Nat)+j) D.nilp]]
theorem t80:runFnX Try.prog G0 (lookS []) (fun _=>[]) [] 1 40 6 80 Try.f80 [] =
  tr80:=by kernel_rfl
def tr81:T (List Ar):=
  T.ret [Ar.agg [D.sl true (2:Nat) (4:Nat) fun(i' j:Nat)=>List.getD [D.int IntKind.i64 (1000:Int),D.int IntKind.i64 (0:Int),D.int IntKind.i64 (0:Int),D.int IntKind.i64 (20000:Int),D.int IntKind.i64 (1000:Int),D.int IntKind.i64 (0:Int),D.int IntKind.i64 (0:Int),D.int IntKind.i64 (10000:Int)] (i'*(4:Nat)+j) D.nilp,D.int IntKind.i64 (0:Int)]]
theorem t81:runFnX Try.prog G0 (lookS []) (fun _=>[]) [] 1 40 6 81 Try.f81 [] =
  tr81:=by kernel_rfl
def tr82(n:Int):T (List Ar):=
  T.ret [Ar.agg [D.int IntKind.i64 n,D.int IntKind.i64 (1:Int)]]
theorem t82(n:Int):runFnX Try.prog G0 (lookS []) (fun _=>[]) [] 1 40 3 82 Try.f82 [.c (dI n)] =
  tr82 n:=by kernel_rfl
theorem w80:(tr80).wp (fun rs=>rsEqv rs [.agg two]):=by
 unfold tr80
 refine⟨⟨dT_ok rfl rfl (fun i hi=>?_),dT_ok rfl rfl (fun i hi=>?_),⟨fun _=>rfl,rfl,fun _=>rfl,fun i j hi hj=>?_⟩,trivial⟩,trivial⟩
 ·match i,hi with
  |0,_=>exact D.eqv_refl _
  |1,_=>exact D.eqv_refl _
 ·match i,hi with
  |0,_=>exact D.eqv_refl _
  |1,_=>exact D.eqv_refl _
 ·match i,hi,j,hj with
  |0,_,0,_=>exact D.eqv_refl _
  |0,_,1,_=>
   refine⟨fun _=>rfl,rfl,fun _=>rfl,fun i j hi hj=>?_⟩
   obtain rfl:j=0:=Nat.lt_one_iff.1 hj
   match i,hi with
   |0,_=>exact D.eqv_refl _
   |1,_=>exact D.eqv_refl _
  |0,_,2,_=>exact D.eqv_refl _
def dom80:DomF
 |[]=>some ([],[.agg two])
 |_=>none
def v80:Nat×Sm:=(80,fokSm dom80)
theorem C80:FOK Try.prog G0 gw 80 dom80:=by
 intro ags p r hd hp κ w xs hw hl hG hx
 unfold dom80 at hd
 split at hd
 ·simp only[Option.some.injEq,Prod.mk.injEq]at hd
  obtain⟨rfl,rfl⟩:=hd
  exact fokX_fin mixed gw_stable (sl:=[]) trivial Try.func80 hw hl hG hx (agsEqv_refl _) rfl t80 w80
 ·cases hd
theorem S80:SumOK Try.prog G0 gw 80 (fokSm dom80):=fok_sum Try.func80 rfl C80
theorem w81:(tr81).wp (fun rs=>rsEqv rs [.agg four]):=by
 unfold tr81
 refine⟨⟨⟨fun _=>rfl,rfl,fun _=>rfl,fun i j hi hj=>?_⟩,rfl,trivial⟩,trivial⟩
 match i,hi,j,hj with
 |0,_,0,_=>exact D.eqv_refl _
 |0,_,1,_=>exact D.eqv_refl _
 |0,_,2,_=>exact D.eqv_refl _
 |0,_,3,_=>exact D.eqv_refl _
 |1,_,0,_=>exact D.eqv_refl _
 |1,_,1,_=>exact D.eqv_refl _
 |1,_,2,_=>exact D.eqv_refl _
 |1,_,3,_=>exact D.eqv_refl _
def dom81:DomF
 |[]=>some ([],[.agg four])
 |_=>none
def v81:Nat×Sm:=(81,fokSm dom81)
theorem C81:FOK Try.prog G0 gw 81 dom81:=by
 intro ags p r hd hp κ w xs hw hl hG hx
 unfold dom81 at hd
 split at hd
 ·simp only[Option.some.injEq,Prod.mk.injEq]at hd
  obtain⟨rfl,rfl⟩:=hd
  exact fokX_fin mixed gw_stable (sl:=[]) trivial Try.func81 hw hl hG hx (agsEqv_refl _) rfl t81 w81
 ·cases hd
theorem S81:SumOK Try.prog G0 gw 81 (fokSm dom81):=fok_sum Try.func81 rfl C81
def dom82:DomF
 |[.c (.int .i64 n)]=>some ([],[.agg [dI n,dI 1]])
 |_=>none
def v82:Nat×Sm:=(82,fokSm dom82)
theorem C82:FOK Try.prog G0 gw 82 dom82:=by
 intro ags p r hd hp κ w xs hw hl hG hx
 unfold dom82 at hd
 split at hd
 ·rename_i n
  simp only[Option.some.injEq,Prod.mk.injEq]at hd
  obtain⟨rfl,rfl⟩:=hd
  have heq:agsEqv [.c (.int .i64 n)] [.c (.int .i64 n)]:=⟨Ag.eqv_refl _,trivial⟩
  exact fokX_fin mixed gw_stable (sl:=[]) trivial Try.func82 hw hl hG hx heq rfl (t82 _) (rsEqv_refl _)
 ·cases hd
theorem S82:SumOK Try.prog G0 gw 82 (fokSm dom82):=fok_sum Try.func82 rfl C82
end Go.Pl
end
section
set_option maxRecDepth 100000
namespace Go.Pl
open Go.V Go.Proofs
def nd_t76:List Prop:=[
 Same [Ag.agg [D.sl true (2:Nat) (1:Nat) (Enc.F eI [(10:Int),(10:Int)]),D.sl true (2:Nat) (1:Nat) (Enc.F eI [(3:Int),(2:Int)]),D.sl true (1:Nat) (3:Nat) (Enc.F eDm [{nm:={data:={toList:=[(97:UInt8)]}},co:=[(1:Int),(1:Int)],am:=(12:Int)}])]] [Ag.agg two],
 Same [Ag.agg [D.sl true (2:Nat) (4:Nat) (Enc.F eSc [(Scale.mk (1000:Int) (0:Int) (0:Int) (20000:Int)),(Scale.mk (1000:Int) (0:Int) (0:Int) (10000:Int))]),D.int IntKind.i64 (0:Int)]] [Ag.agg four],
 ((34:Int)==(34:Int)&&((1:Int)==(1:Int)&&true))=true]
theorem t76:runFnX Try.prog G0 (lookS [v17c,v53c,v28c,v35c,v80,v81,v82]) (fun _=>[(999999,[],none)]) [] 1 60 3 76 Try.f76 [] =
  T.needs nd_t76 (T.ret [Ar.c (D.bool ((0:Int)==0))]):=by kernel_rfl
theorem all_t76:All nd_t76:=by
 unfold nd_t76
 repeat (refine⟨(by first|exact of_decide_eq_true rfl|exact fun i j _ _=>D.eqv_refl _|exact Enc.is_F _ _ _|exact fun i j hi _=>absurd hi (Nat.not_lt_zero i)|exact Same.mk (agsEqv_refl _)|exact sw),?_⟩)
 trivial
theorem w_t76:(T.needs nd_t76 (T.ret [Ar.c (D.bool ((0:Int)==0))])).wp (fun rs=>rsEqv rs [rB true]):=by
 refine T.needs_wp all_t76 ?_
 exact rsEqv_refl _
def dom76:DomF
 |[]=>some ([],[rB true])
 |_=>none
def v76:Nat×Sm:=(76,fokSm dom76)
theorem C76:FOK Try.prog G0 gw 76 dom76:=by
 intro ags p r hd hp κ w xs hw hl hG hx
 unfold dom76 at hd
 split at hd
 ·simp only[Option.some.injEq,Prod.mk.injEq]at hd
  obtain⟨rfl,rfl⟩:=hd
  exact fokX_fin mixed gw_stable (sl:=[v17c,v53c,v28c,v35c,v80,v81,v82]) ⟨S17c,S53c,S28c,S35c,S80,S81,S82,trivial⟩ Try.func76 hw hl hG hx (agsEqv_refl _) rfl t76 w_t76
 ·cases hd
theorem S76:SumOK Try.prog G0 gw 76 (fokSm dom76):=fok_sum Try.func76 rfl C76
end Go.Pl
end
section
set_option maxRecDepth 100000
namespace Go.Pl
open Go.V Go.Proofs
namespace M
def firstIdx(p:Nat→Bool):Nat→Nat→Int
 |0,_=> -1
 |n+1,k=>cond (p k) (k:Int) (firstIdx p n (k+1))
def floorW(n b:Int):Int:=cond (decide (n.tmod b<0)) (IntKind.i64.wrap (IntKind.i64.wrap (n.tdiv b)-1)) (IntKind.i64.wrap (n.tdiv b))
end M
theorem idx_step{p:Nat→Bool}{n k:Nat}(h:k<n):M.firstIdx p (n-k) k=cond (p k) (k:Int) (M.firstIdx p (n-(k+1)) (k+1)):=by
 obtain⟨m,hm⟩:∃m,n-k=m+1:=⟨n-k-1,by omega⟩
 rw[hm,show n-(k+1)=m by omega];rfl
end Go.Pl
end
section
set_option maxRecDepth 100000
namespace Go.Pl
open Go.V Go.Proofs
namespace M
end M
theorem bad_zero{f:Nat→Int}:∀(n k:Nat),(M.badFrom f n k).2=0→∀i,k≤i→i<k+n→f i=0:=by
 intro n
 induction n with
 |zero=>intro k _ i h1 h2;omega
 |succ n ih=>
  intro k h i h1 h2
  simp only[M.badFrom]at h
  cases hb:(f k != 0)with
  |true=>
   rw[hb]at h
   have h:f k=0:=h
   rw[h]at hb;cases hb
  |false=>
   rw[hb]at h
   have hk:f k=0:=by simpa using hb
   rcases Nat.lt_or_ge k i with hl|hl
   ·exact ih (k+1) h i (by omega) (by omega)
   ·obtain rfl:i=k:=by omega
    exact hk
theorem unl_zero{b:Bool}{e:Int}(he:e≠0)(h:M.unl b e=0):b=true:=by
 cases b with
 |true=>rfl
 |false=>exact absurd h he
theorem within_iff{n lo hi:Int}:M.within n lo hi=true↔lo≤n∧n≤hi:=by
 unfold M.within;rw[Bool.and_eq_true,decide_eq_true_eq,decide_eq_true_eq]
end Go.Pl
end
section
set_option maxRecDepth 100000
namespace Go.Pl
open Go.V Go.Proofs
namespace M
end M
theorem getD_mem{α:Type}{l:List α}{i:Nat}{d:α}(h:i<l.length):l.getD i d∈l:=by
 rw[List.getD_eq_getElem?_getD,List.getElem?_eq_getElem h];exact List.getElem_mem h
end Go.Pl
end
section
set_option maxRecDepth 100000
namespace Go.Pl
open Go.V Go.Proofs
def tr148(n b:Int):T (List Ar):=
  T.need (b≠(0:Int)) (T.need (b≠(0:Int)) (T.br (decide (Int.tmod n b<0)) (T.ret [Ar.c (D.int IntKind.i64 (IntKind.i64.wrap (IntKind.i64.wrap (Int.tdiv n b)-1)))]) (T.ret [Ar.c (D.int IntKind.i64 (IntKind.i64.wrap (Int.tdiv n b)))])))
theorem t148(n b:Int):runFnX Try.prog G0 (lookS []) (fun _=>[]) [] 1 60 4 148 Try.f148 [.c (dI n),.c (dI b)] =
  tr148 n b:=by kernel_rfl
theorem w148(n b:Int)(h:b≠0):(tr148 n b).wp (fun rs=>rsEqv rs [rI (M.floorW n b)]):=by
 unfold tr148
 refine⟨h,h,wp_br (fun hb=>?_) (fun hb=>?_)⟩
 all_goals(refine rI_eqv' ?_;unfold M.floorW;rw[hb];rfl)
namespace M
end M
def dom148:DomF
 |[.c (.int .i64 n),.c (.int .i64 b)]=>some ([b≠0],[rI (M.floorW n b)])
 |_=>none
theorem C148:FOK Try.prog G0 gw 148 dom148:=by
 intro ags p r hd hp κ w xs hw hl hG hx
 unfold dom148 at hd
 split at hd
 ·rename_i n b
  simp only[Option.some.injEq,Prod.mk.injEq]at hd
  obtain⟨rfl,rfl⟩:=hd
  have heq:agsEqv [.c (.int .i64 n),.c (.int .i64 b)] [.c (.int .i64 n),.c (.int .i64 b)]:=⟨Ag.eqv_refl _,Ag.eqv_refl _,trivial⟩
  exact fokX_fin mixed gw_stable (sl:=[]) trivial Try.func148 hw hl hG hx heq rfl (t148 _ _) (w148 _ _ hp.1)
 ·cases hd
end Go.Pl
end
section
set_option maxRecDepth 100000
namespace Go.Pl
open Go.V Go.Proofs
abbrev cI(dr:List Int):List Int:=Enc.list eI (List.length dr) (Enc.F eI dr)
abbrev iI(dr:List Int):Prop:=Enc.Is eI (List.length dr) (Enc.F eI dr)
end Go.Pl
end
section
set_option maxRecDepth 100000
namespace Go.Pl
open Go.V Go.Proofs
namespace M
end M
theorem idx_none{p:Nat→Bool}:∀(n k:Nat),M.firstIdx p n k<0→∀i,k≤i→i<k+n→p i=false:=by
 intro n
 induction n with
 |zero=>intro k _ i h1 h2;omega
 |succ n ih=>
  intro k h i h1 h2
  simp only[M.firstIdx]at h
  cases hp:p k with
  |true=>rw[hp]at h;have h:(k:Int)<0:=h;omega
  |false=>
   rw[hp]at h
   rcases Nat.lt_or_ge k i with hl|hl
   ·exact ih (k+1) h i (by omega) (by omega)
   ·obtain rfl:i=k:=by omega
    exact hp
end Go.Pl
end
section
set_option maxRecDepth 100000
namespace Go.Pl
open Go.V Go.Proofs
def tr128(q_mo:Bool)(mo:List Int)(q_ga:Bool)(ga:List Int)(q_de:Bool)(de:List Dem)(i:Int):T (List Ar):=
  T.need ((0:Int)≤i) (T.need (i<(de.length:Int)) (T.need (ByteArray.size (Dem.nm (de.getD i.toNat dfD))≤1000000) (T.br (!M.isName (Dem.nm (de.getD i.toNat dfD))) (T.ret [Ar.c (D.int IntKind.i64 (4:Int))]) (T.loop (Int×PUnit) ((0:Int),PUnit.unit) fun(x:Int×PUnit)=>T.br (decide (x.1<i)) (T.need ((0:Int)≤x.1) (T.need (x.1<(de.length:Int)) (T.br (ByteArray.toList (Dem.nm (de.getD x.1.toNat dfD))==ByteArray.toList (Dem.nm (de.getD i.toNat dfD))) (T.ret (Sum.inr [Ar.c (D.int IntKind.i64 (5:Int))])) (T.ret (Sum.inl (IntKind.i64.wrap (x.1+1),PUnit.unit)))))) (T.br (((Dem.co (de.getD i.toNat dfD)).length:Int) != (mo.length:Int)) (T.ret (Sum.inr [Ar.c (D.int IntKind.i64 (10:Int))])) (T.loop (Int×PUnit) ((0:Int),PUnit.unit) fun(x_1:Int×PUnit)=>T.br (decide (x_1.1<((Dem.co (de.getD i.toNat dfD)).length:Int))) (T.need ((0:Int)≤x_1.1) (T.need (x_1.1<((Dem.co (de.getD i.toNat dfD)).length:Int)) (T.need ((0:Int)≤100∧(100:Int)<9223372036854775808) (T.br (!M.small (List.getD (Dem.co (de.getD i.toNat dfD)) x_1.1.toNat (0:Int)) (100:Int)) (T.ret (Sum.inr (Sum.inr [Ar.c (D.int IntKind.i64 (2:Int))]))) (T.ret (Sum.inl (IntKind.i64.wrap (x_1.1+1),PUnit.unit))))))) (T.need ((0:Int)≤1000000∧(1000000:Int)<9223372036854775808) (T.br (!M.small (Dem.am (de.getD i.toNat dfD)) (1000000:Int)) (T.ret (Sum.inr (Sum.inr [Ar.c (D.int IntKind.i64 (2:Int))]))) (T.ret (Sum.inr (Sum.inr [Ar.c (D.int IntKind.i64 (0:Int))])))))))))))
theorem t128(q_mo:Bool)(mo:List Int)(q_ga:Bool)(ga:List Int)(q_de:Bool)(de:List Dem)(i:Int):runFnX Try.prog G0 (lookS [v127,v167]) (fun f=>[(5,[.slot 6 (.int .i64)],none),(12,[.slot 7 (.int .i64)],none)]) [] 1 60 4 128 Try.f128 [.agg [.sl q_mo mo.length 1 (eI.F mo),.sl q_ga ga.length 1 (eI.F ga),.sl q_de de.length 3 (eDm.F de)],.c (dI i)] =
  tr128 q_mo mo q_ga ga q_de de i:=by kernel_rfl
theorem w128(qm:Bool)(mo:List Int)(qg:Bool)(ga:List Int)(qd:Bool)(de:List Dem)(i:Int)(h0:0≤i)(hi:i<de.length)(h1:mo.length≤1000000)(h3:de.length≤1000000)(hn:∀d,d∈de→d.nm.size≤1000000∧d.co.length≤1000000) :
  (tr128 qm mo qg ga qd de i).wp (fun rs=>rsEqv rs [rI (M.demErr mo.length de i.toNat)]):=by
 obtain⟨k,rfl⟩:∃k:Nat,i=k:=⟨i.toNat,by omega⟩
 have hlt:k<de.length:=by omega
 have hmem:de.getD k dfD∈de:=getD_mem hlt
 obtain⟨hs,hc⟩:=hn _ hmem
 unfold tr128
 simp only[Int.toNat_natCast]
 refine⟨h0,hi,hs,wp_br (fun hb=>rI_eqv' ?_) (fun hb=>?_)⟩
 ·have hb:M.isName (de.getD k dfD).nm=false:=by simpa using hb
  unfold M.demErr;rw[hb];rfl
 have hnm:M.isName (de.getD k dfD).nm=true:=by simpa using hb
 refine range_wp (n:=k) (fun j _=>∀i,i<j→M.same (de.getD i dfD) (de.getD k dfD)=false) (fun i hi=>by omega) ?_
 rintro j u hj hJ
 refine wp_br (fun hb=>?_) (fun hb=>?_)
 ·have hjlt:=lt_of_dec hb
  refine⟨by show(0:Int)≤j;omega,by show(j:Int)<de.length;omega,wp_br (fun hx=>rI_eqv' ?_) (fun hx=>?_)⟩
  ·have hx:M.same (de.getD j dfD) (de.getD k dfD)=true:=by rw[←same_eq];exact hx
   unfold M.demErr;rw[hnm,dup_yes hjlt hx];rfl
  ·have hx:M.same (de.getD j dfD) (de.getD k dfD)=false:=by rw[←same_eq];exact hx
   refine⟨hjlt,wrap_succ (by omega),fun i hi=>?_⟩
   rcases Nat.lt_or_ge i j with h|h
   ·exact hJ i h
   ·obtain rfl:i=j:=by omega
    exact hx
 ·have hge:=ge_of_dec hb
  obtain rfl:j=k:=by omega
  have hdup:=dup_no hJ
  refine wp_br (fun hb=>rI_eqv' ?_) (fun hb=>?_)
  ·have hb:(((de.getD j dfD).co.length:Int)==(mo.length:Int))=false:=by simpa using hb
   unfold M.demErr;rw[hnm,hdup,hb];rfl
  have hl:(((de.getD j dfD).co.length:Int)==(mo.length:Int))=true:=by simpa using hb
  have e:M.demErr mo.length de j=M.unl (cond (((de.getD j dfD).co.drop 0).any (badF 124)) false (M.small (de.getD j dfD).am 1000000)) 2:=by
   unfold M.demErr;rw[hnm,hdup,hl,List.drop_zero]
   show M.first [0,0,0,_]=_
   simp only[first_of]
   cases cond ((de.getD j dfD).co.any (badF 124)) false (M.small (de.getD j dfD).am 1000000) <;>rfl
  refine range_wp (n:=(de.getD j dfD).co.length) (fun k _=>M.demErr mo.length de j=M.unl (cond (((de.getD j dfD).co.drop k).any (badF 124)) false (M.small (de.getD j dfD).am 1000000)) 2) e ?_
  rintro k v hk hK
  rw[hK]
  refine wp_br (fun hb=>?_) (fun hb=>?_)
  ·have hklt:=lt_of_dec hb
   have hst:=any_step (is:=badF 124) hklt
   refine⟨by show(0:Int)≤k;omega,by show(k:Int)<(de.getD j dfD).co.length;omega,by decide,wp_br (fun hx=>?_) (fun hx=>?_)⟩
   ·have hx:badF 124 ((de.getD j dfD).co.getD k 0)=true:=hx
    rw[hst,hx];exact rsEqv_refl _
   ·have hx:badF 124 ((de.getD j dfD).co.getD k 0)=false:=hx
    exact⟨hklt,wrap_succ (by omega),by rw[hst,hx];rfl⟩
  ·have hge:=ge_of_dec hb
   obtain rfl:k=(de.getD j dfD).co.length:=by omega
   rw[List.drop_length]
   refine⟨by decide,wp_br (fun hx=>rI_eqv' ?_) (fun hx=>rI_eqv' ?_)⟩
   ·have hx:M.small (de.getD j dfD).am 1000000=false:=by simpa using hx
    rw[hx];rfl
   ·have hx:M.small (de.getD j dfD).am 1000000=true:=by simpa using hx
    rw[hx];rfl
def dom128:DomF
 |[.agg [.sl _ n_mo st_mo F_mo,.sl _ n_ga st_ga F_ga,.sl _ n_de st_de F_de],.c (.int .i64 i)]=>(match Nat.beq st_mo 1&&Nat.beq st_ga 1&&Nat.beq st_de 3 with
  |true=>some ([eI.Is n_mo F_mo,eI.Is n_ga F_ga,eDm.Is n_de F_de,0≤i,i<(eDm.list n_de F_de).length,(eI.list n_mo F_mo).length≤1000000,(eDm.list n_de F_de).length≤1000000,∀d,d∈(eDm.list n_de F_de)→d.nm.size≤1000000∧d.co.length≤1000000],[rI (M.demErr (eI.list n_mo F_mo).length (eDm.list n_de F_de) i.toNat)])
  |_=>none)
 |_=>none
def v128:Nat×Sm:=(128,fokSm dom128)
theorem C128:FOK Try.prog G0 gw 128 dom128:=by
 intro ags p r hd hp κ w xs hw hl hG hx
 unfold dom128 at hd
 split at hd
 ·rename_i q_mo n_mo st_mo F_mo q_ga n_ga st_ga F_ga q_de n_de st_de F_de i
  split at hd
  ·rename_i hst
   simp only[Bool.and_eq_true]at hst
   obtain⟨⟨g1,g2⟩,g3⟩:=hst
   have g1:=Nat.eq_of_beq_eq_true g1
   have g2:=Nat.eq_of_beq_eq_true g2
   have g3:=Nat.eq_of_beq_eq_true g3
   subst g1 g2 g3
   simp only[Option.some.injEq,Prod.mk.injEq]at hd
   obtain⟨rfl,rfl⟩:=hd
   obtain⟨hI_mo,hI_ga,hI_de,hp⟩:=hp
   have heq:agsEqv [.agg [.sl q_mo n_mo 1 F_mo,.sl q_ga n_ga 1 F_ga,.sl q_de n_de 3 F_de],.c (.int .i64 i)] [.agg [.sl q_mo (eI.list n_mo F_mo).length 1 (eI.F (eI.list n_mo F_mo)),.sl q_ga (eI.list n_ga F_ga).length 1 (eI.F (eI.list n_ga F_ga)),.sl q_de (eDm.list n_de F_de).length 3 (eDm.F (eDm.list n_de F_de))],.c (.int .i64 i)]:=⟨⟨eI.to id hI_mo,eI.to id hI_ga,eDm.to id hI_de,trivial⟩,Ag.eqv_refl _,trivial⟩
   have len_mo:(eI.list n_mo F_mo).length=n_mo:=eI.list_len
   have len_ga:(eI.list n_ga F_ga).length=n_ga:=eI.list_len
   have len_de:(eDm.list n_de F_de).length=n_de:=eDm.list_len
   generalize eI.list n_mo F_mo=mo at *
   generalize eI.list n_ga F_ga=ga at *
   generalize eDm.list n_de F_de=de at *
   subst len_mo len_ga len_de
   exact fokX_fin mixed gw_stable (sl:=[v127,v167]) ⟨S127,S167,trivial⟩ Try.func128 hw hl hG hx heq rfl (t128 _ _ _ _ _ _ _) (w128 _ _ _ _ _ _ _ hp.1 hp.2.1 hp.2.2.1 hp.2.2.2.1 hp.2.2.2.2.1)
  ·cases hd
 ·cases hd
theorem S128:SumOK Try.prog G0 gw 128 (fokSm dom128):=fok_sum Try.func128 rfl C128
end Go.Pl
end
section
set_option maxRecDepth 100000
namespace Go.Pl
open Go.V Go.Proofs
def tr44(q_mo:Bool)(mo:List Int)(q_ga:Bool)(ga:List Int)(q_de:Bool)(de:List Dem):T (List Ar):=
  T.br ((mo.length:Int)==0) (T.ret [Ar.c (D.int IntKind.i64 (0:Int)),Ar.c (D.int IntKind.i64 (10:Int))]) (T.br ((ga.length:Int) != (mo.length:Int)) (T.ret [Ar.c (D.int IntKind.i64 (0:Int)),Ar.c (D.int IntKind.i64 (10:Int))]) (T.br (decide ((mo.length:Int)>(4:Int))) (T.ret [Ar.c (D.int IntKind.i64 (0:Int)),Ar.c (D.int IntKind.i64 (8:Int))]) (T.loop (Int×PUnit) ((0:Int),PUnit.unit) fun(x:Int×PUnit)=>T.br (decide (x.1<(mo.length:Int))) (T.need ((0:Int)≤x.1) (T.need (x.1<(mo.length:Int)) (T.br (!M.within (mo.getD x.1.toNat (0:Int)) (0:Int) (1000000:Int)) (T.ret (Sum.inr [Ar.c (D.int IntKind.i64 (0:Int)),Ar.c (D.int IntKind.i64 (2:Int))])) (T.need ((0:Int)≤x.1) (T.need (x.1<(ga.length:Int)) (T.need ((0:Int)≤100∧(100:Int)<9223372036854775808) (T.br (!M.small (ga.getD x.1.toNat (0:Int)) (100:Int)) (T.ret (Sum.inr [Ar.c (D.int IntKind.i64 (0:Int)),Ar.c (D.int IntKind.i64 (2:Int))])) (T.ret (Sum.inl (IntKind.i64.wrap (x.1+1),PUnit.unit)))))))))) (T.br (decide ((de.length:Int)>(8:Int))) (T.ret (Sum.inr [Ar.c (D.int IntKind.i64 (0:Int)),Ar.c (D.int IntKind.i64 (8:Int))])) (T.loop (Int×PUnit) ((0:Int),PUnit.unit) fun(x_1:Int×PUnit)=>T.br (decide (x_1.1<(de.length:Int))) (T.need (Enc.Is eI mo.length (Enc.F eI mo)) (T.need (Enc.Is eI ga.length (Enc.F eI ga)) (T.need (Enc.Is eDm de.length (Enc.F eDm de)) (T.need ((0:Int)≤x_1.1) (T.need (x_1.1<((Enc.list eDm de.length (Enc.F eDm de)).length:Int)) (T.need (List.length (Enc.list eI mo.length (Enc.F eI mo))≤1000000) (T.need (List.length (Enc.list eDm de.length (Enc.F eDm de))≤1000000) (T.need (∀(d:Dem),d∈Enc.list eDm de.length (Enc.F eDm de)→ByteArray.size (Dem.nm d)≤1000000∧List.length (Dem.co d)≤1000000) (T.br (M.demErr (List.length (Enc.list eI mo.length (Enc.F eI mo))) (Enc.list eDm de.length (Enc.F eDm de)) x_1.1.toNat != (0:Int)) (T.ret (Sum.inr (Sum.inr [Ar.c (D.int IntKind.i64 x_1.1),Ar.c (D.int IntKind.i64 (M.demErr (List.length (Enc.list eI mo.length (Enc.F eI mo))) (Enc.list eDm de.length (Enc.F eDm de)) x_1.1.toNat))]))) (T.ret (Sum.inl (IntKind.i64.wrap (x_1.1+1),PUnit.unit)))))))))))) (T.ret (Sum.inr (Sum.inr [Ar.c (D.int IntKind.i64 (0:Int)),Ar.c (D.int IntKind.i64 (0:Int))]))))))))
theorem t44(q_mo:Bool)(mo:List Int)(q_ga:Bool)(ga:List Int)(q_de:Bool)(de:List Dem):runFnX Try.prog G0 (lookS [v45,v127,v128]) (fun f=>[(7,[.slot 5 (.int .i64)],none),(14,[.slot 6 (.int .i64)],none)]) [] 1 60 4 44 Try.f44 [.agg [.sl q_mo mo.length 1 (eI.F mo),.sl q_ga ga.length 1 (eI.F ga),.sl q_de de.length 3 (eDm.F de)]] =
  tr44 q_mo mo q_ga ga q_de de:=by kernel_rfl
theorem w44(qm:Bool)(mo:List Int)(qg:Bool)(ga:List Int)(qd:Bool)(de:List Dem)(h1:mo.length≤1000000)(h3:de.length≤1000000)(hn:∀d,d∈de→d.nm.size≤1000000∧d.co.length≤1000000) :
  (tr44 qm mo qg ga qd de).wp (fun rs=>rsEqv rs (resP (M.checkProg mo ga de))):=by
 unfold tr44
 simp only[Enc.list_F]
 have er:∀e:Int,e≠0→M.progErr0 mo ga de=e→rsEqv [rI 0,rI e] (resP (M.checkProg mo ga de)):=by
  intro e he h
  have hb:(e != 0)=true:=bne_iff_ne.2 he
  have:M.checkProg mo ga de=(0,e):=by unfold M.checkProg;rw[h,hb];rfl
  rw[this];exact rsEqv_refl _
 refine wp_br (fun hb=>er 10 (by decide) ?_) (fun hb=>?_)
 ·have hb:(mo.length:Int)=0:=by simpa using hb
  unfold M.progErr0;rw[decide_eq_false (by omega)];rfl
 have hm0:(mo.length:Int)>0:=by
  have:(mo.length:Int)≠0:=by simpa using hb
  omega
 refine wp_br (fun hb=>er 10 (by decide) ?_) (fun hb=>?_)
 ·have hb:((ga.length:Int)==(mo.length:Int))=false:=by simpa using hb
  unfold M.progErr0;rw[decide_eq_true hm0,hb];rfl
 have hg:((ga.length:Int)==(mo.length:Int))=true:=by simpa using hb
 have hgl:ga.length=mo.length:=by(have:(ga.length:Int)=mo.length:=by simpa using hb);omega
 refine wp_br (fun hb=>er 8 (by decide) ?_) (fun hb=>?_)
 ·have hb:(mo.length:Int)>4:=of_decide_eq_true hb
  unfold M.progErr0;rw[decide_eq_true hm0,hg,decide_eq_false (by omega)];rfl
 have hm4:(mo.length:Int)≤4:=by(have:¬(mo.length:Int)>4:=of_decide_eq_false hb);omega
 have pe:∀bm bg:Bool,mo.any (badF 119)=bm→ga.any (badF 120)=bg→M.progErr0 mo ga de=M.first [M.unl (!bm) 2,M.unl (!bg) 2,M.unl (decide ((de.length:Int)≤8)) 8]:=by
  intro bm bg h h'
  unfold M.progErr0;rw[decide_eq_true hm0,hg,decide_eq_true hm4,h,h']
  show M.first [0,0,_,_,_]=_
  rw[first_of,if_pos rfl,first_of,if_pos rfl]
 refine range_wp (n:=mo.length) (fun k _=>mo.any (badF 119)=(mo.drop k).any (badF 119)∧ga.any (badF 120)=(ga.drop k).any (badF 120)) ⟨by rw[List.drop_zero],by rw[List.drop_zero]⟩ ?_
 rintro k u hk ⟨hI,hJ⟩
 refine wp_br (fun hb=>?_) (fun hb=>?_)
 ·have hlt:=lt_of_dec hb
  have s1:=any_step (is:=badF 119) hlt
  have s2:=any_step (is:=badF 120) (show k<ga.length by omega)
  refine⟨by show(0:Int)≤k;omega,by show(k:Int)<mo.length;omega,wp_br (fun hx=>er 2 (by decide) ?_) (fun hx=>?_)⟩
  ·have hx:badF 119 (mo.getD k 0)=true:=hx
   rw[hx]at s1
   rw[pe true _ (hI.trans s1) rfl];rfl
  have hx:badF 119 (mo.getD k 0)=false:=hx
  rw[hx]at s1
  refine⟨by show(0:Int)≤k;omega,by show(k:Int)<ga.length;omega,by decide,wp_br (fun hy=>er 2 (by decide) ?_) (fun hy=>?_)⟩
  ·have hy:badF 120 (ga.getD k 0)=true:=hy
   rw[hy]at s2
   rw[pe _ true rfl (hJ.trans s2)]
   cases mo.any (badF 119) <;>rfl
  have hy:badF 120 (ga.getD k 0)=false:=hy
  rw[hy]at s2
  exact⟨hlt,wrap_succ (by omega),hI.trans s1,hJ.trans s2⟩
 ·have hge:=ge_of_dec hb
  obtain rfl:k=mo.length:=by omega
  rw[List.drop_length]at hI
  rw[←hgl,List.drop_length]at hJ
  have pe:=pe false false hI hJ
  refine wp_br (fun hb=>er 8 (by decide) ?_) (fun hb=>?_)
  ·have hb:(de.length:Int)>8:=of_decide_eq_true hb
   rw[pe,decide_eq_false (by omega)];rfl
  have hd8:¬(de.length:Int)>8:=of_decide_eq_false hb
  have pe:M.progErr0 mo ga de=0:=by rw[pe,decide_eq_true (by omega)];rfl
  have hchk:M.checkProg mo ga de=M.badFrom (M.demErr mo.length de) (de.length-0) 0:=by unfold M.checkProg;rw[pe];rfl
  rw[hchk]
  refine range_wp (n:=de.length) (fun k _=>M.badFrom (M.demErr mo.length de) (de.length-0) 0=M.badFrom (M.demErr mo.length de) (de.length-k) k) rfl ?_
  rintro k u hk hI
  rw[hI]
  refine wp_br (fun hb=>?_) (fun hb=>?_)
  ·have hlt:=lt_of_dec hb
   refine⟨Enc.is_F _ _ _,Enc.is_F _ _ _,Enc.is_F _ _ _,by show(0:Int)≤k;omega,by show(k:Int)<de.length;omega,h1,h3,hn,wp_br (fun hx=>?_) (fun hx=>?_)⟩
   ·have hx:(M.demErr mo.length de k != 0)=true:=hx
    rw[bad_hit hlt (bne_iff_ne.1 hx)];exact rsEqv_refl _
   ·have hx:(M.demErr mo.length de k != 0)=false:=hx
    exact⟨hlt,wrap_succ (by omega),bad_next hlt (by simpa using hx)⟩
  ·have hge:=ge_of_dec hb
   obtain rfl:k=de.length:=by omega
   rw[Nat.sub_self];exact rsEqv_refl _
def dom44:DomF
 |[.agg [.sl _ n_mo st_mo F_mo,.sl _ n_ga st_ga F_ga,.sl _ n_de st_de F_de]]=>(match Nat.beq st_mo 1&&Nat.beq st_ga 1&&Nat.beq st_de 3 with
  |true=>some ([eI.Is n_mo F_mo,eI.Is n_ga F_ga,eDm.Is n_de F_de,(eI.list n_mo F_mo).length≤1000000,(eDm.list n_de F_de).length≤1000000,∀d,d∈(eDm.list n_de F_de)→d.nm.size≤1000000∧d.co.length≤1000000],resP (M.checkProg (eI.list n_mo F_mo) (eI.list n_ga F_ga) (eDm.list n_de F_de)))
  |_=>none)
 |_=>none
def v44:Nat×Sm:=(44,fokSm dom44)
theorem C44:FOK Try.prog G0 gw 44 dom44:=by
 intro ags p r hd hp κ w xs hw hl hG hx
 unfold dom44 at hd
 split at hd
 ·rename_i q_mo n_mo st_mo F_mo q_ga n_ga st_ga F_ga q_de n_de st_de F_de
  split at hd
  ·rename_i hst
   simp only[Bool.and_eq_true]at hst
   obtain⟨⟨g1,g2⟩,g3⟩:=hst
   have g1:=Nat.eq_of_beq_eq_true g1
   have g2:=Nat.eq_of_beq_eq_true g2
   have g3:=Nat.eq_of_beq_eq_true g3
   subst g1 g2 g3
   simp only[Option.some.injEq,Prod.mk.injEq]at hd
   obtain⟨rfl,rfl⟩:=hd
   obtain⟨hI_mo,hI_ga,hI_de,hp⟩:=hp
   have heq:agsEqv [.agg [.sl q_mo n_mo 1 F_mo,.sl q_ga n_ga 1 F_ga,.sl q_de n_de 3 F_de]] [.agg [.sl q_mo (eI.list n_mo F_mo).length 1 (eI.F (eI.list n_mo F_mo)),.sl q_ga (eI.list n_ga F_ga).length 1 (eI.F (eI.list n_ga F_ga)),.sl q_de (eDm.list n_de F_de).length 3 (eDm.F (eDm.list n_de F_de))]]:=⟨⟨eI.to id hI_mo,eI.to id hI_ga,eDm.to id hI_de,trivial⟩,trivial⟩
   have len_mo:(eI.list n_mo F_mo).length=n_mo:=eI.list_len
   have len_ga:(eI.list n_ga F_ga).length=n_ga:=eI.list_len
   have len_de:(eDm.list n_de F_de).length=n_de:=eDm.list_len
   generalize eI.list n_mo F_mo=mo at *
   generalize eI.list n_ga F_ga=ga at *
   generalize eDm.list n_de F_de=de at *
   subst len_mo len_ga len_de
   exact fokX_fin mixed gw_stable (sl:=[v45,v127,v128]) ⟨S45,S127,S128,trivial⟩ Try.func44 hw hl hG hx heq rfl (t44 _ _ _ _ _ _) (w44 _ _ _ _ _ _ hp.1 hp.2.1 hp.2.2.1)
  ·cases hd
 ·cases hd
theorem S44:SumOK Try.prog G0 gw 44 (fokSm dom44):=fok_sum Try.func44 rfl C44
end Go.Pl
end
section
set_option maxRecDepth 100000
namespace Go.Pl
open Go.V Go.Proofs
abbrev dmG(d:Dem):Nat→Nat→D:=fun(i j:Nat)=>List.getD [D.str d.nm,D.sl true (List.length d.co) 1 (Enc.F eI d.co),D.int IntKind.i64 d.am] (i*3+j) D.nilp
theorem dm_push{d:Dem}:(∀j,j<eDm.st→(dmG d 0 j).eqv (eDm.enc d j))∧eDm.rd (dmG d 0)=d:=by
 refine⟨fun j hj=>?_,?_⟩
 ·have hj:j<3:=hj
  match j,hj with
  |0,_=>exact D.eqv_refl _
  |1,_=>exact⟨(fun e=>by cases e),rfl,fun _=>rfl,fun i j hi hj=>D.eqv_refl _⟩
  |2,_=>exact D.eqv_refl _
 ·show(⟨d.nm,eI.list d.co.length (eI.F d.co),d.am⟩:Dem)=d
  rw[Enc.list_F]
end Go.Pl
end
section
set_option maxRecDepth 100000
namespace Go.Pl
open Go.V Go.Proofs
theorem _root_.Go.V.Enc.toz{α:Type}(E:Enc α){q:Bool}{n s:Nat}{F:Nat→Nat→D}(h:(Nat.beq s E.st||Nat.beq n 0)=true)(hI:E.Is n F):(D.sl q n s F).eqv (.sl q (E.list n F).length E.st (E.F (E.list n F))):=by
 rcases Bool.or_eq_true _ _ ▸ h with h|h
 ·have h:=Nat.eq_of_beq_eq_true h
  subst h
  exact E.to id hI
 ·have h:=Nat.eq_of_beq_eq_true h
  subst h
  exact⟨id,rfl,fun h=>absurd h (Nat.lt_irrefl 0),fun i j hi _=>absurd hi (Nat.not_lt_zero i)⟩
abbrev cD(l:List Dem):List Dem:=Enc.list eDm (List.length l) (Enc.F eDm l)
abbrev iD(l:List Dem):Prop:=Enc.Is eDm (List.length l) (Enc.F eDm l)
namespace M
end M
end Go.Pl
end
section
set_option maxRecDepth 100000
namespace Go.Pl
open Go.V Go.Proofs
namespace M
end M
def tr19(q_mo:Bool)(mo:List Int)(q_ga:Bool)(ga:List Int)(q_de:Bool)(de:List Dem):T (List Ar):=
  T.need (iI mo) (T.need (iI ga) (T.need (iD de) (T.need (List.length (cI mo)≤1000000) (T.need (List.length (cD de)≤1000000) (T.need (∀(d:Dem),d∈cD de→ByteArray.size (Dem.nm d)≤1000000∧List.length (Dem.co d)≤1000000) (T.ret [Ar.c (D.int IntKind.i64 (Prod.snd (M.checkProg (cI mo) (cI ga) (cD de))))]))))))
theorem t19(q_mo:Bool)(mo:List Int)(q_ga:Bool)(ga:List Int)(q_de:Bool)(de:List Dem):runFnX Try.prog G0 (lookS [v44]) (fun _=>[]) [] 1 60 4 19 Try.f19 [.agg [.sl q_mo mo.length 1 (eI.F mo),.sl q_ga ga.length 1 (eI.F ga),.sl q_de de.length 3 (eDm.F de)]] =
  tr19 q_mo mo q_ga ga q_de de:=by kernel_rfl
theorem w19(qm:Bool)(mo:List Int)(qg:Bool)(ga:List Int)(qd:Bool)(de:List Dem)(h1:mo.length≤1000000)(h3:de.length≤1000000)(hn:∀d,d∈de→d.nm.size≤1000000∧d.co.length≤1000000) :
  (tr19 qm mo qg ga qd de).wp (fun rs=>rsEqv rs [rI (M.checkProg mo ga de).2]):=by
 unfold tr19
 simp only[cI,cD,iI,iD,Enc.list_F]
 exact⟨Enc.is_F _ _ _,Enc.is_F _ _ _,Enc.is_F _ _ _,h1,h3,hn,rsEqv_refl _⟩
def dom19:DomF
 |[.agg [.sl _ n_mo st_mo F_mo,.sl _ n_ga st_ga F_ga,.sl _ n_de st_de F_de]]=>(match Nat.beq st_mo 1&&Nat.beq st_ga 1&&Nat.beq st_de 3 with
  |true=>some ([eI.Is n_mo F_mo,eI.Is n_ga F_ga,eDm.Is n_de F_de,(eI.list n_mo F_mo).length≤1000000,(eDm.list n_de F_de).length≤1000000,∀d,d∈(eDm.list n_de F_de)→d.nm.size≤1000000∧d.co.length≤1000000],[rI (M.checkProg (eI.list n_mo F_mo) (eI.list n_ga F_ga) (eDm.list n_de F_de)).2])
  |_=>none)
 |_=>none
def v19:Nat×Sm:=(19,fokSm dom19)
theorem C19:FOK Try.prog G0 gw 19 dom19:=by
 intro ags p r hd hp κ w xs hw hl hG hx
 unfold dom19 at hd
 split at hd
 ·rename_i q_mo n_mo st_mo F_mo q_ga n_ga st_ga F_ga q_de n_de st_de F_de
  split at hd
  ·rename_i hst
   simp only[Bool.and_eq_true]at hst
   obtain⟨⟨g1,g2⟩,g3⟩:=hst
   have g1:=Nat.eq_of_beq_eq_true g1
   have g2:=Nat.eq_of_beq_eq_true g2
   have g3:=Nat.eq_of_beq_eq_true g3
   subst g1 g2 g3
   simp only[Option.some.injEq,Prod.mk.injEq]at hd
   obtain⟨rfl,rfl⟩:=hd
   obtain⟨hI_mo,hI_ga,hI_de,hp⟩:=hp
   have heq:agsEqv [.agg [.sl q_mo n_mo 1 F_mo,.sl q_ga n_ga 1 F_ga,.sl q_de n_de 3 F_de]] [.agg [.sl q_mo (eI.list n_mo F_mo).length 1 (eI.F (eI.list n_mo F_mo)),.sl q_ga (eI.list n_ga F_ga).length 1 (eI.F (eI.list n_ga F_ga)),.sl q_de (eDm.list n_de F_de).length 3 (eDm.F (eDm.list n_de F_de))]]:=⟨⟨eI.to id hI_mo,eI.to id hI_ga,eDm.to id hI_de,trivial⟩,trivial⟩
   have len_mo:(eI.list n_mo F_mo).length=n_mo:=eI.list_len
   have len_ga:(eI.list n_ga F_ga).length=n_ga:=eI.list_len
   have len_de:(eDm.list n_de F_de).length=n_de:=eDm.list_len
   generalize eI.list n_mo F_mo=mo at *
   generalize eI.list n_ga F_ga=ga at *
   generalize eDm.list n_de F_de=de at *
   subst len_mo len_ga len_de
   exact fokX_fin mixed gw_stable (sl:=[v44]) ⟨S44,trivial⟩ Try.func19 hw hl hG hx heq rfl (t19 _ _ _ _ _ _) (w19 _ _ _ _ _ _ hp.1 hp.2.1 hp.2.2.1)
  ·cases hd
 ·cases hd
theorem S19:SumOK Try.prog G0 gw 19 (fokSm dom19):=fok_sum Try.func19 rfl C19
end Go.Pl
end
section
set_option maxRecDepth 100000
namespace Go.Pl
open Go.V Go.Proofs
namespace M
end M
abbrev inQ(n:Int):Nat→Nat→D:=fun(i j:Nat)=>List.getD [D.int IntKind.i64 n] (i*1+j) D.nilp
theorem inQ_push{n:Int}:(∀j,j<eI.st→(inQ n 0 j).eqv (eI.enc n j))∧eI.rd (inQ n 0)=n:=by
 refine⟨fun j hj=>?_,rfl⟩
 obtain rfl:j=0:=Nat.lt_one_iff.1 hj
 exact D.eqv_refl _
end Go.Pl
end
section
set_option maxRecDepth 100000
namespace Go.Pl
open Go.V Go.Proofs
theorem first_zero:∀{l:List Int},M.first l=0→∀x,x∈l→x=0:=by
 intro l
 induction l with
 |nil=>intro _ x hx;cases hx
 |cons a l ih=>
  intro h x hx
  rw[first_of]at h
  split at h
  ·rename_i ha
   rcases List.mem_cons.1 hx with rfl|hx
   ·exact ha
   ·exact ih h x hx
  ·rename_i ha;exact absurd h ha
theorem any_none{α:Type}{l:List α}{p:α→Bool}(h:(!l.any p)=true):∀x,x∈l→p x=false:=by
 intro x hx
 rw[Bool.not_eq_true']at h
 cases hp:p x with
 |false=>rfl
 |true=>rw[List.any_eq_true.2 ⟨x,hx,hp⟩]at h;cases h
theorem within_of{f:Nat}{x lo hi:Int}(h:badF f x=false)(hf:badF f x= !M.within x lo hi):lo≤x∧x≤hi:=by
 rw[hf]at h
 exact within_iff.1 (by simpa using h)
structure RightP(mo ga:List Int)(de:List Dem):Prop where
 n0:0<mo.length
 n4:mo.length≤4
 lg:ga.length=mo.length
 ld:de.length≤8
 rm:∀x,x∈mo→0≤x∧x≤1000000
 rg:∀x,x∈ga→ -100≤x∧x≤100
 rd:∀d,d∈de→d.co.length=mo.length∧(∀x,x∈d.co→ -100≤x∧x≤100)∧ -1000000≤d.am∧d.am≤1000000
theorem prog_right{mo ga:List Int}{de:List Dem}(h:(M.checkProg mo ga de).2=0):RightP mo ga de:=by
 unfold M.checkProg at h
 cases hb:(M.progErr0 mo ga de != 0)with
 |true=>
  rw[hb]at h
  have h:M.progErr0 mo ga de=0:=h
  rw[h]at hb;cases hb
 |false=>
  rw[hb]at h
  have h0:M.progErr0 mo ga de=0:=by simpa using hb
  unfold M.progErr0 at h0
  have z:=first_zero h0
  have a1:=unl_zero (by decide) (z _ (List.mem_cons_self ..))
  have a2:=unl_zero (by decide) (z _ (List.mem_cons_of_mem _ (List.mem_cons_self ..)))
  have a3:=unl_zero (by decide) (z _ (List.mem_cons_of_mem _ (List.mem_cons_of_mem _ (List.mem_cons_self ..))))
  have a4:=unl_zero (by decide) (z _ (List.mem_cons_of_mem _ (List.mem_cons_of_mem _ (List.mem_cons_of_mem _ (List.mem_cons_self ..)))))
  have a5:=unl_zero (by decide) (z _ (List.mem_cons_of_mem _ (List.mem_cons_of_mem _ (List.mem_cons_of_mem _ (List.mem_cons_of_mem _ (List.mem_cons_self ..))))))
  have a2:=of_decide_eq_true a2
  have a5:=of_decide_eq_true a5
  cases hm:decide ((mo.length:Int)>0)with
  |false=>rw[hm]at a1;cases a1
  |true=>
   rw[hm]at a1
   have hm:=of_decide_eq_true hm
   have a1:((ga.length:Int)==(mo.length:Int))=true:=a1
   have a1:(ga.length:Int)=mo.length:=by simpa using a1
   refine⟨by omega,by omega,by omega,by omega,fun x hx=>within_of (any_none a3 x hx) rfl,fun x hx=>within_of (any_none a4 x hx) rfl,fun d hd=>?_⟩
   obtain⟨k,hk,rfl⟩:=List.getElem_of_mem hd
   have hz:=bad_zero _ _ h k (Nat.zero_le _) (by omega)
   unfold M.demErr at hz
   have e:de.getD k dfD=de[k]:=by rw[List.getD_eq_getElem?_getD,List.getElem?_eq_getElem hk];rfl
   rw[e]at hz
   have y:=first_zero hz
   have b3:=unl_zero (by decide) (y _ (List.mem_cons_of_mem _ (List.mem_cons_of_mem _ (List.mem_cons_self ..))))
   have b4:=unl_zero (by decide) (y _ (List.mem_cons_of_mem _ (List.mem_cons_of_mem _ (List.mem_cons_of_mem _ (List.mem_cons_self ..)))))
   have b3:((de[k].co.length:Int)=mo.length):=by simpa using b3
   cases hc:de[k].co.any (badF 124)with
   |true=>rw[hc]at b4;cases b4
   |false=>
    rw[hc]at b4
    have b4:M.small de[k].am 1000000=true:=b4
    have b4: -1000000≤de[k].am∧de[k].am≤1000000:=within_iff.1 b4
    exact⟨by omega,fun x hx=>within_of (any_none (by rw[hc];rfl) x hx) rfl,b4.1,b4.2⟩
def dotK(u v:List Int)(k:Nat):Int:=(List.range k).foldl (fun a i=>a+u.getD i 0*v.getD i 0) 0
theorem mul_bnd{x y A B:Int}(hA:0≤A)(hx: -A≤x∧x≤A)(hy: -B≤y∧y≤B): -(A*B)≤x*y∧x*y≤A*B:=by
 have hn:(x*y).natAbs≤A.natAbs*B.natAbs:=by
  rw[Int.natAbs_mul]
  exact Nat.mul_le_mul (by omega) (by omega)
 have hAB:((A.natAbs*B.natAbs:Nat):Int)=A*B:=by
  rw[Int.natCast_mul,Int.natAbs_of_nonneg hA,Int.natAbs_of_nonneg (show 0≤B by omega)]
 have h2:((x*y).natAbs:Int)≤((A.natAbs*B.natAbs:Nat):Int):=by exact_mod_cast hn
 rw[hAB]at h2
 generalize x*y=z at *
 omega
theorem dot_bnd{u v:List Int}{A B:Int}(hA:0≤A)(hB:0≤B)(hu:∀x,x∈u→ -A≤x∧x≤A)(hv:∀x,x∈v→ -B≤x∧x≤B)(hAB:A*B≤1000000000000000000):∀k,k≤8 →
  (List.range k).foldl (fun a i=>IntKind.i64.wrap (a+IntKind.i64.wrap (u.getD i 0*v.getD i 0))) 0=dotK u v k∧ -(k*(A*B))≤dotK u v k∧dotK u v k≤k*(A*B):=by
 have g:∀{l:List Int} {C:Int},0≤C→(∀x,x∈l→ -C≤x∧x≤C)→∀i, -C≤l.getD i 0∧l.getD i 0≤C:=by
  intro l C hC h i
  rcases Nat.lt_or_ge i l.length with hi|hi
  ·exact h _ (getD_mem hi)
  ·rw[List.getD_eq_getElem?_getD,List.getElem?_eq_none hi];simp only[Option.getD_none];omega
 intro k
 induction k with
 |zero=>intro _;exact⟨rfl,by simp[dotK],by simp[dotK]⟩
 |succ k ih=>
  intro hk
  obtain⟨i1,i2,i3⟩:=ih (by omega)
  obtain⟨p1,p2⟩:=mul_bnd hA (g hA hu k) (g hB hv k)
  have e:dotK u v (k+1)=dotK u v k+u.getD k 0*v.getD k 0:=by unfold dotK;rw[foldl_succ]
  rw[foldl_succ,i1]
  generalize hAB':A*B=AB at *
  have hk1:((k+1:Nat):Int)*AB=(k:Int)*AB+AB:=by rw[Int.natCast_succ,Int.add_mul,Int.one_mul]
  have hkb:(k:Int)*AB≤8*1000000000000000000:=by
   have h0:0≤AB:=by rw[←hAB'];exact Int.mul_nonneg hA hB
   calc (k:Int)*AB≤8*AB:=Int.mul_le_mul_of_nonneg_right (by omega) h0
    _≤_:=by omega
  generalize hz:u.getD k 0*v.getD k 0=z at *
  generalize hkA:(k:Int)*AB=kA at *
  rw[wrap_id (n:=z) (by omega) (by omega),wrap_id (by omega) (by omega),e,hk1]
  exact⟨rfl,by omega,by omega⟩
theorem dot_exact{u v:List Int}{A B:Int}(hA:0≤A)(hB:0≤B)(hu:∀x,x∈u→ -A≤x∧x≤A)(hv:∀x,x∈v→ -B≤x∧x≤B)(hAB:A*B≤1000000000000000000)(hl:u.length≤8) :
  M.dot u v=dotK u v u.length∧ -(u.length*(A*B))≤M.dot u v∧M.dot u v≤u.length*(A*B):=by
 obtain⟨h1,h2,h3⟩:=dot_bnd hA hB hu hv hAB u.length hl
 have:M.dot u v=dotK u v u.length:=h1
 rw[this]
 exact⟨rfl,h2,h3⟩
namespace M
end M
end Go.Pl
end
section
set_option maxRecDepth 100000
namespace Go.Pl
open Go.V Go.Proofs
theorem put_row{α:Type}(E:Enc α){l:List α}{i:Nat}{b:α}{F':Nat→Nat→D}(hi:i<l.length)(hF:∀k,k≠i→F' k=E.F l k)(hj:∀j,j<E.st→(F' i j).eqv (E.enc b j))(hr:E.rd (F' i)=b):E.Is l.length F'∧E.list l.length F'=l.set i b:=by
 constructor
 ·intro k j hk hj'
  by_cases h:k=i
  ·subst h
   rw[hr];exact hj j hj'
  ·rw[hF k h]
   have:E.rd (E.F l k)=l.getD k E.dflt:=E.law _
   rw[this];exact D.eqv_refl _
 ·apply List.ext_getElem
  ·simp[Enc.list]
  ·intro k h1 h2
   simp only[Enc.list,List.getElem_map,List.getElem_range,List.getElem_set]
   by_cases h:i=k
   ·subst h
    rw[if_pos rfl];exact hr
   ·rw[if_neg h,hF k (fun e=>h e.symm)]
    have:E.rd (E.F l k)=l.getD k E.dflt:=E.law _
    rw[this]
    have hk:k<l.length:=by simpa using h2
    simp[List.getD_eq_getElem?_getD,List.getElem?_eq_getElem hk]
theorem putF_ne{i j n:Nat}{ds:List D}{F:Nat→Nat→D}:∀k,k≠i→putF i j n ds F k=F k:=by
 intro k h
 funext j'
 unfold putF
 have:Nat.beq k i=false:=by
  cases hb:Nat.beq k i with
  |false=>rfl
  |true=>exact absurd (Nat.eq_of_beq_eq_true hb) h
 rw[this];rfl
structure Stead(sc:List Scale)(nw d:Int):Prop where
 sys:(M.checkSys sc nw).2=0
 draw:M.drawErr d=0
 same:∀k,k<sc.length→((M.flows sc d).getD k dfR).lo=((M.flows sc d).getD k dfR).hi
 pos:∀k,k<sc.length→0<((M.flows sc d).getD k dfR).lo
 over:M.over sc (M.flows sc d)<0
structure AgOk(n:Nat)(ag:List Rg):Prop where
 len:ag.length=n
 row:∀k,k<n→0≤(ag.getD k dfR).lo∧(ag.getD k dfR).lo≤(ag.getD k dfR).hi∧(ag.getD k dfR).hi≤100000
end Go.Pl
end
section
set_option maxRecDepth 100000
namespace Go.Pl
open Go.V Go.Proofs
structure Plane where
 co:List Int
 am:Int
 de:Int
 dr:Int
def encPn(p:Plane):Nat→D
 |0=>.sl true p.co.length 1 (eI.F p.co)
 |1=>dI p.am
 |2=>dI p.de
 |_=>dI p.dr
def rdPn(F:Nat→D):Plane:=⟨rdL F 0,rdI F 1,rdI F 2,rdI F 3⟩
theorem rdPn_enc(p:Plane):rdPn (encPn p)=p:=by
 have h:eI.list p.co.length (eI.F p.co)=p.co:=Enc.list_F eI p.co
 simp only[rdPn,encPn,rdI,rdL,h]
def ePn:Enc Plane:=⟨4,encPn,rdPn,⟨[],0,0,0⟩,rdPn_enc⟩
end Go.Pl
end
section
set_option maxRecDepth 100000
namespace Go.Pl
open Go.V Go.Proofs
namespace M
def unitL(n i:Nat)(v:Int):List Int:=(List.replicate n 0).set i v
def pDe(more:List Int)(de:List Dem)(i:Nat):Plane:=⟨(de.getD i dfD).co++more,(de.getD i dfD).am,i, -1⟩
def pMo(n:Nat)(mo:List Int)(i:Nat):Plane:=⟨unitL n i 1,mo.getD i 0, -1,i⟩
def pNn(n i:Nat):Plane:=⟨unitL n i (-1),0, -1, -1⟩
def planes(mo:List Int)(de:List Dem)(more:List Int):List Plane:=(List.range de.length).map (pDe more de)++((List.range mo.length).map (pMo (mo.length+more.length) mo)++(List.range (mo.length+more.length)).map (pNn (mo.length+more.length)))
end M
abbrev pnG(n:Nat)(F:Nat→Nat→D)(a b c:Int):Nat→Nat→D:=fun(i j:Nat)=>List.getD [D.sl true n 1 F,dI a,dI b,dI c] (i*4+j) D.nilp
theorem pn_push{n:Nat}{F:Nat→Nat→D}{co:List Int}{a b c:Int}(h:eI.Is n F)(hl:eI.list n F=co) :
  (∀j,j<ePn.st→(pnG n F a b c 0 j).eqv (ePn.enc ⟨co,a,b,c⟩ j))∧ePn.rd (pnG n F a b c 0)=⟨co,a,b,c⟩:=by
 subst hl
 constructor
 ·intro j hj
  have hj:j<4:=hj
  match j,hj with
  |0,_=>exact eI.to (fun _=>rfl) h
  |1,_=>exact D.eqv_refl _
  |2,_=>exact D.eqv_refl _
  |3,_=>exact D.eqv_refl _
 ·rfl
theorem unit_row{n i m:Nat}{v:Int}(hi:i<n)(hm:m=1):eI.Is n (putF i 0 m [dI v] (fun(_ j:Nat)=>List.getD [dI 0] j D.nilp))∧eI.list n (putF i 0 m [dI v] (fun(_ j:Nat)=>List.getD [dI 0] j D.nilp))=M.unitL n i v:=by
 subst hm
 have at_:putF i 0 1 [dI v] (fun(_ j:Nat)=>List.getD [dI 0] j D.nilp) i 0=dI v:=by
  unfold putF
  rw[show Nat.beq i i=true from Nat.beq_refl i,Bool.true_and]
  rfl
 have ne:∀k,k≠i→putF i 0 1 [dI v] (fun(_ j:Nat)=>List.getD [dI 0] j D.nilp) k=fun j=>List.getD [dI 0] j D.nilp:=fun k hk=>putF_ne k hk
 constructor
 ·intro k j hk hj
  obtain rfl:j=0:=by have:j<1:=hj;omega
  by_cases h:k=i
  ·subst h
   show D.eqv _ (dI (rdI _ 0))
   unfold rdI
   rw[at_];exact D.eqv_refl _
  ·rw[ne k h];exact D.eqv_refl _
 ·apply List.ext_getElem
  ·simp[Enc.list,M.unitL]
  ·intro k h1 h2
   simp only[Enc.list,List.getElem_map,List.getElem_range,M.unitL,List.getElem_set,List.getElem_replicate]
   by_cases h:i=k
   ·subst h
    rw[if_pos rfl]
    show rdI _ 0=v
    unfold rdI
    rw[at_]
   ·rw[if_neg h,ne k (by omega)];rfl
end Go.Pl
end
section
set_option maxRecDepth 100000
namespace Go.Pl
open Go.V Go.Proofs
def dom153:DomF
 |[.agg [.sl _ n_mo st_mo F_mo,.sl _ n_ga st_ga F_ga,.sl _ n_de st_de F_de],.c (.sl _ n_more st_more F_more)]=>(match (Nat.beq st_mo 1||Nat.beq n_mo 0)&&(Nat.beq st_ga 1||Nat.beq n_ga 0)&&(Nat.beq st_de 3||Nat.beq n_de 0)&&(Nat.beq st_more 1||Nat.beq n_more 0)with
  |true=>some ([eI.Is n_mo F_mo,eI.Is n_ga F_ga,eDm.Is n_de F_de,eI.Is n_more F_more,(eDm.list n_de F_de).length≤1000,(eI.list n_mo F_mo).length≤1000,(eI.list n_more F_more).length≤1000,0<(eI.list n_mo F_mo).length+(eI.list n_more F_more).length,∀d,d∈(eDm.list n_de F_de)→d.co.length=(eI.list n_mo F_mo).length],[.c (.sl false (M.planes (eI.list n_mo F_mo) (eDm.list n_de F_de) (eI.list n_more F_more)).length 4 (ePn.F (M.planes (eI.list n_mo F_mo) (eDm.list n_de F_de) (eI.list n_more F_more))))])
  |_=>none)
 |_=>none
def v153:Nat×Sm:=(153,fokSm dom153)
end Go.Pl
end
section
set_option maxRecDepth 100000
namespace Go.Pl
open Go.V Go.Proofs
def k153_1(mo:List Int)(more:List Int):=(mo.length:Int)+(more.length:Int)
def k153_2(y:Int×List Plane×PUnit)(de:List Dem)(more:List Int):=joinF (List.length (Prod.fst (Prod.snd y))) (Enc.F ePn (Prod.fst (Prod.snd y))) fun(i j:Nat)=>List.getD [D.sl true (List.length (List.append (Enc.list eI (List.length (Dem.co (List.getD de (Int.toNat (Prod.fst y)) dfD))) (Enc.F eI (Dem.co (List.getD de (Int.toNat (Prod.fst y)) dfD)))) (Enc.list eI (List.length more) (Enc.F eI more)))) (1:Nat) (Enc.F eI (List.append (Enc.list eI (List.length (Dem.co (List.getD de (Int.toNat (Prod.fst y)) dfD))) (Enc.F eI (Dem.co (List.getD de (Int.toNat (Prod.fst y)) dfD)))) (Enc.list eI (List.length more) (Enc.F eI more)))),D.int IntKind.i64 (Dem.am (List.getD de (Int.toNat (Prod.fst y)) dfD)),D.int IntKind.i64 (Prod.fst y),D.int IntKind.i64 (-1:Int)] (i*(4:Nat)+j) D.nilp
def k153_3(mo:List Int)(more:List Int):=Int.toNat (IntKind.i64.wrap (k153_1 mo more))≤Int.toNat (IntKind.i64.wrap (k153_1 mo more))
def tr153(q_mo:Bool)(mo:List Int)(q_ga:Bool)(ga:List Int)(q_de:Bool)(de:List Dem)(q_more:Bool)(more:List Int):T (List Ar):=
  T.loop2 (Int×PUnit×PUnit) (Int×List Plane×PUnit) (Sum.inl ((0:Int),PUnit.unit,PUnit.unit)) (fun(x:Int×PUnit×PUnit)=>T.br (decide (x.1<(de.length:Int))) (T.need ((0:Int)≤x.1) (T.need (x.1<(de.length:Int)) (T.need (Enc.Is eI (List.length (Dem.co (de.getD x.1.toNat dfD))) (Enc.F eI (Dem.co (de.getD x.1.toNat dfD)))) (T.need (Enc.Is eI more.length (Enc.F eI more)) (T.need ((0:Nat)<List.length (Dem.co (de.getD x.1.toNat dfD))+more.length) (T.need (List.length (Dem.co (de.getD x.1.toNat dfD))+more.length≤1000000) (T.need ((1:Nat)≤1000000) (T.need (Enc.Is ePn (1:Nat) (joinF (0:Nat) (fun(_ _:Nat)=>D.nilp) fun(i j:Nat)=>List.getD [D.sl true (List.length (List.append (Enc.list eI (List.length (Dem.co (de.getD x.1.toNat dfD))) (Enc.F eI (Dem.co (de.getD x.1.toNat dfD)))) (Enc.list eI more.length (Enc.F eI more)))) (1:Nat) (Enc.F eI (List.append (Enc.list eI (List.length (Dem.co (de.getD x.1.toNat dfD))) (Enc.F eI (Dem.co (de.getD x.1.toNat dfD)))) (Enc.list eI more.length (Enc.F eI more)))),D.int IntKind.i64 (Dem.am (de.getD x.1.toNat dfD)),D.int IntKind.i64 x.1,D.int IntKind.i64 (-1:Int)] (i*4+j) D.nilp)) (T.need ((1:Nat)≤1) (T.ret (Sum.inl (Sum.inr (IntKind.i64.wrap (x.1+1),Enc.list ePn (1:Nat) (joinF (0:Nat) (fun(_ _:Nat)=>D.nilp) fun(i j:Nat)=>List.getD [D.sl true (List.length (List.append (Enc.list eI (List.length (Dem.co (de.getD x.1.toNat dfD))) (Enc.F eI (Dem.co (de.getD x.1.toNat dfD)))) (Enc.list eI more.length (Enc.F eI more)))) (1:Nat) (Enc.F eI (List.append (Enc.list eI (List.length (Dem.co (de.getD x.1.toNat dfD))) (Enc.F eI (Dem.co (de.getD x.1.toNat dfD)))) (Enc.list eI more.length (Enc.F eI more)))),D.int IntKind.i64 (Dem.am (de.getD x.1.toNat dfD)),D.int IntKind.i64 x.1,D.int IntKind.i64 (-1:Int)] (i*4+j) D.nilp),PUnit.unit))))))))))))) (T.loop2 (Int×PUnit×PUnit) (Int×List Plane×PUnit) (Sum.inl ((0:Int),PUnit.unit,PUnit.unit)) (fun(x_1:Int×PUnit×PUnit)=>T.br (decide (x_1.1<(mo.length:Int))) (T.need ((0:Int)≤x_1.1) (T.need (x_1.1<(mo.length:Int)) (T.need ((0:Int)≤IntKind.i64.wrap (k153_1 mo more)) (T.need (IntKind.i64.wrap (k153_1 mo more)≤IntKind.i64.wrap (k153_1 mo more)) (T.need (IntKind.i64.wrap (k153_1 mo more)≤1000000) (T.need ((0:Int)≤x_1.1) (T.need (x_1.1<(Nat.cast (R:=Int) (Int.toNat (IntKind.i64.wrap (k153_1 mo more))))) (T.need (Int.toNat x_1.1<Int.toNat (IntKind.i64.wrap (k153_1 mo more))) (T.need (k153_3 mo more) (T.need ((1:Nat)≤1000000) (T.need (Enc.Is ePn (1:Nat) (joinF (0:Nat) (fun(_ _:Nat)=>D.nilp) fun(i j:Nat)=>List.getD [D.sl true (Int.toNat (IntKind.i64.wrap (k153_1 mo more))) (1:Nat) (putF x_1.1.toNat (0:Nat) (1:Nat) [D.int IntKind.i64 (1:Int)] fun(x j:Nat)=>List.getD [D.int IntKind.i64 (0:Int)] j D.nilp),D.int IntKind.i64 (mo.getD x_1.1.toNat (0:Int)),D.int IntKind.i64 (-1:Int),D.int IntKind.i64 x_1.1] (i*4+j) D.nilp)) (T.need ((1:Nat)≤1) (T.ret (Sum.inl (Sum.inr (IntKind.i64.wrap (x_1.1+1),Enc.list ePn (1:Nat) (joinF (0:Nat) (fun(_ _:Nat)=>D.nilp) fun(i j:Nat)=>List.getD [D.sl true (Int.toNat (IntKind.i64.wrap (k153_1 mo more))) (1:Nat) (putF x_1.1.toNat (0:Nat) (1:Nat) [D.int IntKind.i64 (1:Int)] fun(x j:Nat)=>List.getD [D.int IntKind.i64 (0:Int)] j D.nilp),D.int IntKind.i64 (mo.getD x_1.1.toNat (0:Int)),D.int IntKind.i64 (-1:Int),D.int IntKind.i64 x_1.1] (i*4+j) D.nilp),PUnit.unit)))))))))))))))) (T.loop2 (Int×PUnit×PUnit) (Int×List Plane×PUnit) (Sum.inl ((0:Int),PUnit.unit,PUnit.unit)) (fun(x_2:Int×PUnit×PUnit)=>T.br (decide (x_2.1<IntKind.i64.wrap (k153_1 mo more))) (T.need ((0:Int)≤IntKind.i64.wrap (k153_1 mo more)) (T.need (IntKind.i64.wrap (k153_1 mo more)≤IntKind.i64.wrap (k153_1 mo more)) (T.need (IntKind.i64.wrap (k153_1 mo more)≤1000000) (T.need ((0:Int)≤x_2.1) (T.need (x_2.1<(Nat.cast (R:=Int) (Int.toNat (IntKind.i64.wrap (k153_1 mo more))))) (T.need (Int.toNat x_2.1<Int.toNat (IntKind.i64.wrap (k153_1 mo more))) (T.need (k153_3 mo more) (T.need ((1:Nat)≤1000000) (T.need (Enc.Is ePn (1:Nat) (joinF (0:Nat) (fun(_ _:Nat)=>D.nilp) fun(i j:Nat)=>List.getD [D.sl true (Int.toNat (IntKind.i64.wrap (k153_1 mo more))) (1:Nat) (putF x_2.1.toNat (0:Nat) (1:Nat) [D.int IntKind.i64 (-1:Int)] fun(x j:Nat)=>List.getD [D.int IntKind.i64 (0:Int)] j D.nilp),D.int IntKind.i64 (0:Int),D.int IntKind.i64 (-1:Int),D.int IntKind.i64 (-1:Int)] (i*4+j) D.nilp)) (T.need ((1:Nat)≤1) (T.ret (Sum.inl (Sum.inr (IntKind.i64.wrap (x_2.1+1),Enc.list ePn (1:Nat) (joinF (0:Nat) (fun(_ _:Nat)=>D.nilp) fun(i j:Nat)=>List.getD [D.sl true (Int.toNat (IntKind.i64.wrap (k153_1 mo more))) (1:Nat) (putF x_2.1.toNat (0:Nat) (1:Nat) [D.int IntKind.i64 (-1:Int)] fun(x j:Nat)=>List.getD [D.int IntKind.i64 (0:Int)] j D.nilp),D.int IntKind.i64 (0:Int),D.int IntKind.i64 (-1:Int),D.int IntKind.i64 (-1:Int)] (i*4+j) D.nilp),PUnit.unit)))))))))))))) (T.ret (Sum.inr (Sum.inr (Sum.inr [Ar.c (D.sl false (0:Nat) (0:Nat) (fun(_ _:Nat)=>D.nilp))]))))) fun(y:Int×List Plane×PUnit)=>T.br (decide (y.1<IntKind.i64.wrap (k153_1 mo more))) (T.need ((0:Int)≤IntKind.i64.wrap (k153_1 mo more)) (T.need (IntKind.i64.wrap (k153_1 mo more)≤IntKind.i64.wrap (k153_1 mo more)) (T.need (IntKind.i64.wrap (k153_1 mo more)≤1000000) (T.need ((0:Int)≤y.1) (T.need (y.1<(Nat.cast (R:=Int) (Int.toNat (IntKind.i64.wrap (k153_1 mo more))))) (T.need (Int.toNat y.1<Int.toNat (IntKind.i64.wrap (k153_1 mo more))) (T.need (k153_3 mo more) (T.need (List.length (y.2.1)+1≤1000000) (T.need (List.length (y.2.1)≤List.length (y.2.1)) (T.need (Enc.Is ePn (List.length (y.2.1)+1) (joinF (List.length (y.2.1)) (Enc.F ePn (y.2.1)) fun(i j:Nat)=>List.getD [D.sl true (Int.toNat (IntKind.i64.wrap (k153_1 mo more))) (1:Nat) (putF y.1.toNat (0:Nat) (1:Nat) [D.int IntKind.i64 (-1:Int)] fun(x j:Nat)=>List.getD [D.int IntKind.i64 (0:Int)] j D.nilp),D.int IntKind.i64 (0:Int),D.int IntKind.i64 (-1:Int),D.int IntKind.i64 (-1:Int)] (i*4+j) D.nilp)) (T.need (List.length (y.2.1)+1≤List.length (y.2.1)+1) (T.ret (Sum.inl (Sum.inr (IntKind.i64.wrap (y.1+1),Enc.list ePn (List.length (y.2.1)+1) (joinF (List.length (y.2.1)) (Enc.F ePn (y.2.1)) fun(i j:Nat)=>List.getD [D.sl true (Int.toNat (IntKind.i64.wrap (k153_1 mo more))) (1:Nat) (putF y.1.toNat (0:Nat) (1:Nat) [D.int IntKind.i64 (-1:Int)] fun(x j:Nat)=>List.getD [D.int IntKind.i64 (0:Int)] j D.nilp),D.int IntKind.i64 (0:Int),D.int IntKind.i64 (-1:Int),D.int IntKind.i64 (-1:Int)] (i*4+j) D.nilp),PUnit.unit))))))))))))))) (T.need (List.length (y.2.1)≤List.length (y.2.1)) (T.ret (Sum.inr (Sum.inr (Sum.inr [Ar.c (D.sl true (List.length (y.2.1)) (4:Nat) (Enc.F ePn (y.2.1)))]))))))) fun(y:Int×List Plane×PUnit)=>T.br (decide (y.1<(mo.length:Int))) (T.need ((0:Int)≤y.1) (T.need (y.1<(mo.length:Int)) (T.need ((0:Int)≤IntKind.i64.wrap (k153_1 mo more)) (T.need (IntKind.i64.wrap (k153_1 mo more)≤IntKind.i64.wrap (k153_1 mo more)) (T.need (IntKind.i64.wrap (k153_1 mo more)≤1000000) (T.need ((0:Int)≤y.1) (T.need (y.1<(Nat.cast (R:=Int) (Int.toNat (IntKind.i64.wrap (k153_1 mo more))))) (T.need (Int.toNat y.1<Int.toNat (IntKind.i64.wrap (k153_1 mo more))) (T.need (k153_3 mo more) (T.need (List.length (y.2.1)+1≤1000000) (T.need (List.length (y.2.1)≤List.length (y.2.1)) (T.need (Enc.Is ePn (List.length (y.2.1)+1) (joinF (List.length (y.2.1)) (Enc.F ePn (y.2.1)) fun(i j:Nat)=>List.getD [D.sl true (Int.toNat (IntKind.i64.wrap (k153_1 mo more))) (1:Nat) (putF y.1.toNat (0:Nat) (1:Nat) [D.int IntKind.i64 (1:Int)] fun(x j:Nat)=>List.getD [D.int IntKind.i64 (0:Int)] j D.nilp),D.int IntKind.i64 (mo.getD y.1.toNat (0:Int)),D.int IntKind.i64 (-1:Int),D.int IntKind.i64 y.1] (i*4+j) D.nilp)) (T.need (List.length (y.2.1)+1≤List.length (y.2.1)+1) (T.ret (Sum.inl (Sum.inr (IntKind.i64.wrap (y.1+1),Enc.list ePn (List.length (y.2.1)+1) (joinF (List.length (y.2.1)) (Enc.F ePn (y.2.1)) fun(i j:Nat)=>List.getD [D.sl true (Int.toNat (IntKind.i64.wrap (k153_1 mo more))) (1:Nat) (putF y.1.toNat (0:Nat) (1:Nat) [D.int IntKind.i64 (1:Int)] fun(x j:Nat)=>List.getD [D.int IntKind.i64 (0:Int)] j D.nilp),D.int IntKind.i64 (mo.getD y.1.toNat (0:Int)),D.int IntKind.i64 (-1:Int),D.int IntKind.i64 y.1] (i*4+j) D.nilp),PUnit.unit))))))))))))))))) (T.need (Enc.Is ePn (List.length (y.2.1)) (Enc.F ePn (y.2.1))) (T.need (List.length (y.2.1)≤List.length (y.2.1)) (T.loop (Int×List Plane×PUnit) ((0:Int),Enc.list ePn (List.length (y.2.1)) (Enc.F ePn (y.2.1)),PUnit.unit) fun(x_1:Int×List Plane×PUnit)=>T.br (decide (x_1.1<IntKind.i64.wrap (k153_1 mo more))) (T.need ((0:Int)≤IntKind.i64.wrap (k153_1 mo more)) (T.need (IntKind.i64.wrap (k153_1 mo more)≤IntKind.i64.wrap (k153_1 mo more)) (T.need (IntKind.i64.wrap (k153_1 mo more)≤1000000) (T.need ((0:Int)≤x_1.1) (T.need (x_1.1<(Nat.cast (R:=Int) (Int.toNat (IntKind.i64.wrap (k153_1 mo more))))) (T.need (Int.toNat x_1.1<Int.toNat (IntKind.i64.wrap (k153_1 mo more))) (T.need (k153_3 mo more) (T.need (List.length (x_1.2.1)+1≤1000000) (T.need (List.length (x_1.2.1)≤List.length (x_1.2.1)) (T.need (Enc.Is ePn (List.length (x_1.2.1)+1) (joinF (List.length (x_1.2.1)) (Enc.F ePn (x_1.2.1)) fun(i j:Nat)=>List.getD [D.sl true (Int.toNat (IntKind.i64.wrap (k153_1 mo more))) (1:Nat) (putF x_1.1.toNat (0:Nat) (1:Nat) [D.int IntKind.i64 (-1:Int)] fun(x j:Nat)=>List.getD [D.int IntKind.i64 (0:Int)] j D.nilp),D.int IntKind.i64 (0:Int),D.int IntKind.i64 (-1:Int),D.int IntKind.i64 (-1:Int)] (i*4+j) D.nilp)) (T.need (List.length (x_1.2.1)+1≤List.length (x_1.2.1)+1) (T.ret (Sum.inl (IntKind.i64.wrap (x_1.1+1),Enc.list ePn (List.length (x_1.2.1)+1) (joinF (List.length (x_1.2.1)) (Enc.F ePn (x_1.2.1)) fun(i j:Nat)=>List.getD [D.sl true (Int.toNat (IntKind.i64.wrap (k153_1 mo more))) (1:Nat) (putF x_1.1.toNat (0:Nat) (1:Nat) [D.int IntKind.i64 (-1:Int)] fun(x j:Nat)=>List.getD [D.int IntKind.i64 (0:Int)] j D.nilp),D.int IntKind.i64 (0:Int),D.int IntKind.i64 (-1:Int),D.int IntKind.i64 (-1:Int)] (i*4+j) D.nilp),PUnit.unit)))))))))))))) (T.need (List.length (x_1.2.1)≤List.length (x_1.2.1)) (T.ret (Sum.inr (Sum.inr (Sum.inr [Ar.c (D.sl true (List.length (x_1.2.1)) (4:Nat) (Enc.F ePn (x_1.2.1)))])))))))))) fun(y:Int×List Plane×PUnit)=>T.br (decide (y.1<(de.length:Int))) (T.need ((0:Int)≤y.1) (T.need (y.1<(de.length:Int)) (T.need (Enc.Is eI (List.length (Dem.co (de.getD y.1.toNat dfD))) (Enc.F eI (Dem.co (de.getD y.1.toNat dfD)))) (T.need (Enc.Is eI more.length (Enc.F eI more)) (T.need ((0:Nat)<List.length (Dem.co (de.getD y.1.toNat dfD))+more.length) (T.need (List.length (Dem.co (de.getD y.1.toNat dfD))+more.length≤1000000) (T.need (List.length (y.2.1)+1≤1000000) (T.need (List.length (y.2.1)≤List.length (y.2.1)) (T.need (Enc.Is ePn (List.length (y.2.1)+1) (k153_2 y de more)) (T.need (List.length (y.2.1)+1≤List.length (y.2.1)+1) (T.ret (Sum.inl (Sum.inr (IntKind.i64.wrap (y.1+1),Enc.list ePn (List.length (y.2.1)+1) (k153_2 y de more),PUnit.unit)))))))))))))) (T.need (Enc.Is ePn (List.length (y.2.1)) (Enc.F ePn (y.2.1))) (T.need (List.length (y.2.1)≤List.length (y.2.1)) (T.loop (Int×List Plane×PUnit) ((0:Int),Enc.list ePn (List.length (y.2.1)) (Enc.F ePn (y.2.1)),PUnit.unit) fun(x:Int×List Plane×PUnit)=>T.br (decide (x.1<(mo.length:Int))) (T.need ((0:Int)≤x.1) (T.need (x.1<(mo.length:Int)) (T.need ((0:Int)≤IntKind.i64.wrap (k153_1 mo more)) (T.need (IntKind.i64.wrap (k153_1 mo more)≤IntKind.i64.wrap (k153_1 mo more)) (T.need (IntKind.i64.wrap (k153_1 mo more)≤1000000) (T.need ((0:Int)≤x.1) (T.need (x.1<(Nat.cast (R:=Int) (Int.toNat (IntKind.i64.wrap (k153_1 mo more))))) (T.need (Int.toNat x.1<Int.toNat (IntKind.i64.wrap (k153_1 mo more))) (T.need (k153_3 mo more) (T.need (List.length (x.2.1)+1≤1000000) (T.need (List.length (x.2.1)≤List.length (x.2.1)) (T.need (Enc.Is ePn (List.length (x.2.1)+1) (joinF (List.length (x.2.1)) (Enc.F ePn (x.2.1)) fun(i j:Nat)=>List.getD [D.sl true (Int.toNat (IntKind.i64.wrap (k153_1 mo more))) (1:Nat) (putF x.1.toNat (0:Nat) (1:Nat) [D.int IntKind.i64 (1:Int)] fun(x j:Nat)=>List.getD [D.int IntKind.i64 (0:Int)] j D.nilp),D.int IntKind.i64 (mo.getD x.1.toNat (0:Int)),D.int IntKind.i64 (-1:Int),D.int IntKind.i64 x.1] (i*4+j) D.nilp)) (T.need (List.length (x.2.1)+1≤List.length (x.2.1)+1) (T.ret (Sum.inl (IntKind.i64.wrap (x.1+1),Enc.list ePn (List.length (x.2.1)+1) (joinF (List.length (x.2.1)) (Enc.F ePn (x.2.1)) fun(i j:Nat)=>List.getD [D.sl true (Int.toNat (IntKind.i64.wrap (k153_1 mo more))) (1:Nat) (putF x.1.toNat (0:Nat) (1:Nat) [D.int IntKind.i64 (1:Int)] fun(x j:Nat)=>List.getD [D.int IntKind.i64 (0:Int)] j D.nilp),D.int IntKind.i64 (mo.getD x.1.toNat (0:Int)),D.int IntKind.i64 (-1:Int),D.int IntKind.i64 x.1] (i*4+j) D.nilp),PUnit.unit)))))))))))))))) (T.need (Enc.Is ePn (List.length (x.2.1)) (Enc.F ePn (x.2.1))) (T.need (List.length (x.2.1)≤List.length (x.2.1)) (T.loop (Int×List Plane×PUnit) ((0:Int),Enc.list ePn (List.length (x.2.1)) (Enc.F ePn (x.2.1)),PUnit.unit) fun(x_1:Int×List Plane×PUnit)=>T.br (decide (x_1.1<IntKind.i64.wrap (k153_1 mo more))) (T.need ((0:Int)≤IntKind.i64.wrap (k153_1 mo more)) (T.need (IntKind.i64.wrap (k153_1 mo more)≤IntKind.i64.wrap (k153_1 mo more)) (T.need (IntKind.i64.wrap (k153_1 mo more)≤1000000) (T.need ((0:Int)≤x_1.1) (T.need (x_1.1<(Nat.cast (R:=Int) (Int.toNat (IntKind.i64.wrap (k153_1 mo more))))) (T.need (Int.toNat x_1.1<Int.toNat (IntKind.i64.wrap (k153_1 mo more))) (T.need (k153_3 mo more) (T.need (List.length (x_1.2.1)+1≤1000000) (T.need (List.length (x_1.2.1)≤List.length (x_1.2.1)) (T.need (Enc.Is ePn (List.length (x_1.2.1)+1) (joinF (List.length (x_1.2.1)) (Enc.F ePn (x_1.2.1)) fun(i j:Nat)=>List.getD [D.sl true (Int.toNat (IntKind.i64.wrap (k153_1 mo more))) (1:Nat) (putF x_1.1.toNat (0:Nat) (1:Nat) [D.int IntKind.i64 (-1:Int)] fun(x j:Nat)=>List.getD [D.int IntKind.i64 (0:Int)] j D.nilp),D.int IntKind.i64 (0:Int),D.int IntKind.i64 (-1:Int),D.int IntKind.i64 (-1:Int)] (i*4+j) D.nilp)) (T.need (List.length (x_1.2.1)+1≤List.length (x_1.2.1)+1) (T.ret (Sum.inl (IntKind.i64.wrap (x_1.1+1),Enc.list ePn (List.length (x_1.2.1)+1) (joinF (List.length (x_1.2.1)) (Enc.F ePn (x_1.2.1)) fun(i j:Nat)=>List.getD [D.sl true (Int.toNat (IntKind.i64.wrap (k153_1 mo more))) (1:Nat) (putF x_1.1.toNat (0:Nat) (1:Nat) [D.int IntKind.i64 (-1:Int)] fun(x j:Nat)=>List.getD [D.int IntKind.i64 (0:Int)] j D.nilp),D.int IntKind.i64 (0:Int),D.int IntKind.i64 (-1:Int),D.int IntKind.i64 (-1:Int)] (i*4+j) D.nilp),PUnit.unit)))))))))))))) (T.need (List.length (x_1.2.1)≤List.length (x_1.2.1)) (T.ret (Sum.inr (Sum.inr (Sum.inr [Ar.c (D.sl true (List.length (x_1.2.1)) (4:Nat) (Enc.F ePn (x_1.2.1)))])))))))))))
theorem t153(q_mo:Bool)(mo:List Int)(q_ga:Bool)(ga:List Int)(q_de:Bool)(de:List Dem)(q_more:Bool)(more:List Int):runFnX Try.prog G0 (lookS [v182]) (fun f=>match f with|153=>[(5,[.slot 25 (.int .i64),.slot 7 .nsl],some [.slot 25 (.int .i64),.slot 7 (.rowE 206 ePn)]),(10,[.slot 47 (.int .i64),.slot 7 .nsl],some [.slot 47 (.int .i64),.slot 7 (.rowE 206 ePn)]),(15,[.slot 63 (.int .i64),.slot 7 .nsl],some [.slot 63 (.int .i64),.slot 7 (.rowE 206 ePn)])]|_=>[]) [181] 1 60 4 153 Try.f153 [.agg [.sl q_mo mo.length 1 (eI.F mo),.sl q_ga ga.length 1 (eI.F ga),.sl q_de de.length 3 (eDm.F de)],.c (.sl q_more more.length 1 (eI.F more))] =
  tr153 q_mo mo q_ga ga q_de de q_more more:=by kernel_rfl
theorem w153(q_mo:Bool)(mo:List Int)(q_ga:Bool)(ga:List Int)(q_de:Bool)(de:List Dem)(q_more:Bool)(more:List Int)(h1:de.length≤1000)(h2:mo.length≤1000)(h3:more.length≤1000)(h0:0<mo.length+more.length)(hco:∀d,d∈de→d.co.length=mo.length) :
  (tr153 q_mo mo q_ga ga q_de de q_more more).wp (fun rs=>rsEqv rs [.c (.sl false (M.planes mo de more).length 4 (ePn.F (M.planes mo de more)))]):=by
 unfold tr153
 have hN:IntKind.i64.wrap ((mo.length:Int)+(more.length:Int))=((mo.length+more.length:Nat):Int):=by rw[wrap_id (by omega) (by omega)];omega
 simp only[k153_1,k153_2,k153_3,hN,Int.toNat_natCast,Enc.list_F]
 refine⟨fun z=>match z with|.inl x=>x.1=((0:Nat):Int)∧([]:List Plane)=[]|.inr y=>∃k:Nat,k≤de.length∧y.1=(k:Int)∧y.2.1=([]:List Plane)++(List.range k).map (M.pDe more de),fun z=>match z with|.inl x=>de.length+1|.inr y=>de.length-y.1.toNat,⟨rfl,rfl⟩,?_,?_⟩
 ·rintro ⟨y,u1,u2⟩ ⟨hy,hpre⟩
  simp only at hy
  have hpre:([]:List Plane)=[]:=hpre
  have hy:y=((0:Nat):Int):=hy
  subst hy
  have hw:IntKind.i64.wrap (((0:Nat):Int)+1)=((0+1:Nat):Int):=wrap_succ (by omega)
  refine⟨fun hb=>?_,fun hb=>?_⟩
  ·have hlt:=lt_of_dec hb
   have hcl:(de.getD 0 dfD).co.length=mo.length:=hco _ (getD_mem hlt)
   have hla:(List.append (de.getD 0 dfD).co more).length=mo.length+more.length:=by show((de.getD 0 dfD).co++more).length=_;rw[List.length_append,hcl]
   obtain⟨e1,e2⟩:=pn_push (a:=(de.getD 0 dfD).am) (b:=((0:Nat):Int)) (c:= -1) (Enc.is_F eI (List.append (de.getD 0 dfD).co more) _) (Enc.list_F eI (List.append (de.getD 0 dfD).co more))
   obtain⟨o1,o2⟩:=push_one ePn (F:=fun _ _=>.nilp) e1 e2
   have o3:[(M.pDe more de) 0]=([]:List Plane)++(List.range (0+1)).map (M.pDe more de):=by rw[hpre];rfl
   dsimp only[Int.toNat_natCast,hw]
   simp only[Int.toNat_natCast,hw,Enc.list_F]
   repeat (refine⟨(by first|exact Enc.is_F _ _ _|exact Nat.le_refl _|assumption|exact o1|omega),?_⟩)
   have mu:de.length-((0+1:Nat):Int).toNat<de.length+1:=by omega
   exact⟨⟨0+1,hlt,rfl,o2.trans o3⟩,mu⟩
  ·have hge:=ge_of_dec hb
   have hz:de.length=0:=by omega
   have hzA:=hz
   refine⟨fun z=>match z with|.inl x=>x.1=((0:Nat):Int)∧((List.range de.length).map (M.pDe more de))=[]|.inr y=>∃k:Nat,k≤mo.length∧y.1=(k:Int)∧y.2.1=((List.range de.length).map (M.pDe more de))++(List.range k).map (M.pMo (mo.length+more.length) mo),fun z=>match z with|.inl x=>mo.length+1|.inr y=>mo.length-y.1.toNat,⟨rfl,by rw[hzA];rfl⟩,?_,?_⟩
   ·rintro ⟨y,u1,u2⟩ ⟨hy,hpre⟩
    simp only at hy
    have hpre:((List.range de.length).map (M.pDe more de))=[]:=hpre
    have hy:y=((0:Nat):Int):=hy
    subst hy
    have hw:IntKind.i64.wrap (((0:Nat):Int)+1)=((0+1:Nat):Int):=wrap_succ (by omega)
    refine⟨fun hb=>?_,fun hb=>?_⟩
    ·have hlt:=lt_of_dec hb
     obtain⟨r1,r2⟩:=unit_row (n:=mo.length+more.length) (i:=0) (m:=1) (v:=1) (by omega) rfl
     obtain⟨e1,e2⟩:=pn_push (a:=mo.getD 0 0) (b:= -1) (c:=((0:Nat):Int)) r1 r2
     obtain⟨o1,o2⟩:=push_one ePn (F:=fun _ _=>.nilp) e1 e2
     have o3:[(M.pMo (mo.length+more.length) mo) 0]=((List.range de.length).map (M.pDe more de))++(List.range (0+1)).map (M.pMo (mo.length+more.length) mo):=by rw[hpre];rfl
     dsimp only[Int.toNat_natCast,hw]
     simp only[Int.toNat_natCast,hw,Enc.list_F]
     repeat (refine⟨(by first|exact Enc.is_F _ _ _|exact Nat.le_refl _|assumption|exact o1|omega),?_⟩)
     have mu:mo.length-((0+1:Nat):Int).toNat<mo.length+1:=by omega
     exact⟨⟨0+1,hlt,rfl,o2.trans o3⟩,mu⟩
    ·have hge:=ge_of_dec hb
     have hz:mo.length=0:=by omega
     have hz1:=hz
     have hpre0:((List.range de.length).map (M.pDe more de))=[]:=by rw[hzA];rfl
     refine⟨fun z=>match z with|.inl x=>x.1=((0:Nat):Int)∧(((List.range de.length).map (M.pDe more de))++(List.range mo.length).map (M.pMo (mo.length+more.length) mo))=[]|.inr y=>∃k:Nat,k≤(mo.length+more.length)∧y.1=(k:Int)∧y.2.1=(((List.range de.length).map (M.pDe more de))++(List.range mo.length).map (M.pMo (mo.length+more.length) mo))++(List.range k).map (M.pNn (mo.length+more.length)),fun z=>match z with|.inl x=>(mo.length+more.length)+1|.inr y=>(mo.length+more.length)-y.1.toNat,⟨rfl,by rw[hpre0,hz1];rfl⟩,?_,?_⟩
     ·rintro ⟨y,u1,u2⟩ ⟨hy,hpre⟩
      simp only at hy
      have hpre:(((List.range de.length).map (M.pDe more de))++(List.range mo.length).map (M.pMo (mo.length+more.length) mo))=[]:=hpre
      have hy:y=((0:Nat):Int):=hy
      subst hy
      have hw:IntKind.i64.wrap (((0:Nat):Int)+1)=((0+1:Nat):Int):=wrap_succ (by omega)
      refine⟨fun hb=>?_,fun hb=>?_⟩
      ·have hlt:=lt_of_dec hb
       obtain⟨r1,r2⟩:=unit_row (n:=mo.length+more.length) (i:=0) (m:=1) (v:= -1) (by omega) rfl
       obtain⟨e1,e2⟩:=pn_push (a:=0) (b:= -1) (c:= -1) r1 r2
       obtain⟨o1,o2⟩:=push_one ePn (F:=fun _ _=>.nilp) e1 e2
       have o3:[(M.pNn (mo.length+more.length)) 0]=(((List.range de.length).map (M.pDe more de))++(List.range mo.length).map (M.pMo (mo.length+more.length) mo))++(List.range (0+1)).map (M.pNn (mo.length+more.length)):=by rw[hpre];rfl
       dsimp only[Int.toNat_natCast,hw]
       simp only[Int.toNat_natCast,hw,Enc.list_F]
       repeat (refine⟨(by first|exact Enc.is_F _ _ _|exact Nat.le_refl _|assumption|exact o1|omega),?_⟩)
       have mu:(mo.length+more.length)-((0+1:Nat):Int).toNat<(mo.length+more.length)+1:=by omega
       exact⟨⟨0+1,hlt,rfl,o2.trans o3⟩,mu⟩
      ·have hge:=ge_of_dec hb
       have hz:(mo.length+more.length)=0:=by omega
       exact absurd h0 (by omega)
     ·rintro ⟨y,acc,u⟩ ⟨k,hk,hy,ha⟩
      simp only at hy ha
      subst hy
      have hal:acc.length≤5000:=by rw[ha];simp only[List.length_append,List.length_map,List.length_range,List.length_nil];omega
      have hw:IntKind.i64.wrap ((k:Int)+1)=((k+1:Nat):Int):=wrap_succ (by omega)
      refine⟨fun hb=>?_,fun hb=>?_⟩
      ·have hlt:=lt_of_dec hb
       obtain⟨r1,r2⟩:=unit_row (n:=mo.length+more.length) (i:=k) (m:=1) (v:= -1) (by omega) rfl
       obtain⟨e1,e2⟩:=pn_push (a:=0) (b:= -1) (c:= -1) r1 r2
       obtain⟨o1,o2⟩:=ePn.push (l:=acc) e1 e2
       have o3:acc++ [(M.pNn (mo.length+more.length)) k]=(((List.range de.length).map (M.pDe more de))++(List.range mo.length).map (M.pMo (mo.length+more.length) mo))++(List.range (k+1)).map (M.pNn (mo.length+more.length)):=by rw[ha,List.range_succ,List.map_append,List.append_assoc];rfl
       dsimp only[Int.toNat_natCast,hw]
       simp only[Int.toNat_natCast,hw,Enc.list_F]
       repeat (refine⟨(by first|exact Enc.is_F _ _ _|exact Nat.le_refl _|assumption|exact o1|omega),?_⟩)
       have mu:(mo.length+more.length)-((k+1:Nat):Int).toNat<(mo.length+more.length)-((k:Nat):Int).toNat:=by omega
       exact⟨⟨k+1,hlt,rfl,o2.trans o3⟩,mu⟩
      ·have hge:=ge_of_dec hb
       obtain rfl:k=(mo.length+more.length):=by omega
       repeat (refine⟨(by first|exact Enc.is_F _ _ _|exact Nat.le_refl _|assumption|exact o1|omega),?_⟩)
       have hfin:acc=M.planes mo de more:=by rw[ha];unfold M.planes;rw[List.append_assoc]
       subst hfin
       exact⟨⟨(fun e=>by cases e),rfl,fun _=>rfl,fun i j _ _=>D.eqv_refl _⟩,trivial⟩
   ·rintro ⟨y,acc,u⟩ ⟨k,hk,hy,ha⟩
    simp only at hy ha
    subst hy
    have hal:acc.length≤5000:=by rw[ha];simp only[List.length_append,List.length_map,List.length_range,List.length_nil];omega
    have hw:IntKind.i64.wrap ((k:Int)+1)=((k+1:Nat):Int):=wrap_succ (by omega)
    refine⟨fun hb=>?_,fun hb=>?_⟩
    ·have hlt:=lt_of_dec hb
     obtain⟨r1,r2⟩:=unit_row (n:=mo.length+more.length) (i:=k) (m:=1) (v:=1) (by omega) rfl
     obtain⟨e1,e2⟩:=pn_push (a:=mo.getD k 0) (b:= -1) (c:=((k:Nat):Int)) r1 r2
     obtain⟨o1,o2⟩:=ePn.push (l:=acc) e1 e2
     have o3:acc++ [(M.pMo (mo.length+more.length) mo) k]=((List.range de.length).map (M.pDe more de))++(List.range (k+1)).map (M.pMo (mo.length+more.length) mo):=by rw[ha,List.range_succ,List.map_append,List.append_assoc];rfl
     dsimp only[Int.toNat_natCast,hw]
     simp only[Int.toNat_natCast,hw,Enc.list_F]
     repeat (refine⟨(by first|exact Enc.is_F _ _ _|exact Nat.le_refl _|assumption|exact o1|omega),?_⟩)
     have mu:mo.length-((k+1:Nat):Int).toNat<mo.length-((k:Nat):Int).toNat:=by omega
     exact⟨⟨k+1,hlt,rfl,o2.trans o3⟩,mu⟩
    ·have hge:=ge_of_dec hb
     obtain rfl:k=mo.length:=by omega
     repeat (refine⟨(by first|exact Enc.is_F _ _ _|exact Nat.le_refl _|assumption|exact o1|omega),?_⟩)
     refine⟨fun y=>∃k:Nat,k≤(mo.length+more.length)∧y.1=(k:Int)∧y.2.1=(((List.range de.length).map (M.pDe more de))++(List.range mo.length).map (M.pMo (mo.length+more.length) mo))++(List.range k).map (M.pNn (mo.length+more.length)),fun y=>(mo.length+more.length)-y.1.toNat,⟨0,Nat.zero_le _,rfl,by simp only[List.range_zero,List.map_nil,List.append_nil];exact ha⟩,?_⟩
     rintro ⟨y,acc,u⟩ ⟨k,hk,hy,ha⟩
     simp only at hy ha
     subst hy
     have hal:acc.length≤5000:=by rw[ha];simp only[List.length_append,List.length_map,List.length_range,List.length_nil];omega
     have hw:IntKind.i64.wrap ((k:Int)+1)=((k+1:Nat):Int):=wrap_succ (by omega)
     refine⟨fun hb=>?_,fun hb=>?_⟩
     ·have hlt:=lt_of_dec hb
      obtain⟨r1,r2⟩:=unit_row (n:=mo.length+more.length) (i:=k) (m:=1) (v:= -1) (by omega) rfl
      obtain⟨e1,e2⟩:=pn_push (a:=0) (b:= -1) (c:= -1) r1 r2
      obtain⟨o1,o2⟩:=ePn.push (l:=acc) e1 e2
      have o3:acc++ [(M.pNn (mo.length+more.length)) k]=(((List.range de.length).map (M.pDe more de))++(List.range mo.length).map (M.pMo (mo.length+more.length) mo))++(List.range (k+1)).map (M.pNn (mo.length+more.length)):=by rw[ha,List.range_succ,List.map_append,List.append_assoc];rfl
      dsimp only[Int.toNat_natCast,hw]
      simp only[Int.toNat_natCast,hw,Enc.list_F]
      repeat (refine⟨(by first|exact Enc.is_F _ _ _|exact Nat.le_refl _|assumption|exact o1|omega),?_⟩)
      have mu:(mo.length+more.length)-((k+1:Nat):Int).toNat<(mo.length+more.length)-((k:Nat):Int).toNat:=by omega
      exact⟨⟨k+1,hlt,rfl,o2.trans o3⟩,mu⟩
     ·have hge:=ge_of_dec hb
      obtain rfl:k=(mo.length+more.length):=by omega
      repeat (refine⟨(by first|exact Enc.is_F _ _ _|exact Nat.le_refl _|assumption|exact o1|omega),?_⟩)
      have hfin:acc=M.planes mo de more:=by rw[ha];unfold M.planes;rw[List.append_assoc]
      subst hfin
      exact⟨⟨(fun e=>by cases e),rfl,fun _=>rfl,fun i j _ _=>D.eqv_refl _⟩,trivial⟩
 ·rintro ⟨y,acc,u⟩ ⟨k,hk,hy,ha⟩
  simp only at hy ha
  subst hy
  have hal:acc.length≤5000:=by rw[ha];simp only[List.length_append,List.length_map,List.length_range,List.length_nil];omega
  have hw:IntKind.i64.wrap ((k:Int)+1)=((k+1:Nat):Int):=wrap_succ (by omega)
  refine⟨fun hb=>?_,fun hb=>?_⟩
  ·have hlt:=lt_of_dec hb
   have hcl:(de.getD k dfD).co.length=mo.length:=hco _ (getD_mem hlt)
   have hla:(List.append (de.getD k dfD).co more).length=mo.length+more.length:=by show((de.getD k dfD).co++more).length=_;rw[List.length_append,hcl]
   obtain⟨e1,e2⟩:=pn_push (a:=(de.getD k dfD).am) (b:=((k:Nat):Int)) (c:= -1) (Enc.is_F eI (List.append (de.getD k dfD).co more) _) (Enc.list_F eI (List.append (de.getD k dfD).co more))
   obtain⟨o1,o2⟩:=ePn.push (l:=acc) e1 e2
   have o3:acc++ [(M.pDe more de) k]=([]:List Plane)++(List.range (k+1)).map (M.pDe more de):=by rw[ha,List.range_succ,List.map_append,List.append_assoc];rfl
   dsimp only[Int.toNat_natCast,hw]
   simp only[Int.toNat_natCast,hw,Enc.list_F]
   repeat (refine⟨(by first|exact Enc.is_F _ _ _|exact Nat.le_refl _|assumption|exact o1|omega),?_⟩)
   have mu:de.length-((k+1:Nat):Int).toNat<de.length-((k:Nat):Int).toNat:=by omega
   exact⟨⟨k+1,hlt,rfl,o2.trans o3⟩,mu⟩
  ·have hge:=ge_of_dec hb
   obtain rfl:k=de.length:=by omega
   repeat (refine⟨(by first|exact Enc.is_F _ _ _|exact Nat.le_refl _|assumption|exact o1|omega),?_⟩)
   refine⟨fun y=>∃k:Nat,k≤mo.length∧y.1=(k:Int)∧y.2.1=((List.range de.length).map (M.pDe more de))++(List.range k).map (M.pMo (mo.length+more.length) mo),fun y=>mo.length-y.1.toNat,⟨0,Nat.zero_le _,rfl,by simp only[List.range_zero,List.map_nil,List.append_nil];rw[ha];rfl⟩,?_⟩
   rintro ⟨y,acc,u⟩ ⟨k,hk,hy,ha⟩
   simp only at hy ha
   subst hy
   have hal:acc.length≤5000:=by rw[ha];simp only[List.length_append,List.length_map,List.length_range,List.length_nil];omega
   have hw:IntKind.i64.wrap ((k:Int)+1)=((k+1:Nat):Int):=wrap_succ (by omega)
   refine⟨fun hb=>?_,fun hb=>?_⟩
   ·have hlt:=lt_of_dec hb
    obtain⟨r1,r2⟩:=unit_row (n:=mo.length+more.length) (i:=k) (m:=1) (v:=1) (by omega) rfl
    obtain⟨e1,e2⟩:=pn_push (a:=mo.getD k 0) (b:= -1) (c:=((k:Nat):Int)) r1 r2
    obtain⟨o1,o2⟩:=ePn.push (l:=acc) e1 e2
    have o3:acc++ [(M.pMo (mo.length+more.length) mo) k]=((List.range de.length).map (M.pDe more de))++(List.range (k+1)).map (M.pMo (mo.length+more.length) mo):=by rw[ha,List.range_succ,List.map_append,List.append_assoc];rfl
    dsimp only[Int.toNat_natCast,hw]
    simp only[Int.toNat_natCast,hw,Enc.list_F]
    repeat (refine⟨(by first|exact Enc.is_F _ _ _|exact Nat.le_refl _|assumption|exact o1|omega),?_⟩)
    have mu:mo.length-((k+1:Nat):Int).toNat<mo.length-((k:Nat):Int).toNat:=by omega
    exact⟨⟨k+1,hlt,rfl,o2.trans o3⟩,mu⟩
   ·have hge:=ge_of_dec hb
    obtain rfl:k=mo.length:=by omega
    repeat (refine⟨(by first|exact Enc.is_F _ _ _|exact Nat.le_refl _|assumption|exact o1|omega),?_⟩)
    refine⟨fun y=>∃k:Nat,k≤(mo.length+more.length)∧y.1=(k:Int)∧y.2.1=(((List.range de.length).map (M.pDe more de))++(List.range mo.length).map (M.pMo (mo.length+more.length) mo))++(List.range k).map (M.pNn (mo.length+more.length)),fun y=>(mo.length+more.length)-y.1.toNat,⟨0,Nat.zero_le _,rfl,by simp only[List.range_zero,List.map_nil,List.append_nil];exact ha⟩,?_⟩
    rintro ⟨y,acc,u⟩ ⟨k,hk,hy,ha⟩
    simp only at hy ha
    subst hy
    have hal:acc.length≤5000:=by rw[ha];simp only[List.length_append,List.length_map,List.length_range,List.length_nil];omega
    have hw:IntKind.i64.wrap ((k:Int)+1)=((k+1:Nat):Int):=wrap_succ (by omega)
    refine⟨fun hb=>?_,fun hb=>?_⟩
    ·have hlt:=lt_of_dec hb
     obtain⟨r1,r2⟩:=unit_row (n:=mo.length+more.length) (i:=k) (m:=1) (v:= -1) (by omega) rfl
     obtain⟨e1,e2⟩:=pn_push (a:=0) (b:= -1) (c:= -1) r1 r2
     obtain⟨o1,o2⟩:=ePn.push (l:=acc) e1 e2
     have o3:acc++ [(M.pNn (mo.length+more.length)) k]=(((List.range de.length).map (M.pDe more de))++(List.range mo.length).map (M.pMo (mo.length+more.length) mo))++(List.range (k+1)).map (M.pNn (mo.length+more.length)):=by rw[ha,List.range_succ,List.map_append,List.append_assoc];rfl
     dsimp only[Int.toNat_natCast,hw]
     simp only[Int.toNat_natCast,hw,Enc.list_F]
     repeat (refine⟨(by first|exact Enc.is_F _ _ _|exact Nat.le_refl _|assumption|exact o1|omega),?_⟩)
     have mu:(mo.length+more.length)-((k+1:Nat):Int).toNat<(mo.length+more.length)-((k:Nat):Int).toNat:=by omega
     exact⟨⟨k+1,hlt,rfl,o2.trans o3⟩,mu⟩
    ·have hge:=ge_of_dec hb
     obtain rfl:k=(mo.length+more.length):=by omega
     repeat (refine⟨(by first|exact Enc.is_F _ _ _|exact Nat.le_refl _|assumption|exact o1|omega),?_⟩)
     have hfin:acc=M.planes mo de more:=by rw[ha];unfold M.planes;rw[List.append_assoc]
     subst hfin
     exact⟨⟨(fun e=>by cases e),rfl,fun _=>rfl,fun i j _ _=>D.eqv_refl _⟩,trivial⟩
theorem C153:FOK Try.prog G0 gw 153 dom153:=by
 intro ags p r hd hp κ w xs hw hl hG hx
 unfold dom153 at hd
 split at hd
 ·rename_i q_mo n_mo st_mo F_mo q_ga n_ga st_ga F_ga q_de n_de st_de F_de q_more n_more st_more F_more
  split at hd
  ·rename_i hst
   simp only[Bool.and_eq_true]at hst
   obtain⟨⟨⟨g1,g2⟩,g3⟩,g4⟩:=hst
   simp only[Option.some.injEq,Prod.mk.injEq]at hd
   obtain⟨rfl,rfl⟩:=hd
   obtain⟨hI_mo,hI_ga,hI_de,hI_more,hp⟩:=hp
   have heq:agsEqv [.agg [.sl q_mo n_mo st_mo F_mo,.sl q_ga n_ga st_ga F_ga,.sl q_de n_de st_de F_de],.c (.sl q_more n_more st_more F_more)] [.agg [.sl q_mo (eI.list n_mo F_mo).length 1 (eI.F (eI.list n_mo F_mo)),.sl q_ga (eI.list n_ga F_ga).length 1 (eI.F (eI.list n_ga F_ga)),.sl q_de (eDm.list n_de F_de).length 3 (eDm.F (eDm.list n_de F_de))],.c (.sl q_more (eI.list n_more F_more).length 1 (eI.F (eI.list n_more F_more)))]:=⟨⟨eI.toz g1 hI_mo,eI.toz g2 hI_ga,eDm.toz g3 hI_de,trivial⟩,eI.toz g4 hI_more,trivial⟩
   have len_mo:(eI.list n_mo F_mo).length=n_mo:=eI.list_len
   have len_ga:(eI.list n_ga F_ga).length=n_ga:=eI.list_len
   have len_de:(eDm.list n_de F_de).length=n_de:=eDm.list_len
   have len_more:(eI.list n_more F_more).length=n_more:=eI.list_len
   generalize eI.list n_mo F_mo=mo at *
   generalize eI.list n_ga F_ga=ga at *
   generalize eDm.list n_de F_de=de at *
   generalize eI.list n_more F_more=more at *
   subst len_mo len_ga len_de len_more
   exact fokX_fin mixed gw_stable (sl:=[v182]) ⟨S182,trivial⟩ Try.func153 hw hl hG hx heq rfl (t153 _ _ _ _ _ _ _ _) (w153 _ _ _ _ _ _ _ _ hp.1 hp.2.1 hp.2.2.1 hp.2.2.2.1 hp.2.2.2.2.1)
  ·cases hd
 ·cases hd
theorem S153:SumOK Try.prog G0 gw 153 (fokSm dom153):=fok_sum Try.func153 rfl C153
end Go.Pl
end
section
set_option maxRecDepth 100000
namespace Go.Pl
open Go.V Go.Proofs
def dom150s:DomR
 |[.c (.sl q n st F)]=>(match Nat.beq st 1 with
  |true=>some ([q=true,eI.Is n F,n≤1000000],rowI (eI.list n F))
  |_=>none)
 |_=>none
def v150s:Nat×Sm:=(150,fokSmR dom150s)
theorem C150s:FOKR Try.prog G0 gw 150 dom150s:=by
 intro ags p r hd hp κ w xs hw hl hG hx
 unfold dom150s at hd
 split at hd
 ·rename_i q n st F
  split at hd
  ·rename_i hst
   simp only[Option.some.injEq,Prod.mk.injEq]at hd
   obtain⟨rfl,rfl⟩:=hd
   obtain⟨hq,hI,hn,_⟩:=hp
   subst hq
   exact C150r [.c (.sl true n st F)] [eI.Is n F,n≤1000000] (rowI (eI.list n F)) (by unfold dom150r;simp only[hst]) ⟨hI,hn,trivial⟩ κ w xs hw hl hG hx
  ·cases hd
 ·cases hd
theorem S150s:SumOK Try.prog G0 gw 150 (fokSmR dom150s):=fokR_sum Try.func150 rfl C150s
def dom154q(N:Nat):DomF
 |[.c (.sl true n st F),.c (.sl _ k st' G)]=>(match Nat.beq st 1&&Nat.beq st' 1&&Nat.beq n N&&Nat.beq k N,rowsT N n F with
  |true,some (m,p)=>some (eI.Is k G::p,[.c (.sl (M.solve m (eI.list k G)).2.2 (M.solve m (eI.list k G)).1.length 1 (eI.F (M.solve m (eI.list k G)).1)),rI (M.solve m (eI.list k G)).2.1,rB (M.solve m (eI.list k G)).2.2])
  |_,_=>none)
 |_=>none
def v154q(N:Nat):Nat×Sm:=(154,fokSm (dom154q N))
theorem sure_rel{κ:Still}{q:Bool}{n st:Nat}{F:Nat→Nat→D}{x:Value}(hn:0<n)(h:(D.sl q n st F).rel κ x):(D.sl true n st F).rel κ x:=by
 rcases h with⟨_,h0,_⟩|h
 ·omega
 ·exact .inr h
theorem C154q{N:Nat}(hN:0<N)(h:FOK Try.prog G0 gw 154 (dom154 N)):FOK Try.prog G0 gw 154 (dom154q N):=by
 intro ags p r hd hp κ w xs hw hl hG hx
 unfold dom154q at hd
 split at hd
 ·rename_i n st F q k st' G
  have hk:0<k:=by
   split at hd
   ·rename_i m p' hst hm
    simp only[Bool.and_eq_true]at hst
    have:=Nat.eq_of_beq_eq_true hst.2
    omega
   ·cases hd
  cases hx with
  |cons h1 hx=>
   cases hx with
   |cons h2 hx=>
    exact h [.c (.sl true n st F),.c (.sl true k st' G)] p r hd hp κ w _ hw hl hG (.cons h1 (.cons (sure_rel hk h2) hx))
 ·cases hd
theorem S154q{N:Nat}(hN:0<N)(h:FOK Try.prog G0 gw 154 (dom154 N)):SumOK Try.prog G0 gw 154 (fokSm (dom154q N)):=fok_sum Try.func154 rfl (C154q hN h)
end Go.Pl
end
section
set_option maxRecDepth 100000
namespace Go.Pl
open Go.V Go.Proofs
abbrev dfQ:Plane:=Enc.dflt ePn
abbrev cellP(p:Plane):Nat→Nat→D:=fun i j=>List.getD [D.sl true p.co.length 1 (eI.F p.co),dI p.am,dI p.de,dI p.dr] (i*4+j) D.nilp
def amJ(P:Nat→Plane):Nat→Nat→Nat→D
 |0=>fun _ _=>.nilp
 |k+1=>joinF k (amJ P k) (inQ (P k).am)
def matP(P:Nat→Plane)(n:Nat):List (List Int):=(List.range n).map fun j=>cI (P j).co
def solP(P:Nat→Plane)(n:Nat):List Int×Int×Bool:=M.solve (matP P n) (Enc.list eI n (amJ P n))
inductive Sg(A Z:Type) where
 |p
 |a (x:A)
 |b (z:Z)
abbrev SgF(A Z:Type):=Sg A Z×(Nat→Nat→D)
structure Kit(A B Z:Type) where
 a0:A
 need:Z→List Prop
 pack:Z→B
 unp:B→Z
def needRows(n:Nat)(P:Nat→Plane):List Prop:=(List.range n).flatMap fun j=>[iI (P j).co,(P j).co.length=n]
def needApp:Nat→Nat→List Prop
 |_,0=>[]
 |n,j+1=>needApp n j++([(0:Int)≤(j:Int),(j:Int)<(n:Int),j<n]++(match j with|0=>[1≤1000000,1≤1000000]|j+1=>[j+2≤1000000,j+1≤j+1,j+2≤1000000,j+1≤j+1]))
section
variable {A B Z : Type} (K : Kit A B Z)
def cutT{R S:Type}(d:Nat)(k:Int)(fA:Int×List Plane×A→R)(fB:Int×List Plane×B→R):SgF A Z→T (R ⊕ S)
 |(.p,J)=>T.needs [(0:Int)≤(d:Int),(d:Int)≤((d+1:Nat):Int),ePn.Is d J,d≤d+1] (.ret (.inl (fA (IntKind.i64.wrap (k+1),Enc.list ePn d J,K.a0))))
 |(.a x,J)=>T.needs [(0:Int)≤(d:Int),(d:Int)≤((d+1:Nat):Int),ePn.Is d J,d≤d+1] (.ret (.inl (fA (IntKind.i64.wrap (k+1),Enc.list ePn d J,x))))
 |(.b z,J)=>T.needs ([(0:Int)≤(d:Int),(d:Int)≤((d+1:Nat):Int),ePn.Is d J,d≤d+1]++K.need z) (.ret (.inl (fB (IntKind.i64.wrap (k+1),Enc.list ePn d J,K.pack z))))
def cutB{S:Type}(d:Nat)(k:Int):SgF A Z→T ((Int×List Plane×B) ⊕ S)
 |(.b z,J)=>T.needs ([(0:Int)≤(d:Int),(d:Int)≤((d+1:Nat):Int),ePn.Is d J,d≤d+1]++K.need z) (.ret (.inl (IntKind.i64.wrap (k+1),Enc.list ePn d J,K.pack z)))
 |_=>.fail
def chP(d:Nat)(X:List Plane)(q:Plane)(j:Nat):Plane:=match Nat.blt j d with|true=>X.getD j dfQ|false=>q
variable (AL : List Plane)
def rndT{R:Type}(nx:(Nat→Nat→D)→(Nat→Plane)→Int→Sg A Z→T (SgF A Z))(r d:Nat)(k:Int)(X:List Plane)(s:Sg A Z)(cut:Int→SgF A Z→T (R ⊕ SgF A Z)):T (R ⊕ SgF A Z):=
 .br (decide (k≤IntKind.i64.wrap ((AL.length:Int)-((r+1:Nat):Int)))) (T.needs [0≤k,k<(AL.length:Int),d+1≤1000000,d≤d]
  ((nx (joinF d (ePn.F X) (cellP (AL.getD k.toNat dfQ))) (chP d X (AL.getD k.toNat dfQ)) (IntKind.i64.wrap (k+1)) s).bind (cut k))) (.ret (.inr (s,ePn.F X)))
variable (corn : (Nat → Plane) → Sg A Z → T (Sg A Z))
def levT:(r:Nat)→(d:Nat)→(F:Nat→Nat→D)→(P:Nat→Plane)→Int→Sg A Z→T (SgF A Z)
 |0,d,F,P,_,s=>(corn P s).bind fun s=>.ret (s,F)
 |r+1,d,F,P,i,s=>
  T.needs [ePn.Is d F,d≤d] (match s with
   |.p=>.loop2 (Int×List Plane×A) (Int×List Plane×B) (.inl (i,Enc.list ePn d F,K.a0))
     (fun x=>rndT AL (levT r (d+1)) r d x.1 x.2.1 (.a x.2.2) (fun k=>cutT K d k .inl .inr))
     (fun x=>rndT AL (levT r (d+1)) r d x.1 x.2.1 (.b (K.unp x.2.2)) (fun k=>cutT K d k .inl .inr))
   |.a z=>.loop2 (Int×List Plane×A) (Int×List Plane×B) (.inl (i,Enc.list ePn d F,z))
     (fun x=>rndT AL (levT r (d+1)) r d x.1 x.2.1 (.a x.2.2) (fun k=>cutT K d k .inl .inr))
     (fun x=>rndT AL (levT r (d+1)) r d x.1 x.2.1 (.b (K.unp x.2.2)) (fun k=>cutT K d k .inl .inr))
   |.b z=>T.needs (K.need z) (.loop (Int×List Plane×B) (i,Enc.list ePn d F,K.pack z)
     (fun x=>rndT AL (levT r (d+1)) r d x.1 x.2.1 (.b (K.unp x.2.2)) (fun k=>cutB K d k))))
def topT(n:Nat):T (SgF A Z):=
 .loop3 PUnit (Int×List Plane×A) (Int×List Plane×B) (.inl ⟨⟩)
  (fun _=>.br (decide ((0:Int)≤IntKind.i64.wrap ((AL.length:Int)-(n:Int)))) (T.needs [(0:Int)≤0,(0:Int)<(AL.length:Int),1≤1000000]
   ((levT K AL corn (n-1) 1 (joinF 0 (fun _ _=>.nilp) (cellP (AL.getD 0 dfQ))) (chP 0 [] (AL.getD 0 dfQ)) 1 .p).bind
    (cutT K 0 0 (fun v=>.inr (.inl v)) (fun v=>.inr (.inr v))))) (.ret (.inr (.p,fun _ _=>.nilp))))
  (fun x=>rndT AL (levT K AL corn (n-1) 1) (n-1) 0 x.1 x.2.1 (.a x.2.2) (fun k=>cutT K 0 k (fun v=>.inr (.inl v)) (fun v=>.inr (.inr v))))
  (fun x=>rndT AL (levT K AL corn (n-1) 1) (n-1) 0 x.1 x.2.1 (.b (K.unp x.2.2)) (fun k=>cutT K 0 k (fun v=>.inr (.inl v)) (fun v=>.inr (.inr v))))
end
abbrev A84:Type:=Int×Int×Int×PUnit×PUnit
abbrev B84:Type:=Int×Int×Int×List Int×PUnit
abbrev Z84:Type:=Int×Int×Int×Nat×(Nat→Nat→D)
def K84:Kit A84 B84 Z84 where
 a0:=(0,0,0,⟨⟩,⟨⟩)
 need:=fun z=>[eI.Is z.2.2.2.1 z.2.2.2.2,z.2.2.2.1≤z.2.2.2.1]
 pack:=fun z=>(z.1,z.2.1,z.2.2.1,Enc.list eI z.2.2.2.1 z.2.2.2.2,⟨⟩)
 unp:=fun b=>(b.1,b.2.1,b.2.2.1,b.2.2.2.1.length,eI.F b.2.2.2.1)
section
variable (AL : List Plane) (ga : List Int) (n : Nat)
abbrev St84:=Sg A84 Z84
def better(P:Nat→Plane):T St84:=
 T.needs [(solP P n).2.2=true,iI (solP P n).1,(solP P n).1.length≤1000000]
  (.ret (.b (M.dot (cI ga) (cI (solP P n).1),(solP P n).2.1,(solP P n).2.1,(cI (solP P n).1).length,fun i _=>dI ((cI (solP P n).1).getD i 0))))
def lessT(P:Nat→Plane)(nu gd ad:Int)(s:St84):T St84:=
 .br (ad==0) (better ga n P) (T.needs [i64ok nu,i64ok (M.dot (cI ga) (cI (solP P n).1)),0<gd∧gd<9223372036854775808,0<(solP P n).2.1∧(solP P n).2.1<9223372036854775808]
  (.br (M.less nu gd (M.dot (cI ga) (cI (solP P n).1)) (solP P n).2.1) (better ga n P) (.ret s)))
def tailT(P:Nat→Plane)(s:St84):T St84:=
 T.needs [iI ga,iI (solP P n).1,(cI ga).length≤1000000,(cI ga).length≤(cI (solP P n).1).length]
  (match s with
  |.p=>better ga n P
  |.a x=>lessT ga n P x.1 x.2.1 x.2.2.1 s
  |.b z=>lessT ga n P z.1 z.2.1 z.2.2.1 s)
def cornT(P:Nat→Plane)(s:St84):T St84:=
 T.needs (needApp n n++ [n≤n,n≤n,eI.Is n (amJ P n)]++needRows n P)
  (.br (!(solP P n).2.2) (.ret s)
   ((T.loop (Int×PUnit) (0,⟨⟩) fun x=>.br (decide (x.1<(AL.length:Int)))
    (T.needs [0≤x.1,x.1<(AL.length:Int),iI (AL.getD x.1.toNat dfQ).co,iI (solP P n).1,(cI (AL.getD x.1.toNat dfQ).co).length≤1000000,(cI (AL.getD x.1.toNat dfQ).co).length≤(cI (solP P n).1).length]
     (.br (decide (M.dot (cI (AL.getD x.1.toNat dfQ).co) (cI (solP P n).1)>IntKind.i64.wrap ((AL.getD x.1.toNat dfQ).am*(solP P n).2.1)))
      (.br (decide (x.1≥0)) (.ret (.inr (.inl ⟨⟩))) (.ret (.inr (.inr ⟨⟩))))
      (.ret (.inl (IntKind.i64.wrap (x.1+1),⟨⟩)))))
    (.ret (.inr (.inr ⟨⟩))):T (PUnit ⊕ PUnit)).bind fun r=>match r with
     |.inl _=>.ret s
     |.inr _=>tailT ga n P s))
end
abbrev withD(ad:Int)(u:List Int):Nat→Nat→D:=joinF u.length (fun i _=>dI (u.getD i 0)) (inQ ad)
def gcdT(ad:Int)(u:List Int):Int:=((M.gcdL (Enc.list eI (u.length+1) (withD ad u)):Nat):Int)
def putG(g k:Int)(l:List Int):Nat→Nat→D:=putF k.toNat 0 1 [dI (IntKind.i64.wrap (Int.tdiv (l.getD k.toNat 0) g))] (eI.F l)
def finB(nu gd ad:Int)(len:Nat)(F:Nat→Nat→D):T (List Ar):=
 .br (ad==0) (.need (len≤len) (.ret [.agg [dI nu,dI gd],.agg [dI ad,.sl true len 1 F],rB false]))
  (T.needs [len≤len,true=true,eI.Is len F,len≤1000000,(Enc.list eI len F).length+1≤1000000,(Enc.list eI len F).length≤(Enc.list eI len F).length,(Enc.list eI len F).length+1≤(Enc.list eI len F).length+1,
   eI.Is ((Enc.list eI len F).length+1) (withD ad (Enc.list eI len F)),(Enc.list eI ((Enc.list eI len F).length+1) (withD ad (Enc.list eI len F))).length≤1000000,
   ∀x,x∈Enc.list eI ((Enc.list eI len F).length+1) (withD ad (Enc.list eI len F))→i64ok x,eI.Is len F,len≤len]
   (.loop (Int×Int×List Int×PUnit) (0,ad,Enc.list eI len F,⟨⟩) fun x=>.br (decide (x.1<(len:Int)))
    (T.needs [0≤x.1,x.1<(x.2.2.1.length:Int),x.1.toNat<x.2.2.1.length,gcdT ad (Enc.list eI len F)≠0,0≤x.1,x.1<(x.2.2.1.length:Int),x.1.toNat<x.2.2.1.length,eI.Is x.2.2.1.length (putG (gcdT ad (Enc.list eI len F)) x.1 x.2.2.1),x.2.2.1.length≤x.2.2.1.length]
     (.ret (.inl (IntKind.i64.wrap (x.1+1),x.2.1,Enc.list eI x.2.2.1.length (putG (gcdT ad (Enc.list eI len F)) x.1 x.2.2.1),⟨⟩))))
    (T.needs [gcdT ad (Enc.list eI len F)≠0,x.2.2.1.length≤x.2.2.1.length]
     (.ret (.inr [.agg [dI nu,dI gd],.agg [dI (IntKind.i64.wrap (Int.tdiv x.2.1 (gcdT ad (Enc.list eI len F)))),.sl true x.2.2.1.length 1 (eI.F x.2.2.1)],rB true])))))
def finX:St84→T (List Ar)
 |.p=>.ret [.agg [dI 0,dI 0],.agg [dI 0,.sl false 0 0 (fun _ _=>.nilp)],rB false]
 |.a x=>.br (x.2.2.1==0) (.ret [.agg [dI x.1,dI x.2.1],.agg [dI x.2.2.1,.sl false 0 0 (fun _ _=>.nilp)],rB false]) .fail
 |.b z=>finB z.1 z.2.1 z.2.2.1 z.2.2.2.1 z.2.2.2.2
def needPl(n:Nat)(mo ga:List Int)(de:List Dem)(k:Nat)(F:Nat→Nat→D):List Prop:=
 [eI.Is n (eI.F mo),iI ga,eDm.Is de.length (eDm.F de),eI.Is k F,(cD de).length≤1000,(Enc.list eI n (eI.F mo)).length≤1000,(Enc.list eI k F).length≤1000,
  0<(Enc.list eI n (eI.F mo)).length+(Enc.list eI k F).length,∀d,d∈cD de→d.co.length=(Enc.list eI n (eI.F mo)).length]
def tr84(n:Nat)(mo ga:List Int)(de:List Dem):T (List Ar):=
 T.needs (needPl n mo ga de 0 (fun _ _=>.nilp)) ((topT K84 (M.planes (Enc.list eI n (eI.F mo)) (cD de) (Enc.list eI 0 (fun _ _=>D.nilp)))
  (cornT (M.planes (Enc.list eI n (eI.F mo)) (cD de) (Enc.list eI 0 (fun _ _=>D.nilp))) ga n) n).bind fun s=>finX s.1)
end Go.Pl
end
section
set_option maxRecDepth 100000
namespace Go.Pl
open Go.V Go.Proofs
abbrev W86:Type:=Int×(Nat×(Nat→Nat→D))×(Nat×(Nat→Nat→D))
abbrev L86:Type:=Int×List Int×List Int
def lstW(w:W86):L86:=(w.1,Enc.list eI w.2.1.1 w.2.1.2,Enc.list eI w.2.2.1 w.2.2.2)
def needW(w:W86):List Prop:=[eI.Is w.2.1.1 w.2.1.2,w.2.1.1≤w.2.1.1,eI.Is w.2.2.1 w.2.2.2,w.2.2.1≤w.2.2.1]
def rowW(z:L86):W86:=(z.1,(z.2.1.length,eI.F z.2.1),(z.2.2.length,eI.F z.2.2))
def condW(b:Bool)(x y:L86):L86:=(cond b x.1 y.1,cond b x.2.1 y.2.1,cond b x.2.2 y.2.2)
section
variable (p : Plane) (i : Nat) (v : List Int)
def putA(z:L86):W86:=(z.1,(z.2.1.length,putF p.de.toNat 0 1 [dI (v.getD i 0)] (eI.F z.2.1)),(z.2.2.length,eI.F z.2.2))
def putB(z:L86):W86:=(z.1,(z.2.1.length,eI.F z.2.1),(z.2.2.length,putF p.dr.toNat 0 1 [dI (v.getD i 0)] (eI.F z.2.2)))
def idxW(k:Int)(l:List Int):List Prop:=[(0:Int)≤(i:Int),(i:Int)<(v.length:Int),0≤k,k<(l.length:Int),k.toNat<l.length]
def meetB(z:L86):Prop:=(decide (p.dr≥0)=true→All (idxW i v p.dr z.2.2++needW (putB p i v z)))∧(decide (p.dr≥0)=false→All ([]++needW (rowW z)))
def afterB(z:L86):L86:=condW (decide (p.dr≥0)) (lstW (putB p i v z)) (lstW (rowW z))
def meetA(z:L86):Prop:=(decide (p.de≥0)=true→All (idxW i v p.de z.2.1++needW (putA p i v z))) ∧
 (decide (p.de≥0)=false→All (needW (rowW z)++ [meetB p i v (lstW (rowW z))]++needW (rowW (afterB p i v (lstW (rowW z))))))
def afterA(z:L86):L86:=condW (decide (p.de≥0)) (lstW (putA p i v z)) (lstW (rowW (afterB p i v (lstW (rowW z)))))
end
structure Kit1(B Z:Type) where
 z0:Z
 need:Z→List Prop
 pack:Z→B
 unp:B→Z
section
variable {B Z : Type} (K : Kit1 B Z)
def rawS:Sg Empty Z→Z
 |.p=>K.z0
 |.b z=>z
 |.a x=>nomatch x
def cutS{R S:Type}(d:Nat)(k:Int)(fB:Int×List Plane×B→R):SgF Empty Z→T (R ⊕ S)
 |(s,J)=>T.needs ([(0:Int)≤(d:Int),(d:Int)≤((d+1:Nat):Int),ePn.Is d J,d≤d+1]++K.need (rawS K s)) (.ret (.inl (fB (IntKind.i64.wrap (k+1),Enc.list ePn d J,K.pack (rawS K s)))))
variable (AL : List Plane) (corn : (Nat → Plane) → Sg Empty Z → T (Sg Empty Z))
def levS:(r:Nat)→(d:Nat)→(F:Nat→Nat→D)→(P:Nat→Plane)→Int→Sg Empty Z→T (SgF Empty Z)
 |0,d,F,P,_,s=>(corn P s).bind fun s=>.ret (s,F)
 |r+1,d,F,P,i,s=>T.needs ([ePn.Is d F,d≤d]++K.need (rawS K s)) (.loop (Int×List Plane×B) (i,Enc.list ePn d F,K.pack (rawS K s))
   (fun x=>rndT AL (levS r (d+1)) r d x.1 x.2.1 (.b (K.unp x.2.2)) (fun k=>cutS K d k id)))
def topS(n:Nat):T (SgF Empty Z):=
 .loop2 PUnit (Int×List Plane×B) (.inl ⟨⟩)
  (fun _=>.br (decide ((0:Int)≤IntKind.i64.wrap ((AL.length:Int)-(n:Int)))) (T.needs [(0:Int)≤0,(0:Int)<(AL.length:Int),1≤1000000]
   ((levS K AL corn (n-1) 1 (joinF 0 (fun _ _=>.nilp) (cellP (AL.getD 0 dfQ))) (chP 0 [] (AL.getD 0 dfQ)) 1 .p).bind (cutS K 0 0 .inr))) (.ret (.inr (.p,fun _ _=>.nilp))))
  (fun x=>rndT AL (levS K AL corn (n-1) 1) (n-1) 0 x.1 x.2.1 (.b (K.unp x.2.2)) (fun k=>cutS K 0 k .inr))
end
abbrev Raw:Type:=Nat×(Nat→Nat→D)×Bool
def needR(r:Raw):List Prop:=eI.Is r.1 r.2.1::(match r.2.2 with|true=>[r.1≤r.1]|false=>[])
abbrev B86:Type:=Int×Int×Int×List Int×List Int×PUnit
abbrev Z86:Type:=Int×Int×Int×Raw×Raw
abbrev St86:=Sg Empty Z86
def K86:Kit1 B86 Z86 where
 z0:=(0,0,0,(0,(fun _ _=>.nilp),false),(0,(fun _ _=>.nilp),false))
 need:=fun z=>needR z.2.2.2.1++needR z.2.2.2.2
 pack:=fun z=>(z.1,z.2.1,z.2.2.1,Enc.list eI z.2.2.2.1.1 z.2.2.2.1.2.1,Enc.list eI z.2.2.2.2.1 z.2.2.2.2.2.1,⟨⟩)
 unp:=fun b=>(b.1,b.2.1,b.2.2.1,(b.2.2.2.1.length,eI.F b.2.2.2.1,false),(b.2.2.2.2.1.length,eI.F b.2.2.2.2.1,false))
def colJ(P:Nat→Plane)(c:Nat):Nat→Nat→Nat→D
 |0=>fun _ _=>.nilp
 |q+1=>joinF q (colJ P c q) (inQ ((P q).co.getD c 0))
def solW(P:Nat→Plane)(n:Nat)(asked:List Int):List Int×Int×Bool:=M.solve ((List.range n).map fun c=>Enc.list eI n (colJ P c n)) (Enc.list eI n (eI.F asked))
def needQ(n:Nat)(P:Nat→Plane)(c:Nat):Nat→List Prop
 |0=>[]
 |q+1=>needQ n P c q++([(0:Int)≤(q:Int),(q:Int)<(n:Int),q<n,(0:Int)≤(c:Int),(c:Int)<((P q).co.length:Int)]++(match q with|0=>[1≤1000000]|q+1=>[q+2≤1000000,q+1≤q+1]))
def needC(n:Nat)(P:Nat→Plane):Nat→List Prop
 |0=>[]
 |c+1=>needC n P c++needQ n P c n
def needS(n:Nat)(v:List Int):Nat→List Prop
 |0=>[]
 |i+1=>needS n v i++ [(0:Int)≤(i:Int),(i:Int)<(n:Int),i<n,(0:Int)≤(i:Int),(i:Int)<(v.length:Int)]
def sumJ(P:Nat→Plane)(v:List Int):Nat→Int
 |0=>0
 |i+1=>IntKind.i64.wrap (sumJ P v i+IntKind.i64.wrap (v.getD i 0*(P i).am))
def zeroF:Nat→Nat→D:=fun _ j=>List.getD [dI 0] j .nilp
section
variable (nd nm n : Nat) (asked : List Int)
def putT(P:Nat→Plane)(v:List Int):(m:Nat)→(i:Nat)→W86→(W86→St86)→T St86
 |0,_,w,f=>.ret (f w)
 |m+1,i,w,f=>T.needs ([(0:Int)≤(i:Int),(i:Int)<(n:Int),i<n]++needW w) (.need (meetA (P i) i v (lstW w)) (putT P v m (i+1) (rowW (afterA (P i) i v (lstW w))) f))
def lightT(P:Nat→Plane)(v:List Int)(d:Int):T St86:=
 T.needs [(0:Int)≤(nd:Int),(nd:Int)≤(nd:Int),(nd:Int)≤1000000,(0:Int)≤(nm:Int),(nm:Int)≤(nm:Int),(nm:Int)≤1000000]
  (putT n P v n 0 (d,((nd:Int).toNat,zeroF),((nm:Int).toNat,zeroF)) fun w=>.b (sumJ P v n,d,w.1,(w.2.1.1,w.2.1.2,true),(w.2.2.1,w.2.2.2,true)))
def overT(P:Nat→Plane)(v:List Int)(d:Int)(nu gd od:Int)(s:St86):T St86:=
 .br (od==0) (lightT nd nm n P v d) (T.needs [i64ok (sumJ P v n),i64ok nu,0<d∧d<9223372036854775808,0<gd∧gd<9223372036854775808]
  (.br (M.less (sumJ P v n) d nu gd) (lightT nd nm n P v d) (.ret s)))
def cornW(P:Nat→Plane)(s:St86):T St86:=
 T.needs (needC n P n++(List.replicate n (n≤n)++([eI.Is n (eI.F asked)]++(List.range n).flatMap fun c=>[eI.Is n (colJ P c n),n=n])))
  (.br (!(solW P n asked).2.2) (.ret s) (T.needs [iI (solW P n asked).1,0<(cI (solW P n asked).1).length,(cI (solW P n asked).1).length≤1000000]
   (.br (decide (M.least (cI (solW P n asked).1)<0)) (.ret s) (T.needs (needS n (solW P n asked).1 n)
    (match s with
    |.p=>lightT nd nm n P (solW P n asked).1 (solW P n asked).2.1
    |.a x=>nomatch x
    |.b z=>overT nd nm n P (solW P n asked).1 (solW P n asked).2.1 z.1 z.2.1 z.2.2.1 s)))))
end
def finW:St86→T (List Ar)
 |.p=>.ret [.agg [dI 0,dI 0],.agg [dI 0,.sl false 0 0 (fun _ _=>.nilp),.sl false 0 0 (fun _ _=>.nilp)]]
 |.b z=>.ret [.agg [dI z.1,dI z.2.1],.agg [dI z.2.2.1,.sl z.2.2.2.1.2.2 z.2.2.2.1.1 1 z.2.2.2.1.2.1,.sl z.2.2.2.2.2.2 z.2.2.2.2.1 1 z.2.2.2.2.2.1]]
 |.a x=>nomatch x
def tr86(n nm:Nat)(mo ga:List Int)(de:List Dem)(asked:List Int)(k:Nat)(F:Nat→Nat→D):T (List Ar):=
 T.needs (needPl nm mo ga de k F) ((topS K86 (M.planes (Enc.list eI nm (eI.F mo)) (cD de) (Enc.list eI k F)) (cornW de.length nm n asked) n).bind fun s=>finW s.1)
end Go.Pl
end
section
set_option maxRecDepth 100000
namespace Go.Pl
open Go.V Go.Proofs
theorem t86_1(q1 q2 q3 q4:Bool)(mo ga:List Int)(de:List Dem)(asked:List Int):runFnX Try.prog G0 (lookS [v153,v154q 1,v131,v155]) (fun f=>match f with|180=>[(7000004,[],none),(1000012,[],none),(4,[.slot 8 (.int .i64),.blk 1 [.rowN 206 ePn 0],.blk 1000004 [.int .i64,.int .i64],.blk 1000005 [.int .i64,.imE eI,.imE eI]],none)]|86=>[(3000032,[],none),(3000036,[],none),(3000035,[],none),(1000037,[],none),(3000041,[],none),(3000040,[],none),(1000042,[],none),(3000077,[],none),(3000076,[],none),(1000078,[],none),(3000118,[],none),(3000117,[],none),(1000119,[],none),(6000123,[.blk 9 [.int .i64,.rowE 3 eI,.rowE 3 eI]],none),(6000136,[.blk 9 [.int .i64,.rowE 3 eI,.rowE 3 eI]],none)]|_=>[]) [152,179,180] 4 60 40 86 Try.f86 [.agg [.sl q1 1 1 (eI.F mo),.sl q2 ga.length 1 (eI.F ga),.sl q3 de.length 3 (eDm.F de)],.c (.sl q4 1 1 (eI.F asked)),.c (.sl false 0 0 (fun _ _=>.nilp))] =
  tr86 1 1 mo ga de asked 0 (fun _ _=>.nilp):=by kernel_rfl
theorem t86_2(q1 q2 q3 q4:Bool)(mo ga:List Int)(de:List Dem)(asked:List Int):runFnX Try.prog G0 (lookS [v153,v154q 2,v131,v155]) (fun f=>match f with|180=>[(7000004,[],none),(1000012,[],none),(4,[.slot 8 (.int .i64),.blk 1 [.rowN 206 ePn 0],.blk 1000004 [.int .i64,.int .i64],.blk 1000005 [.int .i64,.imE eI,.imE eI]],none),(4,[.slot 8 (.int .i64),.blk 1 [.rowN 206 ePn 1],.blk 1000004 [.int .i64,.int .i64],.blk 1000005 [.int .i64,.imE eI,.imE eI]],none)]|86=>[(3000032,[],none),(3000036,[],none),(3000035,[],none),(1000037,[],none),(3000041,[],none),(3000040,[],none),(1000042,[],none),(3000077,[],none),(3000076,[],none),(1000078,[],none),(3000118,[],none),(3000117,[],none),(1000119,[],none),(6000123,[.blk 9 [.int .i64,.rowE 3 eI,.rowE 3 eI]],none),(6000136,[.blk 9 [.int .i64,.rowE 3 eI,.rowE 3 eI]],none)]|_=>[]) [152,179,180] 4 60 40 86 Try.f86 [.agg [.sl q1 2 1 (eI.F mo),.sl q2 ga.length 1 (eI.F ga),.sl q3 de.length 3 (eDm.F de)],.c (.sl q4 2 1 (eI.F asked)),.c (.sl false 0 0 (fun _ _=>.nilp))] =
  tr86 2 2 mo ga de asked 0 (fun _ _=>.nilp):=by kernel_rfl
theorem t86_3(q1 q2 q3 q4:Bool)(mo ga:List Int)(de:List Dem)(asked:List Int):runFnX Try.prog G0 (lookS [v153,v154q 3,v131,v155]) (fun f=>match f with|180=>[(7000004,[],none),(1000012,[],none),(4,[.slot 8 (.int .i64),.blk 1 [.rowN 206 ePn 0],.blk 1000004 [.int .i64,.int .i64],.blk 1000005 [.int .i64,.imE eI,.imE eI]],none),(4,[.slot 8 (.int .i64),.blk 1 [.rowN 206 ePn 1],.blk 1000004 [.int .i64,.int .i64],.blk 1000005 [.int .i64,.imE eI,.imE eI]],none),(4,[.slot 8 (.int .i64),.blk 1 [.rowN 206 ePn 2],.blk 1000004 [.int .i64,.int .i64],.blk 1000005 [.int .i64,.imE eI,.imE eI]],none)]|86=>[(3000032,[],none),(3000036,[],none),(3000035,[],none),(1000037,[],none),(3000041,[],none),(3000040,[],none),(1000042,[],none),(3000077,[],none),(3000076,[],none),(1000078,[],none),(3000118,[],none),(3000117,[],none),(1000119,[],none),(6000123,[.blk 9 [.int .i64,.rowE 3 eI,.rowE 3 eI]],none),(6000136,[.blk 9 [.int .i64,.rowE 3 eI,.rowE 3 eI]],none)]|_=>[]) [152,179,180] 4 60 40 86 Try.f86 [.agg [.sl q1 3 1 (eI.F mo),.sl q2 ga.length 1 (eI.F ga),.sl q3 de.length 3 (eDm.F de)],.c (.sl q4 3 1 (eI.F asked)),.c (.sl false 0 0 (fun _ _=>.nilp))] =
  tr86 3 3 mo ga de asked 0 (fun _ _=>.nilp):=by kernel_rfl
end Go.Pl
end
section
set_option maxRecDepth 100000
namespace Go.Pl
open Go.V Go.Proofs
def sumK(f:Nat→Int)(k:Nat):Int:=(List.range k).foldl (fun a j=>a+f j) 0
theorem sumK_succ(f:Nat→Int)(k:Nat):sumK f (k+1)=sumK f k+f k:=by unfold sumK;rw[foldl_succ]
theorem getD_bnd{l:List Int}{lo hi:Int}(h0:lo≤0∧0≤hi)(h:∀x,x∈l→lo≤x∧x≤hi)(i:Nat):lo≤l.getD i 0∧l.getD i 0≤hi:=by
 rcases Nat.lt_or_ge i l.length with hi'|hi'
 ·exact h _ (getD_mem hi')
 ·rw[List.getD_eq_getElem?_getD,List.getElem?_eq_none hi'];simpa using h0
namespace M
end M
end Go.Pl
end
section
namespace Go.Lp
def alt{α:Type}(f:α→List α→Rat):List α→Rat
 |[]=>0
 |c::cs=>f c cs-alt (fun d ds=>f d (c::ds)) cs
def D{α β:Type}(f:α→β→Rat):List α→List β→Rat
 |[],_=>1
 |r::rs,cols=>alt (fun c cs=>f r c*D f rs cs) cols
section
variable {α β : Type}
theorem alt_congr:∀{l:List α} {f g:α→List α→Rat},(∀c cs,cs.length+1=l.length→f c cs=g c cs)→alt f l=alt g l:=by
 intro l
 induction l with
 |nil=>intro f g _;rfl
 |cons c cs ih=>
  intro f g h
  simp only[alt]
  rw[h c cs rfl,ih (fun d ds hd=>h d (c::ds) (by simp;omega))]
theorem alt_add{f g:α→List α→Rat}{l:List α}:alt (fun c cs=>f c cs+g c cs) l=alt f l+alt g l:=by
 induction l generalizing f g with
 |nil=>simp only[alt];grind
 |cons c cs ih=>simp only[alt];rw[ih];grind
theorem alt_smul{k:Rat}{f:α→List α→Rat}{l:List α}:alt (fun c cs=>k*f c cs) l=k*alt f l:=by
 induction l generalizing f with
 |nil=>simp only[alt];grind
 |cons c cs ih=>simp only[alt];rw[ih];grind
theorem alt_zero{l:List α}:alt (fun _ _=>(0:Rat)) l=0:=by
 induction l with
 |nil=>rfl
 |cons c cs ih=>simp only[alt];rw[ih];grind
theorem alt_sub{f g:α→List α→Rat}{l:List α}:alt (fun c cs=>f c cs-g c cs) l=alt f l-alt g l:=by
 induction l generalizing f g with
 |nil=>simp only[alt];grind
 |cons c cs ih=>simp only[alt];rw[ih];grind
theorem alt_comm{F:α→List α→β→List β→Rat}{l:List α}{k:List β}:alt (fun c cs=>alt (fun d ds=>F c cs d ds) k) l=alt (fun d ds=>alt (fun c cs=>F c cs d ds) l) k:=by
 induction l generalizing F with
 |nil=>simp only[alt];rw[alt_zero]
 |cons c cs ih=>simp only[alt];rw[ih,←alt_sub]
theorem alt2_zero{G:α→α→List α→Rat}(h:∀a b l,G a b l=G b a l){l:List α}:alt (fun c cs=>alt (fun d ds=>G c d ds) cs) l=0:=by
 induction l generalizing G with
 |nil=>rfl
 |cons c cs ih=>
  simp only[alt]
  rw[alt_sub,ih (G:=fun a b ds=>G a b (c::ds)) (fun a b l=>h a b _)]
  rw[alt_congr (g:=fun c' cs'=>G c c' cs') (fun d ds _=>h d c ds)]
  grind
variable {f : α → β → Rat}
theorem D_lin{f:α→β→Rat}{u v w:α}{a b:Rat}(hw:∀c,f w c=a*f u c+b*f v c):∀{A B:List α} {cols:List β},D f (A++w::B) cols=a*D f (A++u::B) cols+b*D f (A++v::B) cols:=by
 intro A
 induction A with
 |nil=>
  intro B cols
  simp only[List.nil_append,D]
  rw[←alt_smul,←alt_smul,←alt_add]
  exact alt_congr fun c cs _=>by rw[hw];grind
 |cons r A ih=>
  intro B cols
  simp only[List.cons_append,D]
  rw[←alt_smul,←alt_smul,←alt_add]
  exact alt_congr fun c cs _=>by rw[ih];grind
theorem D_twin{u v:α}(hu:∀c,f u c=f v c):∀{A B:List α} {cols:List β},D f (A++u::v::B) cols=0:=by
 intro A
 induction A with
 |nil=>
  intro B cols
  simp only[List.nil_append,D]
  rw[alt_congr (g:=fun c cs=>alt (fun d ds=>(f u c*f u d)*D f B ds) cs) (fun c cs _=>by
   rw[←alt_smul];exact alt_congr fun d ds _=>by rw[hu d];grind)]
  exact alt2_zero (G:=fun c d ds=>(f u c*f u d)*D f B ds) fun a b l=>by grind
 |cons r A ih=>
  intro B cols
  simp only[List.cons_append,D]
  rw[alt_congr (g:=fun _ _=>0) (fun c cs _=>by rw[ih];grind),alt_zero]
end
theorem D_col{α β:Type}{f:α→β→Rat}:∀{rows:List α} {c:β} {cs:List β},rows.length=cs.length+1→D f rows (c::cs)=alt (fun r rs=>f r c*D f rs cs) rows:=by
 intro rows
 induction rows with
 |nil=>intro c cs h;simp at h
 |cons r rs ih=>
  intro c cs h
  simp only[D,alt]
  congr 1
  rw[alt_congr (l:=cs) (g:=fun d ds=>alt (fun q qs=>f r d*(f q c*D f qs ds)) rs) (fun d ds hd=>by
   rw[ih (by simp at h;omega),←alt_smul])]
  rw[alt_comm]
  exact alt_congr fun q qs _=>by
   rw[←alt_smul];exact alt_congr fun d ds _=>by grind
theorem D_turn{α β:Type}{f:α→β→Rat}:∀{cols:List β} {rows:List α},rows.length=cols.length→D f rows cols=D (fun b a=>f a b) cols rows:=by
 intro cols
 induction cols with
 |nil=>intro rows h;simp at h;subst h;rfl
 |cons c cs ih=>
  intro rows h
  rw[D_col (by simpa using h)]
  simp only[D]
  exact alt_congr fun r rs hr=>by rw[ih (by simp at h;omega)]
end Go.Lp
end
section
namespace Go.Lp
def sm{α:Type}(g:α→Rat):List α→Rat
 |[]=>0
 |a::l=>g a+sm g l
section
variable {α β : Type}
theorem sm_congr{g h:α→Rat}:∀{l:List α},(∀a,a∈l→g a=h a)→sm g l=sm h l:=by
 intro l
 induction l with
 |nil=>intro _;rfl
 |cons a l ih=>intro e;simp only[sm];rw[e a (List.mem_cons_self ..),ih fun b hb=>e b (List.mem_cons_of_mem _ hb)]
theorem sm_append{g:α→Rat}:∀{l k:List α},sm g (l++k)=sm g l+sm g k:=by
 intro l
 induction l with
 |nil=>intro k;simp only[List.nil_append,sm];grind
 |cons a l ih=>intro k;simp only[List.cons_append,sm];rw[ih];grind
theorem sm_add{g h:α→Rat}:∀{l:List α},sm (fun a=>g a+h a) l=sm g l+sm h l:=by
 intro l
 induction l with
 |nil=>simp only[sm];grind
 |cons a l ih=>simp only[sm];rw[ih];grind
theorem sm_smul{k:Rat}{g:α→Rat}:∀{l:List α},sm (fun a=>k*g a) l=k*sm g l:=by
 intro l
 induction l with
 |nil=>simp only[sm];grind
 |cons a l ih=>simp only[sm];rw[ih];grind
theorem sm_zero:∀{l:List α},sm (fun _=>(0:Rat)) l=0:=by
 intro l
 induction l with
 |nil=>rfl
 |cons a l ih=>simp only[sm];rw[ih];grind
theorem sm_comm{F:α→β→Rat}:∀{l:List α} {k:List β},sm (fun a=>sm (F a) k) l=sm (fun b=>sm (fun a=>F a b) l) k:=by
 intro l
 induction l with
 |nil=>intro k;simp only[sm];rw[sm_zero]
 |cons a l ih=>intro k;simp only[sm];rw[ih,sm_add]
theorem sm_le{g h:α→Rat}:∀{l:List α},(∀a,a∈l→g a≤h a)→sm g l≤sm h l:=by
 intro l
 induction l with
 |nil=>intro _;exact Rat.le_refl
 |cons a l ih=>
  intro e
  have h1:=e a (List.mem_cons_self ..)
  have h2:=ih fun b hb=>e b (List.mem_cons_of_mem _ hb)
  simp only[sm]
  grind
theorem sm_perm{g:α→Rat}{l k:List α}(h:l.Perm k):sm g l=sm g k:=by
 induction h with
 |nil=>rfl
 |cons a _ ih=>simp only[sm];rw[ih]
 |swap a b l=>simp only[sm];grind
 |trans _ _ h1 h2=>rw[h1,h2]
theorem D_map{f:α→β→Rat}:∀{rows:List α} {cols:List β},D f rows cols=D (fun(r:β→Rat) c=>r c) (rows.map f) cols:=by
 intro rows
 induction rows with
 |nil=>intro cols;rfl
 |cons r rs ih=>
  intro cols
  simp only[List.map_cons,D]
  exact alt_congr fun c cs _=>by rw[ih]
theorem Dv_swap{u v:β→Rat}{A B:List (β→Rat)}{cols:List β}:D (fun(r:β→Rat) c=>r c) (A++u::v::B) cols= - D (fun(r:β→Rat) c=>r c) (A++v::u::B) cols:=by
 have h0:D (fun(r:β→Rat) c=>r c) (A++(fun c=>u c+v c)::(fun c=>u c+v c)::B) cols=0:=D_twin (fun _=>rfl)
 have h1:=D_lin (f:=fun(r:β→Rat) c=>r c) (u:=u) (v:=v) (w:=fun c=>u c+v c) (a:=1) (b:=1) (fun c=>by grind) (A:=A) (B:=(fun c=>u c+v c)::B) (cols:=cols)
 have h2:=D_lin (f:=fun(r:β→Rat) c=>r c) (u:=u) (v:=v) (w:=fun c=>u c+v c) (a:=1) (b:=1) (fun c=>by grind) (A:=A++ [u]) (B:=B) (cols:=cols)
 have h3:=D_lin (f:=fun(r:β→Rat) c=>r c) (u:=u) (v:=v) (w:=fun c=>u c+v c) (a:=1) (b:=1) (fun c=>by grind) (A:=A++ [v]) (B:=B) (cols:=cols)
 have h4:D (fun(r:β→Rat) c=>r c) (A++u::u::B) cols=0:=D_twin (fun _=>rfl)
 have h5:D (fun(r:β→Rat) c=>r c) (A++v::v::B) cols=0:=D_twin (fun _=>rfl)
 simp only[List.append_assoc,List.singleton_append]at h2 h3
 grind
variable {f : α → β → Rat}
theorem Df_swap{u v:α}{A B:List α}{cols:List β}:D f (A++u::v::B) cols= - D f (A++v::u::B) cols:=by
 rw[D_map (f:=f) (rows:=A++u::v::B),D_map (f:=f) (rows:=A++v::u::B)];simp only[List.map_append,List.map_cons];exact Dv_swap
theorem Df_same{u v:α}(hu:∀c,f u c=f v c):∀{C A B:List α} {cols:List β},D f (A++u::(C++v::B)) cols=0:=by
 intro C
 induction C with
 |nil=>intro A B cols;exact D_twin hu
 |cons r C ih=>
  intro A B cols
  rw[List.cons_append,Df_swap]
  have:=ih (A:=A++ [r]) (B:=B) (cols:=cols)
  simp only[List.append_assoc,List.singleton_append]at this
  rw[this];grind
theorem Df_perm{l k:List α}(h:l.Perm k):∀{A:List α} {cols:List β},D f (A++l) cols=D f (A++k) cols∨D f (A++l) cols= - D f (A++k) cols:=by
 induction h with
 |nil=>intro A cols;exact .inl rfl
 |cons a _ ih=>
  intro A cols
  have:=ih (A:=A++ [a]) (cols:=cols)
  simpa using this
 |swap a b l=>intro A cols;exact .inr Df_swap
 |trans _ _ h1 h2=>
  intro A cols
  rcases h1 (A:=A) (cols:=cols)with e|e <;>rcases h2 (A:=A) (cols:=cols)with e'|e' <;>rw[e,e'] <;>grind
theorem Df_perm_ne{l k:List α}(h:l.Perm k){cols:List β}(hn:D f l cols≠0):D f k cols≠0:=by
 rcases Df_perm (f:=f) h (A:=[]) (cols:=cols)with e|e <;>simp only[List.nil_append]at e <;>grind
theorem Df_nodup{cols:List β}:∀{M A:List α},D f (A++M) cols≠0→M.Nodup:=by
 intro M
 induction M with
 |nil=>intro A _;exact List.nodup_nil
 |cons a M ih=>
  intro A h
  refine List.nodup_cons.2 ⟨fun hm=>?_,ih (A:=A++ [a]) (by simpa using h)⟩
  obtain⟨C,B,rfl⟩:=List.append_of_mem hm
  exact h (Df_same fun _=>rfl)
theorem Df_repl{cols:List β}{P Q:List α}{j v:α}{y:α→Rat}(hv:∀c,c∈cols→f v c=sm (fun a=>y a*f a c) (P++j::Q)):D f (P++v::Q) cols=y j*D f (P++j::Q) cols:=by
 rw[D_map (f:=f) (rows:=P++v::Q),D_map (f:=f) (rows:=P++j::Q)]
 simp only[List.map_append,List.map_cons]
 have hcol:∀{A B:List (β→Rat)} {u u':β→Rat} {cols:List β},(∀c,c∈cols→u c=u' c)→D (fun(r:β→Rat) c=>r c) (A++u::B) cols=D (fun(r:β→Rat) c=>r c) (A++u'::B) cols:=by
  intro A
  have halt:∀{l:List β} {g h:β→List β→Rat},(∀c cs,c∈l→(∀d,d∈cs→d∈l)→g c cs=h c cs)→alt g l=alt h l:=by
   intro l
   induction l with
   |nil=>intro g h _;rfl
   |cons c cs ih=>
    intro g h e
    simp only[alt]
    rw[e c cs (List.mem_cons_self ..) (fun d hd=>List.mem_cons_of_mem _ hd),ih fun d ds hd hds=>e d (c::ds) (List.mem_cons_of_mem _ hd) (fun x hx=>by
     rcases List.mem_cons.1 hx with rfl|hx
     ·exact List.mem_cons_self ..
     ·exact List.mem_cons_of_mem _ (hds x hx))]
  induction A with
  |nil=>
   intro B u u' cols e
   simp only[List.nil_append,D]
   exact halt fun c cs hc _=>by rw[e c hc]
  |cons r A ih=>
   intro B u u' cols e
   simp only[List.cons_append,D]
   exact halt fun c cs _ hcs=>by rw[ih fun d hd=>e d (hcs d hd)]
 rw[hcol hv]
 have lin:∀(l:List α),D (fun(r:β→Rat) c=>r c) (P.map f++(fun c=>sm (fun a=>y a*f a c) l)::Q.map f) cols=sm (fun a=>y a*D (fun(r:β→Rat) c=>r c) (P.map f++f a::Q.map f) cols) l:=by
  intro l
  induction l with
  |nil=>
   simp only[sm]
   have:=D_lin (f:=fun(r:β→Rat) c=>r c) (u:=fun _=>0) (v:=fun _=>0) (w:=fun _=>0) (a:=0) (b:=0) (fun c=>by grind) (A:=P.map f) (B:=Q.map f) (cols:=cols)
   grind
  |cons a l ih=>
   simp only[sm]
   rw[D_lin (f:=fun(r:β→Rat) c=>r c) (u:=f a) (v:=fun c=>sm (fun a=>y a*f a c) l) (a:=y a) (b:=1) (fun c=>by grind),ih]
   grind
 rw[lin,sm_append]
 simp only[sm]
 have hP:sm (fun a=>y a*D (fun(r:β→Rat) c=>r c) (P.map f++f a::Q.map f) cols) P=0:=by
  rw[sm_congr (h:=fun _=>0),sm_zero]
  intro a ha
  obtain⟨A,B,rfl⟩:=List.append_of_mem ha
  have:=Df_same (f:=fun(r:β→Rat) c=>r c) (u:=f a) (v:=f a) (fun _=>rfl) (C:=B.map f) (A:=A.map f) (B:=Q.map f) (cols:=cols)
  simp only[List.map_append,List.map_cons,List.append_assoc,List.cons_append]at this ⊢
  rw[this];grind
 have hQ:sm (fun a=>y a*D (fun(r:β→Rat) c=>r c) (P.map f++f a::Q.map f) cols) Q=0:=by
  rw[sm_congr (h:=fun _=>0),sm_zero]
  intro a ha
  obtain⟨A,B,rfl⟩:=List.append_of_mem ha
  have:=Df_same (f:=fun(r:β→Rat) c=>r c) (u:=f a) (v:=f a) (fun _=>rfl) (C:=A.map f) (A:=P.map f) (B:=B.map f) (cols:=cols)
  simp only[List.map_append,List.map_cons]at this ⊢
  rw[this];grind
 rw[hP,hQ];grind
def turn(f:α→β→Rat)(cols:List β)(v:α)(g:α→Rat):List α→List α→Rat
 |_,[]=>0
 |A,r::Q=>g r*D f (A++v::Q) cols+turn f cols v g (A++ [r]) Q
theorem alt_turn{cols:List β}{v:α}{g:α→Rat}:∀{M A:List α},alt (fun r rs=>g r*D f (A++v::rs) cols) M=turn f cols v g A M:=by
 intro M
 induction M with
 |nil=>intro A;rfl
 |cons m Q ih=>
  intro A
  simp only[alt,turn]
  rw[←ih (A:=A++ [m])]
  rw[alt_congr (g:=fun r rs=>(-1)*(g r*D f (A++ [m]++v::rs) cols)) (fun r rs _=>by
   rw[Df_swap];simp only[List.append_assoc,List.singleton_append];grind),alt_smul]
  grind
theorem cramer{M:List α}{cols:List β}{v:α}(hl:M.length=cols.length){c0:β}(hc:c0∈cols):f v c0*D f M cols=turn f cols v (fun r=>f r c0) [] M:=by
 obtain⟨A,B,rfl⟩:=List.append_of_mem hc
 have h0:D f (v::M) (c0::(A++c0::B))=0:=by
  rw[D_turn (by simp[hl])]
  exact Df_same (f:=fun b a=>f a b) (u:=c0) (v:=c0) (fun _=>rfl) (A:=[]) (C:=A) (B:=B)
 rw[D_col (by simp[hl])]at h0
 simp only[alt]at h0
 have:=alt_turn (f:=f) (cols:=A++c0::B) (v:=v) (g:=fun r=>f r c0) (M:=M) (A:=[])
 simp only[List.nil_append]at this
 grind
theorem turn_sm{cols:List β}{v:α}:∀{M A:List α},M.Nodup→∃y:α→Rat,∀g:α→Rat,turn f cols v g A M=sm (fun a=>y a*g a) M:=by
 intro M
 induction M with
 |nil=>intro A _;exact⟨fun _=>0,fun g=>rfl⟩
 |cons r Q ih=>
  intro A hn
  obtain⟨h1,h2⟩:=List.nodup_cons.1 hn
  obtain⟨y,hy⟩:=ih (A:=A++ [r]) h2
  have:=Classical.propDecidable
  refine⟨fun a=>if a=r then D f (A++v::Q) cols else y a,fun g=>?_⟩
  simp only[turn,sm,if_true]
  rw[hy g,sm_congr (g:=fun a=>y a*g a) (h:=fun a=>(if a=r then D f (A++v::Q) cols else y a)*g a) (fun a ha=>by
   have hne:a≠r:=fun e=>h1 (by rw[←e];exact ha)
   simp only[if_neg hne])]
  grind
end
theorem span{α β:Type}{f:α→β→Rat}{M:List α}{cols:List β}(hl:M.length=cols.length)(hD:D f M cols≠0)(v:β→Rat):∃y:α→Rat,∀c,c∈cols→v c=sm (fun a=>y a*f a c) M:=by
 -- the vector as a further row
 obtain⟨f',hf'⟩:∃f':Option α→β→Rat,f'=fun o=>match o with|some a=>f a|none=>v:=⟨_,rfl⟩
 have hmap:∀{l:List α} {cols:List β},D f' (l.map some) cols=D f l cols:=by
  intro l
  induction l with
  |nil=>intro cols;rfl
  |cons a l ih=>
   intro cols
   simp only[List.map_cons,D]
   exact alt_congr fun c cs _=>by rw[ih,hf']
 have hn:(M.map some).Nodup:=by
  have:=Df_nodup (f:=f) (A:=[]) (M:=M) (cols:=cols) (by simpa using hD)
  refine List.pairwise_map.2 (this.imp fun h e=>h (Option.some.inj e))
 obtain⟨y,hy⟩:=turn_sm (f:=f') (cols:=cols) (v:=none) (A:=[]) hn
 refine⟨fun a=>y (some a)/D f M cols,fun c hc=>?_⟩
 have h1:=cramer (f:=f') (M:=M.map some) (cols:=cols) (v:=none) (by simpa using hl) hc
 rw[hmap,hy]at h1
 have h2:f' none c=v c:=by rw[hf']
 rw[h2]at h1
 have h3:∀(l:List α),sm (fun o=>y o*f' o c) (l.map some)=D f M cols*sm (fun a=>y (some a)/D f M cols*f a c) l:=by
  intro l
  induction l with
  |nil=>simp only[List.map_nil,sm];grind
  |cons a l ih=>
   simp only[List.map_cons,sm]
   rw[ih,show f' (some a) c=f a c by rw[hf']]
   grind
 rw[h3]at h1
 grind
end Go.Lp
end
section
namespace Go.Lp
section
variable {α β : Type} (f : α → β → Rat) (b : α → Rat) (w : β → Rat) (cols : List β)
def dt(a:α)(x:β→Rat):Rat:=sm (fun c=>f a c*x c) cols
def Dual(E S:List α):Prop:=∃y:α→Rat,(∀a,a∈S→y a≤0)∧∀c,c∈cols→w c=sm (fun a=>y a*f a c) (E++S)
def Feas(E L:List α)(x:β→Rat):Prop:=(∀a,a∈E→dt f cols a x=b a)∧∀a,a∈L→dt f cols a x≤b a
end
section
variable {α β : Type} {f : α → β → Rat} {b : α → Rat} {w : β → Rat} {cols : List β}
theorem dt_sum{M:List α}{y:α→Rat}{v:β→Rat}(h:∀c,c∈cols→v c=sm (fun a=>y a*f a c) M)(x:β→Rat):sm (fun c=>v c*x c) cols=sm (fun a=>y a*dt f cols a x) M:=by
 rw[sm_congr (h:=fun c=>sm (fun a=>x c*(y a*f a c)) M) (fun c hc=>by rw[h c hc,sm_smul];grind),sm_comm]
 refine sm_congr fun a _=>?_
 unfold dt
 rw[←sm_smul]
 exact sm_congr fun c _=>by grind
theorem dt_row{M:List α}{y:α→Rat}{v:α}(h:∀c,c∈cols→f v c=sm (fun a=>y a*f a c) M)(x:β→Rat):dt f cols v x=sm (fun a=>y a*dt f cols a x) M:=dt_sum h x
theorem corner_ex{M:List α}(hl:M.length=cols.length)(hD:D f M cols≠0)(r:α→Rat):∃x:β→Rat,∀a,a∈M→dt f cols a x=r a:=by
 rw[D_turn hl]at hD
 obtain⟨x,hx⟩:=span (f:=fun c a=>f a c) (M:=cols) (cols:=M) hl.symm hD r
 refine⟨x,fun a ha=>?_⟩
 rw[hx a ha]
 exact sm_congr fun c _=>by grind
theorem corner_un{M:List α}(hl:M.length=cols.length)(hD:D f M cols≠0){x z:β→Rat}(h:∀a,a∈M→dt f cols a x=dt f cols a z):∀c,c∈cols→x c=z c:=by
 intro c hc
 have hn:cols.Nodup:=by
  rw[D_turn hl]at hD
  exact Df_nodup (A:=[]) (by simpa using hD)
 have:=Classical.propDecidable
 obtain⟨y,hy⟩:=span hl hD (fun d=>if d=c then 1 else 0)
 have unit:∀(x:β→Rat),sm (fun d=>(if d=c then(1:Rat)else 0)*x d) cols=x c:=by
  intro x
  obtain⟨A,B,rfl⟩:=List.append_of_mem hc
  rw[List.nodup_append]at hn
  obtain⟨_,h2,h3⟩:=hn
  obtain⟨h4,_⟩:=List.nodup_cons.1 h2
  rw[sm_append]
  simp only[sm,if_true]
  rw[sm_congr (l:=A) (h:=fun _=>0) (fun d hd=>by
   have:d≠c:=h3 d hd c (List.mem_cons_self ..)
   simp only[if_neg this];grind),sm_congr (l:=B) (h:=fun _=>0) (fun d hd=>by
   have:d≠c:=fun e=>h4 (e ▸ hd)
   simp only[if_neg this];grind),sm_zero,sm_zero]
  grind
 have h1:=dt_sum hy x
 have h2:=dt_sum hy z
 rw[unit]at h1 h2
 rw[h1,h2]
 exact sm_congr fun a ha=>by rw[h a ha]
theorem dt_congr{a:α}{x z:β→Rat}(h:∀c,c∈cols→x c=z c):dt f cols a x=dt f cols a z:=sm_congr fun c hc=>by rw[h c hc]
theorem weak{E S:List α}{y:α→Rat}(hy:∀a,a∈S→y a≤0)(hw:∀c,c∈cols→w c=sm (fun a=>y a*f a c) (E++S)){x:β→Rat}(hE:∀a,a∈E→dt f cols a x=b a)(hS:∀a,a∈S→dt f cols a x≤b a) :
  sm (fun a=>y a*b a) (E++S)≤sm (fun c=>w c*x c) cols:=by
 rw[dt_sum hw x]
 refine sm_le fun a ha=>?_
 rcases List.mem_append.1 ha with h|h
 ·rw[hE a h];exact Rat.le_refl
 ·have h1:=hy a h
  have h2:=hS a h
  have:0≤(-(y a))*(b a-dt f cols a x):=Rat.mul_nonneg (by grind) (by grind)
  grind
theorem worth{E S:List α}{y:α→Rat}(hw:∀c,c∈cols→w c=sm (fun a=>y a*f a c) (E++S)){x:β→Rat}(hE:∀a,a∈E++S→dt f cols a x=b a):sm (fun c=>w c*x c) cols=sm (fun a=>y a*b a) (E++S):=by
 rw[dt_sum hw x]
 exact sm_congr fun a ha=>by rw[hE a ha]
theorem ratio(y β':α→Rat):∀(l:List α),(∃a,a∈l∧0<β' a)→∃j,j∈l∧0<β' j∧∀a,a∈l→0<β' a→y a*β' j≤y j*β' a:=by
 intro l
 induction l with
 |nil=>rintro ⟨a,h,_⟩;cases h
 |cons x l ih=>
  intro h
  by_cases hl:∃a,a∈l∧0<β' a
  ·obtain⟨j,hj,hp,hm⟩:=ih hl
   by_cases hx:0<β' x∧¬y x*β' j≤y j*β' x
   ·obtain⟨hx,hlt⟩:=hx
    refine⟨x,List.mem_cons_self ..,hx,fun a ha hpa=>?_⟩
    rcases List.mem_cons.1 ha with rfl|ha
    ·exact Rat.le_refl
    ·have h1:=hm a ha hpa
     have h2:y j*β' x<y x*β' j:=by grind
     -- y a / β a ≤ y j / β j < y x / β x
     have h3:y a*β' j*β' x≤y j*β' a*β' x:=Rat.mul_le_mul_of_nonneg_right h1 (by grind)
     have h4:y j*β' x*β' a≤y x*β' j*β' a:=Rat.mul_le_mul_of_nonneg_right (by grind) (by grind)
     have h5:y a*β' x*β' j≤y x*β' a*β' j:=by grind
     exact Rat.le_of_mul_le_mul_right h5 hp
   ·refine⟨j,List.mem_cons_of_mem _ hj,hp,fun a ha hpa=>?_⟩
    rcases List.mem_cons.1 ha with rfl|ha
    ·apply Classical.byContradiction;intro hn;exact hx ⟨hpa,hn⟩
    ·exact hm a ha hpa
  ·obtain⟨a,ha,hp⟩:=h
   have hax:a=x:=by
    rcases List.mem_cons.1 ha with h|h
    ·exact h
    ·exact absurd ⟨a,h,hp⟩ hl
   subst hax
   refine⟨a,List.mem_cons_self ..,hp,fun d hd hpd=>?_⟩
   rcases List.mem_cons.1 hd with rfl|hd
   ·exact Rat.le_refl
   ·exact absurd ⟨d,hd,hpd⟩ hl
theorem opt(f:α→β→Rat)(b:α→Rat)(w:β→Rat)(cols:List β):∀(n:Nat) (R E B:List α),B.length=n→E.length+n=cols.length→D f (E++B) cols≠0→Dual f w cols E B →
  (∀x,¬Feas f b cols E (B++R) x)∨∃S,(∀a,a∈S→a∈B++R)∧S.length=n∧D f (E++S) cols≠0∧Dual f w cols E S∧∃x,(∀a,a∈E++S→dt f cols a x=b a)∧∀a,a∈B++R→dt f cols a x≤b a:=by
 intro n
 induction n with
 |zero=>
  intro R E B hB hE hD hdual
  have hB:B=[]:=List.length_eq_zero_iff.1 hB
  subst hB
  simp only[List.append_nil,List.nil_append]at hD ⊢
  obtain⟨x,hx⟩:=corner_ex (by simpa using hE) hD b
  by_cases hR:∀a,a∈R→dt f cols a x≤b a
  ·exact .inr ⟨[],(fun a h=>(by cases h)),rfl,by simpa using hD,hdual,x,by simpa using hx,hR⟩
  ·refine .inl fun z hz=>hR fun a ha=>?_
   have:=corner_un (by simpa using hE) hD (x:=x) (z:=z) (fun a ha=>by rw[hx a ha,hz.1 a ha])
   rw[dt_congr this]
   exact hz.2 a ha
 |succ n ihn=>
  intro R
  induction R with
  |nil=>
   intro E B hB hE hD hdual
   obtain⟨x,hx⟩:=corner_ex (by simp[hB];omega) hD b
   refine .inr ⟨B,fun a h=>by simpa using h,hB,hD,hdual,x,hx,fun a ha=>?_⟩
   have ha:a∈B:=by simpa using ha
   rw[hx a (List.mem_append_right _ ha)]
   exact Rat.le_refl
  |cons v R ihR=>
   intro E B hB hE hD hdual
   have sub:∀a,a∈B++R→a∈B++v::R:=fun a ha=>by
    rcases List.mem_append.1 ha with h|h
    ·exact List.mem_append_left _ h
    ·exact List.mem_append_right _ (List.mem_cons_of_mem _ h)
   rcases ihR E B hB hE hD hdual with hno|⟨S,hS,hSl,hSD,⟨y,hy,hw⟩,x,hx,hxf⟩
   ·exact .inl fun z hz=>hno z ⟨hz.1,fun a ha=>hz.2 a (sub a ha)⟩
   ·by_cases hv:dt f cols v x≤b v
    ·refine .inr ⟨S,fun a ha=>sub a (hS a ha),hSl,hSD,⟨y,hy,hw⟩,x,hx,fun a ha=>?_⟩
     rcases List.mem_append.1 ha with h|h
     ·exact hxf a (List.mem_append_left _ h)
     ·rcases List.mem_cons.1 h with rfl|h
      ·exact hv
      ·exact hxf a (List.mem_append_right _ h)
    ·have hv:b v<dt f cols v x:=by grind
     have hlen:(E++S).length=cols.length:=by simp[hSl];omega
     obtain⟨β',hβ⟩:=span hlen hSD (f v)
     by_cases hpos:∃a,a∈S∧0<β' a
     ·obtain⟨j,hj,hpj,hmax⟩:=ratio y β' S hpos
      obtain⟨P,Q,rfl⟩:=List.append_of_mem hj
      have hnd:(E++(P++j::Q)).Nodup:=Df_nodup (A:=[]) (by simpa using hSD)
      have hDr:=Df_repl (f:=f) (cols:=cols) (P:=E++P) (Q:=Q) (j:=j) (v:=v) (y:=β') (by simpa using hβ)
      have hD1:D f (E++P++v::Q) cols≠0:=by
       rw[hDr]
       simp only[List.append_assoc]at hSD ⊢
       intro h0
       rcases Rat.mul_eq_zero.1 h0 with h|h
       ·grind
       ·exact hSD h
      have hperm:List.Perm (E++P++v::Q) ((E++ [v])++(P++Q)):=by
       simp only[List.append_assoc,List.singleton_append]
       exact List.Perm.append_left E List.perm_middle
      have hD2:=Df_perm_ne (f:=f) hperm hD1
      have hnd2:(E++P++v::Q).Nodup:=Df_nodup (A:=[]) (by simpa using hD1)
      have hlP:(P++Q).length=n:=by simp at hSl ⊢;omega
      -- the new weights
      have hdual2:Dual f w cols (E++ [v]) (P++Q):=by
       have:=Classical.propDecidable
       obtain⟨k,hk⟩:∃k,k=y j/β' j:=⟨_,rfl⟩
       have hkj:k*β' j=y j:=by rw[hk];grind
       have hvn:v∉E++P∧v∉Q:=by
        rw[List.nodup_append]at hnd2
        obtain⟨_,h2,h3⟩:=hnd2
        exact⟨fun h=>h3 v h v (List.mem_cons_self ..) rfl,(List.nodup_cons.1 h2).1⟩
       refine⟨fun a=>if a=v then k else y a-k*β' a,fun a ha=>?_,fun c hc=>?_⟩
       ·have hav:a≠v:=by
         rintro rfl
         rcases List.mem_append.1 ha with h|h
         ·exact hvn.1 (List.mem_append_right _ h)
         ·exact hvn.2 h
        simp only[if_neg hav]
        have haS:a∈P++j::Q:=by
         rcases List.mem_append.1 ha with h|h
         ·exact List.mem_append_left _ h
         ·exact List.mem_append_right _ (List.mem_cons_of_mem _ h)
        have h1:=hy a haS
        have h2:=hy j hj
        have hk0:k≤0:=by
         rcases @Rat.le_total k 0 with h|h
         ·exact h
         ·have:=Rat.mul_nonneg h (Rat.le_of_lt hpj)
          by_cases hk00:k=0
          ·grind
          ·have hkp:0<k:=by grind
           have:=Rat.mul_pos hkp hpj
           grind
        by_cases hb:0<β' a
        ·have h3:=hmax a haS hb
         have h4:y a*β' j≤k*β' a*β' j:=by rw[←hkj]at h3;grind
         have:=Rat.le_of_mul_le_mul_right h4 hpj
         grind
        ·have:0≤(-k)*(-(β' a)):=Rat.mul_nonneg (by grind) (by grind)
         grind
       ·have hsplit:sm (fun a=>(if a=v then k else y a-k*β' a)*f a c) ((E++ [v])++(P++Q))=k*f v c+sm (fun a=>(y a-k*β' a)*f a c) (E++P++Q):=by
         rw[sm_append,sm_append,sm_append]
         rw[sm_congr (l:=E) (h:=fun a=>(y a-k*β' a)*f a c) (fun a ha=>by
          have:a≠v:=fun e=>hvn.1 (by rw[←e];exact List.mem_append_left _ ha)
          simp only[if_neg this])]
         rw[sm_congr (l:=P) (h:=fun a=>(y a-k*β' a)*f a c) (fun a ha=>by
          have:a≠v:=fun e=>hvn.1 (by rw[←e];exact List.mem_append_right _ ha)
          simp only[if_neg this])]
         rw[sm_congr (l:=Q) (h:=fun a=>(y a-k*β' a)*f a c) (fun a ha=>by
          have:a≠v:=fun e=>hvn.2 (by rw[←e];exact ha)
          simp only[if_neg this])]
         simp only[sm,if_true]
         rw[sm_append,sm_append]
         grind
        rw[hsplit]
        have hsub:sm (fun a=>(y a-k*β' a)*f a c) (E++P++Q)=sm (fun a=>y a*f a c) (E++P++Q)-k*sm (fun a=>β' a*f a c) (E++P++Q):=by
         rw[←sm_smul]
         have:sm (fun a=>(y a-k*β' a)*f a c) (E++P++Q)+sm (fun a=>k*(β' a*f a c)) (E++P++Q)=sm (fun a=>y a*f a c) (E++P++Q):=by
          rw[←sm_add];exact sm_congr fun a _=>by grind
         grind
        have e1:=hw c hc
        have e2:=hβ c hc
        rw[sm_append,sm_append]at e1 e2
        simp only[sm]at e1 e2
        rw[hsub,sm_append,sm_append,sm_append,sm_append]
        grind
      rcases ihn (B++R) (E++ [v]) (P++Q) hlP (by simp;omega) hD2 hdual2 with hno|⟨S2,hS2,hS2l,hS2D,⟨y2,hy2,hw2⟩,x2,hx2,hx2f⟩
      ·
       refine .inl fun z hz=>?_
       have hzv:dt f cols v z≤b v:=hz.2 v (List.mem_append_right _ (List.mem_cons_self ..))
       obtain⟨t,ht⟩:∃t,t=(b v-dt f cols v z)/(dt f cols v x-dt f cols v z):=⟨_,rfl⟩
       have hden:0<dt f cols v x-dt f cols v z:=by grind
       have htm:t*(dt f cols v x-dt f cols v z)=b v-dt f cols v z:=by rw[ht];grind
       have ht0:0≤t:=by
        rcases @Rat.le_total 0 t with h|h
        ·exact h
        ·by_cases h0:t=0
         ·grind
         ·have:0<(-t)*(dt f cols v x-dt f cols v z):=Rat.mul_pos (by grind) hden
          grind
       have ht1:t≤1:=by
        rcases @Rat.le_total t 1 with h|h
        ·exact h
        ·by_cases h0:t=1
         ·grind
         ·have:0<(t-1)*(dt f cols v x-dt f cols v z):=Rat.mul_pos (by grind) hden
          grind
       obtain⟨p,hp⟩:∃p:β→Rat,p=fun c=>z c+t*(x c-z c):=⟨_,rfl⟩
       have hdp:∀a,dt f cols a p=dt f cols a z+t*(dt f cols a x-dt f cols a z):=by
        intro a
        unfold dt
        have:sm (fun c=>f a c*x c) cols=sm (fun c=>f a c*z c) cols+sm (fun c=>f a c*(x c-z c)) cols:=by
         rw[←sm_add];exact sm_congr fun c _=>by grind
        rw[this,hp,sm_congr (h:=fun c=>f a c*z c+t*(f a c*(x c-z c))) (fun c _=>by grind),sm_add,sm_smul]
        grind
       have conv:∀a,dt f cols a z≤b a→dt f cols a x≤b a→dt f cols a p≤b a:=by
        intro a h1 h2
        rw[hdp]
        have g1:0≤(1-t)*(b a-dt f cols a z):=Rat.mul_nonneg (by grind) (by grind)
        have g2:0≤t*(b a-dt f cols a x):=Rat.mul_nonneg ht0 (by grind)
        grind
       refine hno p ⟨fun a ha=>?_,fun a ha=>?_⟩
       ·rcases List.mem_append.1 ha with h|h
        ·rw[hdp,hz.1 a h,hx a (List.mem_append_left _ h)];grind
        ·rw[List.mem_singleton.1 h,hdp,htm];grind
       ·have ha':a∈B++R:=by
         rcases List.mem_append.1 ha with h|h
         ·refine hS a ?_
          rcases List.mem_append.1 h with h|h
          ·exact List.mem_append_left _ h
          ·exact List.mem_append_right _ (List.mem_cons_of_mem _ h)
         ·exact h
        exact conv a (hz.2 a (sub a ha')) (hxf a ha')
      ·have memS2:∀a,a∈S2→a∈B++R:=by
        intro a ha
        rcases List.mem_append.1 (hS2 a ha)with h|h
        ·refine hS a ?_
         rcases List.mem_append.1 h with h|h
         ·exact List.mem_append_left _ h
         ·exact List.mem_append_right _ (List.mem_cons_of_mem _ h)
        ·exact h
       have hBR:∀a,a∈B++R→dt f cols a x2≤b a:=fun a ha=>hx2f a (List.mem_append_right _ ha)
       have hvx:dt f cols v x2=b v:=hx2 v (by simp)
       -- the weight of v
       have hyv:y2 v≤0:=by
        have o1:sm (fun c=>w c*x c) cols≤sm (fun c=>w c*x2 c) cols:=by
         rw[worth hw hx]
         exact weak hy hw (fun a ha=>hx2 a (by simp[ha])) fun a ha=>hBR a (hS a ha)
        have o2:=worth hw2 hx2
        have o3:=dt_sum hw2 x
        rw[sm_append,sm_append]at o2 o3
        simp only[sm]at o2 o3
        have o4:sm (fun a=>y2 a*b a) S2≤sm (fun a=>y2 a*dt f cols a x) S2:=sm_le fun a ha=>by
         have h1:=hy2 a ha
         have h2:=hxf a (memS2 a ha)
         have:0≤(-(y2 a))*(b a-dt f cols a x):=Rat.mul_nonneg (by grind) (by grind)
         grind
        have o5:sm (fun a=>y2 a*dt f cols a x) E=sm (fun a=>y2 a*b a) E:=sm_congr fun a ha=>by rw[hx a (List.mem_append_left _ ha)]
        rcases @Rat.le_total (y2 v) 0 with h|h
        ·exact h
        ·by_cases h0:y2 v=0
         ·grind
         ·have:0<y2 v*(dt f cols v x-b v):=Rat.mul_pos (by grind) (by grind)
          grind
       refine .inr ⟨v::S2,fun a ha=>?_,by simp[hS2l],by simpa using hS2D,⟨y2,fun a ha=>?_,by simpa using hw2⟩,x2,by simpa using hx2,fun a ha=>?_⟩
       ·rcases List.mem_cons.1 ha with rfl|h
        ·simp
        ·exact sub a (memS2 a h)
       ·rcases List.mem_cons.1 ha with rfl|h
        ·exact hyv
        ·exact hy2 a h
       ·rcases List.mem_append.1 ha with h|h
        ·exact hBR a (List.mem_append_left _ h)
        ·rcases List.mem_cons.1 h with rfl|h
         ·rw[hvx];exact Rat.le_refl
         ·exact hBR a (List.mem_append_right _ h)
     ·
      refine .inl fun z hz=>?_
      have h1:=dt_row hβ z
      have h2:=dt_row hβ x
      have hzv:dt f cols v z≤b v:=hz.2 v (List.mem_append_right _ (List.mem_cons_self ..))
      have:sm (fun a=>β' a*dt f cols a x) (E++S)≤sm (fun a=>β' a*dt f cols a z) (E++S):=sm_le fun a ha=>by
       rcases List.mem_append.1 ha with h|h
       ·rw[hx a ha,hz.1 a h];exact Rat.le_refl
       ·have g1:¬0<β' a:=fun g=>hpos ⟨a,h,g⟩
        have g2:=hz.2 a (sub a (hS a h))
        rw[hx a ha]
        have:0≤(-(β' a))*(b a-dt f cols a z):=Rat.mul_nonneg (by grind) (by grind)
        grind
      grind
end
end Go.Lp
end
section
namespace Go.Lp
def altI{α:Type}(f:α→List α→Int):List α→Int
 |[]=>0
 |c::cs=>f c cs-altI (fun d ds=>f d (c::ds)) cs
def DI{α β:Type}(f:α→β→Int):List α→List β→Int
 |[],_=>1
 |r::rs,cols=>altI (fun c cs=>f r c*DI f rs cs) cols
section
variable {α β : Type}
theorem altI_congr:∀{l:List α} {f g:α→List α→Int},(∀c cs,cs.length+1=l.length→f c cs=g c cs)→altI f l=altI g l:=by
 intro l
 induction l with
 |nil=>intro f g _;rfl
 |cons c cs ih=>
  intro f g h
  simp only[altI]
  rw[h c cs rfl,ih (fun d ds hd=>h d (c::ds) (by simp;omega))]
theorem alt_cast{f:α→List α→Int}{l:List α}:((altI f l:Int):Rat)=alt (fun c cs=>((f c cs:Int):Rat)) l:=by
 induction l generalizing f with
 |nil=>rfl
 |cons c cs ih=>simp only[altI,alt];rw[Rat.intCast_sub,ih]
theorem D_cast{f:α→β→Int}:∀{rows:List α} {cols:List β},((DI f rows cols:Int):Rat)=D (fun a c=>((f a c:Int):Rat)) rows cols:=by
 intro rows
 induction rows with
 |nil=>intro cols;rfl
 |cons r rs ih=>
  intro cols
  simp only[DI,D]
  rw[alt_cast]
  exact alt_congr fun c cs _=>by rw[Rat.intCast_mul,ih]
theorem D_ne{f:α→β→Int}{rows:List α}{cols:List β}:D (fun a c=>((f a c:Int):Rat)) rows cols≠0↔DI f rows cols≠0:=by
 rw[←D_cast]
 constructor
 ·intro h e;exact h (by rw[e];rfl)
 ·intro h e;exact h (Rat.intCast_inj.1 (by rw[e];rfl))
def pK(K:β→Nat):List β→Nat
 |[]=>1
 |c::cs=>K c*pK K cs
def fact:Nat→Nat
 |0=>1
 |n+1=>(n+1)*fact n
theorem pK_perm{K:β→Nat}{l k:List β}(h:l.Perm k):pK K l=pK K k:=by
 induction h with
 |nil=>rfl
 |cons a _ ih=>simp only[pK];rw[ih]
 |swap a b l=>simp only[pK];rw[←Nat.mul_assoc,←Nat.mul_assoc,Nat.mul_comm (K a)]
 |trans _ _ h1 h2=>rw[h1,h2]
theorem altI_bound{T:Nat}:∀{l:List β} {f:β→List β→Int},(∀c cs,(c::cs).Perm l→(f c cs).natAbs≤T)→(altI f l).natAbs≤l.length*T:=by
 intro l
 induction l with
 |nil=>intro f _;simp[altI]
 |cons c cs ih=>
  intro f h
  simp only[altI]
  have h1:=h c cs (List.Perm.refl _)
  have h2:=ih (f:=fun d ds=>f d (c::ds)) (fun d ds hd=>h d (c::ds) ((List.Perm.swap c d ds).trans (hd.cons c)))
  rw[List.length_cons,Nat.succ_mul]
  omega
theorem DI_bound{f:α→β→Int}{K:β→Nat}:∀{rows:List α} {cols:List β},rows.length=cols.length→(∀r,r∈rows→∀c,c∈cols→(f r c).natAbs≤K c)→(DI f rows cols).natAbs≤fact cols.length*pK K cols:=by
 intro rows
 induction rows with
 |nil=>intro cols h _;simp at h;have:cols=[]:=List.length_eq_zero_iff.1 h.symm;subst this;simp[DI,fact,pK]
 |cons r rs ih=>
  intro cols h hb
  simp only[DI]
  have hl:cols.length=rs.length+1:=by simpa using h.symm
  have:=altI_bound (l:=cols) (T:=fact rs.length*pK K cols) (f:=fun c cs=>f r c*DI f rs cs) (fun c cs hp=>by
   have hlen:=hp.length_eq
   simp only[List.length_cons]at hlen
   have h1:=hb r (List.mem_cons_self ..) c (hp.subset (List.mem_cons_self ..))
   have h2:=ih (cols:=cs) (by omega) (fun q hq d hd=>hb q (List.mem_cons_of_mem _ hq) d (hp.subset (List.mem_cons_of_mem _ hd)))
   have h3:=pK_perm (K:=K) hp
   simp only[pK]at h3
   rw[Int.natAbs_mul,←h3,show cs.length=rs.length by omega]at *
   calc (f r c).natAbs*(DI f rs cs).natAbs≤K c*(fact rs.length*pK K cs):=Nat.mul_le_mul h1 h2
    _=fact rs.length*(K c*pK K cs):=by rw[Nat.mul_left_comm])
  rw[hl]at this ⊢
  simp only[fact]
  rw[Nat.mul_assoc]
  exact this
end
end Go.Lp
end
section
namespace Go.Lp
def smI{α:Type}(g:α→Int):List α→Int
 |[]=>0
 |a::l=>g a+smI g l
section
variable {α β γ : Type}
theorem smI_cast{g:α→Int}:∀{l:List α},((smI g l:Int):Rat)=sm (fun a=>(g a:Rat)) l:=by
 intro l
 induction l with
 |nil=>rfl
 |cons a l ih=>simp only[smI,sm];rw[Rat.intCast_add,ih]
theorem smI_congr{g h:α→Int}:∀{l:List α},(∀a,a∈l→g a=h a)→smI g l=smI h l:=by
 intro l
 induction l with
 |nil=>intro _;rfl
 |cons a l ih=>intro e;simp only[smI];rw[e a (List.mem_cons_self ..),ih fun b hb=>e b (List.mem_cons_of_mem _ hb)]
theorem smI_append{g:α→Int}:∀{l k:List α},smI g (l++k)=smI g l+smI g k:=by
 intro l
 induction l with
 |nil=>intro k;simp only[List.nil_append,smI];omega
 |cons a l ih=>intro k;simp only[List.cons_append,smI];rw[ih];omega
theorem smI_add{g h:α→Int}:∀{l:List α},smI (fun a=>g a+h a) l=smI g l+smI h l:=by
 intro l
 induction l with
 |nil=>simp only[smI];omega
 |cons a l ih=>simp only[smI];rw[ih];omega
theorem smI_smul{k:Int}{g:α→Int}:∀{l:List α},smI (fun a=>k*g a) l=k*smI g l:=by
 intro l
 induction l with
 |nil=>simp only[smI];omega
 |cons a l ih=>simp only[smI];rw[ih,Int.mul_add]
theorem smI_zero:∀{l:List α},smI (fun _=>(0:Int)) l=0:=by
 intro l
 induction l with
 |nil=>rfl
 |cons a l ih=>simp only[smI];rw[ih];omega
theorem smI_comm{F:α→β→Int}:∀{l:List α} {k:List β},smI (fun a=>smI (F a) k) l=smI (fun b=>smI (fun a=>F a b) l) k:=by
 intro l
 induction l with
 |nil=>intro k;simp only[smI];rw[smI_zero]
 |cons a l ih=>intro k;simp only[smI];rw[ih,smI_add]
theorem smI_le{g h:α→Int}:∀{l:List α},(∀a,a∈l→g a≤h a)→smI g l≤smI h l:=by
 intro l
 induction l with
 |nil=>intro _;exact Int.le_refl _
 |cons a l ih=>
  intro e
  have h1:=e a (List.mem_cons_self ..)
  have h2:=ih fun b hb=>e b (List.mem_cons_of_mem _ hb)
  simp only[smI]
  omega
theorem sm_map{g:β→Rat}{h:α→β}:∀{l:List α},sm g (l.map h)=sm (fun a=>g (h a)) l:=by
 intro l
 induction l with
 |nil=>rfl
 |cons a l ih=>simp only[List.map_cons,sm];rw[ih]
theorem smI_abs{g:α→Int}{G:α→Nat}:∀{l:List α},(∀a,a∈l→(g a).natAbs≤G a)→(smI g l).natAbs≤(l.map G).sum:=by
 intro l
 induction l with
 |nil=>intro _;simp[smI]
 |cons a l ih=>
  intro e
  have h1:=e a (List.mem_cons_self ..)
  have h2:=ih fun b hb=>e b (List.mem_cons_of_mem _ hb)
  simp only[smI,List.map_cons,List.sum_cons]
  omega
theorem cramer_col[DecidableEq β]{f:α→β→Rat}{M:List α}{cols:List β}(hl:M.length=cols.length)(hnd:cols.Nodup){x:β→Rat}{r:α→Rat}
  (h:∀a,a∈M→sm (fun c=>f a c*x c) cols=r a) {k:β} (hk:k∈cols):D (fun a c=>if c=k then r a else f a c) M cols=x k*D f M cols:=by
 rw[D_turn hl,D_turn (f:=f) hl]
 obtain⟨P,Q,rfl⟩:=List.append_of_mem hk
 have hn:=hnd
 rw[List.nodup_append]at hn
 obtain⟨_,hq,hpq⟩:=hn
 have hkQ:=(List.nodup_cons.1 hq).1
 have hkP:k∉P:=fun hp=>hpq k hp k (List.mem_cons_self ..) rfl
 obtain⟨g,hg⟩:∃g:Option β→α→Rat,g=fun o a=>match o with|some b=>f a b|none=>r a:=⟨_,rfl⟩
 have key:=Df_repl (f:=g) (cols:=M) (P:=P.map some) (Q:=Q.map some) (j:=some k) (v:=none) (y:=fun o=>match o with|some b=>x b|none=>0) (fun a ha=>by
  have e:P.map some++some k::Q.map some=(P++k::Q).map some:=by simp
  rw[e,sm_map]
  subst hg
  show r a=_
  rw[←h a ha]
  exact sm_congr fun c _=>by show f a c*x c=x c*f a c;grind)
 rw[D_map,List.map_append,List.map_cons]
 rw[D_map (rows:=P++k::Q),List.map_append,List.map_cons]
 rw[D_map,List.map_append,List.map_cons]at key
 rw[D_map (rows:=P.map some++some k::Q.map some),List.map_append,List.map_cons]at key
 simp only[List.map_map]at key
 subst hg
 rw[List.map_congr_left (l:=P) (g:=fun b a=>f a b) (fun b hb=>by
  funext a
  have:b≠k:=fun e=>hkP (by rw[←e];exact hb)
  rw[if_neg this])]
 rw[List.map_congr_left (l:=Q) (g:=fun b a=>f a b) (fun b hb=>by
  funext a
  have:b≠k:=fun e=>hkQ (by rw[←e];exact hb)
  rw[if_neg this])]
 simp only[if_true]
 exact key
theorem cramer_colI[DecidableEq β]{f:α→β→Int}{M:List α}{cols:List β}(hl:M.length=cols.length)(hnd:cols.Nodup){x:β→Rat}{r:α→Int}
  (h:∀a,a∈M→sm (fun c=>(f a c:Rat)*x c) cols=(r a:Rat)) {k:β} (hk:k∈cols):((DI (fun a c=>if c=k then r a else f a c) M cols:Int):Rat)=x k*((DI f M cols:Int):Rat):=by
 rw[D_cast,D_cast]
 have:=cramer_col (f:=fun a c=>(f a c:Rat)) hl hnd (r:=fun a=>(r a:Rat)) h hk
 rw[←this]
 congr 1
 funext a c
 split <;>rfl
end
end Go.Lp
end
section
set_option maxRecDepth 100000
namespace Go.Pl
open Go.V Go.Proofs Go.Lp
theorem sumK_smI(f:Nat→Int):∀k,sumK f k=smI f (List.range k):=by
 intro k
 induction k with
 |zero=>rfl
 |succ k ih=>rw[sumK_succ,List.range_succ,smI_append,ih];simp[smI]
theorem dotK_smI(u v:List Int)(k:Nat):dotK u v k=smI (fun i=>u.getD i 0*v.getD i 0) (List.range k):=sumK_smI _ k
theorem smI_mulr{α:Type}{g:α→Int}{k:Int}{l:List α}:smI g l*k=smI (fun a=>g a*k) l:=by
 rw[Int.mul_comm,←smI_smul]
 exact smI_congr fun a _=>Int.mul_comm _ _
structure Allowed(mo:List Int)(de:List Dem)(den:Int)(pa:List Int):Prop where
 top:∀i,i<mo.length→pa.getD i 0≤mo.getD i 0*den
 room:∀j,j<de.length→dotK (de.getD j dfD).co pa mo.length≤(de.getD j dfD).am*den
theorem told_mul{n d:Int}(hd:0<d):∃g:Int,0<g∧n=M.told1 n d*g∧d=M.told2 n d*g:=by
 have hg:Int.gcd n d≠0:=fun h=>by have:=Int.gcd_eq_zero_iff.1 h;omega
 refine⟨(Int.gcd n d:Nat),by omega,?_,?_⟩
 ·unfold M.told1
  exact(Int.tdiv_mul_cancel (Int.gcd_dvd_left ..)).symm
 ·unfold M.told2
  exact(Int.tdiv_mul_cancel (Int.gcd_dvd_right ..)).symm
theorem told2_pos{n d:Int}(hd:0<d):0<M.told2 n d:=by
 obtain⟨g,hg,_,h2⟩:=told_mul (n:=n) hd
 rcases Int.lt_or_le 0 (M.told2 n d)with h|h
 ·exact h
 ·have:=Int.mul_nonpos_of_nonpos_of_nonneg h (Int.le_of_lt hg)
  omega
end Go.Pl
end
