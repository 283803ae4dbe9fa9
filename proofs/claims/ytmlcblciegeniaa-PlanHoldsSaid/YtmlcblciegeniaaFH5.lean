/- The parts of the engines, of their contracts and of the plain laws that the claim rests on: A13, A16, A17, A19, A20, A21, A22, A24, A26, A28, A32, A33, A34, A35, A36, A37, A38, A39, A40, A42, A43, A44, A56, A76, A77, A78d, A78, A79, A86. -/
import Derived.Test.YtmlcblciegeniaaFH4
set_option linter.unusedVariables false
set_option linter.unusedSimpArgs false
section
set_option maxRecDepth 100000
namespace Go.Pl
open Go.V Go.Proofs
def canon(g:Nat)(i d:Int):List Ag:=[.agg [.sl true 2 4 (eSc.F [⟨1000,0,0,20000⟩,⟨1000,0,0,10000⟩]),dI 0],.c (dI i),.c (.fc g 1 (fun _=>dR [⟨d,d⟩,⟨d,d⟩]))]
def nd_t110_185_0_78:List Prop:=[
 Enc.Is eRg (List.length [(Rg.mk (78:Int) (78:Int)),(Rg.mk (78:Int) (78:Int))]) (Enc.F eRg [(Rg.mk (78:Int) (78:Int)),(Rg.mk (78:Int) (78:Int))]),
 (0:Int)≤(0:Int),
 (0:Int)<(2:Int),
 (0:Int)≤(0:Int),
 (0:Int)<(2:Int),
 (78:Int)≠(0:Int),
 (78:Int)≠(0:Int),
 (78:Int)≠(0:Int),
 Enc.Is eRg (List.length [(Rg.mk (78:Int) (78:Int)),(Rg.mk (78:Int) (78:Int))]) (Enc.F eRg [(Rg.mk (78:Int) (78:Int)),(Rg.mk (78:Int) (78:Int))]),
 (0:Int)≤(1:Int),
 (1:Int)<(2:Int),
 (0:Int)≤(1:Int),
 (1:Int)<(2:Int),
 (78:Int)≠(0:Int),
 (78:Int)≠(0:Int),
 (78:Int)≠(0:Int),
 i64ok (40:Int),
 i64ok (38:Int),
 (0:Int)<(78:Int)∧(78:Int)<(9223372036854775808:Int),
 (0:Int)<(78:Int)∧(78:Int)<(9223372036854775808:Int),
 i64ok (40:Int),
 i64ok (38:Int),
 (0:Int)<(78:Int)∧(78:Int)<(9223372036854775808:Int),
 (0:Int)<(78:Int)∧(78:Int)<(9223372036854775808:Int),
 i64ok (38:Int),
 i64ok (40:Int),
 (0:Int)<(78:Int)∧(78:Int)<(9223372036854775808:Int),
 (0:Int)<(78:Int)∧(78:Int)<(9223372036854775808:Int)]
theorem t110_185_0_78:runFnX Try.prog G0 (lookS [v131,v185]) (fun _=>[(999999,[],none)]) [] 1 60 3 110 Try.f110 (canon 185 0 78) =
  T.needs nd_t110_185_0_78 (T.ret [Ar.agg [D.int IntKind.i64 (25641:Int),D.int IntKind.i64 (25642:Int)]]):=by kernel_rfl
theorem all_t110_185_0_78:All nd_t110_185_0_78:=by
 unfold nd_t110_185_0_78
 repeat (refine⟨(by first|exact of_decide_eq_true rfl|exact fun i j _ _=>D.eqv_refl _|exact Enc.is_F _ _ _|exact fun i j hi _=>absurd hi (Nat.not_lt_zero i)),?_⟩)
 trivial
theorem w_t110_185_0_78:(T.needs nd_t110_185_0_78 (T.ret [Ar.agg [D.int IntKind.i64 (25641:Int),D.int IntKind.i64 (25642:Int)]])).wp (fun rs=>rsEqv rs [.agg [dI 25641,dI 25642]]):=by
 refine T.needs_wp all_t110_185_0_78 ?_
 exact rsEqv_refl _
def nd_t110_185_0_97:List Prop:=[
 Enc.Is eRg (List.length [(Rg.mk (97:Int) (97:Int)),(Rg.mk (97:Int) (97:Int))]) (Enc.F eRg [(Rg.mk (97:Int) (97:Int)),(Rg.mk (97:Int) (97:Int))]),
 (0:Int)≤(0:Int),
 (0:Int)<(2:Int),
 (0:Int)≤(0:Int),
 (0:Int)<(2:Int),
 (97:Int)≠(0:Int),
 (97:Int)≠(0:Int),
 (97:Int)≠(0:Int),
 Enc.Is eRg (List.length [(Rg.mk (97:Int) (97:Int)),(Rg.mk (97:Int) (97:Int))]) (Enc.F eRg [(Rg.mk (97:Int) (97:Int)),(Rg.mk (97:Int) (97:Int))]),
 (0:Int)≤(1:Int),
 (1:Int)<(2:Int),
 (0:Int)≤(1:Int),
 (1:Int)<(2:Int),
 (97:Int)≠(0:Int),
 (97:Int)≠(0:Int),
 (97:Int)≠(0:Int),
 i64ok (27:Int),
 i64ok (70:Int),
 (0:Int)<(97:Int)∧(97:Int)<(9223372036854775808:Int),
 (0:Int)<(97:Int)∧(97:Int)<(9223372036854775808:Int),
 i64ok (27:Int),
 i64ok (70:Int),
 (0:Int)<(97:Int)∧(97:Int)<(9223372036854775808:Int),
 (0:Int)<(97:Int)∧(97:Int)<(9223372036854775808:Int)]
theorem t110_185_0_97:runFnX Try.prog G0 (lookS [v131,v185]) (fun _=>[(999999,[],none)]) [] 1 60 3 110 Try.f110 (canon 185 0 97) =
  T.needs nd_t110_185_0_97 (T.ret [Ar.agg [D.int IntKind.i64 (20618:Int),D.int IntKind.i64 (20619:Int)]]):=by kernel_rfl
theorem all_t110_185_0_97:All nd_t110_185_0_97:=by
 unfold nd_t110_185_0_97
 repeat (refine⟨(by first|exact of_decide_eq_true rfl|exact fun i j _ _=>D.eqv_refl _|exact Enc.is_F _ _ _|exact fun i j hi _=>absurd hi (Nat.not_lt_zero i)),?_⟩)
 trivial
theorem w_t110_185_0_97:(T.needs nd_t110_185_0_97 (T.ret [Ar.agg [D.int IntKind.i64 (20618:Int),D.int IntKind.i64 (20619:Int)]])).wp (fun rs=>rsEqv rs [.agg [dI 20618,dI 20619]]):=by
 refine T.needs_wp all_t110_185_0_97 ?_
 exact rsEqv_refl _
def nd_t110_185_0_99:List Prop:=[
 Enc.Is eRg (List.length [(Rg.mk (99:Int) (99:Int)),(Rg.mk (99:Int) (99:Int))]) (Enc.F eRg [(Rg.mk (99:Int) (99:Int)),(Rg.mk (99:Int) (99:Int))]),
 (0:Int)≤(0:Int),
 (0:Int)<(2:Int),
 (0:Int)≤(0:Int),
 (0:Int)<(2:Int),
 (99:Int)≠(0:Int),
 (99:Int)≠(0:Int),
 (99:Int)≠(0:Int),
 Enc.Is eRg (List.length [(Rg.mk (99:Int) (99:Int)),(Rg.mk (99:Int) (99:Int))]) (Enc.F eRg [(Rg.mk (99:Int) (99:Int)),(Rg.mk (99:Int) (99:Int))]),
 (0:Int)≤(1:Int),
 (1:Int)<(2:Int),
 (0:Int)≤(1:Int),
 (1:Int)<(2:Int),
 (99:Int)≠(0:Int),
 (99:Int)≠(0:Int),
 (99:Int)≠(0:Int),
 i64ok (1:Int),
 i64ok (98:Int),
 (0:Int)<(99:Int)∧(99:Int)<(9223372036854775808:Int),
 (0:Int)<(99:Int)∧(99:Int)<(9223372036854775808:Int),
 i64ok (1:Int),
 i64ok (98:Int),
 (0:Int)<(99:Int)∧(99:Int)<(9223372036854775808:Int),
 (0:Int)<(99:Int)∧(99:Int)<(9223372036854775808:Int)]
theorem t110_185_0_99:runFnX Try.prog G0 (lookS [v131,v185]) (fun _=>[(999999,[],none)]) [] 1 60 3 110 Try.f110 (canon 185 0 99) =
  T.needs nd_t110_185_0_99 (T.ret [Ar.agg [D.int IntKind.i64 (20202:Int),D.int IntKind.i64 (20203:Int)]]):=by kernel_rfl
theorem all_t110_185_0_99:All nd_t110_185_0_99:=by
 unfold nd_t110_185_0_99
 repeat (refine⟨(by first|exact of_decide_eq_true rfl|exact fun i j _ _=>D.eqv_refl _|exact Enc.is_F _ _ _|exact fun i j hi _=>absurd hi (Nat.not_lt_zero i)),?_⟩)
 trivial
theorem w_t110_185_0_99:(T.needs nd_t110_185_0_99 (T.ret [Ar.agg [D.int IntKind.i64 (20202:Int),D.int IntKind.i64 (20203:Int)]])).wp (fun rs=>rsEqv rs [.agg [dI 20202,dI 20203]]):=by
 refine T.needs_wp all_t110_185_0_99 ?_
 exact rsEqv_refl _
def nd_t110_185_0_100:List Prop:=[
 Enc.Is eRg (List.length [(Rg.mk (100:Int) (100:Int)),(Rg.mk (100:Int) (100:Int))]) (Enc.F eRg [(Rg.mk (100:Int) (100:Int)),(Rg.mk (100:Int) (100:Int))]),
 (0:Int)≤(0:Int),
 (0:Int)<(2:Int),
 (0:Int)≤(0:Int),
 (0:Int)<(2:Int),
 (100:Int)≠(0:Int),
 (100:Int)≠(0:Int),
 (100:Int)≠(0:Int),
 Enc.Is eRg (List.length [(Rg.mk (100:Int) (100:Int)),(Rg.mk (100:Int) (100:Int))]) (Enc.F eRg [(Rg.mk (100:Int) (100:Int)),(Rg.mk (100:Int) (100:Int))]),
 (0:Int)≤(1:Int),
 (1:Int)<(2:Int),
 (0:Int)≤(1:Int),
 (1:Int)<(2:Int),
 (100:Int)≠(0:Int),
 (100:Int)≠(0:Int),
 (100:Int)≠(0:Int),
 i64ok (0:Int),
 i64ok (100:Int),
 (0:Int)<(100:Int)∧(100:Int)<(9223372036854775808:Int),
 (0:Int)<(100:Int)∧(100:Int)<(9223372036854775808:Int)]
theorem t110_185_0_100:runFnX Try.prog G0 (lookS [v131,v185]) (fun _=>[(999999,[],none)]) [] 1 60 3 110 Try.f110 (canon 185 0 100) =
  T.needs nd_t110_185_0_100 (T.ret [Ar.agg [D.int IntKind.i64 (20000:Int),D.int IntKind.i64 (20000:Int)]]):=by kernel_rfl
theorem all_t110_185_0_100:All nd_t110_185_0_100:=by
 unfold nd_t110_185_0_100
 repeat (refine⟨(by first|exact of_decide_eq_true rfl|exact fun i j _ _=>D.eqv_refl _|exact Enc.is_F _ _ _|exact fun i j hi _=>absurd hi (Nat.not_lt_zero i)),?_⟩)
 trivial
theorem w_t110_185_0_100:(T.needs nd_t110_185_0_100 (T.ret [Ar.agg [D.int IntKind.i64 (20000:Int),D.int IntKind.i64 (20000:Int)]])).wp (fun rs=>rsEqv rs [.agg [dI 20000,dI 20000]]):=by
 refine T.needs_wp all_t110_185_0_100 ?_
 exact rsEqv_refl _
def nd_t110_185_0_101:List Prop:=[
 Enc.Is eRg (List.length [(Rg.mk (101:Int) (101:Int)),(Rg.mk (101:Int) (101:Int))]) (Enc.F eRg [(Rg.mk (101:Int) (101:Int)),(Rg.mk (101:Int) (101:Int))]),
 (0:Int)≤(0:Int),
 (0:Int)<(2:Int),
 (0:Int)≤(0:Int),
 (0:Int)<(2:Int),
 (101:Int)≠(0:Int),
 (101:Int)≠(0:Int),
 (101:Int)≠(0:Int),
 Enc.Is eRg (List.length [(Rg.mk (101:Int) (101:Int)),(Rg.mk (101:Int) (101:Int))]) (Enc.F eRg [(Rg.mk (101:Int) (101:Int)),(Rg.mk (101:Int) (101:Int))]),
 (0:Int)≤(1:Int),
 (1:Int)<(2:Int),
 (0:Int)≤(1:Int),
 (1:Int)<(2:Int),
 (101:Int)≠(0:Int),
 (101:Int)≠(0:Int),
 (101:Int)≠(0:Int),
 i64ok (100:Int),
 i64ok (1:Int),
 (0:Int)<(101:Int)∧(101:Int)<(9223372036854775808:Int),
 (0:Int)<(101:Int)∧(101:Int)<(9223372036854775808:Int),
 i64ok (100:Int),
 i64ok (1:Int),
 (0:Int)<(101:Int)∧(101:Int)<(9223372036854775808:Int),
 (0:Int)<(101:Int)∧(101:Int)<(9223372036854775808:Int),
 i64ok (1:Int),
 i64ok (100:Int),
 (0:Int)<(101:Int)∧(101:Int)<(9223372036854775808:Int),
 (0:Int)<(101:Int)∧(101:Int)<(9223372036854775808:Int)]
theorem t110_185_0_101:runFnX Try.prog G0 (lookS [v131,v185]) (fun _=>[(999999,[],none)]) [] 1 60 3 110 Try.f110 (canon 185 0 101) =
  T.needs nd_t110_185_0_101 (T.ret [Ar.agg [D.int IntKind.i64 (19801:Int),D.int IntKind.i64 (19802:Int)]]):=by kernel_rfl
theorem all_t110_185_0_101:All nd_t110_185_0_101:=by
 unfold nd_t110_185_0_101
 repeat (refine⟨(by first|exact of_decide_eq_true rfl|exact fun i j _ _=>D.eqv_refl _|exact Enc.is_F _ _ _|exact fun i j hi _=>absurd hi (Nat.not_lt_zero i)),?_⟩)
 trivial
theorem w_t110_185_0_101:(T.needs nd_t110_185_0_101 (T.ret [Ar.agg [D.int IntKind.i64 (19801:Int),D.int IntKind.i64 (19802:Int)]])).wp (fun rs=>rsEqv rs [.agg [dI 19801,dI 19802]]):=by
 refine T.needs_wp all_t110_185_0_101 ?_
 exact rsEqv_refl _
def nd_t110_185_0_102:List Prop:=[
 Enc.Is eRg (List.length [(Rg.mk (102:Int) (102:Int)),(Rg.mk (102:Int) (102:Int))]) (Enc.F eRg [(Rg.mk (102:Int) (102:Int)),(Rg.mk (102:Int) (102:Int))]),
 (0:Int)≤(0:Int),
 (0:Int)<(2:Int),
 (0:Int)≤(0:Int),
 (0:Int)<(2:Int),
 (102:Int)≠(0:Int),
 (102:Int)≠(0:Int),
 (102:Int)≠(0:Int),
 Enc.Is eRg (List.length [(Rg.mk (102:Int) (102:Int)),(Rg.mk (102:Int) (102:Int))]) (Enc.F eRg [(Rg.mk (102:Int) (102:Int)),(Rg.mk (102:Int) (102:Int))]),
 (0:Int)≤(1:Int),
 (1:Int)<(2:Int),
 (0:Int)≤(1:Int),
 (1:Int)<(2:Int),
 (102:Int)≠(0:Int),
 (102:Int)≠(0:Int),
 (102:Int)≠(0:Int),
 i64ok (94:Int),
 i64ok (8:Int),
 (0:Int)<(102:Int)∧(102:Int)<(9223372036854775808:Int),
 (0:Int)<(102:Int)∧(102:Int)<(9223372036854775808:Int),
 i64ok (94:Int),
 i64ok (8:Int),
 (0:Int)<(102:Int)∧(102:Int)<(9223372036854775808:Int),
 (0:Int)<(102:Int)∧(102:Int)<(9223372036854775808:Int),
 i64ok (8:Int),
 i64ok (94:Int),
 (0:Int)<(102:Int)∧(102:Int)<(9223372036854775808:Int),
 (0:Int)<(102:Int)∧(102:Int)<(9223372036854775808:Int)]
theorem t110_185_0_102:runFnX Try.prog G0 (lookS [v131,v185]) (fun _=>[(999999,[],none)]) [] 1 60 3 110 Try.f110 (canon 185 0 102) =
  T.needs nd_t110_185_0_102 (T.ret [Ar.agg [D.int IntKind.i64 (19607:Int),D.int IntKind.i64 (19608:Int)]]):=by kernel_rfl
theorem all_t110_185_0_102:All nd_t110_185_0_102:=by
 unfold nd_t110_185_0_102
 repeat (refine⟨(by first|exact of_decide_eq_true rfl|exact fun i j _ _=>D.eqv_refl _|exact Enc.is_F _ _ _|exact fun i j hi _=>absurd hi (Nat.not_lt_zero i)),?_⟩)
 trivial
theorem w_t110_185_0_102:(T.needs nd_t110_185_0_102 (T.ret [Ar.agg [D.int IntKind.i64 (19607:Int),D.int IntKind.i64 (19608:Int)]])).wp (fun rs=>rsEqv rs [.agg [dI 19607,dI 19608]]):=by
 refine T.needs_wp all_t110_185_0_102 ?_
 exact rsEqv_refl _
def nd_t110_185_0_107:List Prop:=[
 Enc.Is eRg (List.length [(Rg.mk (107:Int) (107:Int)),(Rg.mk (107:Int) (107:Int))]) (Enc.F eRg [(Rg.mk (107:Int) (107:Int)),(Rg.mk (107:Int) (107:Int))]),
 (0:Int)≤(0:Int),
 (0:Int)<(2:Int),
 (0:Int)≤(0:Int),
 (0:Int)<(2:Int),
 (107:Int)≠(0:Int),
 (107:Int)≠(0:Int),
 (107:Int)≠(0:Int),
 Enc.Is eRg (List.length [(Rg.mk (107:Int) (107:Int)),(Rg.mk (107:Int) (107:Int))]) (Enc.F eRg [(Rg.mk (107:Int) (107:Int)),(Rg.mk (107:Int) (107:Int))]),
 (0:Int)≤(1:Int),
 (1:Int)<(2:Int),
 (0:Int)≤(1:Int),
 (1:Int)<(2:Int),
 (107:Int)≠(0:Int),
 (107:Int)≠(0:Int),
 (107:Int)≠(0:Int),
 i64ok (85:Int),
 i64ok (22:Int),
 (0:Int)<(107:Int)∧(107:Int)<(9223372036854775808:Int),
 (0:Int)<(107:Int)∧(107:Int)<(9223372036854775808:Int),
 i64ok (85:Int),
 i64ok (22:Int),
 (0:Int)<(107:Int)∧(107:Int)<(9223372036854775808:Int),
 (0:Int)<(107:Int)∧(107:Int)<(9223372036854775808:Int),
 i64ok (22:Int),
 i64ok (85:Int),
 (0:Int)<(107:Int)∧(107:Int)<(9223372036854775808:Int),
 (0:Int)<(107:Int)∧(107:Int)<(9223372036854775808:Int)]
theorem t110_185_0_107:runFnX Try.prog G0 (lookS [v131,v185]) (fun _=>[(999999,[],none)]) [] 1 60 3 110 Try.f110 (canon 185 0 107) =
  T.needs nd_t110_185_0_107 (T.ret [Ar.agg [D.int IntKind.i64 (18691:Int),D.int IntKind.i64 (18692:Int)]]):=by kernel_rfl
theorem all_t110_185_0_107:All nd_t110_185_0_107:=by
 unfold nd_t110_185_0_107
 repeat (refine⟨(by first|exact of_decide_eq_true rfl|exact fun i j _ _=>D.eqv_refl _|exact Enc.is_F _ _ _|exact fun i j hi _=>absurd hi (Nat.not_lt_zero i)),?_⟩)
 trivial
theorem w_t110_185_0_107:(T.needs nd_t110_185_0_107 (T.ret [Ar.agg [D.int IntKind.i64 (18691:Int),D.int IntKind.i64 (18692:Int)]])).wp (fun rs=>rsEqv rs [.agg [dI 18691,dI 18692]]):=by
 refine T.needs_wp all_t110_185_0_107 ?_
 exact rsEqv_refl _
def nd_t110_185_0_117:List Prop:=[
 Enc.Is eRg (List.length [(Rg.mk (117:Int) (117:Int)),(Rg.mk (117:Int) (117:Int))]) (Enc.F eRg [(Rg.mk (117:Int) (117:Int)),(Rg.mk (117:Int) (117:Int))]),
 (0:Int)≤(0:Int),
 (0:Int)<(2:Int),
 (0:Int)≤(0:Int),
 (0:Int)<(2:Int),
 (117:Int)≠(0:Int),
 (117:Int)≠(0:Int),
 (117:Int)≠(0:Int),
 Enc.Is eRg (List.length [(Rg.mk (117:Int) (117:Int)),(Rg.mk (117:Int) (117:Int))]) (Enc.F eRg [(Rg.mk (117:Int) (117:Int)),(Rg.mk (117:Int) (117:Int))]),
 (0:Int)≤(1:Int),
 (1:Int)<(2:Int),
 (0:Int)≤(1:Int),
 (1:Int)<(2:Int),
 (117:Int)≠(0:Int),
 (117:Int)≠(0:Int),
 (117:Int)≠(0:Int),
 i64ok (1:Int),
 i64ok (116:Int),
 (0:Int)<(117:Int)∧(117:Int)<(9223372036854775808:Int),
 (0:Int)<(117:Int)∧(117:Int)<(9223372036854775808:Int),
 i64ok (1:Int),
 i64ok (116:Int),
 (0:Int)<(117:Int)∧(117:Int)<(9223372036854775808:Int),
 (0:Int)<(117:Int)∧(117:Int)<(9223372036854775808:Int)]
theorem t110_185_0_117:runFnX Try.prog G0 (lookS [v131,v185]) (fun _=>[(999999,[],none)]) [] 1 60 3 110 Try.f110 (canon 185 0 117) =
  T.needs nd_t110_185_0_117 (T.ret [Ar.agg [D.int IntKind.i64 (17094:Int),D.int IntKind.i64 (17095:Int)]]):=by kernel_rfl
theorem all_t110_185_0_117:All nd_t110_185_0_117:=by
 unfold nd_t110_185_0_117
 repeat (refine⟨(by first|exact of_decide_eq_true rfl|exact fun i j _ _=>D.eqv_refl _|exact Enc.is_F _ _ _|exact fun i j hi _=>absurd hi (Nat.not_lt_zero i)),?_⟩)
 trivial
theorem w_t110_185_0_117:(T.needs nd_t110_185_0_117 (T.ret [Ar.agg [D.int IntKind.i64 (17094:Int),D.int IntKind.i64 (17095:Int)]])).wp (fun rs=>rsEqv rs [.agg [dI 17094,dI 17095]]):=by
 refine T.needs_wp all_t110_185_0_117 ?_
 exact rsEqv_refl _
def nd_t110_185_0_156:List Prop:=[
 Enc.Is eRg (List.length [(Rg.mk (156:Int) (156:Int)),(Rg.mk (156:Int) (156:Int))]) (Enc.F eRg [(Rg.mk (156:Int) (156:Int)),(Rg.mk (156:Int) (156:Int))]),
 (0:Int)≤(0:Int),
 (0:Int)<(2:Int),
 (0:Int)≤(0:Int),
 (0:Int)<(2:Int),
 (156:Int)≠(0:Int),
 (156:Int)≠(0:Int),
 (156:Int)≠(0:Int),
 Enc.Is eRg (List.length [(Rg.mk (156:Int) (156:Int)),(Rg.mk (156:Int) (156:Int))]) (Enc.F eRg [(Rg.mk (156:Int) (156:Int)),(Rg.mk (156:Int) (156:Int))]),
 (0:Int)≤(1:Int),
 (1:Int)<(2:Int),
 (0:Int)≤(1:Int),
 (1:Int)<(2:Int),
 (156:Int)≠(0:Int),
 (156:Int)≠(0:Int),
 (156:Int)≠(0:Int),
 i64ok (40:Int),
 i64ok (116:Int),
 (0:Int)<(156:Int)∧(156:Int)<(9223372036854775808:Int),
 (0:Int)<(156:Int)∧(156:Int)<(9223372036854775808:Int),
 i64ok (40:Int),
 i64ok (116:Int),
 (0:Int)<(156:Int)∧(156:Int)<(9223372036854775808:Int),
 (0:Int)<(156:Int)∧(156:Int)<(9223372036854775808:Int)]
theorem t110_185_0_156:runFnX Try.prog G0 (lookS [v131,v185]) (fun _=>[(999999,[],none)]) [] 1 60 3 110 Try.f110 (canon 185 0 156) =
  T.needs nd_t110_185_0_156 (T.ret [Ar.agg [D.int IntKind.i64 (12820:Int),D.int IntKind.i64 (12821:Int)]]):=by kernel_rfl
theorem all_t110_185_0_156:All nd_t110_185_0_156:=by
 unfold nd_t110_185_0_156
 repeat (refine⟨(by first|exact of_decide_eq_true rfl|exact fun i j _ _=>D.eqv_refl _|exact Enc.is_F _ _ _|exact fun i j hi _=>absurd hi (Nat.not_lt_zero i)),?_⟩)
 trivial
theorem w_t110_185_0_156:(T.needs nd_t110_185_0_156 (T.ret [Ar.agg [D.int IntKind.i64 (12820:Int),D.int IntKind.i64 (12821:Int)]])).wp (fun rs=>rsEqv rs [.agg [dI 12820,dI 12821]]):=by
 refine T.needs_wp all_t110_185_0_156 ?_
 exact rsEqv_refl _
def nd_t110_185_0_312:List Prop:=[
 Enc.Is eRg (List.length [(Rg.mk (312:Int) (312:Int)),(Rg.mk (312:Int) (312:Int))]) (Enc.F eRg [(Rg.mk (312:Int) (312:Int)),(Rg.mk (312:Int) (312:Int))]),
 (0:Int)≤(0:Int),
 (0:Int)<(2:Int),
 (0:Int)≤(0:Int),
 (0:Int)<(2:Int),
 (312:Int)≠(0:Int),
 (312:Int)≠(0:Int),
 (312:Int)≠(0:Int),
 Enc.Is eRg (List.length [(Rg.mk (312:Int) (312:Int)),(Rg.mk (312:Int) (312:Int))]) (Enc.F eRg [(Rg.mk (312:Int) (312:Int)),(Rg.mk (312:Int) (312:Int))]),
 (0:Int)≤(1:Int),
 (1:Int)<(2:Int),
 (0:Int)≤(1:Int),
 (1:Int)<(2:Int),
 (312:Int)≠(0:Int),
 (312:Int)≠(0:Int),
 (312:Int)≠(0:Int),
 i64ok (40:Int),
 i64ok (272:Int),
 (0:Int)<(312:Int)∧(312:Int)<(9223372036854775808:Int),
 (0:Int)<(312:Int)∧(312:Int)<(9223372036854775808:Int),
 i64ok (40:Int),
 i64ok (272:Int),
 (0:Int)<(312:Int)∧(312:Int)<(9223372036854775808:Int),
 (0:Int)<(312:Int)∧(312:Int)<(9223372036854775808:Int)]
theorem t110_185_0_312:runFnX Try.prog G0 (lookS [v131,v185]) (fun _=>[(999999,[],none)]) [] 1 60 3 110 Try.f110 (canon 185 0 312) =
  T.needs nd_t110_185_0_312 (T.ret [Ar.agg [D.int IntKind.i64 (6410:Int),D.int IntKind.i64 (6411:Int)]]):=by kernel_rfl
theorem all_t110_185_0_312:All nd_t110_185_0_312:=by
 unfold nd_t110_185_0_312
 repeat (refine⟨(by first|exact of_decide_eq_true rfl|exact fun i j _ _=>D.eqv_refl _|exact Enc.is_F _ _ _|exact fun i j hi _=>absurd hi (Nat.not_lt_zero i)),?_⟩)
 trivial
theorem w_t110_185_0_312:(T.needs nd_t110_185_0_312 (T.ret [Ar.agg [D.int IntKind.i64 (6410:Int),D.int IntKind.i64 (6411:Int)]])).wp (fun rs=>rsEqv rs [.agg [dI 6410,dI 6411]]):=by
 refine T.needs_wp all_t110_185_0_312 ?_
 exact rsEqv_refl _
def nd_t110_185_0_625:List Prop:=[
 Enc.Is eRg (List.length [(Rg.mk (625:Int) (625:Int)),(Rg.mk (625:Int) (625:Int))]) (Enc.F eRg [(Rg.mk (625:Int) (625:Int)),(Rg.mk (625:Int) (625:Int))]),
 (0:Int)≤(0:Int),
 (0:Int)<(2:Int),
 (0:Int)≤(0:Int),
 (0:Int)<(2:Int),
 (625:Int)≠(0:Int),
 (625:Int)≠(0:Int),
 (625:Int)≠(0:Int),
 Enc.Is eRg (List.length [(Rg.mk (625:Int) (625:Int)),(Rg.mk (625:Int) (625:Int))]) (Enc.F eRg [(Rg.mk (625:Int) (625:Int)),(Rg.mk (625:Int) (625:Int))]),
 (0:Int)≤(1:Int),
 (1:Int)<(2:Int),
 (0:Int)≤(1:Int),
 (1:Int)<(2:Int),
 (625:Int)≠(0:Int),
 (625:Int)≠(0:Int),
 (625:Int)≠(0:Int),
 i64ok (0:Int),
 i64ok (625:Int),
 (0:Int)<(625:Int)∧(625:Int)<(9223372036854775808:Int),
 (0:Int)<(625:Int)∧(625:Int)<(9223372036854775808:Int)]
theorem t110_185_0_625:runFnX Try.prog G0 (lookS [v131,v185]) (fun _=>[(999999,[],none)]) [] 1 60 3 110 Try.f110 (canon 185 0 625) =
  T.needs nd_t110_185_0_625 (T.ret [Ar.agg [D.int IntKind.i64 (3200:Int),D.int IntKind.i64 (3200:Int)]]):=by kernel_rfl
theorem all_t110_185_0_625:All nd_t110_185_0_625:=by
 unfold nd_t110_185_0_625
 repeat (refine⟨(by first|exact of_decide_eq_true rfl|exact fun i j _ _=>D.eqv_refl _|exact Enc.is_F _ _ _|exact fun i j hi _=>absurd hi (Nat.not_lt_zero i)),?_⟩)
 trivial
theorem w_t110_185_0_625:(T.needs nd_t110_185_0_625 (T.ret [Ar.agg [D.int IntKind.i64 (3200:Int),D.int IntKind.i64 (3200:Int)]])).wp (fun rs=>rsEqv rs [.agg [dI 3200,dI 3200]]):=by
 refine T.needs_wp all_t110_185_0_625 ?_
 exact rsEqv_refl _
def nd_t110_185_1_78:List Prop:=[
 Enc.Is eRg (List.length [(Rg.mk (78:Int) (78:Int)),(Rg.mk (78:Int) (78:Int))]) (Enc.F eRg [(Rg.mk (78:Int) (78:Int)),(Rg.mk (78:Int) (78:Int))]),
 (0:Int)≤(1:Int),
 (1:Int)<(2:Int),
 (0:Int)≤(1:Int),
 (1:Int)<(2:Int),
 (78:Int)≠(0:Int),
 (78:Int)≠(0:Int),
 (78:Int)≠(0:Int),
 i64ok (0:Int),
 i64ok (38:Int),
 (0:Int)<(1:Int)∧(1:Int)<(9223372036854775808:Int),
 (0:Int)<(78:Int)∧(78:Int)<(9223372036854775808:Int),
 i64ok (0:Int),
 i64ok (38:Int),
 (0:Int)<(1:Int)∧(1:Int)<(9223372036854775808:Int),
 (0:Int)<(78:Int)∧(78:Int)<(9223372036854775808:Int)]
theorem t110_185_1_78:runFnX Try.prog G0 (lookS [v131,v185]) (fun _=>[(999999,[],none)]) [] 1 60 3 110 Try.f110 (canon 185 1 78) =
  T.needs nd_t110_185_1_78 (T.ret [Ar.agg [D.int IntKind.i64 (12820:Int),D.int IntKind.i64 (12821:Int)]]):=by kernel_rfl
theorem all_t110_185_1_78:All nd_t110_185_1_78:=by
 unfold nd_t110_185_1_78
 repeat (refine⟨(by first|exact of_decide_eq_true rfl|exact fun i j _ _=>D.eqv_refl _|exact Enc.is_F _ _ _|exact fun i j hi _=>absurd hi (Nat.not_lt_zero i)),?_⟩)
 trivial
theorem w_t110_185_1_78:(T.needs nd_t110_185_1_78 (T.ret [Ar.agg [D.int IntKind.i64 (12820:Int),D.int IntKind.i64 (12821:Int)]])).wp (fun rs=>rsEqv rs [.agg [dI 12820,dI 12821]]):=by
 refine T.needs_wp all_t110_185_1_78 ?_
 exact rsEqv_refl _
def nd_t110_185_1_97:List Prop:=[
 Enc.Is eRg (List.length [(Rg.mk (97:Int) (97:Int)),(Rg.mk (97:Int) (97:Int))]) (Enc.F eRg [(Rg.mk (97:Int) (97:Int)),(Rg.mk (97:Int) (97:Int))]),
 (0:Int)≤(1:Int),
 (1:Int)<(2:Int),
 (0:Int)≤(1:Int),
 (1:Int)<(2:Int),
 (97:Int)≠(0:Int),
 (97:Int)≠(0:Int),
 (97:Int)≠(0:Int),
 i64ok (0:Int),
 i64ok (70:Int),
 (0:Int)<(1:Int)∧(1:Int)<(9223372036854775808:Int),
 (0:Int)<(97:Int)∧(97:Int)<(9223372036854775808:Int),
 i64ok (0:Int),
 i64ok (70:Int),
 (0:Int)<(1:Int)∧(1:Int)<(9223372036854775808:Int),
 (0:Int)<(97:Int)∧(97:Int)<(9223372036854775808:Int)]
theorem t110_185_1_97:runFnX Try.prog G0 (lookS [v131,v185]) (fun _=>[(999999,[],none)]) [] 1 60 3 110 Try.f110 (canon 185 1 97) =
  T.needs nd_t110_185_1_97 (T.ret [Ar.agg [D.int IntKind.i64 (10309:Int),D.int IntKind.i64 (10310:Int)]]):=by kernel_rfl
theorem all_t110_185_1_97:All nd_t110_185_1_97:=by
 unfold nd_t110_185_1_97
 repeat (refine⟨(by first|exact of_decide_eq_true rfl|exact fun i j _ _=>D.eqv_refl _|exact Enc.is_F _ _ _|exact fun i j hi _=>absurd hi (Nat.not_lt_zero i)),?_⟩)
 trivial
theorem w_t110_185_1_97:(T.needs nd_t110_185_1_97 (T.ret [Ar.agg [D.int IntKind.i64 (10309:Int),D.int IntKind.i64 (10310:Int)]])).wp (fun rs=>rsEqv rs [.agg [dI 10309,dI 10310]]):=by
 refine T.needs_wp all_t110_185_1_97 ?_
 exact rsEqv_refl _
def nd_t110_185_1_99:List Prop:=[
 Enc.Is eRg (List.length [(Rg.mk (99:Int) (99:Int)),(Rg.mk (99:Int) (99:Int))]) (Enc.F eRg [(Rg.mk (99:Int) (99:Int)),(Rg.mk (99:Int) (99:Int))]),
 (0:Int)≤(1:Int),
 (1:Int)<(2:Int),
 (0:Int)≤(1:Int),
 (1:Int)<(2:Int),
 (99:Int)≠(0:Int),
 (99:Int)≠(0:Int),
 (99:Int)≠(0:Int),
 i64ok (0:Int),
 i64ok (98:Int),
 (0:Int)<(1:Int)∧(1:Int)<(9223372036854775808:Int),
 (0:Int)<(99:Int)∧(99:Int)<(9223372036854775808:Int),
 i64ok (0:Int),
 i64ok (98:Int),
 (0:Int)<(1:Int)∧(1:Int)<(9223372036854775808:Int),
 (0:Int)<(99:Int)∧(99:Int)<(9223372036854775808:Int)]
theorem t110_185_1_99:runFnX Try.prog G0 (lookS [v131,v185]) (fun _=>[(999999,[],none)]) [] 1 60 3 110 Try.f110 (canon 185 1 99) =
  T.needs nd_t110_185_1_99 (T.ret [Ar.agg [D.int IntKind.i64 (10101:Int),D.int IntKind.i64 (10102:Int)]]):=by kernel_rfl
theorem all_t110_185_1_99:All nd_t110_185_1_99:=by
 unfold nd_t110_185_1_99
 repeat (refine⟨(by first|exact of_decide_eq_true rfl|exact fun i j _ _=>D.eqv_refl _|exact Enc.is_F _ _ _|exact fun i j hi _=>absurd hi (Nat.not_lt_zero i)),?_⟩)
 trivial
theorem w_t110_185_1_99:(T.needs nd_t110_185_1_99 (T.ret [Ar.agg [D.int IntKind.i64 (10101:Int),D.int IntKind.i64 (10102:Int)]])).wp (fun rs=>rsEqv rs [.agg [dI 10101,dI 10102]]):=by
 refine T.needs_wp all_t110_185_1_99 ?_
 exact rsEqv_refl _
def nd_t110_185_1_100:List Prop:=[
 Enc.Is eRg (List.length [(Rg.mk (100:Int) (100:Int)),(Rg.mk (100:Int) (100:Int))]) (Enc.F eRg [(Rg.mk (100:Int) (100:Int)),(Rg.mk (100:Int) (100:Int))]),
 (0:Int)≤(1:Int),
 (1:Int)<(2:Int),
 (0:Int)≤(1:Int),
 (1:Int)<(2:Int),
 (100:Int)≠(0:Int),
 (100:Int)≠(0:Int),
 (100:Int)≠(0:Int),
 i64ok (0:Int),
 i64ok (100:Int),
 (0:Int)<(1:Int)∧(1:Int)<(9223372036854775808:Int),
 (0:Int)<(100:Int)∧(100:Int)<(9223372036854775808:Int)]
theorem t110_185_1_100:runFnX Try.prog G0 (lookS [v131,v185]) (fun _=>[(999999,[],none)]) [] 1 60 3 110 Try.f110 (canon 185 1 100) =
  T.needs nd_t110_185_1_100 (T.ret [Ar.agg [D.int IntKind.i64 (10000:Int),D.int IntKind.i64 (10000:Int)]]):=by kernel_rfl
theorem all_t110_185_1_100:All nd_t110_185_1_100:=by
 unfold nd_t110_185_1_100
 repeat (refine⟨(by first|exact of_decide_eq_true rfl|exact fun i j _ _=>D.eqv_refl _|exact Enc.is_F _ _ _|exact fun i j hi _=>absurd hi (Nat.not_lt_zero i)),?_⟩)
 trivial
theorem w_t110_185_1_100:(T.needs nd_t110_185_1_100 (T.ret [Ar.agg [D.int IntKind.i64 (10000:Int),D.int IntKind.i64 (10000:Int)]])).wp (fun rs=>rsEqv rs [.agg [dI 10000,dI 10000]]):=by
 refine T.needs_wp all_t110_185_1_100 ?_
 exact rsEqv_refl _
def nd_t110_111_0_100:List Prop:=[
 Enc.Is eRg (List.length [(Rg.mk (100:Int) (100:Int)),(Rg.mk (100:Int) (100:Int))]) (Enc.F eRg [(Rg.mk (100:Int) (100:Int)),(Rg.mk (100:Int) (100:Int))]),
 (0:Int)≤(0:Int),
 (0:Int)<(2:Int),
 (0:Int)≤(0:Int),
 (0:Int)<(2:Int),
 (100:Int)≠(0:Int),
 (100:Int)≠(0:Int),
 (100:Int)≠(0:Int),
 Enc.Is eRg (List.length [(Rg.mk (100:Int) (100:Int)),(Rg.mk (100:Int) (100:Int))]) (Enc.F eRg [(Rg.mk (100:Int) (100:Int)),(Rg.mk (100:Int) (100:Int))]),
 (0:Int)≤(1:Int),
 (1:Int)<(2:Int),
 (0:Int)≤(1:Int),
 (1:Int)<(2:Int),
 (100:Int)≠(0:Int),
 (100:Int)≠(0:Int),
 (100:Int)≠(0:Int),
 i64ok (0:Int),
 i64ok (100:Int),
 (0:Int)<(100:Int)∧(100:Int)<(9223372036854775808:Int),
 (0:Int)<(100:Int)∧(100:Int)<(9223372036854775808:Int)]
theorem t110_111_0_100:runFnX Try.prog G0 (lookS [v131,v111]) (fun _=>[(999999,[],none)]) [] 1 60 3 110 Try.f110 (canon 111 0 100) =
  T.needs nd_t110_111_0_100 (T.ret [Ar.agg [D.int IntKind.i64 (20000:Int),D.int IntKind.i64 (20000:Int)]]):=by kernel_rfl
theorem all_t110_111_0_100:All nd_t110_111_0_100:=by
 unfold nd_t110_111_0_100
 repeat (refine⟨(by first|exact of_decide_eq_true rfl|exact fun i j _ _=>D.eqv_refl _|exact Enc.is_F _ _ _|exact fun i j hi _=>absurd hi (Nat.not_lt_zero i)),?_⟩)
 trivial
theorem w_t110_111_0_100:(T.needs nd_t110_111_0_100 (T.ret [Ar.agg [D.int IntKind.i64 (20000:Int),D.int IntKind.i64 (20000:Int)]])).wp (fun rs=>rsEqv rs [.agg [dI 20000,dI 20000]]):=by
 refine T.needs_wp all_t110_111_0_100 ?_
 exact rsEqv_refl _
def nd_t110_111_1_100:List Prop:=[
 Enc.Is eRg (List.length [(Rg.mk (100:Int) (100:Int)),(Rg.mk (100:Int) (100:Int))]) (Enc.F eRg [(Rg.mk (100:Int) (100:Int)),(Rg.mk (100:Int) (100:Int))]),
 (0:Int)≤(1:Int),
 (1:Int)<(2:Int),
 (0:Int)≤(1:Int),
 (1:Int)<(2:Int),
 (100:Int)≠(0:Int),
 (100:Int)≠(0:Int),
 (100:Int)≠(0:Int),
 i64ok (0:Int),
 i64ok (100:Int),
 (0:Int)<(1:Int)∧(1:Int)<(9223372036854775808:Int),
 (0:Int)<(100:Int)∧(100:Int)<(9223372036854775808:Int)]
theorem t110_111_1_100:runFnX Try.prog G0 (lookS [v131,v111]) (fun _=>[(999999,[],none)]) [] 1 60 3 110 Try.f110 (canon 111 1 100) =
  T.needs nd_t110_111_1_100 (T.ret [Ar.agg [D.int IntKind.i64 (10000:Int),D.int IntKind.i64 (10000:Int)]]):=by kernel_rfl
theorem all_t110_111_1_100:All nd_t110_111_1_100:=by
 unfold nd_t110_111_1_100
 repeat (refine⟨(by first|exact of_decide_eq_true rfl|exact fun i j _ _=>D.eqv_refl _|exact Enc.is_F _ _ _|exact fun i j hi _=>absurd hi (Nat.not_lt_zero i)),?_⟩)
 trivial
theorem w_t110_111_1_100:(T.needs nd_t110_111_1_100 (T.ret [Ar.agg [D.int IntKind.i64 (10000:Int),D.int IntKind.i64 (10000:Int)]])).wp (fun rs=>rsEqv rs [.agg [dI 10000,dI 10000]]):=by
 refine T.needs_wp all_t110_111_1_100 ?_
 exact rsEqv_refl _
def nd_t110_112_0_100:List Prop:=[
 Enc.Is eRg (List.length [(Rg.mk (100:Int) (100:Int)),(Rg.mk (100:Int) (100:Int))]) (Enc.F eRg [(Rg.mk (100:Int) (100:Int)),(Rg.mk (100:Int) (100:Int))]),
 (0:Int)≤(0:Int),
 (0:Int)<(2:Int),
 (0:Int)≤(0:Int),
 (0:Int)<(2:Int),
 (100:Int)≠(0:Int),
 (100:Int)≠(0:Int),
 (100:Int)≠(0:Int),
 Enc.Is eRg (List.length [(Rg.mk (100:Int) (100:Int)),(Rg.mk (100:Int) (100:Int))]) (Enc.F eRg [(Rg.mk (100:Int) (100:Int)),(Rg.mk (100:Int) (100:Int))]),
 (0:Int)≤(1:Int),
 (1:Int)<(2:Int),
 (0:Int)≤(1:Int),
 (1:Int)<(2:Int),
 (100:Int)≠(0:Int),
 (100:Int)≠(0:Int),
 (100:Int)≠(0:Int),
 i64ok (0:Int),
 i64ok (100:Int),
 (0:Int)<(100:Int)∧(100:Int)<(9223372036854775808:Int),
 (0:Int)<(100:Int)∧(100:Int)<(9223372036854775808:Int)]
theorem t110_112_0_100:runFnX Try.prog G0 (lookS [v131,v112]) (fun _=>[(999999,[],none)]) [] 1 60 3 110 Try.f110 (canon 112 0 100) =
  T.needs nd_t110_112_0_100 (T.ret [Ar.agg [D.int IntKind.i64 (20000:Int),D.int IntKind.i64 (20000:Int)]]):=by kernel_rfl
theorem all_t110_112_0_100:All nd_t110_112_0_100:=by
 unfold nd_t110_112_0_100
 repeat (refine⟨(by first|exact of_decide_eq_true rfl|exact fun i j _ _=>D.eqv_refl _|exact Enc.is_F _ _ _|exact fun i j hi _=>absurd hi (Nat.not_lt_zero i)),?_⟩)
 trivial
theorem w_t110_112_0_100:(T.needs nd_t110_112_0_100 (T.ret [Ar.agg [D.int IntKind.i64 (20000:Int),D.int IntKind.i64 (20000:Int)]])).wp (fun rs=>rsEqv rs [.agg [dI 20000,dI 20000]]):=by
 refine T.needs_wp all_t110_112_0_100 ?_
 exact rsEqv_refl _
def nd_t110_112_1_100:List Prop:=[
 Enc.Is eRg (List.length [(Rg.mk (100:Int) (100:Int)),(Rg.mk (100:Int) (100:Int))]) (Enc.F eRg [(Rg.mk (100:Int) (100:Int)),(Rg.mk (100:Int) (100:Int))]),
 (0:Int)≤(1:Int),
 (1:Int)<(2:Int),
 (0:Int)≤(1:Int),
 (1:Int)<(2:Int),
 (100:Int)≠(0:Int),
 (100:Int)≠(0:Int),
 (100:Int)≠(0:Int),
 i64ok (0:Int),
 i64ok (100:Int),
 (0:Int)<(1:Int)∧(1:Int)<(9223372036854775808:Int),
 (0:Int)<(100:Int)∧(100:Int)<(9223372036854775808:Int)]
theorem t110_112_1_100:runFnX Try.prog G0 (lookS [v131,v112]) (fun _=>[(999999,[],none)]) [] 1 60 3 110 Try.f110 (canon 112 1 100) =
  T.needs nd_t110_112_1_100 (T.ret [Ar.agg [D.int IntKind.i64 (10000:Int),D.int IntKind.i64 (10000:Int)]]):=by kernel_rfl
theorem all_t110_112_1_100:All nd_t110_112_1_100:=by
 unfold nd_t110_112_1_100
 repeat (refine⟨(by first|exact of_decide_eq_true rfl|exact fun i j _ _=>D.eqv_refl _|exact Enc.is_F _ _ _|exact fun i j hi _=>absurd hi (Nat.not_lt_zero i)),?_⟩)
 trivial
theorem w_t110_112_1_100:(T.needs nd_t110_112_1_100 (T.ret [Ar.agg [D.int IntKind.i64 (10000:Int),D.int IntKind.i64 (10000:Int)]])).wp (fun rs=>rsEqv rs [.agg [dI 10000,dI 10000]]):=by
 refine T.needs_wp all_t110_112_1_100 ?_
 exact rsEqv_refl _
structure Row110 where
 g:Nat
 i:Int
 d:Int
 lo:Int
 hi:Int
def tab110:List Row110:=[⟨185,0,78,25641,25642⟩,⟨185,0,97,20618,20619⟩,⟨185,0,99,20202,20203⟩,⟨185,0,100,20000,20000⟩,⟨185,0,101,19801,19802⟩,⟨185,0,102,19607,19608⟩,⟨185,0,107,18691,18692⟩,⟨185,0,117,17094,17095⟩,⟨185,0,156,12820,12821⟩,⟨185,0,312,6410,6411⟩,⟨185,0,625,3200,3200⟩,⟨185,1,78,12820,12821⟩,⟨185,1,97,10309,10310⟩,⟨185,1,99,10101,10102⟩,⟨185,1,100,10000,10000⟩,⟨111,0,100,20000,20000⟩,⟨111,1,100,10000,10000⟩,⟨112,0,100,20000,20000⟩,⟨112,1,100,10000,10000⟩]
def find110:List Row110→Nat→Int→Int→Option Row110
 |[],_,_,_=>none
 |r::l,g,i,d=>(match Nat.beq r.g g&&decide (r.i=i)&&decide (r.d=d)with|true=>some r|false=>find110 l g i d)
theorem find110_spec:∀{l:List Row110} {g:Nat} {i d:Int} {r:Row110},find110 l g i d=some r→r∈l∧r.g=g∧r.i=i∧r.d=d:=by
 intro l
 induction l with
 |nil=>intro g i d r h;cases h
 |cons x l ih=>
  intro g i d r h
  simp only[find110]at h
  split at h
  ·rename_i hx
   simp only[Bool.and_eq_true,decide_eq_true_eq]at hx
   simp only[Option.some.injEq]at h
   subst h
   exact⟨List.mem_cons_self ..,Nat.eq_of_beq_eq_true hx.1.1,hx.1.2,hx.2⟩
  ·obtain⟨h1,h2⟩:=ih h
   exact⟨List.mem_cons_of_mem _ h1,h2⟩
def dom110c:DomF
 |[.agg ds,.c (.int .i64 i),.c (.fc g n G)]=>(match G 0 with
  |.sl q k st F=>(match F 0 0 with
   |.int _ d=>(match find110 tab110 g i d with
    |some r=>some ([Same [.agg ds,.c (.int .i64 i),.c (.fc g n G)] (canon r.g r.i r.d)],[.agg [dI r.lo,dI r.hi]])
    |none=>none)
   |_=>none)
  |_=>none)
 |_=>none
def v110c:Nat×Sm:=(110,fokSm dom110c)
theorem C110c:FOK Try.prog G0 gw 110 dom110c:=by
 intro ags p r hd hp κ w xs hw hl hG hx
 unfold dom110c at hd
 split at hd
 ·split at hd
  ·split at hd
   ·split at hd
    ·rename_i rw0 hf
     simp only[Option.some.injEq,Prod.mk.injEq]at hd
     obtain⟨rfl,rfl⟩:=hd
     have heq:=hp.1.h
     have hm:=(find110_spec hf).1
     simp only[tab110,List.mem_cons,List.not_mem_nil,or_false]at hm
     rcases hm with rfl|rfl|rfl|rfl|rfl|rfl|rfl|rfl|rfl|rfl|rfl|rfl|rfl|rfl|rfl|rfl|rfl|rfl|rfl
     ·exact fokX_fin mixed gw_stable (sl:=[v131,v185]) ⟨S131,S185,trivial⟩ Try.func110 hw hl hG hx heq rfl t110_185_0_78 w_t110_185_0_78
     ·exact fokX_fin mixed gw_stable (sl:=[v131,v185]) ⟨S131,S185,trivial⟩ Try.func110 hw hl hG hx heq rfl t110_185_0_97 w_t110_185_0_97
     ·exact fokX_fin mixed gw_stable (sl:=[v131,v185]) ⟨S131,S185,trivial⟩ Try.func110 hw hl hG hx heq rfl t110_185_0_99 w_t110_185_0_99
     ·exact fokX_fin mixed gw_stable (sl:=[v131,v185]) ⟨S131,S185,trivial⟩ Try.func110 hw hl hG hx heq rfl t110_185_0_100 w_t110_185_0_100
     ·exact fokX_fin mixed gw_stable (sl:=[v131,v185]) ⟨S131,S185,trivial⟩ Try.func110 hw hl hG hx heq rfl t110_185_0_101 w_t110_185_0_101
     ·exact fokX_fin mixed gw_stable (sl:=[v131,v185]) ⟨S131,S185,trivial⟩ Try.func110 hw hl hG hx heq rfl t110_185_0_102 w_t110_185_0_102
     ·exact fokX_fin mixed gw_stable (sl:=[v131,v185]) ⟨S131,S185,trivial⟩ Try.func110 hw hl hG hx heq rfl t110_185_0_107 w_t110_185_0_107
     ·exact fokX_fin mixed gw_stable (sl:=[v131,v185]) ⟨S131,S185,trivial⟩ Try.func110 hw hl hG hx heq rfl t110_185_0_117 w_t110_185_0_117
     ·exact fokX_fin mixed gw_stable (sl:=[v131,v185]) ⟨S131,S185,trivial⟩ Try.func110 hw hl hG hx heq rfl t110_185_0_156 w_t110_185_0_156
     ·exact fokX_fin mixed gw_stable (sl:=[v131,v185]) ⟨S131,S185,trivial⟩ Try.func110 hw hl hG hx heq rfl t110_185_0_312 w_t110_185_0_312
     ·exact fokX_fin mixed gw_stable (sl:=[v131,v185]) ⟨S131,S185,trivial⟩ Try.func110 hw hl hG hx heq rfl t110_185_0_625 w_t110_185_0_625
     ·exact fokX_fin mixed gw_stable (sl:=[v131,v185]) ⟨S131,S185,trivial⟩ Try.func110 hw hl hG hx heq rfl t110_185_1_78 w_t110_185_1_78
     ·exact fokX_fin mixed gw_stable (sl:=[v131,v185]) ⟨S131,S185,trivial⟩ Try.func110 hw hl hG hx heq rfl t110_185_1_97 w_t110_185_1_97
     ·exact fokX_fin mixed gw_stable (sl:=[v131,v185]) ⟨S131,S185,trivial⟩ Try.func110 hw hl hG hx heq rfl t110_185_1_99 w_t110_185_1_99
     ·exact fokX_fin mixed gw_stable (sl:=[v131,v185]) ⟨S131,S185,trivial⟩ Try.func110 hw hl hG hx heq rfl t110_185_1_100 w_t110_185_1_100
     ·exact fokX_fin mixed gw_stable (sl:=[v131,v111]) ⟨S131,S111,trivial⟩ Try.func110 hw hl hG hx heq rfl t110_111_0_100 w_t110_111_0_100
     ·exact fokX_fin mixed gw_stable (sl:=[v131,v111]) ⟨S131,S111,trivial⟩ Try.func110 hw hl hG hx heq rfl t110_111_1_100 w_t110_111_1_100
     ·exact fokX_fin mixed gw_stable (sl:=[v131,v112]) ⟨S131,S112,trivial⟩ Try.func110 hw hl hG hx heq rfl t110_112_0_100 w_t110_112_0_100
     ·exact fokX_fin mixed gw_stable (sl:=[v131,v112]) ⟨S131,S112,trivial⟩ Try.func110 hw hl hG hx heq rfl t110_112_1_100 w_t110_112_1_100
    ·cases hd
   ·cases hd
  ·cases hd
 ·cases hd
theorem S110c:SumOK Try.prog G0 gw 110 (fokSm dom110c):=fok_sum Try.func110 rfl C110c
end Go.Pl
end
section
set_option maxRecDepth 100000
namespace Go.Pl
open Go.V Go.Proofs
def tr95(q_sc:Bool)(sc:List Scale)(new:Int):T (List Ar):=
  T.need (Enc.Is eSc sc.length (Enc.F eSc sc)) (T.need (List.length (Enc.list eSc sc.length (Enc.F eSc sc))≤100000) (T.ret [Ar.agg [D.sl q_sc sc.length (4:Nat) (Enc.F eSc sc),D.int IntKind.i64 new],Ar.c (D.int IntKind.i64 (Prod.snd (M.checkSys (Enc.list eSc sc.length (Enc.F eSc sc)) new)))]))
theorem t95(q_sc:Bool)(sc:List Scale)(new:Int):runFnX Try.prog G0 (lookS [v33]) (fun _=>[]) [] 1 40 3 95 Try.f95 [.agg [.sl q_sc sc.length 4 (eSc.F sc),dI new]] =
  tr95 q_sc sc new:=by kernel_rfl
theorem w95(q:Bool)(sc:List Scale)(nw:Int)(hl:sc.length≤100000):(tr95 q sc nw).wp (fun rs=>rsEqv rs [.agg [.sl q sc.length 4 (eSc.F sc),dI nw],rI (M.checkSys sc nw).2]):=by
 unfold tr95
 simp only[Enc.list_F]
 exact⟨Enc.is_F _ _ _,hl,rsEqv_refl _⟩
def dom95:DomF
 |[.agg [.sl q n st F,.int .i64 nw]]=>(match Nat.beq st 4 with
  |true=>some ([eSc.Is n F,n≤100000],[.agg [.sl q n 4 (eSc.F (eSc.list n F)),dI nw],rI (M.checkSys (eSc.list n F) nw).2])
  |_=>none)
 |_=>none
def v95:Nat×Sm:=(95,fokSm dom95)
theorem C95:FOK Try.prog G0 gw 95 dom95:=by
 intro ags p r hd hp κ w xs hw hl hG hx
 unfold dom95 at hd
 split at hd
 ·rename_i q n st F nw
  split at hd
  ·rename_i hst
   have g1:=Nat.eq_of_beq_eq_true hst
   subst g1
   simp only[Option.some.injEq,Prod.mk.injEq]at hd
   obtain⟨rfl,rfl⟩:=hd
   obtain⟨hI,hn,_⟩:=hp
   have heq:agsEqv [.agg [.sl q n 4 F,.int .i64 nw]] [.agg [.sl q (eSc.list n F).length 4 (eSc.F (eSc.list n F)),.int .i64 nw]]:=⟨⟨eSc.to id hI,rfl,trivial⟩,trivial⟩
   have hlen:(eSc.list n F).length=n:=Enc.list_len _
   have hw0:=w95 q (eSc.list n F) nw (by omega)
   rw[hlen]at hw0
   exact fokX_fin mixed gw_stable (sl:=[v33]) ⟨S33,trivial⟩ Try.func95 hw hl hG hx heq rfl (t95 q _ nw) hw0
  ·cases hd
 ·cases hd
theorem S95:SumOK Try.prog G0 gw 95 (fokSm dom95):=fok_sum Try.func95 rfl C95
end Go.Pl
end
section
set_option maxRecDepth 100000
namespace Go.Pl
open Go.V Go.Proofs
def four:List D:=[.sl true 2 4 (eSc.F [⟨1000,0,0,20000⟩,⟨1000,0,0,10000⟩]),dI 0]
abbrev qt28c_1:=Enc.F eSc (Enc.list eSc (2:Nat) (Enc.F eSc [(Scale.mk (1000:Int) (0:Int) (0:Int) (20000:Int)),(Scale.mk (1000:Int) (0:Int) (0:Int) (10000:Int))]))
abbrev qt28c_2:=Enc.list eSc (2:Nat) qt28c_1
abbrev qt28c_3:=M.flows qt28c_2 (101:Int)
def nd_t28c:List Prop:=[
 Enc.Is eSc (2:Nat) (Enc.F eSc [(Scale.mk (1000:Int) (0:Int) (0:Int) (20000:Int)),(Scale.mk (1000:Int) (0:Int) (0:Int) (10000:Int))]),
 (2:Nat)≤(100000:Nat),
 Enc.Is eSc (2:Nat) qt28c_1,
 List.length qt28c_2≤(100000:Nat),
 Enc.Is eSc (2:Nat) qt28c_1,
 Enc.Is eRg (List.length (M.flows qt28c_2 (0:Int))) (Enc.F eRg (M.flows qt28c_2 (0:Int))),
 List.length (Enc.list eRg (List.length (M.flows qt28c_2 (0:Int))) (Enc.F eRg (M.flows qt28c_2 (0:Int))))≤List.length qt28c_2,
 List.length qt28c_2≤(100000:Nat),
 (0:Int)≤(0:Int),
 (0:Int)<(2:Int),
 (0:Int)≤(1:Int),
 (1:Int)<(2:Int),
 Enc.Is eSc (2:Nat) qt28c_1,
 List.length qt28c_2≤(100000:Nat),
 Enc.Is eSc (2:Nat) qt28c_1,
 Enc.Is eRg (List.length (M.flows qt28c_2 (10000:Int))) (Enc.F eRg (M.flows qt28c_2 (10000:Int))),
 List.length (Enc.list eRg (List.length (M.flows qt28c_2 (10000:Int))) (Enc.F eRg (M.flows qt28c_2 (10000:Int))))≤List.length qt28c_2,
 List.length qt28c_2≤(100000:Nat),
 (0:Int)≤(0:Int),
 (0:Int)<(2:Int),
 Enc.Is eSc (2:Nat) qt28c_1,
 List.length qt28c_2≤(100000:Nat),
 Enc.Is eSc (2:Nat) qt28c_1,
 Enc.Is eRg (List.length (M.flows qt28c_2 (5000:Int))) (Enc.F eRg (M.flows qt28c_2 (5000:Int))),
 List.length (Enc.list eRg (List.length (M.flows qt28c_2 (5000:Int))) (Enc.F eRg (M.flows qt28c_2 (5000:Int))))≤List.length qt28c_2,
 List.length qt28c_2≤(100000:Nat),
 (0:Int)≤(0:Int),
 (0:Int)<(2:Int),
 Enc.Is eSc (2:Nat) qt28c_1,
 List.length qt28c_2≤(100000:Nat),
 Enc.Is eSc (2:Nat) qt28c_1,
 Enc.Is eRg (List.length (M.flows qt28c_2 (2500:Int))) (Enc.F eRg (M.flows qt28c_2 (2500:Int))),
 List.length (Enc.list eRg (List.length (M.flows qt28c_2 (2500:Int))) (Enc.F eRg (M.flows qt28c_2 (2500:Int))))≤List.length qt28c_2,
 List.length qt28c_2≤(100000:Nat),
 (0:Int)≤(0:Int),
 (0:Int)<(2:Int),
 Enc.Is eSc (2:Nat) qt28c_1,
 List.length qt28c_2≤(100000:Nat),
 Enc.Is eSc (2:Nat) qt28c_1,
 Enc.Is eRg (List.length (M.flows qt28c_2 (1250:Int))) (Enc.F eRg (M.flows qt28c_2 (1250:Int))),
 List.length (Enc.list eRg (List.length (M.flows qt28c_2 (1250:Int))) (Enc.F eRg (M.flows qt28c_2 (1250:Int))))≤List.length qt28c_2,
 List.length qt28c_2≤(100000:Nat),
 (0:Int)≤(0:Int),
 (0:Int)<(2:Int),
 Enc.Is eSc (2:Nat) qt28c_1,
 List.length qt28c_2≤(100000:Nat),
 Enc.Is eSc (2:Nat) qt28c_1,
 Enc.Is eRg (List.length (M.flows qt28c_2 (625:Int))) (Enc.F eRg (M.flows qt28c_2 (625:Int))),
 List.length (Enc.list eRg (List.length (M.flows qt28c_2 (625:Int))) (Enc.F eRg (M.flows qt28c_2 (625:Int))))≤List.length qt28c_2,
 List.length qt28c_2≤(100000:Nat),
 (0:Int)≤(0:Int),
 (0:Int)<(2:Int),
 Same [Ag.agg [D.sl true (2:Nat) (4:Nat) qt28c_1,D.int IntKind.i64 (0:Int)],Ag.c (D.int IntKind.i64 (0:Int)),Ag.c (D.fc (185:Nat) (List.length [D.sl false (List.length (M.flows qt28c_2 (625:Int))) (2:Nat) (Enc.F eRg (M.flows qt28c_2 (625:Int)))]) fun(j:Nat)=>List.getD [D.sl false (List.length (M.flows qt28c_2 (625:Int))) (2:Nat) (Enc.F eRg (M.flows qt28c_2 (625:Int)))] j D.nilp)] (canon (Row110.g {g:=(185:Nat),i:=(0:Int),d:=(625:Int),lo:=(3200:Int),hi:=(3200:Int)}) (0:Int) (625:Int)),
 (0:Int)≤(0:Int),
 (0:Int)<(2:Int),
 Enc.Is eSc (2:Nat) qt28c_1,
 List.length qt28c_2≤(100000:Nat),
 Enc.Is eSc (2:Nat) qt28c_1,
 Enc.Is eRg (List.length (M.flows qt28c_2 (312:Int))) (Enc.F eRg (M.flows qt28c_2 (312:Int))),
 List.length (Enc.list eRg (List.length (M.flows qt28c_2 (312:Int))) (Enc.F eRg (M.flows qt28c_2 (312:Int))))≤List.length qt28c_2,
 List.length qt28c_2≤(100000:Nat),
 (0:Int)≤(0:Int),
 (0:Int)<(2:Int),
 Same [Ag.agg [D.sl true (2:Nat) (4:Nat) qt28c_1,D.int IntKind.i64 (0:Int)],Ag.c (D.int IntKind.i64 (0:Int)),Ag.c (D.fc (185:Nat) (List.length [D.sl false (List.length (M.flows qt28c_2 (312:Int))) (2:Nat) (Enc.F eRg (M.flows qt28c_2 (312:Int)))]) fun(j:Nat)=>List.getD [D.sl false (List.length (M.flows qt28c_2 (312:Int))) (2:Nat) (Enc.F eRg (M.flows qt28c_2 (312:Int)))] j D.nilp)] (canon (Row110.g {g:=(185:Nat),i:=(0:Int),d:=(312:Int),lo:=(6410:Int),hi:=(6411:Int)}) (0:Int) (312:Int)),
 (0:Int)≤(0:Int),
 (0:Int)<(2:Int),
 Enc.Is eSc (2:Nat) qt28c_1,
 List.length qt28c_2≤(100000:Nat),
 Enc.Is eSc (2:Nat) qt28c_1,
 Enc.Is eRg (List.length (M.flows qt28c_2 (156:Int))) (Enc.F eRg (M.flows qt28c_2 (156:Int))),
 List.length (Enc.list eRg (List.length (M.flows qt28c_2 (156:Int))) (Enc.F eRg (M.flows qt28c_2 (156:Int))))≤List.length qt28c_2,
 List.length qt28c_2≤(100000:Nat),
 (0:Int)≤(0:Int),
 (0:Int)<(2:Int),
 Same [Ag.agg [D.sl true (2:Nat) (4:Nat) qt28c_1,D.int IntKind.i64 (0:Int)],Ag.c (D.int IntKind.i64 (0:Int)),Ag.c (D.fc (185:Nat) (List.length [D.sl false (List.length (M.flows qt28c_2 (156:Int))) (2:Nat) (Enc.F eRg (M.flows qt28c_2 (156:Int)))]) fun(j:Nat)=>List.getD [D.sl false (List.length (M.flows qt28c_2 (156:Int))) (2:Nat) (Enc.F eRg (M.flows qt28c_2 (156:Int)))] j D.nilp)] (canon (Row110.g {g:=(185:Nat),i:=(0:Int),d:=(156:Int),lo:=(12820:Int),hi:=(12821:Int)}) (0:Int) (156:Int)),
 (0:Int)≤(0:Int),
 (0:Int)<(2:Int),
 Enc.Is eSc (2:Nat) qt28c_1,
 List.length qt28c_2≤(100000:Nat),
 Enc.Is eSc (2:Nat) qt28c_1,
 Enc.Is eRg (List.length (M.flows qt28c_2 (78:Int))) (Enc.F eRg (M.flows qt28c_2 (78:Int))),
 List.length (Enc.list eRg (List.length (M.flows qt28c_2 (78:Int))) (Enc.F eRg (M.flows qt28c_2 (78:Int))))≤List.length qt28c_2,
 List.length qt28c_2≤(100000:Nat),
 (0:Int)≤(0:Int),
 (0:Int)<(2:Int),
 Same [Ag.agg [D.sl true (2:Nat) (4:Nat) qt28c_1,D.int IntKind.i64 (0:Int)],Ag.c (D.int IntKind.i64 (0:Int)),Ag.c (D.fc (185:Nat) (List.length [D.sl false (List.length (M.flows qt28c_2 (78:Int))) (2:Nat) (Enc.F eRg (M.flows qt28c_2 (78:Int)))]) fun(j:Nat)=>List.getD [D.sl false (List.length (M.flows qt28c_2 (78:Int))) (2:Nat) (Enc.F eRg (M.flows qt28c_2 (78:Int)))] j D.nilp)] (canon (Row110.g {g:=(185:Nat),i:=(0:Int),d:=(78:Int),lo:=(25641:Int),hi:=(25642:Int)}) (0:Int) (78:Int)),
 (0:Int)≤(0:Int),
 (0:Int)<(2:Int),
 (0:Int)≤(1:Int),
 (1:Int)<(2:Int),
 Same [Ag.agg [D.sl true (2:Nat) (4:Nat) qt28c_1,D.int IntKind.i64 (0:Int)],Ag.c (D.int IntKind.i64 (1:Int)),Ag.c (D.fc (185:Nat) (List.length [D.sl false (List.length (M.flows qt28c_2 (78:Int))) (2:Nat) (Enc.F eRg (M.flows qt28c_2 (78:Int)))]) fun(j:Nat)=>List.getD [D.sl false (List.length (M.flows qt28c_2 (78:Int))) (2:Nat) (Enc.F eRg (M.flows qt28c_2 (78:Int)))] j D.nilp)] (canon (Row110.g {g:=(185:Nat),i:=(1:Int),d:=(78:Int),lo:=(12820:Int),hi:=(12821:Int)}) (1:Int) (78:Int)),
 (0:Int)≤(1:Int),
 (1:Int)<(2:Int),
 Enc.Is eSc (2:Nat) qt28c_1,
 List.length qt28c_2≤(100000:Nat),
 Enc.Is eSc (2:Nat) qt28c_1,
 Enc.Is eRg (List.length (M.flows qt28c_2 (117:Int))) (Enc.F eRg (M.flows qt28c_2 (117:Int))),
 List.length (Enc.list eRg (List.length (M.flows qt28c_2 (117:Int))) (Enc.F eRg (M.flows qt28c_2 (117:Int))))≤List.length qt28c_2,
 List.length qt28c_2≤(100000:Nat),
 (0:Int)≤(0:Int),
 (0:Int)<(2:Int),
 Same [Ag.agg [D.sl true (2:Nat) (4:Nat) qt28c_1,D.int IntKind.i64 (0:Int)],Ag.c (D.int IntKind.i64 (0:Int)),Ag.c (D.fc (185:Nat) (List.length [D.sl false (List.length (M.flows qt28c_2 (117:Int))) (2:Nat) (Enc.F eRg (M.flows qt28c_2 (117:Int)))]) fun(j:Nat)=>List.getD [D.sl false (List.length (M.flows qt28c_2 (117:Int))) (2:Nat) (Enc.F eRg (M.flows qt28c_2 (117:Int)))] j D.nilp)] (canon (Row110.g {g:=(185:Nat),i:=(0:Int),d:=(117:Int),lo:=(17094:Int),hi:=(17095:Int)}) (0:Int) (117:Int)),
 (0:Int)≤(0:Int),
 (0:Int)<(2:Int),
 Enc.Is eSc (2:Nat) qt28c_1,
 List.length qt28c_2≤(100000:Nat),
 Enc.Is eSc (2:Nat) qt28c_1,
 Enc.Is eRg (List.length (M.flows qt28c_2 (97:Int))) (Enc.F eRg (M.flows qt28c_2 (97:Int))),
 List.length (Enc.list eRg (List.length (M.flows qt28c_2 (97:Int))) (Enc.F eRg (M.flows qt28c_2 (97:Int))))≤List.length qt28c_2,
 List.length qt28c_2≤(100000:Nat),
 (0:Int)≤(0:Int),
 (0:Int)<(2:Int),
 Same [Ag.agg [D.sl true (2:Nat) (4:Nat) qt28c_1,D.int IntKind.i64 (0:Int)],Ag.c (D.int IntKind.i64 (0:Int)),Ag.c (D.fc (185:Nat) (List.length [D.sl false (List.length (M.flows qt28c_2 (97:Int))) (2:Nat) (Enc.F eRg (M.flows qt28c_2 (97:Int)))]) fun(j:Nat)=>List.getD [D.sl false (List.length (M.flows qt28c_2 (97:Int))) (2:Nat) (Enc.F eRg (M.flows qt28c_2 (97:Int)))] j D.nilp)] (canon (Row110.g {g:=(185:Nat),i:=(0:Int),d:=(97:Int),lo:=(20618:Int),hi:=(20619:Int)}) (0:Int) (97:Int)),
 (0:Int)≤(0:Int),
 (0:Int)<(2:Int),
 (0:Int)≤(1:Int),
 (1:Int)<(2:Int),
 Same [Ag.agg [D.sl true (2:Nat) (4:Nat) qt28c_1,D.int IntKind.i64 (0:Int)],Ag.c (D.int IntKind.i64 (1:Int)),Ag.c (D.fc (185:Nat) (List.length [D.sl false (List.length (M.flows qt28c_2 (97:Int))) (2:Nat) (Enc.F eRg (M.flows qt28c_2 (97:Int)))]) fun(j:Nat)=>List.getD [D.sl false (List.length (M.flows qt28c_2 (97:Int))) (2:Nat) (Enc.F eRg (M.flows qt28c_2 (97:Int)))] j D.nilp)] (canon (Row110.g {g:=(185:Nat),i:=(1:Int),d:=(97:Int),lo:=(10309:Int),hi:=(10310:Int)}) (1:Int) (97:Int)),
 (0:Int)≤(1:Int),
 (1:Int)<(2:Int),
 Enc.Is eSc (2:Nat) qt28c_1,
 List.length qt28c_2≤(100000:Nat),
 Enc.Is eSc (2:Nat) qt28c_1,
 Enc.Is eRg (List.length (M.flows qt28c_2 (107:Int))) (Enc.F eRg (M.flows qt28c_2 (107:Int))),
 List.length (Enc.list eRg (List.length (M.flows qt28c_2 (107:Int))) (Enc.F eRg (M.flows qt28c_2 (107:Int))))≤List.length qt28c_2,
 List.length qt28c_2≤(100000:Nat),
 (0:Int)≤(0:Int),
 (0:Int)<(2:Int),
 Same [Ag.agg [D.sl true (2:Nat) (4:Nat) qt28c_1,D.int IntKind.i64 (0:Int)],Ag.c (D.int IntKind.i64 (0:Int)),Ag.c (D.fc (185:Nat) (List.length [D.sl false (List.length (M.flows qt28c_2 (107:Int))) (2:Nat) (Enc.F eRg (M.flows qt28c_2 (107:Int)))]) fun(j:Nat)=>List.getD [D.sl false (List.length (M.flows qt28c_2 (107:Int))) (2:Nat) (Enc.F eRg (M.flows qt28c_2 (107:Int)))] j D.nilp)] (canon (Row110.g {g:=(185:Nat),i:=(0:Int),d:=(107:Int),lo:=(18691:Int),hi:=(18692:Int)}) (0:Int) (107:Int)),
 (0:Int)≤(0:Int),
 (0:Int)<(2:Int),
 Enc.Is eSc (2:Nat) qt28c_1,
 List.length qt28c_2≤(100000:Nat),
 Enc.Is eSc (2:Nat) qt28c_1,
 Enc.Is eRg (List.length (M.flows qt28c_2 (102:Int))) (Enc.F eRg (M.flows qt28c_2 (102:Int))),
 List.length (Enc.list eRg (List.length (M.flows qt28c_2 (102:Int))) (Enc.F eRg (M.flows qt28c_2 (102:Int))))≤List.length qt28c_2,
 List.length qt28c_2≤(100000:Nat),
 (0:Int)≤(0:Int),
 (0:Int)<(2:Int),
 Same [Ag.agg [D.sl true (2:Nat) (4:Nat) qt28c_1,D.int IntKind.i64 (0:Int)],Ag.c (D.int IntKind.i64 (0:Int)),Ag.c (D.fc (185:Nat) (List.length [D.sl false (List.length (M.flows qt28c_2 (102:Int))) (2:Nat) (Enc.F eRg (M.flows qt28c_2 (102:Int)))]) fun(j:Nat)=>List.getD [D.sl false (List.length (M.flows qt28c_2 (102:Int))) (2:Nat) (Enc.F eRg (M.flows qt28c_2 (102:Int)))] j D.nilp)] (canon (Row110.g {g:=(185:Nat),i:=(0:Int),d:=(102:Int),lo:=(19607:Int),hi:=(19608:Int)}) (0:Int) (102:Int)),
 (0:Int)≤(0:Int),
 (0:Int)<(2:Int),
 Enc.Is eSc (2:Nat) qt28c_1,
 List.length qt28c_2≤(100000:Nat),
 Enc.Is eSc (2:Nat) qt28c_1,
 Enc.Is eRg (List.length (M.flows qt28c_2 (99:Int))) (Enc.F eRg (M.flows qt28c_2 (99:Int))),
 List.length (Enc.list eRg (List.length (M.flows qt28c_2 (99:Int))) (Enc.F eRg (M.flows qt28c_2 (99:Int))))≤List.length qt28c_2,
 List.length qt28c_2≤(100000:Nat),
 (0:Int)≤(0:Int),
 (0:Int)<(2:Int),
 Same [Ag.agg [D.sl true (2:Nat) (4:Nat) qt28c_1,D.int IntKind.i64 (0:Int)],Ag.c (D.int IntKind.i64 (0:Int)),Ag.c (D.fc (185:Nat) (List.length [D.sl false (List.length (M.flows qt28c_2 (99:Int))) (2:Nat) (Enc.F eRg (M.flows qt28c_2 (99:Int)))]) fun(j:Nat)=>List.getD [D.sl false (List.length (M.flows qt28c_2 (99:Int))) (2:Nat) (Enc.F eRg (M.flows qt28c_2 (99:Int)))] j D.nilp)] (canon (Row110.g {g:=(185:Nat),i:=(0:Int),d:=(99:Int),lo:=(20202:Int),hi:=(20203:Int)}) (0:Int) (99:Int)),
 (0:Int)≤(0:Int),
 (0:Int)<(2:Int),
 (0:Int)≤(1:Int),
 (1:Int)<(2:Int),
 Same [Ag.agg [D.sl true (2:Nat) (4:Nat) qt28c_1,D.int IntKind.i64 (0:Int)],Ag.c (D.int IntKind.i64 (1:Int)),Ag.c (D.fc (185:Nat) (List.length [D.sl false (List.length (M.flows qt28c_2 (99:Int))) (2:Nat) (Enc.F eRg (M.flows qt28c_2 (99:Int)))]) fun(j:Nat)=>List.getD [D.sl false (List.length (M.flows qt28c_2 (99:Int))) (2:Nat) (Enc.F eRg (M.flows qt28c_2 (99:Int)))] j D.nilp)] (canon (Row110.g {g:=(185:Nat),i:=(1:Int),d:=(99:Int),lo:=(10101:Int),hi:=(10102:Int)}) (1:Int) (99:Int)),
 (0:Int)≤(1:Int),
 (1:Int)<(2:Int),
 Enc.Is eSc (2:Nat) qt28c_1,
 List.length qt28c_2≤(100000:Nat),
 Enc.Is eSc (2:Nat) qt28c_1,
 Enc.Is eRg (List.length (M.flows qt28c_2 (100:Int))) (Enc.F eRg (M.flows qt28c_2 (100:Int))),
 List.length (Enc.list eRg (List.length (M.flows qt28c_2 (100:Int))) (Enc.F eRg (M.flows qt28c_2 (100:Int))))≤List.length qt28c_2,
 List.length qt28c_2≤(100000:Nat),
 (0:Int)≤(0:Int),
 (0:Int)<(2:Int),
 Same [Ag.agg [D.sl true (2:Nat) (4:Nat) qt28c_1,D.int IntKind.i64 (0:Int)],Ag.c (D.int IntKind.i64 (0:Int)),Ag.c (D.fc (185:Nat) (List.length [D.sl false (List.length (M.flows qt28c_2 (100:Int))) (2:Nat) (Enc.F eRg (M.flows qt28c_2 (100:Int)))]) fun(j:Nat)=>List.getD [D.sl false (List.length (M.flows qt28c_2 (100:Int))) (2:Nat) (Enc.F eRg (M.flows qt28c_2 (100:Int)))] j D.nilp)] (canon (Row110.g {g:=(185:Nat),i:=(0:Int),d:=(100:Int),lo:=(20000:Int),hi:=(20000:Int)}) (0:Int) (100:Int)),
 (0:Int)≤(0:Int),
 (0:Int)<(2:Int),
 (0:Int)≤(1:Int),
 (1:Int)<(2:Int),
 Same [Ag.agg [D.sl true (2:Nat) (4:Nat) qt28c_1,D.int IntKind.i64 (0:Int)],Ag.c (D.int IntKind.i64 (1:Int)),Ag.c (D.fc (185:Nat) (List.length [D.sl false (List.length (M.flows qt28c_2 (100:Int))) (2:Nat) (Enc.F eRg (M.flows qt28c_2 (100:Int)))]) fun(j:Nat)=>List.getD [D.sl false (List.length (M.flows qt28c_2 (100:Int))) (2:Nat) (Enc.F eRg (M.flows qt28c_2 (100:Int)))] j D.nilp)] (canon (Row110.g {g:=(185:Nat),i:=(1:Int),d:=(100:Int),lo:=(10000:Int),hi:=(10000:Int)}) (1:Int) (100:Int)),
 (0:Int)≤(1:Int),
 (1:Int)<(2:Int),
 Enc.Is eSc (2:Nat) qt28c_1,
 List.length qt28c_2≤(100000:Nat),
 Enc.Is eSc (2:Nat) qt28c_1,
 Enc.Is eRg (List.length qt28c_3) (Enc.F eRg qt28c_3),
 List.length (Enc.list eRg (List.length qt28c_3) (Enc.F eRg qt28c_3))≤List.length qt28c_2,
 List.length qt28c_2≤(100000:Nat),
 (0:Int)≤(0:Int),
 (0:Int)<(2:Int),
 Same [Ag.agg [D.sl true (2:Nat) (4:Nat) qt28c_1,D.int IntKind.i64 (0:Int)],Ag.c (D.int IntKind.i64 (0:Int)),Ag.c (D.fc (185:Nat) (List.length [D.sl false (List.length qt28c_3) (2:Nat) (Enc.F eRg qt28c_3)]) fun(j:Nat)=>List.getD [D.sl false (List.length qt28c_3) (2:Nat) (Enc.F eRg qt28c_3)] j D.nilp)] (canon (Row110.g {g:=(185:Nat),i:=(0:Int),d:=(101:Int),lo:=(19801:Int),hi:=(19802:Int)}) (0:Int) (101:Int)),
 (0:Int)≤(0:Int),
 (0:Int)<(2:Int),
 Enc.Is eSc (2:Nat) qt28c_1,
 List.length qt28c_2≤(100000:Nat),
 Enc.Is eSc (2:Nat) qt28c_1,
 Enc.Is eRg (List.length qt28c_3) (Enc.F eRg qt28c_3),
 List.length (Enc.list eRg (List.length qt28c_3) (Enc.F eRg qt28c_3))≤List.length qt28c_2,
 List.length qt28c_2≤(100000:Nat),
 (0:Int)≤(0:Int),
 (0:Int)<(2:Int),
 Same [Ag.agg [D.sl true (2:Nat) (4:Nat) qt28c_1,D.int IntKind.i64 (0:Int)],Ag.c (D.int IntKind.i64 (0:Int)),Ag.c (D.fc (185:Nat) (List.length [D.sl false (List.length qt28c_3) (2:Nat) (Enc.F eRg qt28c_3)]) fun(j:Nat)=>List.getD [D.sl false (List.length qt28c_3) (2:Nat) (Enc.F eRg qt28c_3)] j D.nilp)] (canon (Row110.g {g:=(185:Nat),i:=(0:Int),d:=(101:Int),lo:=(19801:Int),hi:=(19802:Int)}) (0:Int) (101:Int)),
 (0:Int)≤(0:Int),
 (0:Int)<(2:Int)]
theorem t28c:runFnX Try.prog G0 (lookS [v95,v108,v109,v110c]) (fun _=>[(999999,[],none)]) [96,158] 1 200 6 28 Try.f28 [.agg [.sl true 2 4 (eSc.F [⟨1000,0,0,20000⟩,⟨1000,0,0,10000⟩]),dI 0]] =
  T.needs nd_t28c (T.ret [Ar.c (D.int IntKind.i64 (100:Int)),Ar.c (D.int IntKind.i64 (0:Int)),Ar.c (D.int IntKind.i64 (0:Int))]):=by kernel_rfl
theorem all_t28c:All nd_t28c:=by
 unfold nd_t28c
 repeat (refine⟨(by first|exact of_decide_eq_true rfl|exact fun i j _ _=>D.eqv_refl _|exact Enc.is_F _ _ _|exact fun i j hi _=>absurd hi (Nat.not_lt_zero i)|exact⟨⟨ag_of_eq (by kernel_rfl),ag_of_eq (by kernel_rfl),⟨rfl,rfl,fun j hj=>by obtain rfl:j=0:=Nat.lt_one_iff.1 hj;exact D.eqv_of_eq (by kernel_rfl)⟩,trivial⟩⟩),?_⟩)
 trivial
theorem w_t28c:(T.needs nd_t28c (T.ret [Ar.c (D.int IntKind.i64 (100:Int)),Ar.c (D.int IntKind.i64 (0:Int)),Ar.c (D.int IntKind.i64 (0:Int))])).wp (fun rs=>rsEqv rs [rI 100,rI 0,rI 0]):=by
 refine T.needs_wp all_t28c ?_
 exact rsEqv_refl _
abbrev qt35c_1:=Enc.F eSc (Enc.list eSc (2:Nat) (Enc.F eSc [(Scale.mk (1000:Int) (0:Int) (0:Int) (20000:Int)),(Scale.mk (1000:Int) (0:Int) (0:Int) (10000:Int))]))
abbrev qt35c_2:=M.flows (Enc.list eSc (2:Nat) qt35c_1) (100:Int)
def nd_t35c:List Prop:=[
 Enc.Is eSc (2:Nat) (Enc.F eSc [(Scale.mk (1000:Int) (0:Int) (0:Int) (20000:Int)),(Scale.mk (1000:Int) (0:Int) (0:Int) (10000:Int))]),
 (2:Nat)≤(100000:Nat),
 Enc.Is eSc (2:Nat) qt35c_1,
 List.length (Enc.list eSc (2:Nat) qt35c_1)≤(100000:Nat),
 (0:Int)≤(0:Int),
 (0:Int)<(2:Int),
 (0:Int)≤(1:Int),
 (1:Int)<(2:Int),
 Enc.Is eSc (2:Nat) qt35c_1,
 Enc.Is eRg (List.length qt35c_2) (Enc.F eRg qt35c_2),
 List.length (Enc.list eRg (List.length qt35c_2) (Enc.F eRg qt35c_2))≤List.length (Enc.list eSc (2:Nat) qt35c_1),
 List.length (Enc.list eSc (2:Nat) qt35c_1)≤(100000:Nat),
 Same [Ag.agg [D.sl true (2:Nat) (4:Nat) qt35c_1,D.int IntKind.i64 (0:Int)],Ag.c (D.int IntKind.i64 (0:Int)),Ag.c (D.fc (111:Nat) (List.length [D.sl false (List.length qt35c_2) (2:Nat) (Enc.F eRg qt35c_2)]) fun(j:Nat)=>List.getD [D.sl false (List.length qt35c_2) (2:Nat) (Enc.F eRg qt35c_2)] j D.nilp)] (canon (Row110.g {g:=(111:Nat),i:=(0:Int),d:=(100:Int),lo:=(20000:Int),hi:=(20000:Int)}) (0:Int) (100:Int)),
 Same [Ag.agg [D.sl true (2:Nat) (4:Nat) qt35c_1,D.int IntKind.i64 (0:Int)],Ag.c (D.int IntKind.i64 (0:Int)),Ag.c (D.fc (112:Nat) (List.length [D.sl false (List.length qt35c_2) (2:Nat) (Enc.F eRg qt35c_2)]) fun(j:Nat)=>List.getD [D.sl false (List.length qt35c_2) (2:Nat) (Enc.F eRg qt35c_2)] j D.nilp)] (canon (Row110.g {g:=(112:Nat),i:=(0:Int),d:=(100:Int),lo:=(20000:Int),hi:=(20000:Int)}) (0:Int) (100:Int)),
 (1:Nat)≤(1000000:Nat),
 Same [Ag.agg [D.sl true (2:Nat) (4:Nat) qt35c_1,D.int IntKind.i64 (0:Int)],Ag.c (D.int IntKind.i64 (1:Int)),Ag.c (D.fc (111:Nat) (List.length [D.sl false (List.length qt35c_2) (2:Nat) (Enc.F eRg qt35c_2)]) fun(j:Nat)=>List.getD [D.sl false (List.length qt35c_2) (2:Nat) (Enc.F eRg qt35c_2)] j D.nilp)] (canon (Row110.g {g:=(111:Nat),i:=(1:Int),d:=(100:Int),lo:=(10000:Int),hi:=(10000:Int)}) (1:Int) (100:Int)),
 Same [Ag.agg [D.sl true (2:Nat) (4:Nat) qt35c_1,D.int IntKind.i64 (0:Int)],Ag.c (D.int IntKind.i64 (1:Int)),Ag.c (D.fc (112:Nat) (List.length [D.sl false (List.length qt35c_2) (2:Nat) (Enc.F eRg qt35c_2)]) fun(j:Nat)=>List.getD [D.sl false (List.length qt35c_2) (2:Nat) (Enc.F eRg qt35c_2)] j D.nilp)] (canon (Row110.g {g:=(112:Nat),i:=(1:Int),d:=(100:Int),lo:=(10000:Int),hi:=(10000:Int)}) (1:Int) (100:Int)),
 (2:Nat)≤(1000000:Nat),
 (1:Nat)≤(1:Nat),
 (2:Nat)≤(2:Nat)]
theorem t35c:runFnX Try.prog G0 (lookS [v103,v104,v95,v107,v108,v109,v110c]) (fun _=>[(999999,[],none)]) [] 1 60 3 35 Try.f35 [.agg [.sl true 2 4 (eSc.F [⟨1000,0,0,20000⟩,⟨1000,0,0,10000⟩]),dI 0],.c (dI 100)] =
  T.needs nd_t35c (T.ret [Ar.c (D.sl true (2:Nat) (2:Nat) (joinF (1:Nat) (joinF (0:Nat) (fun(x x_1:Nat)=>D.nilp) fun(i j:Nat)=>List.getD [D.int IntKind.i64 (20000:Int),D.int IntKind.i64 (20000:Int)] (i*2+j) D.nilp) fun(i j:Nat)=>List.getD [D.int IntKind.i64 (10000:Int),D.int IntKind.i64 (10000:Int)] (i*2+j) D.nilp)),Ar.c (D.int IntKind.i64 (0:Int))]):=by kernel_rfl
theorem all_t35c:All nd_t35c:=by
 unfold nd_t35c
 repeat (refine⟨(by first|exact of_decide_eq_true rfl|exact fun i j _ _=>D.eqv_refl _|exact Enc.is_F _ _ _|exact fun i j hi _=>absurd hi (Nat.not_lt_zero i)|exact⟨⟨ag_of_eq (by kernel_rfl),ag_of_eq (by kernel_rfl),⟨rfl,rfl,fun j hj=>by obtain rfl:j=0:=Nat.lt_one_iff.1 hj;exact D.eqv_of_eq (by kernel_rfl)⟩,trivial⟩⟩),?_⟩)
 trivial
theorem w_t35c:(T.needs nd_t35c (T.ret [Ar.c (D.sl true (2:Nat) (2:Nat) (joinF (1:Nat) (joinF (0:Nat) (fun(x x_1:Nat)=>D.nilp) fun(i j:Nat)=>List.getD [D.int IntKind.i64 (20000:Int),D.int IntKind.i64 (20000:Int)] (i*2+j) D.nilp) fun(i j:Nat)=>List.getD [D.int IntKind.i64 (10000:Int),D.int IntKind.i64 (10000:Int)] (i*2+j) D.nilp)),Ar.c (D.int IntKind.i64 (0:Int))])).wp (fun rs=>rsEqv rs [.c (.sl true 2 2 (eRg.F [⟨20000,20000⟩,⟨10000,10000⟩])),rI 0]):=by
 refine T.needs_wp all_t35c ?_
 refine⟨⟨fun _=>rfl,rfl,fun _=>rfl,fun i j hi hj=>?_⟩,rfl,trivial⟩
 match i,hi,j,hj with
 |0,_,0,_=>exact D.eqv_refl _
 |0,_,1,_=>exact D.eqv_refl _
 |1,_,0,_=>exact D.eqv_refl _
 |1,_,1,_=>exact D.eqv_refl _
def dom28c:DomF
 |[.agg ds]=>some ([Same [.agg ds] [.agg four]],[rI 100,rI 0,rI 0])
 |_=>none
def v28c:Nat×Sm:=(28,fokSm dom28c)
theorem C28c:FOK Try.prog G0 gw 28 dom28c:=by
 intro ags p r hd hp κ w xs hw hl hG hx
 unfold dom28c at hd
 split at hd
 ·simp only[Option.some.injEq,Prod.mk.injEq]at hd
  obtain⟨rfl,rfl⟩:=hd
  exact fokX_fin mixed gw_stable (sl:=[v95,v108,v109,v110c]) ⟨S95,S108,S109,S110c,trivial⟩ Try.func28 hw hl hG hx hp.1.h rfl t28c w_t28c
 ·cases hd
theorem S28c:SumOK Try.prog G0 gw 28 (fokSm dom28c):=fok_sum Try.func28 rfl C28c
def dom35c:DomF
 |[.agg ds,.c d]=>some ([Same [.agg ds,.c d] [.agg four,.c (dI 100)]],[.c (.sl true 2 2 (eRg.F [⟨20000,20000⟩,⟨10000,10000⟩])),rI 0])
 |_=>none
def v35c:Nat×Sm:=(35,fokSm dom35c)
theorem C35c:FOK Try.prog G0 gw 35 dom35c:=by
 intro ags p r hd hp κ w xs hw hl hG hx
 unfold dom35c at hd
 split at hd
 ·simp only[Option.some.injEq,Prod.mk.injEq]at hd
  obtain⟨rfl,rfl⟩:=hd
  exact fokX_fin mixed gw_stable (sl:=[v103,v104,v95,v107,v108,v109,v110c]) ⟨S103,S104,S95,S107,S108,S109,S110c,trivial⟩ Try.func35 hw hl hG hx hp.1.h rfl t35c w_t35c
 ·cases hd
theorem S35c:SumOK Try.prog G0 gw 35 (fokSm dom35c):=fok_sum Try.func35 rfl C35c
end Go.Pl
end
section
set_option maxRecDepth 100000
namespace Go.Pl
open Go.V Go.Proofs
namespace M
def frac(n d:Int):Int×Int×Int:=cond (small (told1 n d) 1000000000) (cond (decide (told2 n d>1000000000)) (0,0,8) (told1 n d,told2 n d,0)) (0,0,8)
end M
def resF(x:Int×Int×Int):List Ar:=[.agg [dI x.1,dI x.2.1],rI x.2.2]
theorem gcdL2(n d:Int):M.gcdL [n,d]=Int.gcd n d:=by
 unfold M.gcdL Int.gcd
 simp
def tr85(n d:Int):T (List Ar):=
  T.need (Enc.Is eI (2:Nat) fun(i j:Nat)=>List.getD [D.int IntKind.i64 n,D.int IntKind.i64 d] (i*1+j) D.nilp) (T.need (List.length (Enc.list eI (2:Nat) fun(i j:Nat)=>List.getD [D.int IntKind.i64 n,D.int IntKind.i64 d] (i*1+j) D.nilp)≤1000000) (T.need (∀(x:Int),(x∈Enc.list eI (2:Nat) fun(i j:Nat)=>List.getD [D.int IntKind.i64 n,D.int IntKind.i64 d] (i*(nat_lit 0+1)+j) D.nilp)→i64ok x) (T.need ((Nat.cast (R:=Int) (M.gcdL (Enc.list eI (2:Nat) fun(i j:Nat)=>List.getD [D.int IntKind.i64 n,D.int IntKind.i64 d] (i*1+j) D.nilp)))≠(0:Int)) (T.need ((Nat.cast (R:=Int) (M.gcdL (Enc.list eI (2:Nat) fun(i j:Nat)=>List.getD [D.int IntKind.i64 n,D.int IntKind.i64 d] (i*1+j) D.nilp)))≠(0:Int)) (T.need ((0:Int)≤1000000000∧(1000000000:Int)<9223372036854775808) (T.br (!M.small (IntKind.i64.wrap (Int.tdiv n (Nat.cast (R:=Int) (M.gcdL (Enc.list eI (2:Nat) fun(i j:Nat)=>List.getD [D.int IntKind.i64 n,D.int IntKind.i64 d] (i*1+j) D.nilp))))) (1000000000:Int)) (T.ret [Ar.agg [D.int IntKind.i64 (0:Int),D.int IntKind.i64 (0:Int)],Ar.c (D.int IntKind.i64 (8:Int))]) (T.br (decide (IntKind.i64.wrap (Int.tdiv d (Nat.cast (R:=Int) (M.gcdL (Enc.list eI (2:Nat) fun(i j:Nat)=>List.getD [D.int IntKind.i64 n,D.int IntKind.i64 d] (i*1+j) D.nilp))))>(1000000000:Int))) (T.ret [Ar.agg [D.int IntKind.i64 (0:Int),D.int IntKind.i64 (0:Int)],Ar.c (D.int IntKind.i64 (8:Int))]) (T.ret [Ar.agg [D.int IntKind.i64 (IntKind.i64.wrap (Int.tdiv n (Nat.cast (R:=Int) (M.gcdL (Enc.list eI (2:Nat) fun(i j:Nat)=>List.getD [D.int IntKind.i64 n,D.int IntKind.i64 d] (i*1+j) D.nilp))))),D.int IntKind.i64 (IntKind.i64.wrap (Int.tdiv d (Nat.cast (R:=Int) (M.gcdL (Enc.list eI (2:Nat) fun(i j:Nat)=>List.getD [D.int IntKind.i64 n,D.int IntKind.i64 d] (i*1+j) D.nilp)))))],Ar.c (D.int IntKind.i64 (0:Int))]))))))))
theorem t85(n d:Int):runFnX Try.prog G0 (lookS [v121,v151]) (fun _=>[]) [] 1 40 3 85 Try.f85 [.agg [dI n,dI d]] =
  tr85 n d:=by kernel_rfl
theorem w85(n d:Int)(hn:i64ok n)(hd:i64ok d)(h0:0<d):(tr85 n d).wp (fun rs=>rsEqv rs (resF (M.frac n d))):=by
 unfold tr85
 have hl:(eI.list 2 fun(i j:Nat)=>List.getD [D.int IntKind.i64 n,D.int IntKind.i64 d] (i*1+j) D.nilp)=[n,d]:=rfl
 have hl2:(eI.list 2 fun(i j:Nat)=>List.getD [D.int IntKind.i64 n,D.int IntKind.i64 d] (i*(0+1)+j) D.nilp)=[n,d]:=rfl
 have hg:Int.gcd n d≠0:=by
  intro h
  have:=Int.gcd_eq_zero_iff.1 h
  omega
 have w1:=tdiv_ok (n:=n) (g:=Int.gcd n d) hn
 have w2:=tdiv_ok (n:=d) (g:=Int.gcd n d) hd
 simp only[hl,gcdL2,w1,w2]
 refine⟨is_lit2 (D.eqv_refl _) (D.eqv_refl _),of_decide_eq_true rfl,fun x hx=>?_,by omega,by omega,by decide,?_⟩
 ·have hx:x∈ [n,d]:=hx
  simp only[List.mem_cons,List.not_mem_nil,or_false]at hx
  rcases hx with rfl|rfl
  ·exact hn
  ·exact hd
 ·refine wp_br (fun a=>?_) (fun a=>wp_br (fun b=>?_) (fun b=>?_))
  ·have a:(!M.small (M.told1 n d) 1000000000)=true:=a
   rw[Bool.not_eq_true']at a
   have e:M.frac n d=(0,0,8):=by unfold M.frac;rw[a];rfl
   rw[e];exact rsEqv_refl _
  ·have a:(!M.small (M.told1 n d) 1000000000)=false:=a
   rw[Bool.not_eq_false']at a
   have b:decide (M.told2 n d>1000000000)=true:=b
   have e:M.frac n d=(0,0,8):=by unfold M.frac;rw[a,b];rfl
   rw[e];exact rsEqv_refl _
  ·have a:(!M.small (M.told1 n d) 1000000000)=false:=a
   rw[Bool.not_eq_false']at a
   have b:decide (M.told2 n d>1000000000)=false:=b
   have e:M.frac n d=(M.told1 n d,M.told2 n d,0):=by unfold M.frac;rw[a,b];rfl
   rw[e];exact rsEqv_refl _
def dom85:DomF
 |[.agg [.int .i64 n,.int .i64 d]]=>some ([i64ok n,i64ok d,0<d],resF (M.frac n d))
 |_=>none
def v85:Nat×Sm:=(85,fokSm dom85)
theorem C85:FOK Try.prog G0 gw 85 dom85:=by
 intro ags p r hd hp κ w xs hw hl hG hx
 unfold dom85 at hd
 split at hd
 ·rename_i n d
  simp only[Option.some.injEq,Prod.mk.injEq]at hd
  obtain⟨rfl,rfl⟩:=hd
  exact fokX_fin mixed gw_stable (sl:=[v121,v151]) ⟨S121,S151,trivial⟩ Try.func85 hw hl hG hx (agsEqv_refl _) rfl (t85 n d) (w85 n d hp.1 hp.2.1 hp.2.2.1)
 ·cases hd
theorem S85:SumOK Try.prog G0 gw 85 (fokSm dom85):=fok_sum Try.func85 rfl C85
def tr83(q_mo:Bool)(mo:List Int)(q_ga:Bool)(ga:List Int)(q_de:Bool)(de:List Dem):T (List Ar):=
  T.need (Enc.Is eI mo.length (Enc.F eI mo)) (T.need (Enc.Is eI ga.length (Enc.F eI ga)) (T.need (Enc.Is eDm de.length (Enc.F eDm de)) (T.need (List.length (Enc.list eI mo.length (Enc.F eI mo))≤1000000) (T.need (List.length (Enc.list eI ga.length (Enc.F eI ga))≤1000000) (T.need (List.length (Enc.list eDm de.length (Enc.F eDm de))≤1000000) (T.need (∀(d:Dem),d∈Enc.list eDm de.length (Enc.F eDm de)→ByteArray.size (Dem.nm d)≤1000000∧List.length (Dem.co d)≤1000000) (T.ret [Ar.agg [D.sl q_mo mo.length (1:Nat) (Enc.F eI mo),D.sl q_ga ga.length (1:Nat) (Enc.F eI ga),D.sl q_de de.length (3:Nat) (Enc.F eDm de)],Ar.c (D.int IntKind.i64 (Prod.snd (M.checkProg (Enc.list eI mo.length (Enc.F eI mo)) (Enc.list eI ga.length (Enc.F eI ga)) (Enc.list eDm de.length (Enc.F eDm de)))))])))))))
theorem t83(q_mo:Bool)(mo:List Int)(q_ga:Bool)(ga:List Int)(q_de:Bool)(de:List Dem):runFnX Try.prog G0 (lookS [v42]) (fun _=>[]) [] 1 40 3 83 Try.f83 [.agg [.sl q_mo mo.length 1 (eI.F mo),.sl q_ga ga.length 1 (eI.F ga),.sl q_de de.length 3 (eDm.F de)]] =
  tr83 q_mo mo q_ga ga q_de de:=by kernel_rfl
theorem w83(qm:Bool)(mo:List Int)(qg:Bool)(ga:List Int)(qd:Bool)(de:List Dem)(h1:mo.length≤1000000)(h2:ga.length≤1000000)(h3:de.length≤1000000)(hn:∀d,d∈de→d.nm.size≤1000000∧d.co.length≤1000000):(tr83 qm mo qg ga qd de).wp (fun rs=>rsEqv rs [.agg [.sl qm mo.length 1 (eI.F mo),.sl qg ga.length 1 (eI.F ga),.sl qd de.length 3 (eDm.F de)],rI (M.checkProg mo ga de).2]):=by
 unfold tr83
 simp only[Enc.list_F]
 exact⟨Enc.is_F _ _ _,Enc.is_F _ _ _,Enc.is_F _ _ _,h1,h2,h3,hn,rsEqv_refl _⟩
def dom83:DomF
 |[.agg [.sl qm n1 st1 F1,.sl qg n2 st2 F2,.sl qd n3 st3 F3]]=>(match Nat.beq st1 1&&Nat.beq st2 1&&Nat.beq st3 3 with
  |true=>some ([eI.Is n1 F1,eI.Is n2 F2,eDm.Is n3 F3,n1≤1000000,n2≤1000000,n3≤1000000,∀d,d∈eDm.list n3 F3→d.nm.size≤1000000∧d.co.length≤1000000],[.agg [.sl qm n1 1 (eI.F (eI.list n1 F1)),.sl qg n2 1 (eI.F (eI.list n2 F2)),.sl qd n3 3 (eDm.F (eDm.list n3 F3))],rI (M.checkProg (eI.list n1 F1) (eI.list n2 F2) (eDm.list n3 F3)).2])
  |_=>none)
 |_=>none
def v83:Nat×Sm:=(83,fokSm dom83)
theorem C83:FOK Try.prog G0 gw 83 dom83:=by
 intro ags p r hd hp κ w xs hw hl hG hx
 unfold dom83 at hd
 split at hd
 ·rename_i qm n1 st1 F1 qg n2 st2 F2 qd n3 st3 F3
  split at hd
  ·rename_i hst
   simp only[Bool.and_eq_true]at hst
   have g1:=Nat.eq_of_beq_eq_true hst.1.1
   have g2:=Nat.eq_of_beq_eq_true hst.1.2
   have g3:=Nat.eq_of_beq_eq_true hst.2
   subst g1 g2 g3
   simp only[Option.some.injEq,Prod.mk.injEq]at hd
   obtain⟨rfl,rfl⟩:=hd
   obtain⟨i1,i2,i3,l1,l2,l3,hn,_⟩:=hp
   have heq:agsEqv [.agg [.sl qm n1 1 F1,.sl qg n2 1 F2,.sl qd n3 3 F3]] [.agg [.sl qm (eI.list n1 F1).length 1 (eI.F (eI.list n1 F1)),.sl qg (eI.list n2 F2).length 1 (eI.F (eI.list n2 F2)),.sl qd (eDm.list n3 F3).length 3 (eDm.F (eDm.list n3 F3))]]:=⟨⟨eI.to id i1,eI.to id i2,eDm.to id i3,trivial⟩,trivial⟩
   have e1:(eI.list n1 F1).length=n1:=Enc.list_len _
   have e2:(eI.list n2 F2).length=n2:=Enc.list_len _
   have e3:(eDm.list n3 F3).length=n3:=Enc.list_len _
   have hw0:=w83 qm (eI.list n1 F1) qg (eI.list n2 F2) qd (eDm.list n3 F3) (by omega) (by omega) (by omega) hn
   rw[e1,e2,e3]at hw0
   exact fokX_fin mixed gw_stable (sl:=[v42]) ⟨S42,trivial⟩ Try.func83 hw hl hG hx heq rfl (t83 qm _ qg _ qd _) hw0
  ·cases hd
 ·cases hd
theorem S83:SumOK Try.prog G0 gw 83 (fokSm dom83):=fok_sum Try.func83 rfl C83
end Go.Pl
end
section
set_option maxRecDepth 100000
namespace Go.Pl
open Go.V Go.Proofs
def best2:List Ar:=[.agg [dI 34,dI 1,dI 1,dT [10,2],dI 1,dT [2],dT [1,0]],rI 0]
def two':List D:=[D.sl true 2 1 (eI.F (eI.list 2 (eI.F [10,10]))),D.sl true 2 1 (eI.F (eI.list 2 (eI.F [3,2]))),D.sl true 1 3 (eDm.F (eDm.list 1 (eDm.F [⟨⟨#[97]⟩,[1,1],12⟩])))]
theorem two'_eq:two'=two:=by kernel_rfl
theorem two1:Same [.agg two'] [.agg two]:=⟨by rw[two'_eq];exact agsEqv_refl _⟩
theorem two3:Same [.agg two',.c (.sl true 2 1 (eI.F (eI.list 2 (eI.F [3,2])))),.c (.sl false 0 0 (fun _ _=>.nilp))] [.agg two,.c (dT [3,2]),.c (.sl false 0 0 (fun _ _=>.nilp))]:=⟨by rw[two'_eq];exact⟨Ag.eqv_refl _,ag_of_eq (by kernel_rfl),Ag.eqv_refl _,trivial⟩⟩
def nd_t17c:List Prop:=[
 Enc.Is eI (2:Nat) (Enc.F eI [(10:Int),(10:Int)]),
 Enc.Is eI (2:Nat) (Enc.F eI [(3:Int),(2:Int)]),
 Enc.Is eDm (1:Nat) (Enc.F eDm [{nm:={data:={toList:=[(97:UInt8)]}},co:=[(1:Int),(1:Int)],am:=(12:Int)}]),
 (2:Nat)≤(1000000:Nat),
 (2:Nat)≤(1000000:Nat),
 (1:Nat)≤(1000000:Nat),
 ∀(d:Dem),d∈Enc.list eDm (1:Nat) (Enc.F eDm [{nm:={data:= #[(97:UInt8)]},co:=[(1:Int),(1:Int)],am:=(12:Int)}])→ByteArray.size (Dem.nm d)≤(1000000:Nat)∧List.length (Dem.co d)≤(1000000:Nat),
 Same [Ag.agg [D.sl true (2:Nat) (1:Nat) (Enc.F eI (Enc.list eI (2:Nat) (Enc.F eI [(10:Int),(10:Int)]))),D.sl true (2:Nat) (1:Nat) (Enc.F eI (Enc.list eI (2:Nat) (Enc.F eI [(3:Int),(2:Int)]))),D.sl true (1:Nat) (3:Nat) (Enc.F eDm (Enc.list eDm (1:Nat) (Enc.F eDm [{nm:={data:={toList:=[(97:UInt8)]}},co:=[(1:Int),(1:Int)],am:=(12:Int)}])))]] [Ag.agg two],
 i64ok (34:Int),
 i64ok (1:Int),
 (0:Int)<(1:Int),
 Same [Ag.agg [D.sl true (2:Nat) (1:Nat) (Enc.F eI (Enc.list eI (2:Nat) (Enc.F eI [(10:Int),(10:Int)]))),D.sl true (2:Nat) (1:Nat) (Enc.F eI (Enc.list eI (2:Nat) (Enc.F eI [(3:Int),(2:Int)]))),D.sl true (1:Nat) (3:Nat) (Enc.F eDm (Enc.list eDm (1:Nat) (Enc.F eDm [{nm:={data:={toList:=[(97:UInt8)]}},co:=[(1:Int),(1:Int)],am:=(12:Int)}])))],Ag.c (D.sl true (2:Nat) (1:Nat) (Enc.F eI [(3:Int),(2:Int)])),Ag.c (D.sl false (0:Nat) (0:Nat) fun(x x_1:Nat)=>D.nilp)] [Ag.agg two,Ag.c (dT [(3:Int),(2:Int)]),Ag.c (D.sl false (0:Nat) (0:Nat) fun(x x_1:Nat)=>D.nilp)]]
theorem t17c:runFnX Try.prog G0 (lookS [v83,v84c,v85,v86c]) (fun _=>[(999999,[],none)]) [] 1 60 3 17 Try.f17 [.agg two] =
  T.needs nd_t17c (T.ret [Ar.agg [D.int IntKind.i64 (34:Int),D.int IntKind.i64 (1:Int),D.int IntKind.i64 (1:Int),D.sl true (2:Nat) (1:Nat) (Enc.F eI [(10:Int),(2:Int)]),D.int IntKind.i64 (1:Int),D.sl true (1:Nat) (1:Nat) (Enc.F eI [(2:Int)]),D.sl true (2:Nat) (1:Nat) (Enc.F eI [(1:Int),(0:Int)])],Ar.c (D.int IntKind.i64 (0:Int))]):=by kernel_rfl
theorem all_t17c:All nd_t17c:=by
 unfold nd_t17c
 repeat (refine⟨(by first|exact of_decide_eq_true rfl|exact fun i j _ _=>D.eqv_refl _|exact Enc.is_F _ _ _|exact fun i j hi _=>absurd hi (Nat.not_lt_zero i)|exact two1|exact two3|exact of_decide_eq_true (by kernel_rfl)),?_⟩)
 trivial
theorem w_t17c:(T.needs nd_t17c (T.ret [Ar.agg [D.int IntKind.i64 (34:Int),D.int IntKind.i64 (1:Int),D.int IntKind.i64 (1:Int),D.sl true (2:Nat) (1:Nat) (Enc.F eI [(10:Int),(2:Int)]),D.int IntKind.i64 (1:Int),D.sl true (1:Nat) (1:Nat) (Enc.F eI [(2:Int)]),D.sl true (2:Nat) (1:Nat) (Enc.F eI [(1:Int),(0:Int)])],Ar.c (D.int IntKind.i64 (0:Int))])).wp (fun rs=>rsEqv rs best2):=by
 refine T.needs_wp all_t17c ?_
 exact rsEqv_refl _
def nd_t53c:List Prop:=[
 Enc.Is eI (2:Nat) (Enc.F eI [(10:Int),(10:Int)]),
 Enc.Is eI (2:Nat) (Enc.F eI [(3:Int),(2:Int)]),
 Enc.Is eDm (1:Nat) (Enc.F eDm [{nm:={data:={toList:=[(97:UInt8)]}},co:=[(1:Int),(1:Int)],am:=(12:Int)}]),
 (2:Nat)≤(1000000:Nat),
 (2:Nat)≤(1000000:Nat),
 (1:Nat)≤(1000000:Nat),
 ∀(d:Dem),d∈Enc.list eDm (1:Nat) (Enc.F eDm [{nm:={data:= #[(97:UInt8)]},co:=[(1:Int),(1:Int)],am:=(12:Int)}])→ByteArray.size (Dem.nm d)≤(1000000:Nat)∧List.length (Dem.co d)≤(1000000:Nat),
 ((1:Int)==(1:Int))=true,
 M.within (1:Int) (1:Int) (100000000000:Int)=true,
 Enc.Is eI (1:Nat) (Enc.F eI [(2:Int)]),
 (1:Nat)≤(1000000:Nat),
 (!(badF (170:Nat) (2:Int)||false))=true,
 Enc.Is eI (2:Nat) (Enc.F eI [(1:Int),(0:Int)]),
 (2:Nat)≤(1000000:Nat),
 Enc.Is eI (2:Nat) (Enc.F eI [(1:Int),(0:Int)]),
 Enc.Is eI (2:Nat) (Enc.F eI (Enc.list eI (2:Nat) (Enc.F eI [(10:Int),(10:Int)]))),
 List.length (Enc.list eI (2:Nat) (Enc.F eI [(1:Int),(0:Int)]))≤(1000000:Nat),
 List.length (Enc.list eI (2:Nat) (Enc.F eI [(1:Int),(0:Int)]))≤List.length (Enc.list eI (2:Nat) (Enc.F eI (Enc.list eI (2:Nat) (Enc.F eI [(10:Int),(10:Int)])))),
 (0:Int)≤(0:Int),
 (0:Int)<(1:Int),
 (0:Int)≤(0:Int),
 (0:Int)<(1:Int),
 (0:Int)≤(0:Int),
 (0:Int)<(2:Int),
 (0:Int)≤(0:Int),
 (0:Int)<(1:Int),
 (0:Int)≤(0:Int),
 (0:Int)<(1:Int),
 (0:Int)≤(0:Int),
 (0:Int)<(2:Int),
 (0:Int)≤(0:Int),
 (0:Int)<(2:Int),
 (0:Int)≤(1:Int),
 (1:Int)<(2:Int),
 (0:Int)≤(0:Int),
 (0:Int)<(1:Int),
 (0:Int)≤(0:Int),
 (0:Int)<(1:Int),
 (0:Int)≤(1:Int),
 (1:Int)<(2:Int),
 (0:Int)≤(1:Int),
 (1:Int)<(2:Int),
 i64ok (34:Int),
 i64ok (1:Int),
 (0:Int)<(1:Int)]
theorem t53c:runFnX Try.prog G0 (lookS [v83,v85,v103,v104,v105,v118,v139]) (fun _=>[(999999,[],none)]) [133,134,135] 1 60 6 53 Try.f53 [.agg two,.agg [dI 1,dT [2],dT [1,0]]] =
  T.needs nd_t53c (T.ret [Ar.agg [D.int IntKind.i64 (34:Int),D.int IntKind.i64 (1:Int)],Ar.c (D.int IntKind.i64 (0:Int))]):=by kernel_rfl
theorem all_t53c:All nd_t53c:=by
 unfold nd_t53c
 repeat (refine⟨(by first|exact of_decide_eq_true rfl|exact fun i j _ _=>D.eqv_refl _|exact Enc.is_F _ _ _|exact fun i j hi _=>absurd hi (Nat.not_lt_zero i)|exact of_decide_eq_true (by kernel_rfl)),?_⟩)
 trivial
theorem w_t53c:(T.needs nd_t53c (T.ret [Ar.agg [D.int IntKind.i64 (34:Int),D.int IntKind.i64 (1:Int)],Ar.c (D.int IntKind.i64 (0:Int))])).wp (fun rs=>rsEqv rs [.agg [dI 34,dI 1],rI 0]):=by
 refine T.needs_wp all_t53c ?_
 exact rsEqv_refl _
def dom17c:DomF
 |[.agg ds]=>some ([Same [.agg ds] [.agg two]],best2)
 |_=>none
def v17c:Nat×Sm:=(17,fokSm dom17c)
theorem C17c:FOK Try.prog G0 gw 17 dom17c:=by
 intro ags p r hd hp κ w xs hw hl hG hx
 unfold dom17c at hd
 split at hd
 ·simp only[Option.some.injEq,Prod.mk.injEq]at hd
  obtain⟨rfl,rfl⟩:=hd
  exact fokX_fin mixed gw_stable (sl:=[v83,v84c,v85,v86c]) ⟨S83,S84c,S85,S86c,trivial⟩ Try.func17 hw hl hG hx hp.1.h rfl t17c w_t17c
 ·cases hd
theorem S17c:SumOK Try.prog G0 gw 17 (fokSm dom17c):=fok_sum Try.func17 rfl C17c
def dom53c:DomF
 |[.agg ds,.agg ws]=>some ([Same [.agg ds,.agg ws] [.agg two,.agg [dI 1,dT [2],dT [1,0]]]],[.agg [dI 34,dI 1],rI 0])
 |_=>none
def v53c:Nat×Sm:=(53,fokSm dom53c)
theorem C53c:FOK Try.prog G0 gw 53 dom53c:=by
 intro ags p r hd hp κ w xs hw hl hG hx
 unfold dom53c at hd
 split at hd
 ·simp only[Option.some.injEq,Prod.mk.injEq]at hd
  obtain⟨rfl,rfl⟩:=hd
  exact fokX_fin mixed gw_stable (sl:=[v83,v85,v103,v104,v105,v118,v139]) ⟨S83,S85,S103,S104,S105,S118,S139,trivial⟩ Try.func53 hw hl hG hx hp.1.h rfl t53c w_t53c
 ·cases hd
theorem S53c:SumOK Try.prog G0 gw 53 (fokSm dom53c):=fok_sum Try.func53 rfl C53c
def tr80:T (List Ar):=
  T.ret [Ar.agg [D.sl true (2:Nat) (1:Nat) fun(i' j:Nat)=>List.getD [D.int IntKind.i64 (10:Int),D.int IntKind.i64 (10:Int)] (i'*(1:Nat)+j) D.nilp,D.sl true (2:Nat) (1:Nat) fun(i' j:Nat)=>List.getD [D.int IntKind.i64 (3:Int),D.int IntKind.i64 (2:Int)] (i'*(1:Nat)+j) D.nilp,D.sl true (1:Nat) (3:Nat) fun(i' j:Nat)=>List.getD [D.str {data:={toList:=[(97:UInt8)]}},D.sl true (2:Nat) (1:Nat) fun(i' j:Nat)=>List.getD [D.int IntKind.i64 (1:Int),D.int IntKind.i64 (1:Int)] (i'*(1:Nat)+j) D.nilp,D.int IntKind.i64 (12:Int)] (i'*(3:Nat)+j) D.nilp]]
theorem t80:runFnX Try.prog G0 (lookS []) (fun _=>[]) [] 1 40 6 80 Try.f80 [] =
  tr80:=by kernel_rfl
def tr81:T (List Ar):=
  T.ret [Ar.agg [D.sl true (2:Nat) (4:Nat) fun(i' j:Nat)=>List.getD [D.int IntKind.i64 (1000:Int),D.int IntKind.i64 (0:Int),D.int IntKind.i64 (0:Int),D.int IntKind.i64 (20000:Int),D.int IntKind.i64 (1000:Int),D.int IntKind.i64 (0:Int),D.int IntKind.i64 (0:Int),D.int IntKind.i64 (10000:Int)] (i'*(4:Nat)+j) D.nilp,D.int IntKind.i64 (0:Int)]]
theorem t81:runFnX Try.prog G0 (lookS []) (fun _=>[]) [] 1 40 6 81 Try.f81 [] =
  tr81:=by kernel_rfl
def tr82(n:Int):T (List Ar):=
  T.ret [Ar.agg [D.int IntKind.i64 n,D.int IntKind.i64 (1:Int)]]
theorem t82(n:Int):runFnX Try.prog G0 (lookS []) (fun _=>[]) [] 1 40 3 82 Try.f82 [.c (dI n)] =
  tr82 n:=by kernel_rfl
theorem w80:(tr80).wp (fun rs=>rsEqv rs [.agg two]):=by
 unfold tr80
 refine⟨⟨dT_ok rfl rfl (fun i hi=>?_),dT_ok rfl rfl (fun i hi=>?_),⟨fun _=>rfl,rfl,fun _=>rfl,fun i j hi hj=>?_⟩,trivial⟩,trivial⟩
 ·match i,hi with
  |0,_=>exact D.eqv_refl _
  |1,_=>exact D.eqv_refl _
 ·match i,hi with
  |0,_=>exact D.eqv_refl _
  |1,_=>exact D.eqv_refl _
 ·match i,hi,j,hj with
  |0,_,0,_=>exact D.eqv_refl _
  |0,_,1,_=>
   refine⟨fun _=>rfl,rfl,fun _=>rfl,fun i j hi hj=>?_⟩
   obtain rfl:j=0:=Nat.lt_one_iff.1 hj
   match i,hi with
   |0,_=>exact D.eqv_refl _
   |1,_=>exact D.eqv_refl _
  |0,_,2,_=>exact D.eqv_refl _
def dom80:DomF
 |[]=>some ([],[.agg two])
 |_=>none
def v80:Nat×Sm:=(80,fokSm dom80)
theorem C80:FOK Try.prog G0 gw 80 dom80:=by
 intro ags p r hd hp κ w xs hw hl hG hx
 unfold dom80 at hd
 split at hd
 ·simp only[Option.some.injEq,Prod.mk.injEq]at hd
  obtain⟨rfl,rfl⟩:=hd
  exact fokX_fin mixed gw_stable (sl:=[]) trivial Try.func80 hw hl hG hx (agsEqv_refl _) rfl t80 w80
 ·cases hd
theorem S80:SumOK Try.prog G0 gw 80 (fokSm dom80):=fok_sum Try.func80 rfl C80
theorem w81:(tr81).wp (fun rs=>rsEqv rs [.agg four]):=by
 unfold tr81
 refine⟨⟨⟨fun _=>rfl,rfl,fun _=>rfl,fun i j hi hj=>?_⟩,rfl,trivial⟩,trivial⟩
 match i,hi,j,hj with
 |0,_,0,_=>exact D.eqv_refl _
 |0,_,1,_=>exact D.eqv_refl _
 |0,_,2,_=>exact D.eqv_refl _
 |0,_,3,_=>exact D.eqv_refl _
 |1,_,0,_=>exact D.eqv_refl _
 |1,_,1,_=>exact D.eqv_refl _
 |1,_,2,_=>exact D.eqv_refl _
 |1,_,3,_=>exact D.eqv_refl _
def dom81:DomF
 |[]=>some ([],[.agg four])
 |_=>none
def v81:Nat×Sm:=(81,fokSm dom81)
theorem C81:FOK Try.prog G0 gw 81 dom81:=by
 intro ags p r hd hp κ w xs hw hl hG hx
 unfold dom81 at hd
 split at hd
 ·simp only[Option.some.injEq,Prod.mk.injEq]at hd
  obtain⟨rfl,rfl⟩:=hd
  exact fokX_fin mixed gw_stable (sl:=[]) trivial Try.func81 hw hl hG hx (agsEqv_refl _) rfl t81 w81
 ·cases hd
theorem S81:SumOK Try.prog G0 gw 81 (fokSm dom81):=fok_sum Try.func81 rfl C81
def dom82:DomF
 |[.c (.int .i64 n)]=>some ([],[.agg [dI n,dI 1]])
 |_=>none
def v82:Nat×Sm:=(82,fokSm dom82)
theorem C82:FOK Try.prog G0 gw 82 dom82:=by
 intro ags p r hd hp κ w xs hw hl hG hx
 unfold dom82 at hd
 split at hd
 ·rename_i n
  simp only[Option.some.injEq,Prod.mk.injEq]at hd
  obtain⟨rfl,rfl⟩:=hd
  have heq:agsEqv [.c (.int .i64 n)] [.c (.int .i64 n)]:=⟨Ag.eqv_refl _,trivial⟩
  exact fokX_fin mixed gw_stable (sl:=[]) trivial Try.func82 hw hl hG hx heq rfl (t82 _) (rsEqv_refl _)
 ·cases hd
theorem S82:SumOK Try.prog G0 gw 82 (fokSm dom82):=fok_sum Try.func82 rfl C82
end Go.Pl
end
section
set_option maxRecDepth 100000
namespace Go.Pl
open Go.V Go.Proofs
theorem sw:Same [.agg two,.agg [dI 1,D.sl true 1 1 fun(i j:Nat)=>List.getD [dI 2] (i*1+j) D.nilp,D.sl true 2 1 fun(i j:Nat)=>List.getD [dI 1,dI 0] (i*1+j) D.nilp]] [.agg two,.agg [dI 1,dT [2],dT [1,0]]]:=by
 refine⟨⟨Ag.eqv_refl _,⟨rfl,dT_ok rfl rfl (fun i hi=>?_),dT_ok rfl rfl (fun i hi=>?_),trivial⟩,trivial⟩⟩
 ·match i,hi with
  |0,_=>exact D.eqv_refl _
 ·match i,hi with
  |0,_=>exact D.eqv_refl _
  |1,_=>exact D.eqv_refl _
def nd_t15:List Prop:=[
 Same [Ag.agg [D.sl true (2:Nat) (1:Nat) (Enc.F eI [(10:Int),(10:Int)]),D.sl true (2:Nat) (1:Nat) (Enc.F eI [(3:Int),(2:Int)]),D.sl true (1:Nat) (3:Nat) (Enc.F eDm [{nm:={data:={toList:=[(97:UInt8)]}},co:=[(1:Int),(1:Int)],am:=(12:Int)}])]] [Ag.agg two],
 Same [Ag.agg [D.sl true (2:Nat) (1:Nat) (Enc.F eI [(10:Int),(10:Int)]),D.sl true (2:Nat) (1:Nat) (Enc.F eI [(3:Int),(2:Int)]),D.sl true (1:Nat) (3:Nat) (Enc.F eDm [{nm:={data:={toList:=[(97:UInt8)]}},co:=[(1:Int),(1:Int)],am:=(12:Int)}])],Ag.agg [D.int IntKind.i64 (1:Int),D.sl true (1:Nat) (1:Nat) fun(i j:Nat)=>List.getD [D.int IntKind.i64 (2:Int)] (i*(1:Nat)+j) D.nilp,D.sl true (2:Nat) (1:Nat) fun(i j:Nat)=>List.getD [D.int IntKind.i64 (1:Int),D.int IntKind.i64 (0:Int)] (i*(1:Nat)+j) D.nilp]] [Ag.agg two,Ag.agg [dI (1:Int),dT [(2:Int)],dT [(1:Int),(0:Int)]]],
 Same [Ag.agg [D.sl true (2:Nat) (4:Nat) (Enc.F eSc [(Scale.mk (1000:Int) (0:Int) (0:Int) (20000:Int)),(Scale.mk (1000:Int) (0:Int) (0:Int) (10000:Int))]),D.int IntKind.i64 (0:Int)]] [Ag.agg four],
 Same [Ag.agg [D.sl true (2:Nat) (4:Nat) (Enc.F eSc [(Scale.mk (1000:Int) (0:Int) (0:Int) (20000:Int)),(Scale.mk (1000:Int) (0:Int) (0:Int) (10000:Int))]),D.int IntKind.i64 (0:Int)],Ag.c (D.int IntKind.i64 (100:Int))] [Ag.agg four,Ag.c (dI (100:Int))],
 ((34:Int)==(34:Int)&&((1:Int)==(1:Int)&&true))=true,
 ((34:Int)==(34:Int)&&((1:Int)==(1:Int)&&true))=true,
 ((2:Int)==(2:Int))=true,
 (0:Int)≤(0:Int),
 (0:Int)<(2:Int)]
theorem t15:runFnX Try.prog G0 (lookS [v17c,v53c,v28c,v35c,v80,v81,v82]) (fun _=>[(999999,[],none)]) [] 1 60 3 15 Try.f15 [] =
  T.needs nd_t15 (T.ret [Ar.c (D.bool ((20000:Int)==20000&&((20000:Int)==20000&&true)))]):=by kernel_rfl
theorem all_t15:All nd_t15:=by
 unfold nd_t15
 repeat (refine⟨(by first|exact of_decide_eq_true rfl|exact fun i j _ _=>D.eqv_refl _|exact Enc.is_F _ _ _|exact fun i j hi _=>absurd hi (Nat.not_lt_zero i)|exact Same.mk (agsEqv_refl _)|exact sw),?_⟩)
 trivial
theorem w_t15:(T.needs nd_t15 (T.ret [Ar.c (D.bool ((20000:Int)==20000&&((20000:Int)==20000&&true)))])).wp (fun rs=>rsEqv rs [rB true]):=by
 refine T.needs_wp all_t15 ?_
 exact rsEqv_refl _
def dom15:DomF
 |[]=>some ([],[rB true])
 |_=>none
def v15:Nat×Sm:=(15,fokSm dom15)
theorem C15:FOK Try.prog G0 gw 15 dom15:=by
 intro ags p r hd hp κ w xs hw hl hG hx
 unfold dom15 at hd
 split at hd
 ·simp only[Option.some.injEq,Prod.mk.injEq]at hd
  obtain⟨rfl,rfl⟩:=hd
  exact fokX_fin mixed gw_stable (sl:=[v17c,v53c,v28c,v35c,v80,v81,v82]) ⟨S17c,S53c,S28c,S35c,S80,S81,S82,trivial⟩ Try.func15 hw hl hG hx (agsEqv_refl _) rfl t15 w_t15
 ·cases hd
theorem S15:SumOK Try.prog G0 gw 15 (fokSm dom15):=fok_sum Try.func15 rfl C15
end Go.Pl
end
section
set_option maxRecDepth 100000
namespace Go.Pl
open Go.V Go.Proofs
namespace M
def firstIdx(p:Nat→Bool):Nat→Nat→Int
 |0,_=> -1
 |n+1,k=>cond (p k) (k:Int) (firstIdx p n (k+1))
def floorW(n b:Int):Int:=cond (decide (n.tmod b<0)) (IntKind.i64.wrap (IntKind.i64.wrap (n.tdiv b)-1)) (IntKind.i64.wrap (n.tdiv b))
end M
theorem idx_step{p:Nat→Bool}{n k:Nat}(h:k<n):M.firstIdx p (n-k) k=cond (p k) (k:Int) (M.firstIdx p (n-(k+1)) (k+1)):=by
 obtain⟨m,hm⟩:∃m,n-k=m+1:=⟨n-k-1,by omega⟩
 rw[hm,show n-(k+1)=m by omega];rfl
end Go.Pl
end
section
set_option maxRecDepth 100000
namespace Go.Pl
open Go.V Go.Proofs
namespace M
end M
theorem bad_zero{f:Nat→Int}:∀(n k:Nat),(M.badFrom f n k).2=0→∀i,k≤i→i<k+n→f i=0:=by
 intro n
 induction n with
 |zero=>intro k _ i h1 h2;omega
 |succ n ih=>
  intro k h i h1 h2
  simp only[M.badFrom]at h
  cases hb:(f k != 0)with
  |true=>
   rw[hb]at h
   have h:f k=0:=h
   rw[h]at hb;cases hb
  |false=>
   rw[hb]at h
   have hk:f k=0:=by simpa using hb
   rcases Nat.lt_or_ge k i with hl|hl
   ·exact ih (k+1) h i (by omega) (by omega)
   ·obtain rfl:i=k:=by omega
    exact hk
theorem unl_zero{b:Bool}{e:Int}(he:e≠0)(h:M.unl b e=0):b=true:=by
 cases b with
 |true=>rfl
 |false=>exact absurd h he
theorem within_iff{n lo hi:Int}:M.within n lo hi=true↔lo≤n∧n≤hi:=by
 unfold M.within;rw[Bool.and_eq_true,decide_eq_true_eq,decide_eq_true_eq]
end Go.Pl
end
section
set_option maxRecDepth 100000
namespace Go.Pl
open Go.V Go.Proofs
namespace M
end M
theorem getD_mem{α:Type}{l:List α}{i:Nat}{d:α}(h:i<l.length):l.getD i d∈l:=by
 rw[List.getD_eq_getElem?_getD,List.getElem?_eq_getElem h];exact List.getElem_mem h
end Go.Pl
end
section
set_option maxRecDepth 100000
namespace Go.Pl
open Go.V Go.Proofs
def tr148(n b:Int):T (List Ar):=
  T.need (b≠(0:Int)) (T.need (b≠(0:Int)) (T.br (decide (Int.tmod n b<0)) (T.ret [Ar.c (D.int IntKind.i64 (IntKind.i64.wrap (IntKind.i64.wrap (Int.tdiv n b)-1)))]) (T.ret [Ar.c (D.int IntKind.i64 (IntKind.i64.wrap (Int.tdiv n b)))])))
theorem t148(n b:Int):runFnX Try.prog G0 (lookS []) (fun _=>[]) [] 1 60 4 148 Try.f148 [.c (dI n),.c (dI b)] =
  tr148 n b:=by kernel_rfl
theorem w148(n b:Int)(h:b≠0):(tr148 n b).wp (fun rs=>rsEqv rs [rI (M.floorW n b)]):=by
 unfold tr148
 refine⟨h,h,wp_br (fun hb=>?_) (fun hb=>?_)⟩
 all_goals(refine rI_eqv' ?_;unfold M.floorW;rw[hb];rfl)
namespace M
end M
def dom148:DomF
 |[.c (.int .i64 n),.c (.int .i64 b)]=>some ([b≠0],[rI (M.floorW n b)])
 |_=>none
theorem C148:FOK Try.prog G0 gw 148 dom148:=by
 intro ags p r hd hp κ w xs hw hl hG hx
 unfold dom148 at hd
 split at hd
 ·rename_i n b
  simp only[Option.some.injEq,Prod.mk.injEq]at hd
  obtain⟨rfl,rfl⟩:=hd
  have heq:agsEqv [.c (.int .i64 n),.c (.int .i64 b)] [.c (.int .i64 n),.c (.int .i64 b)]:=⟨Ag.eqv_refl _,Ag.eqv_refl _,trivial⟩
  exact fokX_fin mixed gw_stable (sl:=[]) trivial Try.func148 hw hl hG hx heq rfl (t148 _ _) (w148 _ _ hp.1)
 ·cases hd
end Go.Pl
end
section
set_option maxRecDepth 100000
namespace Go.Pl
open Go.V Go.Proofs
abbrev cI(dr:List Int):List Int:=Enc.list eI (List.length dr) (Enc.F eI dr)
abbrev iI(dr:List Int):Prop:=Enc.Is eI (List.length dr) (Enc.F eI dr)
end Go.Pl
end
section
set_option maxRecDepth 100000
namespace Go.Pl
open Go.V Go.Proofs
namespace M
def many(de:List Dem)(k:Nat):Bool:=cond (decide (((de.getD k dfD).nm.size:Int)>20)) true (decide (((de.getD k dfD).co.length:Int)>6))
def few(mo ga:List Int)(de:List Dem):Bool:=cond (decide ((mo.length:Int)>6)) false (cond (decide ((ga.length:Int)>6)) false (cond (decide ((de.length:Int)>10)) false (decide (firstIdx (many de) de.length 0<0))))
end M
theorem idx_none{p:Nat→Bool}:∀(n k:Nat),M.firstIdx p n k<0→∀i,k≤i→i<k+n→p i=false:=by
 intro n
 induction n with
 |zero=>intro k _ i h1 h2;omega
 |succ n ih=>
  intro k h i h1 h2
  simp only[M.firstIdx]at h
  cases hp:p k with
  |true=>rw[hp]at h;have h:(k:Int)<0:=h;omega
  |false=>
   rw[hp]at h
   rcases Nat.lt_or_ge k i with hl|hl
   ·exact ih (k+1) h i (by omega) (by omega)
   ·obtain rfl:i=k:=by omega
    exact hp
theorem few_yes{mo ga:List Int}{de:List Dem}(h:M.few mo ga de=true):mo.length≤6∧ga.length≤6∧de.length≤10∧∀i,i<de.length→(de.getD i dfD).nm.size≤20∧(de.getD i dfD).co.length≤6:=by
 unfold M.few at h
 cases h1:decide ((mo.length:Int)>6)with
 |true=>rw[h1]at h;cases h
 |false=>
  cases h2:decide ((ga.length:Int)>6)with
  |true=>rw[h1,h2]at h;cases h
  |false=>
   cases h3:decide ((de.length:Int)>10)with
   |true=>rw[h1,h2,h3]at h;cases h
   |false=>
    rw[h1,h2,h3]at h
    have h:M.firstIdx (M.many de) de.length 0<0:=of_decide_eq_true h
    have h1:¬(mo.length:Int)>6:=of_decide_eq_false h1
    have h2:¬(ga.length:Int)>6:=of_decide_eq_false h2
    have h3:¬(de.length:Int)>10:=of_decide_eq_false h3
    refine⟨by omega,by omega,by omega,fun i hi=>?_⟩
    have hm:=idx_none _ _ h i (Nat.zero_le _) (by omega)
    unfold M.many at hm
    cases h4:decide (((de.getD i dfD).nm.size:Int)>20)with
    |true=>rw[h4]at hm;cases hm
    |false=>
     rw[h4]at hm
     have hm:¬((de.getD i dfD).co.length:Int)>6:=of_decide_eq_false hm
     have h4:¬((de.getD i dfD).nm.size:Int)>20:=of_decide_eq_false h4
     exact⟨by omega,by omega⟩
def tr41(q_mo:Bool)(mo:List Int)(q_ga:Bool)(ga:List Int)(q_de:Bool)(de:List Dem):T (List Ar):=
  T.br (decide ((mo.length:Int)>(6:Int))) (T.ret [Ar.c (D.bool false)]) (T.br (decide ((ga.length:Int)>(6:Int))) (T.ret [Ar.c (D.bool false)]) (T.br (decide ((de.length:Int)>(10:Int))) (T.ret [Ar.c (D.bool false)]) (T.loop (Int×PUnit) ((0:Int),PUnit.unit) fun(x:Int×PUnit)=>T.br (decide (x.1<(de.length:Int))) (T.need ((0:Int)≤x.1) (T.need (x.1<(de.length:Int)) (T.br (decide ((Nat.cast (R:=Int) (ByteArray.size (Dem.nm (de.getD x.1.toNat dfD))))>(20:Int))) (T.ret (Sum.inr [Ar.c (D.bool false)])) (T.need ((0:Int)≤x.1) (T.need (x.1<(de.length:Int)) (T.br (decide (((Dem.co (de.getD x.1.toNat dfD)).length:Int)>(6:Int))) (T.ret (Sum.inr [Ar.c (D.bool false)])) (T.ret (Sum.inl (IntKind.i64.wrap (x.1+1),PUnit.unit))))))))) (T.ret (Sum.inr [Ar.c (D.bool true)])))))
theorem t41(q_mo:Bool)(mo:List Int)(q_ga:Bool)(ga:List Int)(q_de:Bool)(de:List Dem):runFnX Try.prog G0 (lookS []) (fun f=>[(4,[.slot 3 (.int .i64)],none)]) [] 1 60 4 41 Try.f41 [.agg [.sl q_mo mo.length 1 (eI.F mo),.sl q_ga ga.length 1 (eI.F ga),.sl q_de de.length 3 (eDm.F de)]] =
  tr41 q_mo mo q_ga ga q_de de:=by kernel_rfl
theorem w41(qm:Bool)(mo:List Int)(qg:Bool)(ga:List Int)(qd:Bool)(de:List Dem):(tr41 qm mo qg ga qd de).wp (fun rs=>rsEqv rs [rB (M.few mo ga de)]):=by
 unfold tr41 M.few
 refine wp_br (fun hb=>by rw[hb];exact rsEqv_refl _) (fun hb=>?_)
 rw[hb]
 refine wp_br (fun hb=>by rw[hb];exact rsEqv_refl _) (fun hb=>?_)
 rw[hb]
 refine wp_br (fun hb=>by rw[hb];exact rsEqv_refl _) (fun hb=>?_)
 rw[hb]
 have h10:¬(de.length:Int)>10:=of_decide_eq_false hb
 refine range_wp (n:=de.length) (fun k _=>M.firstIdx (M.many de) de.length 0=M.firstIdx (M.many de) (de.length-k) k) rfl ?_
 rintro k u hk hI
 rw[hI]
 refine wp_br (fun hb=>?_) (fun hb=>?_)
 ·have hlt:=lt_of_dec hb
  have hs:=idx_step (p:=M.many de) hlt
  have hit:M.many de k=true→rsEqv [rB false] [rB (decide (M.firstIdx (M.many de) (de.length-k) k<0))]:=by
   intro h
   rw[hs,h]
   show rsEqv _ [rB (decide ((k:Int)<0))]
   rw[decide_eq_false (by omega)];exact rsEqv_refl _
  refine⟨by show(0:Int)≤k;omega,by show(k:Int)<de.length;omega,wp_br (fun hx=>hit ?_) (fun hx=>?_)⟩
  ·unfold M.many;rw[show decide (((de.getD k dfD).nm.size:Int)>20)=true from hx];rfl
  refine⟨by show(0:Int)≤k;omega,by show(k:Int)<de.length;omega,wp_br (fun hy=>hit ?_) (fun hy=>?_)⟩
  ·unfold M.many;rw[show decide (((de.getD k dfD).nm.size:Int)>20)=false from hx];exact hy
  have hm:M.many de k=false:=by unfold M.many;rw[show decide (((de.getD k dfD).nm.size:Int)>20)=false from hx];exact hy
  exact⟨hlt,wrap_succ (by omega),by rw[hs,hm];rfl⟩
 ·have hge:=ge_of_dec hb
  obtain rfl:k=de.length:=by omega
  rw[Nat.sub_self];exact rsEqv_refl _
def dom41:DomF
 |[.agg [.sl _ n_mo st_mo F_mo,.sl _ n_ga st_ga F_ga,.sl _ n_de st_de F_de]]=>(match Nat.beq st_mo 1&&Nat.beq st_ga 1&&Nat.beq st_de 3 with
  |true=>some ([eI.Is n_mo F_mo,eI.Is n_ga F_ga,eDm.Is n_de F_de],[rB (M.few (eI.list n_mo F_mo) (eI.list n_ga F_ga) (eDm.list n_de F_de))])
  |_=>none)
 |_=>none
def v41:Nat×Sm:=(41,fokSm dom41)
theorem C41:FOK Try.prog G0 gw 41 dom41:=by
 intro ags p r hd hp κ w xs hw hl hG hx
 unfold dom41 at hd
 split at hd
 ·rename_i q_mo n_mo st_mo F_mo q_ga n_ga st_ga F_ga q_de n_de st_de F_de
  split at hd
  ·rename_i hst
   simp only[Bool.and_eq_true]at hst
   obtain⟨⟨g1,g2⟩,g3⟩:=hst
   have g1:=Nat.eq_of_beq_eq_true g1
   have g2:=Nat.eq_of_beq_eq_true g2
   have g3:=Nat.eq_of_beq_eq_true g3
   subst g1 g2 g3
   simp only[Option.some.injEq,Prod.mk.injEq]at hd
   obtain⟨rfl,rfl⟩:=hd
   obtain⟨hI_mo,hI_ga,hI_de,hp⟩:=hp
   have heq:agsEqv [.agg [.sl q_mo n_mo 1 F_mo,.sl q_ga n_ga 1 F_ga,.sl q_de n_de 3 F_de]] [.agg [.sl q_mo (eI.list n_mo F_mo).length 1 (eI.F (eI.list n_mo F_mo)),.sl q_ga (eI.list n_ga F_ga).length 1 (eI.F (eI.list n_ga F_ga)),.sl q_de (eDm.list n_de F_de).length 3 (eDm.F (eDm.list n_de F_de))]]:=⟨⟨eI.to id hI_mo,eI.to id hI_ga,eDm.to id hI_de,trivial⟩,trivial⟩
   have len_mo:(eI.list n_mo F_mo).length=n_mo:=eI.list_len
   have len_ga:(eI.list n_ga F_ga).length=n_ga:=eI.list_len
   have len_de:(eDm.list n_de F_de).length=n_de:=eDm.list_len
   generalize eI.list n_mo F_mo=mo at *
   generalize eI.list n_ga F_ga=ga at *
   generalize eDm.list n_de F_de=de at *
   subst len_mo len_ga len_de
   exact fokX_fin mixed gw_stable (sl:=[]) trivial Try.func41 hw hl hG hx heq rfl (t41 _ _ _ _ _ _) (w41 _ _ _ _ _ _)
  ·cases hd
 ·cases hd
theorem S41:SumOK Try.prog G0 gw 41 (fokSm dom41):=fok_sum Try.func41 rfl C41
end Go.Pl
end
section
set_option maxRecDepth 100000
namespace Go.Pl
open Go.V Go.Proofs
def tr128(q_mo:Bool)(mo:List Int)(q_ga:Bool)(ga:List Int)(q_de:Bool)(de:List Dem)(i:Int):T (List Ar):=
  T.need ((0:Int)≤i) (T.need (i<(de.length:Int)) (T.need (ByteArray.size (Dem.nm (de.getD i.toNat dfD))≤1000000) (T.br (!M.isName (Dem.nm (de.getD i.toNat dfD))) (T.ret [Ar.c (D.int IntKind.i64 (4:Int))]) (T.loop (Int×PUnit) ((0:Int),PUnit.unit) fun(x:Int×PUnit)=>T.br (decide (x.1<i)) (T.need ((0:Int)≤x.1) (T.need (x.1<(de.length:Int)) (T.br (ByteArray.toList (Dem.nm (de.getD x.1.toNat dfD))==ByteArray.toList (Dem.nm (de.getD i.toNat dfD))) (T.ret (Sum.inr [Ar.c (D.int IntKind.i64 (5:Int))])) (T.ret (Sum.inl (IntKind.i64.wrap (x.1+1),PUnit.unit)))))) (T.br (((Dem.co (de.getD i.toNat dfD)).length:Int) != (mo.length:Int)) (T.ret (Sum.inr [Ar.c (D.int IntKind.i64 (10:Int))])) (T.loop (Int×PUnit) ((0:Int),PUnit.unit) fun(x_1:Int×PUnit)=>T.br (decide (x_1.1<((Dem.co (de.getD i.toNat dfD)).length:Int))) (T.need ((0:Int)≤x_1.1) (T.need (x_1.1<((Dem.co (de.getD i.toNat dfD)).length:Int)) (T.need ((0:Int)≤100∧(100:Int)<9223372036854775808) (T.br (!M.small (List.getD (Dem.co (de.getD i.toNat dfD)) x_1.1.toNat (0:Int)) (100:Int)) (T.ret (Sum.inr (Sum.inr [Ar.c (D.int IntKind.i64 (2:Int))]))) (T.ret (Sum.inl (IntKind.i64.wrap (x_1.1+1),PUnit.unit))))))) (T.need ((0:Int)≤1000000∧(1000000:Int)<9223372036854775808) (T.br (!M.small (Dem.am (de.getD i.toNat dfD)) (1000000:Int)) (T.ret (Sum.inr (Sum.inr [Ar.c (D.int IntKind.i64 (2:Int))]))) (T.ret (Sum.inr (Sum.inr [Ar.c (D.int IntKind.i64 (0:Int))])))))))))))
theorem t128(q_mo:Bool)(mo:List Int)(q_ga:Bool)(ga:List Int)(q_de:Bool)(de:List Dem)(i:Int):runFnX Try.prog G0 (lookS [v127,v167]) (fun f=>[(5,[.slot 6 (.int .i64)],none),(12,[.slot 7 (.int .i64)],none)]) [] 1 60 4 128 Try.f128 [.agg [.sl q_mo mo.length 1 (eI.F mo),.sl q_ga ga.length 1 (eI.F ga),.sl q_de de.length 3 (eDm.F de)],.c (dI i)] =
  tr128 q_mo mo q_ga ga q_de de i:=by kernel_rfl
theorem w128(qm:Bool)(mo:List Int)(qg:Bool)(ga:List Int)(qd:Bool)(de:List Dem)(i:Int)(h0:0≤i)(hi:i<de.length)(h1:mo.length≤1000000)(h3:de.length≤1000000)(hn:∀d,d∈de→d.nm.size≤1000000∧d.co.length≤1000000) :
  (tr128 qm mo qg ga qd de i).wp (fun rs=>rsEqv rs [rI (M.demErr mo.length de i.toNat)]):=by
 obtain⟨k,rfl⟩:∃k:Nat,i=k:=⟨i.toNat,by omega⟩
 have hlt:k<de.length:=by omega
 have hmem:de.getD k dfD∈de:=getD_mem hlt
 obtain⟨hs,hc⟩:=hn _ hmem
 unfold tr128
 simp only[Int.toNat_natCast]
 refine⟨h0,hi,hs,wp_br (fun hb=>rI_eqv' ?_) (fun hb=>?_)⟩
 ·have hb:M.isName (de.getD k dfD).nm=false:=by simpa using hb
  unfold M.demErr;rw[hb];rfl
 have hnm:M.isName (de.getD k dfD).nm=true:=by simpa using hb
 refine range_wp (n:=k) (fun j _=>∀i,i<j→M.same (de.getD i dfD) (de.getD k dfD)=false) (fun i hi=>by omega) ?_
 rintro j u hj hJ
 refine wp_br (fun hb=>?_) (fun hb=>?_)
 ·have hjlt:=lt_of_dec hb
  refine⟨by show(0:Int)≤j;omega,by show(j:Int)<de.length;omega,wp_br (fun hx=>rI_eqv' ?_) (fun hx=>?_)⟩
  ·have hx:M.same (de.getD j dfD) (de.getD k dfD)=true:=by rw[←same_eq];exact hx
   unfold M.demErr;rw[hnm,dup_yes hjlt hx];rfl
  ·have hx:M.same (de.getD j dfD) (de.getD k dfD)=false:=by rw[←same_eq];exact hx
   refine⟨hjlt,wrap_succ (by omega),fun i hi=>?_⟩
   rcases Nat.lt_or_ge i j with h|h
   ·exact hJ i h
   ·obtain rfl:i=j:=by omega
    exact hx
 ·have hge:=ge_of_dec hb
  obtain rfl:j=k:=by omega
  have hdup:=dup_no hJ
  refine wp_br (fun hb=>rI_eqv' ?_) (fun hb=>?_)
  ·have hb:(((de.getD j dfD).co.length:Int)==(mo.length:Int))=false:=by simpa using hb
   unfold M.demErr;rw[hnm,hdup,hb];rfl
  have hl:(((de.getD j dfD).co.length:Int)==(mo.length:Int))=true:=by simpa using hb
  have e:M.demErr mo.length de j=M.unl (cond (((de.getD j dfD).co.drop 0).any (badF 124)) false (M.small (de.getD j dfD).am 1000000)) 2:=by
   unfold M.demErr;rw[hnm,hdup,hl,List.drop_zero]
   show M.first [0,0,0,_]=_
   simp only[first_of]
   cases cond ((de.getD j dfD).co.any (badF 124)) false (M.small (de.getD j dfD).am 1000000) <;>rfl
  refine range_wp (n:=(de.getD j dfD).co.length) (fun k _=>M.demErr mo.length de j=M.unl (cond (((de.getD j dfD).co.drop k).any (badF 124)) false (M.small (de.getD j dfD).am 1000000)) 2) e ?_
  rintro k v hk hK
  rw[hK]
  refine wp_br (fun hb=>?_) (fun hb=>?_)
  ·have hklt:=lt_of_dec hb
   have hst:=any_step (is:=badF 124) hklt
   refine⟨by show(0:Int)≤k;omega,by show(k:Int)<(de.getD j dfD).co.length;omega,by decide,wp_br (fun hx=>?_) (fun hx=>?_)⟩
   ·have hx:badF 124 ((de.getD j dfD).co.getD k 0)=true:=hx
    rw[hst,hx];exact rsEqv_refl _
   ·have hx:badF 124 ((de.getD j dfD).co.getD k 0)=false:=hx
    exact⟨hklt,wrap_succ (by omega),by rw[hst,hx];rfl⟩
  ·have hge:=ge_of_dec hb
   obtain rfl:k=(de.getD j dfD).co.length:=by omega
   rw[List.drop_length]
   refine⟨by decide,wp_br (fun hx=>rI_eqv' ?_) (fun hx=>rI_eqv' ?_)⟩
   ·have hx:M.small (de.getD j dfD).am 1000000=false:=by simpa using hx
    rw[hx];rfl
   ·have hx:M.small (de.getD j dfD).am 1000000=true:=by simpa using hx
    rw[hx];rfl
def dom128:DomF
 |[.agg [.sl _ n_mo st_mo F_mo,.sl _ n_ga st_ga F_ga,.sl _ n_de st_de F_de],.c (.int .i64 i)]=>(match Nat.beq st_mo 1&&Nat.beq st_ga 1&&Nat.beq st_de 3 with
  |true=>some ([eI.Is n_mo F_mo,eI.Is n_ga F_ga,eDm.Is n_de F_de,0≤i,i<(eDm.list n_de F_de).length,(eI.list n_mo F_mo).length≤1000000,(eDm.list n_de F_de).length≤1000000,∀d,d∈(eDm.list n_de F_de)→d.nm.size≤1000000∧d.co.length≤1000000],[rI (M.demErr (eI.list n_mo F_mo).length (eDm.list n_de F_de) i.toNat)])
  |_=>none)
 |_=>none
def v128:Nat×Sm:=(128,fokSm dom128)
theorem C128:FOK Try.prog G0 gw 128 dom128:=by
 intro ags p r hd hp κ w xs hw hl hG hx
 unfold dom128 at hd
 split at hd
 ·rename_i q_mo n_mo st_mo F_mo q_ga n_ga st_ga F_ga q_de n_de st_de F_de i
  split at hd
  ·rename_i hst
   simp only[Bool.and_eq_true]at hst
   obtain⟨⟨g1,g2⟩,g3⟩:=hst
   have g1:=Nat.eq_of_beq_eq_true g1
   have g2:=Nat.eq_of_beq_eq_true g2
   have g3:=Nat.eq_of_beq_eq_true g3
   subst g1 g2 g3
   simp only[Option.some.injEq,Prod.mk.injEq]at hd
   obtain⟨rfl,rfl⟩:=hd
   obtain⟨hI_mo,hI_ga,hI_de,hp⟩:=hp
   have heq:agsEqv [.agg [.sl q_mo n_mo 1 F_mo,.sl q_ga n_ga 1 F_ga,.sl q_de n_de 3 F_de],.c (.int .i64 i)] [.agg [.sl q_mo (eI.list n_mo F_mo).length 1 (eI.F (eI.list n_mo F_mo)),.sl q_ga (eI.list n_ga F_ga).length 1 (eI.F (eI.list n_ga F_ga)),.sl q_de (eDm.list n_de F_de).length 3 (eDm.F (eDm.list n_de F_de))],.c (.int .i64 i)]:=⟨⟨eI.to id hI_mo,eI.to id hI_ga,eDm.to id hI_de,trivial⟩,Ag.eqv_refl _,trivial⟩
   have len_mo:(eI.list n_mo F_mo).length=n_mo:=eI.list_len
   have len_ga:(eI.list n_ga F_ga).length=n_ga:=eI.list_len
   have len_de:(eDm.list n_de F_de).length=n_de:=eDm.list_len
   generalize eI.list n_mo F_mo=mo at *
   generalize eI.list n_ga F_ga=ga at *
   generalize eDm.list n_de F_de=de at *
   subst len_mo len_ga len_de
   exact fokX_fin mixed gw_stable (sl:=[v127,v167]) ⟨S127,S167,trivial⟩ Try.func128 hw hl hG hx heq rfl (t128 _ _ _ _ _ _ _) (w128 _ _ _ _ _ _ _ hp.1 hp.2.1 hp.2.2.1 hp.2.2.2.1 hp.2.2.2.2.1)
  ·cases hd
 ·cases hd
theorem S128:SumOK Try.prog G0 gw 128 (fokSm dom128):=fok_sum Try.func128 rfl C128
end Go.Pl
end
section
set_option maxRecDepth 100000
namespace Go.Pl
open Go.V Go.Proofs
def tr44(q_mo:Bool)(mo:List Int)(q_ga:Bool)(ga:List Int)(q_de:Bool)(de:List Dem):T (List Ar):=
  T.br ((mo.length:Int)==0) (T.ret [Ar.c (D.int IntKind.i64 (0:Int)),Ar.c (D.int IntKind.i64 (10:Int))]) (T.br ((ga.length:Int) != (mo.length:Int)) (T.ret [Ar.c (D.int IntKind.i64 (0:Int)),Ar.c (D.int IntKind.i64 (10:Int))]) (T.br (decide ((mo.length:Int)>(4:Int))) (T.ret [Ar.c (D.int IntKind.i64 (0:Int)),Ar.c (D.int IntKind.i64 (8:Int))]) (T.loop (Int×PUnit) ((0:Int),PUnit.unit) fun(x:Int×PUnit)=>T.br (decide (x.1<(mo.length:Int))) (T.need ((0:Int)≤x.1) (T.need (x.1<(mo.length:Int)) (T.br (!M.within (mo.getD x.1.toNat (0:Int)) (0:Int) (1000000:Int)) (T.ret (Sum.inr [Ar.c (D.int IntKind.i64 (0:Int)),Ar.c (D.int IntKind.i64 (2:Int))])) (T.need ((0:Int)≤x.1) (T.need (x.1<(ga.length:Int)) (T.need ((0:Int)≤100∧(100:Int)<9223372036854775808) (T.br (!M.small (ga.getD x.1.toNat (0:Int)) (100:Int)) (T.ret (Sum.inr [Ar.c (D.int IntKind.i64 (0:Int)),Ar.c (D.int IntKind.i64 (2:Int))])) (T.ret (Sum.inl (IntKind.i64.wrap (x.1+1),PUnit.unit)))))))))) (T.br (decide ((de.length:Int)>(8:Int))) (T.ret (Sum.inr [Ar.c (D.int IntKind.i64 (0:Int)),Ar.c (D.int IntKind.i64 (8:Int))])) (T.loop (Int×PUnit) ((0:Int),PUnit.unit) fun(x_1:Int×PUnit)=>T.br (decide (x_1.1<(de.length:Int))) (T.need (Enc.Is eI mo.length (Enc.F eI mo)) (T.need (Enc.Is eI ga.length (Enc.F eI ga)) (T.need (Enc.Is eDm de.length (Enc.F eDm de)) (T.need ((0:Int)≤x_1.1) (T.need (x_1.1<((Enc.list eDm de.length (Enc.F eDm de)).length:Int)) (T.need (List.length (Enc.list eI mo.length (Enc.F eI mo))≤1000000) (T.need (List.length (Enc.list eDm de.length (Enc.F eDm de))≤1000000) (T.need (∀(d:Dem),d∈Enc.list eDm de.length (Enc.F eDm de)→ByteArray.size (Dem.nm d)≤1000000∧List.length (Dem.co d)≤1000000) (T.br (M.demErr (List.length (Enc.list eI mo.length (Enc.F eI mo))) (Enc.list eDm de.length (Enc.F eDm de)) x_1.1.toNat != (0:Int)) (T.ret (Sum.inr (Sum.inr [Ar.c (D.int IntKind.i64 x_1.1),Ar.c (D.int IntKind.i64 (M.demErr (List.length (Enc.list eI mo.length (Enc.F eI mo))) (Enc.list eDm de.length (Enc.F eDm de)) x_1.1.toNat))]))) (T.ret (Sum.inl (IntKind.i64.wrap (x_1.1+1),PUnit.unit)))))))))))) (T.ret (Sum.inr (Sum.inr [Ar.c (D.int IntKind.i64 (0:Int)),Ar.c (D.int IntKind.i64 (0:Int))]))))))))
theorem t44(q_mo:Bool)(mo:List Int)(q_ga:Bool)(ga:List Int)(q_de:Bool)(de:List Dem):runFnX Try.prog G0 (lookS [v45,v127,v128]) (fun f=>[(7,[.slot 5 (.int .i64)],none),(14,[.slot 6 (.int .i64)],none)]) [] 1 60 4 44 Try.f44 [.agg [.sl q_mo mo.length 1 (eI.F mo),.sl q_ga ga.length 1 (eI.F ga),.sl q_de de.length 3 (eDm.F de)]] =
  tr44 q_mo mo q_ga ga q_de de:=by kernel_rfl
theorem w44(qm:Bool)(mo:List Int)(qg:Bool)(ga:List Int)(qd:Bool)(de:List Dem)(h1:mo.length≤1000000)(h3:de.length≤1000000)(hn:∀d,d∈de→d.nm.size≤1000000∧d.co.length≤1000000) :
  (tr44 qm mo qg ga qd de).wp (fun rs=>rsEqv rs (resP (M.checkProg mo ga de))):=by
 unfold tr44
 simp only[Enc.list_F]
 have er:∀e:Int,e≠0→M.progErr0 mo ga de=e→rsEqv [rI 0,rI e] (resP (M.checkProg mo ga de)):=by
  intro e he h
  have hb:(e != 0)=true:=bne_iff_ne.2 he
  have:M.checkProg mo ga de=(0,e):=by unfold M.checkProg;rw[h,hb];rfl
  rw[this];exact rsEqv_refl _
 refine wp_br (fun hb=>er 10 (by decide) ?_) (fun hb=>?_)
 ·have hb:(mo.length:Int)=0:=by simpa using hb
  unfold M.progErr0;rw[decide_eq_false (by omega)];rfl
 have hm0:(mo.length:Int)>0:=by
  have:(mo.length:Int)≠0:=by simpa using hb
  omega
 refine wp_br (fun hb=>er 10 (by decide) ?_) (fun hb=>?_)
 ·have hb:((ga.length:Int)==(mo.length:Int))=false:=by simpa using hb
  unfold M.progErr0;rw[decide_eq_true hm0,hb];rfl
 have hg:((ga.length:Int)==(mo.length:Int))=true:=by simpa using hb
 have hgl:ga.length=mo.length:=by(have:(ga.length:Int)=mo.length:=by simpa using hb);omega
 refine wp_br (fun hb=>er 8 (by decide) ?_) (fun hb=>?_)
 ·have hb:(mo.length:Int)>4:=of_decide_eq_true hb
  unfold M.progErr0;rw[decide_eq_true hm0,hg,decide_eq_false (by omega)];rfl
 have hm4:(mo.length:Int)≤4:=by(have:¬(mo.length:Int)>4:=of_decide_eq_false hb);omega
 have pe:∀bm bg:Bool,mo.any (badF 119)=bm→ga.any (badF 120)=bg→M.progErr0 mo ga de=M.first [M.unl (!bm) 2,M.unl (!bg) 2,M.unl (decide ((de.length:Int)≤8)) 8]:=by
  intro bm bg h h'
  unfold M.progErr0;rw[decide_eq_true hm0,hg,decide_eq_true hm4,h,h']
  show M.first [0,0,_,_,_]=_
  rw[first_of,if_pos rfl,first_of,if_pos rfl]
 refine range_wp (n:=mo.length) (fun k _=>mo.any (badF 119)=(mo.drop k).any (badF 119)∧ga.any (badF 120)=(ga.drop k).any (badF 120)) ⟨by rw[List.drop_zero],by rw[List.drop_zero]⟩ ?_
 rintro k u hk ⟨hI,hJ⟩
 refine wp_br (fun hb=>?_) (fun hb=>?_)
 ·have hlt:=lt_of_dec hb
  have s1:=any_step (is:=badF 119) hlt
  have s2:=any_step (is:=badF 120) (show k<ga.length by omega)
  refine⟨by show(0:Int)≤k;omega,by show(k:Int)<mo.length;omega,wp_br (fun hx=>er 2 (by decide) ?_) (fun hx=>?_)⟩
  ·have hx:badF 119 (mo.getD k 0)=true:=hx
   rw[hx]at s1
   rw[pe true _ (hI.trans s1) rfl];rfl
  have hx:badF 119 (mo.getD k 0)=false:=hx
  rw[hx]at s1
  refine⟨by show(0:Int)≤k;omega,by show(k:Int)<ga.length;omega,by decide,wp_br (fun hy=>er 2 (by decide) ?_) (fun hy=>?_)⟩
  ·have hy:badF 120 (ga.getD k 0)=true:=hy
   rw[hy]at s2
   rw[pe _ true rfl (hJ.trans s2)]
   cases mo.any (badF 119) <;>rfl
  have hy:badF 120 (ga.getD k 0)=false:=hy
  rw[hy]at s2
  exact⟨hlt,wrap_succ (by omega),hI.trans s1,hJ.trans s2⟩
 ·have hge:=ge_of_dec hb
  obtain rfl:k=mo.length:=by omega
  rw[List.drop_length]at hI
  rw[←hgl,List.drop_length]at hJ
  have pe:=pe false false hI hJ
  refine wp_br (fun hb=>er 8 (by decide) ?_) (fun hb=>?_)
  ·have hb:(de.length:Int)>8:=of_decide_eq_true hb
   rw[pe,decide_eq_false (by omega)];rfl
  have hd8:¬(de.length:Int)>8:=of_decide_eq_false hb
  have pe:M.progErr0 mo ga de=0:=by rw[pe,decide_eq_true (by omega)];rfl
  have hchk:M.checkProg mo ga de=M.badFrom (M.demErr mo.length de) (de.length-0) 0:=by unfold M.checkProg;rw[pe];rfl
  rw[hchk]
  refine range_wp (n:=de.length) (fun k _=>M.badFrom (M.demErr mo.length de) (de.length-0) 0=M.badFrom (M.demErr mo.length de) (de.length-k) k) rfl ?_
  rintro k u hk hI
  rw[hI]
  refine wp_br (fun hb=>?_) (fun hb=>?_)
  ·have hlt:=lt_of_dec hb
   refine⟨Enc.is_F _ _ _,Enc.is_F _ _ _,Enc.is_F _ _ _,by show(0:Int)≤k;omega,by show(k:Int)<de.length;omega,h1,h3,hn,wp_br (fun hx=>?_) (fun hx=>?_)⟩
   ·have hx:(M.demErr mo.length de k != 0)=true:=hx
    rw[bad_hit hlt (bne_iff_ne.1 hx)];exact rsEqv_refl _
   ·have hx:(M.demErr mo.length de k != 0)=false:=hx
    exact⟨hlt,wrap_succ (by omega),bad_next hlt (by simpa using hx)⟩
  ·have hge:=ge_of_dec hb
   obtain rfl:k=de.length:=by omega
   rw[Nat.sub_self];exact rsEqv_refl _
def dom44:DomF
 |[.agg [.sl _ n_mo st_mo F_mo,.sl _ n_ga st_ga F_ga,.sl _ n_de st_de F_de]]=>(match Nat.beq st_mo 1&&Nat.beq st_ga 1&&Nat.beq st_de 3 with
  |true=>some ([eI.Is n_mo F_mo,eI.Is n_ga F_ga,eDm.Is n_de F_de,(eI.list n_mo F_mo).length≤1000000,(eDm.list n_de F_de).length≤1000000,∀d,d∈(eDm.list n_de F_de)→d.nm.size≤1000000∧d.co.length≤1000000],resP (M.checkProg (eI.list n_mo F_mo) (eI.list n_ga F_ga) (eDm.list n_de F_de)))
  |_=>none)
 |_=>none
def v44:Nat×Sm:=(44,fokSm dom44)
theorem C44:FOK Try.prog G0 gw 44 dom44:=by
 intro ags p r hd hp κ w xs hw hl hG hx
 unfold dom44 at hd
 split at hd
 ·rename_i q_mo n_mo st_mo F_mo q_ga n_ga st_ga F_ga q_de n_de st_de F_de
  split at hd
  ·rename_i hst
   simp only[Bool.and_eq_true]at hst
   obtain⟨⟨g1,g2⟩,g3⟩:=hst
   have g1:=Nat.eq_of_beq_eq_true g1
   have g2:=Nat.eq_of_beq_eq_true g2
   have g3:=Nat.eq_of_beq_eq_true g3
   subst g1 g2 g3
   simp only[Option.some.injEq,Prod.mk.injEq]at hd
   obtain⟨rfl,rfl⟩:=hd
   obtain⟨hI_mo,hI_ga,hI_de,hp⟩:=hp
   have heq:agsEqv [.agg [.sl q_mo n_mo 1 F_mo,.sl q_ga n_ga 1 F_ga,.sl q_de n_de 3 F_de]] [.agg [.sl q_mo (eI.list n_mo F_mo).length 1 (eI.F (eI.list n_mo F_mo)),.sl q_ga (eI.list n_ga F_ga).length 1 (eI.F (eI.list n_ga F_ga)),.sl q_de (eDm.list n_de F_de).length 3 (eDm.F (eDm.list n_de F_de))]]:=⟨⟨eI.to id hI_mo,eI.to id hI_ga,eDm.to id hI_de,trivial⟩,trivial⟩
   have len_mo:(eI.list n_mo F_mo).length=n_mo:=eI.list_len
   have len_ga:(eI.list n_ga F_ga).length=n_ga:=eI.list_len
   have len_de:(eDm.list n_de F_de).length=n_de:=eDm.list_len
   generalize eI.list n_mo F_mo=mo at *
   generalize eI.list n_ga F_ga=ga at *
   generalize eDm.list n_de F_de=de at *
   subst len_mo len_ga len_de
   exact fokX_fin mixed gw_stable (sl:=[v45,v127,v128]) ⟨S45,S127,S128,trivial⟩ Try.func44 hw hl hG hx heq rfl (t44 _ _ _ _ _ _) (w44 _ _ _ _ _ _ hp.1 hp.2.1 hp.2.2.1)
  ·cases hd
 ·cases hd
theorem S44:SumOK Try.prog G0 gw 44 (fokSm dom44):=fok_sum Try.func44 rfl C44
end Go.Pl
end
section
set_option maxRecDepth 100000
namespace Go.Pl
open Go.V Go.Proofs
abbrev dmG(d:Dem):Nat→Nat→D:=fun(i j:Nat)=>List.getD [D.str d.nm,D.sl true (List.length d.co) 1 (Enc.F eI d.co),D.int IntKind.i64 d.am] (i*3+j) D.nilp
theorem dm_push{d:Dem}:(∀j,j<eDm.st→(dmG d 0 j).eqv (eDm.enc d j))∧eDm.rd (dmG d 0)=d:=by
 refine⟨fun j hj=>?_,?_⟩
 ·have hj:j<3:=hj
  match j,hj with
  |0,_=>exact D.eqv_refl _
  |1,_=>exact⟨(fun e=>by cases e),rfl,fun _=>rfl,fun i j hi hj=>D.eqv_refl _⟩
  |2,_=>exact D.eqv_refl _
 ·show(⟨d.nm,eI.list d.co.length (eI.F d.co),d.am⟩:Dem)=d
  rw[Enc.list_F]
def tr18(q_mo:Bool)(mo:List Int)(q_ga:Bool)(ga:List Int)(q_de:Bool)(de:List Dem):T (List Ar):=
  T.need (Enc.Is eI mo.length (Enc.F eI mo)) (T.need (List.length (Enc.list eI mo.length (Enc.F eI mo))≤1000000) (T.need (Enc.Is eI ga.length (Enc.F eI ga)) (T.need (List.length (Enc.list eI ga.length (Enc.F eI ga))≤1000000) (T.need (Enc.Is eI (List.length (Enc.list eI mo.length (Enc.F eI mo))) (Enc.F eI (Enc.list eI mo.length (Enc.F eI mo)))) (T.need (Enc.Is eI (List.length (Enc.list eI ga.length (Enc.F eI ga))) (Enc.F eI (Enc.list eI ga.length (Enc.F eI ga)))) (T.loop2 (Int×List Int×List Int×PUnit×PUnit) (Int×List Int×List Int×List Dem×PUnit) (Sum.inl ((0:Int),Enc.list eI (List.length (Enc.list eI mo.length (Enc.F eI mo))) (Enc.F eI (Enc.list eI mo.length (Enc.F eI mo))),Enc.list eI (List.length (Enc.list eI ga.length (Enc.F eI ga))) (Enc.F eI (Enc.list eI ga.length (Enc.F eI ga))),PUnit.unit,PUnit.unit)) (fun(x:Int×List Int×List Int×PUnit×PUnit)=>T.br (decide (x.1<(de.length:Int))) (T.need ((0:Int)≤x.1) (T.need (x.1<(de.length:Int)) (T.need (Enc.Is eI (List.length (Dem.co (de.getD x.1.toNat dfD))) (Enc.F eI (Dem.co (de.getD x.1.toNat dfD)))) (T.need (List.length (Enc.list eI (List.length (Dem.co (de.getD x.1.toNat dfD))) (Enc.F eI (Dem.co (de.getD x.1.toNat dfD))))≤1000000) (T.need ((1:Nat)≤1000000) (T.need (Enc.Is eI (List.length (x.2.1)) (Enc.F eI (x.2.1))) (T.need (Enc.Is eI (List.length (Prod.fst (x.2.2))) (Enc.F eI (Prod.fst (x.2.2)))) (T.need (Enc.Is eDm (1:Nat) (joinF (0:Nat) (fun(x x_1:Nat)=>D.nilp) fun(i j:Nat)=>List.getD [D.str (Dem.nm (de.getD x.1.toNat dfD)),D.sl true (List.length (Enc.list eI (List.length (Dem.co (de.getD x.1.toNat dfD))) (Enc.F eI (Dem.co (de.getD x.1.toNat dfD))))) (1:Nat) (Enc.F eI (Enc.list eI (List.length (Dem.co (de.getD x.1.toNat dfD))) (Enc.F eI (Dem.co (de.getD x.1.toNat dfD))))),D.int IntKind.i64 (Dem.am (de.getD x.1.toNat dfD))] (i*3+j) D.nilp)) (T.need ((1:Nat)≤1) (T.ret (Sum.inl (Sum.inr (IntKind.i64.wrap (x.1+1),Enc.list eI (List.length (x.2.1)) (Enc.F eI (x.2.1)),Enc.list eI (List.length (Prod.fst (x.2.2))) (Enc.F eI (Prod.fst (x.2.2))),Enc.list eDm (1:Nat) (joinF (0:Nat) (fun(x x_1:Nat)=>D.nilp) fun(i j:Nat)=>List.getD [D.str (Dem.nm (de.getD x.1.toNat dfD)),D.sl true (List.length (Enc.list eI (List.length (Dem.co (de.getD x.1.toNat dfD))) (Enc.F eI (Dem.co (de.getD x.1.toNat dfD))))) (1:Nat) (Enc.F eI (Enc.list eI (List.length (Dem.co (de.getD x.1.toNat dfD))) (Enc.F eI (Dem.co (de.getD x.1.toNat dfD))))),D.int IntKind.i64 (Dem.am (de.getD x.1.toNat dfD))] (i*3+j) D.nilp),PUnit.unit))))))))))))) (T.ret (Sum.inr [Ar.agg [D.sl false (List.length (x.2.1)) (1:Nat) (Enc.F eI (x.2.1)),D.sl false (List.length (Prod.fst (x.2.2))) (1:Nat) (Enc.F eI (Prod.fst (x.2.2))),D.sl false (0:Nat) (0:Nat) fun(x x_1:Nat)=>D.nilp]]))) fun(y:Int×List Int×List Int×List Dem×PUnit)=>T.br (decide (y.1<(de.length:Int))) (T.need ((0:Int)≤y.1) (T.need (y.1<(de.length:Int)) (T.need (Enc.Is eI (List.length (Dem.co (de.getD y.1.toNat dfD))) (Enc.F eI (Dem.co (de.getD y.1.toNat dfD)))) (T.need (List.length (Enc.list eI (List.length (Dem.co (de.getD y.1.toNat dfD))) (Enc.F eI (Dem.co (de.getD y.1.toNat dfD))))≤1000000) (T.need (List.length (Prod.fst (Prod.snd (y.2.2)))+1≤1000000) (T.need (List.length (Prod.fst (Prod.snd (y.2.2)))≤List.length (Prod.fst (Prod.snd (y.2.2)))) (T.need (Enc.Is eI (List.length (y.2.1)) (Enc.F eI (y.2.1))) (T.need (Enc.Is eI (List.length (Prod.fst (y.2.2))) (Enc.F eI (Prod.fst (y.2.2)))) (T.need (Enc.Is eDm (List.length (Prod.fst (Prod.snd (y.2.2)))+1) (joinF (List.length (Prod.fst (Prod.snd (y.2.2)))) (Enc.F eDm (Prod.fst (Prod.snd (y.2.2)))) fun(i j:Nat)=>List.getD [D.str (Dem.nm (de.getD y.1.toNat dfD)),D.sl true (List.length (Enc.list eI (List.length (Dem.co (de.getD y.1.toNat dfD))) (Enc.F eI (Dem.co (de.getD y.1.toNat dfD))))) (1:Nat) (Enc.F eI (Enc.list eI (List.length (Dem.co (de.getD y.1.toNat dfD))) (Enc.F eI (Dem.co (de.getD y.1.toNat dfD))))),D.int IntKind.i64 (Dem.am (de.getD y.1.toNat dfD))] (i*3+j) D.nilp)) (T.need (List.length (Prod.fst (Prod.snd (y.2.2)))+1≤List.length (Prod.fst (Prod.snd (y.2.2)))+1) (T.ret (Sum.inl (Sum.inr (IntKind.i64.wrap (y.1+1),Enc.list eI (List.length (y.2.1)) (Enc.F eI (y.2.1)),Enc.list eI (List.length (Prod.fst (y.2.2))) (Enc.F eI (Prod.fst (y.2.2))),Enc.list eDm (List.length (Prod.fst (Prod.snd (y.2.2)))+1) (joinF (List.length (Prod.fst (Prod.snd (y.2.2)))) (Enc.F eDm (Prod.fst (Prod.snd (y.2.2)))) fun(i j:Nat)=>List.getD [D.str (Dem.nm (de.getD y.1.toNat dfD)),D.sl true (List.length (Enc.list eI (List.length (Dem.co (de.getD y.1.toNat dfD))) (Enc.F eI (Dem.co (de.getD y.1.toNat dfD))))) (1:Nat) (Enc.F eI (Enc.list eI (List.length (Dem.co (de.getD y.1.toNat dfD))) (Enc.F eI (Dem.co (de.getD y.1.toNat dfD))))),D.int IntKind.i64 (Dem.am (de.getD y.1.toNat dfD))] (i*3+j) D.nilp),PUnit.unit)))))))))))))) (T.need (List.length (Prod.fst (Prod.snd (y.2.2)))≤List.length (Prod.fst (Prod.snd (y.2.2)))) (T.ret (Sum.inr [Ar.agg [D.sl false (List.length (y.2.1)) (1:Nat) (Enc.F eI (y.2.1)),D.sl false (List.length (Prod.fst (y.2.2))) (1:Nat) (Enc.F eI (Prod.fst (y.2.2))),D.sl true (List.length (Prod.fst (Prod.snd (y.2.2)))) (3:Nat) (Enc.F eDm (Prod.fst (Prod.snd (y.2.2))))]])))))))))
theorem t18(q_mo:Bool)(mo:List Int)(q_ga:Bool)(ga:List Int)(q_de:Bool)(de:List Dem):runFnX Try.prog G0 (lookS [v71]) (fun f=>[(3,[.slot 4 (.int .i64),.blk 3 [.imE eI,.imE eI,.nsl]],some [.slot 4 (.int .i64),.blk 3 [.imE eI,.imE eI,.rowE 124 eDm]])]) [] 1 60 4 18 Try.f18 [.agg [.sl q_mo mo.length 1 (eI.F mo),.sl q_ga ga.length 1 (eI.F ga),.sl q_de de.length 3 (eDm.F de)]] =
  tr18 q_mo mo q_ga ga q_de de:=by kernel_rfl
theorem w18(qm:Bool)(mo:List Int)(qg:Bool)(ga:List Int)(qd:Bool)(de:List Dem)(h1:mo.length≤1000000)(h2:ga.length≤1000000)(h3:de.length≤1000000)(hn:∀d,d∈de→d.co.length≤1000000) :
  (tr18 qm mo qg ga qd de).wp (fun rs=>rsEqv rs [.agg [.sl false mo.length 1 (eI.F mo),.sl false ga.length 1 (eI.F ga),.sl false de.length 3 (eDm.F de)]]):=by
 unfold tr18
 simp only[Enc.list_F]
 refine⟨Enc.is_F _ _ _,h1,Enc.is_F _ _ _,h2,Enc.is_F _ _ _,Enc.is_F _ _ _,?_⟩
 refine⟨fun z=>match z with
  |.inl x=>x=((0:Int),mo,ga,PUnit.unit,PUnit.unit)
  |.inr y=>∃k:Nat,1≤k∧k≤de.length∧y.1=k∧y.2.1=mo∧y.2.2.1=ga∧y.2.2.2.1=de.take k,
  fun z=>match z with|.inl _=>de.length+5|.inr y=>de.length-y.1.toNat,rfl,?_,?_⟩
 ·rintro x rfl
  refine⟨fun hb=>?_,fun hb=>?_⟩
  ·have hb:0<de.length:=by have:(0:Int)<de.length:=of_decide_eq_true hb;omega
   obtain⟨o1,o2⟩:=push_one eDm (F:=fun _ _=>.nilp) (G:=dmG (de.getD 0 dfD)) dm_push.1 dm_push.2
   have o3:[de.getD 0 dfD]=de.take 1:=by
    have:=take_push (l:=de) (d:=dfD) hb
    rw[←this];rfl
   refine⟨by dsimp only;omega,by dsimp only;omega,Enc.is_F _ _ _,hn _ (getD_mem hb),by decide,Enc.is_F _ _ _,Enc.is_F _ _ _,o1,Nat.le_refl _,⟨1,Nat.le_refl _,hb,rfl,rfl,rfl,o2.trans o3⟩,?_⟩
   show de.length-(1:Int).toNat<de.length+5;omega
  ·have h0:de.length=0:=by have:¬(0:Int)<de.length:=of_decide_eq_false hb;omega
   have hW0:de=[]:=List.length_eq_zero_iff.1 h0
   subst hW0
   exact⟨⟨D.eqv_refl _,D.eqv_refl _,nil_eqv eDm,trivial⟩,trivial⟩
 ·rintro ⟨y,m,g,acc,u⟩ ⟨k,g1,g2,g3,g4,g5,g6⟩
  simp only at g3 g4 g5 g6
  subst g3 g4 g5
  have hacc:acc.length=k:=by rw[g6,List.length_take];omega
  have hw:IntKind.i64.wrap ((k:Int)+1)=((k+1:Nat):Int):=wrap_succ (by omega)
  refine⟨fun hb=>?_,fun hb=>?_⟩
  ·have hlt:=lt_of_dec hb
   obtain⟨o1,o2⟩:=eDm.push (l:=acc) (a:=de.getD k dfD) (G:=dmG (de.getD k dfD)) dm_push.1 dm_push.2
   have o3:acc++ [de.getD k dfD]=de.take (k+1):=by rw[g6,take_push (d:=dfD) hlt]
   have mu:de.length-(IntKind.i64.wrap ((k:Int)+1)).toNat<de.length-(k:Int).toNat:=by rw[hw];omega
   refine⟨by dsimp only;omega,by dsimp only;omega,Enc.is_F _ _ _,hn _ (getD_mem hlt),by dsimp only;omega,Nat.le_refl _,Enc.is_F _ _ _,Enc.is_F _ _ _,o1,Nat.le_refl _,⟨k+1,by omega,hlt,hw,rfl,rfl,o2.trans o3⟩,mu⟩
  ·have hge:=ge_of_dec hb
   obtain rfl:k=de.length:=by omega
   have hfin:acc=de:=by rw[g6,List.take_of_length_le (by omega)]
   subst hfin
   exact⟨Nat.le_refl _,⟨D.eqv_refl _,D.eqv_refl _,⟨(fun e=>by cases e),rfl,fun _=>rfl,fun i j hi hj=>D.eqv_refl _⟩,trivial⟩,trivial⟩
def dom18:DomF
 |[.agg [.sl _ n_mo st_mo F_mo,.sl _ n_ga st_ga F_ga,.sl _ n_de st_de F_de]]=>(match Nat.beq st_mo 1&&Nat.beq st_ga 1&&Nat.beq st_de 3 with
  |true=>some ([eI.Is n_mo F_mo,eI.Is n_ga F_ga,eDm.Is n_de F_de,(eI.list n_mo F_mo).length≤1000000,(eI.list n_ga F_ga).length≤1000000,(eDm.list n_de F_de).length≤1000000,∀d,d∈(eDm.list n_de F_de)→d.co.length≤1000000],[.agg [.sl false (eI.list n_mo F_mo).length 1 (eI.F (eI.list n_mo F_mo)),.sl false (eI.list n_ga F_ga).length 1 (eI.F (eI.list n_ga F_ga)),.sl false (eDm.list n_de F_de).length 3 (eDm.F (eDm.list n_de F_de))]])
  |_=>none)
 |_=>none
def v18:Nat×Sm:=(18,fokSm dom18)
theorem C18:FOK Try.prog G0 gw 18 dom18:=by
 intro ags p r hd hp κ w xs hw hl hG hx
 unfold dom18 at hd
 split at hd
 ·rename_i q_mo n_mo st_mo F_mo q_ga n_ga st_ga F_ga q_de n_de st_de F_de
  split at hd
  ·rename_i hst
   simp only[Bool.and_eq_true]at hst
   obtain⟨⟨g1,g2⟩,g3⟩:=hst
   have g1:=Nat.eq_of_beq_eq_true g1
   have g2:=Nat.eq_of_beq_eq_true g2
   have g3:=Nat.eq_of_beq_eq_true g3
   subst g1 g2 g3
   simp only[Option.some.injEq,Prod.mk.injEq]at hd
   obtain⟨rfl,rfl⟩:=hd
   obtain⟨hI_mo,hI_ga,hI_de,hp⟩:=hp
   have heq:agsEqv [.agg [.sl q_mo n_mo 1 F_mo,.sl q_ga n_ga 1 F_ga,.sl q_de n_de 3 F_de]] [.agg [.sl q_mo (eI.list n_mo F_mo).length 1 (eI.F (eI.list n_mo F_mo)),.sl q_ga (eI.list n_ga F_ga).length 1 (eI.F (eI.list n_ga F_ga)),.sl q_de (eDm.list n_de F_de).length 3 (eDm.F (eDm.list n_de F_de))]]:=⟨⟨eI.to id hI_mo,eI.to id hI_ga,eDm.to id hI_de,trivial⟩,trivial⟩
   have len_mo:(eI.list n_mo F_mo).length=n_mo:=eI.list_len
   have len_ga:(eI.list n_ga F_ga).length=n_ga:=eI.list_len
   have len_de:(eDm.list n_de F_de).length=n_de:=eDm.list_len
   generalize eI.list n_mo F_mo=mo at *
   generalize eI.list n_ga F_ga=ga at *
   generalize eDm.list n_de F_de=de at *
   subst len_mo len_ga len_de
   exact fokX_fin mixed gw_stable (sl:=[v71]) ⟨S71,trivial⟩ Try.func18 hw hl hG hx heq rfl (t18 _ _ _ _ _ _) (w18 _ _ _ _ _ _ hp.1 hp.2.1 hp.2.2.1 hp.2.2.2.1)
  ·cases hd
 ·cases hd
theorem S18:SumOK Try.prog G0 gw 18 (fokSm dom18):=fok_sum Try.func18 rfl C18
end Go.Pl
end
section
set_option maxRecDepth 100000
namespace Go.Pl
open Go.V Go.Proofs
theorem t150n:runFnX Try.prog G0 (lookS []) (fun _=>[]) [] 1 40 6 150 Try.f150 [.c (.op (.slice none 0 0))]=T.br true (T.ret [.c (.sl false 0 0 (fun _ _=>.nilp))]) .fail:=by kernel_rfl
theorem w150q(u:List Int)(h1:u.length≤1000000):(tr150 u).wp (fun rs=>rsEqv rs [.c (.sl false u.length 1 (eI.F u))]):=by
 unfold tr150
 refine⟨by omega,Nat.le_refl _,?_⟩
 simp only[Nat.zero_add,join0]
 exact⟨⟨(fun e=>by cases e),rfl,fun _=>rfl,fun i j hi hj=>D.eqv_refl _⟩,trivial⟩
def dom150q:DomF
 |[.c (.sl _ n st F)]=>(match Nat.beq st 1 with
  |true=>some ([eI.Is n F,n≤1000000],[.c (.sl false (eI.list n F).length 1 (eI.F (eI.list n F)))])
  |_=>none)
 |_=>none
def v150q:Nat×Sm:=(150,fokSm dom150q)
theorem C150q:FOK Try.prog G0 gw 150 dom150q:=by
 intro ags p r hd hp κ w xs hw hl hG hx
 unfold dom150q at hd
 split at hd
 ·rename_i q n st F
  split at hd
  ·rename_i hst
   have g1:=Nat.eq_of_beq_eq_true hst
   subst g1
   simp only[Option.some.injEq,Prod.mk.injEq]at hd
   obtain⟨rfl,rfl⟩:=hd
   obtain⟨hI,hn,_⟩:=hp
   cases hx with
   |cons h0 h1=>
    cases h1
    have h0':=h0
    simp only[Ag.rel,D.rel]at h0
    rcases h0 with⟨rfl,rfl,rfl⟩|h0
    ·have hx':F2 (Ag.rel Try.prog gw κ) [.c (.op (.slice none 0 0))] [.slice none 0 0]:=.cons ⟨rfl,rfl,by simp,by simp⟩ .nil
     refine fokX_fin mixed gw_stable (sl:=[]) trivial Try.func150 hw hl hG hx' (ags':=[.c (.op (.slice none 0 0))]) (agsEqv_refl _) rfl t150n ⟨fun _=>⟨nil_eqv eI,trivial⟩,fun h=>by cases h⟩
    ·rename_i x
     have hx':F2 (Ag.rel Try.prog gw κ) [.c (.sl true n 1 F)] [x]:=.cons (.inr h0) .nil
     have heq:agsEqv [.c (.sl true n 1 F)] [.c (.sl true (eI.list n F).length 1 (eI.F (eI.list n F)))]:=⟨eI.to id hI,trivial⟩
     exact fokX_fin mixed gw_stable (sl:=[]) trivial Try.func150 hw hl hG hx' heq rfl (t150 _) (w150q _ (by rw[Enc.list_len];exact hn))
  ·cases hd
 ·cases hd
theorem S150q:SumOK Try.prog G0 gw 150 (fokSm dom150q):=fok_sum Try.func150 rfl C150q
end Go.Pl
end
section
set_option maxRecDepth 100000
namespace Go.Pl
open Go.V Go.Proofs
abbrev dmH(d:Dem):Nat→Nat→D:=fun(i j:Nat)=>List.getD [D.str d.nm,D.sl false (List.length d.co) 1 (Enc.F eI d.co),D.int IntKind.i64 d.am] (i*3+j) D.nilp
theorem dmH_push{d:Dem}:(∀j,j<eDm.st→(dmH d 0 j).eqv (eDm.enc d j))∧eDm.rd (dmH d 0)=d:=by
 refine⟨fun j hj=>?_,?_⟩
 ·have hj:j<3:=hj
  match j,hj with
  |0,_=>exact D.eqv_refl _
  |1,_=>exact⟨(fun e=>by cases e),rfl,fun _=>rfl,fun i j hi hj=>D.eqv_refl _⟩
  |2,_=>exact D.eqv_refl _
 ·show(⟨d.nm,eI.list d.co.length (eI.F d.co),d.am⟩:Dem)=d
  rw[Enc.list_F]
namespace M
def erase(de:List Dem)(i:Int):List Dem:=de.eraseIdx i.toNat
end M
def wo(de:List Dem)(j k:Nat):List Dem:=(de.take k).eraseIdx j
theorem wo_skip{de:List Dem}{j k:Nat}(hk:k<de.length)(h:j=k):wo de j (k+1)=wo de j k:=by
 subst h
 unfold wo
 rw[←take_push (d:=dfD) hk,List.eraseIdx_append_of_length_le (by rw[List.length_take];omega),List.length_take,Nat.min_eq_left (by omega),Nat.sub_self,List.eraseIdx_of_length_le (l:=de.take j) (by rw[List.length_take];omega)]
 simp
theorem wo_take{de:List Dem}{j k:Nat}(hk:k<de.length)(h:j≠k):wo de j (k+1)=wo de j k++ [de.getD k dfD]:=by
 unfold wo
 rw[←take_push (d:=dfD) hk]
 rcases Nat.lt_or_ge j k with hj|hj
 ·rw[List.eraseIdx_append_of_lt_length (by rw[List.length_take];omega)]
 ·rw[List.eraseIdx_append_of_length_le (by rw[List.length_take];omega),List.length_take,Nat.min_eq_left (by omega),List.eraseIdx_of_length_le (l:=[de.getD k dfD]) (by simp;omega),List.eraseIdx_of_length_le (l:=de.take k) (by rw[List.length_take];omega)]
theorem wo_len(de:List Dem)(j k:Nat):(wo de j k).length≤k:=by
 unfold wo
 have:=List.length_eraseIdx_le (de.take k) j
 rw[List.length_take]at this
 omega
theorem wo_end{de:List Dem}{j:Nat}:wo de j de.length=de.eraseIdx j:=by unfold wo;rw[List.take_length]
def tr126(q_mo:Bool)(mo:List Int)(q_ga:Bool)(ga:List Int)(q_de:Bool)(de:List Dem)(i:Int):T (List Ar):=
  T.need (Enc.Is eI mo.length (Enc.F eI mo)) (T.need (mo.length≤1000000) (T.need (Enc.Is eI ga.length (Enc.F eI ga)) (T.need (ga.length≤1000000) (T.need (Enc.Is eI (List.length (Enc.list eI mo.length (Enc.F eI mo))) (Enc.F eI (Enc.list eI mo.length (Enc.F eI mo)))) (T.need (Enc.Is eI (List.length (Enc.list eI ga.length (Enc.F eI ga))) (Enc.F eI (Enc.list eI ga.length (Enc.F eI ga)))) (T.loop2 (Int×List Int×List Int×PUnit×PUnit) (Int×List Int×List Int×List Dem×PUnit) (Sum.inl ((0:Int),Enc.list eI (List.length (Enc.list eI mo.length (Enc.F eI mo))) (Enc.F eI (Enc.list eI mo.length (Enc.F eI mo))),Enc.list eI (List.length (Enc.list eI ga.length (Enc.F eI ga))) (Enc.F eI (Enc.list eI ga.length (Enc.F eI ga))),PUnit.unit,PUnit.unit)) (fun(x:Int×List Int×List Int×PUnit×PUnit)=>T.br (decide (x.1<(de.length:Int))) (T.need ((0:Int)≤x.1) (T.need (x.1<(de.length:Int)) (T.br (x.1 != i) (T.need (Enc.Is eI (List.length (Dem.co (de.getD x.1.toNat dfD))) (Enc.F eI (Dem.co (de.getD x.1.toNat dfD)))) (T.need (List.length (Dem.co (de.getD x.1.toNat dfD))≤1000000) (T.need ((1:Nat)≤1000000) (T.need (Enc.Is eI (List.length (x.2.1)) (Enc.F eI (x.2.1))) (T.need (Enc.Is eI (List.length (Prod.fst (x.2.2))) (Enc.F eI (Prod.fst (x.2.2)))) (T.need (Enc.Is eDm (1:Nat) (joinF (0:Nat) (fun(x x_1:Nat)=>D.nilp) fun(i_1 j:Nat)=>List.getD [D.str (Dem.nm (de.getD x.1.toNat dfD)),D.sl false (List.length (Enc.list eI (List.length (Dem.co (de.getD x.1.toNat dfD))) (Enc.F eI (Dem.co (de.getD x.1.toNat dfD))))) (1:Nat) (Enc.F eI (Enc.list eI (List.length (Dem.co (de.getD x.1.toNat dfD))) (Enc.F eI (Dem.co (de.getD x.1.toNat dfD))))),D.int IntKind.i64 (Dem.am (de.getD x.1.toNat dfD))] (i_1*3+j) D.nilp)) (T.need ((1:Nat)≤1) (T.ret (Sum.inl (Sum.inr (IntKind.i64.wrap (x.1+1),Enc.list eI (List.length (x.2.1)) (Enc.F eI (x.2.1)),Enc.list eI (List.length (Prod.fst (x.2.2))) (Enc.F eI (Prod.fst (x.2.2))),Enc.list eDm (1:Nat) (joinF (0:Nat) (fun(x x_1:Nat)=>D.nilp) fun(i_1 j:Nat)=>List.getD [D.str (Dem.nm (de.getD x.1.toNat dfD)),D.sl false (List.length (Enc.list eI (List.length (Dem.co (de.getD x.1.toNat dfD))) (Enc.F eI (Dem.co (de.getD x.1.toNat dfD))))) (1:Nat) (Enc.F eI (Enc.list eI (List.length (Dem.co (de.getD x.1.toNat dfD))) (Enc.F eI (Dem.co (de.getD x.1.toNat dfD))))),D.int IntKind.i64 (Dem.am (de.getD x.1.toNat dfD))] (i_1*3+j) D.nilp),PUnit.unit))))))))))) (T.need (Enc.Is eI (List.length (x.2.1)) (Enc.F eI (x.2.1))) (T.need (Enc.Is eI (List.length (Prod.fst (x.2.2))) (Enc.F eI (Prod.fst (x.2.2)))) (T.ret (Sum.inl (Sum.inl (IntKind.i64.wrap (x.1+1),Enc.list eI (List.length (x.2.1)) (Enc.F eI (x.2.1)),Enc.list eI (List.length (Prod.fst (x.2.2))) (Enc.F eI (Prod.fst (x.2.2))),PUnit.unit,PUnit.unit))))))))) (T.ret (Sum.inr [Ar.agg [D.sl false (List.length (x.2.1)) (1:Nat) (Enc.F eI (x.2.1)),D.sl false (List.length (Prod.fst (x.2.2))) (1:Nat) (Enc.F eI (Prod.fst (x.2.2))),D.sl false (0:Nat) (0:Nat) fun(x x_1:Nat)=>D.nilp]]))) fun(y:Int×List Int×List Int×List Dem×PUnit)=>T.br (decide (y.1<(de.length:Int))) (T.need ((0:Int)≤y.1) (T.need (y.1<(de.length:Int)) (T.br (y.1 != i) (T.need (Enc.Is eI (List.length (Dem.co (de.getD y.1.toNat dfD))) (Enc.F eI (Dem.co (de.getD y.1.toNat dfD)))) (T.need (List.length (Dem.co (de.getD y.1.toNat dfD))≤1000000) (T.need (List.length (Prod.fst (Prod.snd (y.2.2)))+1≤1000000) (T.need (List.length (Prod.fst (Prod.snd (y.2.2)))≤List.length (Prod.fst (Prod.snd (y.2.2)))) (T.need (Enc.Is eI (List.length (y.2.1)) (Enc.F eI (y.2.1))) (T.need (Enc.Is eI (List.length (Prod.fst (y.2.2))) (Enc.F eI (Prod.fst (y.2.2)))) (T.need (Enc.Is eDm (List.length (Prod.fst (Prod.snd (y.2.2)))+1) (joinF (List.length (Prod.fst (Prod.snd (y.2.2)))) (Enc.F eDm (Prod.fst (Prod.snd (y.2.2)))) fun(i_1 j:Nat)=>List.getD [D.str (Dem.nm (de.getD y.1.toNat dfD)),D.sl false (List.length (Enc.list eI (List.length (Dem.co (de.getD y.1.toNat dfD))) (Enc.F eI (Dem.co (de.getD y.1.toNat dfD))))) (1:Nat) (Enc.F eI (Enc.list eI (List.length (Dem.co (de.getD y.1.toNat dfD))) (Enc.F eI (Dem.co (de.getD y.1.toNat dfD))))),D.int IntKind.i64 (Dem.am (de.getD y.1.toNat dfD))] (i_1*3+j) D.nilp)) (T.need (List.length (Prod.fst (Prod.snd (y.2.2)))+1≤List.length (Prod.fst (Prod.snd (y.2.2)))+1) (T.ret (Sum.inl (Sum.inr (IntKind.i64.wrap (y.1+1),Enc.list eI (List.length (y.2.1)) (Enc.F eI (y.2.1)),Enc.list eI (List.length (Prod.fst (y.2.2))) (Enc.F eI (Prod.fst (y.2.2))),Enc.list eDm (List.length (Prod.fst (Prod.snd (y.2.2)))+1) (joinF (List.length (Prod.fst (Prod.snd (y.2.2)))) (Enc.F eDm (Prod.fst (Prod.snd (y.2.2)))) fun(i_1 j:Nat)=>List.getD [D.str (Dem.nm (de.getD y.1.toNat dfD)),D.sl false (List.length (Enc.list eI (List.length (Dem.co (de.getD y.1.toNat dfD))) (Enc.F eI (Dem.co (de.getD y.1.toNat dfD))))) (1:Nat) (Enc.F eI (Enc.list eI (List.length (Dem.co (de.getD y.1.toNat dfD))) (Enc.F eI (Dem.co (de.getD y.1.toNat dfD))))),D.int IntKind.i64 (Dem.am (de.getD y.1.toNat dfD))] (i_1*3+j) D.nilp),PUnit.unit)))))))))))) (T.need (Enc.Is eI (List.length (y.2.1)) (Enc.F eI (y.2.1))) (T.need (Enc.Is eI (List.length (Prod.fst (y.2.2))) (Enc.F eI (Prod.fst (y.2.2)))) (T.need (Enc.Is eDm (List.length (Prod.fst (Prod.snd (y.2.2)))) (Enc.F eDm (Prod.fst (Prod.snd (y.2.2))))) (T.need (List.length (Prod.fst (Prod.snd (y.2.2)))≤List.length (Prod.fst (Prod.snd (y.2.2)))) (T.ret (Sum.inl (Sum.inr (IntKind.i64.wrap (y.1+1),Enc.list eI (List.length (y.2.1)) (Enc.F eI (y.2.1)),Enc.list eI (List.length (Prod.fst (y.2.2))) (Enc.F eI (Prod.fst (y.2.2))),Enc.list eDm (List.length (Prod.fst (Prod.snd (y.2.2)))) (Enc.F eDm (Prod.fst (Prod.snd (y.2.2)))),PUnit.unit))))))))))) (T.need (List.length (Prod.fst (Prod.snd (y.2.2)))≤List.length (Prod.fst (Prod.snd (y.2.2)))) (T.ret (Sum.inr [Ar.agg [D.sl false (List.length (y.2.1)) (1:Nat) (Enc.F eI (y.2.1)),D.sl false (List.length (Prod.fst (y.2.2))) (1:Nat) (Enc.F eI (Prod.fst (y.2.2))),D.sl true (List.length (Prod.fst (Prod.snd (y.2.2)))) (3:Nat) (Enc.F eDm (Prod.fst (Prod.snd (y.2.2))))]])))))))))
theorem t126(q_mo:Bool)(mo:List Int)(q_ga:Bool)(ga:List Int)(q_de:Bool)(de:List Dem)(i:Int):runFnX Try.prog G0 (lookS [v150q]) (fun f=>[(3,[.slot 21 (.int .i64),.blk 5 [.imE eI,.imE eI,.nsl]],some [.slot 21 (.int .i64),.blk 5 [.imE eI,.imE eI,.rowE 124 eDm]])]) [] 1 60 4 126 Try.f126 [.agg [.sl q_mo mo.length 1 (eI.F mo),.sl q_ga ga.length 1 (eI.F ga),.sl q_de de.length 3 (eDm.F de)],.c (dI i)] =
  tr126 q_mo mo q_ga ga q_de de i:=by kernel_rfl
theorem w126(qm:Bool)(mo:List Int)(qg:Bool)(ga:List Int)(qd:Bool)(de:List Dem)(j:Nat)(h1:mo.length≤1000000)(h2:ga.length≤1000000)(h3:de.length≤1000000)(hn:∀d,d∈de→d.co.length≤1000000) :
  (tr126 qm mo qg ga qd de (j:Int)).wp (fun rs=>rsEqv rs [.agg [.sl false mo.length 1 (eI.F mo),.sl false ga.length 1 (eI.F ga),.sl false (de.eraseIdx j).length 3 (eDm.F (de.eraseIdx j))]]):=by
 unfold tr126
 simp only[Enc.list_F]
 refine⟨Enc.is_F _ _ _,h1,Enc.is_F _ _ _,h2,Enc.is_F _ _ _,Enc.is_F _ _ _,?_⟩
 refine⟨fun z=>match z with
  |.inl x=>∃k:Nat,k≤de.length∧x=((k:Int),mo,ga,PUnit.unit,PUnit.unit)∧wo de j k=[]
  |.inr y=>∃k:Nat,k≤de.length∧y.1=k∧y.2.1=mo∧y.2.2.1=ga∧y.2.2.2.1=wo de j k,
  fun z=>match z with|.inl x=>de.length-x.1.toNat|.inr y=>de.length-y.1.toNat,⟨0,Nat.zero_le _,rfl,?_⟩,?_,?_⟩
 ·unfold wo;simp
 ·rintro x ⟨k,hk,rfl,h0⟩
  have hw:IntKind.i64.wrap ((k:Int)+1)=((k+1:Nat):Int):=wrap_succ (by omega)
  refine⟨fun hb=>?_,fun hb=>?_⟩
  ·have hlt:=lt_of_dec hb
   have mu:de.length-(IntKind.i64.wrap ((k:Int)+1)).toNat<de.length-(k:Int).toNat:=by rw[hw];omega
   refine⟨by dsimp only;omega,by dsimp only;omega,fun hx=>?_,fun hx=>?_⟩
   ·have hne:j≠k:=by rintro rfl;simp at hx
    obtain⟨o1,o2⟩:=push_one eDm (F:=fun _ _=>.nilp) (G:=dmH (de.getD k dfD)) dmH_push.1 dmH_push.2
    have o3:[de.getD k dfD]=wo de j (k+1):=by rw[wo_take hlt hne,h0];rfl
    exact⟨Enc.is_F _ _ _,hn _ (getD_mem hlt),by decide,Enc.is_F _ _ _,Enc.is_F _ _ _,o1,Nat.le_refl _,⟨k+1,hlt,hw,rfl,rfl,o2.trans o3⟩,mu⟩
   ·have he:j=k:=by
     have hx:((k:Int) != (j:Int))=false:=hx
     have:=bne_eq_false_iff_eq.1 hx
     omega
    exact⟨Enc.is_F _ _ _,Enc.is_F _ _ _,⟨k+1,hlt,by rw[hw],(wo_skip hlt he).trans h0⟩,mu⟩
  ·have hge:=ge_of_dec hb
   obtain rfl:k=de.length:=by omega
   rw[wo_end]at h0
   rw[h0]
   exact⟨⟨D.eqv_refl _,D.eqv_refl _,nil_eqv eDm,trivial⟩,trivial⟩
 ·rintro ⟨y,m,g,acc,u⟩ ⟨k,g2,g3,g4,g5,g6⟩
  simp only at g3 g4 g5 g6
  subst g3 g4 g5
  have hacc:acc.length≤k:=by rw[g6];exact wo_len _ _ _
  have hw:IntKind.i64.wrap ((k:Int)+1)=((k+1:Nat):Int):=wrap_succ (by omega)
  have mu:k<de.length→de.length-(IntKind.i64.wrap ((k:Int)+1)).toNat<de.length-(k:Int).toNat:=by intro _;rw[hw];omega
  refine⟨fun hb=>?_,fun hb=>?_⟩
  ·have hlt:=lt_of_dec hb
   refine⟨by dsimp only;omega,by dsimp only;omega,fun hx=>?_,fun hx=>?_⟩
   ·have hne:j≠k:=by rintro rfl;simp at hx
    obtain⟨o1,o2⟩:=eDm.push (l:=acc) (a:=de.getD k dfD) (G:=dmH (de.getD k dfD)) dmH_push.1 dmH_push.2
    have o3:acc++ [de.getD k dfD]=wo de j (k+1):=by rw[g6,wo_take hlt hne]
    exact⟨Enc.is_F _ _ _,hn _ (getD_mem hlt),by dsimp only;omega,Nat.le_refl _,Enc.is_F _ _ _,Enc.is_F _ _ _,o1,Nat.le_refl _,⟨k+1,hlt,hw,rfl,rfl,o2.trans o3⟩,mu hlt⟩
   ·have he:j=k:=by
     have hx:((k:Int) != (j:Int))=false:=hx
     have:=bne_eq_false_iff_eq.1 hx
     omega
    exact⟨Enc.is_F _ _ _,Enc.is_F _ _ _,Enc.is_F _ _ _,Nat.le_refl _,⟨k+1,hlt,hw,rfl,rfl,g6.trans (wo_skip hlt he).symm⟩,mu hlt⟩
  ·have hge:=ge_of_dec hb
   obtain rfl:k=de.length:=by omega
   rw[wo_end]at g6
   rw[g6]
   exact⟨Nat.le_refl _,⟨D.eqv_refl _,D.eqv_refl _,⟨(fun e=>by cases e),rfl,fun _=>rfl,fun i j hi hj=>D.eqv_refl _⟩,trivial⟩,trivial⟩
def dom126:DomF
 |[.agg [.sl _ n_mo st_mo F_mo,.sl _ n_ga st_ga F_ga,.sl _ n_de st_de F_de],.c (.int .i64 i)]=>(match Nat.beq st_mo 1&&Nat.beq st_ga 1&&Nat.beq st_de 3 with
  |true=>some ([eI.Is n_mo F_mo,eI.Is n_ga F_ga,eDm.Is n_de F_de,0≤i,(eI.list n_mo F_mo).length≤1000000,(eI.list n_ga F_ga).length≤1000000,(eDm.list n_de F_de).length≤1000000,∀d,d∈(eDm.list n_de F_de)→d.co.length≤1000000],[.agg [.sl false (eI.list n_mo F_mo).length 1 (eI.F (eI.list n_mo F_mo)),.sl false (eI.list n_ga F_ga).length 1 (eI.F (eI.list n_ga F_ga)),.sl false (M.erase (eDm.list n_de F_de) i).length 3 (eDm.F (M.erase (eDm.list n_de F_de) i))]])
  |_=>none)
 |_=>none
def v126:Nat×Sm:=(126,fokSm dom126)
theorem C126:FOK Try.prog G0 gw 126 dom126:=by
 intro ags p r hd hp κ w xs hw hl hG hx
 unfold dom126 at hd
 split at hd
 ·rename_i q_mo n_mo st_mo F_mo q_ga n_ga st_ga F_ga q_de n_de st_de F_de i
  split at hd
  ·rename_i hst
   simp only[Bool.and_eq_true]at hst
   obtain⟨⟨g1,g2⟩,g3⟩:=hst
   have g1:=Nat.eq_of_beq_eq_true g1
   have g2:=Nat.eq_of_beq_eq_true g2
   have g3:=Nat.eq_of_beq_eq_true g3
   subst g1 g2 g3
   simp only[Option.some.injEq,Prod.mk.injEq]at hd
   obtain⟨rfl,rfl⟩:=hd
   obtain⟨hI_mo,hI_ga,hI_de,hp⟩:=hp
   have heq:agsEqv [.agg [.sl q_mo n_mo 1 F_mo,.sl q_ga n_ga 1 F_ga,.sl q_de n_de 3 F_de],.c (.int .i64 i)] [.agg [.sl q_mo (eI.list n_mo F_mo).length 1 (eI.F (eI.list n_mo F_mo)),.sl q_ga (eI.list n_ga F_ga).length 1 (eI.F (eI.list n_ga F_ga)),.sl q_de (eDm.list n_de F_de).length 3 (eDm.F (eDm.list n_de F_de))],.c (.int .i64 i)]:=⟨⟨eI.to id hI_mo,eI.to id hI_ga,eDm.to id hI_de,trivial⟩,Ag.eqv_refl _,trivial⟩
   have len_mo:(eI.list n_mo F_mo).length=n_mo:=eI.list_len
   have len_ga:(eI.list n_ga F_ga).length=n_ga:=eI.list_len
   have len_de:(eDm.list n_de F_de).length=n_de:=eDm.list_len
   generalize eI.list n_mo F_mo=mo at *
   generalize eI.list n_ga F_ga=ga at *
   generalize eDm.list n_de F_de=de at *
   subst len_mo len_ga len_de
   have h0:=hp.1
   obtain⟨j,rfl⟩:=Int.eq_ofNat_of_zero_le h0
   exact fokX_fin mixed gw_stable (sl:=[v150q]) ⟨S150q,trivial⟩ Try.func126 hw hl hG hx heq rfl (t126 _ _ _ _ _ _ _) (w126 _ _ _ _ _ _ j hp.2.1 hp.2.2.1 hp.2.2.2.1 hp.2.2.2.2.1)
  ·cases hd
 ·cases hd
theorem S126:SumOK Try.prog G0 gw 126 (fokSm dom126):=fok_sum Try.func126 rfl C126
end Go.Pl
end
section
set_option maxRecDepth 100000
namespace Go.Pl
open Go.V Go.Proofs
theorem _root_.Go.V.Enc.toz{α:Type}(E:Enc α){q:Bool}{n s:Nat}{F:Nat→Nat→D}(h:(Nat.beq s E.st||Nat.beq n 0)=true)(hI:E.Is n F):(D.sl q n s F).eqv (.sl q (E.list n F).length E.st (E.F (E.list n F))):=by
 rcases Bool.or_eq_true _ _ ▸ h with h|h
 ·have h:=Nat.eq_of_beq_eq_true h
  subst h
  exact E.to id hI
 ·have h:=Nat.eq_of_beq_eq_true h
  subst h
  exact⟨id,rfl,fun h=>absurd h (Nat.lt_irrefl 0),fun i j hi _=>absurd hi (Nat.not_lt_zero i)⟩
abbrev cD(l:List Dem):List Dem:=Enc.list eDm (List.length l) (Enc.F eDm l)
abbrev iD(l:List Dem):Prop:=Enc.Is eDm (List.length l) (Enc.F eDm l)
namespace M
end M
theorem firstIdx_none{p:Nat→Bool}:∀(n k:Nat),(∀i,k≤i→i<k+n→p i=false)→M.firstIdx p n k<0:=by
 intro n
 induction n with
 |zero=>intro k _;show(-1:Int)<0;decide
 |succ n ih=>
  intro k h
  simp only[M.firstIdx]
  rw[h k (Nat.le_refl _) (by omega)]
  exact ih (k+1) (fun i h1 h2=>h i (by omega) (by omega))
end Go.Pl
end
section
set_option maxRecDepth 100000
namespace Go.Pl
open Go.V Go.Proofs
theorem er_getD(de:List Dem)(j a:Nat):(de.eraseIdx j).getD a dfD=if a<j then de.getD a dfD else de.getD (a+1) dfD:=by
 simp only[List.getD_eq_getElem?_getD,List.getElem?_eraseIdx]
 split <;>rfl
theorem er_len{de:List Dem}{j:Nat}(h:j<de.length):(de.eraseIdx j).length=de.length-1:=by rw[List.length_eraseIdx,if_pos h]
theorem er_eqv{de:List Dem}{j n:Nat}(hj:j<de.length)(hn:n=de.length-1)(q:Bool){m:Nat}(hm:m=j+1):(D.sl q n 3 (joinF j (Enc.F eDm de) fun(a b:Nat)=>Enc.F eDm de (m+a) b)).eqv (.sl false (de.eraseIdx j).length 3 (eDm.F (de.eraseIdx j))):=by
 refine⟨(fun e=>by cases e),by rw[er_len hj,hn],fun _=>rfl,fun a b ha hb=>?_⟩
 have e:eDm.F (de.eraseIdx j) a b=eDm.enc ((de.eraseIdx j).getD a dfD) b:=rfl
 rw[e,er_getD]
 unfold joinF
 by_cases h:a<j
 ·rw[if_pos h,show Nat.blt a j=true by simp[Nat.blt_eq];exact h]
  exact D.eqv_refl _
 ·rw[if_neg h,show Nat.blt a j=false by simp only[Bool.eq_false_iff,ne_eq,Nat.blt_eq];exact h]
  show(Enc.F eDm de (m+(a-j)) b).eqv _
  rw[show m+(a-j)=a+1 by omega]
  exact D.eqv_refl _
def tr47(q_mo:Bool)(mo:List Int)(q_ga:Bool)(ga:List Int)(q_de:Bool)(de:List Dem)(i:Int):T (List Ar):=
  T.need (Enc.Is eI mo.length (Enc.F eI mo)) (T.need (Enc.Is eI ga.length (Enc.F eI ga)) (T.need (Enc.Is eDm de.length (Enc.F eDm de)) (T.need (List.length (Enc.list eI mo.length (Enc.F eI mo))≤1000000) (T.need (List.length (Enc.list eI ga.length (Enc.F eI ga))≤1000000) (T.need (List.length (Enc.list eDm de.length (Enc.F eDm de))≤1000000) (T.need (∀(d:Dem),d∈Enc.list eDm de.length (Enc.F eDm de)→List.length (Dem.co d)≤1000000) (T.need ((0:Int)≤i) (T.need (i=i) (T.need (i≤((Enc.list eDm de.length (Enc.F eDm de)).length:Int)) (T.need ((0:Int)≤IntKind.i64.wrap (i+1)) (T.need (IntKind.i64.wrap (i+1)≤((Enc.list eDm de.length (Enc.F eDm de)).length:Int)) (T.need (((Enc.list eDm de.length (Enc.F eDm de)).length:Int)≤((Enc.list eDm de.length (Enc.F eDm de)).length:Int)) (T.need (Int.toNat i+Int.toNat (((Enc.list eDm de.length (Enc.F eDm de)).length:Int)-IntKind.i64.wrap (i+1))≤1000000) (T.ret [Ar.agg [D.sl false (List.length (Enc.list eI mo.length (Enc.F eI mo))) (1:Nat) (Enc.F eI (Enc.list eI mo.length (Enc.F eI mo))),D.sl false (List.length (Enc.list eI ga.length (Enc.F eI ga))) (1:Nat) (Enc.F eI (Enc.list eI ga.length (Enc.F eI ga))),D.sl false (Int.toNat i+Int.toNat (((Enc.list eDm de.length (Enc.F eDm de)).length:Int)-IntKind.i64.wrap (i+1))) (3:Nat) (joinF i.toNat (Enc.F eDm (Enc.list eDm de.length (Enc.F eDm de))) fun(i_1 j:Nat)=>Enc.F eDm (Enc.list eDm de.length (Enc.F eDm de)) (Int.toNat (IntKind.i64.wrap (i+1))+i_1) j)]]))))))))))))))
theorem t47(q_mo:Bool)(mo:List Int)(q_ga:Bool)(ga:List Int)(q_de:Bool)(de:List Dem)(i:Int):runFnX Try.prog G0 (lookS [v18]) (fun f=>[]) [] 1 60 4 47 Try.f47 [.agg [.sl q_mo mo.length 1 (eI.F mo),.sl q_ga ga.length 1 (eI.F ga),.sl q_de de.length 3 (eDm.F de)],.c (dI i)] =
  tr47 q_mo mo q_ga ga q_de de i:=by kernel_rfl
theorem w47(qm:Bool)(mo:List Int)(qg:Bool)(ga:List Int)(qd:Bool)(de:List Dem)(j:Nat)(hj:j<de.length)(h1:mo.length≤1000000)(h2:ga.length≤1000000)(h3:de.length≤1000000)(hn:∀d,d∈de→d.co.length≤1000000) :
  (tr47 qm mo qg ga qd de (j:Int)).wp (fun rs=>rsEqv rs [.agg [.sl false mo.length 1 (eI.F mo),.sl false ga.length 1 (eI.F ga),.sl false (de.eraseIdx j).length 3 (eDm.F (de.eraseIdx j))]]):=by
 unfold tr47
 have hw:IntKind.i64.wrap ((j:Int)+1)=((j+1:Nat):Int):=wrap_succ (by omega)
 simp only[Enc.list_F,hw]
 exact⟨Enc.is_F _ _ _,Enc.is_F _ _ _,Enc.is_F _ _ _,h1,h2,h3,hn,by omega,trivial,by omega,by omega,by omega,by omega,by omega,⟨D.eqv_refl _,D.eqv_refl _,er_eqv hj (by omega) _ (by omega),trivial⟩,trivial⟩
def dom47:DomF
 |[.agg [.sl _ n_mo st_mo F_mo,.sl _ n_ga st_ga F_ga,.sl _ n_de st_de F_de],.c (.int .i64 i)]=>(match Nat.beq st_mo 1&&Nat.beq st_ga 1&&Nat.beq st_de 3 with
  |true=>some ([eI.Is n_mo F_mo,eI.Is n_ga F_ga,eDm.Is n_de F_de,0≤i,i<(eDm.list n_de F_de).length,(eI.list n_mo F_mo).length≤1000000,(eI.list n_ga F_ga).length≤1000000,(eDm.list n_de F_de).length≤1000000,∀d,d∈(eDm.list n_de F_de)→d.co.length≤1000000],[.agg [.sl false (eI.list n_mo F_mo).length 1 (eI.F (eI.list n_mo F_mo)),.sl false (eI.list n_ga F_ga).length 1 (eI.F (eI.list n_ga F_ga)),.sl false (M.erase (eDm.list n_de F_de) i).length 3 (eDm.F (M.erase (eDm.list n_de F_de) i))]])
  |_=>none)
 |_=>none
def v47:Nat×Sm:=(47,fokSm dom47)
theorem C47:FOK Try.prog G0 gw 47 dom47:=by
 intro ags p r hd hp κ w xs hw hl hG hx
 unfold dom47 at hd
 split at hd
 ·rename_i q_mo n_mo st_mo F_mo q_ga n_ga st_ga F_ga q_de n_de st_de F_de i
  split at hd
  ·rename_i hst
   simp only[Bool.and_eq_true]at hst
   obtain⟨⟨g1,g2⟩,g3⟩:=hst
   have g1:=Nat.eq_of_beq_eq_true g1
   have g2:=Nat.eq_of_beq_eq_true g2
   have g3:=Nat.eq_of_beq_eq_true g3
   subst g1 g2 g3
   simp only[Option.some.injEq,Prod.mk.injEq]at hd
   obtain⟨rfl,rfl⟩:=hd
   obtain⟨hI_mo,hI_ga,hI_de,hp⟩:=hp
   have heq:agsEqv [.agg [.sl q_mo n_mo 1 F_mo,.sl q_ga n_ga 1 F_ga,.sl q_de n_de 3 F_de],.c (.int .i64 i)] [.agg [.sl q_mo (eI.list n_mo F_mo).length 1 (eI.F (eI.list n_mo F_mo)),.sl q_ga (eI.list n_ga F_ga).length 1 (eI.F (eI.list n_ga F_ga)),.sl q_de (eDm.list n_de F_de).length 3 (eDm.F (eDm.list n_de F_de))],.c (.int .i64 i)]:=⟨⟨eI.to id hI_mo,eI.to id hI_ga,eDm.to id hI_de,trivial⟩,Ag.eqv_refl _,trivial⟩
   have len_mo:(eI.list n_mo F_mo).length=n_mo:=eI.list_len
   have len_ga:(eI.list n_ga F_ga).length=n_ga:=eI.list_len
   have len_de:(eDm.list n_de F_de).length=n_de:=eDm.list_len
   generalize eI.list n_mo F_mo=mo at *
   generalize eI.list n_ga F_ga=ga at *
   generalize eDm.list n_de F_de=de at *
   subst len_mo len_ga len_de
   have h0:=hp.1
   obtain⟨j,rfl⟩:=Int.eq_ofNat_of_zero_le h0
   exact fokX_fin mixed gw_stable (sl:=[v18]) ⟨S18,trivial⟩ Try.func47 hw hl hG hx heq rfl (t47 _ _ _ _ _ _ _) (w47 _ _ _ _ _ _ j (by have:=hp.2.1;omega) hp.2.2.1 hp.2.2.2.1 hp.2.2.2.2.1 hp.2.2.2.2.2.1)
  ·cases hd
 ·cases hd
theorem S47:SumOK Try.prog G0 gw 47 (fokSm dom47):=fok_sum Try.func47 rfl C47
namespace M
end M
end Go.Pl
end
section
set_option maxRecDepth 100000
namespace Go.Pl
open Go.V Go.Proofs
namespace M
def ptOk(den:Int)(pa:List Int):Bool:=cond (within den 1 100000000000) (!pa.any (badF 171)) false
def ptErr(mo:List Int)(den:Int)(pa:List Int):Int:=first [unl ((pa.length:Int)==(mo.length:Int)) 10,unl (ptOk den pa) 2]
def room(d:Dem)(den:Int)(pa:List Int):Int:=IntKind.i64.wrap (IntKind.i64.wrap (d.am*den)-dot d.co pa)
end M
def tr19(q_mo:Bool)(mo:List Int)(q_ga:Bool)(ga:List Int)(q_de:Bool)(de:List Dem):T (List Ar):=
  T.need (iI mo) (T.need (iI ga) (T.need (iD de) (T.need (List.length (cI mo)≤1000000) (T.need (List.length (cD de)≤1000000) (T.need (∀(d:Dem),d∈cD de→ByteArray.size (Dem.nm d)≤1000000∧List.length (Dem.co d)≤1000000) (T.ret [Ar.c (D.int IntKind.i64 (Prod.snd (M.checkProg (cI mo) (cI ga) (cD de))))]))))))
theorem t19(q_mo:Bool)(mo:List Int)(q_ga:Bool)(ga:List Int)(q_de:Bool)(de:List Dem):runFnX Try.prog G0 (lookS [v44]) (fun _=>[]) [] 1 60 4 19 Try.f19 [.agg [.sl q_mo mo.length 1 (eI.F mo),.sl q_ga ga.length 1 (eI.F ga),.sl q_de de.length 3 (eDm.F de)]] =
  tr19 q_mo mo q_ga ga q_de de:=by kernel_rfl
theorem w19(qm:Bool)(mo:List Int)(qg:Bool)(ga:List Int)(qd:Bool)(de:List Dem)(h1:mo.length≤1000000)(h3:de.length≤1000000)(hn:∀d,d∈de→d.nm.size≤1000000∧d.co.length≤1000000) :
  (tr19 qm mo qg ga qd de).wp (fun rs=>rsEqv rs [rI (M.checkProg mo ga de).2]):=by
 unfold tr19
 simp only[cI,cD,iI,iD,Enc.list_F]
 exact⟨Enc.is_F _ _ _,Enc.is_F _ _ _,Enc.is_F _ _ _,h1,h3,hn,rsEqv_refl _⟩
def dom19:DomF
 |[.agg [.sl _ n_mo st_mo F_mo,.sl _ n_ga st_ga F_ga,.sl _ n_de st_de F_de]]=>(match Nat.beq st_mo 1&&Nat.beq st_ga 1&&Nat.beq st_de 3 with
  |true=>some ([eI.Is n_mo F_mo,eI.Is n_ga F_ga,eDm.Is n_de F_de,(eI.list n_mo F_mo).length≤1000000,(eDm.list n_de F_de).length≤1000000,∀d,d∈(eDm.list n_de F_de)→d.nm.size≤1000000∧d.co.length≤1000000],[rI (M.checkProg (eI.list n_mo F_mo) (eI.list n_ga F_ga) (eDm.list n_de F_de)).2])
  |_=>none)
 |_=>none
def v19:Nat×Sm:=(19,fokSm dom19)
theorem C19:FOK Try.prog G0 gw 19 dom19:=by
 intro ags p r hd hp κ w xs hw hl hG hx
 unfold dom19 at hd
 split at hd
 ·rename_i q_mo n_mo st_mo F_mo q_ga n_ga st_ga F_ga q_de n_de st_de F_de
  split at hd
  ·rename_i hst
   simp only[Bool.and_eq_true]at hst
   obtain⟨⟨g1,g2⟩,g3⟩:=hst
   have g1:=Nat.eq_of_beq_eq_true g1
   have g2:=Nat.eq_of_beq_eq_true g2
   have g3:=Nat.eq_of_beq_eq_true g3
   subst g1 g2 g3
   simp only[Option.some.injEq,Prod.mk.injEq]at hd
   obtain⟨rfl,rfl⟩:=hd
   obtain⟨hI_mo,hI_ga,hI_de,hp⟩:=hp
   have heq:agsEqv [.agg [.sl q_mo n_mo 1 F_mo,.sl q_ga n_ga 1 F_ga,.sl q_de n_de 3 F_de]] [.agg [.sl q_mo (eI.list n_mo F_mo).length 1 (eI.F (eI.list n_mo F_mo)),.sl q_ga (eI.list n_ga F_ga).length 1 (eI.F (eI.list n_ga F_ga)),.sl q_de (eDm.list n_de F_de).length 3 (eDm.F (eDm.list n_de F_de))]]:=⟨⟨eI.to id hI_mo,eI.to id hI_ga,eDm.to id hI_de,trivial⟩,trivial⟩
   have len_mo:(eI.list n_mo F_mo).length=n_mo:=eI.list_len
   have len_ga:(eI.list n_ga F_ga).length=n_ga:=eI.list_len
   have len_de:(eDm.list n_de F_de).length=n_de:=eDm.list_len
   generalize eI.list n_mo F_mo=mo at *
   generalize eI.list n_ga F_ga=ga at *
   generalize eDm.list n_de F_de=de at *
   subst len_mo len_ga len_de
   exact fokX_fin mixed gw_stable (sl:=[v44]) ⟨S44,trivial⟩ Try.func19 hw hl hG hx heq rfl (t19 _ _ _ _ _ _) (w19 _ _ _ _ _ _ hp.1 hp.2.1 hp.2.2.1)
  ·cases hd
 ·cases hd
theorem S19:SumOK Try.prog G0 gw 19 (fokSm dom19):=fok_sum Try.func19 rfl C19
def tr23(q_mo:Bool)(mo:List Int)(q_ga:Bool)(ga:List Int)(q_de:Bool)(de:List Dem)(denx:Int)(q_pax:Bool)(pax:List Int):T (List Ar):=
  T.br ((pax.length:Int) != (mo.length:Int)) (T.ret [Ar.c (D.int IntKind.i64 (10:Int))]) (T.br (!M.within denx (1:Int) (100000000000:Int)) (T.ret [Ar.c (D.int IntKind.i64 (2:Int))]) (T.loop (Int×PUnit) ((0:Int),PUnit.unit) fun(x:Int×PUnit)=>T.br (decide (x.1<(pax.length:Int))) (T.need ((0:Int)≤x.1) (T.need (x.1<(pax.length:Int)) (T.br (!M.within (pax.getD x.1.toNat (0:Int)) (0:Int) (1000000000000000:Int)) (T.ret (Sum.inr [Ar.c (D.int IntKind.i64 (2:Int))])) (T.ret (Sum.inl (IntKind.i64.wrap (x.1+1),PUnit.unit)))))) (T.ret (Sum.inr [Ar.c (D.int IntKind.i64 (0:Int))]))))
theorem t23(q_mo:Bool)(mo:List Int)(q_ga:Bool)(ga:List Int)(q_de:Bool)(de:List Dem)(denx:Int)(q_pax:Bool)(pax:List Int):runFnX Try.prog G0 (lookS [v45]) (fun _=>[(6,[.slot 5 (.int .i64)],none)]) [] 1 60 4 23 Try.f23 [.agg [.sl q_mo mo.length 1 (eI.F mo),.sl q_ga ga.length 1 (eI.F ga),.sl q_de de.length 3 (eDm.F de)],.agg [dI denx,.sl q_pax pax.length 1 (eI.F pax)]] =
  tr23 q_mo mo q_ga ga q_de de denx q_pax pax:=by kernel_rfl
theorem w23(qm:Bool)(mo:List Int)(qg:Bool)(ga:List Int)(qd:Bool)(de:List Dem)(den:Int)(qp:Bool)(pa:List Int)(h4:pa.length≤1000000) :
  (tr23 qm mo qg ga qd de den qp pa).wp (fun rs=>rsEqv rs [rI (M.ptErr mo den pa)]):=by
 unfold tr23 M.ptErr M.ptOk
 refine wp_br (fun hb=>?_) (fun hb=>?_)
 ·have hb:((pa.length:Int)==(mo.length:Int))=false:=by simpa using hb
  rw[hb];exact rsEqv_refl _
 have hb:((pa.length:Int)==(mo.length:Int))=true:=by simpa using hb
 rw[hb]
 refine wp_br (fun hb=>?_) (fun hb=>?_)
 ·have hb:M.within den 1 100000000000=false:=by simpa using hb
  rw[hb];exact rsEqv_refl _
 have hb:M.within den 1 100000000000=true:=by simpa using hb
 rw[hb]
 refine range_wp (n:=pa.length) (fun k _=>pa.any (badF 171)=(pa.drop k).any (badF 171)) rfl ?_
 rintro k u hk hI
 refine wp_br (fun hb=>?_) (fun hb=>?_)
 ·have hlt:=lt_of_dec hb
  have hs:=any_step (is:=badF 171) hlt
  refine⟨by show(0:Int)≤k;omega,by show(k:Int)<pa.length;omega,wp_br (fun hx=>?_) (fun hx=>?_)⟩
  ·have hx:badF 171 (pa.getD k 0)=true:=hx
   rw[hI,hs,hx];exact rsEqv_refl _
  ·have hx:badF 171 (pa.getD k 0)=false:=hx
   rw[hx,Bool.false_or]at hs
   exact⟨hlt,wrap_succ (by omega),hI.trans hs⟩
 ·have hge:=ge_of_dec hb
  obtain rfl:k=pa.length:=by omega
  rw[hI,List.drop_length];exact rsEqv_refl _
def dom23:DomF
 |[.agg [.sl _ n_mo st_mo F_mo,.sl _ n_ga st_ga F_ga,.sl _ n_de st_de F_de],.agg [.int .i64 denx,.sl _ n_pax st_pax F_pax]]=>(match Nat.beq st_mo 1&&Nat.beq st_ga 1&&Nat.beq st_de 3&&Nat.beq st_pax 1 with
  |true=>some ([eI.Is n_mo F_mo,eI.Is n_ga F_ga,eDm.Is n_de F_de,eI.Is n_pax F_pax,(eI.list n_pax F_pax).length≤1000000],[rI (M.ptErr (eI.list n_mo F_mo) denx (eI.list n_pax F_pax))])
  |_=>none)
 |_=>none
def v23:Nat×Sm:=(23,fokSm dom23)
theorem C23:FOK Try.prog G0 gw 23 dom23:=by
 intro ags p r hd hp κ w xs hw hl hG hx
 unfold dom23 at hd
 split at hd
 ·rename_i q_mo n_mo st_mo F_mo q_ga n_ga st_ga F_ga q_de n_de st_de F_de denx q_pax n_pax st_pax F_pax
  split at hd
  ·rename_i hst
   simp only[Bool.and_eq_true]at hst
   obtain⟨⟨⟨g1,g2⟩,g3⟩,g4⟩:=hst
   have g1:=Nat.eq_of_beq_eq_true g1
   have g2:=Nat.eq_of_beq_eq_true g2
   have g3:=Nat.eq_of_beq_eq_true g3
   have g4:=Nat.eq_of_beq_eq_true g4
   subst g1 g2 g3 g4
   simp only[Option.some.injEq,Prod.mk.injEq]at hd
   obtain⟨rfl,rfl⟩:=hd
   obtain⟨hI_mo,hI_ga,hI_de,hI_pax,hp⟩:=hp
   have heq:agsEqv [.agg [.sl q_mo n_mo 1 F_mo,.sl q_ga n_ga 1 F_ga,.sl q_de n_de 3 F_de],.agg [.int .i64 denx,.sl q_pax n_pax 1 F_pax]] [.agg [.sl q_mo (eI.list n_mo F_mo).length 1 (eI.F (eI.list n_mo F_mo)),.sl q_ga (eI.list n_ga F_ga).length 1 (eI.F (eI.list n_ga F_ga)),.sl q_de (eDm.list n_de F_de).length 3 (eDm.F (eDm.list n_de F_de))],.agg [.int .i64 denx,.sl q_pax (eI.list n_pax F_pax).length 1 (eI.F (eI.list n_pax F_pax))]]:=⟨⟨eI.to id hI_mo,eI.to id hI_ga,eDm.to id hI_de,trivial⟩,⟨rfl,eI.to id hI_pax,trivial⟩,trivial⟩
   have len_mo:(eI.list n_mo F_mo).length=n_mo:=eI.list_len
   have len_ga:(eI.list n_ga F_ga).length=n_ga:=eI.list_len
   have len_de:(eDm.list n_de F_de).length=n_de:=eDm.list_len
   have len_pax:(eI.list n_pax F_pax).length=n_pax:=eI.list_len
   generalize eI.list n_mo F_mo=mo at *
   generalize eI.list n_ga F_ga=ga at *
   generalize eDm.list n_de F_de=de at *
   generalize eI.list n_pax F_pax=pax at *
   subst len_mo len_ga len_de len_pax
   exact fokX_fin mixed gw_stable (sl:=[v45]) ⟨S45,trivial⟩ Try.func23 hw hl hG hx heq rfl (t23 _ _ _ _ _ _ _ _ _) (w23 _ _ _ _ _ _ _ _ _ hp.1)
  ·cases hd
 ·cases hd
theorem S23:SumOK Try.prog G0 gw 23 (fokSm dom23):=fok_sum Try.func23 rfl C23
def tr132(nm:ByteArray)(q_co:Bool)(co:List Int)(am:Int)(denx:Int)(q_pax:Bool)(pax:List Int):T (List Ar):=
  T.need (iI co) (T.need (iI pax) (T.need (List.length (cI co)≤1000000) (T.need (List.length (cI co)≤List.length (cI pax)) (T.ret [Ar.c (D.int IntKind.i64 (IntKind.i64.wrap (IntKind.i64.wrap (am*denx)-M.dot (cI co) (cI pax))))]))))
theorem t132(nm:ByteArray)(q_co:Bool)(co:List Int)(am:Int)(denx:Int)(q_pax:Bool)(pax:List Int):runFnX Try.prog G0 (lookS [v90]) (fun _=>[]) [] 1 60 4 132 Try.f132 [.agg [.str nm,.sl q_co co.length 1 (eI.F co),.int .i64 am],.agg [dI denx,.sl q_pax pax.length 1 (eI.F pax)]] =
  tr132 nm q_co co am denx q_pax pax:=by kernel_rfl
theorem w132(nm:ByteArray)(qc:Bool)(co:List Int)(am den:Int)(qp:Bool)(pa:List Int)(h:co.length≤1000000)(h2:co.length≤pa.length):(tr132 nm qc co am den qp pa).wp (fun rs=>rsEqv rs [rI (M.room ⟨nm,co,am⟩ den pa)]):=by
 unfold tr132
 simp only[cI,iI,Enc.list_F]
 exact⟨Enc.is_F _ _ _,Enc.is_F _ _ _,h,h2,rsEqv_refl _⟩
def dom132:DomF
 |[.agg [.str nm,.sl qc n st F,.int .i64 am],.agg [.int .i64 den,.sl qp n' st' F']]=>(match Nat.beq st 1&&Nat.beq st' 1 with
  |true=>some ([eI.Is n F,eI.Is n' F',(eI.list n F).length≤1000000,(eI.list n F).length≤(eI.list n' F').length],[rI (M.room ⟨nm,eI.list n F,am⟩ den (eI.list n' F'))])
  |_=>none)
 |_=>none
def v132:Nat×Sm:=(132,fokSm dom132)
theorem C132:FOK Try.prog G0 gw 132 dom132:=by
 intro ags p r hd hp κ w xs hw hl hG hx
 unfold dom132 at hd
 split at hd
 ·rename_i nm qc n st F am den qp n' st' F'
  split at hd
  ·rename_i hst
   simp only[Bool.and_eq_true]at hst
   have g1:=Nat.eq_of_beq_eq_true hst.1
   have g2:=Nat.eq_of_beq_eq_true hst.2
   subst g1 g2
   simp only[Option.some.injEq,Prod.mk.injEq]at hd
   obtain⟨rfl,rfl⟩:=hd
   obtain⟨i1,i2,l1,l2,_⟩:=hp
   have heq:agsEqv [.agg [.str nm,.sl qc n 1 F,.int .i64 am],.agg [.int .i64 den,.sl qp n' 1 F']] [.agg [.str nm,.sl qc (eI.list n F).length 1 (eI.F (eI.list n F)),.int .i64 am],.agg [.int .i64 den,.sl qp (eI.list n' F').length 1 (eI.F (eI.list n' F'))]]:=⟨⟨rfl,eI.to id i1,rfl,trivial⟩,⟨rfl,eI.to id i2,trivial⟩,trivial⟩
   exact fokX_fin mixed gw_stable (sl:=[v90]) ⟨S90,trivial⟩ Try.func132 hw hl hG hx heq rfl (t132 _ _ _ _ _ _ _) (w132 _ _ _ _ _ _ _ l1 l2)
  ·cases hd
 ·cases hd
theorem S132:SumOK Try.prog G0 gw 132 (fokSm dom132):=fok_sum Try.func132 rfl C132
end Go.Pl
end
section
set_option maxRecDepth 100000
namespace Go.Pl
open Go.V Go.Proofs
namespace M
def overP(mo:List Int)(den:Int)(pa:List Int)(k:Nat):Bool:=decide (pa.getD k 0>IntKind.i64.wrap (mo.getD k 0*den))
def negR(de:List Dem)(den:Int)(pa:List Int)(k:Nat):Bool:=decide (room (de.getD k dfD) den pa<0)
def zeroR(de:List Dem)(den:Int)(pa:List Int)(k:Nat):Bool:=room (de.getD k dfD) den pa==0
def brk(de:List Dem)(den:Int)(pa:List Int):Int:=firstIdx (negR de den pa) de.length 0
def allowE(mo:List Int)(de:List Dem)(den:Int)(pa:List Int):Int:=cond (decide (firstIdx (overP mo den pa) mo.length 0<0)) (cond (decide (brk de den pa<0)) 0 13) 24
def bindK(z:Nat→Bool)(k:Nat):List Int:=((List.range k).filter z).map (fun i:Nat=>(i:Int))
def binds(de:List Dem)(den:Int)(pa:List Int):List Int:=bindK (zeroR de den pa) de.length
def ckPt(mo ga:List Int)(de:List Dem)(den:Int)(pa:List Int):Int×Int×Int:=cond (allowE mo de den pa != 0) (0,0,allowE mo de den pa) (frac (dot ga pa) den)
end M
theorem bindK_succ(z:Nat→Bool)(k:Nat):M.bindK z (k+1)=M.bindK z k++(if z k=true then[(k:Int)]else[]):=by
 unfold M.bindK
 rw[List.range_succ,List.filter_append,List.map_append]
 congr 1
 by_cases h:z k=true
 ·rw[if_pos h,List.filter_cons_of_pos h];rfl
 ·rw[if_neg h,List.filter_cons_of_neg h];rfl
theorem bindK_len(z:Nat→Bool)(k:Nat):(M.bindK z k).length≤k:=by
 unfold M.bindK
 rw[List.length_map]
 have:=List.length_filter_le z (List.range k)
 rw[List.length_range]at this
 exact this
abbrev inQ(n:Int):Nat→Nat→D:=fun(i j:Nat)=>List.getD [D.int IntKind.i64 n] (i*1+j) D.nilp
theorem inQ_push{n:Int}:(∀j,j<eI.st→(inQ n 0 j).eqv (eI.enc n j))∧eI.rd (inQ n 0)=n:=by
 refine⟨fun j hj=>?_,rfl⟩
 obtain rfl:j=0:=Nat.lt_one_iff.1 hj
 exact D.eqv_refl _
def tr89(q_mo:Bool)(mo:List Int)(q_ga:Bool)(ga:List Int)(q_de:Bool)(de:List Dem)(denx:Int)(q_pax:Bool)(pax:List Int):T (List Ar):=
  T.loop (Int×PUnit) ((0:Int),PUnit.unit) fun(x:Int×PUnit)=>T.br (decide (x.1<(mo.length:Int))) (T.need ((0:Int)≤x.1) (T.need (x.1<(pax.length:Int)) (T.need ((0:Int)≤x.1) (T.need (x.1<(mo.length:Int)) (T.br (decide (pax.getD x.1.toNat (0:Int)>IntKind.i64.wrap (mo.getD x.1.toNat (0:Int)*denx))) (T.ret (Sum.inr [Ar.c (D.int IntKind.i64 (24:Int))])) (T.ret (Sum.inl (IntKind.i64.wrap (x.1+1),PUnit.unit)))))))) (T.loop (Int×PUnit) ((0:Int),PUnit.unit) fun(x_1:Int×PUnit)=>T.br (decide (x_1.1<(de.length:Int))) (T.need ((0:Int)≤x_1.1) (T.need (x_1.1<(de.length:Int)) (T.need (Enc.Is eI (List.length (Dem.co (de.getD x_1.1.toNat dfD))) (Enc.F eI (Dem.co (de.getD x_1.1.toNat dfD)))) (T.need (iI pax) (T.need (List.length (Enc.list eI (List.length (Dem.co (de.getD x_1.1.toNat dfD))) (Enc.F eI (Dem.co (de.getD x_1.1.toNat dfD))))≤1000000) (T.need (List.length (Enc.list eI (List.length (Dem.co (de.getD x_1.1.toNat dfD))) (Enc.F eI (Dem.co (de.getD x_1.1.toNat dfD))))≤List.length (cI pax)) (T.br (decide (M.room {nm:=Dem.nm (de.getD x_1.1.toNat dfD),co:=Enc.list eI (List.length (Dem.co (de.getD x_1.1.toNat dfD))) (Enc.F eI (Dem.co (de.getD x_1.1.toNat dfD))),am:=Dem.am (de.getD x_1.1.toNat dfD)} denx (cI pax)<0)) (T.ret (Sum.inr (Sum.inr [Ar.c (D.int IntKind.i64 (13:Int))]))) (T.ret (Sum.inl (IntKind.i64.wrap (x_1.1+1),PUnit.unit)))))))))) (T.ret (Sum.inr (Sum.inr [Ar.c (D.int IntKind.i64 (0:Int))]))))
theorem t89(q_mo:Bool)(mo:List Int)(q_ga:Bool)(ga:List Int)(q_de:Bool)(de:List Dem)(denx:Int)(q_pax:Bool)(pax:List Int):runFnX Try.prog G0 (lookS [v132]) (fun _=>[(2,[.slot 5 (.int .i64)],none),(7,[.slot 6 (.int .i64)],none)]) [] 1 60 4 89 Try.f89 [.agg [.sl q_mo mo.length 1 (eI.F mo),.sl q_ga ga.length 1 (eI.F ga),.sl q_de de.length 3 (eDm.F de)],.agg [dI denx,.sl q_pax pax.length 1 (eI.F pax)]] =
  tr89 q_mo mo q_ga ga q_de de denx q_pax pax:=by kernel_rfl
theorem w89(qm:Bool)(mo:List Int)(qg:Bool)(ga:List Int)(qd:Bool)(de:List Dem)(den:Int)(qp:Bool)(pa:List Int)(h1:mo.length≤1000000)(h3:de.length≤1000000)(hl:mo.length≤pa.length)(hn:∀d,d∈de→d.co.length≤1000000∧d.co.length≤pa.length) :
  (tr89 qm mo qg ga qd de den qp pa).wp (fun rs=>rsEqv rs [rI (M.allowE mo de den pa)]):=by
 unfold tr89 M.allowE M.brk
 simp only[cI,cD,iI,iD,Enc.list_F]
 refine range_wp (n:=mo.length) (fun k _=>M.firstIdx (M.overP mo den pa) mo.length 0=M.firstIdx (M.overP mo den pa) (mo.length-k) k) rfl ?_
 rintro k u hk hJ
 refine wp_br (fun hb=>?_) (fun hb=>?_)
 ·have hlt:=lt_of_dec hb
  have hs:=idx_step (p:=M.overP mo den pa) hlt
  refine⟨by show(0:Int)≤k;omega,by show(k:Int)<pa.length;omega,by show(0:Int)≤k;omega,by show(k:Int)<mo.length;omega,wp_br (fun hx=>?_) (fun hx=>?_)⟩
  ·have hx:M.overP mo den pa k=true:=hx
   rw[hx]at hs
   rw[hJ,hs]
   show rsEqv _ [rI (cond (decide ((k:Int)<0)) _ 24)]
   rw[decide_eq_false (by omega)];exact rsEqv_refl _
  ·have hx:M.overP mo den pa k=false:=hx
   rw[hx]at hs
   exact⟨hlt,wrap_succ (by omega),hJ.trans hs⟩
 have hge:=ge_of_dec hb
 obtain rfl:k=mo.length:=by omega
 rw[Nat.sub_self]at hJ
 rw[hJ]
 refine range_wp (n:=de.length) (fun k _=>M.firstIdx (M.negR de den pa) de.length 0=M.firstIdx (M.negR de den pa) (de.length-k) k) rfl ?_
 rintro k u hk hI
 refine wp_br (fun hb=>?_) (fun hb=>?_)
 ·have hlt:=lt_of_dec hb
  have hs:=idx_step (p:=M.negR de den pa) hlt
  refine⟨by show(0:Int)≤k;omega,by show(k:Int)<de.length;omega,Enc.is_F _ _ _,Enc.is_F _ _ _,(hn _ (getD_mem hlt)).1,(hn _ (getD_mem hlt)).2,wp_br (fun hx=>?_) (fun hx=>?_)⟩
  ·have hx:M.negR de den pa k=true:=hx
   rw[hx]at hs
   rw[hI,hs]
   show rsEqv _ [rI (cond (decide ((k:Int)<0)) 0 13)]
   rw[decide_eq_false (by omega)];exact rsEqv_refl _
  ·have hx:M.negR de den pa k=false:=hx
   rw[hx]at hs
   exact⟨hlt,wrap_succ (by omega),hI.trans hs⟩
 ·have hge:=ge_of_dec hb
  obtain rfl:k=de.length:=by omega
  rw[Nat.sub_self]at hI
  rw[hI];exact rsEqv_refl _
def dom89:DomF
 |[.agg [.sl _ n_mo st_mo F_mo,.sl _ n_ga st_ga F_ga,.sl _ n_de st_de F_de],.agg [.int .i64 denx,.sl _ n_pax st_pax F_pax]]=>(match Nat.beq st_mo 1&&Nat.beq st_ga 1&&Nat.beq st_de 3&&Nat.beq st_pax 1 with
  |true=>some ([eI.Is n_mo F_mo,eI.Is n_ga F_ga,eDm.Is n_de F_de,eI.Is n_pax F_pax,(eI.list n_mo F_mo).length≤1000000,(eDm.list n_de F_de).length≤1000000,(eI.list n_mo F_mo).length≤(eI.list n_pax F_pax).length,∀d,d∈(eDm.list n_de F_de)→d.co.length≤1000000∧d.co.length≤(eI.list n_pax F_pax).length],[rI (M.allowE (eI.list n_mo F_mo) (eDm.list n_de F_de) denx (eI.list n_pax F_pax))])
  |_=>none)
 |_=>none
def v89:Nat×Sm:=(89,fokSm dom89)
theorem C89:FOK Try.prog G0 gw 89 dom89:=by
 intro ags p r hd hp κ w xs hw hl hG hx
 unfold dom89 at hd
 split at hd
 ·rename_i q_mo n_mo st_mo F_mo q_ga n_ga st_ga F_ga q_de n_de st_de F_de denx q_pax n_pax st_pax F_pax
  split at hd
  ·rename_i hst
   simp only[Bool.and_eq_true]at hst
   obtain⟨⟨⟨g1,g2⟩,g3⟩,g4⟩:=hst
   have g1:=Nat.eq_of_beq_eq_true g1
   have g2:=Nat.eq_of_beq_eq_true g2
   have g3:=Nat.eq_of_beq_eq_true g3
   have g4:=Nat.eq_of_beq_eq_true g4
   subst g1 g2 g3 g4
   simp only[Option.some.injEq,Prod.mk.injEq]at hd
   obtain⟨rfl,rfl⟩:=hd
   obtain⟨hI_mo,hI_ga,hI_de,hI_pax,hp⟩:=hp
   have heq:agsEqv [.agg [.sl q_mo n_mo 1 F_mo,.sl q_ga n_ga 1 F_ga,.sl q_de n_de 3 F_de],.agg [.int .i64 denx,.sl q_pax n_pax 1 F_pax]] [.agg [.sl q_mo (eI.list n_mo F_mo).length 1 (eI.F (eI.list n_mo F_mo)),.sl q_ga (eI.list n_ga F_ga).length 1 (eI.F (eI.list n_ga F_ga)),.sl q_de (eDm.list n_de F_de).length 3 (eDm.F (eDm.list n_de F_de))],.agg [.int .i64 denx,.sl q_pax (eI.list n_pax F_pax).length 1 (eI.F (eI.list n_pax F_pax))]]:=⟨⟨eI.to id hI_mo,eI.to id hI_ga,eDm.to id hI_de,trivial⟩,⟨rfl,eI.to id hI_pax,trivial⟩,trivial⟩
   have len_mo:(eI.list n_mo F_mo).length=n_mo:=eI.list_len
   have len_ga:(eI.list n_ga F_ga).length=n_ga:=eI.list_len
   have len_de:(eDm.list n_de F_de).length=n_de:=eDm.list_len
   have len_pax:(eI.list n_pax F_pax).length=n_pax:=eI.list_len
   generalize eI.list n_mo F_mo=mo at *
   generalize eI.list n_ga F_ga=ga at *
   generalize eDm.list n_de F_de=de at *
   generalize eI.list n_pax F_pax=pax at *
   subst len_mo len_ga len_de len_pax
   exact fokX_fin mixed gw_stable (sl:=[v132]) ⟨S132,trivial⟩ Try.func89 hw hl hG hx heq rfl (t89 _ _ _ _ _ _ _ _ _) (w89 _ _ _ _ _ _ _ _ _ hp.1 hp.2.1 hp.2.2.1 hp.2.2.2.1)
  ·cases hd
 ·cases hd
theorem S89:SumOK Try.prog G0 gw 89 (fokSm dom89):=fok_sum Try.func89 rfl C89
def tr51(q_mo:Bool)(mo:List Int)(q_ga:Bool)(ga:List Int)(q_de:Bool)(de:List Dem)(denx:Int)(q_pax:Bool)(pax:List Int):T (List Ar):=
  T.loop2 (Int×PUnit×PUnit) (Int×List Int×PUnit) (Sum.inl ((0:Int),PUnit.unit,PUnit.unit)) (fun(x:Int×PUnit×PUnit)=>T.br (decide (x.1<(de.length:Int))) (T.need ((0:Int)≤x.1) (T.need (x.1<(de.length:Int)) (T.need (Enc.Is eI (List.length (Dem.co (de.getD x.1.toNat dfD))) (Enc.F eI (Dem.co (de.getD x.1.toNat dfD)))) (T.need (iI pax) (T.need (List.length (Enc.list eI (List.length (Dem.co (de.getD x.1.toNat dfD))) (Enc.F eI (Dem.co (de.getD x.1.toNat dfD))))≤1000000) (T.need (List.length (Enc.list eI (List.length (Dem.co (de.getD x.1.toNat dfD))) (Enc.F eI (Dem.co (de.getD x.1.toNat dfD))))≤List.length (cI pax)) (T.br (M.room {nm:=Dem.nm (de.getD x.1.toNat dfD),co:=Enc.list eI (List.length (Dem.co (de.getD x.1.toNat dfD))) (Enc.F eI (Dem.co (de.getD x.1.toNat dfD))),am:=Dem.am (de.getD x.1.toNat dfD)} denx (cI pax)==0) (T.need ((1:Nat)≤1000000) (T.need (Enc.Is eI (1:Nat) (joinF (0:Nat) (fun(x x_1:Nat)=>D.nilp) fun(i j:Nat)=>List.getD [D.int IntKind.i64 x.1] (i*1+j) D.nilp)) (T.need ((1:Nat)≤1) (T.ret (Sum.inl (Sum.inr (IntKind.i64.wrap (x.1+1),Enc.list eI (1:Nat) (joinF (0:Nat) (fun(x x_1:Nat)=>D.nilp) fun(i j:Nat)=>List.getD [D.int IntKind.i64 x.1] (i*1+j) D.nilp),PUnit.unit))))))) (T.ret (Sum.inl (Sum.inl (IntKind.i64.wrap (x.1+1),PUnit.unit,PUnit.unit))))))))))) (T.ret (Sum.inr [Ar.c (D.sl false (0:Nat) (0:Nat) fun(x x_1:Nat)=>D.nilp)]))) fun(y:Int×List Int×PUnit)=>T.br (decide (y.1<(de.length:Int))) (T.need ((0:Int)≤y.1) (T.need (y.1<(de.length:Int)) (T.need (Enc.Is eI (List.length (Dem.co (de.getD y.1.toNat dfD))) (Enc.F eI (Dem.co (de.getD y.1.toNat dfD)))) (T.need (iI pax) (T.need (List.length (Enc.list eI (List.length (Dem.co (de.getD y.1.toNat dfD))) (Enc.F eI (Dem.co (de.getD y.1.toNat dfD))))≤1000000) (T.need (List.length (Enc.list eI (List.length (Dem.co (de.getD y.1.toNat dfD))) (Enc.F eI (Dem.co (de.getD y.1.toNat dfD))))≤List.length (cI pax)) (T.br (M.room {nm:=Dem.nm (de.getD y.1.toNat dfD),co:=Enc.list eI (List.length (Dem.co (de.getD y.1.toNat dfD))) (Enc.F eI (Dem.co (de.getD y.1.toNat dfD))),am:=Dem.am (de.getD y.1.toNat dfD)} denx (cI pax)==0) (T.need (List.length (y.2.1)+1≤1000000) (T.need (List.length (y.2.1)≤List.length (y.2.1)) (T.need (Enc.Is eI (List.length (y.2.1)+1) (joinF (List.length (y.2.1)) (Enc.F eI (y.2.1)) fun(i j:Nat)=>List.getD [D.int IntKind.i64 y.1] (i*1+j) D.nilp)) (T.need (List.length (y.2.1)+1≤List.length (y.2.1)+1) (T.ret (Sum.inl (Sum.inr (IntKind.i64.wrap (y.1+1),Enc.list eI (List.length (y.2.1)+1) (joinF (List.length (y.2.1)) (Enc.F eI (y.2.1)) fun(i j:Nat)=>List.getD [D.int IntKind.i64 y.1] (i*1+j) D.nilp),PUnit.unit)))))))) (T.need (Enc.Is eI (List.length (y.2.1)) (Enc.F eI (y.2.1))) (T.need (List.length (y.2.1)≤List.length (y.2.1)) (T.ret (Sum.inl (Sum.inr (IntKind.i64.wrap (y.1+1),Enc.list eI (List.length (y.2.1)) (Enc.F eI (y.2.1)),PUnit.unit))))))))))))) (T.need (List.length (y.2.1)≤List.length (y.2.1)) (T.ret (Sum.inr [Ar.c (D.sl true (List.length (y.2.1)) (1:Nat) (Enc.F eI (y.2.1)))])))
theorem t51(q_mo:Bool)(mo:List Int)(q_ga:Bool)(ga:List Int)(q_de:Bool)(de:List Dem)(denx:Int)(q_pax:Bool)(pax:List Int):runFnX Try.prog G0 (lookS [v132]) (fun _=>[(3,[.slot 6 (.int .i64),.slot 5 .nsl],some [.slot 6 (.int .i64),.slot 5 (.rowE 3 eI)])]) [] 1 60 4 51 Try.f51 [.agg [.sl q_mo mo.length 1 (eI.F mo),.sl q_ga ga.length 1 (eI.F ga),.sl q_de de.length 3 (eDm.F de)],.agg [dI denx,.sl q_pax pax.length 1 (eI.F pax)]] =
  tr51 q_mo mo q_ga ga q_de de denx q_pax pax:=by kernel_rfl
theorem w51(qm:Bool)(mo:List Int)(qg:Bool)(ga:List Int)(qd:Bool)(de:List Dem)(den:Int)(qp:Bool)(pa:List Int)(h3:de.length≤1000000)(hn:∀d,d∈de→d.co.length≤1000000∧d.co.length≤pa.length) :
  (tr51 qm mo qg ga qd de den qp pa).wp (fun rs=>rsEqv rs [.c (.sl false (M.binds de den pa).length 1 (eI.F (M.binds de den pa)))]):=by
 unfold tr51 M.binds
 simp only[cI,cD,iI,iD,Enc.list_F]
 refine⟨fun z=>match z with
  |.inl x=>∃k:Nat,k≤de.length∧x=((k:Int),PUnit.unit,PUnit.unit)∧M.bindK (M.zeroR de den pa) k=[]
  |.inr y=>∃k:Nat,k≤de.length∧y.1=k∧y.2.1=M.bindK (M.zeroR de den pa) k,
  fun z=>match z with|.inl x=>de.length-x.1.toNat|.inr y=>de.length-y.1.toNat,⟨0,Nat.zero_le _,rfl,rfl⟩,?_,?_⟩
 ·rintro x ⟨k,hk,rfl,h0⟩
  have hw:IntKind.i64.wrap ((k:Int)+1)=((k+1:Nat):Int):=wrap_succ (by omega)
  refine⟨fun hb=>?_,fun hb=>?_⟩
  ·have hlt:=lt_of_dec hb
   have mu:de.length-(IntKind.i64.wrap ((k:Int)+1)).toNat<de.length-(k:Int).toNat:=by rw[hw];omega
   refine⟨by dsimp only;omega,by dsimp only;omega,Enc.is_F _ _ _,Enc.is_F _ _ _,(hn _ (getD_mem hlt)).1,(hn _ (getD_mem hlt)).2,fun hx=>?_,fun hx=>?_⟩
   ·have hx:M.zeroR de den pa k=true:=hx
    obtain⟨o1,o2⟩:=push_one eI (F:=fun _ _=>.nilp) (G:=inQ (k:Int)) inQ_push.1 inQ_push.2
    have o3:[(k:Int)]=M.bindK (M.zeroR de den pa) (k+1):=by rw[bindK_succ,if_pos hx,h0];rfl
    exact⟨by decide,o1,Nat.le_refl _,⟨k+1,hlt,hw,o2.trans o3⟩,mu⟩
   ·have hx:¬M.zeroR de den pa k=true:=by(have hx:M.zeroR de den pa k=false:=hx);rw[hx];decide
    exact⟨⟨k+1,hlt,by rw[hw],by rw[bindK_succ,if_neg hx,h0];rfl⟩,mu⟩
  ·have hge:=ge_of_dec hb
   obtain rfl:k=de.length:=by omega
   rw[h0]
   exact⟨nil_eqv eI,trivial⟩
 ·rintro ⟨y,acc,u⟩ ⟨k,g2,g3,g4⟩
  simp only at g3 g4
  subst g3
  have hacc:acc.length≤k:=by rw[g4];exact bindK_len _ _
  have hw:IntKind.i64.wrap ((k:Int)+1)=((k+1:Nat):Int):=wrap_succ (by omega)
  have mu:k<de.length→de.length-(IntKind.i64.wrap ((k:Int)+1)).toNat<de.length-(k:Int).toNat:=by intro _;rw[hw];omega
  refine⟨fun hb=>?_,fun hb=>?_⟩
  ·have hlt:=lt_of_dec hb
   refine⟨by dsimp only;omega,by dsimp only;omega,Enc.is_F _ _ _,Enc.is_F _ _ _,(hn _ (getD_mem hlt)).1,(hn _ (getD_mem hlt)).2,fun hx=>?_,fun hx=>?_⟩
   ·have hx:M.zeroR de den pa k=true:=hx
    obtain⟨o1,o2⟩:=eI.push (l:=acc) (a:=(k:Int)) (G:=inQ (k:Int)) inQ_push.1 inQ_push.2
    have o3:acc++ [(k:Int)]=M.bindK (M.zeroR de den pa) (k+1):=by rw[bindK_succ,if_pos hx,g4]
    exact⟨by dsimp only;omega,Nat.le_refl _,o1,Nat.le_refl _,⟨k+1,hlt,hw,o2.trans o3⟩,mu hlt⟩
   ·have hx:¬M.zeroR de den pa k=true:=by(have hx:M.zeroR de den pa k=false:=hx);rw[hx];decide
    have o3:acc=M.bindK (M.zeroR de den pa) (k+1):=by rw[bindK_succ,if_neg hx,g4,List.append_nil]
    exact⟨Enc.is_F _ _ _,Nat.le_refl _,⟨k+1,hlt,hw,o3⟩,mu hlt⟩
  ·have hge:=ge_of_dec hb
   obtain rfl:k=de.length:=by omega
   rw[←g4]
   exact⟨Nat.le_refl _,⟨(fun e=>by cases e),rfl,fun _=>rfl,fun i j hi hj=>D.eqv_refl _⟩,trivial⟩
def dom51:DomF
 |[.agg [.sl _ n_mo st_mo F_mo,.sl _ n_ga st_ga F_ga,.sl _ n_de st_de F_de],.agg [.int .i64 denx,.sl _ n_pax st_pax F_pax]]=>(match Nat.beq st_mo 1&&Nat.beq st_ga 1&&Nat.beq st_de 3&&Nat.beq st_pax 1 with
  |true=>some ([eI.Is n_mo F_mo,eI.Is n_ga F_ga,eDm.Is n_de F_de,eI.Is n_pax F_pax,(eDm.list n_de F_de).length≤1000000,∀d,d∈(eDm.list n_de F_de)→d.co.length≤1000000∧d.co.length≤(eI.list n_pax F_pax).length],[.c (.sl false (M.binds (eDm.list n_de F_de) denx (eI.list n_pax F_pax)).length 1 (eI.F (M.binds (eDm.list n_de F_de) denx (eI.list n_pax F_pax))))])
  |_=>none)
 |_=>none
def v51:Nat×Sm:=(51,fokSm dom51)
theorem C51:FOK Try.prog G0 gw 51 dom51:=by
 intro ags p r hd hp κ w xs hw hl hG hx
 unfold dom51 at hd
 split at hd
 ·rename_i q_mo n_mo st_mo F_mo q_ga n_ga st_ga F_ga q_de n_de st_de F_de denx q_pax n_pax st_pax F_pax
  split at hd
  ·rename_i hst
   simp only[Bool.and_eq_true]at hst
   obtain⟨⟨⟨g1,g2⟩,g3⟩,g4⟩:=hst
   have g1:=Nat.eq_of_beq_eq_true g1
   have g2:=Nat.eq_of_beq_eq_true g2
   have g3:=Nat.eq_of_beq_eq_true g3
   have g4:=Nat.eq_of_beq_eq_true g4
   subst g1 g2 g3 g4
   simp only[Option.some.injEq,Prod.mk.injEq]at hd
   obtain⟨rfl,rfl⟩:=hd
   obtain⟨hI_mo,hI_ga,hI_de,hI_pax,hp⟩:=hp
   have heq:agsEqv [.agg [.sl q_mo n_mo 1 F_mo,.sl q_ga n_ga 1 F_ga,.sl q_de n_de 3 F_de],.agg [.int .i64 denx,.sl q_pax n_pax 1 F_pax]] [.agg [.sl q_mo (eI.list n_mo F_mo).length 1 (eI.F (eI.list n_mo F_mo)),.sl q_ga (eI.list n_ga F_ga).length 1 (eI.F (eI.list n_ga F_ga)),.sl q_de (eDm.list n_de F_de).length 3 (eDm.F (eDm.list n_de F_de))],.agg [.int .i64 denx,.sl q_pax (eI.list n_pax F_pax).length 1 (eI.F (eI.list n_pax F_pax))]]:=⟨⟨eI.to id hI_mo,eI.to id hI_ga,eDm.to id hI_de,trivial⟩,⟨rfl,eI.to id hI_pax,trivial⟩,trivial⟩
   have len_mo:(eI.list n_mo F_mo).length=n_mo:=eI.list_len
   have len_ga:(eI.list n_ga F_ga).length=n_ga:=eI.list_len
   have len_de:(eDm.list n_de F_de).length=n_de:=eDm.list_len
   have len_pax:(eI.list n_pax F_pax).length=n_pax:=eI.list_len
   generalize eI.list n_mo F_mo=mo at *
   generalize eI.list n_ga F_ga=ga at *
   generalize eDm.list n_de F_de=de at *
   generalize eI.list n_pax F_pax=pax at *
   subst len_mo len_ga len_de len_pax
   exact fokX_fin mixed gw_stable (sl:=[v132]) ⟨S132,trivial⟩ Try.func51 hw hl hG hx heq rfl (t51 _ _ _ _ _ _ _ _ _) (w51 _ _ _ _ _ _ _ _ _ hp.1 hp.2.1)
  ·cases hd
 ·cases hd
theorem S51:SumOK Try.prog G0 gw 51 (fokSm dom51):=fok_sum Try.func51 rfl C51
end Go.Pl
end
section
set_option maxRecDepth 100000
namespace Go.Pl
open Go.V Go.Proofs
theorem first_zero:∀{l:List Int},M.first l=0→∀x,x∈l→x=0:=by
 intro l
 induction l with
 |nil=>intro _ x hx;cases hx
 |cons a l ih=>
  intro h x hx
  rw[first_of]at h
  split at h
  ·rename_i ha
   rcases List.mem_cons.1 hx with rfl|hx
   ·exact ha
   ·exact ih h x hx
  ·rename_i ha;exact absurd h ha
theorem any_none{α:Type}{l:List α}{p:α→Bool}(h:(!l.any p)=true):∀x,x∈l→p x=false:=by
 intro x hx
 rw[Bool.not_eq_true']at h
 cases hp:p x with
 |false=>rfl
 |true=>rw[List.any_eq_true.2 ⟨x,hx,hp⟩]at h;cases h
theorem within_of{f:Nat}{x lo hi:Int}(h:badF f x=false)(hf:badF f x= !M.within x lo hi):lo≤x∧x≤hi:=by
 rw[hf]at h
 exact within_iff.1 (by simpa using h)
structure RightP(mo ga:List Int)(de:List Dem):Prop where
 n0:0<mo.length
 n4:mo.length≤4
 lg:ga.length=mo.length
 ld:de.length≤8
 rm:∀x,x∈mo→0≤x∧x≤1000000
 rg:∀x,x∈ga→ -100≤x∧x≤100
 rd:∀d,d∈de→d.co.length=mo.length∧(∀x,x∈d.co→ -100≤x∧x≤100)∧ -1000000≤d.am∧d.am≤1000000
theorem prog_right{mo ga:List Int}{de:List Dem}(h:(M.checkProg mo ga de).2=0):RightP mo ga de:=by
 unfold M.checkProg at h
 cases hb:(M.progErr0 mo ga de != 0)with
 |true=>
  rw[hb]at h
  have h:M.progErr0 mo ga de=0:=h
  rw[h]at hb;cases hb
 |false=>
  rw[hb]at h
  have h0:M.progErr0 mo ga de=0:=by simpa using hb
  unfold M.progErr0 at h0
  have z:=first_zero h0
  have a1:=unl_zero (by decide) (z _ (List.mem_cons_self ..))
  have a2:=unl_zero (by decide) (z _ (List.mem_cons_of_mem _ (List.mem_cons_self ..)))
  have a3:=unl_zero (by decide) (z _ (List.mem_cons_of_mem _ (List.mem_cons_of_mem _ (List.mem_cons_self ..))))
  have a4:=unl_zero (by decide) (z _ (List.mem_cons_of_mem _ (List.mem_cons_of_mem _ (List.mem_cons_of_mem _ (List.mem_cons_self ..)))))
  have a5:=unl_zero (by decide) (z _ (List.mem_cons_of_mem _ (List.mem_cons_of_mem _ (List.mem_cons_of_mem _ (List.mem_cons_of_mem _ (List.mem_cons_self ..))))))
  have a2:=of_decide_eq_true a2
  have a5:=of_decide_eq_true a5
  cases hm:decide ((mo.length:Int)>0)with
  |false=>rw[hm]at a1;cases a1
  |true=>
   rw[hm]at a1
   have hm:=of_decide_eq_true hm
   have a1:((ga.length:Int)==(mo.length:Int))=true:=a1
   have a1:(ga.length:Int)=mo.length:=by simpa using a1
   refine⟨by omega,by omega,by omega,by omega,fun x hx=>within_of (any_none a3 x hx) rfl,fun x hx=>within_of (any_none a4 x hx) rfl,fun d hd=>?_⟩
   obtain⟨k,hk,rfl⟩:=List.getElem_of_mem hd
   have hz:=bad_zero _ _ h k (Nat.zero_le _) (by omega)
   unfold M.demErr at hz
   have e:de.getD k dfD=de[k]:=by rw[List.getD_eq_getElem?_getD,List.getElem?_eq_getElem hk];rfl
   rw[e]at hz
   have y:=first_zero hz
   have b3:=unl_zero (by decide) (y _ (List.mem_cons_of_mem _ (List.mem_cons_of_mem _ (List.mem_cons_self ..))))
   have b4:=unl_zero (by decide) (y _ (List.mem_cons_of_mem _ (List.mem_cons_of_mem _ (List.mem_cons_of_mem _ (List.mem_cons_self ..)))))
   have b3:((de[k].co.length:Int)=mo.length):=by simpa using b3
   cases hc:de[k].co.any (badF 124)with
   |true=>rw[hc]at b4;cases b4
   |false=>
    rw[hc]at b4
    have b4:M.small de[k].am 1000000=true:=b4
    have b4: -1000000≤de[k].am∧de[k].am≤1000000:=within_iff.1 b4
    exact⟨by omega,fun x hx=>within_of (any_none (by rw[hc];rfl) x hx) rfl,b4.1,b4.2⟩
theorem pt_right{mo:List Int}{den:Int}{pa:List Int}(h:M.ptErr mo den pa=0):pa.length=mo.length∧(1≤den∧den≤100000000000)∧∀x,x∈pa→0≤x∧x≤1000000000000000:=by
 unfold M.ptErr at h
 have z:=first_zero h
 have a1:=unl_zero (by decide) (z _ (List.mem_cons_self ..))
 have a2:=unl_zero (by decide) (z _ (List.mem_cons_of_mem _ (List.mem_cons_self ..)))
 have a1:(pa.length:Int)=mo.length:=by simpa using a1
 unfold M.ptOk at a2
 cases hw:M.within den 1 100000000000 with
 |false=>rw[hw]at a2;cases a2
 |true=>
  rw[hw]at a2
  exact⟨by omega,within_iff.1 hw,fun x hx=>within_of (any_none a2 x hx) rfl⟩
def dotK(u v:List Int)(k:Nat):Int:=(List.range k).foldl (fun a i=>a+u.getD i 0*v.getD i 0) 0
theorem mul_bnd{x y A B:Int}(hA:0≤A)(hx: -A≤x∧x≤A)(hy: -B≤y∧y≤B): -(A*B)≤x*y∧x*y≤A*B:=by
 have hn:(x*y).natAbs≤A.natAbs*B.natAbs:=by
  rw[Int.natAbs_mul]
  exact Nat.mul_le_mul (by omega) (by omega)
 have hAB:((A.natAbs*B.natAbs:Nat):Int)=A*B:=by
  rw[Int.natCast_mul,Int.natAbs_of_nonneg hA,Int.natAbs_of_nonneg (show 0≤B by omega)]
 have h2:((x*y).natAbs:Int)≤((A.natAbs*B.natAbs:Nat):Int):=by exact_mod_cast hn
 rw[hAB]at h2
 generalize x*y=z at *
 omega
theorem dot_bnd{u v:List Int}{A B:Int}(hA:0≤A)(hB:0≤B)(hu:∀x,x∈u→ -A≤x∧x≤A)(hv:∀x,x∈v→ -B≤x∧x≤B)(hAB:A*B≤1000000000000000000):∀k,k≤8 →
  (List.range k).foldl (fun a i=>IntKind.i64.wrap (a+IntKind.i64.wrap (u.getD i 0*v.getD i 0))) 0=dotK u v k∧ -(k*(A*B))≤dotK u v k∧dotK u v k≤k*(A*B):=by
 have g:∀{l:List Int} {C:Int},0≤C→(∀x,x∈l→ -C≤x∧x≤C)→∀i, -C≤l.getD i 0∧l.getD i 0≤C:=by
  intro l C hC h i
  rcases Nat.lt_or_ge i l.length with hi|hi
  ·exact h _ (getD_mem hi)
  ·rw[List.getD_eq_getElem?_getD,List.getElem?_eq_none hi];simp only[Option.getD_none];omega
 intro k
 induction k with
 |zero=>intro _;exact⟨rfl,by simp[dotK],by simp[dotK]⟩
 |succ k ih=>
  intro hk
  obtain⟨i1,i2,i3⟩:=ih (by omega)
  obtain⟨p1,p2⟩:=mul_bnd hA (g hA hu k) (g hB hv k)
  have e:dotK u v (k+1)=dotK u v k+u.getD k 0*v.getD k 0:=by unfold dotK;rw[foldl_succ]
  rw[foldl_succ,i1]
  generalize hAB':A*B=AB at *
  have hk1:((k+1:Nat):Int)*AB=(k:Int)*AB+AB:=by rw[Int.natCast_succ,Int.add_mul,Int.one_mul]
  have hkb:(k:Int)*AB≤8*1000000000000000000:=by
   have h0:0≤AB:=by rw[←hAB'];exact Int.mul_nonneg hA hB
   calc (k:Int)*AB≤8*AB:=Int.mul_le_mul_of_nonneg_right (by omega) h0
    _≤_:=by omega
  generalize hz:u.getD k 0*v.getD k 0=z at *
  generalize hkA:(k:Int)*AB=kA at *
  rw[wrap_id (n:=z) (by omega) (by omega),wrap_id (by omega) (by omega),e,hk1]
  exact⟨rfl,by omega,by omega⟩
theorem dot_exact{u v:List Int}{A B:Int}(hA:0≤A)(hB:0≤B)(hu:∀x,x∈u→ -A≤x∧x≤A)(hv:∀x,x∈v→ -B≤x∧x≤B)(hAB:A*B≤1000000000000000000)(hl:u.length≤8) :
  M.dot u v=dotK u v u.length∧ -(u.length*(A*B))≤M.dot u v∧M.dot u v≤u.length*(A*B):=by
 obtain⟨h1,h2,h3⟩:=dot_bnd hA hB hu hv hAB u.length hl
 have:M.dot u v=dotK u v u.length:=h1
 rw[this]
 exact⟨rfl,h2,h3⟩
namespace M
end M
end Go.Pl
end
section
set_option maxRecDepth 100000
namespace Go.Pl
open Go.V Go.Proofs
theorem put_row{α:Type}(E:Enc α){l:List α}{i:Nat}{b:α}{F':Nat→Nat→D}(hi:i<l.length)(hF:∀k,k≠i→F' k=E.F l k)(hj:∀j,j<E.st→(F' i j).eqv (E.enc b j))(hr:E.rd (F' i)=b):E.Is l.length F'∧E.list l.length F'=l.set i b:=by
 constructor
 ·intro k j hk hj'
  by_cases h:k=i
  ·subst h
   rw[hr];exact hj j hj'
  ·rw[hF k h]
   have:E.rd (E.F l k)=l.getD k E.dflt:=E.law _
   rw[this];exact D.eqv_refl _
 ·apply List.ext_getElem
  ·simp[Enc.list]
  ·intro k h1 h2
   simp only[Enc.list,List.getElem_map,List.getElem_range,List.getElem_set]
   by_cases h:i=k
   ·subst h
    rw[if_pos rfl];exact hr
   ·rw[if_neg h,hF k (fun e=>h e.symm)]
    have:E.rd (E.F l k)=l.getD k E.dflt:=E.law _
    rw[this]
    have hk:k<l.length:=by simpa using h2
    simp[List.getD_eq_getElem?_getD,List.getElem?_eq_getElem hk]
theorem putF_ne{i j n:Nat}{ds:List D}{F:Nat→Nat→D}:∀k,k≠i→putF i j n ds F k=F k:=by
 intro k h
 funext j'
 unfold putF
 have:Nat.beq k i=false:=by
  cases hb:Nat.beq k i with
  |false=>rfl
  |true=>exact absurd (Nat.eq_of_beq_eq_true hb) h
 rw[this];rfl
structure Stead(sc:List Scale)(nw d:Int):Prop where
 sys:(M.checkSys sc nw).2=0
 draw:M.drawErr d=0
 same:∀k,k<sc.length→((M.flows sc d).getD k dfR).lo=((M.flows sc d).getD k dfR).hi
 pos:∀k,k<sc.length→0<((M.flows sc d).getD k dfR).lo
 over:M.over sc (M.flows sc d)<0
structure AgOk(n:Nat)(ag:List Rg):Prop where
 len:ag.length=n
 row:∀k,k<n→0≤(ag.getD k dfR).lo∧(ag.getD k dfR).lo≤(ag.getD k dfR).hi∧(ag.getD k dfR).hi≤100000
end Go.Pl
end
section
set_option maxRecDepth 100000
namespace Go.Pl
open Go.V Go.Proofs
structure Plane where
 co:List Int
 am:Int
 de:Int
 dr:Int
def encPn(p:Plane):Nat→D
 |0=>.sl true p.co.length 1 (eI.F p.co)
 |1=>dI p.am
 |2=>dI p.de
 |_=>dI p.dr
def rdPn(F:Nat→D):Plane:=⟨rdL F 0,rdI F 1,rdI F 2,rdI F 3⟩
theorem rdPn_enc(p:Plane):rdPn (encPn p)=p:=by
 have h:eI.list p.co.length (eI.F p.co)=p.co:=Enc.list_F eI p.co
 simp only[rdPn,encPn,rdI,rdL,h]
def ePn:Enc Plane:=⟨4,encPn,rdPn,⟨[],0,0,0⟩,rdPn_enc⟩
end Go.Pl
end
section
set_option maxRecDepth 100000
namespace Go.Pl
open Go.V Go.Proofs
namespace M
def unitL(n i:Nat)(v:Int):List Int:=(List.replicate n 0).set i v
def pDe(more:List Int)(de:List Dem)(i:Nat):Plane:=⟨(de.getD i dfD).co++more,(de.getD i dfD).am,i, -1⟩
def pMo(n:Nat)(mo:List Int)(i:Nat):Plane:=⟨unitL n i 1,mo.getD i 0, -1,i⟩
def pNn(n i:Nat):Plane:=⟨unitL n i (-1),0, -1, -1⟩
def planes(mo:List Int)(de:List Dem)(more:List Int):List Plane:=(List.range de.length).map (pDe more de)++((List.range mo.length).map (pMo (mo.length+more.length) mo)++(List.range (mo.length+more.length)).map (pNn (mo.length+more.length)))
end M
abbrev pnG(n:Nat)(F:Nat→Nat→D)(a b c:Int):Nat→Nat→D:=fun(i j:Nat)=>List.getD [D.sl true n 1 F,dI a,dI b,dI c] (i*4+j) D.nilp
theorem pn_push{n:Nat}{F:Nat→Nat→D}{co:List Int}{a b c:Int}(h:eI.Is n F)(hl:eI.list n F=co) :
  (∀j,j<ePn.st→(pnG n F a b c 0 j).eqv (ePn.enc ⟨co,a,b,c⟩ j))∧ePn.rd (pnG n F a b c 0)=⟨co,a,b,c⟩:=by
 subst hl
 constructor
 ·intro j hj
  have hj:j<4:=hj
  match j,hj with
  |0,_=>exact eI.to (fun _=>rfl) h
  |1,_=>exact D.eqv_refl _
  |2,_=>exact D.eqv_refl _
  |3,_=>exact D.eqv_refl _
 ·rfl
theorem unit_row{n i m:Nat}{v:Int}(hi:i<n)(hm:m=1):eI.Is n (putF i 0 m [dI v] (fun(_ j:Nat)=>List.getD [dI 0] j D.nilp))∧eI.list n (putF i 0 m [dI v] (fun(_ j:Nat)=>List.getD [dI 0] j D.nilp))=M.unitL n i v:=by
 subst hm
 have at_:putF i 0 1 [dI v] (fun(_ j:Nat)=>List.getD [dI 0] j D.nilp) i 0=dI v:=by
  unfold putF
  rw[show Nat.beq i i=true from Nat.beq_refl i,Bool.true_and]
  rfl
 have ne:∀k,k≠i→putF i 0 1 [dI v] (fun(_ j:Nat)=>List.getD [dI 0] j D.nilp) k=fun j=>List.getD [dI 0] j D.nilp:=fun k hk=>putF_ne k hk
 constructor
 ·intro k j hk hj
  obtain rfl:j=0:=by have:j<1:=hj;omega
  by_cases h:k=i
  ·subst h
   show D.eqv _ (dI (rdI _ 0))
   unfold rdI
   rw[at_];exact D.eqv_refl _
  ·rw[ne k h];exact D.eqv_refl _
 ·apply List.ext_getElem
  ·simp[Enc.list,M.unitL]
  ·intro k h1 h2
   simp only[Enc.list,List.getElem_map,List.getElem_range,M.unitL,List.getElem_set,List.getElem_replicate]
   by_cases h:i=k
   ·subst h
    rw[if_pos rfl]
    show rdI _ 0=v
    unfold rdI
    rw[at_]
   ·rw[if_neg h,ne k (by omega)];rfl
end Go.Pl
end
section
set_option maxRecDepth 100000
namespace Go.Pl
open Go.V Go.Proofs
def dom153:DomF
 |[.agg [.sl _ n_mo st_mo F_mo,.sl _ n_ga st_ga F_ga,.sl _ n_de st_de F_de],.c (.sl _ n_more st_more F_more)]=>(match (Nat.beq st_mo 1||Nat.beq n_mo 0)&&(Nat.beq st_ga 1||Nat.beq n_ga 0)&&(Nat.beq st_de 3||Nat.beq n_de 0)&&(Nat.beq st_more 1||Nat.beq n_more 0)with
  |true=>some ([eI.Is n_mo F_mo,eI.Is n_ga F_ga,eDm.Is n_de F_de,eI.Is n_more F_more,(eDm.list n_de F_de).length≤1000,(eI.list n_mo F_mo).length≤1000,(eI.list n_more F_more).length≤1000,0<(eI.list n_mo F_mo).length+(eI.list n_more F_more).length,∀d,d∈(eDm.list n_de F_de)→d.co.length=(eI.list n_mo F_mo).length],[.c (.sl false (M.planes (eI.list n_mo F_mo) (eDm.list n_de F_de) (eI.list n_more F_more)).length 4 (ePn.F (M.planes (eI.list n_mo F_mo) (eDm.list n_de F_de) (eI.list n_more F_more))))])
  |_=>none)
 |_=>none
def v153:Nat×Sm:=(153,fokSm dom153)
end Go.Pl
end
section
set_option maxRecDepth 100000
namespace Go.Pl
open Go.V Go.Proofs
def k153_1(mo:List Int)(more:List Int):=(mo.length:Int)+(more.length:Int)
def k153_2(y:Int×List Plane×PUnit)(de:List Dem)(more:List Int):=joinF (List.length (Prod.fst (Prod.snd y))) (Enc.F ePn (Prod.fst (Prod.snd y))) fun(i j:Nat)=>List.getD [D.sl true (List.length (List.append (Enc.list eI (List.length (Dem.co (List.getD de (Int.toNat (Prod.fst y)) dfD))) (Enc.F eI (Dem.co (List.getD de (Int.toNat (Prod.fst y)) dfD)))) (Enc.list eI (List.length more) (Enc.F eI more)))) (1:Nat) (Enc.F eI (List.append (Enc.list eI (List.length (Dem.co (List.getD de (Int.toNat (Prod.fst y)) dfD))) (Enc.F eI (Dem.co (List.getD de (Int.toNat (Prod.fst y)) dfD)))) (Enc.list eI (List.length more) (Enc.F eI more)))),D.int IntKind.i64 (Dem.am (List.getD de (Int.toNat (Prod.fst y)) dfD)),D.int IntKind.i64 (Prod.fst y),D.int IntKind.i64 (-1:Int)] (i*(4:Nat)+j) D.nilp
def k153_3(mo:List Int)(more:List Int):=Int.toNat (IntKind.i64.wrap (k153_1 mo more))≤Int.toNat (IntKind.i64.wrap (k153_1 mo more))
def tr153(q_mo:Bool)(mo:List Int)(q_ga:Bool)(ga:List Int)(q_de:Bool)(de:List Dem)(q_more:Bool)(more:List Int):T (List Ar):=
  T.loop2 (Int×PUnit×PUnit) (Int×List Plane×PUnit) (Sum.inl ((0:Int),PUnit.unit,PUnit.unit)) (fun(x:Int×PUnit×PUnit)=>T.br (decide (x.1<(de.length:Int))) (T.need ((0:Int)≤x.1) (T.need (x.1<(de.length:Int)) (T.need (Enc.Is eI (List.length (Dem.co (de.getD x.1.toNat dfD))) (Enc.F eI (Dem.co (de.getD x.1.toNat dfD)))) (T.need (Enc.Is eI more.length (Enc.F eI more)) (T.need ((0:Nat)<List.length (Dem.co (de.getD x.1.toNat dfD))+more.length) (T.need (List.length (Dem.co (de.getD x.1.toNat dfD))+more.length≤1000000) (T.need ((1:Nat)≤1000000) (T.need (Enc.Is ePn (1:Nat) (joinF (0:Nat) (fun(_ _:Nat)=>D.nilp) fun(i j:Nat)=>List.getD [D.sl true (List.length (List.append (Enc.list eI (List.length (Dem.co (de.getD x.1.toNat dfD))) (Enc.F eI (Dem.co (de.getD x.1.toNat dfD)))) (Enc.list eI more.length (Enc.F eI more)))) (1:Nat) (Enc.F eI (List.append (Enc.list eI (List.length (Dem.co (de.getD x.1.toNat dfD))) (Enc.F eI (Dem.co (de.getD x.1.toNat dfD)))) (Enc.list eI more.length (Enc.F eI more)))),D.int IntKind.i64 (Dem.am (de.getD x.1.toNat dfD)),D.int IntKind.i64 x.1,D.int IntKind.i64 (-1:Int)] (i*4+j) D.nilp)) (T.need ((1:Nat)≤1) (T.ret (Sum.inl (Sum.inr (IntKind.i64.wrap (x.1+1),Enc.list ePn (1:Nat) (joinF (0:Nat) (fun(_ _:Nat)=>D.nilp) fun(i j:Nat)=>List.getD [D.sl true (List.length (List.append (Enc.list eI (List.length (Dem.co (de.getD x.1.toNat dfD))) (Enc.F eI (Dem.co (de.getD x.1.toNat dfD)))) (Enc.list eI more.length (Enc.F eI more)))) (1:Nat) (Enc.F eI (List.append (Enc.list eI (List.length (Dem.co (de.getD x.1.toNat dfD))) (Enc.F eI (Dem.co (de.getD x.1.toNat dfD)))) (Enc.list eI more.length (Enc.F eI more)))),D.int IntKind.i64 (Dem.am (de.getD x.1.toNat dfD)),D.int IntKind.i64 x.1,D.int IntKind.i64 (-1:Int)] (i*4+j) D.nilp),PUnit.unit))))))))))))) (T.loop2 (Int×PUnit×PUnit) (Int×List Plane×PUnit) (Sum.inl ((0:Int),PUnit.unit,PUnit.unit)) (fun(x_1:Int×PUnit×PUnit)=>T.br (decide (x_1.1<(mo.length:Int))) (T.need ((0:Int)≤x_1.1) (T.need (x_1.1<(mo.length:Int)) (T.need ((0:Int)≤IntKind.i64.wrap (k153_1 mo more)) (T.need (IntKind.i64.wrap (k153_1 mo more)≤IntKind.i64.wrap (k153_1 mo more)) (T.need (IntKind.i64.wrap (k153_1 mo more)≤1000000) (T.need ((0:Int)≤x_1.1) (T.need (x_1.1<(Nat.cast (R:=Int) (Int.toNat (IntKind.i64.wrap (k153_1 mo more))))) (T.need (Int.toNat x_1.1<Int.toNat (IntKind.i64.wrap (k153_1 mo more))) (T.need (k153_3 mo more) (T.need ((1:Nat)≤1000000) (T.need (Enc.Is ePn (1:Nat) (joinF (0:Nat) (fun(_ _:Nat)=>D.nilp) fun(i j:Nat)=>List.getD [D.sl true (Int.toNat (IntKind.i64.wrap (k153_1 mo more))) (1:Nat) (putF x_1.1.toNat (0:Nat) (1:Nat) [D.int IntKind.i64 (1:Int)] fun(x j:Nat)=>List.getD [D.int IntKind.i64 (0:Int)] j D.nilp),D.int IntKind.i64 (mo.getD x_1.1.toNat (0:Int)),D.int IntKind.i64 (-1:Int),D.int IntKind.i64 x_1.1] (i*4+j) D.nilp)) (T.need ((1:Nat)≤1) (T.ret (Sum.inl (Sum.inr (IntKind.i64.wrap (x_1.1+1),Enc.list ePn (1:Nat) (joinF (0:Nat) (fun(_ _:Nat)=>D.nilp) fun(i j:Nat)=>List.getD [D.sl true (Int.toNat (IntKind.i64.wrap (k153_1 mo more))) (1:Nat) (putF x_1.1.toNat (0:Nat) (1:Nat) [D.int IntKind.i64 (1:Int)] fun(x j:Nat)=>List.getD [D.int IntKind.i64 (0:Int)] j D.nilp),D.int IntKind.i64 (mo.getD x_1.1.toNat (0:Int)),D.int IntKind.i64 (-1:Int),D.int IntKind.i64 x_1.1] (i*4+j) D.nilp),PUnit.unit)))))))))))))))) (T.loop2 (Int×PUnit×PUnit) (Int×List Plane×PUnit) (Sum.inl ((0:Int),PUnit.unit,PUnit.unit)) (fun(x_2:Int×PUnit×PUnit)=>T.br (decide (x_2.1<IntKind.i64.wrap (k153_1 mo more))) (T.need ((0:Int)≤IntKind.i64.wrap (k153_1 mo more)) (T.need (IntKind.i64.wrap (k153_1 mo more)≤IntKind.i64.wrap (k153_1 mo more)) (T.need (IntKind.i64.wrap (k153_1 mo more)≤1000000) (T.need ((0:Int)≤x_2.1) (T.need (x_2.1<(Nat.cast (R:=Int) (Int.toNat (IntKind.i64.wrap (k153_1 mo more))))) (T.need (Int.toNat x_2.1<Int.toNat (IntKind.i64.wrap (k153_1 mo more))) (T.need (k153_3 mo more) (T.need ((1:Nat)≤1000000) (T.need (Enc.Is ePn (1:Nat) (joinF (0:Nat) (fun(_ _:Nat)=>D.nilp) fun(i j:Nat)=>List.getD [D.sl true (Int.toNat (IntKind.i64.wrap (k153_1 mo more))) (1:Nat) (putF x_2.1.toNat (0:Nat) (1:Nat) [D.int IntKind.i64 (-1:Int)] fun(x j:Nat)=>List.getD [D.int IntKind.i64 (0:Int)] j D.nilp),D.int IntKind.i64 (0:Int),D.int IntKind.i64 (-1:Int),D.int IntKind.i64 (-1:Int)] (i*4+j) D.nilp)) (T.need ((1:Nat)≤1) (T.ret (Sum.inl (Sum.inr (IntKind.i64.wrap (x_2.1+1),Enc.list ePn (1:Nat) (joinF (0:Nat) (fun(_ _:Nat)=>D.nilp) fun(i j:Nat)=>List.getD [D.sl true (Int.toNat (IntKind.i64.wrap (k153_1 mo more))) (1:Nat) (putF x_2.1.toNat (0:Nat) (1:Nat) [D.int IntKind.i64 (-1:Int)] fun(x j:Nat)=>List.getD [D.int IntKind.i64 (0:Int)] j D.nilp),D.int IntKind.i64 (0:Int),D.int IntKind.i64 (-1:Int),D.int IntKind.i64 (-1:Int)] (i*4+j) D.nilp),PUnit.unit)))))))))))))) (T.ret (Sum.inr (Sum.inr (Sum.inr [Ar.c (D.sl false (0:Nat) (0:Nat) (fun(_ _:Nat)=>D.nilp))]))))) fun(y:Int×List Plane×PUnit)=>T.br (decide (y.1<IntKind.i64.wrap (k153_1 mo more))) (T.need ((0:Int)≤IntKind.i64.wrap (k153_1 mo more)) (T.need (IntKind.i64.wrap (k153_1 mo more)≤IntKind.i64.wrap (k153_1 mo more)) (T.need (IntKind.i64.wrap (k153_1 mo more)≤1000000) (T.need ((0:Int)≤y.1) (T.need (y.1<(Nat.cast (R:=Int) (Int.toNat (IntKind.i64.wrap (k153_1 mo more))))) (T.need (Int.toNat y.1<Int.toNat (IntKind.i64.wrap (k153_1 mo more))) (T.need (k153_3 mo more) (T.need (List.length (y.2.1)+1≤1000000) (T.need (List.length (y.2.1)≤List.length (y.2.1)) (T.need (Enc.Is ePn (List.length (y.2.1)+1) (joinF (List.length (y.2.1)) (Enc.F ePn (y.2.1)) fun(i j:Nat)=>List.getD [D.sl true (Int.toNat (IntKind.i64.wrap (k153_1 mo more))) (1:Nat) (putF y.1.toNat (0:Nat) (1:Nat) [D.int IntKind.i64 (-1:Int)] fun(x j:Nat)=>List.getD [D.int IntKind.i64 (0:Int)] j D.nilp),D.int IntKind.i64 (0:Int),D.int IntKind.i64 (-1:Int),D.int IntKind.i64 (-1:Int)] (i*4+j) D.nilp)) (T.need (List.length (y.2.1)+1≤List.length (y.2.1)+1) (T.ret (Sum.inl (Sum.inr (IntKind.i64.wrap (y.1+1),Enc.list ePn (List.length (y.2.1)+1) (joinF (List.length (y.2.1)) (Enc.F ePn (y.2.1)) fun(i j:Nat)=>List.getD [D.sl true (Int.toNat (IntKind.i64.wrap (k153_1 mo more))) (1:Nat) (putF y.1.toNat (0:Nat) (1:Nat) [D.int IntKind.i64 (-1:Int)] fun(x j:Nat)=>List.getD [D.int IntKind.i64 (0:Int)] j D.nilp),D.int IntKind.i64 (0:Int),D.int IntKind.i64 (-1:Int),D.int IntKind.i64 (-1:Int)] (i*4+j) D.nilp),PUnit.unit))))))))))))))) (T.need (List.length (y.2.1)≤List.length (y.2.1)) (T.ret (Sum.inr (Sum.inr (Sum.inr [Ar.c (D.sl true (List.length (y.2.1)) (4:Nat) (Enc.F ePn (y.2.1)))]))))))) fun(y:Int×List Plane×PUnit)=>T.br (decide (y.1<(mo.length:Int))) (T.need ((0:Int)≤y.1) (T.need (y.1<(mo.length:Int)) (T.need ((0:Int)≤IntKind.i64.wrap (k153_1 mo more)) (T.need (IntKind.i64.wrap (k153_1 mo more)≤IntKind.i64.wrap (k153_1 mo more)) (T.need (IntKind.i64.wrap (k153_1 mo more)≤1000000) (T.need ((0:Int)≤y.1) (T.need (y.1<(Nat.cast (R:=Int) (Int.toNat (IntKind.i64.wrap (k153_1 mo more))))) (T.need (Int.toNat y.1<Int.toNat (IntKind.i64.wrap (k153_1 mo more))) (T.need (k153_3 mo more) (T.need (List.length (y.2.1)+1≤1000000) (T.need (List.length (y.2.1)≤List.length (y.2.1)) (T.need (Enc.Is ePn (List.length (y.2.1)+1) (joinF (List.length (y.2.1)) (Enc.F ePn (y.2.1)) fun(i j:Nat)=>List.getD [D.sl true (Int.toNat (IntKind.i64.wrap (k153_1 mo more))) (1:Nat) (putF y.1.toNat (0:Nat) (1:Nat) [D.int IntKind.i64 (1:Int)] fun(x j:Nat)=>List.getD [D.int IntKind.i64 (0:Int)] j D.nilp),D.int IntKind.i64 (mo.getD y.1.toNat (0:Int)),D.int IntKind.i64 (-1:Int),D.int IntKind.i64 y.1] (i*4+j) D.nilp)) (T.need (List.length (y.2.1)+1≤List.length (y.2.1)+1) (T.ret (Sum.inl (Sum.inr (IntKind.i64.wrap (y.1+1),Enc.list ePn (List.length (y.2.1)+1) (joinF (List.length (y.2.1)) (Enc.F ePn (y.2.1)) fun(i j:Nat)=>List.getD [D.sl true (Int.toNat (IntKind.i64.wrap (k153_1 mo more))) (1:Nat) (putF y.1.toNat (0:Nat) (1:Nat) [D.int IntKind.i64 (1:Int)] fun(x j:Nat)=>List.getD [D.int IntKind.i64 (0:Int)] j D.nilp),D.int IntKind.i64 (mo.getD y.1.toNat (0:Int)),D.int IntKind.i64 (-1:Int),D.int IntKind.i64 y.1] (i*4+j) D.nilp),PUnit.unit))))))))))))))))) (T.need (Enc.Is ePn (List.length (y.2.1)) (Enc.F ePn (y.2.1))) (T.need (List.length (y.2.1)≤List.length (y.2.1)) (T.loop (Int×List Plane×PUnit) ((0:Int),Enc.list ePn (List.length (y.2.1)) (Enc.F ePn (y.2.1)),PUnit.unit) fun(x_1:Int×List Plane×PUnit)=>T.br (decide (x_1.1<IntKind.i64.wrap (k153_1 mo more))) (T.need ((0:Int)≤IntKind.i64.wrap (k153_1 mo more)) (T.need (IntKind.i64.wrap (k153_1 mo more)≤IntKind.i64.wrap (k153_1 mo more)) (T.need (IntKind.i64.wrap (k153_1 mo more)≤1000000) (T.need ((0:Int)≤x_1.1) (T.need (x_1.1<(Nat.cast (R:=Int) (Int.toNat (IntKind.i64.wrap (k153_1 mo more))))) (T.need (Int.toNat x_1.1<Int.toNat (IntKind.i64.wrap (k153_1 mo more))) (T.need (k153_3 mo more) (T.need (List.length (x_1.2.1)+1≤1000000) (T.need (List.length (x_1.2.1)≤List.length (x_1.2.1)) (T.need (Enc.Is ePn (List.length (x_1.2.1)+1) (joinF (List.length (x_1.2.1)) (Enc.F ePn (x_1.2.1)) fun(i j:Nat)=>List.getD [D.sl true (Int.toNat (IntKind.i64.wrap (k153_1 mo more))) (1:Nat) (putF x_1.1.toNat (0:Nat) (1:Nat) [D.int IntKind.i64 (-1:Int)] fun(x j:Nat)=>List.getD [D.int IntKind.i64 (0:Int)] j D.nilp),D.int IntKind.i64 (0:Int),D.int IntKind.i64 (-1:Int),D.int IntKind.i64 (-1:Int)] (i*4+j) D.nilp)) (T.need (List.length (x_1.2.1)+1≤List.length (x_1.2.1)+1) (T.ret (Sum.inl (IntKind.i64.wrap (x_1.1+1),Enc.list ePn (List.length (x_1.2.1)+1) (joinF (List.length (x_1.2.1)) (Enc.F ePn (x_1.2.1)) fun(i j:Nat)=>List.getD [D.sl true (Int.toNat (IntKind.i64.wrap (k153_1 mo more))) (1:Nat) (putF x_1.1.toNat (0:Nat) (1:Nat) [D.int IntKind.i64 (-1:Int)] fun(x j:Nat)=>List.getD [D.int IntKind.i64 (0:Int)] j D.nilp),D.int IntKind.i64 (0:Int),D.int IntKind.i64 (-1:Int),D.int IntKind.i64 (-1:Int)] (i*4+j) D.nilp),PUnit.unit)))))))))))))) (T.need (List.length (x_1.2.1)≤List.length (x_1.2.1)) (T.ret (Sum.inr (Sum.inr (Sum.inr [Ar.c (D.sl true (List.length (x_1.2.1)) (4:Nat) (Enc.F ePn (x_1.2.1)))])))))))))) fun(y:Int×List Plane×PUnit)=>T.br (decide (y.1<(de.length:Int))) (T.need ((0:Int)≤y.1) (T.need (y.1<(de.length:Int)) (T.need (Enc.Is eI (List.length (Dem.co (de.getD y.1.toNat dfD))) (Enc.F eI (Dem.co (de.getD y.1.toNat dfD)))) (T.need (Enc.Is eI more.length (Enc.F eI more)) (T.need ((0:Nat)<List.length (Dem.co (de.getD y.1.toNat dfD))+more.length) (T.need (List.length (Dem.co (de.getD y.1.toNat dfD))+more.length≤1000000) (T.need (List.length (y.2.1)+1≤1000000) (T.need (List.length (y.2.1)≤List.length (y.2.1)) (T.need (Enc.Is ePn (List.length (y.2.1)+1) (k153_2 y de more)) (T.need (List.length (y.2.1)+1≤List.length (y.2.1)+1) (T.ret (Sum.inl (Sum.inr (IntKind.i64.wrap (y.1+1),Enc.list ePn (List.length (y.2.1)+1) (k153_2 y de more),PUnit.unit)))))))))))))) (T.need (Enc.Is ePn (List.length (y.2.1)) (Enc.F ePn (y.2.1))) (T.need (List.length (y.2.1)≤List.length (y.2.1)) (T.loop (Int×List Plane×PUnit) ((0:Int),Enc.list ePn (List.length (y.2.1)) (Enc.F ePn (y.2.1)),PUnit.unit) fun(x:Int×List Plane×PUnit)=>T.br (decide (x.1<(mo.length:Int))) (T.need ((0:Int)≤x.1) (T.need (x.1<(mo.length:Int)) (T.need ((0:Int)≤IntKind.i64.wrap (k153_1 mo more)) (T.need (IntKind.i64.wrap (k153_1 mo more)≤IntKind.i64.wrap (k153_1 mo more)) (T.need (IntKind.i64.wrap (k153_1 mo more)≤1000000) (T.need ((0:Int)≤x.1) (T.need (x.1<(Nat.cast (R:=Int) (Int.toNat (IntKind.i64.wrap (k153_1 mo more))))) (T.need (Int.toNat x.1<Int.toNat (IntKind.i64.wrap (k153_1 mo more))) (T.need (k153_3 mo more) (T.need (List.length (x.2.1)+1≤1000000) (T.need (List.length (x.2.1)≤List.length (x.2.1)) (T.need (Enc.Is ePn (List.length (x.2.1)+1) (joinF (List.length (x.2.1)) (Enc.F ePn (x.2.1)) fun(i j:Nat)=>List.getD [D.sl true (Int.toNat (IntKind.i64.wrap (k153_1 mo more))) (1:Nat) (putF x.1.toNat (0:Nat) (1:Nat) [D.int IntKind.i64 (1:Int)] fun(x j:Nat)=>List.getD [D.int IntKind.i64 (0:Int)] j D.nilp),D.int IntKind.i64 (mo.getD x.1.toNat (0:Int)),D.int IntKind.i64 (-1:Int),D.int IntKind.i64 x.1] (i*4+j) D.nilp)) (T.need (List.length (x.2.1)+1≤List.length (x.2.1)+1) (T.ret (Sum.inl (IntKind.i64.wrap (x.1+1),Enc.list ePn (List.length (x.2.1)+1) (joinF (List.length (x.2.1)) (Enc.F ePn (x.2.1)) fun(i j:Nat)=>List.getD [D.sl true (Int.toNat (IntKind.i64.wrap (k153_1 mo more))) (1:Nat) (putF x.1.toNat (0:Nat) (1:Nat) [D.int IntKind.i64 (1:Int)] fun(x j:Nat)=>List.getD [D.int IntKind.i64 (0:Int)] j D.nilp),D.int IntKind.i64 (mo.getD x.1.toNat (0:Int)),D.int IntKind.i64 (-1:Int),D.int IntKind.i64 x.1] (i*4+j) D.nilp),PUnit.unit)))))))))))))))) (T.need (Enc.Is ePn (List.length (x.2.1)) (Enc.F ePn (x.2.1))) (T.need (List.length (x.2.1)≤List.length (x.2.1)) (T.loop (Int×List Plane×PUnit) ((0:Int),Enc.list ePn (List.length (x.2.1)) (Enc.F ePn (x.2.1)),PUnit.unit) fun(x_1:Int×List Plane×PUnit)=>T.br (decide (x_1.1<IntKind.i64.wrap (k153_1 mo more))) (T.need ((0:Int)≤IntKind.i64.wrap (k153_1 mo more)) (T.need (IntKind.i64.wrap (k153_1 mo more)≤IntKind.i64.wrap (k153_1 mo more)) (T.need (IntKind.i64.wrap (k153_1 mo more)≤1000000) (T.need ((0:Int)≤x_1.1) (T.need (x_1.1<(Nat.cast (R:=Int) (Int.toNat (IntKind.i64.wrap (k153_1 mo more))))) (T.need (Int.toNat x_1.1<Int.toNat (IntKind.i64.wrap (k153_1 mo more))) (T.need (k153_3 mo more) (T.need (List.length (x_1.2.1)+1≤1000000) (T.need (List.length (x_1.2.1)≤List.length (x_1.2.1)) (T.need (Enc.Is ePn (List.length (x_1.2.1)+1) (joinF (List.length (x_1.2.1)) (Enc.F ePn (x_1.2.1)) fun(i j:Nat)=>List.getD [D.sl true (Int.toNat (IntKind.i64.wrap (k153_1 mo more))) (1:Nat) (putF x_1.1.toNat (0:Nat) (1:Nat) [D.int IntKind.i64 (-1:Int)] fun(x j:Nat)=>List.getD [D.int IntKind.i64 (0:Int)] j D.nilp),D.int IntKind.i64 (0:Int),D.int IntKind.i64 (-1:Int),D.int IntKind.i64 (-1:Int)] (i*4+j) D.nilp)) (T.need (List.length (x_1.2.1)+1≤List.length (x_1.2.1)+1) (T.ret (Sum.inl (IntKind.i64.wrap (x_1.1+1),Enc.list ePn (List.length (x_1.2.1)+1) (joinF (List.length (x_1.2.1)) (Enc.F ePn (x_1.2.1)) fun(i j:Nat)=>List.getD [D.sl true (Int.toNat (IntKind.i64.wrap (k153_1 mo more))) (1:Nat) (putF x_1.1.toNat (0:Nat) (1:Nat) [D.int IntKind.i64 (-1:Int)] fun(x j:Nat)=>List.getD [D.int IntKind.i64 (0:Int)] j D.nilp),D.int IntKind.i64 (0:Int),D.int IntKind.i64 (-1:Int),D.int IntKind.i64 (-1:Int)] (i*4+j) D.nilp),PUnit.unit)))))))))))))) (T.need (List.length (x_1.2.1)≤List.length (x_1.2.1)) (T.ret (Sum.inr (Sum.inr (Sum.inr [Ar.c (D.sl true (List.length (x_1.2.1)) (4:Nat) (Enc.F ePn (x_1.2.1)))])))))))))))
theorem t153(q_mo:Bool)(mo:List Int)(q_ga:Bool)(ga:List Int)(q_de:Bool)(de:List Dem)(q_more:Bool)(more:List Int):runFnX Try.prog G0 (lookS [v182]) (fun f=>match f with|153=>[(5,[.slot 25 (.int .i64),.slot 7 .nsl],some [.slot 25 (.int .i64),.slot 7 (.rowE 206 ePn)]),(10,[.slot 47 (.int .i64),.slot 7 .nsl],some [.slot 47 (.int .i64),.slot 7 (.rowE 206 ePn)]),(15,[.slot 63 (.int .i64),.slot 7 .nsl],some [.slot 63 (.int .i64),.slot 7 (.rowE 206 ePn)])]|_=>[]) [181] 1 60 4 153 Try.f153 [.agg [.sl q_mo mo.length 1 (eI.F mo),.sl q_ga ga.length 1 (eI.F ga),.sl q_de de.length 3 (eDm.F de)],.c (.sl q_more more.length 1 (eI.F more))] =
  tr153 q_mo mo q_ga ga q_de de q_more more:=by kernel_rfl
theorem w153(q_mo:Bool)(mo:List Int)(q_ga:Bool)(ga:List Int)(q_de:Bool)(de:List Dem)(q_more:Bool)(more:List Int)(h1:de.length≤1000)(h2:mo.length≤1000)(h3:more.length≤1000)(h0:0<mo.length+more.length)(hco:∀d,d∈de→d.co.length=mo.length) :
  (tr153 q_mo mo q_ga ga q_de de q_more more).wp (fun rs=>rsEqv rs [.c (.sl false (M.planes mo de more).length 4 (ePn.F (M.planes mo de more)))]):=by
 unfold tr153
 have hN:IntKind.i64.wrap ((mo.length:Int)+(more.length:Int))=((mo.length+more.length:Nat):Int):=by rw[wrap_id (by omega) (by omega)];omega
 simp only[k153_1,k153_2,k153_3,hN,Int.toNat_natCast,Enc.list_F]
 refine⟨fun z=>match z with|.inl x=>x.1=((0:Nat):Int)∧([]:List Plane)=[]|.inr y=>∃k:Nat,k≤de.length∧y.1=(k:Int)∧y.2.1=([]:List Plane)++(List.range k).map (M.pDe more de),fun z=>match z with|.inl x=>de.length+1|.inr y=>de.length-y.1.toNat,⟨rfl,rfl⟩,?_,?_⟩
 ·rintro ⟨y,u1,u2⟩ ⟨hy,hpre⟩
  simp only at hy
  have hpre:([]:List Plane)=[]:=hpre
  have hy:y=((0:Nat):Int):=hy
  subst hy
  have hw:IntKind.i64.wrap (((0:Nat):Int)+1)=((0+1:Nat):Int):=wrap_succ (by omega)
  refine⟨fun hb=>?_,fun hb=>?_⟩
  ·have hlt:=lt_of_dec hb
   have hcl:(de.getD 0 dfD).co.length=mo.length:=hco _ (getD_mem hlt)
   have hla:(List.append (de.getD 0 dfD).co more).length=mo.length+more.length:=by show((de.getD 0 dfD).co++more).length=_;rw[List.length_append,hcl]
   obtain⟨e1,e2⟩:=pn_push (a:=(de.getD 0 dfD).am) (b:=((0:Nat):Int)) (c:= -1) (Enc.is_F eI (List.append (de.getD 0 dfD).co more) _) (Enc.list_F eI (List.append (de.getD 0 dfD).co more))
   obtain⟨o1,o2⟩:=push_one ePn (F:=fun _ _=>.nilp) e1 e2
   have o3:[(M.pDe more de) 0]=([]:List Plane)++(List.range (0+1)).map (M.pDe more de):=by rw[hpre];rfl
   dsimp only[Int.toNat_natCast,hw]
   simp only[Int.toNat_natCast,hw,Enc.list_F]
   repeat (refine⟨(by first|exact Enc.is_F _ _ _|exact Nat.le_refl _|assumption|exact o1|omega),?_⟩)
   have mu:de.length-((0+1:Nat):Int).toNat<de.length+1:=by omega
   exact⟨⟨0+1,hlt,rfl,o2.trans o3⟩,mu⟩
  ·have hge:=ge_of_dec hb
   have hz:de.length=0:=by omega
   have hzA:=hz
   refine⟨fun z=>match z with|.inl x=>x.1=((0:Nat):Int)∧((List.range de.length).map (M.pDe more de))=[]|.inr y=>∃k:Nat,k≤mo.length∧y.1=(k:Int)∧y.2.1=((List.range de.length).map (M.pDe more de))++(List.range k).map (M.pMo (mo.length+more.length) mo),fun z=>match z with|.inl x=>mo.length+1|.inr y=>mo.length-y.1.toNat,⟨rfl,by rw[hzA];rfl⟩,?_,?_⟩
   ·rintro ⟨y,u1,u2⟩ ⟨hy,hpre⟩
    simp only at hy
    have hpre:((List.range de.length).map (M.pDe more de))=[]:=hpre
    have hy:y=((0:Nat):Int):=hy
    subst hy
    have hw:IntKind.i64.wrap (((0:Nat):Int)+1)=((0+1:Nat):Int):=wrap_succ (by omega)
    refine⟨fun hb=>?_,fun hb=>?_⟩
    ·have hlt:=lt_of_dec hb
     obtain⟨r1,r2⟩:=unit_row (n:=mo.length+more.length) (i:=0) (m:=1) (v:=1) (by omega) rfl
     obtain⟨e1,e2⟩:=pn_push (a:=mo.getD 0 0) (b:= -1) (c:=((0:Nat):Int)) r1 r2
     obtain⟨o1,o2⟩:=push_one ePn (F:=fun _ _=>.nilp) e1 e2
     have o3:[(M.pMo (mo.length+more.length) mo) 0]=((List.range de.length).map (M.pDe more de))++(List.range (0+1)).map (M.pMo (mo.length+more.length) mo):=by rw[hpre];rfl
     dsimp only[Int.toNat_natCast,hw]
     simp only[Int.toNat_natCast,hw,Enc.list_F]
     repeat (refine⟨(by first|exact Enc.is_F _ _ _|exact Nat.le_refl _|assumption|exact o1|omega),?_⟩)
     have mu:mo.length-((0+1:Nat):Int).toNat<mo.length+1:=by omega
     exact⟨⟨0+1,hlt,rfl,o2.trans o3⟩,mu⟩
    ·have hge:=ge_of_dec hb
     have hz:mo.length=0:=by omega
     have hz1:=hz
     have hpre0:((List.range de.length).map (M.pDe more de))=[]:=by rw[hzA];rfl
     refine⟨fun z=>match z with|.inl x=>x.1=((0:Nat):Int)∧(((List.range de.length).map (M.pDe more de))++(List.range mo.length).map (M.pMo (mo.length+more.length) mo))=[]|.inr y=>∃k:Nat,k≤(mo.length+more.length)∧y.1=(k:Int)∧y.2.1=(((List.range de.length).map (M.pDe more de))++(List.range mo.length).map (M.pMo (mo.length+more.length) mo))++(List.range k).map (M.pNn (mo.length+more.length)),fun z=>match z with|.inl x=>(mo.length+more.length)+1|.inr y=>(mo.length+more.length)-y.1.toNat,⟨rfl,by rw[hpre0,hz1];rfl⟩,?_,?_⟩
     ·rintro ⟨y,u1,u2⟩ ⟨hy,hpre⟩
      simp only at hy
      have hpre:(((List.range de.length).map (M.pDe more de))++(List.range mo.length).map (M.pMo (mo.length+more.length) mo))=[]:=hpre
      have hy:y=((0:Nat):Int):=hy
      subst hy
      have hw:IntKind.i64.wrap (((0:Nat):Int)+1)=((0+1:Nat):Int):=wrap_succ (by omega)
      refine⟨fun hb=>?_,fun hb=>?_⟩
      ·have hlt:=lt_of_dec hb
       obtain⟨r1,r2⟩:=unit_row (n:=mo.length+more.length) (i:=0) (m:=1) (v:= -1) (by omega) rfl
       obtain⟨e1,e2⟩:=pn_push (a:=0) (b:= -1) (c:= -1) r1 r2
       obtain⟨o1,o2⟩:=push_one ePn (F:=fun _ _=>.nilp) e1 e2
       have o3:[(M.pNn (mo.length+more.length)) 0]=(((List.range de.length).map (M.pDe more de))++(List.range mo.length).map (M.pMo (mo.length+more.length) mo))++(List.range (0+1)).map (M.pNn (mo.length+more.length)):=by rw[hpre];rfl
       dsimp only[Int.toNat_natCast,hw]
       simp only[Int.toNat_natCast,hw,Enc.list_F]
       repeat (refine⟨(by first|exact Enc.is_F _ _ _|exact Nat.le_refl _|assumption|exact o1|omega),?_⟩)
       have mu:(mo.length+more.length)-((0+1:Nat):Int).toNat<(mo.length+more.length)+1:=by omega
       exact⟨⟨0+1,hlt,rfl,o2.trans o3⟩,mu⟩
      ·have hge:=ge_of_dec hb
       have hz:(mo.length+more.length)=0:=by omega
       exact absurd h0 (by omega)
     ·rintro ⟨y,acc,u⟩ ⟨k,hk,hy,ha⟩
      simp only at hy ha
      subst hy
      have hal:acc.length≤5000:=by rw[ha];simp only[List.length_append,List.length_map,List.length_range,List.length_nil];omega
      have hw:IntKind.i64.wrap ((k:Int)+1)=((k+1:Nat):Int):=wrap_succ (by omega)
      refine⟨fun hb=>?_,fun hb=>?_⟩
      ·have hlt:=lt_of_dec hb
       obtain⟨r1,r2⟩:=unit_row (n:=mo.length+more.length) (i:=k) (m:=1) (v:= -1) (by omega) rfl
       obtain⟨e1,e2⟩:=pn_push (a:=0) (b:= -1) (c:= -1) r1 r2
       obtain⟨o1,o2⟩:=ePn.push (l:=acc) e1 e2
       have o3:acc++ [(M.pNn (mo.length+more.length)) k]=(((List.range de.length).map (M.pDe more de))++(List.range mo.length).map (M.pMo (mo.length+more.length) mo))++(List.range (k+1)).map (M.pNn (mo.length+more.length)):=by rw[ha,List.range_succ,List.map_append,List.append_assoc];rfl
       dsimp only[Int.toNat_natCast,hw]
       simp only[Int.toNat_natCast,hw,Enc.list_F]
       repeat (refine⟨(by first|exact Enc.is_F _ _ _|exact Nat.le_refl _|assumption|exact o1|omega),?_⟩)
       have mu:(mo.length+more.length)-((k+1:Nat):Int).toNat<(mo.length+more.length)-((k:Nat):Int).toNat:=by omega
       exact⟨⟨k+1,hlt,rfl,o2.trans o3⟩,mu⟩
      ·have hge:=ge_of_dec hb
       obtain rfl:k=(mo.length+more.length):=by omega
       repeat (refine⟨(by first|exact Enc.is_F _ _ _|exact Nat.le_refl _|assumption|exact o1|omega),?_⟩)
       have hfin:acc=M.planes mo de more:=by rw[ha];unfold M.planes;rw[List.append_assoc]
       subst hfin
       exact⟨⟨(fun e=>by cases e),rfl,fun _=>rfl,fun i j _ _=>D.eqv_refl _⟩,trivial⟩
   ·rintro ⟨y,acc,u⟩ ⟨k,hk,hy,ha⟩
    simp only at hy ha
    subst hy
    have hal:acc.length≤5000:=by rw[ha];simp only[List.length_append,List.length_map,List.length_range,List.length_nil];omega
    have hw:IntKind.i64.wrap ((k:Int)+1)=((k+1:Nat):Int):=wrap_succ (by omega)
    refine⟨fun hb=>?_,fun hb=>?_⟩
    ·have hlt:=lt_of_dec hb
     obtain⟨r1,r2⟩:=unit_row (n:=mo.length+more.length) (i:=k) (m:=1) (v:=1) (by omega) rfl
     obtain⟨e1,e2⟩:=pn_push (a:=mo.getD k 0) (b:= -1) (c:=((k:Nat):Int)) r1 r2
     obtain⟨o1,o2⟩:=ePn.push (l:=acc) e1 e2
     have o3:acc++ [(M.pMo (mo.length+more.length) mo) k]=((List.range de.length).map (M.pDe more de))++(List.range (k+1)).map (M.pMo (mo.length+more.length) mo):=by rw[ha,List.range_succ,List.map_append,List.append_assoc];rfl
     dsimp only[Int.toNat_natCast,hw]
     simp only[Int.toNat_natCast,hw,Enc.list_F]
     repeat (refine⟨(by first|exact Enc.is_F _ _ _|exact Nat.le_refl _|assumption|exact o1|omega),?_⟩)
     have mu:mo.length-((k+1:Nat):Int).toNat<mo.length-((k:Nat):Int).toNat:=by omega
     exact⟨⟨k+1,hlt,rfl,o2.trans o3⟩,mu⟩
    ·have hge:=ge_of_dec hb
     obtain rfl:k=mo.length:=by omega
     repeat (refine⟨(by first|exact Enc.is_F _ _ _|exact Nat.le_refl _|assumption|exact o1|omega),?_⟩)
     refine⟨fun y=>∃k:Nat,k≤(mo.length+more.length)∧y.1=(k:Int)∧y.2.1=(((List.range de.length).map (M.pDe more de))++(List.range mo.length).map (M.pMo (mo.length+more.length) mo))++(List.range k).map (M.pNn (mo.length+more.length)),fun y=>(mo.length+more.length)-y.1.toNat,⟨0,Nat.zero_le _,rfl,by simp only[List.range_zero,List.map_nil,List.append_nil];exact ha⟩,?_⟩
     rintro ⟨y,acc,u⟩ ⟨k,hk,hy,ha⟩
     simp only at hy ha
     subst hy
     have hal:acc.length≤5000:=by rw[ha];simp only[List.length_append,List.length_map,List.length_range,List.length_nil];omega
     have hw:IntKind.i64.wrap ((k:Int)+1)=((k+1:Nat):Int):=wrap_succ (by omega)
     refine⟨fun hb=>?_,fun hb=>?_⟩
     ·have hlt:=lt_of_dec hb
      obtain⟨r1,r2⟩:=unit_row (n:=mo.length+more.length) (i:=k) (m:=1) (v:= -1) (by omega) rfl
      obtain⟨e1,e2⟩:=pn_push (a:=0) (b:= -1) (c:= -1) r1 r2
      obtain⟨o1,o2⟩:=ePn.push (l:=acc) e1 e2
      have o3:acc++ [(M.pNn (mo.length+more.length)) k]=(((List.range de.length).map (M.pDe more de))++(List.range mo.length).map (M.pMo (mo.length+more.length) mo))++(List.range (k+1)).map (M.pNn (mo.length+more.length)):=by rw[ha,List.range_succ,List.map_append,List.append_assoc];rfl
      dsimp only[Int.toNat_natCast,hw]
      simp only[Int.toNat_natCast,hw,Enc.list_F]
      repeat (refine⟨(by first|exact Enc.is_F _ _ _|exact Nat.le_refl _|assumption|exact o1|omega),?_⟩)
      have mu:(mo.length+more.length)-((k+1:Nat):Int).toNat<(mo.length+more.length)-((k:Nat):Int).toNat:=by omega
      exact⟨⟨k+1,hlt,rfl,o2.trans o3⟩,mu⟩
     ·have hge:=ge_of_dec hb
      obtain rfl:k=(mo.length+more.length):=by omega
      repeat (refine⟨(by first|exact Enc.is_F _ _ _|exact Nat.le_refl _|assumption|exact o1|omega),?_⟩)
      have hfin:acc=M.planes mo de more:=by rw[ha];unfold M.planes;rw[List.append_assoc]
      subst hfin
      exact⟨⟨(fun e=>by cases e),rfl,fun _=>rfl,fun i j _ _=>D.eqv_refl _⟩,trivial⟩
 ·rintro ⟨y,acc,u⟩ ⟨k,hk,hy,ha⟩
  simp only at hy ha
  subst hy
  have hal:acc.length≤5000:=by rw[ha];simp only[List.length_append,List.length_map,List.length_range,List.length_nil];omega
  have hw:IntKind.i64.wrap ((k:Int)+1)=((k+1:Nat):Int):=wrap_succ (by omega)
  refine⟨fun hb=>?_,fun hb=>?_⟩
  ·have hlt:=lt_of_dec hb
   have hcl:(de.getD k dfD).co.length=mo.length:=hco _ (getD_mem hlt)
   have hla:(List.append (de.getD k dfD).co more).length=mo.length+more.length:=by show((de.getD k dfD).co++more).length=_;rw[List.length_append,hcl]
   obtain⟨e1,e2⟩:=pn_push (a:=(de.getD k dfD).am) (b:=((k:Nat):Int)) (c:= -1) (Enc.is_F eI (List.append (de.getD k dfD).co more) _) (Enc.list_F eI (List.append (de.getD k dfD).co more))
   obtain⟨o1,o2⟩:=ePn.push (l:=acc) e1 e2
   have o3:acc++ [(M.pDe more de) k]=([]:List Plane)++(List.range (k+1)).map (M.pDe more de):=by rw[ha,List.range_succ,List.map_append,List.append_assoc];rfl
   dsimp only[Int.toNat_natCast,hw]
   simp only[Int.toNat_natCast,hw,Enc.list_F]
   repeat (refine⟨(by first|exact Enc.is_F _ _ _|exact Nat.le_refl _|assumption|exact o1|omega),?_⟩)
   have mu:de.length-((k+1:Nat):Int).toNat<de.length-((k:Nat):Int).toNat:=by omega
   exact⟨⟨k+1,hlt,rfl,o2.trans o3⟩,mu⟩
  ·have hge:=ge_of_dec hb
   obtain rfl:k=de.length:=by omega
   repeat (refine⟨(by first|exact Enc.is_F _ _ _|exact Nat.le_refl _|assumption|exact o1|omega),?_⟩)
   refine⟨fun y=>∃k:Nat,k≤mo.length∧y.1=(k:Int)∧y.2.1=((List.range de.length).map (M.pDe more de))++(List.range k).map (M.pMo (mo.length+more.length) mo),fun y=>mo.length-y.1.toNat,⟨0,Nat.zero_le _,rfl,by simp only[List.range_zero,List.map_nil,List.append_nil];rw[ha];rfl⟩,?_⟩
   rintro ⟨y,acc,u⟩ ⟨k,hk,hy,ha⟩
   simp only at hy ha
   subst hy
   have hal:acc.length≤5000:=by rw[ha];simp only[List.length_append,List.length_map,List.length_range,List.length_nil];omega
   have hw:IntKind.i64.wrap ((k:Int)+1)=((k+1:Nat):Int):=wrap_succ (by omega)
   refine⟨fun hb=>?_,fun hb=>?_⟩
   ·have hlt:=lt_of_dec hb
    obtain⟨r1,r2⟩:=unit_row (n:=mo.length+more.length) (i:=k) (m:=1) (v:=1) (by omega) rfl
    obtain⟨e1,e2⟩:=pn_push (a:=mo.getD k 0) (b:= -1) (c:=((k:Nat):Int)) r1 r2
    obtain⟨o1,o2⟩:=ePn.push (l:=acc) e1 e2
    have o3:acc++ [(M.pMo (mo.length+more.length) mo) k]=((List.range de.length).map (M.pDe more de))++(List.range (k+1)).map (M.pMo (mo.length+more.length) mo):=by rw[ha,List.range_succ,List.map_append,List.append_assoc];rfl
    dsimp only[Int.toNat_natCast,hw]
    simp only[Int.toNat_natCast,hw,Enc.list_F]
    repeat (refine⟨(by first|exact Enc.is_F _ _ _|exact Nat.le_refl _|assumption|exact o1|omega),?_⟩)
    have mu:mo.length-((k+1:Nat):Int).toNat<mo.length-((k:Nat):Int).toNat:=by omega
    exact⟨⟨k+1,hlt,rfl,o2.trans o3⟩,mu⟩
   ·have hge:=ge_of_dec hb
    obtain rfl:k=mo.length:=by omega
    repeat (refine⟨(by first|exact Enc.is_F _ _ _|exact Nat.le_refl _|assumption|exact o1|omega),?_⟩)
    refine⟨fun y=>∃k:Nat,k≤(mo.length+more.length)∧y.1=(k:Int)∧y.2.1=(((List.range de.length).map (M.pDe more de))++(List.range mo.length).map (M.pMo (mo.length+more.length) mo))++(List.range k).map (M.pNn (mo.length+more.length)),fun y=>(mo.length+more.length)-y.1.toNat,⟨0,Nat.zero_le _,rfl,by simp only[List.range_zero,List.map_nil,List.append_nil];exact ha⟩,?_⟩
    rintro ⟨y,acc,u⟩ ⟨k,hk,hy,ha⟩
    simp only at hy ha
    subst hy
    have hal:acc.length≤5000:=by rw[ha];simp only[List.length_append,List.length_map,List.length_range,List.length_nil];omega
    have hw:IntKind.i64.wrap ((k:Int)+1)=((k+1:Nat):Int):=wrap_succ (by omega)
    refine⟨fun hb=>?_,fun hb=>?_⟩
    ·have hlt:=lt_of_dec hb
     obtain⟨r1,r2⟩:=unit_row (n:=mo.length+more.length) (i:=k) (m:=1) (v:= -1) (by omega) rfl
     obtain⟨e1,e2⟩:=pn_push (a:=0) (b:= -1) (c:= -1) r1 r2
     obtain⟨o1,o2⟩:=ePn.push (l:=acc) e1 e2
     have o3:acc++ [(M.pNn (mo.length+more.length)) k]=(((List.range de.length).map (M.pDe more de))++(List.range mo.length).map (M.pMo (mo.length+more.length) mo))++(List.range (k+1)).map (M.pNn (mo.length+more.length)):=by rw[ha,List.range_succ,List.map_append,List.append_assoc];rfl
     dsimp only[Int.toNat_natCast,hw]
     simp only[Int.toNat_natCast,hw,Enc.list_F]
     repeat (refine⟨(by first|exact Enc.is_F _ _ _|exact Nat.le_refl _|assumption|exact o1|omega),?_⟩)
     have mu:(mo.length+more.length)-((k+1:Nat):Int).toNat<(mo.length+more.length)-((k:Nat):Int).toNat:=by omega
     exact⟨⟨k+1,hlt,rfl,o2.trans o3⟩,mu⟩
    ·have hge:=ge_of_dec hb
     obtain rfl:k=(mo.length+more.length):=by omega
     repeat (refine⟨(by first|exact Enc.is_F _ _ _|exact Nat.le_refl _|assumption|exact o1|omega),?_⟩)
     have hfin:acc=M.planes mo de more:=by rw[ha];unfold M.planes;rw[List.append_assoc]
     subst hfin
     exact⟨⟨(fun e=>by cases e),rfl,fun _=>rfl,fun i j _ _=>D.eqv_refl _⟩,trivial⟩
theorem C153:FOK Try.prog G0 gw 153 dom153:=by
 intro ags p r hd hp κ w xs hw hl hG hx
 unfold dom153 at hd
 split at hd
 ·rename_i q_mo n_mo st_mo F_mo q_ga n_ga st_ga F_ga q_de n_de st_de F_de q_more n_more st_more F_more
  split at hd
  ·rename_i hst
   simp only[Bool.and_eq_true]at hst
   obtain⟨⟨⟨g1,g2⟩,g3⟩,g4⟩:=hst
   simp only[Option.some.injEq,Prod.mk.injEq]at hd
   obtain⟨rfl,rfl⟩:=hd
   obtain⟨hI_mo,hI_ga,hI_de,hI_more,hp⟩:=hp
   have heq:agsEqv [.agg [.sl q_mo n_mo st_mo F_mo,.sl q_ga n_ga st_ga F_ga,.sl q_de n_de st_de F_de],.c (.sl q_more n_more st_more F_more)] [.agg [.sl q_mo (eI.list n_mo F_mo).length 1 (eI.F (eI.list n_mo F_mo)),.sl q_ga (eI.list n_ga F_ga).length 1 (eI.F (eI.list n_ga F_ga)),.sl q_de (eDm.list n_de F_de).length 3 (eDm.F (eDm.list n_de F_de))],.c (.sl q_more (eI.list n_more F_more).length 1 (eI.F (eI.list n_more F_more)))]:=⟨⟨eI.toz g1 hI_mo,eI.toz g2 hI_ga,eDm.toz g3 hI_de,trivial⟩,eI.toz g4 hI_more,trivial⟩
   have len_mo:(eI.list n_mo F_mo).length=n_mo:=eI.list_len
   have len_ga:(eI.list n_ga F_ga).length=n_ga:=eI.list_len
   have len_de:(eDm.list n_de F_de).length=n_de:=eDm.list_len
   have len_more:(eI.list n_more F_more).length=n_more:=eI.list_len
   generalize eI.list n_mo F_mo=mo at *
   generalize eI.list n_ga F_ga=ga at *
   generalize eDm.list n_de F_de=de at *
   generalize eI.list n_more F_more=more at *
   subst len_mo len_ga len_de len_more
   exact fokX_fin mixed gw_stable (sl:=[v182]) ⟨S182,trivial⟩ Try.func153 hw hl hG hx heq rfl (t153 _ _ _ _ _ _ _ _) (w153 _ _ _ _ _ _ _ _ hp.1 hp.2.1 hp.2.2.1 hp.2.2.2.1 hp.2.2.2.2.1)
  ·cases hd
 ·cases hd
theorem S153:SumOK Try.prog G0 gw 153 (fokSm dom153):=fok_sum Try.func153 rfl C153
end Go.Pl
end
section
set_option maxRecDepth 100000
namespace Go.Pl
open Go.V Go.Proofs
def dom150s:DomR
 |[.c (.sl q n st F)]=>(match Nat.beq st 1 with
  |true=>some ([q=true,eI.Is n F,n≤1000000],rowI (eI.list n F))
  |_=>none)
 |_=>none
def v150s:Nat×Sm:=(150,fokSmR dom150s)
theorem C150s:FOKR Try.prog G0 gw 150 dom150s:=by
 intro ags p r hd hp κ w xs hw hl hG hx
 unfold dom150s at hd
 split at hd
 ·rename_i q n st F
  split at hd
  ·rename_i hst
   simp only[Option.some.injEq,Prod.mk.injEq]at hd
   obtain⟨rfl,rfl⟩:=hd
   obtain⟨hq,hI,hn,_⟩:=hp
   subst hq
   exact C150r [.c (.sl true n st F)] [eI.Is n F,n≤1000000] (rowI (eI.list n F)) (by unfold dom150r;simp only[hst]) ⟨hI,hn,trivial⟩ κ w xs hw hl hG hx
  ·cases hd
 ·cases hd
theorem S150s:SumOK Try.prog G0 gw 150 (fokSmR dom150s):=fokR_sum Try.func150 rfl C150s
def dom154q(N:Nat):DomF
 |[.c (.sl true n st F),.c (.sl _ k st' G)]=>(match Nat.beq st 1&&Nat.beq st' 1&&Nat.beq n N&&Nat.beq k N,rowsT N n F with
  |true,some (m,p)=>some (eI.Is k G::p,[.c (.sl (M.solve m (eI.list k G)).2.2 (M.solve m (eI.list k G)).1.length 1 (eI.F (M.solve m (eI.list k G)).1)),rI (M.solve m (eI.list k G)).2.1,rB (M.solve m (eI.list k G)).2.2])
  |_,_=>none)
 |_=>none
def v154q(N:Nat):Nat×Sm:=(154,fokSm (dom154q N))
theorem sure_rel{κ:Still}{q:Bool}{n st:Nat}{F:Nat→Nat→D}{x:Value}(hn:0<n)(h:(D.sl q n st F).rel κ x):(D.sl true n st F).rel κ x:=by
 rcases h with⟨_,h0,_⟩|h
 ·omega
 ·exact .inr h
theorem C154q{N:Nat}(hN:0<N)(h:FOK Try.prog G0 gw 154 (dom154 N)):FOK Try.prog G0 gw 154 (dom154q N):=by
 intro ags p r hd hp κ w xs hw hl hG hx
 unfold dom154q at hd
 split at hd
 ·rename_i n st F q k st' G
  have hk:0<k:=by
   split at hd
   ·rename_i m p' hst hm
    simp only[Bool.and_eq_true]at hst
    have:=Nat.eq_of_beq_eq_true hst.2
    omega
   ·cases hd
  cases hx with
  |cons h1 hx=>
   cases hx with
   |cons h2 hx=>
    exact h [.c (.sl true n st F),.c (.sl true k st' G)] p r hd hp κ w _ hw hl hG (.cons h1 (.cons (sure_rel hk h2) hx))
 ·cases hd
theorem S154q{N:Nat}(hN:0<N)(h:FOK Try.prog G0 gw 154 (dom154 N)):SumOK Try.prog G0 gw 154 (fokSm (dom154q N)):=fok_sum Try.func154 rfl (C154q hN h)
end Go.Pl
end
section
set_option maxRecDepth 100000
namespace Go.Pl
open Go.V Go.Proofs
abbrev dfQ:Plane:=Enc.dflt ePn
abbrev cellP(p:Plane):Nat→Nat→D:=fun i j=>List.getD [D.sl true p.co.length 1 (eI.F p.co),dI p.am,dI p.de,dI p.dr] (i*4+j) D.nilp
def amJ(P:Nat→Plane):Nat→Nat→Nat→D
 |0=>fun _ _=>.nilp
 |k+1=>joinF k (amJ P k) (inQ (P k).am)
def matP(P:Nat→Plane)(n:Nat):List (List Int):=(List.range n).map fun j=>cI (P j).co
def solP(P:Nat→Plane)(n:Nat):List Int×Int×Bool:=M.solve (matP P n) (Enc.list eI n (amJ P n))
inductive Sg(A Z:Type) where
 |p
 |a (x:A)
 |b (z:Z)
abbrev SgF(A Z:Type):=Sg A Z×(Nat→Nat→D)
structure Kit(A B Z:Type) where
 a0:A
 need:Z→List Prop
 pack:Z→B
 unp:B→Z
def needRows(n:Nat)(P:Nat→Plane):List Prop:=(List.range n).flatMap fun j=>[iI (P j).co,(P j).co.length=n]
def needApp:Nat→Nat→List Prop
 |_,0=>[]
 |n,j+1=>needApp n j++([(0:Int)≤(j:Int),(j:Int)<(n:Int),j<n]++(match j with|0=>[1≤1000000,1≤1000000]|j+1=>[j+2≤1000000,j+1≤j+1,j+2≤1000000,j+1≤j+1]))
section
variable {A B Z : Type} (K : Kit A B Z)
def cutT{R S:Type}(d:Nat)(k:Int)(fA:Int×List Plane×A→R)(fB:Int×List Plane×B→R):SgF A Z→T (R ⊕ S)
 |(.p,J)=>T.needs [(0:Int)≤(d:Int),(d:Int)≤((d+1:Nat):Int),ePn.Is d J,d≤d+1] (.ret (.inl (fA (IntKind.i64.wrap (k+1),Enc.list ePn d J,K.a0))))
 |(.a x,J)=>T.needs [(0:Int)≤(d:Int),(d:Int)≤((d+1:Nat):Int),ePn.Is d J,d≤d+1] (.ret (.inl (fA (IntKind.i64.wrap (k+1),Enc.list ePn d J,x))))
 |(.b z,J)=>T.needs ([(0:Int)≤(d:Int),(d:Int)≤((d+1:Nat):Int),ePn.Is d J,d≤d+1]++K.need z) (.ret (.inl (fB (IntKind.i64.wrap (k+1),Enc.list ePn d J,K.pack z))))
def cutB{S:Type}(d:Nat)(k:Int):SgF A Z→T ((Int×List Plane×B) ⊕ S)
 |(.b z,J)=>T.needs ([(0:Int)≤(d:Int),(d:Int)≤((d+1:Nat):Int),ePn.Is d J,d≤d+1]++K.need z) (.ret (.inl (IntKind.i64.wrap (k+1),Enc.list ePn d J,K.pack z)))
 |_=>.fail
def chP(d:Nat)(X:List Plane)(q:Plane)(j:Nat):Plane:=match Nat.blt j d with|true=>X.getD j dfQ|false=>q
variable (AL : List Plane)
def rndT{R:Type}(nx:(Nat→Nat→D)→(Nat→Plane)→Int→Sg A Z→T (SgF A Z))(r d:Nat)(k:Int)(X:List Plane)(s:Sg A Z)(cut:Int→SgF A Z→T (R ⊕ SgF A Z)):T (R ⊕ SgF A Z):=
 .br (decide (k≤IntKind.i64.wrap ((AL.length:Int)-((r+1:Nat):Int)))) (T.needs [0≤k,k<(AL.length:Int),d+1≤1000000,d≤d]
  ((nx (joinF d (ePn.F X) (cellP (AL.getD k.toNat dfQ))) (chP d X (AL.getD k.toNat dfQ)) (IntKind.i64.wrap (k+1)) s).bind (cut k))) (.ret (.inr (s,ePn.F X)))
variable (corn : (Nat → Plane) → Sg A Z → T (Sg A Z))
def levT:(r:Nat)→(d:Nat)→(F:Nat→Nat→D)→(P:Nat→Plane)→Int→Sg A Z→T (SgF A Z)
 |0,d,F,P,_,s=>(corn P s).bind fun s=>.ret (s,F)
 |r+1,d,F,P,i,s=>
  T.needs [ePn.Is d F,d≤d] (match s with
   |.p=>.loop2 (Int×List Plane×A) (Int×List Plane×B) (.inl (i,Enc.list ePn d F,K.a0))
     (fun x=>rndT AL (levT r (d+1)) r d x.1 x.2.1 (.a x.2.2) (fun k=>cutT K d k .inl .inr))
     (fun x=>rndT AL (levT r (d+1)) r d x.1 x.2.1 (.b (K.unp x.2.2)) (fun k=>cutT K d k .inl .inr))
   |.a z=>.loop2 (Int×List Plane×A) (Int×List Plane×B) (.inl (i,Enc.list ePn d F,z))
     (fun x=>rndT AL (levT r (d+1)) r d x.1 x.2.1 (.a x.2.2) (fun k=>cutT K d k .inl .inr))
     (fun x=>rndT AL (levT r (d+1)) r d x.1 x.2.1 (.b (K.unp x.2.2)) (fun k=>cutT K d k .inl .inr))
   |.b z=>T.needs (K.need z) (.loop (Int×List Plane×B) (i,Enc.list ePn d F,K.pack z)
     (fun x=>rndT AL (levT r (d+1)) r d x.1 x.2.1 (.b (K.unp x.2.2)) (fun k=>cutB K d k))))
def topT(n:Nat):T (SgF A Z):=
 .loop3 PUnit (Int×List Plane×A) (Int×List Plane×B) (.inl ⟨⟩)
  (fun _=>.br (decide ((0:Int)≤IntKind.i64.wrap ((AL.length:Int)-(n:Int)))) (T.needs [(0:Int)≤0,(0:Int)<(AL.length:Int),1≤1000000]
   ((levT K AL corn (n-1) 1 (joinF 0 (fun _ _=>.nilp) (cellP (AL.getD 0 dfQ))) (chP 0 [] (AL.getD 0 dfQ)) 1 .p).bind
    (cutT K 0 0 (fun v=>.inr (.inl v)) (fun v=>.inr (.inr v))))) (.ret (.inr (.p,fun _ _=>.nilp))))
  (fun x=>rndT AL (levT K AL corn (n-1) 1) (n-1) 0 x.1 x.2.1 (.a x.2.2) (fun k=>cutT K 0 k (fun v=>.inr (.inl v)) (fun v=>.inr (.inr v))))
  (fun x=>rndT AL (levT K AL corn (n-1) 1) (n-1) 0 x.1 x.2.1 (.b (K.unp x.2.2)) (fun k=>cutT K 0 k (fun v=>.inr (.inl v)) (fun v=>.inr (.inr v))))
end
abbrev A84:Type:=Int×Int×Int×PUnit×PUnit
abbrev B84:Type:=Int×Int×Int×List Int×PUnit
abbrev Z84:Type:=Int×Int×Int×Nat×(Nat→Nat→D)
def K84:Kit A84 B84 Z84 where
 a0:=(0,0,0,⟨⟩,⟨⟩)
 need:=fun z=>[eI.Is z.2.2.2.1 z.2.2.2.2,z.2.2.2.1≤z.2.2.2.1]
 pack:=fun z=>(z.1,z.2.1,z.2.2.1,Enc.list eI z.2.2.2.1 z.2.2.2.2,⟨⟩)
 unp:=fun b=>(b.1,b.2.1,b.2.2.1,b.2.2.2.1.length,eI.F b.2.2.2.1)
section
variable (AL : List Plane) (ga : List Int) (n : Nat)
abbrev St84:=Sg A84 Z84
def better(P:Nat→Plane):T St84:=
 T.needs [(solP P n).2.2=true,iI (solP P n).1,(solP P n).1.length≤1000000]
  (.ret (.b (M.dot (cI ga) (cI (solP P n).1),(solP P n).2.1,(solP P n).2.1,(cI (solP P n).1).length,fun i _=>dI ((cI (solP P n).1).getD i 0))))
def lessT(P:Nat→Plane)(nu gd ad:Int)(s:St84):T St84:=
 .br (ad==0) (better ga n P) (T.needs [i64ok nu,i64ok (M.dot (cI ga) (cI (solP P n).1)),0<gd∧gd<9223372036854775808,0<(solP P n).2.1∧(solP P n).2.1<9223372036854775808]
  (.br (M.less nu gd (M.dot (cI ga) (cI (solP P n).1)) (solP P n).2.1) (better ga n P) (.ret s)))
def tailT(P:Nat→Plane)(s:St84):T St84:=
 T.needs [iI ga,iI (solP P n).1,(cI ga).length≤1000000,(cI ga).length≤(cI (solP P n).1).length]
  (match s with
  |.p=>better ga n P
  |.a x=>lessT ga n P x.1 x.2.1 x.2.2.1 s
  |.b z=>lessT ga n P z.1 z.2.1 z.2.2.1 s)
def cornT(P:Nat→Plane)(s:St84):T St84:=
 T.needs (needApp n n++ [n≤n,n≤n,eI.Is n (amJ P n)]++needRows n P)
  (.br (!(solP P n).2.2) (.ret s)
   ((T.loop (Int×PUnit) (0,⟨⟩) fun x=>.br (decide (x.1<(AL.length:Int)))
    (T.needs [0≤x.1,x.1<(AL.length:Int),iI (AL.getD x.1.toNat dfQ).co,iI (solP P n).1,(cI (AL.getD x.1.toNat dfQ).co).length≤1000000,(cI (AL.getD x.1.toNat dfQ).co).length≤(cI (solP P n).1).length]
     (.br (decide (M.dot (cI (AL.getD x.1.toNat dfQ).co) (cI (solP P n).1)>IntKind.i64.wrap ((AL.getD x.1.toNat dfQ).am*(solP P n).2.1)))
      (.br (decide (x.1≥0)) (.ret (.inr (.inl ⟨⟩))) (.ret (.inr (.inr ⟨⟩))))
      (.ret (.inl (IntKind.i64.wrap (x.1+1),⟨⟩)))))
    (.ret (.inr (.inr ⟨⟩))):T (PUnit ⊕ PUnit)).bind fun r=>match r with
     |.inl _=>.ret s
     |.inr _=>tailT ga n P s))
end
abbrev withD(ad:Int)(u:List Int):Nat→Nat→D:=joinF u.length (fun i _=>dI (u.getD i 0)) (inQ ad)
def gcdT(ad:Int)(u:List Int):Int:=((M.gcdL (Enc.list eI (u.length+1) (withD ad u)):Nat):Int)
def putG(g k:Int)(l:List Int):Nat→Nat→D:=putF k.toNat 0 1 [dI (IntKind.i64.wrap (Int.tdiv (l.getD k.toNat 0) g))] (eI.F l)
def finB(nu gd ad:Int)(len:Nat)(F:Nat→Nat→D):T (List Ar):=
 .br (ad==0) (.need (len≤len) (.ret [.agg [dI nu,dI gd],.agg [dI ad,.sl true len 1 F],rB false]))
  (T.needs [len≤len,true=true,eI.Is len F,len≤1000000,(Enc.list eI len F).length+1≤1000000,(Enc.list eI len F).length≤(Enc.list eI len F).length,(Enc.list eI len F).length+1≤(Enc.list eI len F).length+1,
   eI.Is ((Enc.list eI len F).length+1) (withD ad (Enc.list eI len F)),(Enc.list eI ((Enc.list eI len F).length+1) (withD ad (Enc.list eI len F))).length≤1000000,
   ∀x,x∈Enc.list eI ((Enc.list eI len F).length+1) (withD ad (Enc.list eI len F))→i64ok x,eI.Is len F,len≤len]
   (.loop (Int×Int×List Int×PUnit) (0,ad,Enc.list eI len F,⟨⟩) fun x=>.br (decide (x.1<(len:Int)))
    (T.needs [0≤x.1,x.1<(x.2.2.1.length:Int),x.1.toNat<x.2.2.1.length,gcdT ad (Enc.list eI len F)≠0,0≤x.1,x.1<(x.2.2.1.length:Int),x.1.toNat<x.2.2.1.length,eI.Is x.2.2.1.length (putG (gcdT ad (Enc.list eI len F)) x.1 x.2.2.1),x.2.2.1.length≤x.2.2.1.length]
     (.ret (.inl (IntKind.i64.wrap (x.1+1),x.2.1,Enc.list eI x.2.2.1.length (putG (gcdT ad (Enc.list eI len F)) x.1 x.2.2.1),⟨⟩))))
    (T.needs [gcdT ad (Enc.list eI len F)≠0,x.2.2.1.length≤x.2.2.1.length]
     (.ret (.inr [.agg [dI nu,dI gd],.agg [dI (IntKind.i64.wrap (Int.tdiv x.2.1 (gcdT ad (Enc.list eI len F)))),.sl true x.2.2.1.length 1 (eI.F x.2.2.1)],rB true])))))
def finX:St84→T (List Ar)
 |.p=>.ret [.agg [dI 0,dI 0],.agg [dI 0,.sl false 0 0 (fun _ _=>.nilp)],rB false]
 |.a x=>.br (x.2.2.1==0) (.ret [.agg [dI x.1,dI x.2.1],.agg [dI x.2.2.1,.sl false 0 0 (fun _ _=>.nilp)],rB false]) .fail
 |.b z=>finB z.1 z.2.1 z.2.2.1 z.2.2.2.1 z.2.2.2.2
def needPl(n:Nat)(mo ga:List Int)(de:List Dem)(k:Nat)(F:Nat→Nat→D):List Prop:=
 [eI.Is n (eI.F mo),iI ga,eDm.Is de.length (eDm.F de),eI.Is k F,(cD de).length≤1000,(Enc.list eI n (eI.F mo)).length≤1000,(Enc.list eI k F).length≤1000,
  0<(Enc.list eI n (eI.F mo)).length+(Enc.list eI k F).length,∀d,d∈cD de→d.co.length=(Enc.list eI n (eI.F mo)).length]
def tr84(n:Nat)(mo ga:List Int)(de:List Dem):T (List Ar):=
 T.needs (needPl n mo ga de 0 (fun _ _=>.nilp)) ((topT K84 (M.planes (Enc.list eI n (eI.F mo)) (cD de) (Enc.list eI 0 (fun _ _=>D.nilp)))
  (cornT (M.planes (Enc.list eI n (eI.F mo)) (cD de) (Enc.list eI 0 (fun _ _=>D.nilp))) ga n) n).bind fun s=>finX s.1)
end Go.Pl
end
