/- The parts of the engines, of their contracts and of the plain laws that the claim rests on: A5, A7, A11, A12, A14, A15, A18, A2a, A2. -/
import Derived.Test.YtmlcblciegeniaaFJ3
set_option linter.unusedVariables false
set_option linter.unusedSimpArgs false
section
set_option maxRecDepth 100000
namespace Go.Pl
open Go.V Go.Proofs
namespace M
def less(n d m e:Int):Bool:=decide (n*e<m*d)
def least(l:List Int):Int:=l.foldl (fun a x=>if x<a then x else a) (l.getD 0 0)
end M
theorem rB_eqv{a b:Bool}(h:a=b):rsEqv [rB a] [rB b]:=by rw[h];exact rsEqv_refl _
theorem size_ok{n:Int}(h:i64ok n):IntKind.u64.wrap (if IntKind.i64.wrap (0-n)>n then IntKind.i64.wrap (0-n)else n)=(n.natAbs:Int):=by
 rw[abs_if h]
 unfold i64ok at h
 exact u64_id (by omega) (by omega)
def tr131(n d m e:Int):T (List Ar):=
  T.br (!decide (n<0)==decide (m<0)) (T.ret [Ar.c (D.bool (decide (n<0)))]) (T.needs [((0:Int)≤IntKind.wrap IntKind.u64 (if IntKind.i64.wrap ((0:Int)-n)>n then IntKind.i64.wrap ((0:Int)-n)else n)∧IntKind.wrap IntKind.u64 (if IntKind.i64.wrap ((0:Int)-n)>n then IntKind.i64.wrap ((0:Int)-n)else n)<18446744073709551616),((0:Int)≤IntKind.wrap IntKind.u64 e∧IntKind.wrap IntKind.u64 e<18446744073709551616),((0:Int)≤IntKind.wrap IntKind.u64 (if IntKind.i64.wrap ((0:Int)-m)>m then IntKind.i64.wrap ((0:Int)-m)else m)∧IntKind.wrap IntKind.u64 (if IntKind.i64.wrap ((0:Int)-m)>m then IntKind.i64.wrap ((0:Int)-m)else m)<18446744073709551616),((0:Int)≤IntKind.wrap IntKind.u64 d∧IntKind.wrap IntKind.u64 d<18446744073709551616)] (T.br (decide (M.mulHi (IntKind.wrap IntKind.u64 (if IntKind.i64.wrap ((0:Int)-n)>n then IntKind.i64.wrap ((0:Int)-n)else n)) (IntKind.wrap IntKind.u64 e)<M.mulHi (IntKind.wrap IntKind.u64 (if IntKind.i64.wrap ((0:Int)-m)>m then IntKind.i64.wrap ((0:Int)-m)else m)) (IntKind.wrap IntKind.u64 d))) (T.br (decide (M.mulHi (IntKind.wrap IntKind.u64 (if IntKind.i64.wrap ((0:Int)-n)>n then IntKind.i64.wrap ((0:Int)-n)else n)) (IntKind.wrap IntKind.u64 e)>M.mulHi (IntKind.wrap IntKind.u64 (if IntKind.i64.wrap ((0:Int)-m)>m then IntKind.i64.wrap ((0:Int)-m)else m)) (IntKind.wrap IntKind.u64 d))) (T.br (decide (n<0)) (T.ret [Ar.c (D.bool true)]) (T.ret [Ar.c (D.bool true)])) (T.br (M.mulHi (IntKind.wrap IntKind.u64 (if IntKind.i64.wrap ((0:Int)-n)>n then IntKind.i64.wrap ((0:Int)-n)else n)) (IntKind.wrap IntKind.u64 e)==M.mulHi (IntKind.wrap IntKind.u64 (if IntKind.i64.wrap ((0:Int)-m)>m then IntKind.i64.wrap ((0:Int)-m)else m)) (IntKind.wrap IntKind.u64 d)) (T.br (decide (n<0)) (T.ret [Ar.c (D.bool (decide (M.mulLo (IntKind.wrap IntKind.u64 (if IntKind.i64.wrap ((0:Int)-n)>n then IntKind.i64.wrap ((0:Int)-n)else n)) (IntKind.wrap IntKind.u64 e)>M.mulLo (IntKind.wrap IntKind.u64 (if IntKind.i64.wrap ((0:Int)-m)>m then IntKind.i64.wrap ((0:Int)-m)else m)) (IntKind.wrap IntKind.u64 d))))]) (T.ret [Ar.c (D.bool true)])) (T.br (decide (n<0)) (T.ret [Ar.c (D.bool false)]) (T.ret [Ar.c (D.bool true)])))) (T.br (M.mulHi (IntKind.wrap IntKind.u64 (if IntKind.i64.wrap ((0:Int)-n)>n then IntKind.i64.wrap ((0:Int)-n)else n)) (IntKind.wrap IntKind.u64 e)==M.mulHi (IntKind.wrap IntKind.u64 (if IntKind.i64.wrap ((0:Int)-m)>m then IntKind.i64.wrap ((0:Int)-m)else m)) (IntKind.wrap IntKind.u64 d)) (T.br (decide (M.mulHi (IntKind.wrap IntKind.u64 (if IntKind.i64.wrap ((0:Int)-n)>n then IntKind.i64.wrap ((0:Int)-n)else n)) (IntKind.wrap IntKind.u64 e)>M.mulHi (IntKind.wrap IntKind.u64 (if IntKind.i64.wrap ((0:Int)-m)>m then IntKind.i64.wrap ((0:Int)-m)else m)) (IntKind.wrap IntKind.u64 d))) (T.br (decide (n<0)) (T.ret [Ar.c (D.bool true)]) (T.ret [Ar.c (D.bool (decide (M.mulLo (IntKind.wrap IntKind.u64 (if IntKind.i64.wrap ((0:Int)-n)>n then IntKind.i64.wrap ((0:Int)-n)else n)) (IntKind.wrap IntKind.u64 e)<M.mulLo (IntKind.wrap IntKind.u64 (if IntKind.i64.wrap ((0:Int)-m)>m then IntKind.i64.wrap ((0:Int)-m)else m)) (IntKind.wrap IntKind.u64 d))))])) (T.br (M.mulHi (IntKind.wrap IntKind.u64 (if IntKind.i64.wrap ((0:Int)-n)>n then IntKind.i64.wrap ((0:Int)-n)else n)) (IntKind.wrap IntKind.u64 e)==M.mulHi (IntKind.wrap IntKind.u64 (if IntKind.i64.wrap ((0:Int)-m)>m then IntKind.i64.wrap ((0:Int)-m)else m)) (IntKind.wrap IntKind.u64 d)) (T.br (decide (n<0)) (T.ret [Ar.c (D.bool (decide (M.mulLo (IntKind.wrap IntKind.u64 (if IntKind.i64.wrap ((0:Int)-n)>n then IntKind.i64.wrap ((0:Int)-n)else n)) (IntKind.wrap IntKind.u64 e)>M.mulLo (IntKind.wrap IntKind.u64 (if IntKind.i64.wrap ((0:Int)-m)>m then IntKind.i64.wrap ((0:Int)-m)else m)) (IntKind.wrap IntKind.u64 d))))]) (T.ret [Ar.c (D.bool (decide (M.mulLo (IntKind.wrap IntKind.u64 (if IntKind.i64.wrap ((0:Int)-n)>n then IntKind.i64.wrap ((0:Int)-n)else n)) (IntKind.wrap IntKind.u64 e)<M.mulLo (IntKind.wrap IntKind.u64 (if IntKind.i64.wrap ((0:Int)-m)>m then IntKind.i64.wrap ((0:Int)-m)else m)) (IntKind.wrap IntKind.u64 d))))])) (T.br (decide (n<0)) (T.ret [Ar.c (D.bool false)]) (T.ret [Ar.c (D.bool (decide (M.mulLo (IntKind.wrap IntKind.u64 (if IntKind.i64.wrap ((0:Int)-n)>n then IntKind.i64.wrap ((0:Int)-n)else n)) (IntKind.wrap IntKind.u64 e)<M.mulLo (IntKind.wrap IntKind.u64 (if IntKind.i64.wrap ((0:Int)-m)>m then IntKind.i64.wrap ((0:Int)-m)else m)) (IntKind.wrap IntKind.u64 d))))])))) (T.br (decide (M.mulHi (IntKind.wrap IntKind.u64 (if IntKind.i64.wrap ((0:Int)-n)>n then IntKind.i64.wrap ((0:Int)-n)else n)) (IntKind.wrap IntKind.u64 e)>M.mulHi (IntKind.wrap IntKind.u64 (if IntKind.i64.wrap ((0:Int)-m)>m then IntKind.i64.wrap ((0:Int)-m)else m)) (IntKind.wrap IntKind.u64 d))) (T.br (decide (n<0)) (T.ret [Ar.c (D.bool true)]) (T.ret [Ar.c (D.bool false)])) (T.br (M.mulHi (IntKind.wrap IntKind.u64 (if IntKind.i64.wrap ((0:Int)-n)>n then IntKind.i64.wrap ((0:Int)-n)else n)) (IntKind.wrap IntKind.u64 e)==M.mulHi (IntKind.wrap IntKind.u64 (if IntKind.i64.wrap ((0:Int)-m)>m then IntKind.i64.wrap ((0:Int)-m)else m)) (IntKind.wrap IntKind.u64 d)) (T.br (decide (n<0)) (T.ret [Ar.c (D.bool (decide (M.mulLo (IntKind.wrap IntKind.u64 (if IntKind.i64.wrap ((0:Int)-n)>n then IntKind.i64.wrap ((0:Int)-n)else n)) (IntKind.wrap IntKind.u64 e)>M.mulLo (IntKind.wrap IntKind.u64 (if IntKind.i64.wrap ((0:Int)-m)>m then IntKind.i64.wrap ((0:Int)-m)else m)) (IntKind.wrap IntKind.u64 d))))]) (T.ret [Ar.c (D.bool false)])) (T.br (decide (n<0)) (T.ret [Ar.c (D.bool false)]) (T.ret [Ar.c (D.bool false)])))))))
theorem t131(n d m e:Int):runFnX Try.prog G0 (lookS [v169]) (fun _=>[]) [168] 1 40 3 131 Try.f131 [.agg [dI n,dI d],.agg [dI m,dI e]] =
  tr131 n d m e:=by kernel_rfl
theorem w131(n d m e:Int)(hn:i64ok n)(hm:i64ok m)(hd:0<d∧d<9223372036854775808)(he:0<e∧e<9223372036854775808):(tr131 n d m e).wp (fun rs=>rsEqv rs [rB (M.less n d m e)]):=by
 unfold tr131
 have wd:IntKind.u64.wrap d=d:=u64_id (by omega) (by omega)
 have we:IntKind.u64.wrap e=e:=u64_id (by omega) (by omega)
 simp only[size_ok hn,size_ok hm,wd,we]
 obtain⟨P,hP⟩:∃P,P=(n.natAbs:Int)*e:=⟨_,rfl⟩
 obtain⟨Q,hQ⟩:∃Q,Q=(m.natAbs:Int)*d:=⟨_,rfl⟩
 have p0:0≤P:=by rw[hP];exact Int.mul_nonneg (by omega) (by omega)
 have q0:0≤Q:=by rw[hQ];exact Int.mul_nonneg (by omega) (by omega)
 have pn:n<0→n*e= -P∧0<P:=by
  intro h
  have:(n.natAbs:Int)= -n:=by omega
  refine⟨by rw[hP,this,Int.neg_mul,Int.neg_neg],?_⟩
  rw[hP];exact Int.mul_pos (by omega) he.1
 have pp:0≤n→n*e=P:=by
  intro h
  have:(n.natAbs:Int)=n:=by omega
  rw[hP,this]
 have qn:m<0→m*d= -Q∧0<Q:=by
  intro h
  have:(m.natAbs:Int)= -m:=by omega
  refine⟨by rw[hQ,this,Int.neg_mul,Int.neg_neg],?_⟩
  rw[hQ];exact Int.mul_pos (by omega) hd.1
 have qp:0≤m→m*d=Q:=by
  intro h
  have:(m.natAbs:Int)=m:=by omega
  rw[hQ,this]
 have eh1:M.mulHi (n.natAbs:Int) e=P/18446744073709551616:=by rw[hP];rfl
 have eh2:M.mulHi (m.natAbs:Int) d=Q/18446744073709551616:=by rw[hQ];rfl
 have el1:M.mulLo (n.natAbs:Int) e=P%18446744073709551616:=by rw[hP];rfl
 have el2:M.mulLo (m.natAbs:Int) d=Q%18446744073709551616:=by rw[hQ];rfl
 simp only[eh1,eh2,el1,el2]
 unfold i64ok at hn hm
 have bn:0≤(n.natAbs:Int)∧(n.natAbs:Int)<18446744073709551616:=by omega
 have bm:0≤(m.natAbs:Int)∧(m.natAbs:Int)<18446744073709551616:=by omega
 have be:0≤e∧e<18446744073709551616:=by omega
 have bd:0≤d∧d<18446744073709551616:=by omega
 clear hP hQ eh1 eh2 el1 el2
 refine wp_br (fun h0=>?_) (fun h0=>⟨bn,be,bm,bd,?_⟩)
 ·refine rB_eqv ?_
  unfold M.less
  generalize n*e=X at *
  generalize m*d=Y at *
  rw[Bool.eq_iff_iff,decide_eq_true_eq,decide_eq_true_eq]
  by_cases a:n<0 <;>by_cases b:m<0
  ·rw[decide_eq_true a,decide_eq_true b]at h0;cases h0
  ·have:=pn a;have:=qp (by omega);omega
  ·have:=pp (by omega);have:=qn b;omega
  ·rw[decide_eq_false a,decide_eq_false b]at h0;cases h0
 ·have hs:(n<0∧m<0)∨(0≤n∧0≤m):=by
   by_cases a:n<0 <;>by_cases b:m<0
   ·exact .inl ⟨a,b⟩
   ·rw[decide_eq_true a,decide_eq_false b]at h0;cases h0
   ·rw[decide_eq_false a,decide_eq_true b]at h0;cases h0
   ·exact .inr ⟨by omega,by omega⟩
  clear h0
  unfold M.less
  generalize n*e=X at *
  generalize m*d=Y at *
  repeat' (refine wp_br (fun hh=>?_) (fun hh=>?_))
  all_goals(refine rB_eqv ?_;simp only[decide_eq_true_eq,decide_eq_false_iff_not,beq_iff_eq,beq_eq_false_iff_ne,ne_eq]at *;rw[Bool.eq_iff_iff];simp only[decide_eq_true_eq,Bool.false_eq_true,true_iff,false_iff];rcases hs with⟨a,b⟩|⟨a,b⟩ <;>first|(have:=pn a;have:=qn b;omega)|(have:=pp a;have:=qp b;omega))
def dom131:DomF
 |[.agg [.int .i64 n,.int .i64 d],.agg [.int .i64 m,.int .i64 e]]=>some ([i64ok n,i64ok m,0<d∧d<9223372036854775808,0<e∧e<9223372036854775808],[rB (M.less n d m e)])
 |_=>none
def v131:Nat×Sm:=(131,fokSm dom131)
theorem C131:FOK Try.prog G0 gw 131 dom131:=by
 intro ags p r hd hp κ w xs hw hl hG hx
 unfold dom131 at hd
 split at hd
 ·rename_i n d m e
  simp only[Option.some.injEq,Prod.mk.injEq]at hd
  obtain⟨rfl,rfl⟩:=hd
  exact fokX_fin mixed gw_stable (sl:=[v169]) ⟨S169,trivial⟩ Try.func131 hw hl hG hx (agsEqv_refl _) rfl (t131 n d m e) (w131 n d m e hp.1 hp.2.1 hp.2.2.1 hp.2.2.2.1)
 ·cases hd
theorem S131:SumOK Try.prog G0 gw 131 (fokSm dom131):=fok_sum Try.func131 rfl C131
def tr155(q_u:Bool)(u:List Int):T (List Ar):=
  T.br (decide ((u.length:Int)<1)) T.fail (T.need ((0:Int)≤0) (T.need ((0:Int)<(u.length:Int)) (T.loop (Int×Int×PUnit) ((1:Int),u.getD (0:Nat) (0:Int),PUnit.unit) fun(x:Int×Int×PUnit)=>T.br (decide (x.1<(u.length:Int))) (T.need ((0:Int)≤x.1) (T.need (x.1<(u.length:Int)) (T.ret (Sum.inl (IntKind.i64.wrap (x.1+1),if u.getD x.1.toNat (0:Int)<Prod.fst x.2then u.getD x.1.toNat (0:Int)else x.2.1,PUnit.unit))))) (T.ret (Sum.inr [Ar.c (D.int IntKind.i64 x.2.1)])))))
theorem t155(q_u:Bool)(u:List Int):runFnX Try.prog G0 (lookS []) (fun _=>[(5,[.slot 4 (.int .i64),.slot 3 (.int .i64)],none)]) [] 1 40 3 155 Try.f155 [.c (.sl q_u u.length 1 (eI.F u))] =
  tr155 q_u u:=by kernel_rfl
theorem least_succ{l:List Int}{k:Nat}(h:k<l.length)(a:Int):(l.take (k+1)).foldl (fun a x=>if x<a then x else a) a=(if l.getD k 0<(l.take k).foldl (fun a x=>if x<a then x else a) a then l.getD k 0 else(l.take k).foldl (fun a x=>if x<a then x else a) a):=by
 rw[List.take_succ_eq_append_getElem h,List.foldl_append]
 simp[h]
theorem w155(q:Bool)(l:List Int)(h0:0<l.length)(h1:l.length≤1000000):(tr155 q l).wp (fun rs=>rsEqv rs [rI (M.least l)]):=by
 unfold tr155
 refine wp_br (fun h=>absurd (of_decide_eq_true h) (by omega)) (fun _=>⟨by omega,by omega,?_⟩)
 refine⟨fun x=>∃k:Nat,1≤k∧k≤l.length∧x.1=k∧x.2.1=(l.take k).foldl (fun a x=>if x<a then x else a) (l.getD 0 0),fun x=>l.length-x.1.toNat,⟨1,Nat.le_refl _,h0,rfl,?_⟩,?_⟩
 ·cases l with
  |nil=>simp at h0
  |cons a l=>simp
 rintro ⟨x,a,u⟩ ⟨k,hk1,hk,hx,hI⟩
 simp only at hx hI
 subst hx
 refine wp_br (fun hb=>?_) (fun hb=>?_)
 ·have hlt:=lt_of_dec hb
  refine⟨by show(0:Int)≤k;omega,by show(k:Int)<l.length;omega,⟨k+1,by omega,hlt,wrap_succ (by omega),?_⟩,?_⟩
  ·subst hI
   rw[least_succ hlt];rfl
  ·show l.length-(IntKind.i64.wrap ((k:Int)+1)).toNat<l.length-(k:Int).toNat
   rw[wrap_succ (by omega)]
   omega
 ·have hge:=ge_of_dec hb
  obtain rfl:k=l.length:=by omega
  rw[List.take_length]at hI
  subst hI
  exact rsEqv_refl _
def dom155:DomF
 |[.c (.sl _ n_u st_u F_u)]=>(match Nat.beq st_u 1 with
  |true=>some ([eI.Is n_u F_u,0<(eI.list n_u F_u).length,(eI.list n_u F_u).length≤1000000],[rI (M.least (eI.list n_u F_u))])
  |_=>none)
 |_=>none
def v155:Nat×Sm:=(155,fokSm dom155)
theorem C155:FOK Try.prog G0 gw 155 dom155:=by
 intro ags p r hd hp κ w xs hw hl hG hx
 unfold dom155 at hd
 split at hd
 ·rename_i q_u n_u st_u F_u
  split at hd
  ·rename_i hst
   have g1:=hst
   have g1:=Nat.eq_of_beq_eq_true g1
   subst g1
   simp only[Option.some.injEq,Prod.mk.injEq]at hd
   obtain⟨rfl,rfl⟩:=hd
   obtain⟨hI_u,hp⟩:=hp
   have heq:agsEqv [.c (.sl q_u n_u 1 F_u)] [.c (.sl q_u (eI.list n_u F_u).length 1 (eI.F (eI.list n_u F_u)))]:=⟨eI.to id hI_u,trivial⟩
   have len_u:(eI.list n_u F_u).length=n_u:=eI.list_len
   generalize eI.list n_u F_u=u at *
   subst len_u
   exact fokX_fin mixed gw_stable (sl:=[]) trivial Try.func155 hw hl hG hx heq rfl (t155 _ _) (w155 _ _ hp.1 hp.2.1)
  ·cases hd
 ·cases hd
theorem S155:SumOK Try.prog G0 gw 155 (fokSm dom155):=fok_sum Try.func155 rfl C155
end Go.Pl
end
section
set_option maxRecDepth 100000
namespace Go.Pl
open Go.V Go.Proofs
def badF(f:Nat)(x:Int):Bool:=match f with
 |119=> !M.within x 0 1000000
 |170=> !M.within x 0 100000000000
 |171=> !M.within x 0 1000000000000000
 |_=> !M.small x 100
theorem any_step{l:List Int}{is:Int→Bool}{k:Nat}(h:k<l.length):(l.drop k).any is=(is (l.getD k 0)||(l.drop (k+1)).any is):=by
 rw[getD_drop (d:=0) h,List.any_cons]
def tr118_119(q:Bool)(u:List Int):T (List Ar):=
  T.loop (Int×PUnit) ((0:Int),PUnit.unit) fun(x:Int×PUnit)=>T.br (decide (x.1<(u.length:Int))) (T.need ((0:Int)≤x.1) (T.need (x.1<(u.length:Int)) (T.br (!M.within (u.getD x.1.toNat (0:Int)) (0:Int) (1000000:Int)) (T.ret (Sum.inr [Ar.c (D.bool (decide (x.1≥(0:Int))))])) (T.ret (Sum.inl (IntKind.i64.wrap (x.1+1),PUnit.unit)))))) (T.ret (Sum.inr [Ar.c (D.bool (decide ((-1:Int)≥(0:Int))))]))
theorem t118_119(q:Bool)(u:List Int):runFnX Try.prog G0 (lookS [v105,v121]) (fun _=>[(2,[.slot 8 (.int .i64)],none)]) [165,119] 1 40 6 118 Try.f118 [.c (.sl q u.length 1 (eI.F u)),.c (.op (.func (.func 119) #[] #[]))] =
  tr118_119 q u:=by kernel_rfl
theorem w118_119(q:Bool)(u:List Int)(h1:u.length≤1000000):(tr118_119 q u).wp (fun rs=>rsEqv rs [rB (u.any (badF 119))]):=by
 unfold tr118_119
 refine range_wp (n:=u.length) (fun k _=>u.any (badF 119)=(u.drop k).any (badF 119)) rfl ?_
 rintro k s hk hI
 refine wp_br (fun hb=>?_) (fun hb=>?_)
 ·have hlt:=lt_of_dec hb
  have hs:=any_step (is:=badF 119) hlt
  refine⟨by show(0:Int)≤k;omega,by show(k:Int)<u.length;omega,wp_br (fun hx=>?_) (fun hx=>?_)⟩
  ·have hx:badF 119 (u.getD k 0)=true:=hx
   rw[hx,Bool.true_or]at hs
   show rsEqv [rB (decide ((k:Int)≥0))] _
   rw[hI,hs,decide_eq_true (by omega)]
   exact rsEqv_refl _
  ·have hx:badF 119 (u.getD k 0)=false:=hx
   rw[hx,Bool.false_or]at hs
   exact⟨hlt,wrap_succ (by omega),hI.trans hs⟩
 ·have hge:=ge_of_dec hb
  obtain rfl:k=u.length:=by omega
  rw[hI,List.drop_length]
  exact rsEqv_refl _
def dom118_119:DomF
 |[.c (.sl _ n st F),.c (.op (.func (.func g) a b))]=>(match Nat.beq st 1&&Nat.beq g 119,a.toList,b.toList with
  |true,[],[]=>some ([eI.Is n F,n≤1000000],[rB ((eI.list n F).any (badF 119))])
  |_,_,_=>none)
 |_=>none
theorem C118_119:FOK Try.prog G0 gw 118 dom118_119:=by
 intro ags p r hd hp κ w xs hw hl hG hx
 unfold dom118_119 at hd
 split at hd
 ·rename_i q len st F g a b
  split at hd
  ·rename_i hst ha hb
   simp only[Bool.and_eq_true]at hst
   have h1:=Nat.eq_of_beq_eq_true hst.1
   have h2:=Nat.eq_of_beq_eq_true hst.2
   have ea:a= #[]:=by apply Array.ext';simpa using ha
   have eb:b= #[]:=by apply Array.ext';simpa using hb
   subst h1 h2 ea eb
   simp only[Option.some.injEq,Prod.mk.injEq]at hd
   obtain⟨rfl,rfl⟩:=hd
   obtain⟨hIs,hn,_⟩:=hp
   have heq:agsEqv [.c (.sl q len 1 F),.c (.op (.func (.func 119) #[] #[]))] [.c (.sl q (eI.list len F).length 1 (eI.F (eI.list len F))),.c (.op (.func (.func 119) #[] #[]))]:=⟨eI.to id hIs,Ag.eqv_refl _,trivial⟩
   exact fokX_fin mixed gw_stable (sl:=[v105,v121]) ⟨S105,S121,trivial⟩ Try.func118 hw hl hG hx heq rfl (t118_119 q _) (w118_119 q _ (by rw[Enc.list_len];exact hn))
  ·cases hd
 ·cases hd
def tr118_120(q:Bool)(u:List Int):T (List Ar):=
  T.loop (Int×PUnit) ((0:Int),PUnit.unit) fun(x:Int×PUnit)=>T.br (decide (x.1<(u.length:Int))) (T.needs [(0:Int)≤x.1,x.1<(u.length:Int),((0:Int)≤100∧(100:Int)<9223372036854775808)] (T.br (!M.small (u.getD x.1.toNat (0:Int)) (100:Int)) (T.ret (Sum.inr [Ar.c (D.bool (decide (x.1≥(0:Int))))])) (T.ret (Sum.inl (IntKind.i64.wrap (x.1+1),PUnit.unit))))) (T.ret (Sum.inr [Ar.c (D.bool (decide ((-1:Int)≥(0:Int))))]))
theorem t118_120(q:Bool)(u:List Int):runFnX Try.prog G0 (lookS [v105,v121]) (fun _=>[(2,[.slot 8 (.int .i64)],none)]) [165,120] 1 40 6 118 Try.f118 [.c (.sl q u.length 1 (eI.F u)),.c (.op (.func (.func 120) #[] #[]))] =
  tr118_120 q u:=by kernel_rfl
theorem w118_120(q:Bool)(u:List Int)(h1:u.length≤1000000):(tr118_120 q u).wp (fun rs=>rsEqv rs [rB (u.any (badF 120))]):=by
 unfold tr118_120
 refine range_wp (n:=u.length) (fun k _=>u.any (badF 120)=(u.drop k).any (badF 120)) rfl ?_
 rintro k s hk hI
 refine wp_br (fun hb=>?_) (fun hb=>?_)
 ·have hlt:=lt_of_dec hb
  have hs:=any_step (is:=badF 120) hlt
  refine⟨by show(0:Int)≤k;omega,by show(k:Int)<u.length;omega,by decide,wp_br (fun hx=>?_) (fun hx=>?_)⟩
  ·have hx:badF 120 (u.getD k 0)=true:=hx
   rw[hx,Bool.true_or]at hs
   show rsEqv [rB (decide ((k:Int)≥0))] _
   rw[hI,hs,decide_eq_true (by omega)]
   exact rsEqv_refl _
  ·have hx:badF 120 (u.getD k 0)=false:=hx
   rw[hx,Bool.false_or]at hs
   exact⟨hlt,wrap_succ (by omega),hI.trans hs⟩
 ·have hge:=ge_of_dec hb
  obtain rfl:k=u.length:=by omega
  rw[hI,List.drop_length]
  exact rsEqv_refl _
def dom118_120:DomF
 |[.c (.sl _ n st F),.c (.op (.func (.func g) a b))]=>(match Nat.beq st 1&&Nat.beq g 120,a.toList,b.toList with
  |true,[],[]=>some ([eI.Is n F,n≤1000000],[rB ((eI.list n F).any (badF 120))])
  |_,_,_=>none)
 |_=>none
theorem C118_120:FOK Try.prog G0 gw 118 dom118_120:=by
 intro ags p r hd hp κ w xs hw hl hG hx
 unfold dom118_120 at hd
 split at hd
 ·rename_i q len st F g a b
  split at hd
  ·rename_i hst ha hb
   simp only[Bool.and_eq_true]at hst
   have h1:=Nat.eq_of_beq_eq_true hst.1
   have h2:=Nat.eq_of_beq_eq_true hst.2
   have ea:a= #[]:=by apply Array.ext';simpa using ha
   have eb:b= #[]:=by apply Array.ext';simpa using hb
   subst h1 h2 ea eb
   simp only[Option.some.injEq,Prod.mk.injEq]at hd
   obtain⟨rfl,rfl⟩:=hd
   obtain⟨hIs,hn,_⟩:=hp
   have heq:agsEqv [.c (.sl q len 1 F),.c (.op (.func (.func 120) #[] #[]))] [.c (.sl q (eI.list len F).length 1 (eI.F (eI.list len F))),.c (.op (.func (.func 120) #[] #[]))]:=⟨eI.to id hIs,Ag.eqv_refl _,trivial⟩
   exact fokX_fin mixed gw_stable (sl:=[v105,v121]) ⟨S105,S121,trivial⟩ Try.func118 hw hl hG hx heq rfl (t118_120 q _) (w118_120 q _ (by rw[Enc.list_len];exact hn))
  ·cases hd
 ·cases hd
def tr118_124(q:Bool)(u:List Int):T (List Ar):=
  T.loop (Int×PUnit) ((0:Int),PUnit.unit) fun(x:Int×PUnit)=>T.br (decide (x.1<(u.length:Int))) (T.needs [(0:Int)≤x.1,x.1<(u.length:Int),((0:Int)≤100∧(100:Int)<9223372036854775808)] (T.br (!M.small (u.getD x.1.toNat (0:Int)) (100:Int)) (T.ret (Sum.inr [Ar.c (D.bool (decide (x.1≥(0:Int))))])) (T.ret (Sum.inl (IntKind.i64.wrap (x.1+1),PUnit.unit))))) (T.ret (Sum.inr [Ar.c (D.bool (decide ((-1:Int)≥(0:Int))))]))
theorem t118_124(q:Bool)(u:List Int):runFnX Try.prog G0 (lookS [v105,v121]) (fun _=>[(2,[.slot 8 (.int .i64)],none)]) [165,124] 1 40 6 118 Try.f118 [.c (.sl q u.length 1 (eI.F u)),.c (.op (.func (.func 124) #[] #[]))] =
  tr118_124 q u:=by kernel_rfl
theorem w118_124(q:Bool)(u:List Int)(h1:u.length≤1000000):(tr118_124 q u).wp (fun rs=>rsEqv rs [rB (u.any (badF 124))]):=by
 unfold tr118_124
 refine range_wp (n:=u.length) (fun k _=>u.any (badF 124)=(u.drop k).any (badF 124)) rfl ?_
 rintro k s hk hI
 refine wp_br (fun hb=>?_) (fun hb=>?_)
 ·have hlt:=lt_of_dec hb
  have hs:=any_step (is:=badF 124) hlt
  refine⟨by show(0:Int)≤k;omega,by show(k:Int)<u.length;omega,by decide,wp_br (fun hx=>?_) (fun hx=>?_)⟩
  ·have hx:badF 124 (u.getD k 0)=true:=hx
   rw[hx,Bool.true_or]at hs
   show rsEqv [rB (decide ((k:Int)≥0))] _
   rw[hI,hs,decide_eq_true (by omega)]
   exact rsEqv_refl _
  ·have hx:badF 124 (u.getD k 0)=false:=hx
   rw[hx,Bool.false_or]at hs
   exact⟨hlt,wrap_succ (by omega),hI.trans hs⟩
 ·have hge:=ge_of_dec hb
  obtain rfl:k=u.length:=by omega
  rw[hI,List.drop_length]
  exact rsEqv_refl _
def dom118_124:DomF
 |[.c (.sl _ n st F),.c (.op (.func (.func g) a b))]=>(match Nat.beq st 1&&Nat.beq g 124,a.toList,b.toList with
  |true,[],[]=>some ([eI.Is n F,n≤1000000],[rB ((eI.list n F).any (badF 124))])
  |_,_,_=>none)
 |_=>none
theorem C118_124:FOK Try.prog G0 gw 118 dom118_124:=by
 intro ags p r hd hp κ w xs hw hl hG hx
 unfold dom118_124 at hd
 split at hd
 ·rename_i q len st F g a b
  split at hd
  ·rename_i hst ha hb
   simp only[Bool.and_eq_true]at hst
   have h1:=Nat.eq_of_beq_eq_true hst.1
   have h2:=Nat.eq_of_beq_eq_true hst.2
   have ea:a= #[]:=by apply Array.ext';simpa using ha
   have eb:b= #[]:=by apply Array.ext';simpa using hb
   subst h1 h2 ea eb
   simp only[Option.some.injEq,Prod.mk.injEq]at hd
   obtain⟨rfl,rfl⟩:=hd
   obtain⟨hIs,hn,_⟩:=hp
   have heq:agsEqv [.c (.sl q len 1 F),.c (.op (.func (.func 124) #[] #[]))] [.c (.sl q (eI.list len F).length 1 (eI.F (eI.list len F))),.c (.op (.func (.func 124) #[] #[]))]:=⟨eI.to id hIs,Ag.eqv_refl _,trivial⟩
   exact fokX_fin mixed gw_stable (sl:=[v105,v121]) ⟨S105,S121,trivial⟩ Try.func118 hw hl hG hx heq rfl (t118_124 q _) (w118_124 q _ (by rw[Enc.list_len];exact hn))
  ·cases hd
 ·cases hd
def tr118_170(q:Bool)(u:List Int):T (List Ar):=
  T.loop (Int×PUnit) ((0:Int),PUnit.unit) fun(x:Int×PUnit)=>T.br (decide (x.1<(u.length:Int))) (T.need ((0:Int)≤x.1) (T.need (x.1<(u.length:Int)) (T.br (!M.within (u.getD x.1.toNat (0:Int)) (0:Int) (100000000000:Int)) (T.ret (Sum.inr [Ar.c (D.bool (decide (x.1≥(0:Int))))])) (T.ret (Sum.inl (IntKind.i64.wrap (x.1+1),PUnit.unit)))))) (T.ret (Sum.inr [Ar.c (D.bool (decide ((-1:Int)≥(0:Int))))]))
theorem t118_170(q:Bool)(u:List Int):runFnX Try.prog G0 (lookS [v105,v121]) (fun _=>[(2,[.slot 8 (.int .i64)],none)]) [165,170] 1 40 6 118 Try.f118 [.c (.sl q u.length 1 (eI.F u)),.c (.op (.func (.func 170) #[] #[]))] =
  tr118_170 q u:=by kernel_rfl
theorem w118_170(q:Bool)(u:List Int)(h1:u.length≤1000000):(tr118_170 q u).wp (fun rs=>rsEqv rs [rB (u.any (badF 170))]):=by
 unfold tr118_170
 refine range_wp (n:=u.length) (fun k _=>u.any (badF 170)=(u.drop k).any (badF 170)) rfl ?_
 rintro k s hk hI
 refine wp_br (fun hb=>?_) (fun hb=>?_)
 ·have hlt:=lt_of_dec hb
  have hs:=any_step (is:=badF 170) hlt
  refine⟨by show(0:Int)≤k;omega,by show(k:Int)<u.length;omega,wp_br (fun hx=>?_) (fun hx=>?_)⟩
  ·have hx:badF 170 (u.getD k 0)=true:=hx
   rw[hx,Bool.true_or]at hs
   show rsEqv [rB (decide ((k:Int)≥0))] _
   rw[hI,hs,decide_eq_true (by omega)]
   exact rsEqv_refl _
  ·have hx:badF 170 (u.getD k 0)=false:=hx
   rw[hx,Bool.false_or]at hs
   exact⟨hlt,wrap_succ (by omega),hI.trans hs⟩
 ·have hge:=ge_of_dec hb
  obtain rfl:k=u.length:=by omega
  rw[hI,List.drop_length]
  exact rsEqv_refl _
def dom118_170:DomF
 |[.c (.sl _ n st F),.c (.op (.func (.func g) a b))]=>(match Nat.beq st 1&&Nat.beq g 170,a.toList,b.toList with
  |true,[],[]=>some ([eI.Is n F,n≤1000000],[rB ((eI.list n F).any (badF 170))])
  |_,_,_=>none)
 |_=>none
theorem C118_170:FOK Try.prog G0 gw 118 dom118_170:=by
 intro ags p r hd hp κ w xs hw hl hG hx
 unfold dom118_170 at hd
 split at hd
 ·rename_i q len st F g a b
  split at hd
  ·rename_i hst ha hb
   simp only[Bool.and_eq_true]at hst
   have h1:=Nat.eq_of_beq_eq_true hst.1
   have h2:=Nat.eq_of_beq_eq_true hst.2
   have ea:a= #[]:=by apply Array.ext';simpa using ha
   have eb:b= #[]:=by apply Array.ext';simpa using hb
   subst h1 h2 ea eb
   simp only[Option.some.injEq,Prod.mk.injEq]at hd
   obtain⟨rfl,rfl⟩:=hd
   obtain⟨hIs,hn,_⟩:=hp
   have heq:agsEqv [.c (.sl q len 1 F),.c (.op (.func (.func 170) #[] #[]))] [.c (.sl q (eI.list len F).length 1 (eI.F (eI.list len F))),.c (.op (.func (.func 170) #[] #[]))]:=⟨eI.to id hIs,Ag.eqv_refl _,trivial⟩
   exact fokX_fin mixed gw_stable (sl:=[v105,v121]) ⟨S105,S121,trivial⟩ Try.func118 hw hl hG hx heq rfl (t118_170 q _) (w118_170 q _ (by rw[Enc.list_len];exact hn))
  ·cases hd
 ·cases hd
def tr118_171(q:Bool)(u:List Int):T (List Ar):=
  T.loop (Int×PUnit) ((0:Int),PUnit.unit) fun(x:Int×PUnit)=>T.br (decide (x.1<(u.length:Int))) (T.need ((0:Int)≤x.1) (T.need (x.1<(u.length:Int)) (T.br (!M.within (u.getD x.1.toNat (0:Int)) (0:Int) (1000000000000000:Int)) (T.ret (Sum.inr [Ar.c (D.bool (decide (x.1≥(0:Int))))])) (T.ret (Sum.inl (IntKind.i64.wrap (x.1+1),PUnit.unit)))))) (T.ret (Sum.inr [Ar.c (D.bool (decide ((-1:Int)≥(0:Int))))]))
theorem t118_171(q:Bool)(u:List Int):runFnX Try.prog G0 (lookS [v105,v121]) (fun _=>[(2,[.slot 8 (.int .i64)],none)]) [165,171] 1 40 6 118 Try.f118 [.c (.sl q u.length 1 (eI.F u)),.c (.op (.func (.func 171) #[] #[]))] =
  tr118_171 q u:=by kernel_rfl
theorem w118_171(q:Bool)(u:List Int)(h1:u.length≤1000000):(tr118_171 q u).wp (fun rs=>rsEqv rs [rB (u.any (badF 171))]):=by
 unfold tr118_171
 refine range_wp (n:=u.length) (fun k _=>u.any (badF 171)=(u.drop k).any (badF 171)) rfl ?_
 rintro k s hk hI
 refine wp_br (fun hb=>?_) (fun hb=>?_)
 ·have hlt:=lt_of_dec hb
  have hs:=any_step (is:=badF 171) hlt
  refine⟨by show(0:Int)≤k;omega,by show(k:Int)<u.length;omega,wp_br (fun hx=>?_) (fun hx=>?_)⟩
  ·have hx:badF 171 (u.getD k 0)=true:=hx
   rw[hx,Bool.true_or]at hs
   show rsEqv [rB (decide ((k:Int)≥0))] _
   rw[hI,hs,decide_eq_true (by omega)]
   exact rsEqv_refl _
  ·have hx:badF 171 (u.getD k 0)=false:=hx
   rw[hx,Bool.false_or]at hs
   exact⟨hlt,wrap_succ (by omega),hI.trans hs⟩
 ·have hge:=ge_of_dec hb
  obtain rfl:k=u.length:=by omega
  rw[hI,List.drop_length]
  exact rsEqv_refl _
def dom118_171:DomF
 |[.c (.sl _ n st F),.c (.op (.func (.func g) a b))]=>(match Nat.beq st 1&&Nat.beq g 171,a.toList,b.toList with
  |true,[],[]=>some ([eI.Is n F,n≤1000000],[rB ((eI.list n F).any (badF 171))])
  |_,_,_=>none)
 |_=>none
theorem C118_171:FOK Try.prog G0 gw 118 dom118_171:=by
 intro ags p r hd hp κ w xs hw hl hG hx
 unfold dom118_171 at hd
 split at hd
 ·rename_i q len st F g a b
  split at hd
  ·rename_i hst ha hb
   simp only[Bool.and_eq_true]at hst
   have h1:=Nat.eq_of_beq_eq_true hst.1
   have h2:=Nat.eq_of_beq_eq_true hst.2
   have ea:a= #[]:=by apply Array.ext';simpa using ha
   have eb:b= #[]:=by apply Array.ext';simpa using hb
   subst h1 h2 ea eb
   simp only[Option.some.injEq,Prod.mk.injEq]at hd
   obtain⟨rfl,rfl⟩:=hd
   obtain⟨hIs,hn,_⟩:=hp
   have heq:agsEqv [.c (.sl q len 1 F),.c (.op (.func (.func 171) #[] #[]))] [.c (.sl q (eI.list len F).length 1 (eI.F (eI.list len F))),.c (.op (.func (.func 171) #[] #[]))]:=⟨eI.to id hIs,Ag.eqv_refl _,trivial⟩
   exact fokX_fin mixed gw_stable (sl:=[v105,v121]) ⟨S105,S121,trivial⟩ Try.func118 hw hl hG hx heq rfl (t118_171 q _) (w118_171 q _ (by rw[Enc.list_len];exact hn))
  ·cases hd
 ·cases hd
def dom118:DomF:=fun ags=>match ags with
 |[.c (.sl q n st F),.c (.op (.func (.func g) a b))]=>(match Nat.beq g 119,Nat.beq g 120,Nat.beq g 124,Nat.beq g 170,Nat.beq g 171 with
  |true,_,_,_,_=>dom118_119 [.c (.sl q n st F),.c (.op (.func (.func g) a b))]
  |_,true,_,_,_=>dom118_120 [.c (.sl q n st F),.c (.op (.func (.func g) a b))]
  |_,_,true,_,_=>dom118_124 [.c (.sl q n st F),.c (.op (.func (.func g) a b))]
  |_,_,_,true,_=>dom118_170 [.c (.sl q n st F),.c (.op (.func (.func g) a b))]
  |_,_,_,_,true=>dom118_171 [.c (.sl q n st F),.c (.op (.func (.func g) a b))]
  |_,_,_,_,_=>none)
 |_=>none
def v118:Nat×Sm:=(118,fokSm dom118)
theorem C118:FOK Try.prog G0 gw 118 dom118:=by
 intro ags p r hd
 unfold dom118 at hd
 split at hd
 ·split at hd
  ·exact C118_119 _ p r hd
  ·exact C118_120 _ p r hd
  ·exact C118_124 _ p r hd
  ·exact C118_170 _ p r hd
  ·exact C118_171 _ p r hd
  ·cases hd
 ·cases hd
theorem S118:SumOK Try.prog G0 gw 118 (fokSm dom118):=fok_sum Try.func118 rfl C118
def tr49(q_u:Bool)(u:List Int)(q_v:Bool)(v:List Int):T (List Ar):=
  T.br ((u.length:Int) != (v.length:Int)) (T.ret [Ar.c (D.bool false)]) (T.loop (Int×PUnit) ((0:Int),PUnit.unit) fun(x:Int×PUnit)=>T.br (decide (x.1<(u.length:Int))) (T.needs [(0:Int)≤x.1,x.1<(u.length:Int),(0:Int)≤x.1,x.1<(v.length:Int)] (T.br (u.getD x.1.toNat (0:Int) != v.getD x.1.toNat (0:Int)) (T.ret (Sum.inr [Ar.c (D.bool false)])) (T.ret (Sum.inl (IntKind.i64.wrap (x.1+1),PUnit.unit))))) (T.ret (Sum.inr [Ar.c (D.bool true)])))
theorem t49(q_u:Bool)(u:List Int)(q_v:Bool)(v:List Int):runFnX Try.prog G0 (lookS []) (fun _=>[(4,[.slot 5 (.int .i64)],none)]) [] 1 40 6 49 Try.f49 [.c (.sl q_u u.length 1 (eI.F u)),.c (.sl q_v v.length 1 (eI.F v))] =
  tr49 q_u u q_v v:=by kernel_rfl
theorem w49(qu:Bool)(u:List Int)(qv:Bool)(v:List Int)(h1:u.length≤1000000):(tr49 qu u qv v).wp (fun rs=>rsEqv rs [rB (decide (u=v))]):=by
 unfold tr49
 refine wp_br (fun hb=>?_) (fun hb=>?_)
 ·refine rB_eqv (decide_eq_false ?_).symm
  rintro rfl
  simp at hb
 ·have hlen:u.length=v.length:=by
   have:(u.length:Int)=v.length:=by simpa using hb
   omega
  refine range_wp (n:=u.length) (fun k _=>∀i,i<k→u.getD i 0=v.getD i 0) (fun i hi=>by omega) ?_
  rintro k s hk hI
  refine wp_br (fun hc=>?_) (fun hc=>?_)
  ·have hlt:=lt_of_dec hc
   refine⟨by show(0:Int)≤k;omega,by show(k:Int)<u.length;omega,by show(0:Int)≤k;omega,by show(k:Int)<v.length;omega,wp_br (fun hx=>?_) (fun hx=>?_)⟩
   ·refine rB_eqv (decide_eq_false ?_).symm
    rintro rfl
    simp at hx
   ·have hx:u.getD k 0=v.getD k 0:=by simpa using hx
    refine⟨hlt,wrap_succ (by omega),fun i hi=>?_⟩
    rcases Nat.lt_or_ge i k with h|h
    ·exact hI i h
    ·obtain rfl:i=k:=by omega
     exact hx
  ·have hge:=ge_of_dec hc
   obtain rfl:k=u.length:=by omega
   refine rB_eqv (decide_eq_true ?_).symm
   apply List.ext_getElem hlen
   intro i g1 g2
   have:=hI i g1
   simpa[g1,g2]using this
def dom49:DomF
 |[.c (.sl _ n_u st_u F_u),.c (.sl _ n_v st_v F_v)]=>(match Nat.beq st_u 1&&Nat.beq st_v 1 with
  |true=>some ([eI.Is n_u F_u,eI.Is n_v F_v,(eI.list n_u F_u).length≤1000000],[rB (decide ((eI.list n_u F_u)=(eI.list n_v F_v)))])
  |_=>none)
 |_=>none
def v49:Nat×Sm:=(49,fokSm dom49)
theorem C49:FOK Try.prog G0 gw 49 dom49:=by
 intro ags p r hd hp κ w xs hw hl hG hx
 unfold dom49 at hd
 split at hd
 ·rename_i q_u n_u st_u F_u q_v n_v st_v F_v
  split at hd
  ·rename_i hst
   simp only[Bool.and_eq_true]at hst
   obtain⟨g1,g2⟩:=hst
   have g1:=Nat.eq_of_beq_eq_true g1
   have g2:=Nat.eq_of_beq_eq_true g2
   subst g1 g2
   simp only[Option.some.injEq,Prod.mk.injEq]at hd
   obtain⟨rfl,rfl⟩:=hd
   obtain⟨hI_u,hI_v,hp⟩:=hp
   have heq:agsEqv [.c (.sl q_u n_u 1 F_u),.c (.sl q_v n_v 1 F_v)] [.c (.sl q_u (eI.list n_u F_u).length 1 (eI.F (eI.list n_u F_u))),.c (.sl q_v (eI.list n_v F_v).length 1 (eI.F (eI.list n_v F_v)))]:=⟨eI.to id hI_u,eI.to id hI_v,trivial⟩
   have len_u:(eI.list n_u F_u).length=n_u:=eI.list_len
   have len_v:(eI.list n_v F_v).length=n_v:=eI.list_len
   generalize eI.list n_u F_u=u at *
   generalize eI.list n_v F_v=v at *
   subst len_u len_v
   exact fokX_fin mixed gw_stable (sl:=[]) trivial Try.func49 hw hl hG hx heq rfl (t49 _ _ _ _) (w49 _ _ _ _ hp.1)
  ·cases hd
 ·cases hd
theorem S49:SumOK Try.prog G0 gw 49 (fokSm dom49):=fok_sum Try.func49 rfl C49
end Go.Pl
end
section
set_option maxRecDepth 100000
namespace Go.Pl
open Go.V Go.Proofs
def dfR:Rg:=⟨0,0⟩
def tr111(k:Int)(q:Bool)(fl:List Rg):T (List Ar):=
  T.need ((0:Int)≤k) (T.need (k<(fl.length:Int)) (T.ret [Ar.c (D.int IntKind.i64 (Rg.hi (fl.getD k.toNat {lo:=(0:Int),hi:=(0:Int)})))]))
theorem t111(k:Int)(q:Bool)(fl:List Rg):runFnX Try.prog G0 (lookS []) (fun _=>[]) [] 1 40 6 111 Try.f111 [.c (dI k),.ptr 1 (fun _=>.sl q fl.length 2 (eRg.F fl))] =
  tr111 k q fl:=by kernel_rfl
def dom111:DomF
 |[.c (.int .i64 k),.ptr 1 G]=>(match G 0 with
  |.sl _ n st F=>(match Nat.beq st 2 with
   |true=>some ([eRg.Is n F,0≤k,k<n],[rI (((eRg.list n F).getD k.toNat dfR).hi)])
   |false=>none)
  |_=>none)
 |_=>none
def v111:Nat×Sm:=(111,fokSm dom111)
theorem C111:FOK Try.prog G0 gw 111 dom111:=by
 intro ags p r hd hp κ w xs hw hl hG hx
 unfold dom111 at hd
 split at hd
 ·rename_i k G
  split at hd
  ·rename_i q n st F hG0
   split at hd
   ·rename_i hst
    have g1:=Nat.eq_of_beq_eq_true hst
    subst g1
    simp only[Option.some.injEq,Prod.mk.injEq]at hd
    obtain⟨rfl,rfl⟩:=hd
    obtain⟨hI,h0,h1,_⟩:=hp
    have heq:agsEqv [.c (.int .i64 k),.ptr 1 G] [.c (.int .i64 k),.ptr 1 (fun _=>.sl q (eRg.list n F).length 2 (eRg.F (eRg.list n F)))]:=by
     refine⟨Ag.eqv_refl _,⟨rfl,fun j hj=>?_⟩,trivial⟩
     obtain rfl:j=0:=Nat.lt_one_iff.1 hj
     rw[hG0];exact eRg.to id hI
    refine fokX_fin mixed gw_stable (sl:=[]) trivial Try.func111 hw hl hG hx heq rfl (t111 k q _) ?_
    unfold tr111
    exact⟨h0,by rw[Enc.list_len];exact h1,rsEqv_refl _⟩
   ·cases hd
  ·cases hd
 ·cases hd
theorem S111:SumOK Try.prog G0 gw 111 (fokSm dom111):=fok_sum Try.func111 rfl C111
def tr112(k:Int)(q:Bool)(fl:List Rg):T (List Ar):=
  T.need ((0:Int)≤k) (T.need (k<(fl.length:Int)) (T.ret [Ar.c (D.int IntKind.i64 (Rg.lo (fl.getD k.toNat {lo:=(0:Int),hi:=(0:Int)})))]))
theorem t112(k:Int)(q:Bool)(fl:List Rg):runFnX Try.prog G0 (lookS []) (fun _=>[]) [] 1 40 6 112 Try.f112 [.c (dI k),.ptr 1 (fun _=>.sl q fl.length 2 (eRg.F fl))] =
  tr112 k q fl:=by kernel_rfl
def dom112:DomF
 |[.c (.int .i64 k),.ptr 1 G]=>(match G 0 with
  |.sl _ n st F=>(match Nat.beq st 2 with
   |true=>some ([eRg.Is n F,0≤k,k<n],[rI (((eRg.list n F).getD k.toNat dfR).lo)])
   |false=>none)
  |_=>none)
 |_=>none
def v112:Nat×Sm:=(112,fokSm dom112)
theorem C112:FOK Try.prog G0 gw 112 dom112:=by
 intro ags p r hd hp κ w xs hw hl hG hx
 unfold dom112 at hd
 split at hd
 ·rename_i k G
  split at hd
  ·rename_i q n st F hG0
   split at hd
   ·rename_i hst
    have g1:=Nat.eq_of_beq_eq_true hst
    subst g1
    simp only[Option.some.injEq,Prod.mk.injEq]at hd
    obtain⟨rfl,rfl⟩:=hd
    obtain⟨hI,h0,h1,_⟩:=hp
    have heq:agsEqv [.c (.int .i64 k),.ptr 1 G] [.c (.int .i64 k),.ptr 1 (fun _=>.sl q (eRg.list n F).length 2 (eRg.F (eRg.list n F)))]:=by
     refine⟨Ag.eqv_refl _,⟨rfl,fun j hj=>?_⟩,trivial⟩
     obtain rfl:j=0:=Nat.lt_one_iff.1 hj
     rw[hG0];exact eRg.to id hI
    refine fokX_fin mixed gw_stable (sl:=[]) trivial Try.func112 hw hl hG hx heq rfl (t112 k q _) ?_
    unfold tr112
    exact⟨h0,by rw[Enc.list_len];exact h1,rsEqv_refl _⟩
   ·cases hd
  ·cases hd
 ·cases hd
theorem S112:SumOK Try.prog G0 gw 112 (fokSm dom112):=fok_sum Try.func112 rfl C112
def tr185(k:Int)(q:Bool)(fl:List Rg):T (List Ar):=
  T.need ((0:Int)≤k) (T.need (k<(fl.length:Int)) (T.ret [Ar.c (D.int IntKind.i64 (Rg.hi (fl.getD k.toNat {lo:=(0:Int),hi:=(0:Int)})))]))
theorem t185(k:Int)(q:Bool)(fl:List Rg):runFnX Try.prog G0 (lookS []) (fun _=>[]) [] 1 40 6 185 Try.f185 [.c (dI k),.ptr 1 (fun _=>.sl q fl.length 2 (eRg.F fl))] =
  tr185 k q fl:=by kernel_rfl
def dom185:DomF
 |[.c (.int .i64 k),.ptr 1 G]=>(match G 0 with
  |.sl _ n st F=>(match Nat.beq st 2 with
   |true=>some ([eRg.Is n F,0≤k,k<n],[rI (((eRg.list n F).getD k.toNat dfR).hi)])
   |false=>none)
  |_=>none)
 |_=>none
def v185:Nat×Sm:=(185,fokSm dom185)
theorem C185:FOK Try.prog G0 gw 185 dom185:=by
 intro ags p r hd hp κ w xs hw hl hG hx
 unfold dom185 at hd
 split at hd
 ·rename_i k G
  split at hd
  ·rename_i q n st F hG0
   split at hd
   ·rename_i hst
    have g1:=Nat.eq_of_beq_eq_true hst
    subst g1
    simp only[Option.some.injEq,Prod.mk.injEq]at hd
    obtain⟨rfl,rfl⟩:=hd
    obtain⟨hI,h0,h1,_⟩:=hp
    have heq:agsEqv [.c (.int .i64 k),.ptr 1 G] [.c (.int .i64 k),.ptr 1 (fun _=>.sl q (eRg.list n F).length 2 (eRg.F (eRg.list n F)))]:=by
     refine⟨Ag.eqv_refl _,⟨rfl,fun j hj=>?_⟩,trivial⟩
     obtain rfl:j=0:=Nat.lt_one_iff.1 hj
     rw[hG0];exact eRg.to id hI
    refine fokX_fin mixed gw_stable (sl:=[]) trivial Try.func185 hw hl hG hx heq rfl (t185 k q _) ?_
    unfold tr185
    exact⟨h0,by rw[Enc.list_len];exact h1,rsEqv_refl _⟩
   ·cases hd
  ·cases hd
 ·cases hd
theorem S185:SumOK Try.prog G0 gw 185 (fokSm dom185):=fok_sum Try.func185 rfl C185
end Go.Pl
end
section
set_option maxRecDepth 100000
namespace Go.Pl
open Go.V Go.Proofs
theorem take_push{α:Type}{l:List α}{d:α}{k:Nat}(h:k<l.length):l.take k++ [l.getD k d]=l.take (k+1):=by
 rw[List.take_succ_eq_append_getElem h];simp[h]
theorem push_one{α:Type}(E:Enc α){a:α}{F G:Nat→Nat→D}(hj:∀j,j<E.st→(G 0 j).eqv (E.enc a j))(hr:E.rd (G 0)=a):E.Is 1 (joinF 0 F G)∧E.list 1 (joinF 0 F G)=[a]:=by
 have:=E.push (l:=[]) (a:=a) (G:=G) hj hr
 rw[show joinF ([]:List α).length (E.F []) G=joinF 0 F G by rw[List.length_nil,join0,join0]]at this
 exact this
abbrev rgG(a b:Int):Nat→Nat→D:=fun i j=>List.getD [D.int IntKind.i64 a,D.int IntKind.i64 b] (i*2+j) D.nilp
theorem rg_push{a b:Int}:(∀j,j<eRg.st→((fun(i j:Nat)=>List.getD [D.int IntKind.i64 a,D.int IntKind.i64 b] (i*2+j) D.nilp) 0 j).eqv (eRg.enc ⟨a,b⟩ j))∧eRg.rd ((fun(i j:Nat)=>List.getD [D.int IntKind.i64 a,D.int IntKind.i64 b] (i*2+j) D.nilp) 0)=⟨a,b⟩:=by
 refine⟨fun j hj=>?_,rfl⟩
 have hj:j<2:=hj
 match j,hj with
 |0,_=>exact D.eqv_refl _
 |1,_=>exact D.eqv_refl _
abbrev dR(l:List Rg):D:=.sl false l.length 2 (eRg.F l)
theorem nil_eqv{α:Type}(E:Enc α){st:Nat}{F:Nat→Nat→D}:(D.sl false 0 st F).eqv (.sl false ([]:List α).length E.st (E.F [])):=
 ⟨(fun e=>by cases e),rfl,fun h=>absurd h (Nat.lt_irrefl 0),fun i j hi=>absurd hi (Nat.not_lt_zero i)⟩
namespace M
def fl(sc:List Scale)(d:Int):Nat→Rg
 |0=>⟨d,d⟩
 |k+1=>⟨IntKind.i64.wrap ((fl sc d k).lo+(sc.getD k dfS).l),IntKind.i64.wrap ((fl sc d k).hi+(sc.getD k dfS).h)⟩
def flows(sc:List Scale)(d:Int):List Rg:=(List.range sc.length).map fun k=>fl sc d (k+1)
def overF(sc:List Scale)(fl:List Rg):Nat→Nat→Int
 |0,_=> -1
 |n+1,k=>cond (decide ((fl.getD k dfR).hi>(sc.getD k dfS).vol)) (k:Int) (overF sc fl n (k+1))
def over(sc:List Scale)(fl:List Rg):Int:=overF sc fl fl.length 0
end M
theorem flows_len(sc:List Scale)(d:Int):(M.flows sc d).length=sc.length:=by simp[M.flows]
theorem flows_get{sc:List Scale}{d:Int}{k:Nat}(h:k<sc.length):(M.flows sc d).getD k dfR=M.fl sc d (k+1):=by simp[M.flows,h]
def tr108(q_sc:Bool)(sc:List Scale)(new:Int)(d:Int):T (List Ar):=
  T.loop2 (Int×Int×Int×PUnit×PUnit) (Int×Int×Int×List Rg×PUnit) (Sum.inl ((0:Int),d,d,PUnit.unit,PUnit.unit)) (fun(x:Int×Int×Int×PUnit×PUnit)=>T.br (decide (x.1<(sc.length:Int))) (T.needs [(0:Int)≤x.1,x.1<(sc.length:Int),(1:Nat)≤1000000,(Enc.Is eRg (1:Nat) (joinF (0:Nat) (fun(x x_1:Nat)=>D.nilp) fun(i j:Nat)=>List.getD [D.int IntKind.i64 (IntKind.i64.wrap (x.2.1+Scale.l (sc.getD x.1.toNat {vol:=(0:Int),l:=(0:Int),h:=(0:Int),least:=(0:Int)}))),D.int IntKind.i64 (IntKind.i64.wrap (x.2.2.1+Scale.h (sc.getD x.1.toNat {vol:=(0:Int),l:=(0:Int),h:=(0:Int),least:=(0:Int)})))] (i*2+j) D.nilp)),(1:Nat)≤1] (T.ret (Sum.inl (Sum.inr (IntKind.i64.wrap (x.1+1),IntKind.i64.wrap (x.2.1+Scale.l (sc.getD x.1.toNat {vol:=(0:Int),l:=(0:Int),h:=(0:Int),least:=(0:Int)})),IntKind.i64.wrap (x.2.2.1+Scale.h (sc.getD x.1.toNat {vol:=(0:Int),l:=(0:Int),h:=(0:Int),least:=(0:Int)})),Enc.list eRg (1:Nat) (joinF (0:Nat) (fun(x x_1:Nat)=>D.nilp) fun(i j:Nat)=>List.getD [D.int IntKind.i64 (IntKind.i64.wrap (x.2.1+Scale.l (sc.getD x.1.toNat {vol:=(0:Int),l:=(0:Int),h:=(0:Int),least:=(0:Int)}))),D.int IntKind.i64 (IntKind.i64.wrap (x.2.2.1+Scale.h (sc.getD x.1.toNat {vol:=(0:Int),l:=(0:Int),h:=(0:Int),least:=(0:Int)})))] (i*2+j) D.nilp),PUnit.unit))))) (T.ret (Sum.inr [Ar.c (D.sl false (0:Nat) (0:Nat) fun(x x_1:Nat)=>D.nilp)]))) fun(y:Int×Int×Int×List Rg×PUnit)=>T.br (decide (y.1<(sc.length:Int))) (T.needs [(0:Int)≤y.1,y.1<(sc.length:Int),y.2.2.2.1.length+1≤1000000,y.2.2.2.1.length≤y.2.2.2.1.length,(Enc.Is eRg (y.2.2.2.1.length+1) (joinF y.2.2.2.1.length (Enc.F eRg y.2.2.2.1) fun(i j:Nat)=>List.getD [D.int IntKind.i64 (IntKind.i64.wrap (y.2.1+Scale.l (sc.getD y.1.toNat {vol:=(0:Int),l:=(0:Int),h:=(0:Int),least:=(0:Int)}))),D.int IntKind.i64 (IntKind.i64.wrap (y.2.2.1+Scale.h (sc.getD y.1.toNat {vol:=(0:Int),l:=(0:Int),h:=(0:Int),least:=(0:Int)})))] (i*2+j) D.nilp)),y.2.2.2.1.length+1≤y.2.2.2.1.length+1] (T.ret (Sum.inl (Sum.inr (IntKind.i64.wrap (y.1+1),IntKind.i64.wrap (y.2.1+Scale.l (sc.getD y.1.toNat {vol:=(0:Int),l:=(0:Int),h:=(0:Int),least:=(0:Int)})),IntKind.i64.wrap (y.2.2.1+Scale.h (sc.getD y.1.toNat {vol:=(0:Int),l:=(0:Int),h:=(0:Int),least:=(0:Int)})),Enc.list eRg (y.2.2.2.1.length+1) (joinF y.2.2.2.1.length (Enc.F eRg y.2.2.2.1) fun(i j:Nat)=>List.getD [D.int IntKind.i64 (IntKind.i64.wrap (y.2.1+Scale.l (sc.getD y.1.toNat {vol:=(0:Int),l:=(0:Int),h:=(0:Int),least:=(0:Int)}))),D.int IntKind.i64 (IntKind.i64.wrap (y.2.2.1+Scale.h (sc.getD y.1.toNat {vol:=(0:Int),l:=(0:Int),h:=(0:Int),least:=(0:Int)})))] (i*2+j) D.nilp),PUnit.unit))))) (T.need (y.2.2.2.1.length≤y.2.2.2.1.length) (T.ret (Sum.inr [Ar.c (D.sl true y.2.2.2.1.length (2:Nat) (Enc.F eRg y.2.2.2.1))])))
theorem t108(q_sc:Bool)(sc:List Scale)(new:Int)(d:Int):runFnX Try.prog G0 (lookS []) (fun _=>[(4,[.slot 16 (.int .i64),.blk 5 [.int .i64,.int .i64],.slot 6 .nsl],some [.slot 16 (.int .i64),.blk 5 [.int .i64,.int .i64],.slot 6 (.rowE 61 eRg)])]) [] 1 40 3 108 Try.f108 [.agg [.sl q_sc sc.length 4 (eSc.F sc),dI new],.c (dI d)] =
  tr108 q_sc sc new d:=by kernel_rfl
def tr109(q_sc:Bool)(sc:List Scale)(new:Int)(q_fl:Bool)(fl:List Rg):T (List Ar):=
  T.loop (Int×PUnit) ((0:Int),PUnit.unit) fun(x:Int×PUnit)=>T.br (decide (x.1<(fl.length:Int))) (T.needs [(0:Int)≤x.1,x.1<(fl.length:Int),(0:Int)≤x.1,x.1<(sc.length:Int)] (T.br (decide (Rg.hi (fl.getD x.1.toNat {lo:=(0:Int),hi:=(0:Int)})>Scale.vol (sc.getD x.1.toNat {vol:=(0:Int),l:=(0:Int),h:=(0:Int),least:=(0:Int)}))) (T.ret (Sum.inr [Ar.c (D.int IntKind.i64 x.1)])) (T.ret (Sum.inl (IntKind.i64.wrap (x.1+1),PUnit.unit))))) (T.ret (Sum.inr [Ar.c (D.int IntKind.i64 (-1:Int))]))
theorem t109(q_sc:Bool)(sc:List Scale)(new:Int)(q_fl:Bool)(fl:List Rg):runFnX Try.prog G0 (lookS []) (fun _=>[(2,[.slot 9 (.int .i64)],none)]) [] 1 40 3 109 Try.f109 [.agg [.sl q_sc sc.length 4 (eSc.F sc),dI new],.c (.sl q_fl fl.length 2 (eRg.F fl))] =
  tr109 q_sc sc new q_fl fl:=by kernel_rfl
theorem w108(q:Bool)(sc:List Scale)(nw d:Int)(hl:sc.length≤100000):(tr108 q sc nw d).wp (fun rs=>rsEqv rs [.c (dR (M.flows sc d))]):=by
 unfold tr108
 have hW:=flows_len sc d
 have push:∀k,k<sc.length→(M.flows sc d).take k++ [M.fl sc d (k+1)]=(M.flows sc d).take (k+1):=by
  intro k hk
  rw[←flows_get hk,take_push (d:=dfR) (by omega)]
 refine⟨fun z=>match z with
  |.inl x=>x=((0:Int),d,d,PUnit.unit,PUnit.unit)
  |.inr y=>∃k:Nat,1≤k∧k≤sc.length∧y.1=k∧(⟨y.2.1,y.2.2.1⟩:Rg)=M.fl sc d k∧y.2.2.2.1=(M.flows sc d).take k,
  fun z=>match z with|.inl _=>sc.length+5|.inr y=>sc.length-y.1.toNat,rfl,?_,?_⟩
 ·rintro x rfl
  refine⟨fun hb=>?_,fun hb=>?_⟩
  ·have hb:0<sc.length:=by have:(0:Int)<sc.length:=of_decide_eq_true hb;omega
   obtain⟨o1,o2⟩:=push_one eRg (F:=fun _ _=>.nilp) (G:=rgG (IntKind.i64.wrap (d+(sc.getD 0 dfS).l)) (IntKind.i64.wrap (d+(sc.getD 0 dfS).h))) (rg_push (a:=IntKind.i64.wrap (d+(sc.getD 0 dfS).l)) (b:=IntKind.i64.wrap (d+(sc.getD 0 dfS).h))).1 rg_push.2
   refine⟨Int.le_refl _,by show(0:Int)<sc.length;omega,by decide,o1,Nat.le_refl _,⟨1,Nat.le_refl _,by omega,rfl,rfl,?_⟩,?_⟩
   ·exact o2.trans (push 0 hb)
   ·show sc.length-(1:Int).toNat<sc.length+5;omega
  ·have h0:sc.length=0:=by have:¬(0:Int)<sc.length:=of_decide_eq_false hb;omega
   have hW0:M.flows sc d=[]:=List.length_eq_zero_iff.1 (by omega)
   show rsEqv [.c (.sl false 0 0 _)] _
   rw[hW0]
   exact⟨nil_eqv eRg,trivial⟩
 ·rintro ⟨y,lo,hi,acc,u⟩ ⟨k,g1,g2,g3,g4,g5⟩
  simp only at g3 g4 g5
  subst g3
  have hacc:acc.length=k:=by rw[g5,List.length_take];omega
  refine⟨fun hb=>?_,fun hb=>?_⟩
  ·have hlt:=lt_of_dec hb
   have e1:M.fl sc d (k+1)=⟨IntKind.i64.wrap (lo+(sc.getD k dfS).l),IntKind.i64.wrap (hi+(sc.getD k dfS).h)⟩:=by
    unfold M.fl;rw[←g4]
   obtain⟨o1,o2⟩:=eRg.push (l:=acc) (a:=⟨IntKind.i64.wrap (lo+(sc.getD k dfS).l),IntKind.i64.wrap (hi+(sc.getD k dfS).h)⟩) (G:=rgG (IntKind.i64.wrap (lo+(sc.getD k dfS).l)) (IntKind.i64.wrap (hi+(sc.getD k dfS).h))) rg_push.1 rg_push.2
   refine⟨by show(0:Int)≤k;omega,by show(k:Int)<sc.length;omega,by show acc.length+1≤_;omega,Nat.le_refl _,o1,Nat.le_refl _,⟨k+1,by omega,hlt,wrap_succ (by omega),?_,?_⟩,?_⟩
   ·rw[e1];rfl
   ·refine o2.trans ?_
    rw[g5,←e1]
    exact push k hlt
   ·show sc.length-(IntKind.i64.wrap ((k:Int)+1)).toNat<sc.length-(k:Int).toNat
    rw[wrap_succ (by omega)];omega
  ·have hge:=ge_of_dec hb
   obtain rfl:k=sc.length:=by omega
   have hfin:acc=M.flows sc d:=by rw[g5,List.take_of_length_le (by omega)]
   subst hfin
   exact⟨Nat.le_refl _,⟨(fun e=>by cases e),rfl,fun _=>rfl,fun i j hi hj=>D.eqv_refl _⟩,trivial⟩
def dom108:DomF
 |[.agg [.sl _ n_sc st_sc F_sc,.int .i64 new],.c (.int .i64 d)]=>(match Nat.beq st_sc 4 with
  |true=>some ([eSc.Is n_sc F_sc,(eSc.list n_sc F_sc).length≤100000],[.c (dR (M.flows (eSc.list n_sc F_sc) d))])
  |_=>none)
 |_=>none
def v108:Nat×Sm:=(108,fokSm dom108)
theorem C108:FOK Try.prog G0 gw 108 dom108:=by
 intro ags p r hd hp κ w xs hw hl hG hx
 unfold dom108 at hd
 split at hd
 ·rename_i q_sc n_sc st_sc F_sc new d
  split at hd
  ·rename_i hst
   have g1:=hst
   have g1:=Nat.eq_of_beq_eq_true g1
   subst g1
   simp only[Option.some.injEq,Prod.mk.injEq]at hd
   obtain⟨rfl,rfl⟩:=hd
   obtain⟨hI_sc,hp⟩:=hp
   have heq:agsEqv [.agg [.sl q_sc n_sc 4 F_sc,.int .i64 new],.c (.int .i64 d)] [.agg [.sl q_sc (eSc.list n_sc F_sc).length 4 (eSc.F (eSc.list n_sc F_sc)),.int .i64 new],.c (.int .i64 d)]:=⟨⟨eSc.to id hI_sc,rfl,trivial⟩,Ag.eqv_refl _,trivial⟩
   have len_sc:(eSc.list n_sc F_sc).length=n_sc:=eSc.list_len
   generalize eSc.list n_sc F_sc=sc at *
   subst len_sc
   exact fokX_fin mixed gw_stable (sl:=[]) trivial Try.func108 hw hl hG hx heq rfl (t108 _ _ _ _) (w108 _ _ _ _ hp.1)
  ·cases hd
 ·cases hd
theorem S108:SumOK Try.prog G0 gw 108 (fokSm dom108):=fok_sum Try.func108 rfl C108
theorem over_step{sc:List Scale}{fl:List Rg}{k:Nat}(h:k<fl.length):M.overF sc fl (fl.length-k) k=cond (decide ((fl.getD k dfR).hi>(sc.getD k dfS).vol)) (k:Int) (M.overF sc fl (fl.length-(k+1)) (k+1)):=by
 obtain⟨m,hm⟩:∃m,fl.length-k=m+1:=⟨fl.length-k-1,by omega⟩
 rw[hm,show fl.length-(k+1)=m by omega];rfl
theorem w109(q:Bool)(sc:List Scale)(nw:Int)(qf:Bool)(fl:List Rg)(h1:fl.length≤sc.length)(h2:sc.length≤100000):(tr109 q sc nw qf fl).wp (fun rs=>rsEqv rs [rI (M.over sc fl)]):=by
 unfold tr109
 refine range_wp (n:=fl.length) (fun k _=>M.over sc fl=M.overF sc fl (fl.length-k) k) rfl ?_
 rintro k s hk hI
 refine wp_br (fun hb=>?_) (fun hb=>?_)
 ·have hlt:=lt_of_dec hb
  have hs:=over_step (sc:=sc) hlt
  refine⟨by show(0:Int)≤k;omega,by show(k:Int)<fl.length;omega,by show(0:Int)≤k;omega,by show(k:Int)<sc.length;omega,wp_br (fun hx=>?_) (fun hx=>?_)⟩
  ·have hx:decide ((fl.getD k dfR).hi>(sc.getD k dfS).vol)=true:=hx
   rw[hx,cond_true]at hs
   show rsEqv [rI (k:Int)] _
   rw[hI,hs];exact rsEqv_refl _
  ·have hx:decide ((fl.getD k dfR).hi>(sc.getD k dfS).vol)=false:=hx
   rw[hx,cond_false]at hs
   exact⟨hlt,wrap_succ (by omega),hI.trans hs⟩
 ·have hge:=ge_of_dec hb
  obtain rfl:k=fl.length:=by omega
  rw[hI,Nat.sub_self];exact rsEqv_refl _
def dom109:DomF
 |[.agg [.sl _ n_sc st_sc F_sc,.int .i64 new],.c (.sl _ n_fl st_fl F_fl)]=>(match Nat.beq st_sc 4&&Nat.beq st_fl 2 with
  |true=>some ([eSc.Is n_sc F_sc,eRg.Is n_fl F_fl,(eRg.list n_fl F_fl).length≤(eSc.list n_sc F_sc).length,(eSc.list n_sc F_sc).length≤100000],[rI (M.over (eSc.list n_sc F_sc) (eRg.list n_fl F_fl))])
  |_=>none)
 |_=>none
def v109:Nat×Sm:=(109,fokSm dom109)
theorem C109:FOK Try.prog G0 gw 109 dom109:=by
 intro ags p r hd hp κ w xs hw hl hG hx
 unfold dom109 at hd
 split at hd
 ·rename_i q_sc n_sc st_sc F_sc new q_fl n_fl st_fl F_fl
  split at hd
  ·rename_i hst
   simp only[Bool.and_eq_true]at hst
   obtain⟨g1,g2⟩:=hst
   have g1:=Nat.eq_of_beq_eq_true g1
   have g2:=Nat.eq_of_beq_eq_true g2
   subst g1 g2
   simp only[Option.some.injEq,Prod.mk.injEq]at hd
   obtain⟨rfl,rfl⟩:=hd
   obtain⟨hI_sc,hI_fl,hp⟩:=hp
   have heq:agsEqv [.agg [.sl q_sc n_sc 4 F_sc,.int .i64 new],.c (.sl q_fl n_fl 2 F_fl)] [.agg [.sl q_sc (eSc.list n_sc F_sc).length 4 (eSc.F (eSc.list n_sc F_sc)),.int .i64 new],.c (.sl q_fl (eRg.list n_fl F_fl).length 2 (eRg.F (eRg.list n_fl F_fl)))]:=⟨⟨eSc.to id hI_sc,rfl,trivial⟩,eRg.to id hI_fl,trivial⟩
   have len_sc:(eSc.list n_sc F_sc).length=n_sc:=eSc.list_len
   have len_fl:(eRg.list n_fl F_fl).length=n_fl:=eRg.list_len
   generalize eSc.list n_sc F_sc=sc at *
   generalize eRg.list n_fl F_fl=fl at *
   subst len_sc len_fl
   exact fokX_fin mixed gw_stable (sl:=[]) trivial Try.func109 hw hl hG hx heq rfl (t109 _ _ _ _ _) (w109 _ _ _ _ _ hp.1 hp.2.1)
  ·cases hd
 ·cases hd
theorem S109:SumOK Try.prog G0 gw 109 (fokSm dom109):=fok_sum Try.func109 rfl C109
end Go.Pl
end
section
set_option maxRecDepth 100000
namespace Go.Pl
open Go.V Go.Proofs
theorem rI_eqv'{a b:Int}(h:a=b):rsEqv [rI a] [rI b]:=by rw[h];exact rsEqv_refl _
namespace M
def rgErr(lo hi m:Int):Int:=first [unl (within lo 0 m&&within hi 0 m) 2,unl (decide (lo≤hi)) 9]
def drawErr(n:Int):Int:=unl (within n 0 20000) 2
end M
def tr106(lor:Int)(hir:Int)(m:Int):T (List Ar):=
  T.br (M.within lor (0:Int) m) (T.need (M.within lor (0:Int) m=true) (T.ret [Ar.c (D.int IntKind.i64 (M.first [M.unl (M.within hir (0:Int) m) (2:Int),M.unl (decide (lor≤hir)) (9:Int)]))])) (T.need (M.within lor (0:Int) m=false) (T.ret [Ar.c (D.int IntKind.i64 (M.first [(2:Int),M.unl (decide (lor≤hir)) (9:Int)]))]))
theorem t106(lor:Int)(hir:Int)(m:Int):runFnX Try.prog G0 (lookS [v103,v104,v105]) (fun _=>[]) [] 1 40 3 106 Try.f106 [.agg [dI lor,dI hir],.c (dI m)] =
  tr106 lor hir m:=by kernel_rfl
def tr107(n:Int):T (List Ar):=
  T.ret [Ar.c (D.int IntKind.i64 (M.unl (M.within n (0:Int) (20000:Int)) (2:Int)))]
theorem t107(n:Int):runFnX Try.prog G0 (lookS [v104,v105]) (fun _=>[]) [] 1 40 3 107 Try.f107 [.c (dI n)] =
  tr107 n:=by kernel_rfl
theorem w106(lo hi m:Int):(tr106 lo hi m).wp (fun rs=>rsEqv rs [rI (M.rgErr lo hi m)]):=by
 unfold tr106
 refine wp_br (fun h=>⟨h,?_⟩) (fun h=>⟨h,?_⟩)
 ·refine rI_eqv' ?_
  unfold M.rgErr;rw[h];rfl
 ·refine rI_eqv' ?_
  unfold M.rgErr;rw[h];rfl
theorem w107(n:Int):(tr107 n).wp (fun rs=>rsEqv rs [rI (M.drawErr n)]):=rsEqv_refl _
def dom106:DomF
 |[.agg [.int .i64 lor,.int .i64 hir],.c (.int .i64 m)]=>some ([],[rI (M.rgErr lor hir m)])
 |_=>none
def v106:Nat×Sm:=(106,fokSm dom106)
theorem C106:FOK Try.prog G0 gw 106 dom106:=by
 intro ags p r hd hp κ w xs hw hl hG hx
 unfold dom106 at hd
 split at hd
 ·rename_i lor hir m
  simp only[Option.some.injEq,Prod.mk.injEq]at hd
  obtain⟨rfl,rfl⟩:=hd
  have heq:agsEqv [.agg [.int .i64 lor,.int .i64 hir],.c (.int .i64 m)] [.agg [.int .i64 lor,.int .i64 hir],.c (.int .i64 m)]:=⟨⟨rfl,rfl,trivial⟩,Ag.eqv_refl _,trivial⟩
  exact fokX_fin mixed gw_stable (sl:=[v103,v104,v105]) ⟨S103,S104,S105,trivial⟩ Try.func106 hw hl hG hx heq rfl (t106 _ _ _) (w106 _ _ _)
 ·cases hd
theorem S106:SumOK Try.prog G0 gw 106 (fokSm dom106):=fok_sum Try.func106 rfl C106
def dom107:DomF
 |[.c (.int .i64 n)]=>some ([],[rI (M.drawErr n)])
 |_=>none
def v107:Nat×Sm:=(107,fokSm dom107)
theorem C107:FOK Try.prog G0 gw 107 dom107:=by
 intro ags p r hd hp κ w xs hw hl hG hx
 unfold dom107 at hd
 split at hd
 ·rename_i n
  simp only[Option.some.injEq,Prod.mk.injEq]at hd
  obtain⟨rfl,rfl⟩:=hd
  have heq:agsEqv [.c (.int .i64 n)] [.c (.int .i64 n)]:=⟨Ag.eqv_refl _,trivial⟩
  exact fokX_fin mixed gw_stable (sl:=[v104,v105]) ⟨S104,S105,trivial⟩ Try.func107 hw hl hG hx heq rfl (t107 _) (w107 _)
 ·cases hd
theorem S107:SumOK Try.prog G0 gw 107 (fokSm dom107):=fok_sum Try.func107 rfl C107
end Go.Pl
end
section
set_option maxRecDepth 100000
namespace Go.Pl
open Go.V Go.Proofs
theorem first_of(x:Int)(l:List Int):M.first (x::l)=if x=0 then M.first l else x:=first_cons x l
namespace M
def scaleErr(c:Scale):Int:=first [unl (within c.vol 1 20000) 2,rgErr c.l c.h c.vol,unl (within c.least 0 100000) 2]
def sysErr0(sc:List Scale)(nw:Int):Int:=first [unl (decide ((sc.length:Int)>0)) 10,unl (decide ((sc.length:Int)≤4)) 8,unl (within nw 0 100000) 2]
def badFrom(f:Nat→Int):Nat→Nat→Int×Int
 |0,_=>(0,0)
 |n+1,k=>cond (f k != 0) ((k:Int),f k) (badFrom f n (k+1))
def checkSys(sc:List Scale)(nw:Int):Int×Int:=cond (sysErr0 sc nw != 0) (0,sysErr0 sc nw) (badFrom (fun k=>scaleErr (sc.getD k dfS)) sc.length 0)
end M
theorem bad_hit{f:Nat→Int}{n k:Nat}(hk:k<n)(h:f k≠0):M.badFrom f (n-k) k=((k:Int),f k):=by
 obtain⟨m,hm⟩:∃m,n-k=m+1:=⟨n-k-1,by omega⟩
 rw[hm]
 have:(f k != 0)=true:=bne_iff_ne.2 h
 simp only[M.badFrom,this,cond_true]
theorem bad_next{f:Nat→Int}{n k:Nat}(hk:k<n)(h:f k=0):M.badFrom f (n-k) k=M.badFrom f (n-(k+1)) (k+1):=by
 obtain⟨m,hm⟩:∃m,n-k=m+1:=⟨n-k-1,by omega⟩
 rw[hm,show n-(k+1)=m by omega]
 have:(f k != 0)=false:=by rw[h];rfl
 simp only[M.badFrom,this,cond_false]
abbrev resP(x:Int×Int):List Ar:=[rI x.1,rI x.2]
def tr33(q_sc:Bool)(sc:List Scale)(new:Int):T (List Ar):=
  T.br (M.first [M.unl (decide ((sc.length:Int)>(0:Int))) (10:Int),M.unl (decide ((sc.length:Int)≤4)) (8:Int),M.unl (M.within new (0:Int) (100000:Int)) (2:Int)] != (0:Int)) (T.ret [Ar.c (D.int IntKind.i64 (0:Int)),Ar.c (D.int IntKind.i64 (M.first [M.unl (decide ((sc.length:Int)>(0:Int))) (10:Int),M.unl (decide ((sc.length:Int)≤4)) (8:Int),M.unl (M.within new (0:Int) (100000:Int)) (2:Int)]))]) (T.loop (Int×PUnit) ((0:Int),PUnit.unit) fun(x:Int×PUnit)=>T.br (decide (x.1<(sc.length:Int))) (T.need ((0:Int)≤x.1) (T.need (x.1<(sc.length:Int)) (T.br (M.first [M.unl (M.within (Scale.vol (sc.getD x.1.toNat {vol:=(0:Int),l:=(0:Int),h:=(0:Int),least:=(0:Int)})) (1:Int) (20000:Int)) (2:Int),M.rgErr (Scale.l (sc.getD x.1.toNat {vol:=(0:Int),l:=(0:Int),h:=(0:Int),least:=(0:Int)})) (Scale.h (sc.getD x.1.toNat {vol:=(0:Int),l:=(0:Int),h:=(0:Int),least:=(0:Int)})) (Scale.vol (sc.getD x.1.toNat {vol:=(0:Int),l:=(0:Int),h:=(0:Int),least:=(0:Int)})),M.unl (M.within (Scale.least (sc.getD x.1.toNat {vol:=(0:Int),l:=(0:Int),h:=(0:Int),least:=(0:Int)})) (0:Int) (100000:Int)) (2:Int)] != (0:Int)) (T.ret (Sum.inr [Ar.c (D.int IntKind.i64 x.1),Ar.c (D.int IntKind.i64 (M.first [M.unl (M.within (Scale.vol (sc.getD x.1.toNat {vol:=(0:Int),l:=(0:Int),h:=(0:Int),least:=(0:Int)})) (1:Int) (20000:Int)) (2:Int),M.rgErr (Scale.l (sc.getD x.1.toNat {vol:=(0:Int),l:=(0:Int),h:=(0:Int),least:=(0:Int)})) (Scale.h (sc.getD x.1.toNat {vol:=(0:Int),l:=(0:Int),h:=(0:Int),least:=(0:Int)})) (Scale.vol (sc.getD x.1.toNat {vol:=(0:Int),l:=(0:Int),h:=(0:Int),least:=(0:Int)})),M.unl (M.within (Scale.least (sc.getD x.1.toNat {vol:=(0:Int),l:=(0:Int),h:=(0:Int),least:=(0:Int)})) (0:Int) (100000:Int)) (2:Int)]))])) (T.ret (Sum.inl (IntKind.i64.wrap (x.1+1),PUnit.unit)))))) (T.ret (Sum.inr [Ar.c (D.int IntKind.i64 (0:Int)),Ar.c (D.int IntKind.i64 (0:Int))])))
theorem t33(q_sc:Bool)(sc:List Scale)(new:Int):runFnX Try.prog G0 (lookS [v103,v104,v105,v106]) (fun _=>[(5,[.slot 30 (.int .i64)],none)]) [] 1 40 3 33 Try.f33 [.agg [.sl q_sc sc.length 4 (eSc.F sc),dI new]] =
  tr33 q_sc sc new:=by kernel_rfl
theorem w33(q:Bool)(sc:List Scale)(nw:Int)(hl:sc.length≤100000):(tr33 q sc nw).wp (fun rs=>rsEqv rs (resP (M.checkSys sc nw))):=by
 unfold tr33
 refine wp_br (fun hb=>?_) (fun hb=>?_)
 ·have hb:(M.sysErr0 sc nw != 0)=true:=hb
  have e:M.checkSys sc nw=(0,M.sysErr0 sc nw):=by unfold M.checkSys;rw[hb];rfl
  rw[e];exact rsEqv_refl _
 ·have hb:(M.sysErr0 sc nw != 0)=false:=hb
  have e:M.checkSys sc nw=M.badFrom (fun k=>M.scaleErr (sc.getD k dfS)) (sc.length-0) 0:=by unfold M.checkSys;rw[hb];rfl
  rw[e]
  refine range_wp (n:=sc.length) (fun k _=>M.badFrom (fun k=>M.scaleErr (sc.getD k dfS)) (sc.length-0) 0=M.badFrom (fun k=>M.scaleErr (sc.getD k dfS)) (sc.length-k) k) rfl ?_
  rintro k u hk hI
  refine wp_br (fun hb=>?_) (fun hb=>?_)
  ·have hlt:=lt_of_dec hb
   refine⟨by show(0:Int)≤k;omega,by show(k:Int)<sc.length;omega,wp_br (fun hc=>?_) (fun hc=>?_)⟩
   ·have hc:(M.scaleErr (sc.getD k dfS) != 0)=true:=hc
    have hc:=bne_iff_ne.1 hc
    rw[hI,bad_hit (f:=fun k=>M.scaleErr (sc.getD k dfS)) hlt hc];exact rsEqv_refl _
   ·have hc:(M.scaleErr (sc.getD k dfS) != 0)=false:=hc
    have hc:M.scaleErr (sc.getD k dfS)=0:=by simpa using hc
    exact⟨hlt,wrap_succ (by omega),hI.trans (bad_next (f:=fun k=>M.scaleErr (sc.getD k dfS)) hlt hc)⟩
  ·have hge:=ge_of_dec hb
   obtain rfl:k=sc.length:=by omega
   rw[hI,Nat.sub_self];exact rsEqv_refl _
def dom33:DomF
 |[.agg [.sl _ n_sc st_sc F_sc,.int .i64 new]]=>(match Nat.beq st_sc 4 with
  |true=>some ([eSc.Is n_sc F_sc,(eSc.list n_sc F_sc).length≤100000],resP (M.checkSys (eSc.list n_sc F_sc) new))
  |_=>none)
 |_=>none
def v33:Nat×Sm:=(33,fokSm dom33)
theorem C33:FOK Try.prog G0 gw 33 dom33:=by
 intro ags p r hd hp κ w xs hw hl hG hx
 unfold dom33 at hd
 split at hd
 ·rename_i q_sc n_sc st_sc F_sc new
  split at hd
  ·rename_i hst
   have g1:=hst
   have g1:=Nat.eq_of_beq_eq_true g1
   subst g1
   simp only[Option.some.injEq,Prod.mk.injEq]at hd
   obtain⟨rfl,rfl⟩:=hd
   obtain⟨hI_sc,hp⟩:=hp
   have heq:agsEqv [.agg [.sl q_sc n_sc 4 F_sc,.int .i64 new]] [.agg [.sl q_sc (eSc.list n_sc F_sc).length 4 (eSc.F (eSc.list n_sc F_sc)),.int .i64 new]]:=⟨⟨eSc.to id hI_sc,rfl,trivial⟩,trivial⟩
   have len_sc:(eSc.list n_sc F_sc).length=n_sc:=eSc.list_len
   generalize eSc.list n_sc F_sc=sc at *
   subst len_sc
   exact fokX_fin mixed gw_stable (sl:=[v103,v104,v105,v106]) ⟨S103,S104,S105,S106,trivial⟩ Try.func33 hw hl hG hx heq rfl (t33 _ _ _) (w33 _ _ _ hp.1)
  ·cases hd
 ·cases hd
theorem S33:SumOK Try.prog G0 gw 33 (fokSm dom33):=fok_sum Try.func33 rfl C33
end Go.Pl
end
section
set_option maxRecDepth 100000
namespace Go.Pl
open Go.V Go.Proofs
namespace M
def same(a b:Dem):Bool:=a.nm.data.toList==b.nm.data.toList
def dup(l:List Dem)(i:Nat):Bool:=(List.range i).any fun j=>same (l.getD j dfD) (l.getD i dfD)
def demErr(n:Nat)(de:List Dem)(k:Nat):Int:=first [unl (isName (de.getD k dfD).nm) 4,unl (!dup de k) 5,unl (((de.getD k dfD).co.length:Int)==(n:Int)) 10,unl (cond ((de.getD k dfD).co.any (badF 124)) false (small (de.getD k dfD).am 1000000)) 2]
def progErr0(mo ga:List Int)(de:List Dem):Int:=first [unl (cond (decide ((mo.length:Int)>0)) ((ga.length:Int)==(mo.length:Int)) false) 10,unl (decide ((mo.length:Int)≤4)) 8,unl (!mo.any (badF 119)) 2,unl (!ga.any (badF 120)) 2,unl (decide ((de.length:Int)≤8)) 8]
def checkProg(mo ga:List Int)(de:List Dem):Int×Int:=cond (progErr0 mo ga de != 0) (0,progErr0 mo ga de) (badFrom (demErr mo.length de) de.length 0)
end M
theorem same_eq(a b:Dem):(a.nm.toList==b.nm.toList)=M.same a b:=by unfold M.same;rw[ba_toList,ba_toList]
theorem dup_yes{l:List Dem}{i j:Nat}(hj:j<i)(h:M.same (l.getD j dfD) (l.getD i dfD)=true):M.dup l i=true:=List.any_eq_true.2 ⟨j,List.mem_range.2 hj,h⟩
theorem dup_no{l:List Dem}{i:Nat}(h:∀j,j<i→M.same (l.getD j dfD) (l.getD i dfD)=false):M.dup l i=false:=by
 apply Bool.eq_false_iff.2
 intro e
 obtain⟨j,hj,h'⟩:=List.any_eq_true.1 e
 rw[h j (List.mem_range.1 hj)]at h'
 cases h'
theorem demErr_eq{n:Nat}{de:List Dem}{k:Nat}{b c:Bool}(h2:M.dup de k=b)(h3:cond ((de.getD k dfD).co.any (badF 124)) false (M.small (de.getD k dfD).am 1000000)=c):M.demErr n de k=M.first [M.unl (M.isName (de.getD k dfD).nm) 4,M.unl (!b) 5,M.unl (((de.getD k dfD).co.length:Int)==(n:Int)) 10,M.unl c 2]:=by
 unfold M.demErr;rw[h2,h3]
def tr42(q_mo:Bool)(mo:List Int)(q_ga:Bool)(ga:List Int)(q_de:Bool)(de:List Dem):T (List Ar):=
  T.br (decide ((mo.length:Int)>(0:Int))) (T.needs [decide ((mo.length:Int)>(0:Int))=true,Enc.Is eI mo.length (Enc.F eI mo),mo.length≤1000000,Enc.Is eI ga.length (Enc.F eI ga),ga.length≤1000000] (T.br (M.first [M.unl ((ga.length:Int)==(mo.length:Int)) (10:Int),M.unl (decide ((mo.length:Int)≤4)) (8:Int),M.unl (!List.any (Enc.list eI mo.length (Enc.F eI mo)) (badF 119)) (2:Int),M.unl (!List.any (Enc.list eI ga.length (Enc.F eI ga)) (badF 120)) (2:Int),M.unl (decide ((de.length:Int)≤8)) (8:Int)] != (0:Int)) (T.ret [Ar.c (D.int IntKind.i64 (0:Int)),Ar.c (D.int IntKind.i64 (M.first [M.unl ((ga.length:Int)==(mo.length:Int)) (10:Int),M.unl (decide ((mo.length:Int)≤4)) (8:Int),M.unl (!List.any (Enc.list eI mo.length (Enc.F eI mo)) (badF 119)) (2:Int),M.unl (!List.any (Enc.list eI ga.length (Enc.F eI ga)) (badF 120)) (2:Int),M.unl (decide ((de.length:Int)≤8)) (8:Int)]))]) (T.loop (Int×PUnit) ((0:Int),PUnit.unit) fun(x:Int×PUnit)=>T.br (decide (x.1<(de.length:Int))) (T.needs [(0:Int)≤x.1,x.1<(de.length:Int),(0:Int)≤0,(0:Int)≤x.1,x.1≤(de.length:Int)] (T.loop (Int×PUnit) ((0:Int),PUnit.unit) fun(x_1:Int×PUnit)=>T.br (decide (x_1.1<(Nat.cast (R:=Int) (Int.toNat (x.1-0))))) (T.need ((0:Int)≤x_1.1) (T.need (x_1.1<(Nat.cast (R:=Int) (Int.toNat (x.1-0)))) (T.br (ByteArray.toList (Dem.nm (de.getD ((0:Nat)+Int.toNat x_1.1) dfD))==ByteArray.toList (Dem.nm (de.getD x.1.toNat dfD))) (T.need (Enc.Is eI (List.length (Dem.co (de.getD x.1.toNat dfD))) (Enc.F eI (Dem.co (de.getD x.1.toNat dfD)))) (T.need (List.length (Dem.co (de.getD x.1.toNat dfD))≤1000000) (T.br (!List.any (Enc.list eI (List.length (Dem.co (de.getD x.1.toNat dfD))) (Enc.F eI (Dem.co (de.getD x.1.toNat dfD)))) (badF 124)) (T.needs [ByteArray.size (Dem.nm (de.getD x.1.toNat dfD))≤1000000,(!List.any (Enc.list eI (List.length (Dem.co (de.getD x.1.toNat dfD))) (Enc.F eI (Dem.co (de.getD x.1.toNat dfD)))) (badF 124))=true,((0:Int)≤1000000∧(1000000:Int)<9223372036854775808)] (T.br (M.first [M.unl (M.isName (Dem.nm (de.getD x.1.toNat dfD))) (4:Int),M.unl (!decide (x_1.1≥(0:Int))) (5:Int),M.unl (((Dem.co (de.getD x.1.toNat dfD)).length:Int)==(mo.length:Int)) (10:Int),M.unl (M.small (Dem.am (de.getD x.1.toNat dfD)) (1000000:Int)) (2:Int)] != (0:Int)) (T.ret (Sum.inr (Sum.inr [Ar.c (D.int IntKind.i64 x.1),Ar.c (D.int IntKind.i64 (M.first [M.unl (M.isName (Dem.nm (de.getD x.1.toNat dfD))) (4:Int),M.unl (!decide (x_1.1≥(0:Int))) (5:Int),M.unl (((Dem.co (de.getD x.1.toNat dfD)).length:Int)==(mo.length:Int)) (10:Int),M.unl (M.small (Dem.am (de.getD x.1.toNat dfD)) (1000000:Int)) (2:Int)]))]))) (T.ret (Sum.inr (Sum.inl (IntKind.i64.wrap (x.1+1),PUnit.unit)))))) (T.need (ByteArray.size (Dem.nm (de.getD x.1.toNat dfD))≤1000000) (T.need ((!List.any (Enc.list eI (List.length (Dem.co (de.getD x.1.toNat dfD))) (Enc.F eI (Dem.co (de.getD x.1.toNat dfD)))) (badF 124))=false) (T.br (M.first [M.unl (M.isName (Dem.nm (de.getD x.1.toNat dfD))) (4:Int),M.unl (!decide (x_1.1≥(0:Int))) (5:Int),M.unl (((Dem.co (de.getD x.1.toNat dfD)).length:Int)==(mo.length:Int)) (10:Int),(2:Int)] != (0:Int)) (T.ret (Sum.inr (Sum.inr [Ar.c (D.int IntKind.i64 x.1),Ar.c (D.int IntKind.i64 (M.first [M.unl (M.isName (Dem.nm (de.getD x.1.toNat dfD))) (4:Int),M.unl (!decide (x_1.1≥(0:Int))) (5:Int),M.unl (((Dem.co (de.getD x.1.toNat dfD)).length:Int)==(mo.length:Int)) (10:Int),(2:Int)]))]))) (T.ret (Sum.inr (Sum.inl (IntKind.i64.wrap (x.1+1),PUnit.unit)))))))))) (T.ret (Sum.inl (IntKind.i64.wrap (x_1.1+1),PUnit.unit)))))) (T.need (Enc.Is eI (List.length (Dem.co (de.getD x.1.toNat dfD))) (Enc.F eI (Dem.co (de.getD x.1.toNat dfD)))) (T.need (List.length (Dem.co (de.getD x.1.toNat dfD))≤1000000) (T.br (!List.any (Enc.list eI (List.length (Dem.co (de.getD x.1.toNat dfD))) (Enc.F eI (Dem.co (de.getD x.1.toNat dfD)))) (badF 124)) (T.needs [ByteArray.size (Dem.nm (de.getD x.1.toNat dfD))≤1000000,(!List.any (Enc.list eI (List.length (Dem.co (de.getD x.1.toNat dfD))) (Enc.F eI (Dem.co (de.getD x.1.toNat dfD)))) (badF 124))=true,((0:Int)≤1000000∧(1000000:Int)<9223372036854775808)] (T.br (M.first [M.unl (M.isName (Dem.nm (de.getD x.1.toNat dfD))) (4:Int),(0:Int),M.unl (((Dem.co (de.getD x.1.toNat dfD)).length:Int)==(mo.length:Int)) (10:Int),M.unl (M.small (Dem.am (de.getD x.1.toNat dfD)) (1000000:Int)) (2:Int)] != (0:Int)) (T.ret (Sum.inr (Sum.inr [Ar.c (D.int IntKind.i64 x.1),Ar.c (D.int IntKind.i64 (M.first [M.unl (M.isName (Dem.nm (de.getD x.1.toNat dfD))) (4:Int),(0:Int),M.unl (((Dem.co (de.getD x.1.toNat dfD)).length:Int)==(mo.length:Int)) (10:Int),M.unl (M.small (Dem.am (de.getD x.1.toNat dfD)) (1000000:Int)) (2:Int)]))]))) (T.ret (Sum.inr (Sum.inl (IntKind.i64.wrap (x.1+1),PUnit.unit)))))) (T.need (ByteArray.size (Dem.nm (de.getD x.1.toNat dfD))≤1000000) (T.need ((!List.any (Enc.list eI (List.length (Dem.co (de.getD x.1.toNat dfD))) (Enc.F eI (Dem.co (de.getD x.1.toNat dfD)))) (badF 124))=false) (T.br (M.first [M.unl (M.isName (Dem.nm (de.getD x.1.toNat dfD))) (4:Int),(0:Int),M.unl (((Dem.co (de.getD x.1.toNat dfD)).length:Int)==(mo.length:Int)) (10:Int),(2:Int)] != (0:Int)) (T.ret (Sum.inr (Sum.inr [Ar.c (D.int IntKind.i64 x.1),Ar.c (D.int IntKind.i64 (M.first [M.unl (M.isName (Dem.nm (de.getD x.1.toNat dfD))) (4:Int),(0:Int),M.unl (((Dem.co (de.getD x.1.toNat dfD)).length:Int)==(mo.length:Int)) (10:Int),(2:Int)]))]))) (T.ret (Sum.inr (Sum.inl (IntKind.i64.wrap (x.1+1),PUnit.unit)))))))))))) (T.ret (Sum.inr [Ar.c (D.int IntKind.i64 (0:Int)),Ar.c (D.int IntKind.i64 (0:Int))]))))) (T.needs [decide ((mo.length:Int)>(0:Int))=false,Enc.Is eI mo.length (Enc.F eI mo),mo.length≤1000000,Enc.Is eI ga.length (Enc.F eI ga),ga.length≤1000000] (T.br (M.first [(10:Int),M.unl (decide ((mo.length:Int)≤4)) (8:Int),M.unl (!List.any (Enc.list eI mo.length (Enc.F eI mo)) (badF 119)) (2:Int),M.unl (!List.any (Enc.list eI ga.length (Enc.F eI ga)) (badF 120)) (2:Int),M.unl (decide ((de.length:Int)≤8)) (8:Int)] != (0:Int)) (T.ret [Ar.c (D.int IntKind.i64 (0:Int)),Ar.c (D.int IntKind.i64 (M.first [(10:Int),M.unl (decide ((mo.length:Int)≤4)) (8:Int),M.unl (!List.any (Enc.list eI mo.length (Enc.F eI mo)) (badF 119)) (2:Int),M.unl (!List.any (Enc.list eI ga.length (Enc.F eI ga)) (badF 120)) (2:Int),M.unl (decide ((de.length:Int)≤8)) (8:Int)]))]) (T.loop (Int×PUnit) ((0:Int),PUnit.unit) fun(x:Int×PUnit)=>T.br (decide (x.1<(de.length:Int))) (T.needs [(0:Int)≤x.1,x.1<(de.length:Int),(0:Int)≤0,(0:Int)≤x.1,x.1≤(de.length:Int)] (T.loop (Int×PUnit) ((0:Int),PUnit.unit) fun(x_1:Int×PUnit)=>T.br (decide (x_1.1<(Nat.cast (R:=Int) (Int.toNat (x.1-0))))) (T.need ((0:Int)≤x_1.1) (T.need (x_1.1<(Nat.cast (R:=Int) (Int.toNat (x.1-0)))) (T.br (ByteArray.toList (Dem.nm (de.getD ((0:Nat)+Int.toNat x_1.1) dfD))==ByteArray.toList (Dem.nm (de.getD x.1.toNat dfD))) (T.need (Enc.Is eI (List.length (Dem.co (de.getD x.1.toNat dfD))) (Enc.F eI (Dem.co (de.getD x.1.toNat dfD)))) (T.need (List.length (Dem.co (de.getD x.1.toNat dfD))≤1000000) (T.br (!List.any (Enc.list eI (List.length (Dem.co (de.getD x.1.toNat dfD))) (Enc.F eI (Dem.co (de.getD x.1.toNat dfD)))) (badF 124)) (T.needs [ByteArray.size (Dem.nm (de.getD x.1.toNat dfD))≤1000000,(!List.any (Enc.list eI (List.length (Dem.co (de.getD x.1.toNat dfD))) (Enc.F eI (Dem.co (de.getD x.1.toNat dfD)))) (badF 124))=true,((0:Int)≤1000000∧(1000000:Int)<9223372036854775808)] (T.br (M.first [M.unl (M.isName (Dem.nm (de.getD x.1.toNat dfD))) (4:Int),M.unl (!decide (x_1.1≥(0:Int))) (5:Int),M.unl (((Dem.co (de.getD x.1.toNat dfD)).length:Int)==(mo.length:Int)) (10:Int),M.unl (M.small (Dem.am (de.getD x.1.toNat dfD)) (1000000:Int)) (2:Int)] != (0:Int)) (T.ret (Sum.inr (Sum.inr [Ar.c (D.int IntKind.i64 x.1),Ar.c (D.int IntKind.i64 (M.first [M.unl (M.isName (Dem.nm (de.getD x.1.toNat dfD))) (4:Int),M.unl (!decide (x_1.1≥(0:Int))) (5:Int),M.unl (((Dem.co (de.getD x.1.toNat dfD)).length:Int)==(mo.length:Int)) (10:Int),M.unl (M.small (Dem.am (de.getD x.1.toNat dfD)) (1000000:Int)) (2:Int)]))]))) (T.ret (Sum.inr (Sum.inl (IntKind.i64.wrap (x.1+1),PUnit.unit)))))) (T.need (ByteArray.size (Dem.nm (de.getD x.1.toNat dfD))≤1000000) (T.need ((!List.any (Enc.list eI (List.length (Dem.co (de.getD x.1.toNat dfD))) (Enc.F eI (Dem.co (de.getD x.1.toNat dfD)))) (badF 124))=false) (T.br (M.first [M.unl (M.isName (Dem.nm (de.getD x.1.toNat dfD))) (4:Int),M.unl (!decide (x_1.1≥(0:Int))) (5:Int),M.unl (((Dem.co (de.getD x.1.toNat dfD)).length:Int)==(mo.length:Int)) (10:Int),(2:Int)] != (0:Int)) (T.ret (Sum.inr (Sum.inr [Ar.c (D.int IntKind.i64 x.1),Ar.c (D.int IntKind.i64 (M.first [M.unl (M.isName (Dem.nm (de.getD x.1.toNat dfD))) (4:Int),M.unl (!decide (x_1.1≥(0:Int))) (5:Int),M.unl (((Dem.co (de.getD x.1.toNat dfD)).length:Int)==(mo.length:Int)) (10:Int),(2:Int)]))]))) (T.ret (Sum.inr (Sum.inl (IntKind.i64.wrap (x.1+1),PUnit.unit)))))))))) (T.ret (Sum.inl (IntKind.i64.wrap (x_1.1+1),PUnit.unit)))))) (T.need (Enc.Is eI (List.length (Dem.co (de.getD x.1.toNat dfD))) (Enc.F eI (Dem.co (de.getD x.1.toNat dfD)))) (T.need (List.length (Dem.co (de.getD x.1.toNat dfD))≤1000000) (T.br (!List.any (Enc.list eI (List.length (Dem.co (de.getD x.1.toNat dfD))) (Enc.F eI (Dem.co (de.getD x.1.toNat dfD)))) (badF 124)) (T.needs [ByteArray.size (Dem.nm (de.getD x.1.toNat dfD))≤1000000,(!List.any (Enc.list eI (List.length (Dem.co (de.getD x.1.toNat dfD))) (Enc.F eI (Dem.co (de.getD x.1.toNat dfD)))) (badF 124))=true,((0:Int)≤1000000∧(1000000:Int)<9223372036854775808)] (T.br (M.first [M.unl (M.isName (Dem.nm (de.getD x.1.toNat dfD))) (4:Int),(0:Int),M.unl (((Dem.co (de.getD x.1.toNat dfD)).length:Int)==(mo.length:Int)) (10:Int),M.unl (M.small (Dem.am (de.getD x.1.toNat dfD)) (1000000:Int)) (2:Int)] != (0:Int)) (T.ret (Sum.inr (Sum.inr [Ar.c (D.int IntKind.i64 x.1),Ar.c (D.int IntKind.i64 (M.first [M.unl (M.isName (Dem.nm (de.getD x.1.toNat dfD))) (4:Int),(0:Int),M.unl (((Dem.co (de.getD x.1.toNat dfD)).length:Int)==(mo.length:Int)) (10:Int),M.unl (M.small (Dem.am (de.getD x.1.toNat dfD)) (1000000:Int)) (2:Int)]))]))) (T.ret (Sum.inr (Sum.inl (IntKind.i64.wrap (x.1+1),PUnit.unit)))))) (T.need (ByteArray.size (Dem.nm (de.getD x.1.toNat dfD))≤1000000) (T.need ((!List.any (Enc.list eI (List.length (Dem.co (de.getD x.1.toNat dfD))) (Enc.F eI (Dem.co (de.getD x.1.toNat dfD)))) (badF 124))=false) (T.br (M.first [M.unl (M.isName (Dem.nm (de.getD x.1.toNat dfD))) (4:Int),(0:Int),M.unl (((Dem.co (de.getD x.1.toNat dfD)).length:Int)==(mo.length:Int)) (10:Int),(2:Int)] != (0:Int)) (T.ret (Sum.inr (Sum.inr [Ar.c (D.int IntKind.i64 x.1),Ar.c (D.int IntKind.i64 (M.first [M.unl (M.isName (Dem.nm (de.getD x.1.toNat dfD))) (4:Int),(0:Int),M.unl (((Dem.co (de.getD x.1.toNat dfD)).length:Int)==(mo.length:Int)) (10:Int),(2:Int)]))]))) (T.ret (Sum.inr (Sum.inl (IntKind.i64.wrap (x.1+1),PUnit.unit)))))))))))) (T.ret (Sum.inr [Ar.c (D.int IntKind.i64 (0:Int)),Ar.c (D.int IntKind.i64 (0:Int))])))))
theorem t42(q_mo:Bool)(mo:List Int)(q_ga:Bool)(ga:List Int)(q_de:Bool)(de:List Dem):runFnX Try.prog G0 (lookS [v103,v104,v105,v118,v121,v125]) (fun f=>match Nat.beq f 42,Nat.beq f 166 with|true,_=>[(6,[.slot 50 (.int .i64)],none)]|_,true=>[(2,[.slot 8 (.int .i64)],none)]|_,_=>[]) [122,166,123] 1 40 6 42 Try.f42 [.agg [.sl q_mo mo.length 1 (eI.F mo),.sl q_ga ga.length 1 (eI.F ga),.sl q_de de.length 3 (eDm.F de)]] =
  tr42 q_mo mo q_ga ga q_de de:=by kernel_rfl
theorem rest42{n:Nat}{de:List Dem}{k:Nat}(hs:(de.getD k dfD).nm.size≤1000000)(hc:(de.getD k dfD).co.length≤1000000){b:Bool}(hdup:M.dup de k=b){α:Type}{Q:α→Prop}{yes:Int→α}{no:α}
  (hyes:M.demErr n de k≠0→Q (yes (M.demErr n de k))) (hno:M.demErr n de k=0→Q no) :
  (T.need (eI.Is (de.getD k dfD).co.length (eI.F (de.getD k dfD).co)) (T.need ((de.getD k dfD).co.length≤1000000) (T.br (!(de.getD k dfD).co.any (badF 124))
   (T.need ((de.getD k dfD).nm.size≤1000000) (T.need ((!(de.getD k dfD).co.any (badF 124))=true) (T.need ((0:Int)≤1000000∧(1000000:Int)<9223372036854775808)
    (T.br (M.first [M.unl (M.isName (de.getD k dfD).nm) 4,M.unl (!b) 5,M.unl (((de.getD k dfD).co.length:Int)==(n:Int)) 10,M.unl (M.small (de.getD k dfD).am 1000000) 2] != 0) (.ret (yes (M.first [M.unl (M.isName (de.getD k dfD).nm) 4,M.unl (!b) 5,M.unl (((de.getD k dfD).co.length:Int)==(n:Int)) 10,M.unl (M.small (de.getD k dfD).am 1000000) 2]))) (.ret no)))))
   (T.need ((de.getD k dfD).nm.size≤1000000) (T.need ((!(de.getD k dfD).co.any (badF 124))=false)
    (T.br (M.first [M.unl (M.isName (de.getD k dfD).nm) 4,M.unl (!b) 5,M.unl (((de.getD k dfD).co.length:Int)==(n:Int)) 10,2] != 0) (.ret (yes (M.first [M.unl (M.isName (de.getD k dfD).nm) 4,M.unl (!b) 5,M.unl (((de.getD k dfD).co.length:Int)==(n:Int)) 10,2]))) (.ret no)))))):T α).wp Q:=by
 have fin:∀e:Int,M.demErr n de k=e→(T.br (e != 0) (.ret (yes e)) (.ret no):T α).wp Q:=by
  intro e he
  refine wp_br (fun h=>?_) (fun h=>?_)
  ·rw[←he]at h ⊢;exact hyes (bne_iff_ne.1 h)
  ·rw[←he]at h;exact hno (by simpa using h)
 refine⟨Enc.is_F _ _ _,hc,wp_br (fun h=>⟨hs,h,by decide,fin _ ?_⟩) (fun h=>⟨hs,h,fin _ ?_⟩)⟩
 ·exact demErr_eq hdup (by rw[Bool.not_eq_true']at h;rw[h];rfl)
 ·exact demErr_eq (c:=false) hdup (by rw[Bool.not_eq_false']at h;rw[h];rfl)
theorem w42(qm:Bool)(mo:List Int)(qg:Bool)(ga:List Int)(qd:Bool)(de:List Dem)(h1:mo.length≤1000000)(h2:ga.length≤1000000)(h3:de.length≤1000000)(hn:∀d,d∈de→d.nm.size≤1000000∧d.co.length≤1000000):(tr42 qm mo qg ga qd de).wp (fun rs=>rsEqv rs (resP (M.checkProg mo ga de))):=by
 unfold tr42
 simp only[Enc.list_F]
 have er:M.progErr0 mo ga de≠0→M.checkProg mo ga de=(0,M.progErr0 mo ga de):=by
  intro h
  have hb:(M.progErr0 mo ga de != 0)=true:=bne_iff_ne.2 h
  unfold M.checkProg;rw[hb];rfl
 refine wp_br (fun hb=>⟨hb,Enc.is_F _ _ _,h1,Enc.is_F _ _ _,h2,?_⟩) (fun hb=>⟨hb,Enc.is_F _ _ _,h1,Enc.is_F _ _ _,h2,?_⟩)
 ·have hp:M.progErr0 mo ga de=M.first [M.unl ((ga.length:Int)==(mo.length:Int)) 10,M.unl (decide ((mo.length:Int)≤4)) 8,M.unl (!mo.any (badF 119)) 2,M.unl (!ga.any (badF 120)) 2,M.unl (decide ((de.length:Int)≤8)) 8]:=by
   unfold M.progErr0;rw[hb];rfl
  refine wp_br (fun hc=>?_) (fun hc=>?_)
  ·rw[←hp]at hc
   have hc:=bne_iff_ne.1 hc
   rw[er hc,←hp];exact rsEqv_refl _
  ·rw[←hp]at hc
   have hchk:M.checkProg mo ga de=M.badFrom (M.demErr mo.length de) (de.length-0) 0:=by unfold M.checkProg;rw[hc];rfl
   rw[hchk]
   refine range_wp (n:=de.length) (fun k _=>M.badFrom (M.demErr mo.length de) (de.length-0) 0=M.badFrom (M.demErr mo.length de) (de.length-k) k) rfl ?_
   rintro k u hk hI
   refine wp_br (fun hb=>?_) (fun hb=>?_)
   ·have hlt:=lt_of_dec hb
    have hmem:de.getD k dfD∈de:=by rw[List.getD_eq_getElem?_getD,List.getElem?_eq_getElem hlt];exact List.getElem_mem hlt
    refine⟨by show(0:Int)≤k;omega,by show(k:Int)<de.length;omega,Int.le_refl _,by show(0:Int)≤k;omega,by show(k:Int)≤de.length;omega,?_⟩
    have hyes:M.demErr mo.length de k≠0→rsEqv [Ar.c (dI k),Ar.c (dI (M.demErr mo.length de k))] (resP (M.badFrom (M.demErr mo.length de) (de.length-0) 0)):=by
     intro h
     rw[hI,bad_hit hlt h];exact rsEqv_refl _
    have hno:M.demErr mo.length de k=0→k<de.length∧IntKind.i64.wrap ((k:Int)+1)=((k+1:Nat):Int)∧M.badFrom (M.demErr mo.length de) (de.length-0) 0=M.badFrom (M.demErr mo.length de) (de.length-(k+1)) (k+1):=fun h=>⟨hlt,wrap_succ (by omega),hI.trans (bad_next hlt h)⟩
    refine range_wp (n:=k) (fun j _=>∀i,i<j→M.same (de.getD i dfD) (de.getD k dfD)=false) (fun i hi=>by omega) ?_
    rintro j u hj hJ
    have hkk:(Int.toNat ((k:Int)-0))=k:=by omega
    simp only[hkk]
    refine wp_br (fun hb=>?_) (fun hb=>?_)
    ·have hjlt:=lt_of_dec hb
     refine⟨by omega,by omega,?_⟩
     refine wp_br (fun hs=>?_) (fun hs=>?_)
     ·have hs:M.same (de.getD j dfD) (de.getD k dfD)=true:=by rw[Nat.zero_add]at hs;rw[←same_eq];exact hs
      have e:(!decide ((j:Int)≥0))= !true:=by rw[decide_eq_true (by omega)]
      simp only[e]
      exact rest42 (yes:=fun e=>Sum.inr (Sum.inr [Ar.c (dI k),Ar.c (dI e)])) (hn _ hmem).1 (hn _ hmem).2 (dup_yes hjlt hs) hyes hno
     ·have hs:M.same (de.getD j dfD) (de.getD k dfD)=false:=by rw[Nat.zero_add]at hs;rw[←same_eq];exact hs
      refine⟨hjlt,wrap_succ (by omega),fun i hi=>?_⟩
      rcases Nat.lt_or_ge i j with h|h
      ·exact hJ i h
      ·obtain rfl:i=j:=by omega
       exact hs
    ·have hge:=ge_of_dec hb
     obtain rfl:j=k:=by omega
     exact rest42 (b:=false) (yes:=fun e=>Sum.inr (Sum.inr [Ar.c (dI j),Ar.c (dI e)])) (hn _ hmem).1 (hn _ hmem).2 (dup_no hJ) hyes hno
   ·have hge:=ge_of_dec hb
    obtain rfl:k=de.length:=by omega
    show rsEqv _ _
    rw[hI,Nat.sub_self]
    exact rsEqv_refl _
 ·have hp:M.progErr0 mo ga de=M.first [10,M.unl (decide ((mo.length:Int)≤4)) 8,M.unl (!mo.any (badF 119)) 2,M.unl (!ga.any (badF 120)) 2,M.unl (decide ((de.length:Int)≤8)) 8]:=by
   unfold M.progErr0;rw[hb];rfl
  refine wp_br (fun hc=>?_) (fun hc=>?_)
  ·rw[←hp]at hc
   have hc:=bne_iff_ne.1 hc
   rw[er hc,←hp];exact rsEqv_refl _
  ·exact absurd (hc:((10:Int) != 0)=false) (by decide:¬((10:Int) != 0)=false)
def dom42:DomF
 |[.agg [.sl _ n_mo st_mo F_mo,.sl _ n_ga st_ga F_ga,.sl _ n_de st_de F_de]]=>(match Nat.beq st_mo 1&&Nat.beq st_ga 1&&Nat.beq st_de 3 with
  |true=>some ([eI.Is n_mo F_mo,eI.Is n_ga F_ga,eDm.Is n_de F_de,(eI.list n_mo F_mo).length≤1000000,(eI.list n_ga F_ga).length≤1000000,(eDm.list n_de F_de).length≤1000000,∀d,d∈(eDm.list n_de F_de)→d.nm.size≤1000000∧d.co.length≤1000000],resP (M.checkProg (eI.list n_mo F_mo) (eI.list n_ga F_ga) (eDm.list n_de F_de)))
  |_=>none)
 |_=>none
def v42:Nat×Sm:=(42,fokSm dom42)
theorem C42:FOK Try.prog G0 gw 42 dom42:=by
 intro ags p r hd hp κ w xs hw hl hG hx
 unfold dom42 at hd
 split at hd
 ·rename_i q_mo n_mo st_mo F_mo q_ga n_ga st_ga F_ga q_de n_de st_de F_de
  split at hd
  ·rename_i hst
   simp only[Bool.and_eq_true]at hst
   obtain⟨⟨g1,g2⟩,g3⟩:=hst
   have g1:=Nat.eq_of_beq_eq_true g1
   have g2:=Nat.eq_of_beq_eq_true g2
   have g3:=Nat.eq_of_beq_eq_true g3
   subst g1 g2 g3
   simp only[Option.some.injEq,Prod.mk.injEq]at hd
   obtain⟨rfl,rfl⟩:=hd
   obtain⟨hI_mo,hI_ga,hI_de,hp⟩:=hp
   have heq:agsEqv [.agg [.sl q_mo n_mo 1 F_mo,.sl q_ga n_ga 1 F_ga,.sl q_de n_de 3 F_de]] [.agg [.sl q_mo (eI.list n_mo F_mo).length 1 (eI.F (eI.list n_mo F_mo)),.sl q_ga (eI.list n_ga F_ga).length 1 (eI.F (eI.list n_ga F_ga)),.sl q_de (eDm.list n_de F_de).length 3 (eDm.F (eDm.list n_de F_de))]]:=⟨⟨eI.to id hI_mo,eI.to id hI_ga,eDm.to id hI_de,trivial⟩,trivial⟩
   have len_mo:(eI.list n_mo F_mo).length=n_mo:=eI.list_len
   have len_ga:(eI.list n_ga F_ga).length=n_ga:=eI.list_len
   have len_de:(eDm.list n_de F_de).length=n_de:=eDm.list_len
   generalize eI.list n_mo F_mo=mo at *
   generalize eI.list n_ga F_ga=ga at *
   generalize eDm.list n_de F_de=de at *
   subst len_mo len_ga len_de
   exact fokX_fin mixed gw_stable (sl:=[v103,v104,v105,v118,v121,v125]) ⟨S103,S104,S105,S118,S121,S125,trivial⟩ Try.func42 hw hl hG hx heq rfl (t42 _ _ _ _ _ _) (w42 _ _ _ _ _ _ hp.1 hp.2.1 hp.2.2.1 hp.2.2.2.1)
  ·cases hd
 ·cases hd
theorem S42:SumOK Try.prog G0 gw 42 (fokSm dom42):=fok_sum Try.func42 rfl C42
end Go.Pl
end
section
set_option maxRecDepth 100000
namespace Go.Pl
open Go.V Go.Proofs
def encR(l:List Int):Nat→D:=fun _=>.sl false l.length 1 (eI.F l)
def rdR(F:Nat→D):List Int:=match F 0 with|.sl _ n _ G=>eI.list n G|_=>[]
def eR:Enc (List Int):=⟨1,encR,rdR,[],fun l=>Enc.list_F eI l⟩
def encRt(l:List Int):Nat→D:=fun _=>.sl true l.length 1 (eI.F l)
def eRt:Enc (List Int):=⟨1,encRt,rdR,[],fun l=>Enc.list_F eI l⟩
namespace M
def minorM(m:List (List Int))(k:Nat):List (List Int):=(m.drop 1).map fun r=>r.take k++r.drop (k+1)
def detRow(rec:Nat→Int):List Int→Nat→Int→Int→Int
 |[],_,out,_=>out
 |a::l,k,out,sign=>detRow rec l (k+1) (cond (a != 0) (IntKind.i64.wrap (out+IntKind.i64.wrap (IntKind.i64.wrap (sign*a)*rec k))) out) (IntKind.i64.wrap (0-sign))
def det:Nat→List (List Int)→Int
 |0,_=>1
 |n+1,m=>detRow (fun k=>det n (minorM m k)) (m.getD 0 []) 0 0 1
end M
def rowS(N:Nat):D→Option (List Int×List Prop)
 |.sl _ n st G=>(match Nat.beq st 1 with|true=>some (eI.list n G,[eI.Is n G,n=N])|false=>none)
 |_=>none
def rowsS(N:Nat):Nat→(Nat→Nat→D)→Option (List (List Int)×List Prop)
 |0,_=>some ([],[])
 |n+1,F=>match rowS N (F 0 0),rowsS N n (fun i=>F (i+1))with|some (x,p),some (l,q)=>some (x::l,p++q)|_,_=>none
theorem rowS_spec{N:Nat}{d:D}{l:List Int}{p:List Prop}(h:rowS N d=some (l,p))(hp:All p):l.length=N∧d.eqv (.sl false l.length 1 (eI.F l)):=by
 unfold rowS at h
 split at h
 ·rename_i q n st G
  split at h
  ·rename_i hst
   have h1:=Nat.eq_of_beq_eq_true hst
   subst h1
   simp only[Option.some.injEq,Prod.mk.injEq]at h
   obtain⟨rfl,rfl⟩:=h
   obtain⟨hI,hn,_⟩:=hp
   refine⟨by rw[Enc.list_len];exact hn,?_⟩
   exact eI.to (fun e=>by cases e) hI
  ·cases h
 ·cases h
theorem rowsS_spec{N:Nat}:∀{n:Nat} {F:Nat→Nat→D} {m:List (List Int)} {p:List Prop},rowsS N n F=some (m,p)→All p→m.length=n∧(∀l,l∈m→l.length=N)∧∀i,i<n→(F i 0).eqv (.sl false (m.getD i []).length 1 (eI.F (m.getD i []))):=by
 intro n
 induction n with
 |zero=>intro F l p h _;simp[rowsS]at h;obtain⟨rfl,_⟩:=h;exact⟨rfl,by simp,fun i hi=>by omega⟩
 |succ n ih=>
  intro F l p h hp
  simp only[rowsS]at h
  split at h
  ·rename_i x p1 k p2 hx hk
   simp only[Option.some.injEq,Prod.mk.injEq]at h;obtain⟨rfl,rfl⟩:=h
   obtain⟨hp1,hp2⟩:=All.append.1 hp
   obtain⟨h1,h2,h3⟩:=ih hk hp2
   obtain⟨g1,g2⟩:=rowS_spec hx hp1
   refine⟨by simp[h1],fun l hl=>?_,fun i hi=>?_⟩
   ·rcases List.mem_cons.1 hl with rfl|hl
    ·exact g1
    ·exact h2 l hl
   ·cases i with
    |zero=>simpa using g2
    |succ i=>simpa using h3 i (by omega)
  ·cases h
theorem rowsS_eqv{N:Nat}{q q':Bool}(hq:q'=true→q=true){n:Nat}{F:Nat→Nat→D}{m:List (List Int)}{p:List Prop}(h:rowsS N n F=some (m,p))(hp:All p):(D.sl q n 1 F).eqv (.sl q' m.length 1 (eR.F m)):=by
 obtain⟨h1,h2,h3⟩:=rowsS_spec h hp
 refine⟨hq,h1.symm,fun _=>rfl,fun i j hi hj=>?_⟩
 obtain rfl:j=0:=by omega
 exact h3 i hi
theorem len1{α:Type}{l:List α}(h:l.length=1):∃a,l=[a]:=by
 match l,h with
 |[a],_=>exact⟨a,rfl⟩
theorem len2{α:Type}{l:List α}(h:l.length=2):∃a b,l=[a,b]:=by
 match l,h with
 |[a,b],_=>exact⟨a,b,rfl⟩
theorem len3{α:Type}{l:List α}(h:l.length=3):∃a b c,l=[a,b,c]:=by
 match l,h with
 |[a,b,c],_=>exact⟨a,b,c,rfl⟩
theorem len4{α:Type}{l:List α}(h:l.length=4):∃a b c d,l=[a,b,c,d]:=by
 match l,h with
 |[a,b,c,d],_=>exact⟨a,b,c,d,rfl⟩
def dom183(N:Nat):DomF
 |[.c (.sl _ n st F)]=>(match Nat.beq n N&&(Nat.beq st 1||Nat.beq n 0),rowsS N n F with
  |true,some (m,p)=>some (p,[rI (M.det N m)])
  |_,_=>none)
 |_=>none
def v183(N:Nat):Nat×Sm:=(183,fokSm (dom183 N))
end Go.Pl
end
section
set_option maxRecDepth 100000
namespace Go.Pl
open Go.V Go.Proofs
theorem rI_eqv{a b:Int}(h:a=b):rsEqv [rI a] [rI b]:=by rw[h];exact rsEqv_refl _
def tr183_0(q:Bool)(st:Nat)(F:Nat→Nat→D):T (List Ar):=
  T.ret [Ar.c (D.int IntKind.i64 (1:Int))]
theorem t183_0(q:Bool)(st:Nat)(F:Nat→Nat→D):runFnX Try.prog G0 (lookS []) (fun _=>[(999999,[],none)]) [] 1 40 3 183 Try.f183 [.c (.sl q 0 st F)] =
  tr183_0 q st F:=by kernel_rfl
theorem C183_0:FOK Try.prog G0 gw 183 (dom183 0):=by
 intro ags p r hd hp κ w xs hw hl hG hx
 unfold dom183 at hd
 split at hd
 ·rename_i q n st F
  split at hd
  ·rename_i m pp hst hm
   simp only[Bool.and_eq_true]at hst
   have h1:=Nat.eq_of_beq_eq_true hst.1
   subst h1
   simp only[Option.some.injEq,Prod.mk.injEq]at hd
   obtain⟨rfl,rfl⟩:=hd
   exact fokX_fin mixed gw_stable (sl:=[]) trivial Try.func183 hw hl hG hx (agsEqv_refl _) rfl (t183_0 q st F) (rsEqv_refl _)
  ·cases hd
 ·cases hd
theorem S183_0:SumOK Try.prog G0 gw 183 (fokSm (dom183 0)):=fok_sum Try.func183 rfl C183_0
def tr183_1(q:Bool)(a00:Int):T (List Ar):=
  T.needs [(0:Int)≤0,(0:Int)<1,(0:Int)≤0,(0:Int)<1,(0:Int)≤1,(1:Int)≤1,(1:Int)≤1] (T.ret [Ar.c (D.int IntKind.i64 (bif a00 != (0:Int)then IntKind.i64.wrap ((0:Int)+IntKind.i64.wrap (IntKind.i64.wrap ((1:Int)*a00)*1))else(0:Int)))])
theorem t183_1(q:Bool)(a00:Int):runFnX Try.prog G0 (lookS [v182,v183 0]) (fun _=>[(1000012,[],none),(1000018,[],none),(3000017,[],none),(1000028,[],none),(3000027,[],none),(5000023,[.slot 3 (.int .i64)],none)]) [] 1 40 3 183 Try.f183 [.c (.sl q 1 1 (eR.F [[a00]]))] =
  tr183_1 q a00:=by kernel_rfl
theorem w183_1(q:Bool)(a00:Int):(tr183_1 q a00).wp (fun rs=>rsEqv rs [rI (M.det 1 [[a00]])]):=by
 unfold tr183_1
 repeat (refine⟨(by first|exact of_decide_eq_true rfl|exact fun i j _ _=>D.eqv_refl _),?_⟩)
 refine rI_eqv ?_
 kernel_rfl
theorem C183_1:FOK Try.prog G0 gw 183 (dom183 1):=by
 intro ags p r hd hp κ w xs hw hl hG hx
 unfold dom183 at hd
 split at hd
 ·rename_i q n st F
  split at hd
  ·rename_i m pp hst hm
   simp only[Bool.and_eq_true]at hst
   obtain⟨h1,h2⟩:=hst
   have h1:=Nat.eq_of_beq_eq_true h1
   subst h1
   have h2:Nat.beq st 1=true:=by
    rw[Bool.or_eq_true]at h2
    rcases h2 with h|h
    ·exact h
    ·exact absurd h (by decide)
   have h2:=Nat.eq_of_beq_eq_true h2
   subst h2
   simp only[Option.some.injEq,Prod.mk.injEq]at hd
   obtain⟨rfl,rfl⟩:=hd
   have hs:=(rowsS_spec hm hp).2.1
   have heq:agsEqv [.c (.sl q 1 1 F)] [.c (.sl q m.length 1 (eR.F m))]:=⟨rowsS_eqv id hm hp,trivial⟩
   obtain⟨w0,rfl⟩:=len1 (rowsS_spec hm hp).1
   obtain⟨a00,rfl⟩:=len1 (hs _ (by simp):w0.length=1)
   exact fokX_fin mixed gw_stable (sl:=[v182,v183 0]) ⟨S182,S183_0,trivial⟩ Try.func183 hw hl hG hx heq rfl (t183_1 q a00) (w183_1 q a00)
  ·cases hd
 ·cases hd
theorem S183_1:SumOK Try.prog G0 gw 183 (fokSm (dom183 1)):=fok_sum Try.func183 rfl C183_1
def tr183_2(q:Bool)(a00 a01 a10 a11:Int):T (List Ar):=
  T.needs [(0:Int)≤0,(0:Int)<2,(0:Int)≤0,(0:Int)<2,(0:Int)≤1,(1:Int)≤2,(2:Int)≤2,(0:Int)≤0,(0:Int)<1,(0:Int)≤0,(0:Int)≤0,(0:Int)≤2,(0:Int)≤1,(1:Int)≤2,(2:Int)≤2,(Enc.Is eI (0:Nat) fun(i j:Nat)=>Enc.F eI [a10,a11] ((0:Nat)+i) j),(Enc.Is eI (1:Nat) fun(i j:Nat)=>Enc.F eI [a10,a11] ((1:Nat)+i) j),(0:Nat)<1,(1:Nat)≤1000000,(1:Nat)≤1000000,(1:Nat)≤1,Enc.Is eI (1:Nat) (Enc.F eI [a11]),(1:Nat)=1,(0:Int)≤1,(1:Int)<2,(0:Int)≤1,(1:Int)≤2,(2:Int)≤2,(0:Int)≤0,(0:Int)<1,(0:Int)≤0,(0:Int)≤1,(1:Int)≤2,(0:Int)≤2,(2:Int)≤2,(2:Int)≤2,(Enc.Is eI (1:Nat) fun(i j:Nat)=>Enc.F eI [a10,a11] ((0:Nat)+i) j),(Enc.Is eI (0:Nat) fun(i j:Nat)=>Enc.F eI [a10,a11] ((2:Nat)+i) j),(0:Nat)<1,(1:Nat)≤1000000,(1:Nat)≤1000000,(1:Nat)≤1,Enc.Is eI (1:Nat) (Enc.F eI [a10]),(1:Nat)=1] (T.ret [Ar.c (D.int IntKind.i64 (bif a01 != (0:Int)then IntKind.i64.wrap ((bif a00 != (0:Int)then IntKind.i64.wrap ((0:Int)+IntKind.i64.wrap (IntKind.i64.wrap ((1:Int)*a00)*M.det (1:Nat) [[a11]]))else(0:Int))+IntKind.i64.wrap (IntKind.i64.wrap ((-1:Int)*a01)*M.det (1:Nat) [[a10]]))else bif a00 != (0:Int)then IntKind.i64.wrap ((0:Int)+IntKind.i64.wrap (IntKind.i64.wrap ((1:Int)*a00)*M.det (1:Nat) [[a11]]))else(0:Int)))])
theorem t183_2(q:Bool)(a00 a01 a10 a11:Int):runFnX Try.prog G0 (lookS [v182,v183 1]) (fun _=>[(1000012,[],none),(1000018,[],none),(3000017,[],none),(1000028,[],none),(3000027,[],none),(5000023,[.slot 3 (.int .i64)],none)]) [] 1 40 3 183 Try.f183 [.c (.sl q 2 1 (eR.F [[a00,a01],[a10,a11]]))] =
  tr183_2 q a00 a01 a10 a11:=by kernel_rfl
theorem w183_2(q:Bool)(a00 a01 a10 a11:Int):(tr183_2 q a00 a01 a10 a11).wp (fun rs=>rsEqv rs [rI (M.det 2 [[a00,a01],[a10,a11]])]):=by
 unfold tr183_2
 repeat (refine⟨(by first|exact of_decide_eq_true rfl|exact fun i j _ _=>D.eqv_refl _),?_⟩)
 refine rI_eqv ?_
 kernel_rfl
theorem C183_2:FOK Try.prog G0 gw 183 (dom183 2):=by
 intro ags p r hd hp κ w xs hw hl hG hx
 unfold dom183 at hd
 split at hd
 ·rename_i q n st F
  split at hd
  ·rename_i m pp hst hm
   simp only[Bool.and_eq_true]at hst
   obtain⟨h1,h2⟩:=hst
   have h1:=Nat.eq_of_beq_eq_true h1
   subst h1
   have h2:Nat.beq st 1=true:=by
    rw[Bool.or_eq_true]at h2
    rcases h2 with h|h
    ·exact h
    ·exact absurd h (by decide)
   have h2:=Nat.eq_of_beq_eq_true h2
   subst h2
   simp only[Option.some.injEq,Prod.mk.injEq]at hd
   obtain⟨rfl,rfl⟩:=hd
   have hs:=(rowsS_spec hm hp).2.1
   have heq:agsEqv [.c (.sl q 2 1 F)] [.c (.sl q m.length 1 (eR.F m))]:=⟨rowsS_eqv id hm hp,trivial⟩
   obtain⟨w0,w1,rfl⟩:=len2 (rowsS_spec hm hp).1
   obtain⟨a00,a01,rfl⟩:=len2 (hs _ (by simp):w0.length=2)
   obtain⟨a10,a11,rfl⟩:=len2 (hs _ (by simp):w1.length=2)
   exact fokX_fin mixed gw_stable (sl:=[v182,v183 1]) ⟨S182,S183_1,trivial⟩ Try.func183 hw hl hG hx heq rfl (t183_2 q a00 a01 a10 a11) (w183_2 q a00 a01 a10 a11)
  ·cases hd
 ·cases hd
theorem S183_2:SumOK Try.prog G0 gw 183 (fokSm (dom183 2)):=fok_sum Try.func183 rfl C183_2
def tr183_3(q:Bool)(a00 a01 a02 a10 a11 a12 a20 a21 a22:Int):T (List Ar):=
  T.needs [(0:Int)≤0,(0:Int)<3,(0:Int)≤0,(0:Int)<3,(0:Int)≤1,(1:Int)≤3,(3:Int)≤3,(0:Int)≤0,(0:Int)<2,(0:Int)≤0,(0:Int)≤0,(0:Int)≤3,(0:Int)≤1,(1:Int)≤3,(3:Int)≤3,(Enc.Is eI (0:Nat) fun(i j:Nat)=>Enc.F eI [a10,a11,a12] ((0:Nat)+i) j),(Enc.Is eI (2:Nat) fun(i j:Nat)=>Enc.F eI [a10,a11,a12] ((1:Nat)+i) j),(0:Nat)<2,(2:Nat)≤1000000,(1:Nat)≤1000000,(0:Int)≤1,(1:Int)<2,(0:Int)≤0,(0:Int)≤0,(0:Int)≤3,(0:Int)≤1,(1:Int)≤3,(3:Int)≤3,(Enc.Is eI (0:Nat) fun(i j:Nat)=>Enc.F eI [a20,a21,a22] ((0:Nat)+i) j),(Enc.Is eI (2:Nat) fun(i j:Nat)=>Enc.F eI [a20,a21,a22] ((1:Nat)+i) j),(0:Nat)<2,(2:Nat)≤1000000,(2:Nat)≤1000000,(1:Nat)≤1,(2:Nat)≤2,(Enc.Is eI (2:Nat) (Enc.F eI [a11,a12])),(2:Nat)=2,(Enc.Is eI (2:Nat) (Enc.F eI [a21,a22])),(2:Nat)=2,(0:Int)≤1,(1:Int)<3,(0:Int)≤1,(1:Int)≤3,(3:Int)≤3,(0:Int)≤0,(0:Int)<2,(0:Int)≤0,(0:Int)≤1,(1:Int)≤3,(0:Int)≤2,(2:Int)≤3,(3:Int)≤3,(Enc.Is eI (1:Nat) fun(i j:Nat)=>Enc.F eI [a10,a11,a12] ((0:Nat)+i) j),(Enc.Is eI (1:Nat) fun(i j:Nat)=>Enc.F eI [a10,a11,a12] ((2:Nat)+i) j),(0:Nat)<2,(2:Nat)≤1000000,(1:Nat)≤1000000,(0:Int)≤1,(1:Int)<2,(0:Int)≤0,(0:Int)≤1,(1:Int)≤3,(0:Int)≤2,(2:Int)≤3,(3:Int)≤3,(Enc.Is eI (1:Nat) fun(i j:Nat)=>Enc.F eI [a20,a21,a22] ((0:Nat)+i) j),(Enc.Is eI (1:Nat) fun(i j:Nat)=>Enc.F eI [a20,a21,a22] ((2:Nat)+i) j),(0:Nat)<2,(2:Nat)≤1000000,(2:Nat)≤1000000,(1:Nat)≤1,(2:Nat)≤2,(Enc.Is eI (2:Nat) (Enc.F eI [a10,a12])),(2:Nat)=2,(Enc.Is eI (2:Nat) (Enc.F eI [a20,a22])),(2:Nat)=2,(0:Int)≤2,(2:Int)<3,(0:Int)≤1,(1:Int)≤3,(3:Int)≤3,(0:Int)≤0,(0:Int)<2,(0:Int)≤0,(0:Int)≤2,(2:Int)≤3,(0:Int)≤3,(3:Int)≤3,(3:Int)≤3,(Enc.Is eI (2:Nat) fun(i j:Nat)=>Enc.F eI [a10,a11,a12] ((0:Nat)+i) j),(Enc.Is eI (0:Nat) fun(i j:Nat)=>Enc.F eI [a10,a11,a12] ((3:Nat)+i) j),(0:Nat)<2,(2:Nat)≤1000000,(1:Nat)≤1000000,(0:Int)≤1,(1:Int)<2,(0:Int)≤0,(0:Int)≤2,(2:Int)≤3,(0:Int)≤3,(3:Int)≤3,(3:Int)≤3,(Enc.Is eI (2:Nat) fun(i j:Nat)=>Enc.F eI [a20,a21,a22] ((0:Nat)+i) j),(Enc.Is eI (0:Nat) fun(i j:Nat)=>Enc.F eI [a20,a21,a22] ((3:Nat)+i) j),(0:Nat)<2,(2:Nat)≤1000000,(2:Nat)≤1000000,(1:Nat)≤1,(2:Nat)≤2,(Enc.Is eI (2:Nat) (Enc.F eI [a10,a11])),(2:Nat)=2,(Enc.Is eI (2:Nat) (Enc.F eI [a20,a21])),(2:Nat)=2] (T.ret [Ar.c (D.int IntKind.i64 (bif a02 != (0:Int)then IntKind.i64.wrap ((bif a01 != (0:Int)then IntKind.i64.wrap ((bif a00 != (0:Int)then IntKind.i64.wrap ((0:Int)+IntKind.i64.wrap (IntKind.i64.wrap ((1:Int)*a00)*M.det (2:Nat) [[a11,a12],[a21,a22]]))else(0:Int))+IntKind.i64.wrap (IntKind.i64.wrap ((-1:Int)*a01)*M.det (2:Nat) [[a10,a12],[a20,a22]]))else bif a00 != (0:Int)then IntKind.i64.wrap ((0:Int)+IntKind.i64.wrap (IntKind.i64.wrap ((1:Int)*a00)*M.det (2:Nat) [[a11,a12],[a21,a22]]))else(0:Int))+IntKind.i64.wrap (IntKind.i64.wrap ((1:Int)*a02)*M.det (2:Nat) [[a10,a11],[a20,a21]]))else bif a01 != (0:Int)then IntKind.i64.wrap ((bif a00 != (0:Int)then IntKind.i64.wrap ((0:Int)+IntKind.i64.wrap (IntKind.i64.wrap ((1:Int)*a00)*M.det (2:Nat) [[a11,a12],[a21,a22]]))else(0:Int))+IntKind.i64.wrap (IntKind.i64.wrap ((-1:Int)*a01)*M.det (2:Nat) [[a10,a12],[a20,a22]]))else bif a00 != (0:Int)then IntKind.i64.wrap ((0:Int)+IntKind.i64.wrap (IntKind.i64.wrap ((1:Int)*a00)*M.det (2:Nat) [[a11,a12],[a21,a22]]))else(0:Int)))])
theorem t183_3(q:Bool)(a00 a01 a02 a10 a11 a12 a20 a21 a22:Int):runFnX Try.prog G0 (lookS [v182,v183 2]) (fun _=>[(1000012,[],none),(1000018,[],none),(3000017,[],none),(1000028,[],none),(3000027,[],none),(5000023,[.slot 3 (.int .i64)],none)]) [] 1 40 3 183 Try.f183 [.c (.sl q 3 1 (eR.F [[a00,a01,a02],[a10,a11,a12],[a20,a21,a22]]))] =
  tr183_3 q a00 a01 a02 a10 a11 a12 a20 a21 a22:=by kernel_rfl
theorem w183_3(q:Bool)(a00 a01 a02 a10 a11 a12 a20 a21 a22:Int):(tr183_3 q a00 a01 a02 a10 a11 a12 a20 a21 a22).wp (fun rs=>rsEqv rs [rI (M.det 3 [[a00,a01,a02],[a10,a11,a12],[a20,a21,a22]])]):=by
 unfold tr183_3
 repeat (refine⟨(by first|exact of_decide_eq_true rfl|exact fun i j _ _=>D.eqv_refl _),?_⟩)
 refine rI_eqv ?_
 kernel_rfl
theorem C183_3:FOK Try.prog G0 gw 183 (dom183 3):=by
 intro ags p r hd hp κ w xs hw hl hG hx
 unfold dom183 at hd
 split at hd
 ·rename_i q n st F
  split at hd
  ·rename_i m pp hst hm
   simp only[Bool.and_eq_true]at hst
   obtain⟨h1,h2⟩:=hst
   have h1:=Nat.eq_of_beq_eq_true h1
   subst h1
   have h2:Nat.beq st 1=true:=by
    rw[Bool.or_eq_true]at h2
    rcases h2 with h|h
    ·exact h
    ·exact absurd h (by decide)
   have h2:=Nat.eq_of_beq_eq_true h2
   subst h2
   simp only[Option.some.injEq,Prod.mk.injEq]at hd
   obtain⟨rfl,rfl⟩:=hd
   have hs:=(rowsS_spec hm hp).2.1
   have heq:agsEqv [.c (.sl q 3 1 F)] [.c (.sl q m.length 1 (eR.F m))]:=⟨rowsS_eqv id hm hp,trivial⟩
   obtain⟨w0,w1,w2,rfl⟩:=len3 (rowsS_spec hm hp).1
   obtain⟨a00,a01,a02,rfl⟩:=len3 (hs _ (by simp):w0.length=3)
   obtain⟨a10,a11,a12,rfl⟩:=len3 (hs _ (by simp):w1.length=3)
   obtain⟨a20,a21,a22,rfl⟩:=len3 (hs _ (by simp):w2.length=3)
   exact fokX_fin mixed gw_stable (sl:=[v182,v183 2]) ⟨S182,S183_2,trivial⟩ Try.func183 hw hl hG hx heq rfl (t183_3 q a00 a01 a02 a10 a11 a12 a20 a21 a22) (w183_3 q a00 a01 a02 a10 a11 a12 a20 a21 a22)
  ·cases hd
 ·cases hd
theorem S183_3:SumOK Try.prog G0 gw 183 (fokSm (dom183 3)):=fok_sum Try.func183 rfl C183_3
def tr183_4(q:Bool)(a00 a01 a02 a03 a10 a11 a12 a13 a20 a21 a22 a23 a30 a31 a32 a33:Int):T (List Ar):=
  T.needs [(0:Int)≤0,(0:Int)<4,(0:Int)≤0,(0:Int)<4,(0:Int)≤1,(1:Int)≤4,(4:Int)≤4,(0:Int)≤0,(0:Int)<3,(0:Int)≤0,(0:Int)≤0,(0:Int)≤4,(0:Int)≤1,(1:Int)≤4,(4:Int)≤4,(Enc.Is eI (0:Nat) fun(i j:Nat)=>Enc.F eI [a10,a11,a12,a13] ((0:Nat)+i) j),(Enc.Is eI (3:Nat) fun(i j:Nat)=>Enc.F eI [a10,a11,a12,a13] ((1:Nat)+i) j),(0:Nat)<3,(3:Nat)≤1000000,(1:Nat)≤1000000,(0:Int)≤1,(1:Int)<3,(0:Int)≤0,(0:Int)≤0,(0:Int)≤4,(0:Int)≤1,(1:Int)≤4,(4:Int)≤4,(Enc.Is eI (0:Nat) fun(i j:Nat)=>Enc.F eI [a20,a21,a22,a23] ((0:Nat)+i) j),(Enc.Is eI (3:Nat) fun(i j:Nat)=>Enc.F eI [a20,a21,a22,a23] ((1:Nat)+i) j),(0:Nat)<3,(3:Nat)≤1000000,(2:Nat)≤1000000,(1:Nat)≤1,(0:Int)≤2,(2:Int)<3,(0:Int)≤0,(0:Int)≤0,(0:Int)≤4,(0:Int)≤1,(1:Int)≤4,(4:Int)≤4,(Enc.Is eI (0:Nat) fun(i j:Nat)=>Enc.F eI [a30,a31,a32,a33] ((0:Nat)+i) j),(Enc.Is eI (3:Nat) fun(i j:Nat)=>Enc.F eI [a30,a31,a32,a33] ((1:Nat)+i) j),(0:Nat)<3,(3:Nat)≤1000000,(3:Nat)≤1000000,(2:Nat)≤2,(3:Nat)≤3,(Enc.Is eI (3:Nat) (Enc.F eI [a11,a12,a13])),(3:Nat)=3,(Enc.Is eI (3:Nat) (Enc.F eI [a21,a22,a23])),(3:Nat)=3,(Enc.Is eI (3:Nat) (Enc.F eI [a31,a32,a33])),(3:Nat)=3,(0:Int)≤1,(1:Int)<4,(0:Int)≤1,(1:Int)≤4,(4:Int)≤4,(0:Int)≤0,(0:Int)<3,(0:Int)≤0,(0:Int)≤1,(1:Int)≤4,(0:Int)≤2,(2:Int)≤4,(4:Int)≤4,(Enc.Is eI (1:Nat) fun(i j:Nat)=>Enc.F eI [a10,a11,a12,a13] ((0:Nat)+i) j),(Enc.Is eI (2:Nat) fun(i j:Nat)=>Enc.F eI [a10,a11,a12,a13] ((2:Nat)+i) j),(0:Nat)<3,(3:Nat)≤1000000,(1:Nat)≤1000000,(0:Int)≤1,(1:Int)<3,(0:Int)≤0,(0:Int)≤1,(1:Int)≤4,(0:Int)≤2,(2:Int)≤4,(4:Int)≤4,(Enc.Is eI (1:Nat) fun(i j:Nat)=>Enc.F eI [a20,a21,a22,a23] ((0:Nat)+i) j),(Enc.Is eI (2:Nat) fun(i j:Nat)=>Enc.F eI [a20,a21,a22,a23] ((2:Nat)+i) j),(0:Nat)<3,(3:Nat)≤1000000,(2:Nat)≤1000000,(1:Nat)≤1,(0:Int)≤2,(2:Int)<3,(0:Int)≤0,(0:Int)≤1,(1:Int)≤4,(0:Int)≤2,(2:Int)≤4,(4:Int)≤4,(Enc.Is eI (1:Nat) fun(i j:Nat)=>Enc.F eI [a30,a31,a32,a33] ((0:Nat)+i) j),(Enc.Is eI (2:Nat) fun(i j:Nat)=>Enc.F eI [a30,a31,a32,a33] ((2:Nat)+i) j),(0:Nat)<3,(3:Nat)≤1000000,(3:Nat)≤1000000,(2:Nat)≤2,(3:Nat)≤3,(Enc.Is eI (3:Nat) (Enc.F eI [a10,a12,a13])),(3:Nat)=3,(Enc.Is eI (3:Nat) (Enc.F eI [a20,a22,a23])),(3:Nat)=3,(Enc.Is eI (3:Nat) (Enc.F eI [a30,a32,a33])),(3:Nat)=3,(0:Int)≤2,(2:Int)<4,(0:Int)≤1,(1:Int)≤4,(4:Int)≤4,(0:Int)≤0,(0:Int)<3,(0:Int)≤0,(0:Int)≤2,(2:Int)≤4,(0:Int)≤3,(3:Int)≤4,(4:Int)≤4,(Enc.Is eI (2:Nat) fun(i j:Nat)=>Enc.F eI [a10,a11,a12,a13] ((0:Nat)+i) j),(Enc.Is eI (1:Nat) fun(i j:Nat)=>Enc.F eI [a10,a11,a12,a13] ((3:Nat)+i) j),(0:Nat)<3,(3:Nat)≤1000000,(1:Nat)≤1000000,(0:Int)≤1,(1:Int)<3,(0:Int)≤0,(0:Int)≤2,(2:Int)≤4,(0:Int)≤3,(3:Int)≤4,(4:Int)≤4,(Enc.Is eI (2:Nat) fun(i j:Nat)=>Enc.F eI [a20,a21,a22,a23] ((0:Nat)+i) j),(Enc.Is eI (1:Nat) fun(i j:Nat)=>Enc.F eI [a20,a21,a22,a23] ((3:Nat)+i) j),(0:Nat)<3,(3:Nat)≤1000000,(2:Nat)≤1000000,(1:Nat)≤1,(0:Int)≤2,(2:Int)<3,(0:Int)≤0,(0:Int)≤2,(2:Int)≤4,(0:Int)≤3,(3:Int)≤4,(4:Int)≤4,(Enc.Is eI (2:Nat) fun(i j:Nat)=>Enc.F eI [a30,a31,a32,a33] ((0:Nat)+i) j),(Enc.Is eI (1:Nat) fun(i j:Nat)=>Enc.F eI [a30,a31,a32,a33] ((3:Nat)+i) j),(0:Nat)<3,(3:Nat)≤1000000,(3:Nat)≤1000000,(2:Nat)≤2,(3:Nat)≤3,(Enc.Is eI (3:Nat) (Enc.F eI [a10,a11,a13])),(3:Nat)=3,(Enc.Is eI (3:Nat) (Enc.F eI [a20,a21,a23])),(3:Nat)=3,(Enc.Is eI (3:Nat) (Enc.F eI [a30,a31,a33])),(3:Nat)=3,(0:Int)≤3,(3:Int)<4,(0:Int)≤1,(1:Int)≤4,(4:Int)≤4,(0:Int)≤0,(0:Int)<3,(0:Int)≤0,(0:Int)≤3,(3:Int)≤4,(0:Int)≤4,(4:Int)≤4,(4:Int)≤4,(Enc.Is eI (3:Nat) fun(i j:Nat)=>Enc.F eI [a10,a11,a12,a13] ((0:Nat)+i) j),(Enc.Is eI (0:Nat) fun(i j:Nat)=>Enc.F eI [a10,a11,a12,a13] ((4:Nat)+i) j),(0:Nat)<3,(3:Nat)≤1000000,(1:Nat)≤1000000,(0:Int)≤1,(1:Int)<3,(0:Int)≤0,(0:Int)≤3,(3:Int)≤4,(0:Int)≤4,(4:Int)≤4,(4:Int)≤4,(Enc.Is eI (3:Nat) fun(i j:Nat)=>Enc.F eI [a20,a21,a22,a23] ((0:Nat)+i) j),(Enc.Is eI (0:Nat) fun(i j:Nat)=>Enc.F eI [a20,a21,a22,a23] ((4:Nat)+i) j),(0:Nat)<3,(3:Nat)≤1000000,(2:Nat)≤1000000,(1:Nat)≤1,(0:Int)≤2,(2:Int)<3,(0:Int)≤0,(0:Int)≤3,(3:Int)≤4,(0:Int)≤4,(4:Int)≤4,(4:Int)≤4,(Enc.Is eI (3:Nat) fun(i j:Nat)=>Enc.F eI [a30,a31,a32,a33] ((0:Nat)+i) j),(Enc.Is eI (0:Nat) fun(i j:Nat)=>Enc.F eI [a30,a31,a32,a33] ((4:Nat)+i) j),(0:Nat)<3,(3:Nat)≤1000000,(3:Nat)≤1000000,(2:Nat)≤2,(3:Nat)≤3,(Enc.Is eI (3:Nat) (Enc.F eI [a10,a11,a12])),(3:Nat)=3,(Enc.Is eI (3:Nat) (Enc.F eI [a20,a21,a22])),(3:Nat)=3,(Enc.Is eI (3:Nat) (Enc.F eI [a30,a31,a32])),(3:Nat)=3] (T.ret [Ar.c (D.int IntKind.i64 (bif a03 != (0:Int)then IntKind.i64.wrap ((bif a02 != (0:Int)then IntKind.i64.wrap ((bif a01 != (0:Int)then IntKind.i64.wrap ((bif a00 != (0:Int)then IntKind.i64.wrap ((0:Int)+IntKind.i64.wrap (IntKind.i64.wrap ((1:Int)*a00)*M.det (3:Nat) [[a11,a12,a13],[a21,a22,a23],[a31,a32,a33]]))else(0:Int))+IntKind.i64.wrap (IntKind.i64.wrap ((-1:Int)*a01)*M.det (3:Nat) [[a10,a12,a13],[a20,a22,a23],[a30,a32,a33]]))else bif a00 != (0:Int)then IntKind.i64.wrap ((0:Int)+IntKind.i64.wrap (IntKind.i64.wrap ((1:Int)*a00)*M.det (3:Nat) [[a11,a12,a13],[a21,a22,a23],[a31,a32,a33]]))else(0:Int))+IntKind.i64.wrap (IntKind.i64.wrap ((1:Int)*a02)*M.det (3:Nat) [[a10,a11,a13],[a20,a21,a23],[a30,a31,a33]]))else bif a01 != (0:Int)then IntKind.i64.wrap ((bif a00 != (0:Int)then IntKind.i64.wrap ((0:Int)+IntKind.i64.wrap (IntKind.i64.wrap ((1:Int)*a00)*M.det (3:Nat) [[a11,a12,a13],[a21,a22,a23],[a31,a32,a33]]))else(0:Int))+IntKind.i64.wrap (IntKind.i64.wrap ((-1:Int)*a01)*M.det (3:Nat) [[a10,a12,a13],[a20,a22,a23],[a30,a32,a33]]))else bif a00 != (0:Int)then IntKind.i64.wrap ((0:Int)+IntKind.i64.wrap (IntKind.i64.wrap ((1:Int)*a00)*M.det (3:Nat) [[a11,a12,a13],[a21,a22,a23],[a31,a32,a33]]))else(0:Int))+IntKind.i64.wrap (IntKind.i64.wrap ((-1:Int)*a03)*M.det (3:Nat) [[a10,a11,a12],[a20,a21,a22],[a30,a31,a32]]))else bif a02 != (0:Int)then IntKind.i64.wrap ((bif a01 != (0:Int)then IntKind.i64.wrap ((bif a00 != (0:Int)then IntKind.i64.wrap ((0:Int)+IntKind.i64.wrap (IntKind.i64.wrap ((1:Int)*a00)*M.det (3:Nat) [[a11,a12,a13],[a21,a22,a23],[a31,a32,a33]]))else(0:Int))+IntKind.i64.wrap (IntKind.i64.wrap ((-1:Int)*a01)*M.det (3:Nat) [[a10,a12,a13],[a20,a22,a23],[a30,a32,a33]]))else bif a00 != (0:Int)then IntKind.i64.wrap ((0:Int)+IntKind.i64.wrap (IntKind.i64.wrap ((1:Int)*a00)*M.det (3:Nat) [[a11,a12,a13],[a21,a22,a23],[a31,a32,a33]]))else(0:Int))+IntKind.i64.wrap (IntKind.i64.wrap ((1:Int)*a02)*M.det (3:Nat) [[a10,a11,a13],[a20,a21,a23],[a30,a31,a33]]))else bif a01 != (0:Int)then IntKind.i64.wrap ((bif a00 != (0:Int)then IntKind.i64.wrap ((0:Int)+IntKind.i64.wrap (IntKind.i64.wrap ((1:Int)*a00)*M.det (3:Nat) [[a11,a12,a13],[a21,a22,a23],[a31,a32,a33]]))else(0:Int))+IntKind.i64.wrap (IntKind.i64.wrap ((-1:Int)*a01)*M.det (3:Nat) [[a10,a12,a13],[a20,a22,a23],[a30,a32,a33]]))else bif a00 != (0:Int)then IntKind.i64.wrap ((0:Int)+IntKind.i64.wrap (IntKind.i64.wrap ((1:Int)*a00)*M.det (3:Nat) [[a11,a12,a13],[a21,a22,a23],[a31,a32,a33]]))else(0:Int)))])
theorem t183_4(q:Bool)(a00 a01 a02 a03 a10 a11 a12 a13 a20 a21 a22 a23 a30 a31 a32 a33:Int):runFnX Try.prog G0 (lookS [v182,v183 3]) (fun _=>[(1000012,[],none),(1000018,[],none),(3000017,[],none),(1000028,[],none),(3000027,[],none),(5000023,[.slot 3 (.int .i64)],none)]) [] 1 40 3 183 Try.f183 [.c (.sl q 4 1 (eR.F [[a00,a01,a02,a03],[a10,a11,a12,a13],[a20,a21,a22,a23],[a30,a31,a32,a33]]))] =
  tr183_4 q a00 a01 a02 a03 a10 a11 a12 a13 a20 a21 a22 a23 a30 a31 a32 a33:=by kernel_rfl
theorem w183_4(q:Bool)(a00 a01 a02 a03 a10 a11 a12 a13 a20 a21 a22 a23 a30 a31 a32 a33:Int):(tr183_4 q a00 a01 a02 a03 a10 a11 a12 a13 a20 a21 a22 a23 a30 a31 a32 a33).wp (fun rs=>rsEqv rs [rI (M.det 4 [[a00,a01,a02,a03],[a10,a11,a12,a13],[a20,a21,a22,a23],[a30,a31,a32,a33]])]):=by
 unfold tr183_4
 repeat (refine⟨(by first|exact of_decide_eq_true rfl|exact fun i j _ _=>D.eqv_refl _),?_⟩)
 refine rI_eqv ?_
 kernel_rfl
theorem C183_4:FOK Try.prog G0 gw 183 (dom183 4):=by
 intro ags p r hd hp κ w xs hw hl hG hx
 unfold dom183 at hd
 split at hd
 ·rename_i q n st F
  split at hd
  ·rename_i m pp hst hm
   simp only[Bool.and_eq_true]at hst
   obtain⟨h1,h2⟩:=hst
   have h1:=Nat.eq_of_beq_eq_true h1
   subst h1
   have h2:Nat.beq st 1=true:=by
    rw[Bool.or_eq_true]at h2
    rcases h2 with h|h
    ·exact h
    ·exact absurd h (by decide)
   have h2:=Nat.eq_of_beq_eq_true h2
   subst h2
   simp only[Option.some.injEq,Prod.mk.injEq]at hd
   obtain⟨rfl,rfl⟩:=hd
   have hs:=(rowsS_spec hm hp).2.1
   have heq:agsEqv [.c (.sl q 4 1 F)] [.c (.sl q m.length 1 (eR.F m))]:=⟨rowsS_eqv id hm hp,trivial⟩
   obtain⟨w0,w1,w2,w3,rfl⟩:=len4 (rowsS_spec hm hp).1
   obtain⟨a00,a01,a02,a03,rfl⟩:=len4 (hs _ (by simp):w0.length=4)
   obtain⟨a10,a11,a12,a13,rfl⟩:=len4 (hs _ (by simp):w1.length=4)
   obtain⟨a20,a21,a22,a23,rfl⟩:=len4 (hs _ (by simp):w2.length=4)
   obtain⟨a30,a31,a32,a33,rfl⟩:=len4 (hs _ (by simp):w3.length=4)
   exact fokX_fin mixed gw_stable (sl:=[v182,v183 3]) ⟨S182,S183_3,trivial⟩ Try.func183 hw hl hG hx heq rfl (t183_4 q a00 a01 a02 a03 a10 a11 a12 a13 a20 a21 a22 a23 a30 a31 a32 a33) (w183_4 q a00 a01 a02 a03 a10 a11 a12 a13 a20 a21 a22 a23 a30 a31 a32 a33)
  ·cases hd
 ·cases hd
theorem S183_4:SumOK Try.prog G0 gw 183 (fokSm (dom183 4)):=fok_sum Try.func183 rfl C183_4
end Go.Pl
end
