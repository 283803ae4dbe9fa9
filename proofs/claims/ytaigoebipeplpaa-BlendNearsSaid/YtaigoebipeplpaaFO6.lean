/- The parts of the engines, of their contracts and of the plain laws that the claim rests on: B27, B28, B29, B30, B31, B32, B33, B34, B35, B36, B37, B38, P5, L1, L2, L3, L4, L5, L6, L7, B48, L8, L9, B59, C6, C7, C8. -/
import Derived.Test.YtaigoebipeplpaaFO5
set_option linter.unusedVariables false
set_option linter.unusedSimpArgs false
section
set_option maxRecDepth 100000
namespace Go.Bl
open Go.V Go.Proofs
namespace M
def meets(l:List Cask)(ps:List Int)(s:Sample):Int:=first [unl (decide (sumP (fun _=>1) l ps≥s.vol)) 14,unl (decide (away l ps s≤0)) 13]
end M
theorem t91(q_l:Bool)(l:List Cask)(den:Int)(q_ps:Bool)(ps:List Int)(sv l0 h0 l1 h1 l2 h2 l3 h3:Int):runFnX Try.prog G0 (lookS [v85,v80,v84,v64]) (fun _=>[]) [] 1 40 3 91 Try.f91 [.agg [.sl q_l l.length 7 (eC.F l),dI den,.sl q_ps ps.length 1 (eI.F ps)],.agg [dI sv,dI l0,dI h0,dI l1,dI h1,dI l2,dI h2,dI l3,dI h3]] =
  T.needs [eC.Is l.length (eC.F l),eI.Is ps.length (eI.F ps),ps.length≤l.length,ps.length≤1000,eC.Is l.length (eC.F l),eI.Is ps.length (eI.F ps),(eI.list ps.length (eI.F ps)).length≤(eC.list l.length (eC.F l)).length,(eI.list ps.length (eI.F ps)).length≤1000] (T.ret [rI (M.meets (eC.list l.length (eC.F l)) (eI.list ps.length (eI.F ps)) ⟨sv,⟨l0,h0⟩,⟨l1,h1⟩,⟨l2,h2⟩,⟨l3,h3⟩⟩)]):=by kernel_rfl
def dom91:DomF
 |[.agg [.sl _ n_l st_l F_l,.int .i64 den,.sl _ n_ps st_ps F_ps],.agg [.int .i64 sv,.int .i64 l0,.int .i64 h0,.int .i64 l1,.int .i64 h1,.int .i64 l2,.int .i64 h2,.int .i64 l3,.int .i64 h3]]=>(match Nat.beq st_l 7&&Nat.beq st_ps 1 with
  |true=>some ([eC.Is n_l F_l,eI.Is n_ps F_ps,(eI.list n_ps F_ps).length≤(eC.list n_l F_l).length,(eI.list n_ps F_ps).length≤1000],[rI (M.meets (eC.list n_l F_l) (eI.list n_ps F_ps) ⟨sv,⟨l0,h0⟩,⟨l1,h1⟩,⟨l2,h2⟩,⟨l3,h3⟩⟩)])
  |_=>none)
 |_=>none
def v91:Nat×Sm:=(91,fokSm dom91)
theorem C91:FOK Try.prog G0 gw 91 dom91:=by
 intro ags p r hd hp κ w xs hw hl hG hx
 unfold dom91 at hd
 split at hd
 ·rename_i q_l n_l st_l F_l den q_ps n_ps st_ps F_ps sv l0 h0 l1 h1 l2 h2 l3 h3
  split at hd
  ·rename_i hst
   simp only[Bool.and_eq_true]at hst
   obtain⟨g1,g2⟩:=hst
   have g1:=Nat.eq_of_beq_eq_true g1
   have g2:=Nat.eq_of_beq_eq_true g2
   subst g1 g2
   simp only[Option.some.injEq,Prod.mk.injEq]at hd
   obtain⟨rfl,rfl⟩:=hd
   obtain⟨hI_l,hI_ps,hp⟩:=hp
   have heq:agsEqv [.agg [.sl q_l n_l 7 F_l,.int .i64 den,.sl q_ps n_ps 1 F_ps],.agg [.int .i64 sv,.int .i64 l0,.int .i64 h0,.int .i64 l1,.int .i64 h1,.int .i64 l2,.int .i64 h2,.int .i64 l3,.int .i64 h3]] [.agg [.sl q_l (eC.list n_l F_l).length 7 (eC.F (eC.list n_l F_l)),.int .i64 den,.sl q_ps (eI.list n_ps F_ps).length 1 (eI.F (eI.list n_ps F_ps))],.agg [.int .i64 sv,.int .i64 l0,.int .i64 h0,.int .i64 l1,.int .i64 h1,.int .i64 l2,.int .i64 h2,.int .i64 l3,.int .i64 h3]]:=⟨⟨eC.to id hI_l,rfl,eI.to id hI_ps,trivial⟩,Ag.eqv_refl _,trivial⟩
   have len_l:(eC.list n_l F_l).length=n_l:=eC.list_len
   have len_ps:(eI.list n_ps F_ps).length=n_ps:=eI.list_len
   generalize eC.list n_l F_l=l at *
   generalize eI.list n_ps F_ps=ps at *
   subst len_l len_ps
   have c1:=Enc.is_F eC l l.length
   have c2:=Enc.is_F eI ps ps.length
   obtain⟨c3,c4,_⟩:=hp
   exact fokX_fin mixed gw_stable (sl:=[v85,v80,v84,v64]) ⟨S85,S80,S84,S64,trivial⟩ Try.func91 hw hl hG hx heq rfl (t91 q_l l den q_ps ps sv l0 h0 l1 h1 l2 h2 l3 h3) ((by simp only[Enc.list_F];exact⟨c1,c2,c3,c4,c1,c2,c3,c4,rsEqv_refl _⟩))
  ·cases hd
 ·cases hd
theorem S91:SumOK Try.prog G0 gw 91 (fokSm dom91):=fok_sum Try.func91 rfl C91
end Go.Bl
end
section
set_option maxRecDepth 100000
namespace Go.Bl
open Go.V Go.Proofs
namespace M
def intsEq(u v:List Int):Bool:=decide (u=v)
def some_(l:List Cask):Bool:=decide (l.length≤12∧∀k,k<l.length→(l.getD k dfC).nm.size≤20)
end M
def tr34(u v:List Int):T (List Ar):=
  T.br ((u.length:Int) != (v.length:Int)) (T.ret [Ar.c (D.bool false)]) (T.loop (Int×PUnit) ((0:Int),PUnit.unit) fun(x:Int×PUnit)=>T.br (decide (x.1<(u.length:Int))) (T.needs [(0:Int)≤x.1,x.1<(u.length:Int),(0:Int)≤x.1,x.1<(v.length:Int)] (T.br (u.getD x.1.toNat (0:Int) != v.getD x.1.toNat (0:Int)) (T.ret (Sum.inr [Ar.c (D.bool false)])) (T.ret (Sum.inl (IntKind.i64.wrap (x.1+1),PUnit.unit))))) (T.ret (Sum.inr [Ar.c (D.bool true)])))
theorem t34(q_u:Bool)(u:List Int)(q_v:Bool)(v:List Int):runFnX Try.prog G0 (lookS []) (fun _=>[(4,[.slot 5 (.int .i64)],none)]) [] 1 20 3 34 Try.f34 [.c (.sl q_u u.length 1 (eI.F u)),.c (.sl q_v v.length 1 (eI.F v))] =
  tr34 u v:=by kernel_rfl
def tr63(l:List Cask):T (List Ar):=
  T.br (decide ((l.length:Int)>(12:Int))) (T.ret [Ar.c (D.bool false)]) (T.loop (Int×PUnit) ((0:Int),PUnit.unit) fun(x:Int×PUnit)=>T.br (decide (x.1<(l.length:Int))) (T.need ((0:Int)≤x.1) (T.need (x.1<(l.length:Int)) (T.br (decide ((Nat.cast (R:=Int) (ByteArray.size (l.getD x.1.toNat (Enc.dflt eC)).1))>(20:Int))) (T.ret (Sum.inr [Ar.c (D.bool false)])) (T.ret (Sum.inl (IntKind.i64.wrap (x.1+1),PUnit.unit)))))) (T.ret (Sum.inr [Ar.c (D.bool true)])))
theorem t63(q_l:Bool)(l:List Cask):runFnX Try.prog G0 (lookS []) (fun _=>[(4,[.slot 3 (.int .i64)],none)]) [] 1 20 3 63 Try.f63 [.c (.sl q_l l.length 7 (eC.F l))] =
  tr63 l:=by kernel_rfl
def tr21(l:List Cask):T (List Ar):=
  T.need ((0:Nat)+l.length≤1000000) (T.need ((0:Nat)+l.length≤0+l.length) (T.ret [Ar.c (D.sl true ((0:Nat)+l.length) (7:Nat) (joinF (0:Nat) (fun(i j:Nat)=>List.getD [] (i*7+j) D.nilp) (Enc.F eC l)))]))
theorem t21(q_l:Bool)(l:List Cask):runFnX Try.prog G0 (lookS []) (fun _=>[]) [] 1 20 3 21 Try.f21 [.c (.sl q_l l.length 7 (eC.F l))] =
  tr21 l:=by kernel_rfl
theorem w34(u v:List Int)(h:u.length≤1000000):(tr34 u v).wp (fun rs=>rsEqv rs [rB (M.intsEq u v)]):=by
 unfold tr34
 have no:u≠v→rsEqv [rB false] [rB (M.intsEq u v)]:=fun hn=>by
  unfold M.intsEq;rw[decide_eq_false hn];exact rsEqv_refl _
 refine wp_br (fun hb=>?_) (fun hb=>?_)
 ·refine no fun e=>?_
  rw[e]at hb
  simp at hb
 ·have hl:u.length=v.length:=by have:=hb;simp at this;omega
  refine range_wp (n:=u.length) (fun k _=>∀j,j<k→u.getD j 0=v.getD j 0) (fun j hj=>by omega) ?_
  rintro k s hk hI
  refine wp_br (fun hb=>?_) (fun hb=>?_)
  ·have hlt:=lt_of_dec hb
   refine⟨by show(0:Int)≤k;omega,by show(k:Int)<u.length;omega,by show(0:Int)≤k;omega,by show(k:Int)<v.length;omega,wp_br (fun hc=>?_) (fun hc=>?_)⟩
   ·refine no fun e=>?_
    rw[e]at hc
    simp at hc
   ·have hc:u.getD k 0=v.getD k 0:=by
     have:=hc
     rw[bne_eq_false_iff_eq]at this
     exact this
    refine⟨hlt,wrap_succ (by omega),fun j hj=>?_⟩
    rcases Nat.lt_or_ge j k with g|g
    ·exact hI j g
    ·obtain rfl:j=k:=by omega
     exact hc
  ·have hge:=ge_of_dec hb
   obtain rfl:k=u.length:=by omega
   have:u=v:=by
    apply List.ext_getElem hl
    intro i h1 h2
    have:=hI i h1
    simpa[h1,h2]using this
   show rsEqv [rB true] [rB (M.intsEq u v)]
   unfold M.intsEq;rw[decide_eq_true this];exact rsEqv_refl _
theorem w63(l:List Cask):(tr63 l).wp (fun rs=>rsEqv rs [rB (M.some_ l)]):=by
 unfold tr63
 have no:¬(l.length≤12∧∀k,k<l.length→(l.getD k dfC).nm.size≤20)→rsEqv [rB false] [rB (M.some_ l)]:=fun hn=>by
  unfold M.some_;rw[decide_eq_false hn];exact rsEqv_refl _
 refine wp_br (fun hb=>?_) (fun hb=>?_)
 ·have hb:(l.length:Int)>12:=of_decide_eq_true hb
  exact no fun⟨h,_⟩=>by omega
 ·have hb:¬(l.length:Int)>12:=of_decide_eq_false hb
  refine range_wp (n:=l.length) (fun k _=>∀j,j<k→(l.getD j dfC).nm.size≤20) (fun j hj=>by omega) ?_
  rintro k s hk hI
  refine wp_br (fun hb=>?_) (fun hb=>?_)
  ·have hlt:=lt_of_dec hb
   refine⟨by show(0:Int)≤k;omega,by show(k:Int)<l.length;omega,wp_br (fun hc=>?_) (fun hc=>?_)⟩
   ·have hc:((l.getD k dfC).nm.size:Int)>20:=of_decide_eq_true hc
    exact no fun⟨_,h⟩=>by have:=h k hlt;omega
   ·have hc:¬((l.getD k dfC).nm.size:Int)>20:=of_decide_eq_false hc
    refine⟨hlt,wrap_succ (by omega),fun j hj=>?_⟩
    rcases Nat.lt_or_ge j k with g|g
    ·exact hI j g
    ·obtain rfl:j=k:=by omega
     omega
  ·have hge:=ge_of_dec hb
   obtain rfl:k=l.length:=by omega
   show rsEqv [rB true] [rB (M.some_ l)]
   unfold M.some_;rw[decide_eq_true ⟨by omega,hI⟩];exact rsEqv_refl _
theorem copy_eqv{α:Type}(E:Enc α)(l:List α)(F0:Nat→Nat→D):(D.sl true (0+l.length) E.st (joinF 0 F0 (E.F l))).eqv (.sl true l.length E.st (E.F l)):=by
 refine⟨id,Nat.zero_add _,fun _=>rfl,fun i j _ _=>?_⟩
 have:joinF 0 F0 (E.F l) i j=E.F l i j:=by
  unfold joinF
  rw[show Nat.blt i 0=false by rw[←Bool.not_eq_true,Nat.blt_eq];omega]
  rfl
 rw[this];exact D.eqv_refl _
def dom34:DomF
 |[.c (.sl _ n_u st_u F_u),.c (.sl _ n_v st_v F_v)]=>(match Nat.beq st_u 1&&Nat.beq st_v 1 with
  |true=>some ([eI.Is n_u F_u,eI.Is n_v F_v,(eI.list n_u F_u).length≤1000000],[rB (M.intsEq (eI.list n_u F_u) (eI.list n_v F_v))])
  |_=>none)
 |_=>none
def v34:Nat×Sm:=(34,fokSm dom34)
theorem C34:FOK Try.prog G0 gw 34 dom34:=by
 intro ags p r hd hp κ w xs hw hl hG hx
 unfold dom34 at hd
 split at hd
 ·rename_i q_u n_u st_u F_u q_v n_v st_v F_v
  split at hd
  ·rename_i hst
   simp only[Bool.and_eq_true]at hst
   obtain⟨g1,g2⟩:=hst
   have g1:=Nat.eq_of_beq_eq_true g1
   have g2:=Nat.eq_of_beq_eq_true g2
   subst g1 g2
   simp only[Option.some.injEq,Prod.mk.injEq]at hd
   obtain⟨rfl,rfl⟩:=hd
   obtain⟨hI_u,hI_v,hp⟩:=hp
   have heq:agsEqv [.c (.sl q_u n_u 1 F_u),.c (.sl q_v n_v 1 F_v)] [.c (.sl q_u (eI.list n_u F_u).length 1 (eI.F (eI.list n_u F_u))),.c (.sl q_v (eI.list n_v F_v).length 1 (eI.F (eI.list n_v F_v)))]:=⟨eI.to id hI_u,eI.to id hI_v,trivial⟩
   have len_u:(eI.list n_u F_u).length=n_u:=eI.list_len
   have len_v:(eI.list n_v F_v).length=n_v:=eI.list_len
   generalize eI.list n_u F_u=u at *
   generalize eI.list n_v F_v=v at *
   subst len_u len_v
   exact fokX_fin mixed gw_stable (sl:=[]) trivial Try.func34 hw hl hG hx heq rfl (t34 q_u u q_v v) (w34 u v hp.1)
  ·cases hd
 ·cases hd
theorem S34:SumOK Try.prog G0 gw 34 (fokSm dom34):=fok_sum Try.func34 rfl C34
def dom63:DomF
 |[.c (.sl _ n_l st_l F_l)]=>(match Nat.beq st_l 7 with
  |true=>some ([eC.Is n_l F_l],[rB (M.some_ (eC.list n_l F_l))])
  |_=>none)
 |_=>none
def v63:Nat×Sm:=(63,fokSm dom63)
theorem C63:FOK Try.prog G0 gw 63 dom63:=by
 intro ags p r hd hp κ w xs hw hl hG hx
 unfold dom63 at hd
 split at hd
 ·rename_i q_l n_l st_l F_l
  split at hd
  ·rename_i hst
   have g1:=hst
   have g1:=Nat.eq_of_beq_eq_true g1
   subst g1
   simp only[Option.some.injEq,Prod.mk.injEq]at hd
   obtain⟨rfl,rfl⟩:=hd
   obtain⟨hI_l,hp⟩:=hp
   have heq:agsEqv [.c (.sl q_l n_l 7 F_l)] [.c (.sl q_l (eC.list n_l F_l).length 7 (eC.F (eC.list n_l F_l)))]:=⟨eC.to id hI_l,trivial⟩
   have len_l:(eC.list n_l F_l).length=n_l:=eC.list_len
   generalize eC.list n_l F_l=l at *
   subst len_l
   exact fokX_fin mixed gw_stable (sl:=[]) trivial Try.func63 hw hl hG hx heq rfl (t63 q_l l) (w63 l)
  ·cases hd
 ·cases hd
theorem S63:SumOK Try.prog G0 gw 63 (fokSm dom63):=fok_sum Try.func63 rfl C63
def dom21:DomF
 |[.c (.sl _ n_l st_l F_l)]=>(match Nat.beq st_l 7 with
  |true=>some ([eC.Is n_l F_l,(eC.list n_l F_l).length≤1000000],[.c (.sl true n_l 7 (eC.F (eC.list n_l F_l)))])
  |_=>none)
 |_=>none
def v21:Nat×Sm:=(21,fokSm dom21)
theorem C21:FOK Try.prog G0 gw 21 dom21:=by
 intro ags p r hd hp κ w xs hw hl hG hx
 unfold dom21 at hd
 split at hd
 ·rename_i q_l n_l st_l F_l
  split at hd
  ·rename_i hst
   have g1:=hst
   have g1:=Nat.eq_of_beq_eq_true g1
   subst g1
   simp only[Option.some.injEq,Prod.mk.injEq]at hd
   obtain⟨rfl,rfl⟩:=hd
   obtain⟨hI_l,hp⟩:=hp
   have heq:agsEqv [.c (.sl q_l n_l 7 F_l)] [.c (.sl q_l (eC.list n_l F_l).length 7 (eC.F (eC.list n_l F_l)))]:=⟨eC.to id hI_l,trivial⟩
   have len_l:(eC.list n_l F_l).length=n_l:=eC.list_len
   generalize eC.list n_l F_l=l at *
   subst len_l
   exact fokX_fin mixed gw_stable (sl:=[]) trivial Try.func21 hw hl hG hx heq rfl (t21 q_l l) (⟨by have:=hp.1;omega,Nat.le_refl _,⟨copy_eqv eC l _,trivial⟩⟩)
  ·cases hd
 ·cases hd
theorem S21:SumOK Try.prog G0 gw 21 (fokSm dom21):=fok_sum Try.func21 rfl C21
end Go.Bl
end
section
set_option maxRecDepth 100000
namespace Go.Bl
open Go.V Go.Proofs
theorem is3{F:Nat→Nat→D}{a b c:Int}(h0:F 0 0=dI a)(h1:F 1 0=dI b)(h2:F 2 0=dI c):eI.Is 3 F:=by
 intro i j hi hj
 obtain rfl:j=0:=Nat.lt_one_iff.1 hj
 match i,hi with
 |0,_=>show(F 0 0).eqv (dI (rdI (F 0) 0));unfold rdI;rw[h0];exact D.eqv_refl _
 |1,_=>show(F 1 0).eqv (dI (rdI (F 1) 0));unfold rdI;rw[h1];exact D.eqv_refl _
 |2,_=>show(F 2 0).eqv (dI (rdI (F 2) 0));unfold rdI;rw[h2];exact D.eqv_refl _
theorem exC_nm:∀c,c∈eC.list 3 (eC.F exC)→c.nm.size≤1000000:=by
 have:eC.list 3 (eC.F exC)=exC:=Enc.list_F eC exC
 rw[this]
 decide
def tr40c:T (List Ar):=
  T.needs [(Enc.Is eC (3:Nat) (Enc.F eC [{nm:={data:={toList:=[(100:UInt8),(114:UInt8),(121:UInt8)]}},vol:=(100:Int),cost:=(10:Int),k0:=(0:Int),k1:=(0:Int),k2:=(0:Int),k3:=(0:Int)},{nm:={data:={toList:=[(115:UInt8),(119:UInt8),(101:UInt8),(101:UInt8),(116:UInt8)]}},vol:=(100:Int),cost:=(30:Int),k0:=(100:Int),k1:=(0:Int),k2:=(0:Int),k3:=(0:Int)},{nm:={data:={toList:=[(114:UInt8),(105:UInt8),(99:UInt8),(104:UInt8)]}},vol:=(50:Int),cost:=(20:Int),k0:=(200:Int),k1:=(0:Int),k2:=(0:Int),k3:=(0:Int)}])),(∀(c:Cask),c∈Enc.list eC (3:Nat) (Enc.F eC exC)→ByteArray.size (Cask.nm c)≤1000000),(0:Int)≤0,(0:Int)<2,(0:Int)≤1,(1:Int)<2,(0:Int)≤0,(0:Int)<2,(0:Int)≤0,(0:Int)<2,(0:Int)≤0,(0:Int)<3,(0:Int)≤1,(1:Int)<2,(0:Int)≤2,(2:Int)<3,(Enc.Is eC (3:Nat) (Enc.F eC [{nm:={data:={toList:=[(100:UInt8),(114:UInt8),(121:UInt8)]}},vol:=(100:Int),cost:=(10:Int),k0:=(0:Int),k1:=(0:Int),k2:=(0:Int),k3:=(0:Int)},{nm:={data:={toList:=[(115:UInt8),(119:UInt8),(101:UInt8),(101:UInt8),(116:UInt8)]}},vol:=(100:Int),cost:=(30:Int),k0:=(100:Int),k1:=(0:Int),k2:=(0:Int),k3:=(0:Int)},{nm:={data:={toList:=[(114:UInt8),(105:UInt8),(99:UInt8),(104:UInt8)]}},vol:=(50:Int),cost:=(20:Int),k0:=(200:Int),k1:=(0:Int),k2:=(0:Int),k3:=(0:Int)}])),(Enc.Is eI (3:Nat) fun(i j:Nat)=>List.getD [D.int IntKind.i64 (100:Int),D.int IntKind.i64 (0:Int),D.int IntKind.i64 (50:Int)] (i*1+j) D.nilp),(3:Nat)≤3,(3:Nat)≤1000,(Enc.Is eC (3:Nat) (Enc.F eC [{nm:={data:={toList:=[(100:UInt8),(114:UInt8),(121:UInt8)]}},vol:=(100:Int),cost:=(10:Int),k0:=(0:Int),k1:=(0:Int),k2:=(0:Int),k3:=(0:Int)},{nm:={data:={toList:=[(115:UInt8),(119:UInt8),(101:UInt8),(101:UInt8),(116:UInt8)]}},vol:=(100:Int),cost:=(30:Int),k0:=(100:Int),k1:=(0:Int),k2:=(0:Int),k3:=(0:Int)},{nm:={data:={toList:=[(114:UInt8),(105:UInt8),(99:UInt8),(104:UInt8)]}},vol:=(50:Int),cost:=(20:Int),k0:=(200:Int),k1:=(0:Int),k2:=(0:Int),k3:=(0:Int)}])),(Enc.Is eI (3:Nat) fun(i j:Nat)=>List.getD [D.int IntKind.i64 (100:Int),D.int IntKind.i64 (0:Int),D.int IntKind.i64 (50:Int)] (i*1+j) D.nilp),(3:Nat)≤3,(3:Nat)≤1000,(Enc.Is eC (3:Nat) (Enc.F eC [{nm:={data:={toList:=[(100:UInt8),(114:UInt8),(121:UInt8)]}},vol:=(100:Int),cost:=(10:Int),k0:=(0:Int),k1:=(0:Int),k2:=(0:Int),k3:=(0:Int)},{nm:={data:={toList:=[(115:UInt8),(119:UInt8),(101:UInt8),(101:UInt8),(116:UInt8)]}},vol:=(100:Int),cost:=(30:Int),k0:=(100:Int),k1:=(0:Int),k2:=(0:Int),k3:=(0:Int)},{nm:={data:={toList:=[(114:UInt8),(105:UInt8),(99:UInt8),(104:UInt8)]}},vol:=(50:Int),cost:=(20:Int),k0:=(200:Int),k1:=(0:Int),k2:=(0:Int),k3:=(0:Int)}])),(Enc.Is eI (3:Nat) fun(i j:Nat)=>List.getD [D.int IntKind.i64 (100:Int),D.int IntKind.i64 (0:Int),D.int IntKind.i64 (50:Int)] (i*1+j) D.nilp),(3:Nat)≤3,(3:Nat)≤1000,(Enc.Is eC (3:Nat) (Enc.F eC [{nm:={data:={toList:=[(100:UInt8),(114:UInt8),(121:UInt8)]}},vol:=(100:Int),cost:=(10:Int),k0:=(0:Int),k1:=(0:Int),k2:=(0:Int),k3:=(0:Int)},{nm:={data:={toList:=[(115:UInt8),(119:UInt8),(101:UInt8),(101:UInt8),(116:UInt8)]}},vol:=(100:Int),cost:=(30:Int),k0:=(100:Int),k1:=(0:Int),k2:=(0:Int),k3:=(0:Int)},{nm:={data:={toList:=[(114:UInt8),(105:UInt8),(99:UInt8),(104:UInt8)]}},vol:=(50:Int),cost:=(20:Int),k0:=(200:Int),k1:=(0:Int),k2:=(0:Int),k3:=(0:Int)}])),(Enc.Is eI (3:Nat) fun(i j:Nat)=>List.getD [D.int IntKind.i64 (100:Int),D.int IntKind.i64 (0:Int),D.int IntKind.i64 (50:Int)] (i*1+j) D.nilp),(3:Nat)≤3,(3:Nat)≤1000,(Enc.Is eC (3:Nat) (Enc.F eC [{nm:={data:={toList:=[(100:UInt8),(114:UInt8),(121:UInt8)]}},vol:=(100:Int),cost:=(10:Int),k0:=(0:Int),k1:=(0:Int),k2:=(0:Int),k3:=(0:Int)},{nm:={data:={toList:=[(115:UInt8),(119:UInt8),(101:UInt8),(101:UInt8),(116:UInt8)]}},vol:=(100:Int),cost:=(30:Int),k0:=(100:Int),k1:=(0:Int),k2:=(0:Int),k3:=(0:Int)},{nm:={data:={toList:=[(114:UInt8),(105:UInt8),(99:UInt8),(104:UInt8)]}},vol:=(50:Int),cost:=(20:Int),k0:=(200:Int),k1:=(0:Int),k2:=(0:Int),k3:=(0:Int)}])),(Enc.Is eI (3:Nat) fun(i j:Nat)=>List.getD [D.int IntKind.i64 (100:Int),D.int IntKind.i64 (0:Int),D.int IntKind.i64 (50:Int)] (i*1+j) D.nilp),(3:Nat)≤3,(3:Nat)≤1000] (T.ret [Ar.agg [D.int IntKind.i64 (66:Int),D.int IntKind.i64 (67:Int),D.int IntKind.i64 (0:Int),D.int IntKind.i64 (0:Int),D.int IntKind.i64 (0:Int),D.int IntKind.i64 (0:Int),D.int IntKind.i64 (0:Int),D.int IntKind.i64 (0:Int)],Ar.c (D.int IntKind.i64 (0:Int))])
theorem t40c(q q2:Bool):runFnX Try.prog G0 (lookS [v47,v64,v85,v97]) (fun _=>[(999999,[],none)]) [96,102,80,90] 1 20 6 40 Try.f40 [.c (.sl q 3 7 (eC.F exC)),.c (.sl q2 2 1 (eI.F [0,2]))] =
  tr40c:=by kernel_rfl
def tr30c:T (List Ar):=
  T.needs [(Enc.Is eC (3:Nat) (Enc.F eC [{nm:={data:={toList:=[(100:UInt8),(114:UInt8),(121:UInt8)]}},vol:=(100:Int),cost:=(10:Int),k0:=(0:Int),k1:=(0:Int),k2:=(0:Int),k3:=(0:Int)},{nm:={data:={toList:=[(115:UInt8),(119:UInt8),(101:UInt8),(101:UInt8),(116:UInt8)]}},vol:=(100:Int),cost:=(30:Int),k0:=(100:Int),k1:=(0:Int),k2:=(0:Int),k3:=(0:Int)},{nm:={data:={toList:=[(114:UInt8),(105:UInt8),(99:UInt8),(104:UInt8)]}},vol:=(50:Int),cost:=(20:Int),k0:=(200:Int),k1:=(0:Int),k2:=(0:Int),k3:=(0:Int)}])),(∀(c:Cask),c∈Enc.list eC (3:Nat) (Enc.F eC exC)→ByteArray.size (Cask.nm c)≤1000000),(Enc.Is eC (3:Nat) (Enc.F eC [{nm:={data:={toList:=[(100:UInt8),(114:UInt8),(121:UInt8)]}},vol:=(100:Int),cost:=(10:Int),k0:=(0:Int),k1:=(0:Int),k2:=(0:Int),k3:=(0:Int)},{nm:={data:={toList:=[(115:UInt8),(119:UInt8),(101:UInt8),(101:UInt8),(116:UInt8)]}},vol:=(100:Int),cost:=(30:Int),k0:=(100:Int),k1:=(0:Int),k2:=(0:Int),k3:=(0:Int)},{nm:={data:={toList:=[(114:UInt8),(105:UInt8),(99:UInt8),(104:UInt8)]}},vol:=(50:Int),cost:=(20:Int),k0:=(200:Int),k1:=(0:Int),k2:=(0:Int),k3:=(0:Int)}])),(Enc.Is eI (3:Nat) fun(i j:Nat)=>List.getD [D.int IntKind.i64 (0:Int),D.int IntKind.i64 (0:Int),D.int IntKind.i64 (0:Int)] (i*1+j) D.nilp),(3:Nat)≤3,(3:Nat)≤1000,(1:Nat)≤1000000,(0:Int)≤0,(0:Int)<1,(0:Nat)<1,(0:Int)≤0,(0:Int)<3,(Enc.Is eC (3:Nat) (Enc.F eC [{nm:={data:={toList:=[(100:UInt8),(114:UInt8),(121:UInt8)]}},vol:=(100:Int),cost:=(10:Int),k0:=(0:Int),k1:=(0:Int),k2:=(0:Int),k3:=(0:Int)},{nm:={data:={toList:=[(115:UInt8),(119:UInt8),(101:UInt8),(101:UInt8),(116:UInt8)]}},vol:=(100:Int),cost:=(30:Int),k0:=(100:Int),k1:=(0:Int),k2:=(0:Int),k3:=(0:Int)},{nm:={data:={toList:=[(114:UInt8),(105:UInt8),(99:UInt8),(104:UInt8)]}},vol:=(50:Int),cost:=(20:Int),k0:=(200:Int),k1:=(0:Int),k2:=(0:Int),k3:=(0:Int)}])),(Enc.Is eI (3:Nat) fun(i j:Nat)=>List.getD [D.int IntKind.i64 (100:Int),D.int IntKind.i64 (0:Int),D.int IntKind.i64 (0:Int)] (i*1+j) D.nilp),(3:Nat)≤3,(3:Nat)≤1000,(1:Nat)≤1000000,(0:Int)≤0,(0:Int)<1,(0:Nat)<1,(0:Int)≤1,(1:Int)<3,(Enc.Is eC (3:Nat) (Enc.F eC [{nm:={data:={toList:=[(100:UInt8),(114:UInt8),(121:UInt8)]}},vol:=(100:Int),cost:=(10:Int),k0:=(0:Int),k1:=(0:Int),k2:=(0:Int),k3:=(0:Int)},{nm:={data:={toList:=[(115:UInt8),(119:UInt8),(101:UInt8),(101:UInt8),(116:UInt8)]}},vol:=(100:Int),cost:=(30:Int),k0:=(100:Int),k1:=(0:Int),k2:=(0:Int),k3:=(0:Int)},{nm:={data:={toList:=[(114:UInt8),(105:UInt8),(99:UInt8),(104:UInt8)]}},vol:=(50:Int),cost:=(20:Int),k0:=(200:Int),k1:=(0:Int),k2:=(0:Int),k3:=(0:Int)}])),(Enc.Is eI (3:Nat) fun(i j:Nat)=>List.getD [D.int IntKind.i64 (0:Int),D.int IntKind.i64 (100:Int),D.int IntKind.i64 (0:Int)] (i*1+j) D.nilp),(3:Nat)≤3,(3:Nat)≤1000,(1:Nat)≤1000000,(2:Nat)≤1000000,(1:Nat)≤1,(0:Int)≤0,(0:Int)<2,(0:Nat)<2,(0:Int)≤0,(0:Int)<3,(0:Int)≤1,(1:Int)<2,(1:Nat)<2,(0:Int)≤1,(1:Int)<3,(Enc.Is eC (3:Nat) (Enc.F eC [{nm:={data:={toList:=[(100:UInt8),(114:UInt8),(121:UInt8)]}},vol:=(100:Int),cost:=(10:Int),k0:=(0:Int),k1:=(0:Int),k2:=(0:Int),k3:=(0:Int)},{nm:={data:={toList:=[(115:UInt8),(119:UInt8),(101:UInt8),(101:UInt8),(116:UInt8)]}},vol:=(100:Int),cost:=(30:Int),k0:=(100:Int),k1:=(0:Int),k2:=(0:Int),k3:=(0:Int)},{nm:={data:={toList:=[(114:UInt8),(105:UInt8),(99:UInt8),(104:UInt8)]}},vol:=(50:Int),cost:=(20:Int),k0:=(200:Int),k1:=(0:Int),k2:=(0:Int),k3:=(0:Int)}])),(Enc.Is eI (3:Nat) fun(i j:Nat)=>List.getD [D.int IntKind.i64 (100:Int),D.int IntKind.i64 (100:Int),D.int IntKind.i64 (0:Int)] (i*1+j) D.nilp),(3:Nat)≤3,(3:Nat)≤1000,(1:Nat)≤1000000,(0:Int)≤0,(0:Int)<1,(0:Nat)<1,(0:Int)≤2,(2:Int)<3,(Enc.Is eC (3:Nat) (Enc.F eC [{nm:={data:={toList:=[(100:UInt8),(114:UInt8),(121:UInt8)]}},vol:=(100:Int),cost:=(10:Int),k0:=(0:Int),k1:=(0:Int),k2:=(0:Int),k3:=(0:Int)},{nm:={data:={toList:=[(115:UInt8),(119:UInt8),(101:UInt8),(101:UInt8),(116:UInt8)]}},vol:=(100:Int),cost:=(30:Int),k0:=(100:Int),k1:=(0:Int),k2:=(0:Int),k3:=(0:Int)},{nm:={data:={toList:=[(114:UInt8),(105:UInt8),(99:UInt8),(104:UInt8)]}},vol:=(50:Int),cost:=(20:Int),k0:=(200:Int),k1:=(0:Int),k2:=(0:Int),k3:=(0:Int)}])),(Enc.Is eI (3:Nat) fun(i j:Nat)=>List.getD [D.int IntKind.i64 (0:Int),D.int IntKind.i64 (0:Int),D.int IntKind.i64 (50:Int)] (i*1+j) D.nilp),(3:Nat)≤3,(3:Nat)≤1000,(1:Nat)≤1000000,(2:Nat)≤1000000,(1:Nat)≤1,(0:Int)≤0,(0:Int)<2,(0:Nat)<2,(0:Int)≤0,(0:Int)<3,(0:Int)≤1,(1:Int)<2,(1:Nat)<2,(0:Int)≤2,(2:Int)<3,(Enc.Is eC (3:Nat) (Enc.F eC [{nm:={data:={toList:=[(100:UInt8),(114:UInt8),(121:UInt8)]}},vol:=(100:Int),cost:=(10:Int),k0:=(0:Int),k1:=(0:Int),k2:=(0:Int),k3:=(0:Int)},{nm:={data:={toList:=[(115:UInt8),(119:UInt8),(101:UInt8),(101:UInt8),(116:UInt8)]}},vol:=(100:Int),cost:=(30:Int),k0:=(100:Int),k1:=(0:Int),k2:=(0:Int),k3:=(0:Int)},{nm:={data:={toList:=[(114:UInt8),(105:UInt8),(99:UInt8),(104:UInt8)]}},vol:=(50:Int),cost:=(20:Int),k0:=(200:Int),k1:=(0:Int),k2:=(0:Int),k3:=(0:Int)}])),(Enc.Is eI (3:Nat) fun(i j:Nat)=>List.getD [D.int IntKind.i64 (100:Int),D.int IntKind.i64 (0:Int),D.int IntKind.i64 (50:Int)] (i*1+j) D.nilp),(3:Nat)≤3,(3:Nat)≤1000,(Enc.Is eC (3:Nat) (Enc.F eC [{nm:={data:={toList:=[(100:UInt8),(114:UInt8),(121:UInt8)]}},vol:=(100:Int),cost:=(10:Int),k0:=(0:Int),k1:=(0:Int),k2:=(0:Int),k3:=(0:Int)},{nm:={data:={toList:=[(115:UInt8),(119:UInt8),(101:UInt8),(101:UInt8),(116:UInt8)]}},vol:=(100:Int),cost:=(30:Int),k0:=(100:Int),k1:=(0:Int),k2:=(0:Int),k3:=(0:Int)},{nm:={data:={toList:=[(114:UInt8),(105:UInt8),(99:UInt8),(104:UInt8)]}},vol:=(50:Int),cost:=(20:Int),k0:=(200:Int),k1:=(0:Int),k2:=(0:Int),k3:=(0:Int)}])),(Enc.Is eI (3:Nat) fun(i j:Nat)=>List.getD [D.int IntKind.i64 (100:Int),D.int IntKind.i64 (0:Int),D.int IntKind.i64 (50:Int)] (i*1+j) D.nilp),(3:Nat)≤3,(3:Nat)≤1000,(1:Int)≠(0:Int),(1:Nat)<9223372036854775808,(2000:Nat)<9223372036854775808,(1:Nat)≤1000000,(2:Nat)≤1000000,(1:Nat)≤1,(0:Int)≤0,(0:Int)<2,(0:Nat)<2,(0:Int)≤1,(1:Int)<3,(0:Int)≤1,(1:Int)<2,(1:Nat)<2,(0:Int)≤2,(2:Int)<3,(Enc.Is eC (3:Nat) (Enc.F eC [{nm:={data:={toList:=[(100:UInt8),(114:UInt8),(121:UInt8)]}},vol:=(100:Int),cost:=(10:Int),k0:=(0:Int),k1:=(0:Int),k2:=(0:Int),k3:=(0:Int)},{nm:={data:={toList:=[(115:UInt8),(119:UInt8),(101:UInt8),(101:UInt8),(116:UInt8)]}},vol:=(100:Int),cost:=(30:Int),k0:=(100:Int),k1:=(0:Int),k2:=(0:Int),k3:=(0:Int)},{nm:={data:={toList:=[(114:UInt8),(105:UInt8),(99:UInt8),(104:UInt8)]}},vol:=(50:Int),cost:=(20:Int),k0:=(200:Int),k1:=(0:Int),k2:=(0:Int),k3:=(0:Int)}])),(Enc.Is eI (3:Nat) fun(i j:Nat)=>List.getD [D.int IntKind.i64 (0:Int),D.int IntKind.i64 (100:Int),D.int IntKind.i64 (50:Int)] (i*1+j) D.nilp),(3:Nat)≤3,(3:Nat)≤1000,(1:Nat)≤1000000,(2:Nat)≤1000000,(1:Nat)≤1,(3:Nat)≤1000000,(2:Nat)≤2,(0:Int)≤0,(0:Int)<3,(0:Nat)<3,(0:Int)≤0,(0:Int)<3,(0:Int)≤1,(1:Int)<3,(1:Nat)<3,(0:Int)≤1,(1:Int)<3,(0:Int)≤2,(2:Int)<3,(2:Nat)<3,(0:Int)≤2,(2:Int)<3,(Enc.Is eC (3:Nat) (Enc.F eC [{nm:={data:={toList:=[(100:UInt8),(114:UInt8),(121:UInt8)]}},vol:=(100:Int),cost:=(10:Int),k0:=(0:Int),k1:=(0:Int),k2:=(0:Int),k3:=(0:Int)},{nm:={data:={toList:=[(115:UInt8),(119:UInt8),(101:UInt8),(101:UInt8),(116:UInt8)]}},vol:=(100:Int),cost:=(30:Int),k0:=(100:Int),k1:=(0:Int),k2:=(0:Int),k3:=(0:Int)},{nm:={data:={toList:=[(114:UInt8),(105:UInt8),(99:UInt8),(104:UInt8)]}},vol:=(50:Int),cost:=(20:Int),k0:=(200:Int),k1:=(0:Int),k2:=(0:Int),k3:=(0:Int)}])),(Enc.Is eI (3:Nat) fun(i j:Nat)=>List.getD [D.int IntKind.i64 (100:Int),D.int IntKind.i64 (100:Int),D.int IntKind.i64 (50:Int)] (i*1+j) D.nilp),(3:Nat)≤3,(3:Nat)≤1000,(2:Nat)≤2] (T.ret [Ar.c (D.sl true (2:Nat) (1:Nat) (joinF (1:Nat) (joinF (0:Nat) (fun(x x_1:Nat)=>D.nilp) fun(i j:Nat)=>List.getD [D.int IntKind.i64 (0:Int)] (i*1+j) D.nilp) fun(i j:Nat)=>List.getD [D.int IntKind.i64 (2:Int)] (i*1+j) D.nilp)),Ar.c (D.int IntKind.i64 (2000:Int)),Ar.c (D.int IntKind.i64 (0:Int))])
theorem t30c(q:Bool):runFnX Try.prog G0 (lookS [v47,v49,v64,v68,v91]) (fun _=>[(999999,[],none)]) [90,92,123,145] 1 20 6 30 Try.f30 [.c (.sl q 3 7 (eC.F exC)),.agg [dI 100,dI 60,dI 70,dI 0,dI 1000,dI 0,dI 1000,dI 0,dI 1000]] =
  tr30c:=by kernel_rfl
theorem w40c:tr40c.wp (fun rs=>rsEqv rs [.agg [dI 66,dI 67,dI 0,dI 0,dI 0,dI 0,dI 0,dI 0],rI 0]):=by
 unfold tr40c
 repeat (first|refine⟨by decide,?_⟩|refine⟨exC_nm,?_⟩|refine⟨Enc.is_F _ _ _,?_⟩|refine⟨is3 rfl rfl rfl,?_⟩|refine⟨by decide +kernel,?_⟩)
 exact⟨⟨rfl,rfl,rfl,rfl,rfl,rfl,rfl,rfl,trivial⟩,rfl,trivial⟩
theorem w30c:tr30c.wp (fun rs=>rsEqv rs [.c (dL [0,2]),rI 2000,rI 0]):=by
 unfold tr30c
 repeat (first|refine⟨by decide,?_⟩|refine⟨exC_nm,?_⟩|refine⟨Enc.is_F _ _ _,?_⟩|refine⟨is3 rfl rfl rfl,?_⟩|refine⟨by decide +kernel,?_⟩)
 refine⟨⟨(fun e=>by cases e),rfl,fun _=>rfl,fun i j hi hj=>?_⟩,rfl,rfl,trivial⟩
 obtain rfl:j=0:=Nat.lt_one_iff.1 hj
 match i,hi with
 |0,_=>exact D.eqv_refl _
 |1,_=>exact D.eqv_refl _
def dom30c:DomF
 |[.c (.sl _ n_l st_l F_l),.agg [.int .i64 sv,.int .i64 l0,.int .i64 h0,.int .i64 l1,.int .i64 h1,.int .i64 l2,.int .i64 h2,.int .i64 l3,.int .i64 h3]]=>(match Nat.beq st_l 7 with
  |true=>some ([eC.Is n_l F_l,(eC.list n_l F_l)=exC,(⟨sv,⟨l0,h0⟩,⟨l1,h1⟩,⟨l2,h2⟩,⟨l3,h3⟩⟩:Sample)=exS 60 70],[.c (dL [0,2]),rI 2000,rI 0])
  |_=>none)
 |_=>none
def v30c:Nat×Sm:=(30,fokSm dom30c)
theorem C30c:FOK Try.prog G0 gw 30 dom30c:=by
 intro ags p r hd hp κ w xs hw hl hG hx
 unfold dom30c at hd
 split at hd
 ·rename_i q_l n_l st_l F_l sv l0 h0 l1 h1 l2 h2 l3 h3
  split at hd
  ·rename_i hst
   have g1:=hst
   have g1:=Nat.eq_of_beq_eq_true g1
   subst g1
   simp only[Option.some.injEq,Prod.mk.injEq]at hd
   obtain⟨rfl,rfl⟩:=hd
   obtain⟨hI_l,hp⟩:=hp
   have heq:agsEqv [.c (.sl q_l n_l 7 F_l),.agg [.int .i64 sv,.int .i64 l0,.int .i64 h0,.int .i64 l1,.int .i64 h1,.int .i64 l2,.int .i64 h2,.int .i64 l3,.int .i64 h3]] [.c (.sl q_l (eC.list n_l F_l).length 7 (eC.F (eC.list n_l F_l))),.agg [.int .i64 sv,.int .i64 l0,.int .i64 h0,.int .i64 l1,.int .i64 h1,.int .i64 l2,.int .i64 h2,.int .i64 l3,.int .i64 h3]]:=⟨eC.to id hI_l,Ag.eqv_refl _,trivial⟩
   have len_l:(eC.list n_l F_l).length=n_l:=eC.list_len
   generalize eC.list n_l F_l=l at *
   subst len_l
   obtain⟨rfl,hs,_⟩:=hp
   simp only[exS,Sample.mk.injEq,Rg.mk.injEq]at hs
   obtain⟨rfl,⟨rfl,rfl⟩,⟨rfl,rfl⟩,⟨rfl,rfl⟩,rfl,rfl⟩:=hs
   exact fokX_fin mixed gw_stable (sl:=[v47,v49,v64,v68,v91]) ⟨S47,S49,S64,S68,S91,trivial⟩ Try.func30 hw hl hG hx heq rfl (t30c q_l) (w30c)
  ·cases hd
 ·cases hd
theorem S30c:SumOK Try.prog G0 gw 30 (fokSm dom30c):=fok_sum Try.func30 rfl C30c
def dom40c:DomF
 |[.c (.sl _ n_l st_l F_l),.c (.sl _ n_u st_u F_u)]=>(match Nat.beq st_l 7&&Nat.beq st_u 1 with
  |true=>some ([eC.Is n_l F_l,eI.Is n_u F_u,(eC.list n_l F_l)=exC,(eI.list n_u F_u)=[0,2]],[.agg [dI 66,dI 67,dI 0,dI 0,dI 0,dI 0,dI 0,dI 0],rI 0])
  |_=>none)
 |_=>none
def v40c:Nat×Sm:=(40,fokSm dom40c)
theorem C40c:FOK Try.prog G0 gw 40 dom40c:=by
 intro ags p r hd hp κ w xs hw hl hG hx
 unfold dom40c at hd
 split at hd
 ·rename_i q_l n_l st_l F_l q_u n_u st_u F_u
  split at hd
  ·rename_i hst
   simp only[Bool.and_eq_true]at hst
   obtain⟨g1,g2⟩:=hst
   have g1:=Nat.eq_of_beq_eq_true g1
   have g2:=Nat.eq_of_beq_eq_true g2
   subst g1 g2
   simp only[Option.some.injEq,Prod.mk.injEq]at hd
   obtain⟨rfl,rfl⟩:=hd
   obtain⟨hI_l,hI_u,hp⟩:=hp
   have heq:agsEqv [.c (.sl q_l n_l 7 F_l),.c (.sl q_u n_u 1 F_u)] [.c (.sl q_l (eC.list n_l F_l).length 7 (eC.F (eC.list n_l F_l))),.c (.sl q_u (eI.list n_u F_u).length 1 (eI.F (eI.list n_u F_u)))]:=⟨eC.to id hI_l,eI.to id hI_u,trivial⟩
   have len_l:(eC.list n_l F_l).length=n_l:=eC.list_len
   have len_u:(eI.list n_u F_u).length=n_u:=eI.list_len
   generalize eC.list n_l F_l=l at *
   generalize eI.list n_u F_u=u at *
   subst len_l len_u
   obtain⟨rfl,rfl,_⟩:=hp
   exact fokX_fin mixed gw_stable (sl:=[v47,v64,v85,v97]) ⟨S47,S64,S85,S97,trivial⟩ Try.func40 hw hl hG hx heq rfl (t40c q_l q_u) (w40c)
  ·cases hd
 ·cases hd
theorem S40c:SumOK Try.prog G0 gw 40 (fokSm dom40c):=fok_sum Try.func40 rfl C40c
end Go.Bl
end
section
set_option maxRecDepth 100000
namespace Go.Bl
open Go.V Go.Proofs
def FA:Nat→Nat→D:=fun(i j:Nat)=>List.getD [D.str {data:={toList:=[(100:UInt8),(114:UInt8),(121:UInt8)]}},D.int IntKind.i64 (100:Int),D.int IntKind.i64 (10:Int),D.int IntKind.i64 (0:Int),D.int IntKind.i64 (0:Int),D.int IntKind.i64 (0:Int),D.int IntKind.i64 (0:Int),D.str {data:={toList:=[(115:UInt8),(119:UInt8),(101:UInt8),(101:UInt8),(116:UInt8)]}},D.int IntKind.i64 (100:Int),D.int IntKind.i64 (30:Int),D.int IntKind.i64 (100:Int),D.int IntKind.i64 (0:Int),D.int IntKind.i64 (0:Int),D.int IntKind.i64 (0:Int),D.str {data:={toList:=[(114:UInt8),(105:UInt8),(99:UInt8),(104:UInt8)]}},D.int IntKind.i64 (50:Int),D.int IntKind.i64 (20:Int),D.int IntKind.i64 (200:Int),D.int IntKind.i64 (0:Int),D.int IntKind.i64 (0:Int),D.int IntKind.i64 (0:Int)] (i*(7:Nat)+j) D.nilp
def FI:Nat→Nat→D:=fun(i j:Nat)=>List.getD [D.int IntKind.i64 (0:Int),D.int IntKind.i64 (2:Int)] (i*(1:Nat)+j) D.nilp
def tr18:T (List Ar):=
  T.needs [Enc.Is eC (3:Nat) FA,(∀(c:Cask),(c∈Enc.list eC (3:Nat) FA)→ByteArray.size (Cask.nm c)≤1000000),(M.taskErr (Enc.list eC (3:Nat) FA) (exS 50 60)=0→(1:Nat)≤List.length (Enc.list eC (3:Nat) FA)∧List.length (Enc.list eC (3:Nat) FA)≤4∧(∀(c:Cond),c∈M.limits (Enc.list eC (3:Nat) FA) (exS 50 60) (0:Nat)→List.length (Cond.coefs c)=List.length (M.shares (Enc.list eC (3:Nat) FA) (0:Nat)))∧TurnOK (M.shares (Enc.list eC (3:Nat) FA) (0:Nat)) (M.limits (Enc.list eC (3:Nat) FA) (exS 50 60) (0:Nat))∧∀(x:M.Corner),M.pBest (Enc.list eC (3:Nat) FA) (exS 50 60)=some x→CornerOK (Enc.list eC (3:Nat) FA) (List.length (Enc.list eC (3:Nat) FA)) x∧i64ok (M.sumP Cask.cost (Enc.list eC (3:Nat) FA) (M.Corner.pt x))),Enc.Is eC (3:Nat) FA,(∀(c:Cask),(c∈Enc.list eC (3:Nat) FA)→ByteArray.size (Cask.nm c)≤1000000),(3:Nat)≤1000000,(M.nearErr (Enc.list eC (3:Nat) FA) (exS 180 200)=0→(1:Nat)≤List.length (Enc.list eC (3:Nat) FA)∧List.length (Enc.list eC (3:Nat) FA)≤4∧(∀(c:Cond),c∈M.limits (Enc.list eC (3:Nat) FA) (exS 180 200) (1:Nat)→List.length (Cond.coefs c)=List.length (M.shares (Enc.list eC (3:Nat) FA) (1:Nat)))∧TurnOK (M.shares (Enc.list eC (3:Nat) FA) (1:Nat)) (M.limits (Enc.list eC (3:Nat) FA) (exS 180 200) (1:Nat))∧List.length (Enc.list eC (3:Nat) FA)≤List.length (M.Corner.pt (M.pNear (Enc.list eC (3:Nat) FA) (exS 180 200)))∧M.sumP (fun(x:Cask)=>(1:Int)) (Enc.list eC (3:Nat) FA) (List.take (List.length (Enc.list eC (3:Nat) FA)) (M.Corner.pt (M.pNear (Enc.list eC (3:Nat) FA) (exS 180 200))))≠(0:Int)∧i64ok (M.away (Enc.list eC (3:Nat) FA) (List.take (List.length (Enc.list eC (3:Nat) FA)) (M.Corner.pt (M.pNear (Enc.list eC (3:Nat) FA) (exS 180 200)))) (exS 180 200))∧i64ok (M.sumP (fun(x:Cask)=>(1:Int)) (Enc.list eC (3:Nat) FA) (List.take (List.length (Enc.list eC (3:Nat) FA)) (M.Corner.pt (M.pNear (Enc.list eC (3:Nat) FA) (exS 180 200)))))),Enc.Is eC (3:Nat) FA,(Enc.list eC (3:Nat) FA)=exC,(exS 60 70)=(exS 60 70),Enc.Is eC (3:Nat) FA,Enc.Is eI (2:Nat) FI,(Enc.list eC (3:Nat) FA)=exC,((Enc.list eI (2:Nat) FI)=[(0:Int),(2:Int)])] (T.br ((0:Int)==0) (T.br ((1250:Int)==1250&&((1:Int)==1&&true)) (T.br ((0:Int)==0) (T.br ((30:Int)==30&&((1:Int)==1&&true)) (T.br ((0:Int)==0) (T.br ((2000:Int)==2000) (T.needs [(Enc.Is eI (2:Nat) (Enc.F eI [(0:Int),(2:Int)])),Enc.Is eI (2:Nat) FI,(2:Nat)≤1000000] (T.br (M.intsEq (Enc.list eI (2:Nat) (Enc.F eI [(0:Int),(2:Int)])) (Enc.list eI (2:Nat) FI)) (T.br ((0:Int)==0) (T.ret [Ar.c (D.bool ((66:Int)==66&&((67:Int)==67&&true)))]) (T.ret [Ar.c (D.bool false)])) (T.ret [Ar.c (D.bool false)]))) (T.ret [Ar.c (D.bool false)])) (T.ret [Ar.c (D.bool false)])) (T.ret [Ar.c (D.bool false)])) (T.ret [Ar.c (D.bool false)])) (T.ret [Ar.c (D.bool false)])) (T.ret [Ar.c (D.bool false)]))
theorem t18:runFnX Try.prog G0 (lookS [v20,v26,v30c,v40c,v34]) (fun _=>[]) [61,62] 1 20 4 18 Try.f18 [] =
  tr18:=by kernel_rfl
theorem lA:eC.list 3 FA=exC:=rfl
theorem lI:eI.list 2 FI=[0,2]:=by decide
theorem isA:eC.Is 3 FA:=by
 intro i j hi hj
 have hj':j<7:=hj
 match i,hi,j,hj' with
 |0,_,0,_=>exact D.eqv_refl _
 |0,_,1,_=>exact D.eqv_refl _
 |0,_,2,_=>exact D.eqv_refl _
 |0,_,3,_=>exact D.eqv_refl _
 |0,_,4,_=>exact D.eqv_refl _
 |0,_,5,_=>exact D.eqv_refl _
 |0,_,6,_=>exact D.eqv_refl _
 |1,_,0,_=>exact D.eqv_refl _
 |1,_,1,_=>exact D.eqv_refl _
 |1,_,2,_=>exact D.eqv_refl _
 |1,_,3,_=>exact D.eqv_refl _
 |1,_,4,_=>exact D.eqv_refl _
 |1,_,5,_=>exact D.eqv_refl _
 |1,_,6,_=>exact D.eqv_refl _
 |2,_,0,_=>exact D.eqv_refl _
 |2,_,1,_=>exact D.eqv_refl _
 |2,_,2,_=>exact D.eqv_refl _
 |2,_,3,_=>exact D.eqv_refl _
 |2,_,4,_=>exact D.eqv_refl _
 |2,_,5,_=>exact D.eqv_refl _
 |2,_,6,_=>exact D.eqv_refl _
theorem isI:eI.Is 2 FI:=by
 intro i j hi hj
 obtain rfl:j=0:=Nat.lt_one_iff.1 hj
 match i,hi with
 |0,_=>exact D.eqv_refl _
 |1,_=>exact D.eqv_refl _
def okB(l:List Cask)(n:Nat)(x:M.Corner):Bool:=
 decide (x.pt.length≤n)&&decide (x.den≠0)&&decide (x.den.natAbs<9223372036854775808)&&decide (x.tight.length≤x.by_.length)&&decide (x.tight.length≤1000) &&
  x.tight.all (fun c=>decide (0≤c.which)&&(!(c.kind==1)||decide (c.which<(l.length:Int)))&&((c.kind==1)||(c.kind==0)||decide (c.which<4)))&&decide ((M.sumP Cask.cost l x.pt).natAbs<9223372036854775808)
theorem exC_best:(M.pBest exC (exS 50 60)).all (okB exC 3)=true:=by decide +kernel
theorem bestOK_ex:BestOK exC (exS 50 60):=by
 intro _
 refine⟨by decide,by decide,by decide +kernel,turnOK (by decide) (by decide +kernel) (by decide +kernel),fun x hx=>?_⟩
 have h:=exC_best
 rw[hx]at h
 have h':okB exC 3 x=true:=h
 unfold okB at h'
 simp only[Bool.and_eq_true,decide_eq_true_eq,List.all_eq_true,Bool.or_eq_true,beq_iff_eq,Bool.not_eq_true',beq_eq_false_iff_ne]at h'
 obtain⟨⟨⟨⟨⟨⟨a1,a2⟩,a3⟩,a4⟩,a5⟩,a6⟩,a7⟩:=h'
 refine⟨⟨a1,a2,a3,a4,a5,fun c hc=>?_⟩,a7⟩
 obtain⟨⟨b1,b2⟩,b3⟩:=a6 c hc
 refine⟨b1,fun e=>?_,fun e1 e0=>?_⟩
 ·rcases b2 with b2|b2
  ·exact absurd e b2
  ·exact b2
 ·rcases b3 with(b3|b3)|b3
  ·exact absurd b3 e1
  ·exact absurd b3 e0
  ·exact b3
theorem nearOK_ex:NearOK exC (exS 180 200):=by
 intro _
 exact⟨by decide,by decide,by decide +kernel,turnOK (by decide) (by decide +kernel) (by decide +kernel),by decide +kernel,by decide +kernel,by decide +kernel,by decide +kernel⟩
theorem exC_nm':∀c,c∈exC→c.nm.size≤1000000:=by decide
theorem w18:tr18.wp (fun rs=>rsEqv rs [rB true]):=by
 have f1:M.intsEq [0,2] [0,2]=true:=by decide
 unfold tr18
 simp only[lA,lI,Enc.list_F,f1]
 refine⟨isA,exC_nm',bestOK_ex,isA,exC_nm',by decide,nearOK_ex,isA,trivial,trivial,isA,isI,trivial,trivial,?_⟩
 refine wp_br (fun _=>?_) (fun h=>absurd h (by decide))
 refine wp_br (fun _=>?_) (fun h=>absurd h (by decide))
 refine wp_br (fun _=>?_) (fun h=>absurd h (by decide))
 refine wp_br (fun _=>?_) (fun h=>absurd h (by decide))
 refine wp_br (fun _=>?_) (fun h=>absurd h (by decide))
 refine wp_br (fun _=>?_) (fun h=>absurd h (by decide))
 refine⟨Enc.is_F _ _ _,isI,by decide,?_⟩
 refine wp_br (fun _=>?_) (fun h=>absurd h (by decide))
 refine wp_br (fun _=>?_) (fun h=>absurd h (by decide))
 exact⟨rfl,trivial⟩
def dom18:DomF
 |[]=>some ([],[rB true])
 |_=>none
def v18:Nat×Sm:=(18,fokSm dom18)
theorem C18:FOK Try.prog G0 gw 18 dom18:=by
 intro ags p r hd hp κ w xs hw hl hG hx
 unfold dom18 at hd
 split at hd
 ·simp only[Option.some.injEq,Prod.mk.injEq]at hd
  obtain⟨rfl,rfl⟩:=hd
  have heq:agsEqv [] []:=trivial
  exact fokX_fin mixed gw_stable (sl:=[v20,v26,v30c,v40c,v34]) ⟨S20,S26,S30c,S40c,S34,trivial⟩ Try.func18 hw hl hG hx heq rfl (t18) (w18)
 ·cases hd
theorem S18:SumOK Try.prog G0 gw 18 (fokSm dom18):=fok_sum Try.func18 rfl C18
end Go.Bl
end
section
set_option maxRecDepth 100000
namespace Go.Bl
open Go.V Go.Proofs
namespace M
def partAt(l:List Cask)(den:Int)(ps:List Int)(i:Nat):Int:=first [unl (decide (ps.getD i 0≥0)) 2,unl (decide (ps.getD i 0≤IntKind.i64.wrap (den*(l.getD i dfC).vol))) 24]
def partFrom(l:List Cask)(den:Int)(ps:List Int):Nat→Nat→Int
 |0,_=>0
 |k+1,i=>cond (partAt l den ps i != 0) (partAt l den ps i) (partFrom l den ps k (i+1))
def partHead(l:List Cask)(den:Int)(ps:List Int):Int:=first [unl (within den 1 200000000000) 2,unl ((ps.length:Int)==(l.length:Int)) 10]
def partErr(l:List Cask)(den:Int)(ps:List Int):Int:=cond (partHead l den ps != 0) (partHead l den ps) (partFrom l den ps ps.length 0)
def someN(n:Nat)(l:List Cask):Bool:=(decide (l.length≤n)||decide (l.length>10))&&some_ l
end M
def tr107(l:List Cask)(den:Int)(ps:List Int):T (List Ar):=
  T.br (!M.within den (1:Int) (200000000000:Int)) (T.ret [Ar.c (D.int IntKind.i64 (2:Int))]) (T.br ((ps.length:Int) != (l.length:Int)) (T.ret [Ar.c (D.int IntKind.i64 (10:Int))]) (T.loop (Int×PUnit) ((0:Int),PUnit.unit) fun(x:Int×PUnit)=>T.br (decide (x.1<(l.length:Int))) (T.need ((0:Int)≤x.1) (T.need (x.1<(ps.length:Int)) (T.br (decide (ps.getD x.1.toNat (0:Int)<0)) (T.ret (Sum.inr [Ar.c (D.int IntKind.i64 (2:Int))])) (T.needs [(0:Int)≤x.1,x.1<(ps.length:Int),(0:Int)≤x.1,x.1<(l.length:Int)] (T.br (decide (ps.getD x.1.toNat (0:Int)>IntKind.i64.wrap (den*(l.getD x.1.toNat (Enc.dflt eC)).2))) (T.ret (Sum.inr [Ar.c (D.int IntKind.i64 (24:Int))])) (T.ret (Sum.inl (IntKind.i64.wrap (x.1+1),PUnit.unit)))))))) (T.ret (Sum.inr [Ar.c (D.int IntKind.i64 (0:Int))]))))
theorem t107(q_l:Bool)(l:List Cask)(den:Int)(q_ps:Bool)(ps:List Int):runFnX Try.prog G0 (lookS [v35]) (fun _=>[(6,[.slot 5 (.int .i64)],none)]) [] 1 20 3 107 Try.f107 [.c (.sl q_l l.length 7 (eC.F l)),.agg [dI den,.sl q_ps ps.length 1 (eI.F ps)]] =
  tr107 l den ps:=by kernel_rfl
def tr46(l:List Cask):T (List Ar):=
  T.need (Enc.Is eC l.length (Enc.F eC l)) (T.need (∀(c:Cask),c∈Enc.list eC l.length (Enc.F eC l)→ByteArray.size (Cask.nm c)≤1000000) (T.br (M.wholeErr (Enc.list eC l.length (Enc.F eC l)) != (0:Int)) (T.ret [Ar.c (D.int IntKind.i64 (M.wholeErr (Enc.list eC l.length (Enc.F eC l))))]) (T.br (decide ((l.length:Int)>(4:Int))) (T.ret [Ar.c (D.int IntKind.i64 (8:Int))]) (T.ret [Ar.c (D.int IntKind.i64 (0:Int))]))))
theorem t46(q_l:Bool)(l:List Cask):runFnX Try.prog G0 (lookS [v31]) (fun _=>[]) [] 1 20 3 46 Try.f46 [.c (.sl q_l l.length 7 (eC.F l))] =
  tr46 l:=by kernel_rfl
def tr19(l:List Cask):T (List Ar):=
  T.br (decide ((l.length:Int)≤4)) (T.need (Enc.Is eC l.length (Enc.F eC l)) (T.ret [Ar.c (D.bool (M.some_ (Enc.list eC l.length (Enc.F eC l))))])) (T.br (decide ((l.length:Int)>(10:Int))) (T.need (Enc.Is eC l.length (Enc.F eC l)) (T.ret [Ar.c (D.bool (M.some_ (Enc.list eC l.length (Enc.F eC l))))])) (T.ret [Ar.c (D.bool false)]))
theorem t19(q_l:Bool)(l:List Cask):runFnX Try.prog G0 (lookS [v63]) (fun _=>[]) [] 1 20 3 19 Try.f19 [.c (.sl q_l l.length 7 (eC.F l))] =
  tr19 l:=by kernel_rfl
theorem partFrom_step{l:List Cask}{den:Int}{ps:List Int}{k:Nat}(h:k<ps.length):M.partFrom l den ps (ps.length-k) k=cond (M.partAt l den ps k != 0) (M.partAt l den ps k) (M.partFrom l den ps (ps.length-(k+1)) (k+1)):=by
 obtain⟨m,hm⟩:∃m,ps.length-k=m+1:=⟨ps.length-k-1,by omega⟩
 rw[hm,show ps.length-(k+1)=m by omega]
 rfl
theorem w107(l:List Cask)(den:Int)(ps:List Int)(hn:ps.length≤1000000):(tr107 l den ps).wp (fun rs=>rsEqv rs [rI (M.partErr l den ps)]):=by
 unfold tr107
 refine wp_br (fun hb=>?_) (fun hb=>?_)
 ·have hw:M.within den 1 200000000000=false:=by simpa using hb
  have:M.partErr l den ps=2:=by unfold M.partErr M.partHead;rw[hw];rfl
  rw[this];exact rsEqv_refl _
 ·have hw:M.within den 1 200000000000=true:=by simpa using hb
  refine wp_br (fun hb=>?_) (fun hb=>?_)
  ·have he:((ps.length:Int)==(l.length:Int))=false:=by
    rw[bne,Bool.not_eq_true']at hb;exact hb
   have:M.partErr l den ps=10:=by unfold M.partErr M.partHead;rw[hw,he];rfl
   rw[this];exact rsEqv_refl _
  ·have he:((ps.length:Int)==(l.length:Int))=true:=by
    rw[bne,Bool.not_eq_false']at hb;exact hb
   have hl:ps.length=l.length:=by have:=eq_of_beq he;omega
   have hE:M.partErr l den ps=M.partFrom l den ps ps.length 0:=by unfold M.partErr M.partHead;rw[hw,he];rfl
   rw[hE]
   refine range_wp (n:=ps.length) (fun k _=>M.partFrom l den ps (ps.length-k) k=M.partFrom l den ps ps.length 0) rfl ?_
   rintro k s hk hI
   refine wp_br (fun hb=>?_) (fun hb=>?_)
   ·have hlt:k<ps.length:=by have:(k:Int)<l.length:=of_decide_eq_true hb;omega
    rw[partFrom_step hlt]at hI
    refine⟨by show(0:Int)≤k;omega,by show(k:Int)<ps.length;omega,wp_br (fun hc=>?_) (fun hc=>?_)⟩
    ·have hc:ps.getD k 0<0:=of_decide_eq_true hc
     have:M.partAt l den ps k=2:=by unfold M.partAt;rw[decide_eq_false (by omega)];rfl
     rw[this]at hI
     show rsEqv [rI 2] _
     rw[←hI];exact rsEqv_refl _
    ·have hc:¬ps.getD k 0<0:=of_decide_eq_false hc
     refine⟨by show(0:Int)≤k;omega,by show(k:Int)<ps.length;omega,by show(0:Int)≤k;omega,by show(k:Int)<l.length;omega,wp_br (fun hd=>?_) (fun hd=>?_)⟩
     ·have hd:ps.getD k 0>IntKind.i64.wrap (den*(l.getD k dfC).vol):=of_decide_eq_true hd
      have:M.partAt l den ps k=24:=by unfold M.partAt;rw[decide_eq_true (by omega),decide_eq_false (by omega)];rfl
      rw[this]at hI
      show rsEqv [rI 24] _
      rw[←hI];exact rsEqv_refl _
     ·have hd:¬ps.getD k 0>IntKind.i64.wrap (den*(l.getD k dfC).vol):=of_decide_eq_false hd
      have:M.partAt l den ps k=0:=by unfold M.partAt;rw[decide_eq_true (by omega),decide_eq_true (by omega)];rfl
      rw[this]at hI
      exact⟨hlt,wrap_succ (by omega),hI⟩
   ·have hge:k≥ps.length:=by have:¬(k:Int)<l.length:=of_decide_eq_false hb;omega
    obtain rfl:k=ps.length:=by omega
    rw[←hI,Nat.sub_self]
    exact rsEqv_refl _
theorem w46(l:List Cask)(hn:∀c,c∈l→c.nm.size≤1000000):(tr46 l).wp (fun rs=>rsEqv rs [rI (M.casksErr l)]):=by
 unfold tr46
 simp only[Enc.list_F]
 refine⟨Enc.is_F _ _ _,hn,wp_br (fun hb=>?_) (fun hb=>?_)⟩
 ·have hb:((M.checkCasks l).2 != 0)=true:=hb
  have:M.casksErr l=M.wholeErr l:=by unfold M.casksErr M.first;rw[hb];rfl
  rw[this];exact rsEqv_refl _
 ·have hb:((M.checkCasks l).2 != 0)=false:=hb
  refine wp_br (fun hc=>?_) (fun hc=>?_)
  ·have hc:(l.length:Int)>4:=of_decide_eq_true hc
   have:M.casksErr l=8:=by unfold M.casksErr M.first;rw[hb,decide_eq_false (by omega)];rfl
   rw[this];exact rsEqv_refl _
  ·have hc:¬(l.length:Int)>4:=of_decide_eq_false hc
   have:M.casksErr l=0:=by unfold M.casksErr M.first;rw[hb,decide_eq_true (by omega)];rfl
   rw[this];exact rsEqv_refl _
theorem w19(l:List Cask):(tr19 l).wp (fun rs=>rsEqv rs [rB (M.someN 4 l)]):=by
 unfold tr19
 simp only[Enc.list_F]
 refine wp_br (fun hb=>?_) (fun hb=>?_)
 ·have hb:(l.length:Int)≤4:=of_decide_eq_true hb
  have:M.someN 4 l=M.some_ l:=by unfold M.someN;rw[decide_eq_true (by omega)];rfl
  rw[this];exact⟨Enc.is_F _ _ _,rsEqv_refl _⟩
 ·have hb:¬(l.length:Int)≤4:=of_decide_eq_false hb
  refine wp_br (fun hc=>?_) (fun hc=>?_)
  ·have hc:(l.length:Int)>10:=of_decide_eq_true hc
   have:M.someN 4 l=M.some_ l:=by unfold M.someN;rw[decide_eq_false (by omega),decide_eq_true (by omega)];rfl
   rw[this];exact⟨Enc.is_F _ _ _,rsEqv_refl _⟩
  ·have hc:¬(l.length:Int)>10:=of_decide_eq_false hc
   have:M.someN 4 l=false:=by unfold M.someN;rw[decide_eq_false (by omega),decide_eq_false (by omega)];rfl
   rw[this];exact rsEqv_refl _
def dom107:DomF
 |[.c (.sl _ n_l st_l F_l),.agg [.int .i64 den,.sl _ n_ps st_ps F_ps]]=>(match Nat.beq st_l 7&&Nat.beq st_ps 1 with
  |true=>some ([eC.Is n_l F_l,eI.Is n_ps F_ps,(eI.list n_ps F_ps).length≤1000000],[rI (M.partErr (eC.list n_l F_l) den (eI.list n_ps F_ps))])
  |_=>none)
 |_=>none
def v107:Nat×Sm:=(107,fokSm dom107)
theorem C107:FOK Try.prog G0 gw 107 dom107:=by
 intro ags p r hd hp κ w xs hw hl hG hx
 unfold dom107 at hd
 split at hd
 ·rename_i q_l n_l st_l F_l den q_ps n_ps st_ps F_ps
  split at hd
  ·rename_i hst
   simp only[Bool.and_eq_true]at hst
   obtain⟨g1,g2⟩:=hst
   have g1:=Nat.eq_of_beq_eq_true g1
   have g2:=Nat.eq_of_beq_eq_true g2
   subst g1 g2
   simp only[Option.some.injEq,Prod.mk.injEq]at hd
   obtain⟨rfl,rfl⟩:=hd
   obtain⟨hI_l,hI_ps,hp⟩:=hp
   have heq:agsEqv [.c (.sl q_l n_l 7 F_l),.agg [.int .i64 den,.sl q_ps n_ps 1 F_ps]] [.c (.sl q_l (eC.list n_l F_l).length 7 (eC.F (eC.list n_l F_l))),.agg [.int .i64 den,.sl q_ps (eI.list n_ps F_ps).length 1 (eI.F (eI.list n_ps F_ps))]]:=⟨eC.to id hI_l,⟨rfl,eI.to id hI_ps,trivial⟩,trivial⟩
   have len_l:(eC.list n_l F_l).length=n_l:=eC.list_len
   have len_ps:(eI.list n_ps F_ps).length=n_ps:=eI.list_len
   generalize eC.list n_l F_l=l at *
   generalize eI.list n_ps F_ps=ps at *
   subst len_l len_ps
   exact fokX_fin mixed gw_stable (sl:=[v35]) ⟨S35,trivial⟩ Try.func107 hw hl hG hx heq rfl (t107 q_l l den q_ps ps) (w107 l den ps hp.1)
  ·cases hd
 ·cases hd
theorem S107:SumOK Try.prog G0 gw 107 (fokSm dom107):=fok_sum Try.func107 rfl C107
def dom46:DomF
 |[.c (.sl _ n_l st_l F_l)]=>(match Nat.beq st_l 7 with
  |true=>some ([eC.Is n_l F_l,∀c,c∈(eC.list n_l F_l)→c.nm.size≤1000000],[rI (M.casksErr (eC.list n_l F_l))])
  |_=>none)
 |_=>none
def v46:Nat×Sm:=(46,fokSm dom46)
theorem C46:FOK Try.prog G0 gw 46 dom46:=by
 intro ags p r hd hp κ w xs hw hl hG hx
 unfold dom46 at hd
 split at hd
 ·rename_i q_l n_l st_l F_l
  split at hd
  ·rename_i hst
   have g1:=hst
   have g1:=Nat.eq_of_beq_eq_true g1
   subst g1
   simp only[Option.some.injEq,Prod.mk.injEq]at hd
   obtain⟨rfl,rfl⟩:=hd
   obtain⟨hI_l,hp⟩:=hp
   have heq:agsEqv [.c (.sl q_l n_l 7 F_l)] [.c (.sl q_l (eC.list n_l F_l).length 7 (eC.F (eC.list n_l F_l)))]:=⟨eC.to id hI_l,trivial⟩
   have len_l:(eC.list n_l F_l).length=n_l:=eC.list_len
   generalize eC.list n_l F_l=l at *
   subst len_l
   exact fokX_fin mixed gw_stable (sl:=[v31]) ⟨S31,trivial⟩ Try.func46 hw hl hG hx heq rfl (t46 q_l l) (w46 l hp.1)
  ·cases hd
 ·cases hd
theorem S46:SumOK Try.prog G0 gw 46 (fokSm dom46):=fok_sum Try.func46 rfl C46
def dom19:DomF
 |[.c (.sl _ n_l st_l F_l)]=>(match Nat.beq st_l 7 with
  |true=>some ([eC.Is n_l F_l],[rB (M.someN 4 (eC.list n_l F_l))])
  |_=>none)
 |_=>none
def v19:Nat×Sm:=(19,fokSm dom19)
theorem C19:FOK Try.prog G0 gw 19 dom19:=by
 intro ags p r hd hp κ w xs hw hl hG hx
 unfold dom19 at hd
 split at hd
 ·rename_i q_l n_l st_l F_l
  split at hd
  ·rename_i hst
   have g1:=hst
   have g1:=Nat.eq_of_beq_eq_true g1
   subst g1
   simp only[Option.some.injEq,Prod.mk.injEq]at hd
   obtain⟨rfl,rfl⟩:=hd
   obtain⟨hI_l,hp⟩:=hp
   have heq:agsEqv [.c (.sl q_l n_l 7 F_l)] [.c (.sl q_l (eC.list n_l F_l).length 7 (eC.F (eC.list n_l F_l)))]:=⟨eC.to id hI_l,trivial⟩
   have len_l:(eC.list n_l F_l).length=n_l:=eC.list_len
   generalize eC.list n_l F_l=l at *
   subst len_l
   exact fokX_fin mixed gw_stable (sl:=[v63]) ⟨S63,trivial⟩ Try.func19 hw hl hG hx heq rfl (t19 q_l l) (w19 l)
  ·cases hd
 ·cases hd
theorem S19:SumOK Try.prog G0 gw 19 (fokSm dom19):=fok_sum Try.func19 rfl C19
end Go.Bl
end
section
set_option maxRecDepth 100000
namespace Go.Bl
open Go.V Go.Proofs
namespace M
end M
def tr22(l:List Cask)(s:Sample):T (List Ar):=
  T.need (Enc.Is eC l.length (Enc.F eC l)) (T.need (∀(c:Cask),c∈Enc.list eC l.length (Enc.F eC l)→ByteArray.size (Cask.nm c)≤1000000) (T.br (M.casksErr (Enc.list eC l.length (Enc.F eC l)) != (0:Int)) (T.ret [Ar.c (D.int IntKind.i64 (M.casksErr (Enc.list eC l.length (Enc.F eC l))))]) (T.ret [Ar.c (D.int IntKind.i64 (M.checkSample s))])))
theorem t22(q_l:Bool)(l:List Cask)(sv l0 h0 l1 h1 l2 h2 l3 h3:Int):runFnX Try.prog G0 (lookS [v46,v32]) (fun _=>[]) [] 1 20 3 22 Try.f22 [.c (.sl q_l l.length 7 (eC.F l)),.agg [dI sv,dI l0,dI h0,dI l1,dI h1,dI l2,dI h2,dI l3,dI h3]] =
  tr22 l (⟨sv,⟨l0,h0⟩,⟨l1,h1⟩,⟨l2,h2⟩,⟨l3,h3⟩⟩:Sample):=by kernel_rfl
theorem first2{x y:Int}(h:(x != 0)=false):M.first [x,y]=y:=by
 unfold M.first;rw[h]
 show M.first [y]=y
 unfold M.first M.first
 cases hy:y != 0
 ·have:y=0:=by simpa using hy
  rw[this];rfl
 ·rfl
theorem first1{x:Int}{l:List Int}(h:(x != 0)=true):M.first (x::l)=x:=by
 unfold M.first;rw[h];rfl
theorem w22(l:List Cask)(s:Sample)(hn:∀c,c∈l→c.nm.size≤1000000):(tr22 l s).wp (fun rs=>rsEqv rs [rI (M.taskErr l s)]):=by
 unfold tr22
 simp only[Enc.list_F]
 refine⟨Enc.is_F _ _ _,hn,wp_br (fun hb=>?_) (fun hb=>?_)⟩
 ·have:M.taskErr l s=M.casksErr l:=first1 hb
  rw[this];exact rsEqv_refl _
 ·have:M.taskErr l s=M.checkSample s:=first2 hb
  rw[this];exact rsEqv_refl _
def dom22:DomF
 |[.c (.sl _ n_l st_l F_l),.agg [.int .i64 sv,.int .i64 l0,.int .i64 h0,.int .i64 l1,.int .i64 h1,.int .i64 l2,.int .i64 h2,.int .i64 l3,.int .i64 h3]]=>(match Nat.beq st_l 7 with
  |true=>some ([eC.Is n_l F_l,∀c,c∈(eC.list n_l F_l)→c.nm.size≤1000000],[rI (M.taskErr (eC.list n_l F_l) (⟨sv,⟨l0,h0⟩,⟨l1,h1⟩,⟨l2,h2⟩,⟨l3,h3⟩⟩:Sample))])
  |_=>none)
 |_=>none
def v22:Nat×Sm:=(22,fokSm dom22)
theorem C22:FOK Try.prog G0 gw 22 dom22:=by
 intro ags p r hd hp κ w xs hw hl hG hx
 unfold dom22 at hd
 split at hd
 ·rename_i q_l n_l st_l F_l sv l0 h0 l1 h1 l2 h2 l3 h3
  split at hd
  ·rename_i hst
   have g1:=hst
   have g1:=Nat.eq_of_beq_eq_true g1
   subst g1
   simp only[Option.some.injEq,Prod.mk.injEq]at hd
   obtain⟨rfl,rfl⟩:=hd
   obtain⟨hI_l,hp⟩:=hp
   have heq:agsEqv [.c (.sl q_l n_l 7 F_l),.agg [.int .i64 sv,.int .i64 l0,.int .i64 h0,.int .i64 l1,.int .i64 h1,.int .i64 l2,.int .i64 h2,.int .i64 l3,.int .i64 h3]] [.c (.sl q_l (eC.list n_l F_l).length 7 (eC.F (eC.list n_l F_l))),.agg [.int .i64 sv,.int .i64 l0,.int .i64 h0,.int .i64 l1,.int .i64 h1,.int .i64 l2,.int .i64 h2,.int .i64 l3,.int .i64 h3]]:=⟨eC.to id hI_l,Ag.eqv_refl _,trivial⟩
   have len_l:(eC.list n_l F_l).length=n_l:=eC.list_len
   generalize eC.list n_l F_l=l at *
   subst len_l
   exact fokX_fin mixed gw_stable (sl:=[v46,v32]) ⟨S46,S32,trivial⟩ Try.func22 hw hl hG hx heq rfl (t22 q_l l sv l0 h0 l1 h1 l2 h2 l3 h3) (w22 l _ hp.1)
  ·cases hd
 ·cases hd
theorem S22:SumOK Try.prog G0 gw 22 (fokSm dom22):=fok_sum Try.func22 rfl C22
end Go.Bl
end
section
set_option maxRecDepth 100000
namespace Go.Bl
open Go.V Go.Proofs
theorem someN_small{n:Nat}{l:List Cask}(h:M.someN n l=true):l.length≤12∧∀c,c∈l→c.nm.size≤20:=by
 unfold M.someN at h
 simp only[Bool.and_eq_true]at h
 have h2:l.length≤12∧∀k,k<l.length→(l.getD k dfC).nm.size≤20:=of_decide_eq_true h.2
 refine⟨h2.1,fun c hc=>?_⟩
 obtain⟨k,hk,rfl⟩:=List.mem_iff_getElem.1 hc
 have:=h2.2 k hk
 have e:l.getD k dfC=l[k]:=by simp[hk]
 rwa [e]at this
end Go.Bl
end
section
set_option maxRecDepth 100000
namespace Go.Bl
open Go.V Go.Proofs
namespace M
def isum(ps:List Int):Int:=(List.range ps.length).foldl (fun a i=>IntKind.i64.wrap (a+ps.getD i 0)) 0
def valL(l:List Cask)(ps:List Int)(of:Cask→Int)(less:Int):Int:=(List.range l.length).foldl (fun a i=>IntKind.i64.wrap (a+IntKind.i64.wrap (ps.getD i 0*IntKind.i64.wrap (of (l.getD i dfC)-less)))) 0
def openErr(l:List Cask)(s:Sample)(den:Int)(ps:List Int):Int:=cond (taskErr l s != 0) (taskErr l s) (cond (partErr l den ps != 0) (partErr l den ps) (unl (sumP (fun _=>1) l ps==IntKind.i64.wrap (den*s.vol)) 14))
end M
def trVal(of:Cask→Int)(kk:Int)(l:List Cask)(ps:List Int)(less:Int):T (List Ar):=
  T.loop (Int×Int×PUnit) ((0:Int),(0:Int),PUnit.unit) fun(x:Int×Int×PUnit)=>T.br (decide (x.1<(l.length:Int))) (T.needs [(0:Int)≤x.1,x.1<(ps.length:Int),(0:Int)≤x.1,x.1<(l.length:Int),(0:Int)≤kk,kk<4] (T.ret (Sum.inl (IntKind.i64.wrap (x.1+1),IntKind.i64.wrap (x.2.1+IntKind.i64.wrap (ps.getD x.1.toNat (0:Int)*IntKind.i64.wrap (of (l.getD x.1.toNat (Enc.dflt eC))-less))),PUnit.unit)))) (T.ret (Sum.inr [Ar.c (D.int IntKind.i64 x.2.1)]))
theorem t88_0(q_l:Bool)(l:List Cask)(q_ps:Bool)(ps:List Int)(less:Int):runFnX Try.prog G0 (lookS []) (fun _=>[(3,[.slot 10 (.int .i64),.slot 9 (.int .i64)],none)]) [] 1 20 3 88 Try.f88 [.c (.sl q_l l.length 7 (eC.F l)),.c (.sl q_ps ps.length 1 (eI.F ps)),.c (dI 0),.c (dI less)] =
  trVal (M.kOf 0) 0 l ps less:=by kernel_rfl
theorem t88_1(q_l:Bool)(l:List Cask)(q_ps:Bool)(ps:List Int)(less:Int):runFnX Try.prog G0 (lookS []) (fun _=>[(3,[.slot 10 (.int .i64),.slot 9 (.int .i64)],none)]) [] 1 20 3 88 Try.f88 [.c (.sl q_l l.length 7 (eC.F l)),.c (.sl q_ps ps.length 1 (eI.F ps)),.c (dI 1),.c (dI less)] =
  trVal (M.kOf 1) 1 l ps less:=by kernel_rfl
theorem t88_2(q_l:Bool)(l:List Cask)(q_ps:Bool)(ps:List Int)(less:Int):runFnX Try.prog G0 (lookS []) (fun _=>[(3,[.slot 10 (.int .i64),.slot 9 (.int .i64)],none)]) [] 1 20 3 88 Try.f88 [.c (.sl q_l l.length 7 (eC.F l)),.c (.sl q_ps ps.length 1 (eI.F ps)),.c (dI 2),.c (dI less)] =
  trVal (M.kOf 2) 2 l ps less:=by kernel_rfl
theorem t88_3(q_l:Bool)(l:List Cask)(q_ps:Bool)(ps:List Int)(less:Int):runFnX Try.prog G0 (lookS []) (fun _=>[(3,[.slot 10 (.int .i64),.slot 9 (.int .i64)],none)]) [] 1 20 3 88 Try.f88 [.c (.sl q_l l.length 7 (eC.F l)),.c (.sl q_ps ps.length 1 (eI.F ps)),.c (dI 3),.c (dI less)] =
  trVal (M.kOf 3) 3 l ps less:=by kernel_rfl
theorem t78(n d:Int):runFnX Try.prog G0 (lookS []) (fun f=>match Nat.beq f 121 with|true=>[(1,[.slot 0 (.int .i64),.slot 1 (.int .i64)],none)]|_=>[]) [121,144] 1 20 3 78 Try.f78 [.c (dI n),.c (dI d)] =
  T.loop (Int×Int×PUnit) (n,d,PUnit.unit) fun(x:Int×Int×PUnit)=>T.br (x.2.1 != (0:Int)) (T.need (x.2.1≠(0:Int)) (T.ret (Sum.inl (x.2.1,Int.tmod x.1 x.2.1,PUnit.unit)))) (T.need ((if IntKind.i64.wrap ((0:Int)-x.1)>x.1 then IntKind.i64.wrap ((0:Int)-x.1)else x.1)≠(0:Int)) (T.need ((if IntKind.i64.wrap ((0:Int)-x.1)>x.1 then IntKind.i64.wrap ((0:Int)-x.1)else x.1)≠(0:Int)) (T.ret (Sum.inr [Ar.agg [D.int IntKind.i64 (IntKind.i64.wrap (Int.tdiv n (if IntKind.i64.wrap ((0:Int)-x.1)>x.1 then IntKind.i64.wrap ((0:Int)-x.1)else x.1))),D.int IntKind.i64 (IntKind.i64.wrap (Int.tdiv d (if IntKind.i64.wrap ((0:Int)-x.1)>x.1 then IntKind.i64.wrap ((0:Int)-x.1)else x.1)))]])))):=by kernel_rfl
def tr89(ps:List Int):T (List Ar):=
  T.loop (Int×Int×PUnit) ((0:Int),(0:Int),PUnit.unit) fun(x:Int×Int×PUnit)=>T.br (decide (x.1<(ps.length:Int))) (T.need ((0:Int)≤x.1) (T.need (x.1<(ps.length:Int)) (T.ret (Sum.inl (IntKind.i64.wrap (x.1+1),IntKind.i64.wrap (x.2.1+ps.getD x.1.toNat (0:Int)),PUnit.unit))))) (T.ret (Sum.inr [Ar.c (D.int IntKind.i64 x.2.1)]))
theorem t89(q_ps:Bool)(ps:List Int):runFnX Try.prog G0 (lookS []) (fun _=>[(3,[.slot 4 (.int .i64),.slot 3 (.int .i64)],none)]) [] 1 20 3 89 Try.f89 [.c (.sl q_ps ps.length 1 (eI.F ps))] =
  tr89 ps:=by kernel_rfl
theorem wVal(of:Cask→Int)(kk:Int)(l:List Cask)(ps:List Int)(less:Int)(h0:0≤kk)(h4:kk<4)(h1:ps.length=l.length)(h2:l.length≤1000000):(trVal of kk l ps less).wp (fun rs=>rsEqv rs [rI (M.valL l ps of less)]):=by
 unfold trVal
 refine range_wp (n:=l.length) (fun k s=>s.1=(List.range k).foldl (fun a i=>IntKind.i64.wrap (a+IntKind.i64.wrap (ps.getD i 0*IntKind.i64.wrap (of (l.getD i dfC)-less)))) 0) rfl ?_
 rintro k ⟨a,u⟩ hk hI
 simp only at hI
 refine⟨fun hb=>?_,fun hb=>?_⟩
 ·have hlt:=lt_of_dec hb
  refine⟨by show(0:Int)≤k;omega,by show(k:Int)<ps.length;omega,by show(0:Int)≤k;omega,by show(k:Int)<l.length;omega,h0,h4,hlt,wrap_succ (by omega),?_⟩
  rw[foldl_succ,←hI]
  rfl
 ·have hge:=ge_of_dec hb
  obtain rfl:k=l.length:=by omega
  have e:a=M.valL l ps of less:=hI
  show rsEqv [rI a] _
  rw[e];exact rsEqv_refl _
theorem w89(ps:List Int)(h:ps.length≤1000000):(tr89 ps).wp (fun rs=>rsEqv rs [rI (M.isum ps)]):=by
 unfold tr89
 refine range_wp (n:=ps.length) (fun k s=>s.1=(List.range k).foldl (fun a i=>IntKind.i64.wrap (a+ps.getD i 0)) 0) rfl ?_
 rintro k ⟨a,u⟩ hk hI
 simp only at hI
 refine⟨fun hb=>?_,fun hb=>?_⟩
 ·have hlt:=lt_of_dec hb
  refine⟨by show(0:Int)≤k;omega,by show(k:Int)<ps.length;omega,hlt,wrap_succ (by omega),?_⟩
  rw[foldl_succ,←hI]
  rfl
 ·have hge:=ge_of_dec hb
  obtain rfl:k=ps.length:=by omega
  have e:a=M.isum ps:=hI
  show rsEqv [rI a] _
  rw[e];exact rsEqv_refl _
theorem part_len{l:List Cask}{den:Int}{ps:List Int}(h:(M.partErr l den ps != 0)=false):ps.length=l.length:=by
 have h:M.partErr l den ps=0:=by simpa using h
 unfold M.partErr at h
 have h0:M.partHead l den ps=0:=by
  cases hh:M.partHead l den ps != 0
  ·simpa using hh
  ·rw[hh]at h
   have h:M.partHead l den ps=0:=h
   exact h
 unfold M.partHead M.first M.first M.first M.unl at h0
 by_cases e:(ps.length:Int)==(l.length:Int)
 ·have:=eq_of_beq e;omega
 ·rw[Bool.eq_false_iff.2 e]at h0
  cases hw:M.within den 1 200000000000 <;>rw[hw]at h0 <;>exact absurd h0 (by decide)
def dom78:DomF
 |[.c (.int .i64 n),.c (.int .i64 d)]=>some ([d≠0,i64ok n,i64ok d],[.agg [dI (M.told1 n d),dI (M.told2 n d)]])
 |_=>none
def v78:Nat×Sm:=(78,fokSm dom78)
theorem C78:FOK Try.prog G0 gw 78 dom78:=by
 intro ags p r hd hp κ w xs hw hl hG hx
 unfold dom78 at hd
 split at hd
 ·rename_i n d
  simp only[Option.some.injEq,Prod.mk.injEq]at hd
  obtain⟨rfl,rfl⟩:=hd
  have heq:agsEqv [.c (.int .i64 n),.c (.int .i64 d)] [.c (.int .i64 n),.c (.int .i64 d)]:=⟨Ag.eqv_refl _,Ag.eqv_refl _,trivial⟩
  exact fokX_fin mixed gw_stable (sl:=[]) trivial Try.func78 hw hl hG hx heq rfl (t78 n d) (w83 hp.1 hp.2.1 hp.2.2.1 (rsEqv_refl _))
 ·cases hd
theorem S78:SumOK Try.prog G0 gw 78 (fokSm dom78):=fok_sum Try.func78 rfl C78
def dom89:DomF
 |[.c (.sl _ n_ps st_ps F_ps)]=>(match Nat.beq st_ps 1 with
  |true=>some ([eI.Is n_ps F_ps,(eI.list n_ps F_ps).length≤1000000],[rI (M.isum (eI.list n_ps F_ps))])
  |_=>none)
 |_=>none
def v89:Nat×Sm:=(89,fokSm dom89)
theorem C89:FOK Try.prog G0 gw 89 dom89:=by
 intro ags p r hd hp κ w xs hw hl hG hx
 unfold dom89 at hd
 split at hd
 ·rename_i q_ps n_ps st_ps F_ps
  split at hd
  ·rename_i hst
   have g1:=hst
   have g1:=Nat.eq_of_beq_eq_true g1
   subst g1
   simp only[Option.some.injEq,Prod.mk.injEq]at hd
   obtain⟨rfl,rfl⟩:=hd
   obtain⟨hI_ps,hp⟩:=hp
   have heq:agsEqv [.c (.sl q_ps n_ps 1 F_ps)] [.c (.sl q_ps (eI.list n_ps F_ps).length 1 (eI.F (eI.list n_ps F_ps)))]:=⟨eI.to id hI_ps,trivial⟩
   have len_ps:(eI.list n_ps F_ps).length=n_ps:=eI.list_len
   generalize eI.list n_ps F_ps=ps at *
   subst len_ps
   exact fokX_fin mixed gw_stable (sl:=[]) trivial Try.func89 hw hl hG hx heq rfl (t89 q_ps ps) (w89 ps hp.1)
  ·cases hd
 ·cases hd
theorem S89:SumOK Try.prog G0 gw 89 (fokSm dom89):=fok_sum Try.func89 rfl C89
def dom88:DomF
 |[.c (.sl _ n_l st_l F_l),.c (.sl _ n_ps st_ps F_ps),.c (.int .i64 kk),.c (.int .i64 less)]=>(match Nat.beq st_l 7&&Nat.beq st_ps 1 with
  |true=>some ([eC.Is n_l F_l,eI.Is n_ps F_ps,isKind kk=true,(eI.list n_ps F_ps).length=(eC.list n_l F_l).length,(eC.list n_l F_l).length≤1000000],[rI (M.valL (eC.list n_l F_l) (eI.list n_ps F_ps) (M.kOf kk) less)])
  |_=>none)
 |_=>none
def v88:Nat×Sm:=(88,fokSm dom88)
theorem C88:FOK Try.prog G0 gw 88 dom88:=by
 intro ags p r hd hp κ w xs hw hl hG hx
 unfold dom88 at hd
 split at hd
 ·rename_i q_l n_l st_l F_l q_ps n_ps st_ps F_ps kk less
  split at hd
  ·rename_i hst
   simp only[Bool.and_eq_true]at hst
   obtain⟨g1,g2⟩:=hst
   have g1:=Nat.eq_of_beq_eq_true g1
   have g2:=Nat.eq_of_beq_eq_true g2
   subst g1 g2
   simp only[Option.some.injEq,Prod.mk.injEq]at hd
   obtain⟨rfl,rfl⟩:=hd
   obtain⟨hI_l,hI_ps,hp⟩:=hp
   have heq:agsEqv [.c (.sl q_l n_l 7 F_l),.c (.sl q_ps n_ps 1 F_ps),.c (.int .i64 kk),.c (.int .i64 less)] [.c (.sl q_l (eC.list n_l F_l).length 7 (eC.F (eC.list n_l F_l))),.c (.sl q_ps (eI.list n_ps F_ps).length 1 (eI.F (eI.list n_ps F_ps))),.c (.int .i64 kk),.c (.int .i64 less)]:=⟨eC.to id hI_l,eI.to id hI_ps,Ag.eqv_refl _,Ag.eqv_refl _,trivial⟩
   have len_l:(eC.list n_l F_l).length=n_l:=eC.list_len
   have len_ps:(eI.list n_ps F_ps).length=n_ps:=eI.list_len
   generalize eC.list n_l F_l=l at *
   generalize eI.list n_ps F_ps=ps at *
   subst len_l len_ps
   obtain⟨hk,hlen,hle,_⟩:=hp
   rcases isKind_spec hk with rfl|rfl|rfl|rfl
   ·exact fokX_fin mixed gw_stable (sl:=[]) trivial Try.func88 hw hl hG hx heq rfl (t88_0 q_l l q_ps ps less) (wVal (M.kOf 0) 0 l ps less (by decide) (by decide) hlen hle)
   ·exact fokX_fin mixed gw_stable (sl:=[]) trivial Try.func88 hw hl hG hx heq rfl (t88_1 q_l l q_ps ps less) (wVal (M.kOf 1) 1 l ps less (by decide) (by decide) hlen hle)
   ·exact fokX_fin mixed gw_stable (sl:=[]) trivial Try.func88 hw hl hG hx heq rfl (t88_2 q_l l q_ps ps less) (wVal (M.kOf 2) 2 l ps less (by decide) (by decide) hlen hle)
   ·exact fokX_fin mixed gw_stable (sl:=[]) trivial Try.func88 hw hl hG hx heq rfl (t88_3 q_l l q_ps ps less) (wVal (M.kOf 3) 3 l ps less (by decide) (by decide) hlen hle)
  ·cases hd
 ·cases hd
theorem S88:SumOK Try.prog G0 gw 88 (fokSm dom88):=fok_sum Try.func88 rfl C88
end Go.Bl
end
section
set_option maxRecDepth 100000
namespace Go.Bl
open Go.V Go.Proofs
theorem first_nil(l:List Int)(h:M.first l=0):∀x,x∈l→x=0:=by
 induction l with
 |nil=>intro x hx;cases hx
 |cons y t ih=>
  unfold M.first at h
  cases hy:y != 0
  ·rw[hy]at h
   have hy0:y=0:=by simpa using hy
   intro x hx
   rcases List.mem_cons.1 hx with rfl|hx
   ·exact hy0
   ·exact ih h x hx
  ·rw[hy]at h
   have h:y=0:=h
   rw[h]at hy
   exact absurd hy (by decide)
theorem unl_zero{b:Bool}{e:Int}(he:e≠0)(h:M.unl b e=0):b=true:=by
 cases b with
 |true=>rfl
 |false=>exact absurd h he
theorem cond_zero{x y:Int}(h:(cond (x != 0) x y)=0):x=0∧y=0:=by
 cases hx:x != 0
 ·rw[hx]at h
  exact⟨by simpa using hx,h⟩
 ·rw[hx]at h
  have h:x=0:=h
  rw[h]at hx
  exact absurd hx (by decide)
theorem casksFrom_zero{l:List Cask}:∀(n i:Nat),(M.casksFrom l n i).2=0→∀j,i≤j→j<i+n→M.caskErr l j=0
 |0,i,_,j,h1,h2=>by omega
 |n+1,i,h,j,h1,h2=>by
  unfold M.casksFrom at h
  cases hx:M.caskErr l i != 0
  ·rw[hx]at h
   rcases Nat.eq_or_lt_of_le h1 with rfl|hlt
   ·simpa using hx
   ·exact casksFrom_zero n (i+1) h j hlt (by omega)
  ·rw[hx]at h
   have h:M.caskErr l i=0:=h
   rw[h]at hx
   exact absurd hx (by decide)
theorem partFrom_zero{l:List Cask}{den:Int}{ps:List Int}:∀(n i:Nat),M.partFrom l den ps n i=0→∀j,i≤j→j<i+n→M.partAt l den ps j=0
 |0,i,_,j,h1,h2=>by omega
 |n+1,i,h,j,h1,h2=>by
  unfold M.partFrom at h
  obtain⟨a,b⟩:=cond_zero h
  rcases Nat.eq_or_lt_of_le h1 with rfl|hlt
  ·exact a
  ·exact partFrom_zero n (i+1) b j hlt (by omega)
theorem within_spec{n lo hi:Int}(h:M.within n lo hi=true):lo≤n∧n≤hi:=by
 unfold M.within at h
 simp only[Bool.and_eq_true,decide_eq_true_eq]at h
 exact h
structure RightC(c:Cask):Prop where
 vol:0≤c.vol∧c.vol≤10000
 cost:0≤c.cost∧c.cost≤1000
 k0:0≤c.k0∧c.k0≤1000
 k1:0≤c.k1∧c.k1≤1000
 k2:0≤c.k2∧c.k2≤1000
 k3:0≤c.k3∧c.k3≤1000
theorem rightC_spec{c:Cask}(h:M.rightC c=true):RightC c:=by
 unfold M.rightC at h
 cases h1:M.within c.vol 0 10000
 ·rw[h1]at h;cases h
 rw[h1]at h
 have h:cond (M.within c.cost 0 1000) (M.kindsOk c) false=true:=h
 cases h2:M.within c.cost 0 1000
 ·rw[h2]at h;cases h
 rw[h2]at h
 have h:M.kindsOk c=true:=h
 unfold M.kindsOk M.allB M.allB M.allB M.allB M.allB at h
 cases g0:M.isValue c.k0
 ·rw[g0]at h;cases h
 cases g1:M.isValue c.k1
 ·rw[g0,g1]at h;cases h
 cases g2:M.isValue c.k2
 ·rw[g0,g1,g2]at h;cases h
 cases g3:M.isValue c.k3
 ·rw[g0,g1,g2,g3]at h;cases h
 exact⟨within_spec h1,within_spec h2,within_spec g0,within_spec g1,within_spec g2,within_spec g3⟩
theorem casks_right{l:List Cask}(h:M.casksErr l=0):1≤l.length∧l.length≤4∧∀i,i<l.length→RightC (l.getD i dfC):=by
 unfold M.casksErr at h
 have h1:=first_nil _ h _ (List.mem_cons_self ..)
 have h2:=unl_zero (by decide) (first_nil _ h _ (List.mem_cons_of_mem _ (List.mem_cons_self ..)))
 have h2:(l.length:Int)≤4:=of_decide_eq_true h2
 unfold M.checkCasks at h1
 cases e0:decide (l.length=0)
 ·rw[e0]at h1
  have h1:(cond (decide (10<l.length)) ((0:Int),(8:Int)) (M.casksFrom l l.length 0)).2=0:=h1
  rw[decide_eq_false (by omega)]at h1
  have h1:(M.casksFrom l l.length 0).2=0:=h1
  have e0:¬l.length=0:=of_decide_eq_false e0
  refine⟨by omega,by omega,fun i hi=>?_⟩
  have hc:=casksFrom_zero _ _ h1 i (Nat.zero_le _) (by omega)
  unfold M.caskErr at hc
  exact rightC_spec (unl_zero (by decide) (first_nil _ hc _ (List.mem_cons_of_mem _ (List.mem_cons_of_mem _ (List.mem_cons_self ..)))))
 ·rw[e0]at h1
  have h1:(10:Int)=0:=h1
  exact absurd h1 (by decide)
structure RightP(l:List Cask)(den:Int)(ps:List Int):Prop where
 len:ps.length=l.length
 den:1≤den∧den≤200000000000
 part:∀i,i<l.length→0≤ps.getD i 0∧ps.getD i 0≤2000000000000000
theorem parts_right{l:List Cask}{den:Int}{ps:List Int}(hl:∀i,i<l.length→RightC (l.getD i dfC))(h:M.partErr l den ps=0):RightP l den ps:=by
 have hlen:=part_len (l:=l) (den:=den) (ps:=ps) (by rw[h];rfl)
 unfold M.partErr at h
 obtain⟨h0,h1⟩:=cond_zero h
 unfold M.partHead at h0
 have hw:=within_spec (unl_zero (by decide) (first_nil _ h0 _ (List.mem_cons_self ..)))
 refine⟨hlen,hw,fun i hi=>?_⟩
 have ha:=partFrom_zero _ _ h1 i (Nat.zero_le _) (by omega)
 unfold M.partAt at ha
 have a1:ps.getD i 0≥0:=of_decide_eq_true (unl_zero (by decide) (first_nil _ ha _ (List.mem_cons_self ..)))
 have a2:ps.getD i 0≤IntKind.i64.wrap (den*(l.getD i dfC).vol):=of_decide_eq_true (unl_zero (by decide) (first_nil _ ha _ (List.mem_cons_of_mem _ (List.mem_cons_self ..))))
 have hv:=(hl i hi).vol
 have hm0:0≤den*(l.getD i dfC).vol:=Int.mul_nonneg (by omega) hv.1
 have hm1:den*(l.getD i dfC).vol≤200000000000*10000:=Int.mul_le_mul hw.2 hv.2 hv.1 (by decide)
 rw[wrap_id (by omega) (by omega)]at a2
 exact⟨a1,by omega⟩
def dot(g:Nat→Int):Nat→Int
 |0=>0
 |n+1=>dot g n+g n
theorem dot_congr{g h:Nat→Int}:∀{n:Nat},(∀i,i<n→g i=h i)→dot g n=dot h n
 |0,_=>rfl
 |n+1,e=>by
  show dot g n+g n=dot h n+h n
  rw[dot_congr fun i hi=>e i (by omega),e n (by omega)]
theorem fold_dot{f:Int→Nat→Int}{y:Nat→Int}{n:Nat}(hf:∀a i,i<n→f a i=IntKind.i64.wrap (a+y i))(hy:∀i,i<n→(y i).natAbs≤2000000000000000000)(hn:n≤4) :
  (List.range n).foldl f 0=dot y n∧(dot y n).natAbs≤n*2000000000000000000:=by
 have key:∀k,k≤n→(List.range k).foldl f 0=dot y k∧(dot y k).natAbs≤k*2000000000000000000:=by
  intro k
  induction k with
  |zero=>intro _;exact⟨rfl,by show(0:Int).natAbs≤_;simp⟩
  |succ k ih=>
   intro hk
   obtain⟨h1,h2⟩:=ih (by omega)
   have hb:=hy k (by omega)
   have e:dot y (k+1)=dot y k+y k:=rfl
   have hb':(dot y (k+1)).natAbs≤(k+1)*2000000000000000000:=by rw[e];omega
   refine⟨?_,hb'⟩
   rw[foldl_succ,h1,hf _ _ (by omega),←e]
   exact wrap_id (by omega) (by omega)
 exact key n (Nat.le_refl n)
theorem mul_small{p w:Int}(hp:0≤p∧p≤2000000000000000)(hw:w.natAbs≤1000):(p*w).natAbs≤2000000000000000000:=by
 rw[Int.natAbs_mul]
 exact Nat.mul_le_mul (show p.natAbs≤2000000000000000 by omega) hw
theorem dot_sub(p v:Nat→Int)(c:Int):∀n,dot (fun i=>p i*(v i-c)) n=dot (fun i=>p i*v i) n-c*dot p n
 |0=>by simp[dot]
 |n+1=>by
  show dot (fun i=>p i*(v i-c)) n+p n*(v n-c)=dot (fun i=>p i*v i) n+p n*v n-c*(dot p n+p n)
  rw[dot_sub p v c n,Int.mul_sub,Int.mul_add,Int.mul_comm (p n) c]
  omega
theorem wrap_add_wrap(a b:Int):IntKind.i64.wrap (a+IntKind.i64.wrap b)=IntKind.i64.wrap (a+b):=by
 simp only[IntKind.wrap_i64];omega
section
variable {l : List Cask} {den : Int} {ps : List Int}
theorem sumP_eq(h4:l.length≤4)(hp:RightP l den ps){of:Cask→Int}(hof:∀i,i<l.length→(of (l.getD i dfC)).natAbs≤1000) :
  M.sumP of l ps=dot (fun i=>ps.getD i 0*of (l.getD i dfC)) l.length∧(M.sumP of l ps).natAbs≤l.length*2000000000000000000:=by
 have h:=fold_dot (f:=fun a i=>IntKind.i64.wrap (a+IntKind.i64.wrap (ps.getD i 0*of (l.getD i dfC)))) (y:=fun i=>ps.getD i 0*of (l.getD i dfC)) (n:=l.length)
  (fun a i _=>wrap_add_wrap _ _) (fun i hi=>mul_small (hp.part i hi) (hof i hi)) h4
 have e:M.sumP of l ps=(List.range l.length).foldl (fun a i=>IntKind.i64.wrap (a+IntKind.i64.wrap (ps.getD i 0*of (l.getD i dfC)))) 0:=by unfold M.sumP;rw[hp.len]
 rw[e,h.1]
 exact⟨rfl,h.2⟩
theorem valL_eq(h4:l.length≤4)(hp:RightP l den ps){of:Cask→Int}{c:Int}(hof:∀i,i<l.length→0≤of (l.getD i dfC)∧of (l.getD i dfC)≤1000)(hc:0≤c∧c≤1000) :
  M.valL l ps of c=dot (fun i=>ps.getD i 0*(of (l.getD i dfC)-c)) l.length∧(M.valL l ps of c).natAbs≤l.length*2000000000000000000:=by
 have h:=fold_dot (f:=fun a i=>IntKind.i64.wrap (a+IntKind.i64.wrap (ps.getD i 0*IntKind.i64.wrap (of (l.getD i dfC)-c)))) (y:=fun i=>ps.getD i 0*(of (l.getD i dfC)-c)) (n:=l.length)
  (fun a i hi=>by have:=hof i hi;rw[wrap_add_wrap,wrap_id (n:=of (l.getD i dfC)-c) (by omega) (by omega)]) (fun i hi=>mul_small (hp.part i hi) (by have:=hof i hi;omega)) h4
 have e:M.valL l ps of c=(List.range l.length).foldl (fun a i=>IntKind.i64.wrap (a+IntKind.i64.wrap (ps.getD i 0*IntKind.i64.wrap (of (l.getD i dfC)-c)))) 0:=rfl
 rw[e,h.1]
 exact⟨rfl,h.2⟩
theorem isum_eq:ps.length=l.length→M.isum ps=M.sumP (fun _=>1) l ps:=by
 intro _
 unfold M.isum M.sumP
 congr 1
 funext a i
 rw[wrap_add_wrap,Int.mul_one]
theorem vol_bound(h4:l.length≤4)(hp:RightP l den ps):M.sumP (fun _=>1) l ps=dot (fun i=>ps.getD i 0) l.length∧0≤M.sumP (fun _=>1) l ps∧M.sumP (fun _=>1) l ps≤8000000000000000:=by
 have h:=(sumP_eq h4 hp (of:=fun _=>1) fun i hi=>by decide).1
 have e:dot (fun i=>ps.getD i 0*1) l.length=dot (fun i=>ps.getD i 0) l.length:=dot_congr fun i _=>Int.mul_one _
 rw[h,e]
 refine⟨rfl,?_⟩
 have key:∀k,k≤l.length→0≤dot (fun i=>ps.getD i 0) k∧dot (fun i=>ps.getD i 0) k≤k*2000000000000000:=by
  intro k
  induction k with
  |zero=>intro _;exact⟨Int.le_refl _,by show(0:Int)≤_;simp⟩
  |succ k ih=>
   intro hk
   have:=ih (by omega)
   have hq:=hp.part k (by omega)
   have e:dot (fun i=>ps.getD i 0) (k+1)=dot (fun i=>ps.getD i 0) k+ps.getD k 0:=rfl
   rw[e]
   omega
 have:=key _ (Nat.le_refl _)
 omega
theorem kind_eq(h4:l.length≤4)(hp:RightP l den ps){of:Cask→Int}{lo hi:Int}(hof:∀i,i<l.length→0≤of (l.getD i dfC)∧of (l.getD i dfC)≤1000)(h0:0≤lo∧lo≤1000)(h1:0≤hi∧hi≤1000) :
  IntKind.i64.wrap (IntKind.i64.wrap (lo*M.sumP (fun _=>1) l ps)-M.sumP of l ps)=0-M.valL l ps of lo∧IntKind.i64.wrap (M.sumP of l ps-IntKind.i64.wrap (hi*M.sumP (fun _=>1) l ps))=M.valL l ps of hi ∧
   IntKind.i64.wrap (0-M.valL l ps of lo)=0-M.valL l ps of lo∧(M.valL l ps of lo).natAbs≤8000000000000000000∧(M.valL l ps of hi).natAbs≤8000000000000000000:=by
 obtain⟨v1,v2⟩:=valL_eq h4 hp hof h0
 obtain⟨w1,w2⟩:=valL_eq h4 hp hof h1
 obtain⟨s1,s2⟩:=sumP_eq h4 hp (of:=of) fun i hi=>by have:=hof i hi;omega
 obtain⟨u1,u2,u3⟩:=vol_bound h4 hp
 have d0:=dot_sub (fun i=>ps.getD i 0) (fun i=>of (l.getD i dfC)) lo l.length
 have d1:=dot_sub (fun i=>ps.getD i 0) (fun i=>of (l.getD i dfC)) hi l.length
 rw[←u1,←s1,←v1]at d0
 rw[←u1,←s1,←w1]at d1
 have m0:0≤lo*M.sumP (fun _=>1) l ps:=Int.mul_nonneg h0.1 u2
 have m1:lo*M.sumP (fun _=>1) l ps≤1000*8000000000000000:=Int.mul_le_mul h0.2 u3 u2 (by decide)
 have m2:0≤hi*M.sumP (fun _=>1) l ps:=Int.mul_nonneg h1.1 u2
 have m3:hi*M.sumP (fun _=>1) l ps≤1000*8000000000000000:=Int.mul_le_mul h1.2 u3 u2 (by decide)
 have b1:(M.valL l ps of lo).natAbs≤8000000000000000000:=by omega
 have b2:(M.valL l ps of hi).natAbs≤8000000000000000000:=by omega
 refine⟨?_,?_,wrap_id (by omega) (by omega),b1,b2⟩
 ·rw[wrap_id (n:=lo*M.sumP (fun _=>1) l ps) (by omega) (by omega),wrap_id (by omega) (by omega)]
  omega
 ·rw[wrap_id (n:=hi*M.sumP (fun _=>1) l ps) (by omega) (by omega),wrap_id (by omega) (by omega)]
  omega
end
end Go.Bl
end
section
set_option maxRecDepth 100000
namespace Go.Bl
open Go.V Go.Proofs
namespace M
def badK(l:List Cask)(ps:List Int)(of:Cask→Int)(r:Rg):Bool:=decide (valL l ps of r.lo<0)||decide (valL l ps of r.hi>0)
def meetsR(l:List Cask)(s:Sample)(ps:List Int):Bool:= !(badK l ps (kOf 0) s.r0||(badK l ps (kOf 1) s.r1||(badK l ps (kOf 2) s.r2||badK l ps (kOf 3) s.r3)))
end M
def tr74(l:List Cask)(s:Sample)(den:Int)(ps:List Int):T (List Ar):=
  T.need (Enc.Is eC l.length (Enc.F eC l)) (T.need (∀(c:Cask),c∈Enc.list eC l.length (Enc.F eC l)→ByteArray.size (Cask.nm c)≤1000000) (T.br (M.taskErr (Enc.list eC l.length (Enc.F eC l)) s != (0:Int)) (T.ret [Ar.c (D.int IntKind.i64 (M.taskErr (Enc.list eC l.length (Enc.F eC l)) s))]) (T.needs [Enc.Is eC l.length (Enc.F eC l),Enc.Is eI ps.length (Enc.F eI ps),List.length (Enc.list eI ps.length (Enc.F eI ps))≤1000000] (T.br (M.partErr (Enc.list eC l.length (Enc.F eC l)) den (Enc.list eI ps.length (Enc.F eI ps)) != (0:Int)) (T.ret [Ar.c (D.int IntKind.i64 (M.partErr (Enc.list eC l.length (Enc.F eC l)) den (Enc.list eI ps.length (Enc.F eI ps))))]) (T.need (Enc.Is eI ps.length (Enc.F eI ps)) (T.need (List.length (Enc.list eI ps.length (Enc.F eI ps))≤1000000) (T.br (M.isum (Enc.list eI ps.length (Enc.F eI ps)) != IntKind.i64.wrap (den*s.vol)) (T.ret [Ar.c (D.int IntKind.i64 (14:Int))]) (T.ret [Ar.c (D.int IntKind.i64 (0:Int))]))))))))
theorem t74(q_l:Bool)(l:List Cask)(sv l0 h0 l1 h1 l2 h2 l3 h3:Int)(den:Int)(q_ps:Bool)(ps:List Int):runFnX Try.prog G0 (lookS [v22,v107,v89]) (fun _=>[]) [] 1 20 3 74 Try.f74 [.c (.sl q_l l.length 7 (eC.F l)),.agg [dI sv,dI l0,dI h0,dI l1,dI h1,dI l2,dI h2,dI l3,dI h3],.agg [dI den,.sl q_ps ps.length 1 (eI.F ps)]] =
  tr74 l (⟨sv,⟨l0,h0⟩,⟨l1,h1⟩,⟨l2,h2⟩,⟨l3,h3⟩⟩:Sample) den ps:=by kernel_rfl
theorem w74(l:List Cask)(s:Sample)(den:Int)(ps:List Int)(hn:∀c,c∈l→c.nm.size≤1000000)(hp:ps.length≤1000):(tr74 l s den ps).wp (fun rs=>rsEqv rs [rI (M.openErr l s den ps)]):=by
 unfold tr74
 simp only[Enc.list_F]
 refine⟨Enc.is_F _ _ _,hn,wp_br (fun hb=>?_) (fun hb=>?_)⟩
 ·have:M.openErr l s den ps=M.taskErr l s:=by unfold M.openErr;rw[hb];rfl
  rw[this];exact rsEqv_refl _
 ·refine⟨Enc.is_F _ _ _,Enc.is_F _ _ _,by omega,wp_br (fun hc=>?_) (fun hc=>?_)⟩
  ·have:M.openErr l s den ps=M.partErr l den ps:=by unfold M.openErr;rw[hb,hc];rfl
   rw[this];exact rsEqv_refl _
  ·have e:M.openErr l s den ps=M.unl (M.isum ps==IntKind.i64.wrap (den*s.vol)) 14:=by unfold M.openErr;rw[hb,hc,isum_eq (part_len hc)];rfl
   refine⟨Enc.is_F _ _ _,by omega,wp_br (fun hd=>?_) (fun hd=>?_)⟩
   ·rw[bne,Bool.not_eq_true']at hd
    rw[e,hd];exact rsEqv_refl _
   ·rw[bne,Bool.not_eq_false']at hd
    rw[e,hd];exact rsEqv_refl _
def dom74:DomF
 |[.c (.sl _ n_l st_l F_l),.agg [.int .i64 sv,.int .i64 l0,.int .i64 h0,.int .i64 l1,.int .i64 h1,.int .i64 l2,.int .i64 h2,.int .i64 l3,.int .i64 h3],.agg [.int .i64 den,.sl _ n_ps st_ps F_ps]]=>(match Nat.beq st_l 7&&Nat.beq st_ps 1 with
  |true=>some ([eC.Is n_l F_l,eI.Is n_ps F_ps,∀c,c∈(eC.list n_l F_l)→c.nm.size≤1000000,(eI.list n_ps F_ps).length≤1000],[rI (M.openErr (eC.list n_l F_l) (⟨sv,⟨l0,h0⟩,⟨l1,h1⟩,⟨l2,h2⟩,⟨l3,h3⟩⟩:Sample) den (eI.list n_ps F_ps))])
  |_=>none)
 |_=>none
def v74:Nat×Sm:=(74,fokSm dom74)
theorem C74:FOK Try.prog G0 gw 74 dom74:=by
 intro ags p r hd hp κ w xs hw hl hG hx
 unfold dom74 at hd
 split at hd
 ·rename_i q_l n_l st_l F_l sv l0 h0 l1 h1 l2 h2 l3 h3 den q_ps n_ps st_ps F_ps
  split at hd
  ·rename_i hst
   simp only[Bool.and_eq_true]at hst
   obtain⟨g1,g2⟩:=hst
   have g1:=Nat.eq_of_beq_eq_true g1
   have g2:=Nat.eq_of_beq_eq_true g2
   subst g1 g2
   simp only[Option.some.injEq,Prod.mk.injEq]at hd
   obtain⟨rfl,rfl⟩:=hd
   obtain⟨hI_l,hI_ps,hp⟩:=hp
   have heq:agsEqv [.c (.sl q_l n_l 7 F_l),.agg [.int .i64 sv,.int .i64 l0,.int .i64 h0,.int .i64 l1,.int .i64 h1,.int .i64 l2,.int .i64 h2,.int .i64 l3,.int .i64 h3],.agg [.int .i64 den,.sl q_ps n_ps 1 F_ps]] [.c (.sl q_l (eC.list n_l F_l).length 7 (eC.F (eC.list n_l F_l))),.agg [.int .i64 sv,.int .i64 l0,.int .i64 h0,.int .i64 l1,.int .i64 h1,.int .i64 l2,.int .i64 h2,.int .i64 l3,.int .i64 h3],.agg [.int .i64 den,.sl q_ps (eI.list n_ps F_ps).length 1 (eI.F (eI.list n_ps F_ps))]]:=⟨eC.to id hI_l,Ag.eqv_refl _,⟨rfl,eI.to id hI_ps,trivial⟩,trivial⟩
   have len_l:(eC.list n_l F_l).length=n_l:=eC.list_len
   have len_ps:(eI.list n_ps F_ps).length=n_ps:=eI.list_len
   generalize eC.list n_l F_l=l at *
   generalize eI.list n_ps F_ps=ps at *
   subst len_l len_ps
   exact fokX_fin mixed gw_stable (sl:=[v22,v107,v89]) ⟨S22,S107,S89,trivial⟩ Try.func74 hw hl hG hx heq rfl (t74 q_l l sv l0 h0 l1 h1 l2 h2 l3 h3 den q_ps ps) (w74 l _ den ps hp.1 hp.2.1)
  ·cases hd
 ·cases hd
theorem S74:SumOK Try.prog G0 gw 74 (fokSm dom74):=fok_sum Try.func74 rfl C74
end Go.Bl
end
section
set_option maxRecDepth 100000
namespace Go.Bl
open Go.V Go.Proofs
namespace M
def farK(l:List Cask)(ps:List Int)(of:Cask→Int)(r:Rg)(a:Int):Int:=mx (mx a (IntKind.i64.wrap (0-valL l ps of r.lo))) (valL l ps of r.hi)
def farR(l:List Cask)(s:Sample)(ps:List Int):Int:=farK l ps (kOf 3) s.r3 (farK l ps (kOf 2) s.r2 (farK l ps (kOf 1) s.r1 (farK l ps (kOf 0) s.r0 0)))
def distR(l:List Cask)(s:Sample)(den:Int)(ps:List Int):Int×Int×Int:=cond (openErr l s den ps != 0) (0,0,openErr l s den ps) (told1 (away l ps s) (sumP (fun _=>1) l ps),told2 (away l ps s) (sumP (fun _=>1) l ps),0)
end M
def resT(x:Int×Int×Int):List Ar:=[.agg [dI x.1,dI x.2.1],rI x.2.2]
def tr28(l:List Cask)(s:Sample)(den:Int)(ps:List Int):T (List Ar):=
  T.needs [Enc.Is eC l.length (Enc.F eC l),Enc.Is eI ps.length (Enc.F eI ps),(∀(c:Cask),c∈Enc.list eC l.length (Enc.F eC l)→ByteArray.size (Cask.nm c)≤1000000),List.length (Enc.list eI ps.length (Enc.F eI ps))≤1000] (T.br (M.openErr (Enc.list eC l.length (Enc.F eC l)) s den (Enc.list eI ps.length (Enc.F eI ps)) != (0:Int)) (T.ret [Ar.agg [D.int IntKind.i64 (0:Int),D.int IntKind.i64 (0:Int)],Ar.c (D.int IntKind.i64 (M.openErr (Enc.list eC l.length (Enc.F eC l)) s den (Enc.list eI ps.length (Enc.F eI ps))))]) (T.needs [Enc.Is eC l.length (Enc.F eC l),Enc.Is eI ps.length (Enc.F eI ps),true=true,List.length (Enc.list eI ps.length (Enc.F eI ps))=List.length (Enc.list eC l.length (Enc.F eC l)),List.length (Enc.list eC l.length (Enc.F eC l))≤1000000,Enc.Is eC l.length (Enc.F eC l),Enc.Is eI ps.length (Enc.F eI ps),true=true,List.length (Enc.list eI ps.length (Enc.F eI ps))=List.length (Enc.list eC l.length (Enc.F eC l)),List.length (Enc.list eC l.length (Enc.F eC l))≤1000000,Enc.Is eC l.length (Enc.F eC l),Enc.Is eI ps.length (Enc.F eI ps),true=true,List.length (Enc.list eI ps.length (Enc.F eI ps))=List.length (Enc.list eC l.length (Enc.F eC l)),List.length (Enc.list eC l.length (Enc.F eC l))≤1000000,Enc.Is eC l.length (Enc.F eC l),Enc.Is eI ps.length (Enc.F eI ps),true=true,List.length (Enc.list eI ps.length (Enc.F eI ps))=List.length (Enc.list eC l.length (Enc.F eC l)),List.length (Enc.list eC l.length (Enc.F eC l))≤1000000,Enc.Is eC l.length (Enc.F eC l),Enc.Is eI ps.length (Enc.F eI ps),true=true,List.length (Enc.list eI ps.length (Enc.F eI ps))=List.length (Enc.list eC l.length (Enc.F eC l)),List.length (Enc.list eC l.length (Enc.F eC l))≤1000000,Enc.Is eC l.length (Enc.F eC l),Enc.Is eI ps.length (Enc.F eI ps),true=true,List.length (Enc.list eI ps.length (Enc.F eI ps))=List.length (Enc.list eC l.length (Enc.F eC l)),List.length (Enc.list eC l.length (Enc.F eC l))≤1000000,Enc.Is eC l.length (Enc.F eC l),Enc.Is eI ps.length (Enc.F eI ps),true=true,List.length (Enc.list eI ps.length (Enc.F eI ps))=List.length (Enc.list eC l.length (Enc.F eC l)),List.length (Enc.list eC l.length (Enc.F eC l))≤1000000,Enc.Is eC l.length (Enc.F eC l),Enc.Is eI ps.length (Enc.F eI ps),true=true,List.length (Enc.list eI ps.length (Enc.F eI ps))=List.length (Enc.list eC l.length (Enc.F eC l)),List.length (Enc.list eC l.length (Enc.F eC l))≤1000000,Enc.Is eI ps.length (Enc.F eI ps),List.length (Enc.list eI ps.length (Enc.F eI ps))≤1000000,M.isum (Enc.list eI ps.length (Enc.F eI ps))≠(0:Int),Int.natAbs (M.farR (Enc.list eC l.length (Enc.F eC l)) s (Enc.list eI ps.length (Enc.F eI ps)))<9223372036854775808,Int.natAbs (M.isum (Enc.list eI ps.length (Enc.F eI ps)))<9223372036854775808] (T.ret [Ar.agg [D.int IntKind.i64 (M.told1 (M.farR (Enc.list eC l.length (Enc.F eC l)) s (Enc.list eI ps.length (Enc.F eI ps))) (M.isum (Enc.list eI ps.length (Enc.F eI ps)))),D.int IntKind.i64 (M.told2 (M.farR (Enc.list eC l.length (Enc.F eC l)) s (Enc.list eI ps.length (Enc.F eI ps))) (M.isum (Enc.list eI ps.length (Enc.F eI ps))))],Ar.c (D.int IntKind.i64 (0:Int))])))
theorem t28(q_l:Bool)(l:List Cask)(sv l0 h0 l1 h1 l2 h2 l3 h3:Int)(den:Int)(q_ps:Bool)(ps:List Int):runFnX Try.prog G0 (lookS [v74,v88,v89,v78]) (fun _=>[(1000020,[],none),(3000010,[],none)]) [] 1 20 3 28 Try.f28 [.c (.sl q_l l.length 7 (eC.F l)),.agg [dI sv,dI l0,dI h0,dI l1,dI h1,dI l2,dI h2,dI l3,dI h3],.agg [dI den,.sl q_ps ps.length 1 (eI.F ps)]] =
  tr28 l (⟨sv,⟨l0,h0⟩,⟨l1,h1⟩,⟨l2,h2⟩,⟨l3,h3⟩⟩:Sample) den ps:=by kernel_rfl
structure OpenR(l:List Cask)(s:Sample)(den:Int)(ps:List Int):Prop where
 n4:l.length≤4
 right:∀i,i<l.length→RightC (l.getD i dfC)
 parts:RightP l den ps
 vol:M.sumP (fun _=>1) l ps≠0
 r0:(0≤s.r0.lo∧s.r0.lo≤1000)∧(0≤s.r0.hi∧s.r0.hi≤1000)
 r1:(0≤s.r1.lo∧s.r1.lo≤1000)∧(0≤s.r1.hi∧s.r1.hi≤1000)
 r2:(0≤s.r2.lo∧s.r2.lo≤1000)∧(0≤s.r2.hi∧s.r2.hi≤1000)
 r3:(0≤s.r3.lo∧s.r3.lo≤1000)∧(0≤s.r3.hi∧s.r3.hi≤1000)
theorem rg_right{r:Rg}(h:M.rgErr r=0):(0≤r.lo∧r.lo≤1000)∧(0≤r.hi∧r.hi≤1000):=by
 unfold M.rgErr at h
 have h1:=unl_zero (by decide) (first_nil _ h _ (List.mem_cons_self ..))
 rw[Bool.and_eq_true]at h1
 exact⟨within_spec h1.1,within_spec h1.2⟩
theorem open_right{l:List Cask}{s:Sample}{den:Int}{ps:List Int}(h:(M.openErr l s den ps != 0)=false):OpenR l s den ps:=by
 have h:M.openErr l s den ps=0:=by simpa using h
 unfold M.openErr at h
 obtain⟨h1,h⟩:=cond_zero h
 obtain⟨h2,h3⟩:=cond_zero h
 unfold M.taskErr at h1
 obtain⟨_,c4,cr⟩:=casks_right (first_nil _ h1 _ (List.mem_cons_self ..))
 have hs:=first_nil _ h1 _ (List.mem_cons_of_mem _ (List.mem_cons_self ..))
 have hp:=parts_right cr h2
 have h3:=unl_zero (by decide) h3
 have h3:M.sumP (fun _=>1) l ps=IntKind.i64.wrap (den*s.vol):=by simpa using h3
 unfold M.checkSample at hs
 cases hw:M.within s.vol 1 10000
 ·rw[hw]at hs
  have hs:(2:Int)=0:=hs
  exact absurd hs (by decide)
 rw[hw]at hs
 have hs:M.first [M.rgErr s.r0,M.rgErr s.r1,M.rgErr s.r2,M.rgErr s.r3]=0:=hs
 have hz:=first_nil _ hs
 have hv:=within_spec hw
 have hd:=hp.den
 have m0:1*1≤den*s.vol:=Int.mul_le_mul hd.1 hv.1 (by decide) (by omega)
 have m1:den*s.vol≤200000000000*10000:=Int.mul_le_mul hd.2 hv.2 (by omega) (by decide)
 rw[wrap_id (by omega) (by omega)]at h3
 exact⟨c4,cr,hp,by omega,rg_right (hz _ (by simp)),rg_right (hz _ (by simp)),rg_right (hz _ (by simp)),rg_right (hz _ (by simp))⟩
theorem mx_le{a b c:Int}:M.mx a b≤c↔a≤c∧b≤c:=by unfold M.mx;split <;>omega
theorem mx_b{a b:Int}{B:Nat}(h1:a.natAbs≤B)(h2:b.natAbs≤B):(M.mx a b).natAbs≤B:=by unfold M.mx;split <;>assumption
section
variable {l : List Cask} {s : Sample} {den : Int} {ps : List Int}
theorem far_away(h:OpenR l s den ps):M.farR l s ps=M.away l ps s∧(M.away l ps s).natAbs≤8000000000000000000∧M.meetsR l s ps= !decide (M.away l ps s>0):=by
 obtain⟨a1,a2,a3,a4,a5⟩:=kind_eq h.n4 h.parts (of:=M.kOf 0) (fun i hi=>(h.right i hi).k0) h.r0.1 h.r0.2
 obtain⟨b1,b2,b3,b4,b5⟩:=kind_eq h.n4 h.parts (of:=M.kOf 1) (fun i hi=>(h.right i hi).k1) h.r1.1 h.r1.2
 obtain⟨c1,c2,c3,c4,c5⟩:=kind_eq h.n4 h.parts (of:=M.kOf 2) (fun i hi=>(h.right i hi).k2) h.r2.1 h.r2.2
 obtain⟨d1,d2,d3,d4,d5⟩:=kind_eq h.n4 h.parts (of:=M.kOf 3) (fun i hi=>(h.right i hi).k3) h.r3.1 h.r3.2
 unfold M.farR M.farK M.away M.awayK M.meetsR M.badK
 rw[a1,a2,a3,b1,b2,b3,c1,c2,c3,d1,d2,d3]
 refine⟨rfl,?_,?_⟩
 ·repeat' apply mx_b
  all_goals omega
 ·generalize M.valL l ps (M.kOf 0) s.r0.lo=p0 at *
  generalize M.valL l ps (M.kOf 0) s.r0.hi=q0 at *
  generalize M.valL l ps (M.kOf 1) s.r1.lo=p1 at *
  generalize M.valL l ps (M.kOf 1) s.r1.hi=q1 at *
  generalize M.valL l ps (M.kOf 2) s.r2.lo=p2 at *
  generalize M.valL l ps (M.kOf 2) s.r2.hi=q2 at *
  generalize M.valL l ps (M.kOf 3) s.r3.lo=p3 at *
  generalize M.valL l ps (M.kOf 3) s.r3.hi=q3 at *
  rw[Bool.eq_iff_iff]
  simp only[Bool.not_eq_true',Bool.or_eq_false_iff,decide_eq_false_iff_not,gt_iff_lt,Int.not_lt,mx_le]
  constructor
  ·rintro ⟨⟨x1,x2⟩,⟨x3,x4⟩,⟨x5,x6⟩,x7,x8⟩
   refine⟨⟨⟨⟨⟨⟨⟨⟨?_,?_⟩,?_⟩,?_⟩,?_⟩,?_⟩,?_⟩,?_⟩,?_⟩ <;>omega
  ·rintro ⟨⟨⟨⟨⟨⟨⟨⟨x0,x1⟩,x2⟩,x3⟩,x4⟩,x5⟩,x6⟩,x7⟩,x8⟩
   refine⟨⟨?_,?_⟩,⟨?_,?_⟩,⟨?_,?_⟩,?_,?_⟩ <;>omega
end
end Go.Bl
end
section
set_option maxRecDepth 100000
namespace Go.Bl
open Go.V Go.Proofs
section
variable {l : List Cask} {s : Sample} {den : Int} {ps : List Int}
theorem distR_err(h:(M.openErr l s den ps != 0)=true):M.distR l s den ps=(0,0,M.openErr l s den ps):=by unfold M.distR;rw[h];rfl
theorem distR_ok(h:(M.openErr l s den ps != 0)=false):M.distR l s den ps=(M.told1 (M.away l ps s) (M.sumP (fun _=>1) l ps),M.told2 (M.away l ps s) (M.sumP (fun _=>1) l ps),0):=by unfold M.distR;rw[h];rfl
theorem vol_ok(h:OpenR l s den ps):i64ok (M.sumP (fun _=>1) l ps):=by
 have:=(vol_bound h.n4 h.parts).2
 unfold i64ok;omega
end
theorem w28(l:List Cask)(s:Sample)(den:Int)(ps:List Int)(hn:∀c,c∈l→c.nm.size≤1000000)(hp:ps.length≤1000):(tr28 l s den ps).wp (fun rs=>rsEqv rs (resT (M.distR l s den ps))):=by
 unfold tr28
 simp only[Enc.list_F]
 refine⟨Enc.is_F _ _ _,Enc.is_F _ _ _,hn,hp,wp_br (fun hb=>?_) (fun hb=>?_)⟩
 ·rw[distR_err hb];exact rsEqv_refl _
 ·have ho:=open_right hb
  have hl:=ho.parts.len
  have hq:l.length≤1000000:=by omega
  have ha:i64ok (M.away l ps s):=by have:=(far_away ho).2.1;unfold i64ok;omega
  rw[distR_ok hb,(far_away ho).1,isum_eq hl]
  iterate 8 refine⟨Enc.is_F _ _ _,Enc.is_F _ _ _,trivial,hl,hq,?_⟩
  exact⟨Enc.is_F _ _ _,by omega,ho.vol,ha,vol_ok ho,rsEqv_refl _⟩
def dom28:DomF
 |[.c (.sl _ n_l st_l F_l),.agg [.int .i64 sv,.int .i64 l0,.int .i64 h0,.int .i64 l1,.int .i64 h1,.int .i64 l2,.int .i64 h2,.int .i64 l3,.int .i64 h3],.agg [.int .i64 den,.sl _ n_ps st_ps F_ps]]=>(match Nat.beq st_l 7&&Nat.beq st_ps 1 with
  |true=>some ([eC.Is n_l F_l,eI.Is n_ps F_ps,∀c,c∈(eC.list n_l F_l)→c.nm.size≤1000000,(eI.list n_ps F_ps).length≤1000],resT (M.distR (eC.list n_l F_l) (⟨sv,⟨l0,h0⟩,⟨l1,h1⟩,⟨l2,h2⟩,⟨l3,h3⟩⟩:Sample) den (eI.list n_ps F_ps)))
  |_=>none)
 |_=>none
def v28:Nat×Sm:=(28,fokSm dom28)
theorem C28:FOK Try.prog G0 gw 28 dom28:=by
 intro ags p r hd hp κ w xs hw hl hG hx
 unfold dom28 at hd
 split at hd
 ·rename_i q_l n_l st_l F_l sv l0 h0 l1 h1 l2 h2 l3 h3 den q_ps n_ps st_ps F_ps
  split at hd
  ·rename_i hst
   simp only[Bool.and_eq_true]at hst
   obtain⟨g1,g2⟩:=hst
   have g1:=Nat.eq_of_beq_eq_true g1
   have g2:=Nat.eq_of_beq_eq_true g2
   subst g1 g2
   simp only[Option.some.injEq,Prod.mk.injEq]at hd
   obtain⟨rfl,rfl⟩:=hd
   obtain⟨hI_l,hI_ps,hp⟩:=hp
   have heq:agsEqv [.c (.sl q_l n_l 7 F_l),.agg [.int .i64 sv,.int .i64 l0,.int .i64 h0,.int .i64 l1,.int .i64 h1,.int .i64 l2,.int .i64 h2,.int .i64 l3,.int .i64 h3],.agg [.int .i64 den,.sl q_ps n_ps 1 F_ps]] [.c (.sl q_l (eC.list n_l F_l).length 7 (eC.F (eC.list n_l F_l))),.agg [.int .i64 sv,.int .i64 l0,.int .i64 h0,.int .i64 l1,.int .i64 h1,.int .i64 l2,.int .i64 h2,.int .i64 l3,.int .i64 h3],.agg [.int .i64 den,.sl q_ps (eI.list n_ps F_ps).length 1 (eI.F (eI.list n_ps F_ps))]]:=⟨eC.to id hI_l,Ag.eqv_refl _,⟨rfl,eI.to id hI_ps,trivial⟩,trivial⟩
   have len_l:(eC.list n_l F_l).length=n_l:=eC.list_len
   have len_ps:(eI.list n_ps F_ps).length=n_ps:=eI.list_len
   generalize eC.list n_l F_l=l at *
   generalize eI.list n_ps F_ps=ps at *
   subst len_l len_ps
   exact fokX_fin mixed gw_stable (sl:=[v74,v88,v89,v78]) ⟨S74,S88,S89,S78,trivial⟩ Try.func28 hw hl hG hx heq rfl (t28 q_l l sv l0 h0 l1 h1 l2 h2 l3 h3 den q_ps ps) (w28 l _ den ps hp.1 hp.2.1)
  ·cases hd
 ·cases hd
theorem S28:SumOK Try.prog G0 gw 28 (fokSm dom28):=fok_sum Try.func28 rfl C28
end Go.Bl
end
section
namespace Go.Lp
def smI{α:Type}(g:α→Int):List α→Int
 |[]=>0
 |a::l=>g a+smI g l
section
variable {α β γ : Type}
theorem smI_cast{g:α→Int}:∀{l:List α},((smI g l:Int):Rat)=sm (fun a=>(g a:Rat)) l:=by
 intro l
 induction l with
 |nil=>rfl
 |cons a l ih=>simp only[smI,sm];rw[Rat.intCast_add,ih]
theorem smI_congr{g h:α→Int}:∀{l:List α},(∀a,a∈l→g a=h a)→smI g l=smI h l:=by
 intro l
 induction l with
 |nil=>intro _;rfl
 |cons a l ih=>intro e;simp only[smI];rw[e a (List.mem_cons_self ..),ih fun b hb=>e b (List.mem_cons_of_mem _ hb)]
theorem smI_append{g:α→Int}:∀{l k:List α},smI g (l++k)=smI g l+smI g k:=by
 intro l
 induction l with
 |nil=>intro k;simp only[List.nil_append,smI];omega
 |cons a l ih=>intro k;simp only[List.cons_append,smI];rw[ih];omega
theorem smI_add{g h:α→Int}:∀{l:List α},smI (fun a=>g a+h a) l=smI g l+smI h l:=by
 intro l
 induction l with
 |nil=>simp only[smI];omega
 |cons a l ih=>simp only[smI];rw[ih];omega
theorem smI_neg{g:α→Int}:∀{l:List α},smI (fun a=> - g a) l= - smI g l:=by
 intro l
 induction l with
 |nil=>simp only[smI];omega
 |cons a l ih=>simp only[smI];rw[ih];omega
theorem smI_smul{k:Int}{g:α→Int}:∀{l:List α},smI (fun a=>k*g a) l=k*smI g l:=by
 intro l
 induction l with
 |nil=>simp only[smI];omega
 |cons a l ih=>simp only[smI];rw[ih,Int.mul_add]
theorem smI_zero:∀{l:List α},smI (fun _=>(0:Int)) l=0:=by
 intro l
 induction l with
 |nil=>rfl
 |cons a l ih=>simp only[smI];rw[ih];omega
theorem smI_comm{F:α→β→Int}:∀{l:List α} {k:List β},smI (fun a=>smI (F a) k) l=smI (fun b=>smI (fun a=>F a b) l) k:=by
 intro l
 induction l with
 |nil=>intro k;simp only[smI];rw[smI_zero]
 |cons a l ih=>intro k;simp only[smI];rw[ih,smI_add]
theorem smI_le{g h:α→Int}:∀{l:List α},(∀a,a∈l→g a≤h a)→smI g l≤smI h l:=by
 intro l
 induction l with
 |nil=>intro _;exact Int.le_refl _
 |cons a l ih=>
  intro e
  have h1:=e a (List.mem_cons_self ..)
  have h2:=ih fun b hb=>e b (List.mem_cons_of_mem _ hb)
  simp only[smI]
  omega
theorem smI_map{g:β→Int}{h:α→β}:∀{l:List α},smI g (l.map h)=smI (fun a=>g (h a)) l:=by
 intro l
 induction l with
 |nil=>rfl
 |cons a l ih=>simp only[List.map_cons,smI];rw[ih]
theorem sm_map{g:β→Rat}{h:α→β}:∀{l:List α},sm g (l.map h)=sm (fun a=>g (h a)) l:=by
 intro l
 induction l with
 |nil=>rfl
 |cons a l ih=>simp only[List.map_cons,sm];rw[ih]
theorem cramer_col[DecidableEq β]{f:α→β→Rat}{M:List α}{cols:List β}(hl:M.length=cols.length)(hnd:cols.Nodup){x:β→Rat}{r:α→Rat}
  (h:∀a,a∈M→sm (fun c=>f a c*x c) cols=r a) {k:β} (hk:k∈cols):D (fun a c=>if c=k then r a else f a c) M cols=x k*D f M cols:=by
 rw[D_turn hl,D_turn (f:=f) hl]
 obtain⟨P,Q,rfl⟩:=List.append_of_mem hk
 have hn:=hnd
 rw[List.nodup_append]at hn
 obtain⟨_,hq,hpq⟩:=hn
 have hkQ:=(List.nodup_cons.1 hq).1
 have hkP:k∉P:=fun hp=>hpq k hp k (List.mem_cons_self ..) rfl
 obtain⟨g,hg⟩:∃g:Option β→α→Rat,g=fun o a=>match o with|some b=>f a b|none=>r a:=⟨_,rfl⟩
 have key:=Df_repl (f:=g) (cols:=M) (P:=P.map some) (Q:=Q.map some) (j:=some k) (v:=none) (y:=fun o=>match o with|some b=>x b|none=>0) (fun a ha=>by
  have e:P.map some++some k::Q.map some=(P++k::Q).map some:=by simp
  rw[e,sm_map]
  subst hg
  show r a=_
  rw[←h a ha]
  exact sm_congr fun c _=>by show f a c*x c=x c*f a c;grind)
 rw[D_map,List.map_append,List.map_cons]
 rw[D_map (rows:=P++k::Q),List.map_append,List.map_cons]
 rw[D_map,List.map_append,List.map_cons]at key
 rw[D_map (rows:=P.map some++some k::Q.map some),List.map_append,List.map_cons]at key
 simp only[List.map_map]at key
 subst hg
 rw[List.map_congr_left (l:=P) (g:=fun b a=>f a b) (fun b hb=>by
  funext a
  have:b≠k:=fun e=>hkP (by rw[←e];exact hb)
  rw[if_neg this])]
 rw[List.map_congr_left (l:=Q) (g:=fun b a=>f a b) (fun b hb=>by
  funext a
  have:b≠k:=fun e=>hkQ (by rw[←e];exact hb)
  rw[if_neg this])]
 simp only[if_true]
 exact key
theorem cramer_colI[DecidableEq β]{f:α→β→Int}{M:List α}{cols:List β}(hl:M.length=cols.length)(hnd:cols.Nodup){x:β→Rat}{r:α→Int}
  (h:∀a,a∈M→sm (fun c=>(f a c:Rat)*x c) cols=(r a:Rat)) {k:β} (hk:k∈cols):((DI (fun a c=>if c=k then r a else f a c) M cols:Int):Rat)=x k*((DI f M cols:Int):Rat):=by
 rw[D_cast,D_cast]
 have:=cramer_col (f:=fun a c=>(f a c:Rat)) hl hnd (r:=fun a=>(r a:Rat)) h hk
 rw[←this]
 congr 1
 funext a c
 split <;>rfl
def altS(g:β→List β→Nat):List β→Nat
 |[]=>0
 |c::cs=>g c cs+altS (fun d ds=>g d (c::ds)) cs
theorem altI_le:∀{l:List β} {f:β→List β→Int} {g:β→List β→Nat},(∀c cs,(c::cs).Perm l→(f c cs).natAbs≤g c cs)→(altI f l).natAbs≤altS g l:=by
 intro l
 induction l with
 |nil=>intro f g _;simp[altI]
 |cons c cs ih=>
  intro f g h
  simp only[altI,altS]
  have h1:=h c cs (List.Perm.refl _)
  have h2:=ih (f:=fun d ds=>f d (c::ds)) (g:=fun d ds=>g d (c::ds)) (fun d ds hd=>h d (c::ds) ((List.Perm.swap c d ds).trans (hd.cons c)))
  omega
def bnd(K0 K:β→Nat)(cols:List β):Nat:=altS (fun c cs=>K0 c*(fact cs.length*pK K cs)) cols
theorem DI_bnd{f:α→β→Int}{K0 K:β→Nat}{r:α}{rs:List α}{cols:List β}(h:(r::rs).length=cols.length)(h0:∀c,c∈cols→(f r c).natAbs≤K0 c)
  (hb:∀q,q∈rs→∀c,c∈cols→(f q c).natAbs≤K c):(DI f (r::rs) cols).natAbs≤bnd K0 K cols:=by
 simp only[DI]
 refine altI_le fun c cs hp=>?_
 have hlen:=hp.length_eq
 simp only[List.length_cons]at hlen h
 rw[Int.natAbs_mul]
 exact Nat.mul_le_mul (h0 c (hp.subset (List.mem_cons_self ..))) (DI_bound (by omega) fun q hq d hd=>hb q hq d (hp.subset (List.mem_cons_of_mem _ hd)))
end
end Go.Lp
end
section
set_option maxRecDepth 100000
namespace Go.Bl
open Go.V Go.Proofs Go.Lp
theorem DI_idx{n:Nat}{m:List (List Int)}(hl:m.length=n):DI en m (List.range n)=DI (fun i c=>en (m.getD i []) c) (List.range n) (List.range n):=by
 conv=>lhs;rw[←range_getD (l:=m) (d:=[]),hl,DI_map]
theorem en_set{r:List Int}{k c:Nat}{v:Int}(hk:k<r.length):en (r.set k v) c=if c=k then v else en r c:=by
 unfold en
 rw[List.getD_eq_getElem?_getD,List.getElem?_set]
 by_cases h:k=c
 ·subst h;simp[hk]
 ·rw[if_neg h,if_neg (fun e=>h e.symm),←List.getD_eq_getElem?_getD]
theorem getD_mem{α:Type}{l:List α}{d:α}{i:Nat}(h:i<l.length):l.getD i d∈l:=by
 rw[List.getD_eq_getElem?_getD,List.getElem?_eq_getElem h];exact List.getElem_mem h
theorem map_getD{α:Type}{f:Nat→α}{n i:Nat}{d:α}(h:i<n):((List.range n).map f).getD i d=f i:=by
 rw[List.getD_eq_getElem?_getD,List.getElem?_map,List.getElem?_range h];rfl
theorem setCol_DI{n k:Nat}{m:List (List Int)}{r:List Int}(hl:m.length=n)(hrow:∀x,x∈m→x.length=n)(hk:k<n) :
  DI en (M.setCol m k r) (List.range n)=DI (fun i c=>if c=k then r.getD i 0 else en (m.getD i []) c) (List.range n) (List.range n):=by
 unfold M.setCol
 rw[hl,DI_map]
 refine DI_congr fun i hi c hc=>?_
 have hi:=List.mem_range.1 hi
 exact en_set (by rw[hrow _ (getD_mem (by omega))];exact hk)
theorem setCol_len{m:List (List Int)}{k:Nat}{r:List Int}:(M.setCol m k r).length=m.length:=by simp[M.setCol]
theorem small_fact:∀n,n≤5→∀k,k<5→fact n*pK (fun c=>if c=k then 10000 else 1000) (List.range n)<9223372036854775808:=by decide +kernel
theorem small_fact0:∀n,n≤5→fact n*pK (fun _=>1000) (List.range n)<9223372036854775808:=by decide +kernel
structure Sq(n:Nat)(m:List (List Int)):Prop where
 n5:n≤5
 len:m.length=n
 row:∀r,r∈m→r.length=n
 ent:∀r,r∈m→∀c,(en r c).natAbs≤1000
theorem Sq.turned{n:Nat}{m:List (List Int)}(h:Sq n m):Sq n (M.turned m):=by
 refine⟨h.n5,turned_len.1.trans h.len,fun r hr=>(turned_len.2 r hr).trans h.len,fun r hr c=>getD_small (fun x hx=>?_) c⟩
 unfold M.turned at hr
 obtain⟨k,_,rfl⟩:=List.mem_map.1 hr
 obtain⟨i,hi,rfl⟩:=List.mem_map.1 hx
 exact h.ent _ (getD_mem (List.mem_range.1 hi)) k
theorem Sq.det{n:Nat}{m:List (List Int)}(h:Sq n m):M.det m=DI en m (List.range n):=det_small h.n5 h.len h.row h.ent
theorem Sq.det_b{n:Nat}{m:List (List Int)}(h:Sq n m):(DI en m (List.range n)).natAbs<9223372036854775808:=by
 refine Nat.lt_of_le_of_lt (DI_bound (K:=fun _=>1000) (by simp[h.len]) fun r hr c _=>h.ent r hr c) ?_
 rw[List.length_range];exact small_fact0 n h.n5
theorem Sq.set{n k:Nat}{m:List (List Int)}{r:List Int}(h:Sq n m)(hr:∀i,(r.getD i 0).natAbs≤10000)(hk:k<n) :
  M.det (M.setCol m k r)=DI en (M.setCol m k r) (List.range n)∧(DI en (M.setCol m k r) (List.range n)).natAbs<9223372036854775808:=by
 have hK:=small_fact n h.n5 k (by have:=h.n5;omega)
 have hrow:∀x,x∈M.setCol m k r→x.length=n:=by
  intro x hx
  unfold M.setCol at hx
  obtain⟨i,hi,rfl⟩:=List.mem_map.1 hx
  rw[List.length_set]
  exact h.row _ (getD_mem (List.mem_range.1 hi))
 have hent:∀x,x∈M.setCol m k r→∀c,(en x c).natAbs≤(if c=k then 10000 else 1000):=by
  intro x hx c
  unfold M.setCol at hx
  obtain⟨i,hi,rfl⟩:=List.mem_map.1 hx
  have hm:=getD_mem (d:=([]:List Int)) (List.mem_range.1 hi)
  rw[en_set (by rw[h.row _ hm];exact hk)]
  split
  ·exact hr i
  ·exact h.ent _ hm c
 constructor
 ·exact det_eq (K:=fun c=>if c=k then 10000 else 1000) h.n5 (fun c=>by split <;>decide) (by rw[setCol_len];exact h.len) hrow (fun x hx c _=>hent x hx c) hK
 ·refine Nat.lt_of_le_of_lt (DI_bound (K:=fun c=>if c=k then 10000 else 1000) (by simp[setCol_len,h.len]) fun x hx c _=>hent x hx c) ?_
  rw[List.length_range];exact hK
theorem neg_ok{x:Int}(h:x.natAbs<9223372036854775808):M.neg x= - x:=by
 unfold M.neg
 rw[wrap_id (by omega) (by omega)];omega
theorem solve_exact{n:Nat}{m:List (List Int)}{r:List Int}(h:Sq n m)(hr:∀i,(r.getD i 0).natAbs≤10000)(hd:DI en m (List.range n)≠0) :
  M.den m r=((DI en m (List.range n)).natAbs:Int)∧(M.sol m r).length=n∧∀k,k<n→(M.sol m r).getD k 0=if DI en m (List.range n)<0 then-DI en (M.setCol m k r) (List.range n)else DI en (M.setCol m k r) (List.range n):=by
 have hdet:=h.det
 have hb:=h.det_b
 have hne:(M.det m==0)=false:=by rw[hdet];simpa using hd
 have hsol:M.solve m r=((List.range m.length).map fun k=>cond (decide (M.det m<0)) (M.neg (M.det (M.setCol m k r))) (M.det (M.setCol m k r)),if M.neg (M.det m)>M.det m then M.neg (M.det m)else M.det m):=by
  unfold M.solve;rw[hne];rfl
 refine⟨?_,?_,fun k hk=>?_⟩
 ·unfold M.den
  rw[hsol]
  show(if M.neg (M.det m)>M.det m then M.neg (M.det m)else M.det m)=_
  rw[hdet,neg_ok hb]
  split <;>omega
 ·unfold M.sol;rw[hsol];simp[h.len]
 ·unfold M.sol
  rw[hsol]
  obtain⟨e1,e2⟩:=h.set hr hk
  show((List.range m.length).map _).getD k 0=_
  rw[map_getD (by rw[h.len];exact hk),hdet,e1,neg_ok e2]
  by_cases hs:DI en m (List.range n)<0
  ·rw[if_pos hs,decide_eq_true hs];rfl
  ·rw[if_neg hs,decide_eq_false hs];rfl
theorem solve_den{n:Nat}{m:List (List Int)}{r:List Int}(h:Sq n m)(hd:DI en m (List.range n)=0):M.den m r=0:=by
 unfold M.den M.solve
 rw[h.det,hd];rfl
theorem sol_spec{n:Nat}{m:List (List Int)}{r:List Int}(h:Sq n m)(hr:∀i,(r.getD i 0).natAbs≤10000)(hd:DI en m (List.range n)≠0){x:Nat→Rat}
  (hx:∀i,i<n→sm (fun c=>((en (m.getD i []) c:Int):Rat)*x c) (List.range n)=((r.getD i 0:Int):Rat)):∀k,k<n→(((M.sol m r).getD k 0:Int):Rat)=x k*((M.den m r:Int):Rat):=by
 intro k hk
 obtain⟨e1,_,e3⟩:=solve_exact h hr hd
 rw[e1,e3 k hk,setCol_DI h.len h.row hk]
 have key:=cramer_colI (f:=fun i c=>en (m.getD i []) c) (M:=List.range n) (cols:=List.range n) rfl List.nodup_range (r:=fun i=>r.getD i 0) (x:=x) (fun i hi=>hx i (List.mem_range.1 hi)) (List.mem_range.2 hk)
 rw[←DI_idx h.len]at key
 by_cases hs:DI en m (List.range n)<0
 ·rw[if_pos hs,Rat.intCast_neg,key,show((DI en m (List.range n)).natAbs:Int)= - DI en m (List.range n) by omega,Rat.intCast_neg]
  grind
 ·rw[if_neg hs,key,show((DI en m (List.range n)).natAbs:Int)=DI en m (List.range n) by omega]
theorem sol_ex{n:Nat}{m:List (List Int)}(r:List Int)(hl:m.length=n)(hd:DI en m (List.range n)≠0):∃x:Nat→Rat,∀i,i<n→sm (fun c=>((en (m.getD i []) c:Int):Rat)*x c) (List.range n)=((r.getD i 0:Int):Rat):=by
 rw[DI_idx hl]at hd
 obtain⟨x,hx⟩:=corner_ex (f:=fun i c=>((en (m.getD i []) c:Int):Rat)) (M:=List.range n) (cols:=List.range n) rfl (D_ne.2 hd) (fun i=>((r.getD i 0:Int):Rat))
 exact⟨x,fun i hi=>hx i (List.mem_range.2 hi)⟩
theorem den_pos{n:Nat}{m:List (List Int)}{r:List Int}(h:Sq n m)(hr:∀i,(r.getD i 0).natAbs≤10000)(hd:DI en m (List.range n)≠0):0<M.den m r:=by
 rw[(solve_exact h hr hd).1];omega
def dl(n:Nat)(a b:List Int):Int:=smI (fun c=>en a c*en b c) (List.range n)
theorem sol_rows{n:Nat}{m:List (List Int)}{r:List Int}(h:Sq n m)(hr:∀i,(r.getD i 0).natAbs≤10000)(hd:DI en m (List.range n)≠0):∀i,i<n→dl n (m.getD i []) (M.sol m r)=r.getD i 0*M.den m r:=by
 intro i hi
 obtain⟨x,hx⟩:=sol_ex r h.len hd
 have hs:=sol_spec h hr hd hx
 apply Rat.intCast_inj.1
 unfold dl
 rw[smI_cast,sm_congr (h:=fun c=>((M.den m r:Int):Rat)*(((en (m.getD i []) c:Int):Rat)*x c)) (fun c hc=>by
  have:=hs c (List.mem_range.1 hc)
  unfold en at this ⊢
  rw[Rat.intCast_mul,this];grind),sm_smul,hx i hi,Rat.intCast_mul]
 grind
theorem dl_cons(n:Nat)(a b:Int)(p q:List Int):dl (n+1) (a::p) (b::q)=a*b+dl n p q:=by
 unfold dl
 rw[List.range_succ_eq_map]
 simp only[smI]
 rw[smI_map]
 rfl
theorem dot_exact:∀(p q:List Int) (acc:Int) (B:Nat),p.length=q.length→(∀k,k<p.length→(en p k*en q k).natAbs≤B)→acc.natAbs+p.length*B<9223372036854775808→M.dot p q acc=acc+dl p.length p q:=by
 intro p
 induction p with
 |nil=>intro q acc B _ _ _;cases q <;>simp[M.dot,dl,smI]
 |cons a p ih=>
  intro q acc B hl hb hs
  cases q with
  |nil=>simp at hl
  |cons b q=>
   have h0:(a*b).natAbs≤B:=hb 0 (by simp)
   have hl':p.length=q.length:=by simpa using hl
   have hs':acc.natAbs+(p.length*B+B)<9223372036854775808:=by rw[List.length_cons,Nat.succ_mul]at hs;exact hs
   have hw:IntKind.i64.wrap (acc+IntKind.i64.wrap (a*b))=acc+a*b:=by
    rw[wrap_add_wrap]
    exact wrap_id (by omega) (by omega)
   show M.dot p q (IntKind.i64.wrap (acc+IntKind.i64.wrap (a*b)))=_
   rw[hw,ih q (acc+a*b) B hl' (fun k hk=>hb (k+1) (by simp;omega)) (by omega),List.length_cons,dl_cons]
   omega
theorem keeps_iff{cs:List Cond}{pt:List Int}{den:Int}(h:∀c,c∈cs→M.dot c.coefs pt 0=dl pt.length c.coefs pt∧IntKind.i64.wrap (c.limit*den)=c.limit*den):M.keeps cs pt den=true↔∀c,c∈cs→dl pt.length c.coefs pt≤c.limit*den:=by
 induction cs with
 |nil=>simp[M.keeps]
 |cons c l ih=>
  obtain⟨h1,h2⟩:=h c (List.mem_cons_self ..)
  have ih:=ih fun d hd=>h d (List.mem_cons_of_mem _ hd)
  unfold M.keeps
  rw[h1,h2]
  by_cases hc:dl pt.length c.coefs pt>c.limit*den
  ·rw[decide_eq_true hc]
   constructor
   ·intro e;cases e
   ·intro e;exact absurd (e c (List.mem_cons_self ..)) (by omega)
  ·rw[decide_eq_false hc]
   show M.keeps l pt den=true↔_
   rw[ih]
   constructor
   ·intro e d hd
    rcases List.mem_cons.1 hd with rfl|hd
    ·omega
    ·exact e d hd
   ·intro e d hd;exact e d (List.mem_cons_of_mem _ hd)
theorem nonpos_iff(l:List Int):M.nonpos l=true↔∀x,x∈l→x≤0:=by
 induction l with
 |nil=>simp[M.nonpos]
 |cons n l ih=>
  unfold M.nonpos
  by_cases hn:n≤0
  ·rw[decide_eq_true hn]
   show M.nonpos l=true↔_
   rw[ih]
   constructor
   ·intro e x hx
    rcases List.mem_cons.1 hx with rfl|hx
    ·exact hn
    ·exact e x hx
   ·intro e x hx;exact e x (List.mem_cons_of_mem _ hx)
  ·rw[decide_eq_false hn]
   constructor
   ·intro e;cases e
   ·intro e;exact absurd (e n (List.mem_cons_self ..)) hn
theorem pick_some{α:Type}{f:List Cond→Option α}{y:α}:∀{l:List Cond} {k:Nat} {set:List Cond},M.pick f k l set=some y→∃t,t.Sublist l∧t.length=k∧f (set++t)=some y:=by
 intro l
 induction l with
 |nil=>
  intro k set h
  cases k with
  |zero=>exact⟨[],List.Sublist.refl _,rfl,by rw[List.append_nil];exact h⟩
  |succ k=>cases h
 |cons c l ih=>
  intro k set h
  cases k with
  |zero=>exact⟨[],List.nil_sublist _,rfl,by rw[List.append_nil];exact h⟩
  |succ k=>
   have h:M.ore (M.pick f k l (set++ [c])) (M.pick f (k+1) l set)=some y:=h
   cases hp:M.pick f k l (set++ [c])with
   |some z=>
    rw[hp]at h
    have h:some z=some y:=h
    rw[←hp]at h
    obtain⟨t,h1,h2,h3⟩:=ih h
    exact⟨c::t,h1.cons_cons c,by simp[h2],by simpa using h3⟩
   |none=>
    rw[hp]at h
    have h:M.pick f (k+1) l set=some y:=h
    obtain⟨t,h1,h2,h3⟩:=ih h
    exact⟨t,h1.cons c,h2,h3⟩
theorem pick_none{α:Type}{f:List Cond→Option α}:∀{l:List Cond} {k:Nat} {set:List Cond},M.pick f k l set=none→∀t,t.Sublist l→t.length=k→f (set++t)=none:=by
 intro l
 induction l with
 |nil=>
  intro k set h t ht hk
  have:t=[]:=List.eq_nil_of_sublist_nil ht
  subst this
  cases k with
  |zero=>rw[List.append_nil];exact h
  |succ k=>cases hk
 |cons c l ih=>
  intro k set h t ht hk
  cases k with
  |zero=>
   have:t=[]:=List.length_eq_zero_iff.1 hk
   subst this
   rw[List.append_nil];exact h
  |succ k=>
   have h:M.ore (M.pick f k l (set++ [c])) (M.pick f (k+1) l set)=none:=h
   cases hp:M.pick f k l (set++ [c])with
   |some z=>rw[hp]at h;cases h
   |none=>
    rw[hp]at h
    have h:M.pick f (k+1) l set=none:=h
    cases ht with
    |cons _ ht=>exact ih h t ht hk
    |cons_cons _ ht=>
     rename_i t'
     have:=ih hp t' ht (by simpa using hk)
     simpa using this
end Go.Bl
end
section
set_option maxRecDepth 100000
namespace Go.Bl
open Go.V Go.Proofs Go.Lp
def dK:Cond:=⟨0,0,[],0⟩
theorem mat0(sh:List Int)(set:List Cond):(M.mat sh set).getD 0 []=sh:=rfl
theorem matS(sh:List Int)(set:List Cond)(q:Nat):(M.mat sh set).getD (q+1) []=(set.getD q dK).coefs:=by
 show(set.map Cond.coefs).getD q []=_
 rw[List.getD_eq_getElem?_getD,List.getD_eq_getElem?_getD,List.getElem?_map]
 cases set[q]? <;>rfl
theorem right0(sum:Int)(set:List Cond):(M.right sum set).getD 0 0=sum:=rfl
theorem rightS(sum:Int)(set:List Cond)(q:Nat):(M.right sum set).getD (q+1) 0=(set.getD q dK).limit:=by
 show(set.map Cond.limit).getD q 0=_
 rw[List.getD_eq_getElem?_getD,List.getD_eq_getElem?_getD,List.getElem?_map]
 cases set[q]? <;>rfl
structure Small(n:Nat)(sh wo:List Int)(sum:Int)(cs:List Cond):Prop where
 n1:1≤n
 n5:n≤5
 sl:sh.length=n
 wl:wo.length=n
 she:∀x,x∈sh→x.natAbs≤1000
 woe:∀x,x∈wo→x.natAbs≤1000
 sume:sum.natAbs≤10000
 cl:∀c,c∈cs→c.coefs.length=n
 ce:∀c,c∈cs→∀x,x∈c.coefs→x.natAbs≤1000
 le:∀c,c∈cs→c.limit.natAbs≤10000
 keep:∀set:List Cond,set.length+1=n→(∀c,c∈set→c∈cs)→DI en (M.mat sh set) (List.range n)≠0→∀c,c∈cs →
  M.dot c.coefs (M.sol (M.mat sh set) (M.right sum set)) 0=dl n c.coefs (M.sol (M.mat sh set) (M.right sum set))∧IntKind.i64.wrap (c.limit*M.den (M.mat sh set) (M.right sum set))=c.limit*M.den (M.mat sh set) (M.right sum set)
theorem sq_mat{n:Nat}{sh:List Int}{cs set:List Cond}(n5:n≤5)(sl:sh.length=n)(she:∀x,x∈sh→x.natAbs≤1000)(cl:∀c,c∈cs→c.coefs.length=n)(ce:∀c,c∈cs→∀x,x∈c.coefs→x.natAbs≤1000)
  (hs:set.length+1=n) (hm:∀c,c∈set→c∈cs):Sq n (M.mat sh set):=by
 refine⟨n5,by simp[M.mat];omega,fun r hr=>?_,fun r hr c=>?_⟩
 ·rcases List.mem_cons.1 hr with rfl|hr
  ·exact sl
  ·obtain⟨c,hcm,rfl⟩:=List.mem_map.1 hr
   exact cl c (hm c hcm)
 ·rcases List.mem_cons.1 hr with rfl|hr
  ·exact getD_small she c
  ·obtain⟨d,hcm,rfl⟩:=List.mem_map.1 hr
   exact getD_small (ce d (hm d hcm)) c
theorem right_small{sum:Int}{cs set:List Cond}(sume:sum.natAbs≤10000)(le:∀c,c∈cs→c.limit.natAbs≤10000)(hm:∀c,c∈set→c∈cs)(i:Nat):((M.right sum set).getD i 0).natAbs≤10000:=by
 refine getD_small (l:=M.right sum set) (fun x hx=>?_) i
 rcases List.mem_cons.1 hx with rfl|hx
 ·exact sume
 ·obtain⟨c,hcm,rfl⟩:=List.mem_map.1 hx
  exact le c (hm c hcm)
section
variable {n : Nat} {sh wo : List Int} {sum : Int} {cs : List Cond}
theorem Small.sq(h:Small n sh wo sum cs){set:List Cond}(hs:set.length+1=n)(hm:∀c,c∈set→c∈cs):Sq n (M.mat sh set):=sq_mat h.n5 h.sl h.she h.cl h.ce hs hm
theorem Small.rs(h:Small n sh wo sum cs){set:List Cond}(hm:∀c,c∈set→c∈cs)(i:Nat):((M.right sum set).getD i 0).natAbs≤10000:=right_small h.sume h.le hm i
theorem Small.ws(h:Small n sh wo sum cs)(i:Nat):(wo.getD i 0).natAbs≤10000:=getD_small (l:=wo) (fun x hx=>Nat.le_trans (h.woe x hx) (by decide)) i
theorem turned_ne{m:List (List Int)}(hm:Sq n m)(hd:DI en m (List.range n)≠0):DI en (M.turned m) (List.range n)≠0:=by rw[turned_DI hm.len];exact hd
theorem turned_at{m:List (List Int)}(hm:Sq n m){j i:Nat}(hj:j<n)(hi:i<n):en ((M.turned m).getD j []) i=en (m.getD i []) j:=by
 unfold M.turned en
 rw[hm.len,map_getD hj,map_getD hi]
theorem rows_sum{set:List Cond}(hs:set.length+1=n){j:Nat}(v:List Int):smI (fun i=>en ((M.mat sh set).getD i []) j*en v i) (List.range n)=en sh j*en v 0+smI (fun q=>en (set.getD q dK).coefs j*en v (q+1)) (List.range set.length):=by
 rw[←hs,List.range_succ_eq_map]
 simp only[smI]
 rw[smI_map,mat0]
 congr 1
 exact smI_congr fun q _=>by show en ((M.mat sh set).getD (q+1) []) j*_=_;rw[matS]
theorem rows_sumR{set:List Cond}(hs:set.length+1=n){j:Nat}(v:Nat→Rat):sm (fun i=>((en ((M.mat sh set).getD i []) j:Int):Rat)*v i) (List.range n)=((en sh j:Int):Rat)*v 0+sm (fun q=>((en (set.getD q dK).coefs j:Int):Rat)*v (q+1)) (List.range set.length):=by
 rw[←hs,List.range_succ_eq_map]
 simp only[sm]
 rw[sm_map,mat0]
 congr 1
 exact sm_congr fun q _=>by show((en ((M.mat sh set).getD (q+1) []) j:Int):Rat)*_=_;rw[matS]
structure Opt(n:Nat)(sh:List Int)(sum:Int)(wo:List Int)(cs:List Cond)(x:M.Corner):Prop where
 sub:x.tight.Sublist cs
 tl:x.tight.length+1=n
 den:0<x.den
 wd:0<x.wd
 pl:x.pt.length=n
 bl:x.by_.length=x.tight.length
 sum:dl n sh x.pt=sum*x.den
 all:∀c,c∈cs→dl n c.coefs x.pt≤c.limit*x.den
 eq:∀q,q<x.tight.length→dl n (x.tight.getD q dK).coefs x.pt=(x.tight.getD q dK).limit*x.den
 nn:∀q,q<x.tight.length→0≤en x.by_ q
 dual:∀j,j<n→x.each*en sh j-smI (fun q=>en x.by_ q*en (x.tight.getD q dK).coefs j) (List.range x.tight.length)=en wo j*x.wd
 denE:x.den=((DI en (M.mat sh x.tight) (List.range n)).natAbs:Int)
 wdE:x.wd=((DI en (M.mat sh x.tight) (List.range n)).natAbs:Int)
 eachE:x.each.natAbs=(DI en (M.setCol (M.turned (M.mat sh x.tight)) 0 wo) (List.range n)).natAbs
 byE:∀q,q<x.tight.length→(en x.by_ q).natAbs=(DI en (M.setCol (M.turned (M.mat sh x.tight)) (q+1) wo) (List.range n)).natAbs
theorem if_neg_abs{p:Prop}[Decidable p](a:Int):(if p then -a else a).natAbs=a.natAbs:=by split <;>omega
theorem corner_opt(h:Small n sh wo sum cs){set:List Cond}(hs:set.length+1=n)(hsub:set.Sublist cs){x:M.Corner}(hc:M.corner sh sum wo cs set=some x):Opt n sh sum wo cs x:=by
 have hm:∀c,c∈set→c∈cs:=fun c hc=>hsub.subset hc
 have hq:=h.sq hs hm
 have hr:=h.rs (set:=set) hm
 have hw:=h.ws
 unfold M.corner at hc
 cases h1:M.den (M.mat sh set) (M.right sum set)==0
 case true=>rw[h1]at hc;cases hc
 rw[h1]at hc
 cases h2:M.keeps cs (M.sol (M.mat sh set) (M.right sum set)) (M.den (M.mat sh set) (M.right sum set))
 ·rw[h2]at hc;cases hc
 rw[h2]at hc
 cases h3:M.nonpos (M.sol (M.turned (M.mat sh set)) wo).tail
 ·rw[h3]at hc;cases hc
 rw[h3]at hc
 simp only[cond_true,cond_false,Option.some.injEq]at hc
 have hd:DI en (M.mat sh set) (List.range n)≠0:=by
  intro e
  rw[solve_den hq e]at h1
  exact absurd h1 (by decide)
 have hqT:=hq.turned
 have hdT:=turned_ne hq hd
 obtain⟨e1,e2,e3⟩:=solve_exact hq hr hd
 obtain⟨t1,t2,t3⟩:=solve_exact hqT hw hdT
 have hkeep:=h.keep set hs hm hd
 have hall:=(keeps_iff (pt:=M.sol (M.mat sh set) (M.right sum set)) (by rw[e2];exact hkeep)).1 h2
 rw[e2]at hall
 have hrows:=sol_rows hq hr hd
 have hrowsT:=sol_rows hqT hw hdT
 have hnp:=(nonpos_iff _).1 h3
 have htl:∀q,(M.sol (M.turned (M.mat sh set)) wo).tail.getD q 0=(M.sol (M.turned (M.mat sh set)) wo).getD (q+1) 0:=by
  intro q
  cases M.sol (M.turned (M.mat sh set)) wo <;>rfl
 have hlt:(M.sol (M.turned (M.mat sh set)) wo).tail.length=set.length:=by rw[List.length_tail,t2];omega
 have hbq:∀q,q<set.length→en (M.negs (M.sol (M.turned (M.mat sh set)) wo).tail) q= - (M.sol (M.turned (M.mat sh set)) wo).getD (q+1) 0:=by
  intro q hql
  unfold M.negs en
  rw[List.getD_eq_getElem?_getD,List.getElem?_map]
  have hx:(M.sol (M.turned (M.mat sh set)) wo).tail[q]? = some ((M.sol (M.turned (M.mat sh set)) wo).getD (q+1) 0):=by
   rw[←htl q,List.getD_eq_getElem?_getD]
   rw[List.getElem?_eq_getElem (by rw[hlt];exact hql)];rfl
  rw[hx]
  show M.neg _=_
  refine neg_ok ?_
  rw[t3 (q+1) (by omega),if_neg_abs]
  exact(hqT.set hw (by omega)).2
 subst hc
 refine⟨hsub,hs,den_pos hq hr hd,den_pos hqT hw hdT,e2,by simp[M.negs];rw[t2];omega,?_,hall,fun q hql=>?_,fun q hql=>?_,fun j hj=>?_,e1,by rw[←turned_DI hq.len];exact t1,?_,fun q hql=>?_⟩
 ·have:=hrows 0 (by omega)
  rw[mat0,right0]at this
  exact this
 ·have:=hrows (q+1) (by have:q<set.length:=hql;omega)
  rw[matS,rightS]at this
  exact this
 ·show 0≤en (M.negs _) q
  rw[hbq q hql]
  have:=hnp ((M.sol (M.turned (M.mat sh set)) wo).tail.getD q 0) (getD_mem (by rw[hlt];exact hql))
  rw[htl]at this
  omega
 ·have:=hrowsT j hj
  unfold dl at this
  rw[smI_congr (h:=fun i=>en ((M.mat sh set).getD i []) j*en (M.sol (M.turned (M.mat sh set)) wo) i) (fun i hi=>by rw[turned_at hq hj (List.mem_range.1 hi)]),rows_sum hs]at this
  show(M.sol (M.turned (M.mat sh set)) wo).getD 0 0*en sh j-smI (fun q=>en (M.negs _) q*en (set.getD q dK).coefs j) (List.range set.length)=en wo j*_
  rw[smI_congr (h:=fun q=> - (en (set.getD q dK).coefs j*en (M.sol (M.turned (M.mat sh set)) wo) (q+1))) (fun q hql=>by
   rw[hbq q (List.mem_range.1 hql),Int.neg_mul,Int.mul_comm];rfl),smI_neg]
  have e4:(M.sol (M.turned (M.mat sh set)) wo).getD 0 0*en sh j=en sh j*en (M.sol (M.turned (M.mat sh set)) wo) 0:=Int.mul_comm _ _
  have e5:wo.getD j 0=en wo j:=rfl
  rw[e5]at this
  rw[e4,←this]
  show _ - - _=_
  omega
 ·show((M.sol (M.turned (M.mat sh set)) wo).getD 0 0).natAbs=_
  rw[t3 0 (by omega),if_neg_abs]
 ·show(en (M.negs _) q).natAbs=_
  have hql:q<set.length:=hql
  rw[hbq q hql,Int.natAbs_neg,t3 (q+1) (by omega),if_neg_abs]
theorem corner_yes(h:Small n sh wo sum cs){set:List Cond}(hs:set.length+1=n)(hm:∀c,c∈set→c∈cs)(hd:DI en (M.mat sh set) (List.range n)≠0){x y:Nat→Rat}
  (hx0:sm (fun c=>((en sh c:Int):Rat)*x c) (List.range n)=(sum:Rat)) (hx:∀q,q<set.length→sm (fun c=>((en (set.getD q dK).coefs c:Int):Rat)*x c) (List.range n)=(((set.getD q dK).limit:Int):Rat))
  (hall:∀c,c∈cs→sm (fun j=>((en c.coefs j:Int):Rat)*x j) (List.range n)≤(c.limit:Rat))
  (hy:∀q,q<set.length→y (q+1)≤0) (hw:∀j,j<n→((en wo j:Int):Rat)=((en sh j:Int):Rat)*y 0+sm (fun q=>((en (set.getD q dK).coefs j:Int):Rat)*y (q+1)) (List.range set.length)):M.corner sh sum wo cs set≠none:=by
 have hq:=h.sq hs hm
 have hr:=h.rs (set:=set) hm
 have hwo:=h.ws
 have hqT:=hq.turned
 have hdT:=turned_ne hq hd
 obtain⟨e1,e2,e3⟩:=solve_exact hq hr hd
 obtain⟨t1,t2,t3⟩:=solve_exact hqT hwo hdT
 have hpos:=den_pos hq hr hd
 have hposT:=den_pos hqT hwo hdT
 have h1:(M.den (M.mat sh set) (M.right sum set)==0)=false:=by
  rw[Bool.eq_false_iff];intro e;have:=eq_of_beq e;omega
 have hsol:=sol_spec hq hr hd (x:=x) (fun i hi=>by
  cases i with
  |zero=>rw[mat0,right0];exact hx0
  |succ q=>rw[matS,rightS];exact hx q (by omega))
 have hsolT:=sol_spec hqT hwo hdT (x:=y) (fun j hj=>by
  rw[sm_congr (h:=fun i=>((en ((M.mat sh set).getD i []) j:Int):Rat)*y i) (fun i hi=>by rw[turned_at hq hj (List.mem_range.1 hi)]),rows_sumR hs]
  exact(hw j hj).symm)
 have h2:M.keeps cs (M.sol (M.mat sh set) (M.right sum set)) (M.den (M.mat sh set) (M.right sum set))=true:=by
  refine(keeps_iff (by rw[e2];exact h.keep set hs hm hd)).2 fun c hc=>?_
  rw[e2]
  apply Rat.intCast_le_intCast.1
  unfold dl
  rw[smI_cast,sm_congr (h:=fun j=>((M.den (M.mat sh set) (M.right sum set):Int):Rat)*(((en c.coefs j:Int):Rat)*x j)) (fun j hj=>by
   have:=hsol j (List.mem_range.1 hj)
   unfold en at this ⊢
   rw[Rat.intCast_mul,this];grind),sm_smul,Rat.intCast_mul,Rat.mul_comm ((c.limit:Int):Rat)]
  exact Rat.mul_le_mul_of_nonneg_left (hall c hc) (by have:=Rat.intCast_nonneg.2 (Int.le_of_lt hpos);exact this)
 have h3:M.nonpos (M.sol (M.turned (M.mat sh set)) wo).tail=true:=by
  refine(nonpos_iff _).2 fun v hv=>?_
  obtain⟨q,hql,rfl⟩:=List.getElem_of_mem hv
  have hlt:(M.sol (M.turned (M.mat sh set)) wo).tail.length=set.length:=by rw[List.length_tail,t2];omega
  rw[hlt]at hql
  have hs':=hsolT (q+1) (by omega)
  have he:(M.sol (M.turned (M.mat sh set)) wo).tail[q]'(by rw[hlt];exact hql)=(M.sol (M.turned (M.mat sh set)) wo).getD (q+1) 0:=by
   rw[List.getElem_tail,List.getD_eq_getElem?_getD,List.getElem?_eq_getElem (by rw[t2];omega)];rfl
  rw[he]
  apply Rat.intCast_le_intCast.1
  rw[hs']
  have hp:(0:Rat)≤((M.den (M.turned (M.mat sh set)) wo:Int):Rat):=Rat.intCast_nonneg.2 (Int.le_of_lt hposT)
  have hyq:=hy q hql
  have:=Rat.mul_nonneg (show 0≤ - y (q+1) by grind) hp
  show _≤((0:Int):Rat)
  have e0:((0:Int):Rat)=0:=rfl
  rw[e0]
  grind
 unfold M.corner
 rw[h1,h2,h3]
 intro e;cases e
def rowF(sh:List Int)(cs:List Cond)(i c:Nat):Rat:=((en ((M.mat sh cs).getD i []) c:Int):Rat)
def rightF(sum:Int)(cs:List Cond)(i:Nat):Rat:=(((M.right sum cs).getD i 0:Int):Rat)
def woF(wo:List Int)(j:Nat):Rat:=((en wo j:Int):Rat)
theorem psolve_some(h:Small n sh wo sum cs){x:M.Corner}(hp:M.psolve sh sum wo cs=some x):Opt n sh sum wo cs x:=by
 unfold M.psolve at hp
 obtain⟨t,h1,h2,h3⟩:=pick_some hp
 have:=h.n1;have:=h.sl
 exact corner_opt h (set:=t) (by omega) h1 h3
theorem perm_of{l k:List Nat}(hl:l.Nodup)(hk:k.Nodup)(h:∀a,a∈l↔a∈k):l.Perm k:=(List.perm_ext_iff_of_nodup hl hk).2 h
theorem psolve_none(h:Small n sh wo sum cs)(hp:M.psolve sh sum wo cs=none){B:List Nat}(hBl:B.length+1=n)(hB:∀i,i∈B→1≤i∧i≤cs.length)
  (hD:D (rowF sh cs) ([0]++B) (List.range n)≠0) (hdual:Dual (rowF sh cs) (woF wo) (List.range n) [0] B) (x:Nat→Rat)
  (hx0:sm (fun c=>((en sh c:Int):Rat)*x c) (List.range n)=(sum:Rat)) (hall:∀c,c∈cs→sm (fun j=>((en c.coefs j:Int):Rat)*x j) (List.range n)≤(c.limit:Rat)):False:=by
 have hn1:=h.n1;have hsl:=h.sl
 rcases opt (rowF sh cs) (rightF sum cs) (woF wo) (List.range n) (n-1) (List.range' 1 cs.length) [0] B (by omega) (by simp;omega) hD hdual with hno|⟨S,hS,hSl,hSD,⟨y,hy,hw⟩,z,hz,hzf⟩
 ·refine hno x ⟨fun a ha=>?_,fun a ha=>?_⟩
  ·have:a=0:=by simpa using ha
   subst this
   exact hx0
  ·have hb:1≤a∧a≤cs.length:=by
    rcases List.mem_append.1 ha with ha|ha
    ·exact hB a ha
    ·have:=List.mem_range'_1.1 ha;omega
   obtain⟨q,rfl⟩:∃q,a=q+1:=⟨a-1,by omega⟩
   have:=hall (cs.getD q dK) (getD_mem (by omega))
   unfold dt rowF rightF
   rw[matS,rightS]
   exact this
 ·have hnd:S.Nodup:=Df_nodup (A:=[0]) hSD
  have hin:∀a,a∈S→1≤a∧a≤cs.length:=by
   intro a ha
   rcases List.mem_append.1 (hS a ha)with ha|ha
   ·exact hB a ha
   ·have:=List.mem_range'_1.1 ha;omega
  obtain⟨S',hS'⟩:∃S',S'=(List.range' 1 cs.length).filter (fun a=>decide (a∈S)):=⟨_,rfl⟩
  have hperm:S.Perm S':=by
   refine perm_of hnd ?_ fun a=>?_
   ·rw[hS'];exact List.Pairwise.filter _ List.nodup_range'
   ·rw[hS',List.mem_filter,List.mem_range'_1]
    constructor
    ·intro ha;have:=hin a ha;exact⟨by omega,by simpa using ha⟩
    ·intro ha;simpa using ha.2
  have hl':S'.length=n-1:=by rw[←hperm.length_eq];exact hSl
  have hD':D (rowF sh cs) (0::S') (List.range n)≠0:=Df_perm_ne (hperm.cons 0) hSD
  have hin':∀a,a∈S'→1≤a∧a≤cs.length:=fun a ha=>hin a (hperm.mem_iff.2 ha)
  obtain⟨set,hset⟩:∃set,set=S'.map (fun i=>cs.getD (i-1) dK):=⟨_,rfl⟩
  have hcs:cs=(List.range' 1 cs.length).map (fun i=>cs.getD (i-1) dK):=by
   apply List.ext_getElem
   ·simp
   ·intro i h1 h2
    simp[List.getElem_range',h1]
  have hsub:set.Sublist cs:=by
   rw[hset,hS']
   conv=>rhs;rw[hcs]
   exact(List.filter_sublist (p:=fun a=>decide (a∈S)) (l:=List.range' 1 cs.length)).map _
  have hsl':set.length=n-1:=by rw[hset,List.length_map];exact hl'
  have hgd:∀q,q<n-1→1≤S'.getD q 0∧S'.getD q 0≤cs.length∧set.getD q dK=cs.getD (S'.getD q 0-1) dK:=by
   intro q hq
   have hmem:S'.getD q 0∈S':=getD_mem (by omega)
   refine⟨(hin' _ hmem).1,(hin' _ hmem).2,?_⟩
   rw[hset,List.getD_eq_getElem?_getD,List.getElem?_map,List.getElem?_eq_getElem (by omega),List.getD_eq_getElem?_getD (l:=S'),List.getElem?_eq_getElem (by omega)]
   rfl
  have hrow:∀q c,q<n-1→rowF sh cs (S'.getD q 0) c=((en (set.getD q dK).coefs c:Int):Rat):=by
   intro q c hq
   obtain⟨g1,g2,g3⟩:=hgd q hq
   unfold rowF
   rw[show S'.getD q 0=(S'.getD q 0-1)+1 by omega,matS,g3]
  have hpos:∀i,i<n→∀c,rowF sh cs ((0::S').getD i 0) c=((en ((M.mat sh set).getD i []) c:Int):Rat):=by
   intro i hi c
   cases i with
   |zero=>rfl
   |succ q=>rw[matS];exact hrow q c (by omega)
  have hmap:(0::S')=(List.range n).map (fun i=>(0::S').getD i 0):=by
   have:n=(0::S').length:=by simp;omega
   conv=>rhs;rw[this]
   exact range_getD.symm
  have hdI:DI en (M.mat sh set) (List.range n)≠0:=by
   rw[DI_idx (by simp[M.mat];omega)]
   refine D_ne.1 ?_
   rw[hmap]at hD'
   rw[D_map,List.map_map]at hD'
   rw[D_map]
   have e:(List.range n).map (rowF sh cs∘fun i=>(0::S').getD i 0)=(List.range n).map (fun i=>fun c=>((en ((M.mat sh set).getD i []) c:Int):Rat)):=
    List.map_congr_left fun i hi=>by funext c;exact hpos i (List.mem_range.1 hi) c
   rw[e]at hD'
   exact hD'
  have hnone:=pick_none hp set hsub (by omega)
  rw[List.nil_append]at hnone
  refine corner_yes h (set:=set) (by omega) (fun c hc=>hsub.subset hc) hdI (x:=z) (y:=fun i=>y ((0::S').getD i 0)) ?_ (fun q hq=>?_) (fun c hc=>?_) (fun q hq=>?_) (fun j hj=>?_) hnone
  ·exact hz 0 (by simp)
  ·have hq:q<n-1:=by omega
   obtain⟨g1,g2,g3⟩:=hgd q hq
   have hmem:S'.getD q 0∈S:=hperm.mem_iff.2 (getD_mem (by omega))
   have:=hz (S'.getD q 0) (List.mem_append_right _ hmem)
   unfold dt at this
   rw[sm_congr (h:=fun c=>((en (set.getD q dK).coefs c:Int):Rat)*z c) (fun c _=>by rw[hrow q c hq])]at this
   rw[this,g3]
   unfold rightF
   rw[show S'.getD q 0=(S'.getD q 0-1)+1 by omega,rightS]
   rfl
  ·obtain⟨q,hq,rfl⟩:=List.getElem_of_mem hc
   have:=hzf (q+1) (List.mem_append_right _ (List.mem_range'_1.2 ⟨by omega,by omega⟩))
   unfold dt rowF rightF at this
   rw[matS,rightS,List.getD_eq_getElem?_getD,List.getElem?_eq_getElem hq]at this
   exact this
  ·have hmem:S'.getD q 0∈S:=hperm.mem_iff.2 (getD_mem (by omega))
   exact hy _ hmem
  ·have e:=hw j (List.mem_range.2 hj)
   rw[sm_perm (g:=fun a=>y a*rowF sh cs a j) (l:=[0]++S) (k:=0::S') (hperm.cons 0),hmap,sm_map]at e
   have hn':n=set.length+1:=by omega
   rw[show List.range n=List.range (set.length+1) by rw[hn'],List.range_succ_eq_map]at e
   simp only[sm]at e
   rw[sm_map]at e
   unfold woF at e
   rw[e]
   congr 1
   ·show y 0*((en sh j:Int):Rat)=_
    rw[Rat.mul_comm];rfl
   ·refine sm_congr fun q hq=>?_
    have hq:=List.mem_range.1 hq
    show y (S'.getD q 0)*rowF sh cs (S'.getD q 0) j=_
    rw[hrow q j (by omega),Rat.mul_comm]
    rfl
end
end Go.Bl
end
section
set_option maxRecDepth 100000
namespace Go.Bl
open Go.V Go.Proofs Go.Lp
theorem smI_succ{g:Nat→Int}{n:Nat}:smI g (List.range (n+1))=smI g (List.range n)+g n:=by
 rw[List.range_succ,smI_append];simp only[smI];omega
theorem smI_dot{g:Nat→Int}:∀{n:Nat},smI g (List.range n)=dot g n
 |0=>rfl
 |n+1=>by rw[smI_succ,smI_dot];rfl
theorem smI_if{g:Nat→Int}{k:Nat}{v:Int}:∀{n:Nat},smI (fun i=>g i+if i=k then v else 0) (List.range n)=smI g (List.range n)+if k<n then v else 0
 |0=>by simp[smI]
 |n+1=>by
  rw[smI_succ,smI_if,smI_succ]
  by_cases h:n=k
  ·subst h;simp only[if_true,Nat.lt_irrefl,if_false,Nat.lt_succ_self];omega
  ·rw[if_neg h]
   by_cases h2:k<n
   ·rw[if_pos h2,if_pos (by omega)];omega
   ·rw[if_neg h2,if_neg (by omega)];omega
def phi(w:Wts)(m:Nat)(f1 f2 f3:Nat→Int):Int:=
 smI (fun i=>en w.casks i*f1 i) (List.range m)+(w.x0*f2 0+w.x1*f2 1+w.x2*f2 2+w.x3*f2 3)+(w.y0*f3 0+w.y1*f3 1+w.y2*f3 2+w.y3*f3 3)
def ph(f1 f2 f3:Nat→Int)(c:Cond):Int:=if c.kind=1 then f1 c.which.toNat else if c.kind=2 then f2 c.which.toNat else if c.kind=3 then f3 c.which.toNat else 0
def wx(w:Wts):Nat→Int
 |0=>w.x0
 |1=>w.x1
 |2=>w.x2
 |_=>w.x3
def wy(w:Wts):Nat→Int
 |0=>w.y0
 |1=>w.y1
 |2=>w.y2
 |_=>w.y3
def slot(w:Wts)(c:Cond):Int:=if c.kind=1 then en w.casks c.which.toNat else if c.kind=2 then wx w c.which.toNat else if c.kind=3 then wy w c.which.toNat else 0
def Each(P:Int→Prop)(w:Wts):Prop:=(∀i,P (en w.casks i))∧(P w.x0∧P w.x1∧P w.x2∧P w.x3)∧(P w.y0∧P w.y1∧P w.y2∧P w.y3)
def CondOK(m:Nat)(c:Cond):Prop:=0≤c.which∧(c.kind=1→c.which.toNat<m)∧(c.kind=2∨c.kind=3→c.which.toNat<4)
theorem four{k:Nat}(h:k<4):k=0∨k=1∨k=2∨k=3:=by omega
theorem beq_of_eq{a b:Int}(h:a=b):(a==b)=true:=by rw[h];exact beq_self_eq_true b
theorem beq_of_ne{a b:Int}(h:a≠b):(a==b)=false:=by rw[Bool.eq_false_iff];intro e;exact h (eq_of_beq e)
theorem step_phi{w:Wts}{m:Nat}{c:Cond}{b:Int}{f1 f2 f3:Nat→Int}(hm:w.casks.length=m)(hc:CondOK m c)(h0:slot w c=0):phi (M.wStep w c b) m f1 f2 f3=phi w m f1 f2 f3+b*ph f1 f2 f3 c:=by
 unfold M.wStep
 by_cases k1:c.kind=1
 ·rw[beq_of_eq k1]
  have hw:=hc.2.1 k1
  unfold slot at h0
  rw[if_pos k1]at h0
  unfold phi ph
  rw[if_pos k1]
  show smI (fun i=>en (w.casks.set c.which.toNat b) i*f1 i) (List.range m)+_+_=_
  rw[smI_congr (h:=fun i=>en w.casks i*f1 i+if i=c.which.toNat then b*f1 c.which.toNat else 0) (fun i _=>by
   rw[en_set (by omega)]
   by_cases e:i=c.which.toNat
   ·subst e;rw[if_pos rfl,if_pos rfl,h0];omega
   ·rw[if_neg e,if_neg e];omega),smI_if,if_pos hw]
  simp only[cond_true]
  omega
 ·rw[beq_of_ne k1]
  by_cases k2:c.kind=2
  ·rw[beq_of_eq k2]
   have hw:=hc.2.2 (.inl k2)
   unfold slot at h0
   rw[if_neg k1,if_pos k2]at h0
   unfold phi ph
   rw[if_neg k1,if_pos k2]
   simp only[cond_true,cond_false]
   rcases four hw with e|e|e|e <;>rw[e]at h0 ⊢ <;>simp only[wx]at h0 <;>simp[h0] <;>omega
  ·rw[beq_of_ne k2]
   by_cases k3:c.kind=3
   ·rw[beq_of_eq k3]
    have hw:=hc.2.2 (.inr k3)
    unfold slot at h0
    rw[if_neg k1,if_neg k2,if_pos k3]at h0
    unfold phi ph
    rw[if_neg k1,if_neg k2,if_pos k3]
    simp only[cond_true,cond_false]
    rcases four hw with e|e|e|e <;>rw[e]at h0 ⊢ <;>simp only[wy]at h0 <;>simp[h0] <;>omega
   ·rw[beq_of_ne k3]
    unfold ph
    rw[if_neg k1,if_neg k2,if_neg k3,Int.mul_zero,Int.add_zero]
    rfl
theorem step_len{w:Wts}{c:Cond}{b:Int}:(M.wStep w c b).casks.length=w.casks.length:=by
 unfold M.wStep
 cases c.kind==1 <;>cases c.kind==2 <;>cases c.kind==3 <;>simp
theorem step_slot{w:Wts}{m:Nat}{c d:Cond}{b:Int}(hm:w.casks.length=m)(hc:CondOK m c)(hd:CondOK m d)(hne:(c.kind,c.which)≠(d.kind,d.which)):slot (M.wStep w c b) d=slot w d:=by
 have hx:c.kind=d.kind→c.which.toNat≠d.which.toNat:=by
  intro e1 e2
  apply hne
  have:=hc.1;have:=hd.1
  rw[e1,show c.which=d.which by omega]
 unfold M.wStep
 by_cases k1:c.kind=1
 ·rw[beq_of_eq k1]
  simp only[cond_true]
  unfold slot
  by_cases d1:d.kind=1
  ·rw[if_pos d1,if_pos d1]
   show en (w.casks.set _ b) _=_
   rw[en_set (by have:=hc.2.1 k1;omega),if_neg (fun e=>hx (by rw[k1,d1]) e.symm)]
  ·rw[if_neg d1,if_neg d1];rfl
 ·rw[beq_of_ne k1]
  by_cases k2:c.kind=2
  ·rw[beq_of_eq k2]
   simp only[cond_true,cond_false]
   unfold slot
   by_cases d1:d.kind=1
   ·rw[if_pos d1,if_pos d1]
   ·rw[if_neg d1,if_neg d1]
    by_cases d2:d.kind=2
    ·rw[if_pos d2,if_pos d2]
     have h1:=hx (by rw[k2,d2])
     rcases four (hc.2.2 (.inl k2))with e|e|e|e <;>rcases four (hd.2.2 (.inl d2))with f|f|f|f <;>rw[e,f]at h1 <;>first|exact absurd rfl h1|(rw[e,f];rfl)
    ·rw[if_neg d2,if_neg d2]
     by_cases d3:d.kind=3
     ·rw[if_pos d3,if_pos d3]
      rcases four (hd.2.2 (.inr d3))with f|f|f|f <;>rw[f] <;>rfl
     ·rw[if_neg d3,if_neg d3]
  ·rw[beq_of_ne k2]
   by_cases k3:c.kind=3
   ·rw[beq_of_eq k3]
    simp only[cond_true,cond_false]
    unfold slot
    by_cases d1:d.kind=1
    ·rw[if_pos d1,if_pos d1]
    ·rw[if_neg d1,if_neg d1]
     by_cases d2:d.kind=2
     ·rw[if_pos d2,if_pos d2]
      rcases four (hd.2.2 (.inl d2))with f|f|f|f <;>rw[f] <;>rfl
     ·rw[if_neg d2,if_neg d2]
      by_cases d3:d.kind=3
      ·rw[if_pos d3,if_pos d3]
       have h1:=hx (by rw[k3,d3])
       rcases four (hc.2.2 (.inr k3))with e|e|e|e <;>rcases four (hd.2.2 (.inr d3))with f|f|f|f <;>rw[e,f]at h1 <;>first|exact absurd rfl h1|(rw[e,f];rfl)
      ·rw[if_neg d3,if_neg d3]
   ·rw[beq_of_ne k3];rfl
theorem step_each{P:Int→Prop}{w:Wts}{c:Cond}{b:Int}(h:Each P w)(hb:P b)(h0:P 0):Each P (M.wStep w c b):=by
 obtain⟨h1,⟨x0,x1,x2,x3⟩,y0,y1,y2,y3⟩:=h
 unfold M.wStep
 cases c.kind==1
 ·cases c.kind==2
  ·cases c.kind==3
   ·exact⟨h1,⟨x0,x1,x2,x3⟩,y0,y1,y2,y3⟩
   ·refine⟨h1,⟨x0,x1,x2,x3⟩,?_,?_,?_,?_⟩ <;>simp only[cond_true,cond_false] <;>split <;>assumption
  ·refine⟨h1,⟨?_,?_,?_,?_⟩,y0,y1,y2,y3⟩ <;>simp only[cond_true,cond_false] <;>split <;>assumption
 ·refine⟨fun i=>?_,⟨x0,x1,x2,x3⟩,y0,y1,y2,y3⟩
  show P (en (w.casks.set _ b) i)
  by_cases hk:c.which.toNat<w.casks.length
  ·rw[en_set hk];split
   ·exact hb
   ·exact h1 i
  ·rw[List.set_eq_of_length_le (by omega)];exact h1 i
theorem step_fix{w:Wts}{c:Cond}{b:Int}:(M.wStep w c b).den=w.den∧(M.wStep w c b).each=w.each:=by
 unfold M.wStep
 cases c.kind==1 <;>cases c.kind==2 <;>cases c.kind==3 <;>exact⟨rfl,rfl⟩
theorem en_zeros(n i:Nat):en (List.replicate n 0) i=0:=by
 unfold en
 rw[List.getD_eq_getElem?_getD,List.getElem?_replicate]
 split <;>rfl
theorem slot_zeros(wd each:Int)(m:Nat)(c:Cond):slot ⟨wd,each,0,0,0,0,0,0,0,0,List.replicate m 0⟩ c=0:=by
 unfold slot
 split
 ·exact en_zeros _ _
 ·split
  ·unfold wx;split <;>rfl
  ·split
   ·unfold wy;split <;>rfl
   ·rfl
theorem phi_zeros(wd each:Int)(m:Nat)(f1 f2 f3:Nat→Int):phi ⟨wd,each,0,0,0,0,0,0,0,0,List.replicate m 0⟩ m f1 f2 f3=0:=by
 unfold phi
 rw[smI_congr (h:=fun _=>0) (fun i _=>by rw[en_zeros,Int.zero_mul]),smI_zero]
 simp
theorem weights_spec{wd each:Int}{ti:List Cond}{by_:List Int}{m:Nat}(hk:(ti.map fun c=>(c.kind,c.which)).Nodup)(hc:∀c,c∈ti→CondOK m c) :
  (M.weights wd each ti by_ m).den=wd∧(M.weights wd each ti by_ m).each=each∧(M.weights wd each ti by_ m).casks.length=m ∧
  (∀f1 f2 f3,phi (M.weights wd each ti by_ m) m f1 f2 f3=smI (fun q=>en by_ q*ph f1 f2 f3 (ti.getD q dK)) (List.range ti.length)) ∧
  ∀P:Int→Prop,P 0→(∀q,q<ti.length→P (en by_ q))→Each P (M.weights wd each ti by_ m):=by
 obtain⟨st,hst⟩:∃st:Nat→Wts,st=fun k=>(List.range k).foldl (fun w i=>M.wStep w (ti.getD i ⟨0,0,[],0⟩) (by_.getD i 0)) ⟨wd,each,0,0,0,0,0,0,0,0,List.replicate m 0⟩:=⟨_,rfl⟩
 have hs:∀k,st (k+1)=M.wStep (st k) (ti.getD k dK) (en by_ k):=by intro k;subst hst;exact foldl_succ
 have h0:st 0=⟨wd,each,0,0,0,0,0,0,0,0,List.replicate m 0⟩:=by subst hst;rfl
 have hfin:M.weights wd each ti by_ m=st ti.length:=by subst hst;rfl
 have hlen:∀k,(st k).casks.length=m:=by
  intro k
  induction k with
  |zero=>rw[h0];simp
  |succ k ih=>rw[hs,step_len,ih]
 have hkey:∀a b,a<ti.length→b<ti.length→a≠b→((ti.getD a dK).kind,(ti.getD a dK).which)≠((ti.getD b dK).kind,(ti.getD b dK).which):=by
  intro a b ha hb hab e
  apply hab
  have ga:(ti.map fun c=>(c.kind,c.which))[a]'(by simpa using ha)=((ti.getD a dK).kind,(ti.getD a dK).which):=by
   rw[List.getElem_map,List.getD_eq_getElem?_getD,List.getElem?_eq_getElem ha];rfl
  have gb:(ti.map fun c=>(c.kind,c.which))[b]'(by simpa using hb)=((ti.getD b dK).kind,(ti.getD b dK).which):=by
   rw[List.getElem_map,List.getD_eq_getElem?_getD,List.getElem?_eq_getElem hb];rfl
  have hp:=List.pairwise_iff_getElem.1 hk
  rcases Nat.lt_trichotomy a b with h|h|h
  ·exact absurd (by rw[ga,gb];exact e) (hp a b (by simpa using ha) (by simpa using hb) h)
  ·exact h
  ·exact absurd (by rw[ga,gb];exact e.symm) (hp b a (by simpa using hb) (by simpa using ha) h)
 have hslot:∀k,k≤ti.length→∀b,k≤b→b<ti.length→slot (st k) (ti.getD b dK)=0:=by
  intro k
  induction k with
  |zero=>intro _ b _ _;rw[h0];exact slot_zeros _ _ _ _
  |succ k ih=>
   intro hk b h1 h2
   rw[hs,step_slot (hlen k) (hc _ (getD_mem (by omega))) (hc _ (getD_mem h2)) (hkey k b (by omega) h2 (by omega))]
   exact ih (by omega) b (by omega) h2
 rw[hfin]
 refine⟨?_,?_,hlen _,fun f1 f2 f3=>?_,fun P p0 pb=>?_⟩
 ·have:∀k,(st k).den=wd:=by
   intro k
   induction k with
   |zero=>rw[h0]
   |succ k ih=>rw[hs,step_fix.1,ih]
  exact this _
 ·have:∀k,(st k).each=each:=by
   intro k
   induction k with
   |zero=>rw[h0]
   |succ k ih=>rw[hs,step_fix.2,ih]
  exact this _
 ·have:∀k,k≤ti.length→phi (st k) m f1 f2 f3=smI (fun q=>en by_ q*ph f1 f2 f3 (ti.getD q dK)) (List.range k):=by
   intro k
   induction k with
   |zero=>intro _;rw[h0,phi_zeros];rfl
   |succ k ih=>
    intro hk
    rw[hs,step_phi (hlen k) (hc _ (getD_mem (by omega))) (hslot k (by omega) k (Nat.le_refl _) (by omega)),ih (by omega),smI_succ]
  exact this _ (Nat.le_refl _)
 ·have:∀k,k≤ti.length→Each P (st k):=by
   intro k
   induction k with
   |zero=>
    intro _
    rw[h0]
    exact⟨fun i=>by show P (en (List.replicate m 0) i);rw[en_zeros];exact p0,⟨p0,p0,p0,p0⟩,p0,p0,p0,p0⟩
   |succ k ih=>
    intro hk
    rw[hs]
    exact step_each (ih (by omega)) (pb k (by omega)) p0
  exact this _ (Nat.le_refl _)
theorem limits_cases{l:List Cask}{s:Sample}{e:Nat}{c:Cond}(h:c∈M.limits l s e) :
  (∃i:Nat,i<l.length+e∧c=⟨0,i,M.only (l.length+e) i (-1),0⟩)∨(∃i:Nat,i<l.length∧c=⟨1,i,M.only (l.length+e) i 1,(l.getD i dfC).vol⟩) ∨
  (∃k:Nat,k<4∧c=⟨2,k,M.by_ l (l.length+e) fun c=>IntKind.i64.wrap (M.val c k-(M.rg s k).hi),0⟩)∨∃k:Nat,k<4∧c=⟨3,k,M.by_ l (l.length+e) fun c=>IntKind.i64.wrap ((M.rg s k).lo-M.val c k),0⟩:=by
 unfold M.limits at h
 rcases List.mem_append.1 h with h|h
 ·rcases List.mem_append.1 h with h|h
  ·obtain⟨i,hi,rfl⟩:=List.mem_map.1 h
   exact .inl ⟨i,List.mem_range.1 hi,rfl⟩
  ·obtain⟨i,hi,rfl⟩:=List.mem_map.1 h
   exact .inr (.inl ⟨i,List.mem_range.1 hi,rfl⟩)
 ·obtain⟨k,hk,h⟩:=List.mem_flatMap.1 h
  have hk:=List.mem_range.1 hk
  rcases List.mem_cons.1 h with rfl|h
  ·exact .inr (.inr (.inl ⟨k,hk,rfl⟩))
  ·have:=List.mem_singleton.1 h
   subst this
   exact .inr (.inr (.inr ⟨k,hk,rfl⟩))
theorem limits_mem{l:List Cask}{s:Sample}{e:Nat}:(∀i:Nat,i<l.length+e→(⟨0,i,M.only (l.length+e) i (-1),0⟩:Cond)∈M.limits l s e)∧(∀i:Nat,i<l.length→(⟨1,i,M.only (l.length+e) i 1,(l.getD i dfC).vol⟩:Cond)∈M.limits l s e) ∧
  ∀k:Nat,k<4→(⟨2,k,M.by_ l (l.length+e) fun c=>IntKind.i64.wrap (M.val c k-(M.rg s k).hi),0⟩:Cond)∈M.limits l s e∧(⟨3,k,M.by_ l (l.length+e) fun c=>IntKind.i64.wrap ((M.rg s k).lo-M.val c k),0⟩:Cond)∈M.limits l s e:=by
 unfold M.limits
 refine⟨fun i hi=>List.mem_append_left _ (List.mem_append_left _ (List.mem_map.2 ⟨i,List.mem_range.2 hi,rfl⟩)),fun i hi=>List.mem_append_left _ (List.mem_append_right _ (List.mem_map.2 ⟨i,List.mem_range.2 hi,rfl⟩)),fun k hk=>⟨?_,?_⟩⟩
 ·exact List.mem_append_right _ (List.mem_flatMap.2 ⟨k,List.mem_range.2 hk,by simp⟩)
 ·exact List.mem_append_right _ (List.mem_flatMap.2 ⟨k,List.mem_range.2 hk,by simp⟩)
theorem limits_keys(l:List Cask)(s:Sample)(e:Nat):(M.limits l s e).map (fun c=>(c.kind,c.which))=((List.range (l.length+e)).map fun(i:Nat)=>((0:Int),(i:Int)))++((List.range l.length).map fun(i:Nat)=>((1:Int),(i:Int)))++((List.range 4).flatMap fun(k:Nat)=>[((2:Int),(k:Int)),(3,(k:Int))]):=by
 unfold M.limits
 rw[List.map_append,List.map_append,List.map_map,List.map_map,List.map_flatMap]
 rfl
theorem keys_nodup:∀m,m≤4→∀e,e≤1→(((List.range (m+e)).map fun(i:Nat)=>((0:Int),(i:Int)))++((List.range m).map fun(i:Nat)=>((1:Int),(i:Int)))++((List.range 4).flatMap fun(k:Nat)=>[((2:Int),(k:Int)),(3,(k:Int))])).Nodup:=by decide +kernel
theorem en_only{n a j:Nat}{x:Int}(hj:j<n):en (M.only n a x) j=if j=a then x else 0:=by
 unfold M.only en
 rw[map_getD hj]
 by_cases h:j=a
 ·subst h;rw[if_pos rfl,Nat.beq_refl];rfl
 ·rw[if_neg h,show Nat.beq j a=false from by rw[Bool.eq_false_iff];intro e;exact h (Nat.eq_of_beq_eq_true e)];rfl
theorem en_by{l:List Cask}{n j:Nat}{f:Cask→Int}(hj:j<n):en (M.by_ l n f) j=if j=l.length then -1 else f (l.getD j dfC):=by
 unfold M.by_ en
 rw[map_getD hj]
 by_cases h:j=l.length
 ·rw[if_pos h,h,Nat.beq_refl];rfl
 ·rw[if_neg h,show Nat.beq j l.length=false from by rw[Bool.eq_false_iff];intro e;exact h (Nat.eq_of_beq_eq_true e)];rfl
theorem only_len(n a:Nat)(x:Int):(M.only n a x).length=n:=by simp[M.only]
theorem by_len(l:List Cask)(n:Nat)(f:Cask→Int):(M.by_ l n f).length=n:=by simp[M.by_]
end Go.Bl
end
section
set_option maxRecDepth 100000
namespace Go.Bl
open Go.V Go.Proofs Go.Lp
structure RightL(l:List Cask)(s:Sample):Prop where
 n1:1≤l.length
 n4:l.length≤4
 rc:∀i,i<l.length→RightC (l.getD i dfC)
 v:1≤s.vol∧s.vol≤10000
 lo:∀k,k<4→0≤(M.rg s k).lo∧(M.rg s k).lo≤1000
 hi:∀k,k<4→0≤(M.rg s k).hi∧(M.rg s k).hi≤1000
 le:∀k,k<4→(M.rg s k).lo≤(M.rg s k).hi
theorem sample_right{s:Sample}(h:M.checkSample s=0):(1≤s.vol∧s.vol≤10000)∧(∀k,k<4→0≤(M.rg s k).lo∧(M.rg s k).lo≤1000)∧(∀k,k<4→0≤(M.rg s k).hi∧(M.rg s k).hi≤1000)∧∀k,k<4→(M.rg s k).lo≤(M.rg s k).hi:=by
 unfold M.checkSample at h
 cases hw:M.within s.vol 1 10000
 ·rw[hw]at h
  have hs:(2:Int)=0:=h
  exact absurd hs (by decide)
 rw[hw]at h
 have hs:M.first [M.rgErr s.r0,M.rgErr s.r1,M.rgErr s.r2,M.rgErr s.r3]=0:=h
 have hz:=first_nil _ hs
 have hle:∀r,M.rgErr r=0→r.lo≤r.hi:=by
  intro r hr
  unfold M.rgErr at hr
  exact of_decide_eq_true (unl_zero (by decide) (first_nil _ hr _ (List.mem_cons_of_mem _ (List.mem_cons_self ..))))
 have all:∀k,k<4→M.rgErr (M.rg s k)=0:=by
  intro k hk
  rcases(by omega:k=0∨k=1∨k=2∨k=3)with rfl|rfl|rfl|rfl <;>exact hz _ (by simp[M.rg])
 exact⟨within_spec hw,fun k hk=>(rg_right (all k hk)).1,fun k hk=>(rg_right (all k hk)).2,fun k hk=>hle _ (all k hk)⟩
theorem task_right{l:List Cask}{s:Sample}(h:M.taskErr l s=0):RightL l s:=by
 unfold M.taskErr at h
 obtain⟨c1,c4,cr⟩:=casks_right (first_nil _ h _ (List.mem_cons_self ..))
 obtain⟨h1,h2,h3,h4⟩:=sample_right (first_nil _ h _ (List.mem_cons_of_mem _ (List.mem_cons_self ..)))
 exact⟨c1,c4,cr,h1,h2,h3,h4⟩
theorem RightC.val{c:Cask}(h:RightC c)(k:Nat):0≤M.val c k∧M.val c k≤1000:=by
 unfold M.val
 split
 ·exact h.k0
 ·exact h.k1
 ·exact h.k2
 ·exact h.k3
def Kb(m j:Nat):Nat:=if j<m then 1000 else 1
def S0(m j:Nat):Nat:=if j<m then 1 else 0
section
variable {l : List Cask} {s : Sample}
theorem RightL.hiF(h:RightL l s){i k:Nat}(hi:i<l.length)(hk:k<4):IntKind.i64.wrap (M.val (l.getD i dfC) k-(M.rg s k).hi)=M.val (l.getD i dfC) k-(M.rg s k).hi∧(M.val (l.getD i dfC) k-(M.rg s k).hi).natAbs≤1000:=by
 have h1:=(h.rc i hi).val k
 have h2:=h.hi k hk
 exact⟨wrap_id (by omega) (by omega),by omega⟩
theorem RightL.loF(h:RightL l s){i k:Nat}(hi:i<l.length)(hk:k<4):IntKind.i64.wrap ((M.rg s k).lo-M.val (l.getD i dfC) k)=(M.rg s k).lo-M.val (l.getD i dfC) k∧((M.rg s k).lo-M.val (l.getD i dfC) k).natAbs≤1000:=by
 have h1:=(h.rc i hi).val k
 have h2:=h.lo k hk
 exact⟨wrap_id (by omega) (by omega),by omega⟩
theorem ent_of{a:List Int}{n B:Nat}(hl:a.length=n)(h:∀j,j<n→(en a j).natAbs≤B):∀x,x∈a→x.natAbs≤B:=by
 intro x hx
 obtain⟨j,hj,rfl⟩:=List.getElem_of_mem hx
 have:=h j (by omega)
 unfold en at this
 rw[List.getD_eq_getElem?_getD,List.getElem?_eq_getElem hj]at this
 exact this
theorem limits_ent(h:RightL l s){e:Nat}(he:e≤1){c:Cond}(hc:c∈M.limits l s e):c.coefs.length=l.length+e∧(∀j,j<l.length+e→(en c.coefs j).natAbs≤Kb l.length j)∧0≤c.limit∧c.limit≤10000:=by
 have k1:∀j,1≤Kb l.length j:=fun j=>by unfold Kb;split <;>decide
 rcases limits_cases hc with⟨i,hi,rfl⟩|⟨i,hi,rfl⟩|⟨k,hk,rfl⟩|⟨k,hk,rfl⟩
 ·refine⟨only_len _ _ _,fun j hj=>?_,(show(0:Int)≤0 by decide),(show(0:Int)≤10000 by decide)⟩
  show(en (M.only _ _ _) j).natAbs≤_
  have:=k1 j
  rw[en_only hj];split <;>omega
 ·refine⟨only_len _ _ _,fun j hj=>?_,(h.rc i hi).vol⟩
  show(en (M.only _ _ _) j).natAbs≤_
  have:=k1 j
  rw[en_only hj];split <;>omega
 ·refine⟨by_len l (l.length+e) (fun c=>IntKind.i64.wrap (M.val c k-(M.rg s k).hi)),fun j hj=>?_,(show(0:Int)≤0 by decide),(show(0:Int)≤10000 by decide)⟩
  dsimp only
  rw[en_by hj]
  have:=k1 j
  by_cases e1:j=l.length
  ·rw[if_pos e1];omega
  ·rw[if_neg e1]
   by_cases e2:j<l.length
   ·obtain⟨w1,w2⟩:=h.hiF e2 hk
    rw[w1];unfold Kb;rw[if_pos e2];exact w2
   ·exfalso;exact absurd hj (by omega)
 ·refine⟨by_len l (l.length+e) (fun c=>IntKind.i64.wrap ((M.rg s k).lo-M.val c k)),fun j hj=>?_,(show(0:Int)≤0 by decide),(show(0:Int)≤10000 by decide)⟩
  dsimp only
  rw[en_by hj]
  have:=k1 j
  by_cases e1:j=l.length
  ·rw[if_pos e1];omega
  ·rw[if_neg e1]
   by_cases e2:j<l.length
   ·obtain⟨w1,w2⟩:=h.loF e2 hk
    rw[w1];unfold Kb;rw[if_pos e2];exact w2
   ·exfalso;exact absurd hj (by omega)
theorem shares_en{l:List Cask}{e j:Nat}:en (M.shares l e) j=(S0 l.length j:Int):=by
 unfold M.shares S0 en
 by_cases h:j<l.length
 ·rw[if_pos h,List.getD_eq_getElem?_getD,List.getElem?_append_left (by simpa using h),List.getElem?_map,List.getElem?_eq_getElem h];rfl
 ·rw[if_neg h,List.getD_eq_getElem?_getD,List.getElem?_append_right (by simp;omega),List.getElem?_replicate];split <;>rfl
theorem num_den:∀m,m≤4→∀e,e≤1→bnd (S0 m) (Kb m) (List.range (m+e))≤200000000000:=by decide +kernel
theorem num_sol:∀m,m≤4→∀e,e≤1→∀k,k<5→Kb m k*bnd (fun c=>if c=k then 10000 else S0 m c) (fun c=>if c=k then 10000 else Kb m c) (List.range (m+e))≤1000000000000000000:=by decide +kernel
theorem num_far:∀m,m≤4→bnd (fun c=>if c<m then 0 else 1) (Kb m) (List.range (m+1))≤100000000000000:=by decide +kernel
theorem DI_bnd_idx{n:Nat}{f:Nat→Nat→Int}{K0 K:Nat→Nat}(hn:1≤n)(h0:∀c,c<n→(f 0 c).natAbs≤K0 c)(hb:∀i,1≤i→i<n→∀c,c<n→(f i c).natAbs≤K c):(DI f (List.range n) (List.range n)).natAbs≤bnd K0 K (List.range n):=by
 obtain⟨q,rfl⟩:∃q,n=q+1:=⟨n-1,by omega⟩
 have e:List.range (q+1)=0::(List.range q).map Nat.succ:=List.range_succ_eq_map
 have:=DI_bnd (f:=f) (K0:=K0) (K:=K) (r:=0) (rs:=(List.range q).map Nat.succ) (cols:=List.range (q+1)) (by simp) (fun c hc=>h0 c (List.mem_range.1 hc)) (fun i hi c hc=>by
  obtain⟨j,hj,rfl⟩:=List.mem_map.1 hi
  have:=List.mem_range.1 hj
  exact hb (j+1) (by omega) (by omega) c (List.mem_range.1 hc))
 rw[←e]at this
 exact this
section
variable {l : List Cask} {s : Sample} {e : Nat} {set : List Cond}
theorem mat_ent(h:RightL l s)(he:e≤1)(hm:∀c,c∈set→c∈M.limits l s e)(i:Nat)(h1:1≤i)(hi:i<set.length+1)(j:Nat)(hj:j<l.length+e):(en ((M.mat (M.shares l e) set).getD i []) j).natAbs≤Kb l.length j:=by
 obtain⟨q,rfl⟩:∃q,i=q+1:=⟨i-1,by omega⟩
 rw[matS]
 exact(limits_ent h he (hm _ (getD_mem (by omega)))).2.1 j hj
theorem mat_ent0(j:Nat):(en ((M.mat (M.shares l e) set).getD 0 []) j).natAbs≤S0 l.length j:=by
 rw[mat0,shares_en];omega
theorem mat_den(h:RightL l s)(he:e≤1)(hs:set.length+1=l.length+e)(hm:∀c,c∈set→c∈M.limits l s e):(DI en (M.mat (M.shares l e) set) (List.range (l.length+e))).natAbs≤200000000000:=by
 rw[DI_idx (by simp[M.mat];omega)]
 exact Nat.le_trans (DI_bnd_idx (K0:=S0 l.length) (K:=Kb l.length) (by omega) (fun c _=>mat_ent0 c) (fun i h1 hi c hc=>mat_ent h he hm i h1 (by omega) c hc)) (num_den _ h.n4 e he)
theorem limits_small(h:RightL l s)(he:e≤1):(M.shares l e).length=l.length+e∧(∀x,x∈M.shares l e→x.natAbs≤1000)∧(∀c,c∈M.limits l s e→c.coefs.length=l.length+e)∧(∀c,c∈M.limits l s e→∀x,x∈c.coefs→x.natAbs≤1000)∧(∀c,c∈M.limits l s e→c.limit.natAbs≤10000):=by
 refine⟨shares_len l e,ent_of (shares_len l e) (fun j _=>by rw[shares_en];unfold S0;split <;>decide),fun c hc=>(limits_ent h he hc).1,fun c hc=>?_,fun c hc=>?_⟩
 ·obtain⟨h1,h2,_⟩:=limits_ent h he hc
  refine ent_of h1 fun j hj=>Nat.le_trans (h2 j hj) ?_
  unfold Kb;split <;>decide
 ·have:=(limits_ent h he hc).2.2;omega
theorem small_of(h:RightL l s)(he:e≤1){wo:List Int}(hwl:wo.length=l.length+e)(hwe:∀x,x∈wo→x.natAbs≤1000):Small (l.length+e) (M.shares l e) wo s.vol (M.limits l s e):=by
 obtain⟨a1,a2,a3,a4,a5⟩:=limits_small h he
 have hv:s.vol.natAbs≤10000:=by have:=h.v;omega
 have n5:l.length+e≤5:=by have:=h.n4;omega
 refine⟨by have:=h.n1;omega,n5,a1,hwl,a2,hwe,hv,a3,a4,a5,?_⟩
 intro set hs hm hd c hc
 have hq:=sq_mat n5 a1 a2 a3 a4 hs hm
 have hr:=right_small (set:=set) hv a5 hm
 obtain⟨e1,e2,e3⟩:=solve_exact hq hr hd
 have hcl:=a3 c hc
 constructor
 ·have:=dot_exact c.coefs (M.sol (M.mat (M.shares l e) set) (M.right s.vol set)) 0 1000000000000000000 (by rw[hcl,e2]) (fun k hk=>by
   have hk:k<l.length+e:=by omega
   have hb:(en (M.sol (M.mat (M.shares l e) set) (M.right s.vol set)) k).natAbs≤bnd (fun c=>if c=k then 10000 else S0 l.length c) (fun c=>if c=k then 10000 else Kb l.length c) (List.range (l.length+e)):=by
    show((M.sol (M.mat (M.shares l e) set) (M.right s.vol set)).getD k 0).natAbs≤_
    rw[e3 k hk,if_neg_abs,setCol_DI hq.len hq.row hk]
    refine DI_bnd_idx (by omega) (fun j hj=>?_) (fun i h1 hi j hj=>?_)
    ·by_cases ej:j=k
     ·rw[if_pos ej,if_pos ej,right0];exact hv
     ·rw[if_neg ej,if_neg ej];exact mat_ent0 j
    ·by_cases ej:j=k
     ·rw[if_pos ej,if_pos ej];exact hr i
     ·rw[if_neg ej,if_neg ej];exact mat_ent h he hm i h1 (by omega) j hj
   rw[Int.natAbs_mul]
   exact Nat.le_trans (Nat.mul_le_mul ((limits_ent h he hc).2.1 k hk) hb) (num_sol _ h.n4 e he k (by omega))) (by rw[hcl];have:(l.length+e)*1000000000000000000≤5*1000000000000000000:=Nat.mul_le_mul_right _ n5;omega)
  rw[this,hcl];omega
 ·have h1:=mat_den h he hs hm
  have h2:=(limits_ent h he hc).2.2
  rw[e1]
  have m0:0≤c.limit*((DI en (M.mat (M.shares l e) set) (List.range (l.length+e))).natAbs:Int):=Int.mul_nonneg h2.1 (by omega)
  have m1:c.limit*((DI en (M.mat (M.shares l e) set) (List.range (l.length+e))).natAbs:Int)≤10000*200000000000:=Int.mul_le_mul h2.2 (by omega) (by omega) (by decide)
  exact wrap_id (by omega) (by omega)
end
end
end Go.Bl
end
section
set_option maxRecDepth 100000
namespace Go.Bl
open Go.V Go.Proofs Go.Lp
theorem dl_only{n a:Nat}{x:Int}{p:List Int}(ha:a<n):dl n (M.only n a x) p=x*en p a:=by
 unfold dl
 rw[smI_congr (h:=fun c=>0+if c=a then x*en p a else 0) (fun c hc=>by
  rw[en_only (List.mem_range.1 hc)]
  by_cases h:c=a
  ·subst h;rw[if_pos rfl,if_pos rfl];omega
  ·rw[if_neg h,if_neg h];omega),smI_if,smI_zero,if_pos ha]
 omega
def farOf(e m:Nat)(p:List Int):Int:=if e=0 then 0 else en p m
section
variable {l : List Cask} {s : Sample} {e : Nat}
theorem dl_by(he:e≤1){f:Cask→Int}{p:List Int}:dl (l.length+e) (M.by_ l (l.length+e) f) p=smI (fun i=>f (l.getD i dfC)*en p i) (List.range l.length)-farOf e l.length p:=by
 unfold dl farOf
 rcases(by omega:e=0∨e=1)with rfl|rfl
 ·rw[if_pos rfl,Int.sub_zero]
  refine smI_congr fun i hi=>?_
  have hi:=List.mem_range.1 hi
  rw[en_by hi,if_neg (by omega)]
 ·rw[if_neg (by decide),smI_succ,en_by (by omega),if_pos rfl]
  rw[smI_congr (h:=fun i=>f (l.getD i dfC)*en p i) (fun i hi=>by
   have hi:=List.mem_range.1 hi
   rw[en_by (by omega),if_neg (by omega)])]
  omega
theorem dl_shares(he:e≤1){p:List Int}:dl (l.length+e) (M.shares l e) p=smI (fun i=>en p i) (List.range l.length):=by
 unfold dl
 rcases(by omega:e=0∨e=1)with rfl|rfl
 ·refine smI_congr fun i hi=>?_
  have hi:=List.mem_range.1 hi
  rw[shares_en];unfold S0;rw[if_pos (by omega)];show(1:Int)*_=_;omega
 ·rw[smI_succ,shares_en];unfold S0
  rw[if_neg (by omega)]
  rw[smI_congr (h:=fun i=>en p i) (fun i hi=>by
   have hi:=List.mem_range.1 hi
   rw[shares_en];unfold S0;rw[if_pos (by omega)];show(1:Int)*_=_;omega)]
  show _+(0:Int)*_=_
  omega
structure Blend(l:List Cask)(s:Sample)(pt:List Int)(den far:Int):Prop where
 dp:0<den
 p0:∀i,i<l.length→0≤en pt i
 p1:∀i,i<l.length→en pt i≤(l.getD i dfC).vol*den
 sum:smI (fun i=>en pt i) (List.range l.length)=s.vol*den
 hi:∀k,k<4→smI (fun i=>(M.val (l.getD i dfC) k-(M.rg s k).hi)*en pt i) (List.range l.length)≤far
 lo:∀k,k<4→smI (fun i=>((M.rg s k).lo-M.val (l.getD i dfC) k)*en pt i) (List.range l.length)≤far
theorem conds_blend(h:RightL l s)(he:e≤1){pt:List Int}{den:Int}(hd:0<den)(hs:dl (l.length+e) (M.shares l e) pt=s.vol*den)(ha:∀c,c∈M.limits l s e→dl (l.length+e) c.coefs pt≤c.limit*den) :
  Blend l s pt den (farOf e l.length pt)∧0≤farOf e l.length pt:=by
 obtain⟨m0,m1,m2⟩:=limits_mem (l:=l) (s:=s) (e:=e)
 have p0:∀i,i<l.length+e→0≤en pt i:=by
  intro i hi
  have:=ha _ (m0 i hi)
  dsimp only at this
  rw[dl_only hi]at this
  omega
 refine⟨⟨hd,fun i hi=>p0 i (by omega),fun i hi=>?_,by rw[←hs,dl_shares he],fun k hk=>?_,fun k hk=>?_⟩,?_⟩
 ·have:=ha _ (m1 i hi)
  dsimp only at this
  rw[dl_only (by omega)]at this
  omega
 ·have:=ha _ (m2 k hk).1
  dsimp only at this
  rw[dl_by he,smI_congr (h:=fun i=>(M.val (l.getD i dfC) k-(M.rg s k).hi)*en pt i) (fun i hi=>by rw[(h.hiF (List.mem_range.1 hi) hk).1])]at this
  omega
 ·have:=ha _ (m2 k hk).2
  dsimp only at this
  rw[dl_by he,smI_congr (h:=fun i=>((M.rg s k).lo-M.val (l.getD i dfC) k)*en pt i) (fun i hi=>by rw[(h.loF (List.mem_range.1 hi) hk).1])]at this
  omega
 ·unfold farOf
  split
  ·exact Int.le_refl _
  ·exact p0 _ (by omega)
theorem blend_conds(h:RightL l s)(he:e≤1){pt:List Int}{den:Int}(hb:Blend l s pt den (farOf e l.length pt))(h0:0≤farOf e l.length pt) :
  dl (l.length+e) (M.shares l e) pt=s.vol*den∧∀c,c∈M.limits l s e→dl (l.length+e) c.coefs pt≤c.limit*den:=by
 refine⟨by rw[dl_shares he,hb.sum],fun c hc=>?_⟩
 rcases limits_cases hc with⟨i,hi,rfl⟩|⟨i,hi,rfl⟩|⟨k,hk,rfl⟩|⟨k,hk,rfl⟩ <;>dsimp only
 ·rw[dl_only hi]
  by_cases h1:i<l.length
  ·have:=hb.p0 i h1;omega
  ·have:i=l.length∧e≠0:=by omega
   unfold farOf at h0
   rw[if_neg this.2,←this.1]at h0
   omega
 ·rw[dl_only (by omega)]
  have:=hb.p1 i hi;omega
 ·rw[dl_by he,smI_congr (h:=fun i=>(M.val (l.getD i dfC) k-(M.rg s k).hi)*en pt i) (fun i hi=>by rw[(h.hiF (List.mem_range.1 hi) hk).1])]
  have:=hb.hi k hk;omega
 ·rw[dl_by he,smI_congr (h:=fun i=>((M.rg s k).lo-M.val (l.getD i dfC) k)*en pt i) (fun i hi=>by rw[(h.loF (List.mem_range.1 hi) hk).1])]
  have:=hb.lo k hk;omega
def hiF(l:List Cask)(s:Sample)(j k:Nat):Int:=M.val (l.getD j dfC) k-(M.rg s k).hi
def loF(l:List Cask)(s:Sample)(j k:Nat):Int:=(M.rg s k).lo-M.val (l.getD j dfC) k
def gift(l:List Cask)(s:Sample)(w:Wts)(j:Nat):Int:=w.each-phi w l.length (fun i=>if i=j then 1 else 0) (hiF l s j) (loF l s j)
def bound(l:List Cask)(s:Sample)(w:Wts):Int:=w.each*s.vol-phi w l.length (fun i=>(l.getD i dfC).vol) (fun _=>0) (fun _=>0)
theorem limits_ok{c:Cond}(hc:c∈M.limits l s e):CondOK l.length c:=by
 rcases limits_cases hc with⟨i,hi,rfl⟩|⟨i,hi,rfl⟩|⟨k,hk,rfl⟩|⟨k,hk,rfl⟩
 ·exact⟨Int.natCast_nonneg i,fun h=>absurd h (show(0:Int)≠1 by decide),fun h=>absurd h (show ¬((0:Int)=2∨(0:Int)=3) by decide)⟩
 ·exact⟨Int.natCast_nonneg i,fun _=>by show(i:Int).toNat<_;omega,fun h=>absurd h (show ¬((1:Int)=2∨(1:Int)=3) by decide)⟩
 ·exact⟨Int.natCast_nonneg k,fun h=>absurd h (show(2:Int)≠1 by decide),fun _=>by show(k:Int).toNat<_;omega⟩
 ·exact⟨Int.natCast_nonneg k,fun h=>absurd h (show(3:Int)≠1 by decide),fun _=>by show(k:Int).toNat<_;omega⟩
theorem coef_ph(h:RightL l s)(he:e≤1){c:Cond}(hc:c∈M.limits l s e){j:Nat}(hj:j<l.length):en c.coefs j=ph (fun i=>if i=j then 1 else 0) (hiF l s j) (loF l s j) c-if c.kind=0∧c.which=(j:Int)then 1 else 0:=by
 rcases limits_cases hc with⟨i,hi,rfl⟩|⟨i,hi,rfl⟩|⟨k,hk,rfl⟩|⟨k,hk,rfl⟩ <;>dsimp only[ph]
 ·rw[en_only (by omega),if_neg (show(0:Int)≠1 by decide),if_neg (show(0:Int)≠2 by decide),if_neg (show(0:Int)≠3 by decide)]
  by_cases e1:j=i
  ·rw[if_pos e1,if_pos ⟨rfl,by omega⟩];omega
  ·rw[if_neg e1,if_neg (fun h=>e1 (by omega))];omega
 ·rw[en_only (by omega),if_pos rfl,if_neg (show ¬((1:Int)=0∧(i:Int)=(j:Int)) by omega),Int.toNat_natCast]
  by_cases e1:j=i
  ·rw[if_pos e1,if_pos e1.symm];omega
  ·rw[if_neg e1,if_neg (fun h=>e1 h.symm)];omega
 ·rw[en_by (by omega),if_neg (by omega),if_neg (show(2:Int)≠1 by decide),if_pos rfl,if_neg (show ¬((2:Int)=0∧(k:Int)=(j:Int)) by omega),Int.toNat_natCast,(h.hiF hj hk).1]
  unfold hiF;omega
 ·rw[en_by (by omega),if_neg (by omega),if_neg (show(3:Int)≠1 by decide),if_neg (show(3:Int)≠2 by decide),if_pos rfl,if_neg (show ¬((3:Int)=0∧(k:Int)=(j:Int)) by omega),Int.toNat_natCast,(h.loF hj hk).1]
  unfold loF;omega
theorem coef_far{c:Cond}(hc:c∈M.limits l s 1):en c.coefs l.length= - ph (fun _=>0) (fun _=>1) (fun _=>1) c-if c.kind=0∧c.which=(l.length:Int)then 1 else 0:=by
 rcases limits_cases hc with⟨i,hi,rfl⟩|⟨i,hi,rfl⟩|⟨k,hk,rfl⟩|⟨k,hk,rfl⟩ <;>dsimp only[ph]
 ·rw[en_only (by omega),if_neg (show(0:Int)≠1 by decide),if_neg (show(0:Int)≠2 by decide),if_neg (show(0:Int)≠3 by decide)]
  by_cases e1:l.length=i
  ·rw[if_pos e1,if_pos ⟨rfl,by omega⟩];omega
  ·rw[if_neg e1,if_neg (fun h=>e1 (by omega))];omega
 ·rw[en_only (by omega),if_pos rfl,if_neg (show ¬((1:Int)=0∧(i:Int)=(l.length:Int)) by omega),if_neg (by omega)];omega
 ·rw[en_by (by omega),if_pos rfl,if_neg (show(2:Int)≠1 by decide),if_pos rfl,if_neg (show ¬((2:Int)=0∧(k:Int)=(l.length:Int)) by omega)];omega
 ·rw[en_by (by omega),if_pos rfl,if_neg (show(3:Int)≠1 by decide),if_neg (show(3:Int)≠2 by decide),if_pos rfl,if_neg (show ¬((3:Int)=0∧(k:Int)=(l.length:Int)) by omega)];omega
theorem limit_ph{c:Cond}(hc:c∈M.limits l s e):c.limit=ph (fun i=>(l.getD i dfC).vol) (fun _=>0) (fun _=>0) c:=by
 rcases limits_cases hc with⟨i,hi,rfl⟩|⟨i,hi,rfl⟩|⟨k,hk,rfl⟩|⟨k,hk,rfl⟩ <;>rfl
theorem opt_strong{n:Nat}{sh wo:List Int}{sum:Int}{cs:List Cond}{x:M.Corner}(ho:Opt n sh sum wo cs x) :
  (x.each*sum-smI (fun q=>en x.by_ q*(x.tight.getD q dK).limit) (List.range x.tight.length))*x.den=x.wd*dl n wo x.pt:=by
 have h1:smI (fun j=>(x.each*en sh j-smI (fun q=>en x.by_ q*en (x.tight.getD q dK).coefs j) (List.range x.tight.length))*en x.pt j) (List.range n)=smI (fun j=>x.wd*(en wo j*en x.pt j)) (List.range n):=
  smI_congr fun j hj=>by rw[ho.dual j (List.mem_range.1 hj),Int.mul_comm (en wo j),Int.mul_assoc]
 rw[smI_smul]at h1
 have h2:smI (fun j=>(x.each*en sh j-smI (fun q=>en x.by_ q*en (x.tight.getD q dK).coefs j) (List.range x.tight.length))*en x.pt j) (List.range n)=x.each*dl n sh x.pt-smI (fun q=>en x.by_ q*dl n (x.tight.getD q dK).coefs x.pt) (List.range x.tight.length):=by
  unfold dl
  rw[←smI_smul]
  rw[smI_congr (l:=List.range x.tight.length) (h:=fun q=>smI (fun j=>en x.by_ q*(en (x.tight.getD q dK).coefs j*en x.pt j)) (List.range n)) (fun q _=>by rw[smI_smul]),smI_comm]
  rw[Int.sub_eq_add_neg,←smI_neg,←smI_add]
  refine smI_congr fun j _=>?_
  rw[Int.sub_mul,←Int.sub_eq_add_neg,Int.mul_assoc,Int.mul_comm (smI _ _) (en x.pt j),←smI_smul]
  congr 1
  refine smI_congr fun q _=>?_
  rw[Int.mul_left_comm,Int.mul_comm (en x.pt j)]
 rw[h2,ho.sum,smI_congr (h:=fun q=>x.den*(en x.by_ q*(x.tight.getD q dK).limit)) (fun q hq=>by rw[ho.eq q (List.mem_range.1 hq),←Int.mul_assoc,Int.mul_comm]),smI_smul]at h1
 show _=x.wd*smI _ _
 rw[←h1,Int.sub_mul,Int.mul_assoc,Int.mul_comm (smI _ _) x.den]
theorem setT_DI{n k:Nat}{m:List (List Int)}{wo:List Int}(hq:Sq n m)(hk:k<n):DI en (M.setCol (M.turned m) k wo) (List.range n)=DI (fun a j=>if a=k then en wo j else en (m.getD a []) j) (List.range n) (List.range n):=by
 rw[setCol_DI hq.turned.len hq.turned.row hk,DI_turn (by simp)]
 refine DI_congr fun a ha j hj=>?_
 split
 ·rfl
 ·exact turned_at hq (List.mem_range.1 hj) (List.mem_range.1 ha)
structure Proof(l:List Cask)(s:Sample)(wo:List Int)(w:Wts):Prop where
 den:1≤w.den∧w.den≤200000000000
 each:w.each.natAbs≤100000000000000
 len:w.casks.length=l.length
 all:Each (fun b=>0≤b∧b≤200000000000) w
 gift:∀j,j<l.length→gift l s w j≤en wo j*w.den
theorem opt_wts(h:RightL l s)(he:e≤1){wo:List Int}(hwl:wo.length=l.length+e)(hwe:∀j,j<l.length+e→(en wo j).natAbs≤Kb l.length j){W:Nat→Nat}(hW:∀j,j<l.length+e→(en wo j).natAbs≤W j)(hWb:bnd W (Kb l.length) (List.range (l.length+e))≤100000000000000)
  {x:M.Corner} (ho:Opt (l.length+e) (M.shares l e) s.vol wo (M.limits l s e) x) :
  Proof l s wo (M.wtsOf x l.length)∧(M.wtsOf x l.length).den=x.wd∧bound l s (M.wtsOf x l.length)*x.den=x.wd*dl (l.length+e) wo x.pt ∧
  (e=1→phi (M.wtsOf x l.length) l.length (fun _=>0) (fun _=>1) (fun _=>1)≤en wo l.length*x.wd):=by
 obtain⟨a1,a2,a3,a4,a5⟩:=limits_small h he
 have n5:l.length+e≤5:=by have:=h.n4;omega
 have hm:∀c,c∈x.tight→c∈M.limits l s e:=fun c hc=>ho.sub.subset hc
 have hq:=sq_mat n5 a1 a2 a3 a4 ho.tl hm
 have hkey:(x.tight.map fun c=>(c.kind,c.which)).Nodup:=by
  have:=keys_nodup l.length h.n4 e he
  rw[←limits_keys l s e]at this
  exact List.Sublist.nodup (ho.sub.map _) this
 obtain⟨w1,w2,w3,w4,w5⟩:=weights_spec (wd:=x.wd) (each:=x.each) (by_:=x.by_) hkey (fun c hc=>limits_ok (hm c hc))
 have hden:=mat_den h he ho.tl hm
 have hby:∀q,q<x.tight.length→0≤en x.by_ q∧en x.by_ q≤200000000000:=by
  intro q hql
  have h1:=ho.nn q hql
  have h2:=ho.byE q hql
  have h3:(DI en (M.setCol (M.turned (M.mat (M.shares l e) x.tight)) (q+1) wo) (List.range (l.length+e))).natAbs≤200000000000:=by
   rw[setT_DI hq (by have:=ho.tl;omega)]
   refine Nat.le_trans (DI_bnd_idx (K0:=S0 l.length) (K:=Kb l.length) (by have:=h.n1;omega) (fun c _=>?_) (fun i h1 hi c hc=>?_)) (num_den _ h.n4 e he)
   ·rw[if_neg (by omega)];exact mat_ent0 c
   ·by_cases e1:i=q+1
    ·rw[if_pos e1];exact hwe c hc
    ·rw[if_neg e1];exact mat_ent h he hm i h1 (by have:=ho.tl;omega) c hc
  omega
 have heach:x.each.natAbs≤100000000000000:=by
  rw[ho.eachE,setT_DI hq (by have:=ho.tl;omega)]
  refine Nat.le_trans (DI_bnd_idx (K0:=W) (K:=Kb l.length) (by have:=h.n1;omega) (fun c hc=>?_) (fun i h1 hi c hc=>?_)) hWb
  ·rw[if_pos rfl];exact hW c hc
  ·rw[if_neg (by omega)];exact mat_ent h he hm i h1 (by have:=ho.tl;omega) c hc
 have e1:M.wtsOf x l.length=M.weights x.wd x.each x.tight x.by_ l.length:=rfl
 have hz:∀j:Nat,0≤smI (fun q=>en x.by_ q*if(x.tight.getD q dK).kind=0∧(x.tight.getD q dK).which=(j:Int)then 1 else 0) (List.range x.tight.length):=by
  intro j
  have:=smI_le (l:=List.range x.tight.length) (g:=fun _=>0) (h:=fun q=>en x.by_ q*if(x.tight.getD q dK).kind=0∧(x.tight.getD q dK).which=(j:Int)then 1 else 0) (fun q hq'=>by
   have:=(hby q (List.mem_range.1 hq')).1
   split <;>omega)
  rw[smI_zero]at this
  exact this
 have hsplit:∀(j:Nat) (g:Cond→Int),(∀c,c∈M.limits l s e→en c.coefs j=g c-if c.kind=0∧c.which=(j:Int)then 1 else 0) →
   smI (fun q=>en x.by_ q*en (x.tight.getD q dK).coefs j) (List.range x.tight.length)=smI (fun q=>en x.by_ q*g (x.tight.getD q dK)) (List.range x.tight.length)-smI (fun q=>en x.by_ q*if(x.tight.getD q dK).kind=0∧(x.tight.getD q dK).which=(j:Int)then 1 else 0) (List.range x.tight.length):=by
  intro j g hg
  rw[Int.sub_eq_add_neg,←smI_neg,←smI_add]
  refine smI_congr fun q hq'=>?_
  rw[hg _ (hm _ (getD_mem (List.mem_range.1 hq'))),Int.mul_sub,Int.sub_eq_add_neg]
 refine⟨⟨?_,?_,?_,?_,fun j hj=>?_⟩,?_,?_,fun h1=>?_⟩
 ·rw[e1,w1]
  have:=ho.wd;have:=ho.wdE;omega
 ·rw[e1,w2];exact heach
 ·rw[e1,w3]
 ·rw[e1];exact w5 _ (by decide) hby
 ·unfold gift
  rw[e1,w1,w2,w4]
  have hd:=ho.dual j (by omega)
  rw[shares_en,hsplit j _ (fun c hc=>coef_ph h he hc hj)]at hd
  unfold S0 at hd
  rw[if_pos hj]at hd
  have:=hz j
  rw[←hd]
  have e2:x.each*((1:Nat):Int)=x.each:=Int.mul_one _
  rw[e2]
  omega
 ·rw[e1,w1]
 ·unfold bound
  rw[e1,w2,w4,←opt_strong ho]
  congr 2
  exact smI_congr fun q hq'=>by rw[←limit_ph (hm _ (getD_mem (List.mem_range.1 hq')))]
 ·subst h1
  have hd:=ho.dual l.length (by omega)
  rw[shares_en,hsplit l.length (fun c=> - ph (fun _=>0) (fun _=>1) (fun _=>1) c) (fun c hc=>coef_far hc)]at hd
  unfold S0 at hd
  rw[if_neg (by omega)]at hd
  have:=hz l.length
  have e3:smI (fun q=>en x.by_ q * - ph (fun _=>0) (fun _=>1) (fun _=>1) (x.tight.getD q dK)) (List.range x.tight.length)= - smI (fun q=>en x.by_ q*ph (fun _=>0) (fun _=>1) (fun _=>1) (x.tight.getD q dK)) (List.range x.tight.length):=by
   rw[←smI_neg];exact smI_congr fun q _=>Int.mul_neg _ _
  rw[e3]at hd
  rw[e1,w4,←hd]
  have e2:x.each*((0:Nat):Int)=0:=Int.mul_zero _
  rw[e2]
  omega
end
end Go.Bl
end
section
set_option maxRecDepth 100000
namespace Go.Bl
open Go.V Go.Proofs Go.Lp
def wsum(w:Wts):Int:=(w.x0+w.x1+w.x2+w.x3)+(w.y0+w.y1+w.y2+w.y3)
section
variable {l : List Cask} {s : Sample} {e : Nat}
theorem gift_eq(w:Wts){j:Nat}(hj:j<l.length):gift l s w j=w.each-en w.casks j-(w.x0*hiF l s j 0+w.x1*hiF l s j 1+w.x2*hiF l s j 2+w.x3*hiF l s j 3)-(w.y0*loF l s j 0+w.y1*loF l s j 1+w.y2*loF l s j 2+w.y3*loF l s j 3):=by
 unfold gift phi
 rw[smI_congr (h:=fun i=>0+if i=j then en w.casks j else 0) (fun i _=>by
  dsimp only
  by_cases e1:i=j
  ·subst e1;rw[if_pos rfl,if_pos rfl];omega
  ·rw[if_neg e1,if_neg e1];omega),smI_if,smI_zero,if_pos hj]
 omega
theorem bound_eq(w:Wts):bound l s w=w.each*s.vol-smI (fun i=>en w.casks i*(l.getD i dfC).vol) (List.range l.length):=by
 unfold bound phi;dsimp only;omega
theorem smI_mul_right{g:Nat→Int}{k:Int}{L:List Nat}:smI g L*k=smI (fun a=>g a*k) L:=by
 rw[Int.mul_comm,←smI_smul];exact smI_congr fun a _=>Int.mul_comm _ _
theorem weak_blend{pt:List Int}{den far:Int}(hb:Blend l s pt den far){w:Wts}(hw:Each (fun b=>0≤b) w){g:Nat→Int}(hg:∀j,j<l.length→gift l s w j≤g j) :
  bound l s w*den≤smI (fun j=>g j*en pt j) (List.range l.length)+wsum w*far:=by
 obtain⟨hc,⟨x0,x1,x2,x3⟩,y0,y1,y2,y3⟩:=hw
 have h1:bound l s w*den=w.each*smI (fun j=>en pt j) (List.range l.length)-smI (fun i=>en w.casks i*((l.getD i dfC).vol*den)) (List.range l.length):=by
  rw[bound_eq,Int.sub_mul,hb.sum,Int.mul_assoc,smI_mul_right]
  congr 1
  exact smI_congr fun i _=>Int.mul_assoc _ _ _
 have h2:smI (fun i=>en w.casks i*en pt i) (List.range l.length)≤smI (fun i=>en w.casks i*((l.getD i dfC).vol*den)) (List.range l.length):=
  smI_le fun i hi=>Int.mul_le_mul_of_nonneg_left (hb.p1 i (List.mem_range.1 hi)) (hc i)
 have h3:smI (fun j=>gift l s w j*en pt j) (List.range l.length)≤smI (fun j=>g j*en pt j) (List.range l.length):=
  smI_le fun j hj=>Int.mul_le_mul_of_nonneg_right (hg j (List.mem_range.1 hj)) (hb.p0 j (List.mem_range.1 hj))
 have h4:smI (fun j=>gift l s w j*en pt j) (List.range l.length)=w.each*smI (fun j=>en pt j) (List.range l.length)-smI (fun i=>en w.casks i*en pt i) (List.range l.length) -
   (w.x0*smI (fun j=>hiF l s j 0*en pt j) (List.range l.length)+w.x1*smI (fun j=>hiF l s j 1*en pt j) (List.range l.length)+w.x2*smI (fun j=>hiF l s j 2*en pt j) (List.range l.length)+w.x3*smI (fun j=>hiF l s j 3*en pt j) (List.range l.length)) -
   (w.y0*smI (fun j=>loF l s j 0*en pt j) (List.range l.length)+w.y1*smI (fun j=>loF l s j 1*en pt j) (List.range l.length)+w.y2*smI (fun j=>loF l s j 2*en pt j) (List.range l.length)+w.y3*smI (fun j=>loF l s j 3*en pt j) (List.range l.length)):=by
  simp only[←smI_smul,Int.sub_eq_add_neg,←smI_neg,←smI_add]
  refine smI_congr fun j hj=>?_
  rw[gift_eq w (List.mem_range.1 hj)]
  simp only[Int.sub_eq_add_neg,Int.add_mul,Int.neg_mul,Int.mul_assoc]
 have k0:=Int.mul_le_mul_of_nonneg_left (hb.hi 0 (by decide)) x0
 have k1:=Int.mul_le_mul_of_nonneg_left (hb.hi 1 (by decide)) x1
 have k2:=Int.mul_le_mul_of_nonneg_left (hb.hi 2 (by decide)) x2
 have k3:=Int.mul_le_mul_of_nonneg_left (hb.hi 3 (by decide)) x3
 have q0:=Int.mul_le_mul_of_nonneg_left (hb.lo 0 (by decide)) y0
 have q1:=Int.mul_le_mul_of_nonneg_left (hb.lo 1 (by decide)) y1
 have q2:=Int.mul_le_mul_of_nonneg_left (hb.lo 2 (by decide)) y2
 have q3:=Int.mul_le_mul_of_nonneg_left (hb.lo 3 (by decide)) y3
 have e5:wsum w*far=(w.x0*far+w.x1*far+w.x2*far+w.x3*far)+(w.y0*far+w.y1*far+w.y2*far+w.y3*far):=by
  unfold wsum;simp only[Int.add_mul]
 unfold hiF loF at h4
 rw[h1,e5]
 omega
theorem limits_zero{i:Nat}(hi:i<l.length+e):(M.limits l s e).getD i dK=⟨0,i,M.only (l.length+e) i (-1),0⟩:=by
 unfold M.limits
 rw[List.getD_eq_getElem?_getD,List.getElem?_append_left (by simp;omega),List.getElem?_append_left (by simpa using hi),List.getElem?_map,List.getElem?_range hi]
 rfl
def stA(m a c:Nat):Int:=if a=0 then(if c<m then 1 else 0)else if c+1=a then -1 else 0
def stB(m e j:Nat):List Nat:=((List.range (m+e)).filter fun i=>decide (i≠j)).map (· + 1)
theorem start_det:∀m,m≤4→∀e,e≤1→∀j,j<m→DI (stA m) (0::stB m e j) (List.range (m+e))≠0:=by decide +kernel
theorem start_len:∀m,m≤4→∀e,e≤1→∀j,j<m→(stB m e j).length+1=m+e:=by decide +kernel
theorem stB_mem{m j a:Nat}(h:a∈stB m e j):∃i,a=i+1∧i<m+e∧i≠j:=by
 unfold stB at h
 obtain⟨i,hi,rfl⟩:=List.mem_map.1 h
 obtain⟨h1,h2⟩:=List.mem_filter.1 hi
 exact⟨i,rfl,List.mem_range.1 h1,by simpa using h2⟩
theorem smI_filter{g:Nat→Int}{p:Nat→Bool}:∀{L:List Nat},smI g (L.filter p)=smI (fun a=>if p a=true then g a else 0) L
 |[]=>rfl
 |a::L=>by
  rw[List.filter_cons]
  split
  ·rename_i h;simp only[smI];rw[if_pos h,smI_filter]
  ·rename_i h;simp only[smI];rw[if_neg h,smI_filter];omega
theorem rowF_stA{a c:Nat}(ha:a=0∨∃i,a=i+1∧i<l.length+e)(hc:c<l.length+e):en ((M.mat (M.shares l e) (M.limits l s e)).getD a []) c=stA l.length a c:=by
 rcases ha with rfl|⟨i,rfl,hi⟩
 ·rw[mat0,shares_en];unfold S0 stA;rw[if_pos rfl];split <;>rfl
 ·rw[matS,limits_zero hi]
  show en (M.only _ i (-1)) c=_
  rw[en_only hc];unfold stA
  by_cases h:c=i
  ·rw[if_pos h,if_neg (by omega),if_pos (by omega)]
  ·rw[if_neg h,if_neg (by omega),if_neg (by omega)]
theorem start_sum{m j c:Nat}{wo sh:Nat→Int}(hj:j<m)(hc:c<m+e)(hs:∀i,sh i=if i<m then 1 else 0) :
  smI (fun a=>(if a=0 then wo j else wo j*sh (a-1)-wo (a-1))*stA m a c) (0::stB m e j)=wo c:=by
 simp only[smI]
 unfold stB
 rw[smI_map,smI_filter]
 rw[smI_congr (h:=fun i=>0+if i=c then(if c=j then 0 else-(wo j*sh c-wo c))else 0) (fun i hi=>by
  unfold stA
  rw[if_neg (show ¬i+1=0 by omega),if_neg (show ¬i+1=0 by omega),Nat.add_sub_cancel]
  by_cases h:i=c
  ·subst h
   rw[if_pos rfl,if_pos rfl]
   by_cases h2:i=j
   ·rw[if_pos h2,if_neg (by simpa using h2)];omega
   ·rw[if_neg h2,if_pos (by simpa using h2)];omega
  ·rw[if_neg h,if_neg (show ¬c+1=i+1 by omega)]
   split <;>omega),smI_if,smI_zero,if_pos hc]
 unfold stA
 simp only[↓reduceIte]
 by_cases h2:c=j
 ·subst h2;rw[if_pos hj,if_pos rfl];omega
 ·rw[if_neg h2,hs c]
  split <;>omega
theorem rat_cancel{a b d:Rat}(h:d≠0)(e:a*d=b*d):a=b:=by
 have h1:(a-b)*d=0:=by grind
 rcases Rat.mul_eq_zero.1 h1 with h2|h2
 ·grind
 ·exact absurd h2 h
theorem prog_none(h:RightL l s)(he:e≤1){wo:List Int}(hwl:wo.length=l.length+e)(hwe:∀x,x∈wo→x.natAbs≤1000){j:Nat}(hj:j<l.length)(hjm:∀c,c<l.length+e→en wo j*(if c<l.length then 1 else 0)≤en wo c)
  (hp:M.psolve (M.shares l e) s.vol wo (M.limits l s e)=none) {pt:List Int} {den:Int} (hb:Blend l s pt den (farOf e l.length pt)) (h0:0≤farOf e l.length pt):False:=by
 obtain⟨b1,b2⟩:=blend_conds h he hb h0
 have hd0:((den:Int):Rat)≠0:=by
  intro e1
  have:=Rat.intCast_inj.1 (show((den:Int):Rat)=((0:Int):Rat)from e1)
  have:=hb.dp;omega
 have hdp:(0:Rat)<((den:Int):Rat):=by
  have:=Rat.intCast_lt_intCast.2 hb.dp
  exact this
 have cast:∀a:List Int,sm (fun c=>((en a c:Int):Rat)*(((en pt c:Int):Rat)/((den:Int):Rat))) (List.range (l.length+e))*((den:Int):Rat)=((dl (l.length+e) a pt:Int):Rat):=by
  intro a
  unfold dl
  rw[smI_cast,Rat.mul_comm,←sm_smul]
  refine sm_congr fun c _=>?_
  rw[Rat.intCast_mul]
  have:((en pt c:Int):Rat)/((den:Int):Rat)*((den:Int):Rat)=((en pt c:Int):Rat):=Rat.div_mul_cancel hd0
  rw[Rat.mul_comm,Rat.mul_assoc,this]
 refine psolve_none (small_of h he hwl hwe) hp (B:=stB l.length e j) (start_len _ h.n4 e he j hj) (fun a ha=>?_) ?_ ⟨fun a=>(((if a=0 then en wo j else en wo j*(if a-1<l.length then 1 else 0)-en wo (a-1)):Int):Rat),fun a ha=>?_,fun c hc=>?_⟩ (fun c=>((en pt c:Int):Rat)/((den:Int):Rat)) ?_ (fun c hc=>?_)
 ·obtain⟨i,rfl,h1,h2⟩:=stB_mem ha
  rw[limits_len];omega
 ·refine(D_ne (f:=fun a c=>en ((M.mat (M.shares l e) (M.limits l s e)).getD a []) c)).2 ?_
  rw[List.singleton_append,DI_congr (g:=stA l.length) (fun a ha c hc=>rowF_stA (by
   rcases List.mem_cons.1 ha with rfl|ha
   ·exact .inl rfl
   ·obtain⟨i,rfl,h1,_⟩:=stB_mem ha
    exact .inr ⟨i,rfl,h1⟩) (List.mem_range.1 hc))]
  exact start_det _ h.n4 e he j hj
 ·obtain⟨i,rfl,h1,h2⟩:=stB_mem ha
  show((_:Int):Rat)≤((0:Int):Rat)
  apply Rat.intCast_le_intCast.2
  rw[if_neg (by omega),Nat.add_sub_cancel]
  have:=hjm i h1
  omega
 ·have hc:=List.mem_range.1 hc
  have key:=start_sum (wo:=en wo) (sh:=fun i=>if i<l.length then 1 else 0) (e:=e) hj hc (fun _=>rfl)
  unfold woF
  rw[←key,smI_cast,List.singleton_append]
  refine sm_congr fun a ha=>?_
  rw[Rat.intCast_mul]
  unfold rowF
  rw[rowF_stA (by
   rcases List.mem_cons.1 ha with rfl|ha
   ·exact .inl rfl
   ·obtain⟨i,rfl,h1,_⟩:=stB_mem ha
    exact .inr ⟨i,rfl,h1⟩) hc]
 ·apply rat_cancel hd0
  rw[cast,b1,Rat.intCast_mul]
 ·apply Rat.le_of_mul_le_mul_right ?_ hdp
  rw[cast,←Rat.intCast_mul]
  exact Rat.intCast_le_intCast.2 (b2 c hc)
end
end Go.Bl
end
section
set_option maxRecDepth 100000
namespace Go.Bl
open Go.V Go.Proofs Go.Lp
section
variable {l : List Cask} {s : Sample} {x : M.Corner}
theorem far_en{j:Nat}(hj:j<l.length+1):en (M.far l) j=if j=l.length then 1 else 0:=by
 unfold M.far en
 by_cases h:j<l.length
 ·rw[if_neg (by omega),List.getD_eq_getElem?_getD,List.getElem?_append_left (by simpa using h),List.getElem?_map,List.getElem?_eq_getElem h];rfl
 ·obtain rfl:j=l.length:=by omega
  rw[if_pos rfl,List.getD_eq_getElem?_getD,List.getElem?_append_right (by simp)];simp
def cost(l:List Cask)(pt:List Int):Int:=smI (fun j=>(l.getD j dfC).cost*en pt j) (List.range l.length)
theorem Blend.congr{pt pt':List Int}{den far:Int}(hb:Blend l s pt den far)(h:∀i,i<l.length→en pt' i=en pt i):Blend l s pt' den far:=by
 refine⟨hb.dp,fun i hi=>by rw[h i hi];exact hb.p0 i hi,fun i hi=>by rw[h i hi];exact hb.p1 i hi,?_,fun k hk=>?_,fun k hk=>?_⟩
 ·rw[←hb.sum];exact smI_congr fun i hi=>h i (List.mem_range.1 hi)
 ·rw[smI_congr fun i hi=>by rw[h i (List.mem_range.1 hi)]];exact hb.hi k hk
 ·rw[smI_congr fun i hi=>by rw[h i (List.mem_range.1 hi)]];exact hb.lo k hk
structure BestS(l:List Cask)(s:Sample)(x:M.Corner):Prop where
 b:Blend l s x.pt x.den 0
 d:x.den≤200000000000
 pl:x.pt.length=l.length
 p:Proof l s (M.costs l) (M.wtsOf x l.length)
 eq:bound l s (M.wtsOf x l.length)*x.den=(M.wtsOf x l.length).den*cost l x.pt
 tb:x.tight.length≤x.by_.length∧x.tight.length≤1000∧WhichOK l.length x.tight
theorem which_ok{e:Nat}{c:Cond}(hc:c∈M.limits l s e):0≤c.which∧(c.kind=1→c.which<(l.length:Int))∧(c.kind≠1→c.kind≠0→c.which<4):=by
 rcases limits_cases hc with⟨i,hi,rfl⟩|⟨i,hi,rfl⟩|⟨k,hk,rfl⟩|⟨k,hk,rfl⟩
 ·exact⟨Int.natCast_nonneg i,fun h=>absurd h (show(0:Int)≠1 by decide),fun _ h=>absurd rfl h⟩
 ·exact⟨Int.natCast_nonneg i,fun _=>by show(i:Int)<_;omega,fun h=>absurd rfl h⟩
 ·exact⟨Int.natCast_nonneg k,fun h=>absurd h (show(2:Int)≠1 by decide),fun _ _=>by show(k:Int)<_;omega⟩
 ·exact⟨Int.natCast_nonneg k,fun h=>absurd h (show(3:Int)≠1 by decide),fun _ _=>by show(k:Int)<_;omega⟩
theorem opt_tb{n e:Nat}{sh wo:List Int}{sum:Int}(hn:n≤5)(ho:Opt n sh sum wo (M.limits l s e) x):x.tight.length≤x.by_.length∧x.tight.length≤1000∧WhichOK l.length x.tight:=
 ⟨by rw[ho.bl];exact Nat.le_refl _,by have:=ho.tl;omega,fun c hc=>which_ok (ho.sub.subset hc)⟩
structure NearS(l:List Cask)(s:Sample)(x:M.Corner):Prop where
 b:Blend l s x.pt x.den (en x.pt l.length)
 f0:0≤en x.pt l.length
 d:x.den≤200000000000
 pl:x.pt.length=l.length+1
 p:Proof l s (M.far l) (M.wtsOf x l.length)
 eq:bound l s (M.wtsOf x l.length)*x.den=(M.wtsOf x l.length).den*en x.pt l.length
 ws:wsum (M.wtsOf x l.length)≤(M.wtsOf x l.length).den
 tb:x.tight.length≤x.by_.length∧x.tight.length≤1000∧WhichOK l.length x.tight
theorem far_small:∀j,j<l.length+1→(en (M.far l) j).natAbs≤if j<l.length then 0 else 1:=by
 intro j hj
 rw[far_en hj]
 by_cases h:j<l.length
 ·rw[if_pos h,if_neg (by omega)];decide
 ·rw[if_neg h,if_pos (by omega)];decide
theorem near_corner(h:RightL l s)(hp:M.psolve (M.shares l 1) s.vol (M.far l) (M.limits l s 1)=some x):NearS l s x:=by
 have hc:=far_small (l:=l)
 have hl:(M.far l).length=l.length+1:=far_len l
 have h1:∀j,j<l.length+1→(en (M.far l) j).natAbs≤1:=fun j hj=>Nat.le_trans (hc j hj) (by split <;>decide)
 have ho:=psolve_some (small_of h (e:=1) (by decide) hl (ent_of hl fun j hj=>Nat.le_trans (h1 j hj) (by decide))) hp
 obtain⟨b1,b2⟩:=conds_blend h (by decide) ho.den ho.sum ho.all
 obtain⟨p1,p2,p3,p4⟩:=opt_wts h (by decide) hl (fun j hj=>Nat.le_trans (h1 j hj) (by unfold Kb;split <;>decide)) (W:=fun c=>if c<l.length then 0 else 1) hc (num_far _ h.n4) ho
 have p4:=p4 rfl
 rw[far_en (by omega),if_pos rfl]at p4
 refine⟨b1,b2,?_,ho.pl,p1,?_,?_,opt_tb (by have:=h.n4;omega) ho⟩
 ·rw[←ho.wdE.trans ho.denE.symm,←p2];exact p1.den.2
 ·rw[p3,p2]
  congr 1
  unfold dl
  rw[smI_succ,far_en (by omega),if_pos rfl,smI_congr (h:=fun _=>0) (fun j hj=>by
   have hj:=List.mem_range.1 hj
   rw[far_en (by omega),if_neg (by omega),Int.zero_mul]),smI_zero]
  omega
 ·rw[p2]
  have:phi (M.wtsOf x l.length) l.length (fun _=>0) (fun _=>1) (fun _=>1)=wsum (M.wtsOf x l.length):=by
   unfold phi wsum
   rw[smI_congr (h:=fun _=>0) (fun i _=>Int.mul_zero _),smI_zero]
   dsimp only
   omega
  omega
def vols(l:List Cask):Int:=smI (fun i=>(l.getD i dfC).vol) (List.range l.length)
theorem near_ex(h:RightL l s)(hv:s.vol≤vols l):∃x,M.psolve (M.shares l 1) s.vol (M.far l) (M.limits l s 1)=some x:=by
 cases hp:M.psolve (M.shares l 1) s.vol (M.far l) (M.limits l s 1)with
 |some x=>exact⟨x,rfl⟩
 |none=>
  exfalso
  have hl:(M.far l).length=l.length+1:=far_len l
  have hs:=h.v
  have hvp:0<vols l:=by omega
  obtain⟨pt,hpt⟩:∃pt,pt=(List.range l.length).map (fun i=>(l.getD i dfC).vol*s.vol)++ [1000*s.vol*vols l]:=⟨_,rfl⟩
  have e1:∀i,i<l.length→en pt i=(l.getD i dfC).vol*s.vol:=by
   intro i hi
   rw[hpt];unfold en
   rw[List.getD_eq_getElem?_getD,List.getElem?_append_left (by simpa using hi),List.getElem?_map,List.getElem?_range hi];rfl
  have e2:en pt l.length=1000*s.vol*vols l:=by
   rw[hpt];unfold en
   rw[List.getD_eq_getElem?_getD,List.getElem?_append_right (by simp)];simp
  have hsum:smI (fun i=>en pt i) (List.range l.length)=s.vol*vols l:=by
   unfold vols
   rw[←smI_smul]
   exact smI_congr fun i hi=>by rw[e1 i (List.mem_range.1 hi),Int.mul_comm]
  have hle:∀g:Nat→Int,(∀i,i<l.length→g i≤1000)→smI (fun i=>g i*en pt i) (List.range l.length)≤1000*s.vol*vols l:=by
   intro g hg
   rw[Int.mul_assoc,←hsum,←smI_smul]
   refine smI_le fun i hi=>?_
   have hi:=List.mem_range.1 hi
   refine Int.mul_le_mul_of_nonneg_right (hg i hi) ?_
   rw[e1 i hi]
   exact Int.mul_nonneg (h.rc i hi).vol.1 (by omega)
  refine prog_none h (e:=1) (by decide) hl (ent_of hl fun j hj=>Nat.le_trans (far_small j hj) (by split <;>decide)) (j:=0) h.n1 (fun c hc=>?_) hp (pt:=pt) (den:=vols l) ?_ ?_
  ·have:=h.n1
   rw[far_en (by omega),if_neg (by omega),far_en hc]
   split <;>split <;>decide
  ·show Blend l s pt (vols l) (en pt l.length)
   rw[e2]
   refine⟨hvp,fun i hi=>?_,fun i hi=>?_,hsum,fun k hk=>hle _ fun i hi=>?_,fun k hk=>hle _ fun i hi=>?_⟩
   ·rw[e1 i hi];exact Int.mul_nonneg (h.rc i hi).vol.1 (by omega)
   ·rw[e1 i hi];exact Int.mul_le_mul_of_nonneg_left hv (h.rc i hi).vol.1
   ·have:=(h.hiF hi hk).2;omega
   ·have:=(h.loF hi hk).2;omega
  ·show 0≤en pt l.length
   rw[e2]
   exact Int.mul_nonneg (Int.mul_nonneg (by decide) (by omega)) (by omega)
theorem Blend.parts(h:RightL l s){pt:List Int}{den far:Int}(hb:Blend l s pt den far)(hd:den≤200000000000)(hl:pt.length=l.length):RightP l den pt:=by
 refine⟨hl,⟨hb.dp,hd⟩,fun i hi=>⟨hb.p0 i hi,?_⟩⟩
 have h1:=hb.p1 i hi
 have h2:=(h.rc i hi).vol
 have h3:(l.getD i dfC).vol*den≤10000*200000000000:=Int.mul_le_mul h2.2 hd (Int.le_of_lt hb.dp) (by decide)
 show pt.getD i 0≤_
 have h1:pt.getD i 0≤(l.getD i dfC).vol*den:=h1
 omega
theorem sum_vol(h:RightL l s){pt:List Int}{den:Int}(hp:RightP l den pt):M.sumP (fun _=>1) l pt=smI (fun i=>en pt i) (List.range l.length):=by
 rw[(vol_bound h.n4 hp).1,smI_dot];rfl
theorem open_of(h:RightL l s){pt:List Int}{den far:Int}(hb:Blend l s pt den far)(hd:den≤200000000000)(hl:pt.length=l.length):OpenR l s den pt:=by
 have hp:=hb.parts h hd hl
 refine⟨h.n4,h.rc,hp,?_,⟨h.lo 0 (by decide),h.hi 0 (by decide)⟩,⟨h.lo 1 (by decide),h.hi 1 (by decide)⟩,⟨h.lo 2 (by decide),h.hi 2 (by decide)⟩,⟨h.lo 3 (by decide),h.hi 3 (by decide)⟩⟩
 rw[sum_vol h hp,hb.sum]
 have:=Int.mul_pos (show 0<s.vol by have:=h.v;omega) hb.dp
 omega
theorem away_le(h:RightL l s){pt:List Int}{den:Int}(ho:OpenR l s den pt){F:Int}:M.away l pt s≤F↔0≤F∧∀k,k<4→smI (fun i=>(M.val (l.getD i dfC) k-(M.rg s k).hi)*en pt i) (List.range l.length)≤F∧smI (fun i=>((M.rg s k).lo-M.val (l.getD i dfC) k)*en pt i) (List.range l.length)≤F:=by
 have hk:∀(k:Nat) (of:Cask→Int),k<4→(∀c,of c=M.val c k)→M.valL l pt of (M.rg s k).hi=smI (fun i=>(M.val (l.getD i dfC) k-(M.rg s k).hi)*en pt i) (List.range l.length)∧IntKind.i64.wrap (0-M.valL l pt of (M.rg s k).lo)=smI (fun i=>((M.rg s k).lo-M.val (l.getD i dfC) k)*en pt i) (List.range l.length):=by
  intro k of hk hof
  have hof':∀i,i<l.length→0≤of (l.getD i dfC)∧of (l.getD i dfC)≤1000:=fun i hi=>by rw[hof];exact(h.rc i hi).val k
  have h1:=valL_eq h.n4 ho.parts hof' (h.hi k hk)
  have h2:=valL_eq h.n4 ho.parts hof' (h.lo k hk)
  have h3:=(kind_eq h.n4 ho.parts hof' (h.lo k hk) (h.hi k hk)).2.2.1
  constructor
  ·rw[h1.1,←smI_dot]
   refine smI_congr fun i _=>?_
   rw[hof,Int.mul_comm];rfl
  ·rw[h3,h2.1,←smI_dot,Int.zero_sub,←smI_neg]
   refine smI_congr fun i _=>?_
   rw[hof,←Int.mul_neg,Int.mul_comm,Int.neg_sub];rfl
 obtain⟨a1,a2⟩:=hk 0 (M.kOf 0) (by decide) (fun _=>rfl)
 obtain⟨b1,b2⟩:=hk 1 (M.kOf 1) (by decide) (fun _=>rfl)
 obtain⟨c1,c2⟩:=hk 2 (M.kOf 2) (by decide) (fun _=>rfl)
 obtain⟨d1,d2⟩:=hk 3 (M.kOf 3) (by decide) (fun _=>rfl)
 rw[←(far_away ho).1]
 unfold M.farR M.farK
 rw[show s.r0=M.rg s 0 from rfl,show s.r1=M.rg s 1 from rfl,show s.r2=M.rg s 2 from rfl,show s.r3=M.rg s 3 from rfl,a1,a2,b1,b2,c1,c2,d1,d2]
 simp only[mx_le]
 constructor
 ·rintro ⟨⟨⟨⟨⟨⟨⟨⟨x0,x1⟩,x2⟩,x3⟩,x4⟩,x5⟩,x6⟩,x7⟩,x8⟩
  refine⟨x0,fun k hk=>?_⟩
  rcases four hk with rfl|rfl|rfl|rfl
  ·exact⟨x2,x1⟩
  ·exact⟨x4,x3⟩
  ·exact⟨x6,x5⟩
  ·exact⟨x8,x7⟩
 ·rintro ⟨x0,hx⟩
  exact⟨⟨⟨⟨⟨⟨⟨⟨x0,(hx 0 (by decide)).2⟩,(hx 0 (by decide)).1⟩,(hx 1 (by decide)).2⟩,(hx 1 (by decide)).1⟩,(hx 2 (by decide)).2⟩,(hx 2 (by decide)).1⟩,(hx 3 (by decide)).2⟩,(hx 3 (by decide)).1⟩
theorem near_away(h:RightL l s)(hx:NearS l s x):M.away l (x.pt.take l.length) s=en x.pt l.length:=by
 have htl:(x.pt.take l.length).length=l.length:=by rw[List.length_take,hx.pl];omega
 have hte:∀i,i<l.length→en (x.pt.take l.length) i=en x.pt i:=fun i hi=>by
  unfold en;rw[List.getD_eq_getElem?_getD,List.getElem?_take,if_pos hi,←List.getD_eq_getElem?_getD]
 have hb:=hx.b.congr hte
 have ho:=open_of h hb hx.d htl
 have h1:M.away l (x.pt.take l.length) s≤en x.pt l.length:=(away_le h ho).2 ⟨hx.f0,fun k hk=>⟨hb.hi k hk,hb.lo k hk⟩⟩
 obtain⟨a0,ak⟩:=(away_le h ho).1 (Int.le_refl _)
 have hb':Blend l s (x.pt.take l.length) x.den (M.away l (x.pt.take l.length) s):=⟨hb.dp,hb.p0,hb.p1,hb.sum,fun k hk=>(ak k hk).1,fun k hk=>(ak k hk).2⟩
 have hall:Each (fun b=>0≤b) (M.wtsOf x l.length):=by
  obtain⟨g1,⟨g2,g3,g4,g5⟩,g6,g7,g8,g9⟩:=hx.p.all
  exact⟨fun i=>(g1 i).1,⟨g2.1,g3.1,g4.1,g5.1⟩,g6.1,g7.1,g8.1,g9.1⟩
 have hw:=weak_blend hb' hall (g:=fun j=>en (M.far l) j*(M.wtsOf x l.length).den) hx.p.gift
 rw[smI_congr (h:=fun _=>0) (fun j hj=>by
  have hj:=List.mem_range.1 hj
  rw[far_en (by omega),if_neg (by omega),Int.zero_mul,Int.zero_mul]),smI_zero,hx.eq,Int.zero_add]at hw
 have h2:=Int.mul_le_mul_of_nonneg_right hx.ws a0
 have h3:(M.wtsOf x l.length).den*en x.pt l.length≤(M.wtsOf x l.length).den*M.away l (x.pt.take l.length) s:=Int.le_trans hw h2
 have h4:=Int.le_of_mul_le_mul_left h3 (show 0<(M.wtsOf x l.length).den by have:=hx.p.den;omega)
 omega
theorem vols_eq(h:RightL l s):M.volumes l=vols l:=by
 have:=(fold_dot (f:=fun a i=>IntKind.i64.wrap (a+(l.getD i dfC).vol)) (y:=fun i=>(l.getD i dfC).vol) (n:=l.length) (fun a i _=>rfl) (fun i hi=>by have:=(h.rc i hi).vol;omega) h.n4).1
 unfold vols
 rw[smI_dot,←this]
 rfl
theorem near_right(he:M.nearErr l s=0):RightL l s∧s.vol≤vols l:=by
 unfold M.nearErr at he
 have hz:=first_nil _ he
 have ht:M.taskErr l s=0:=by
  unfold M.taskErr
  have h1:=hz (M.casksErr l) (by simp)
  have h2:=hz (M.checkSample s) (by simp)
  rw[h1,h2];rfl
 have h:=task_right ht
 refine⟨h,?_⟩
 have h3:=of_decide_eq_true (unl_zero (by decide) (hz (M.unl (decide (M.volumes l≥s.vol)) 24) (by simp)))
 rw[vols_eq h]at h3
 exact h3
theorem near_some(h:RightL l s)(hv:s.vol≤vols l):NearS l s (M.pNear l s):=by
 obtain⟨x,hx⟩:=near_ex h hv
 have:M.pNear l s=x:=by unfold M.pNear;rw[hx];rfl
 rw[this]
 exact near_corner h hx
theorem near_take(h:RightL l s)(hx:NearS l s x):OpenR l s x.den (x.pt.take l.length)∧Blend l s (x.pt.take l.length) x.den (en x.pt l.length):=by
 have htl:(x.pt.take l.length).length=l.length:=by rw[List.length_take,hx.pl];omega
 have hte:∀i,i<l.length→en (x.pt.take l.length) i=en x.pt i:=fun i hi=>by
  unfold en;rw[List.getD_eq_getElem?_getD,List.getElem?_take,if_pos hi,←List.getD_eq_getElem?_getD]
 have hb:=hx.b.congr hte
 exact⟨open_of h hb hx.d htl,hb⟩
theorem near_okay(l:List Cask)(s:Sample):NearOK l s:=by
 intro he
 obtain⟨h,hv⟩:=near_right he
 have hx:=near_some h hv
 obtain⟨a1,a2,a3,a4,a5⟩:=limits_small h (e:=1) (by decide)
 obtain⟨ho,hb⟩:=near_take h hx
 refine⟨h.n1,h.n4,fun c hc=>by rw[shares_len];exact a3 c hc,turnOK (by rw[shares_len];have:=h.n4;omega) a2 (fun c hc=>⟨by rw[shares_len];exact a3 c hc,a4 c hc⟩),by rw[hx.pl];omega,ho.vol,?_,?_⟩
 ·have:=(far_away ho).2.1;unfold i64ok;omega
 ·have:=(vol_bound h.n4 ho.parts).2;unfold i64ok;omega
end
end Go.Bl
end
section
set_option maxRecDepth 100000
namespace Go.Bl
open Go.V Go.Proofs
def dom26f:DomF
 |[.c (.sl _ n_l st_l F_l),.agg [.int .i64 sv,.int .i64 l0,.int .i64 h0,.int .i64 l1,.int .i64 h1,.int .i64 l2,.int .i64 h2,.int .i64 l3,.int .i64 h3]]=>(match Nat.beq st_l 7 with
  |true=>some ([eC.Is n_l F_l,∀c,c∈(eC.list n_l F_l)→c.nm.size≤1000000,(eC.list n_l F_l).length≤1000000],resN (M.near (eC.list n_l F_l) ⟨sv,⟨l0,h0⟩,⟨l1,h1⟩,⟨l2,h2⟩,⟨l3,h3⟩⟩))
  |_=>none)
 |_=>none
def v26f:Nat×Sm:=(26,fokSm dom26f)
theorem C26f:FOK Try.prog G0 gw 26 dom26f:=by
 intro ags p r hd hp κ w xs hw hl hG hx
 unfold dom26f at hd
 split at hd
 ·rename_i q_l n_l st_l F_l sv l0 h0 l1 h1 l2 h2 l3 h3
  split at hd
  ·rename_i hst
   simp only[Option.some.injEq,Prod.mk.injEq]at hd
   obtain⟨rfl,rfl⟩:=hd
   obtain⟨hI,hn,hl9,_⟩:=hp
   have g1:=Nat.eq_of_beq_eq_true hst
   subst g1
   refine C26 _ _ _ (rfl:dom26 _=_) ?_ κ w xs hw hl hG hx
   exact⟨hI,hn,hl9,near_okay _ _,trivial⟩
  ·cases hd
 ·cases hd
theorem S26f:SumOK Try.prog G0 gw 26 (fokSm dom26f):=fok_sum Try.func26 rfl C26f
end Go.Bl
end
section
set_option maxRecDepth 100000
namespace Go.Bl
open Go.V Go.Proofs Go.Lp
section
variable {l : List Cask} {s : Sample} {x : M.Corner}
theorem near_err(he:M.taskErr l s=0):M.nearErr l s=M.unl (decide (vols l≥s.vol)) 24:=by
 have h:=task_right he
 unfold M.taskErr at he
 have hz:=first_nil _ he
 unfold M.nearErr
 rw[hz (M.casksErr l) (by simp),hz (M.checkSample s) (by simp),vols_eq h,first_cons,if_pos rfl,first_cons,if_pos rfl,first_cons]
 split
 ·rename_i e;rw[e];rfl
 ·rfl
theorem near_cases(he:M.taskErr l s=0):(vols l<s.vol∧M.near l s=⟨0,[],0,0,24⟩)∨(s.vol≤vols l∧∃x,NearS l s x∧M.near l s=⟨x.den,x.pt.take l.length,M.told1 (en x.pt l.length) (s.vol*x.den),M.told2 (en x.pt l.length) (s.vol*x.den),0⟩):=by
 have h:=task_right he
 have hn:=near_err he
 by_cases hv:s.vol≤vols l
 ·rw[decide_eq_true hv]at hn
  have hn:M.nearErr l s=0:=hn
  have hx:=near_some h hv
  refine .inr ⟨hv,M.pNear l s,hx,?_⟩
  obtain⟨ho,hb⟩:=near_take h hx
  unfold M.near
  rw[hn]
  show M.nearC l s (M.pNear l s)=_
  unfold M.nearC
  rw[near_away h hx,sum_vol h ho.parts,hb.sum]
 ·rw[decide_eq_false hv]at hn
  have hn:M.nearErr l s=24:=hn
  refine .inl ⟨by omega,?_⟩
  unfold M.near
  rw[hn];rfl
theorem near_pos(h:RightL l s)(hx:NearS l s x):0<s.vol*x.den∧(en x.pt l.length).natAbs<9223372036854775808∧(s.vol*x.den).natAbs<9223372036854775808:=by
 have h1:=h.v
 have h2:=hx.b.dp
 have h3:=hx.d
 obtain⟨ho,_⟩:=near_take h hx
 have h4:=(far_away ho).2.1
 rw[near_away h hx]at h4
 have m0:=Int.mul_pos (show 0<s.vol by omega) h2
 have m1:s.vol*x.den≤10000*200000000000:=Int.mul_le_mul h1.2 h3 (by omega) (by decide)
 refine⟨m0,by omega,by omega⟩
structure Wide(s s':Sample)(d:Int):Prop where
 d0:0≤d∧d≤1000
 v:s'.vol=s.vol
 hi:∀k,k<4→(M.rg s k).hi≤(M.rg s' k).hi∧(M.rg s' k).hi≤(M.rg s k).hi+d∧((M.rg s' k).hi=1000∨(M.rg s' k).hi=(M.rg s k).hi+d)
 lo:∀k,k<4→(M.rg s' k).lo≤(M.rg s k).lo∧(M.rg s k).lo-d≤(M.rg s' k).lo∧((M.rg s' k).lo=0∨(M.rg s' k).lo=(M.rg s k).lo-d)
end
end Go.Bl
end
section
set_option maxRecDepth 100000
namespace Go.Bl
open Go.V Go.Proofs Go.Lp
section
variable {l : List Cask} {s : Sample} {x : M.Corner}
end
theorem told_mul{v n d:Int}(hv:0<v)(hd:0<d):M.told1 (v*n) (v*d)=M.told1 n d∧M.told2 (v*n) (v*d)=M.told2 n d:=by
 unfold M.told1 M.told2
 have e:((Int.gcd (v*n) (v*d):Nat):Int)=v*(Int.gcd n d:Nat):=by
  rw[Int.gcd_mul_left]
  have:((v.natAbs*Int.gcd n d:Nat):Int)=(v.natAbs:Int)*(Int.gcd n d:Nat):=by simp
  rw[this,show(v.natAbs:Int)=v by omega]
 rw[e]
 exact⟨Int.mul_tdiv_mul_of_pos _ _ hv,Int.mul_tdiv_mul_of_pos _ _ hv⟩
theorem told_congr{n d n' d':Int}(hd:0<d)(hd':0<d')(h:n*d'=n'*d):M.told1 n d=M.told1 n' d'∧M.told2 n d=M.told2 n' d':=by
 have h1:=told_mul (n:=n) hd' hd
 have h2:=told_mul (n:=n') hd hd'
 rw[←h1.1,←h1.2,←h2.1,←h2.2,Int.mul_comm d' n,h,Int.mul_comm d n',Int.mul_comm d' d]
 exact⟨rfl,rfl⟩
section
variable {l : List Cask} {s : Sample} {x : M.Corner}
theorem near_is(ht:M.taskErr l s=0)(hv:s.vol≤vols l):M.near l s=⟨(M.pNear l s).den,(M.pNear l s).pt.take l.length,M.told1 (en (M.pNear l s).pt l.length) (s.vol*(M.pNear l s).den),M.told2 (en (M.pNear l s).pt l.length) (s.vol*(M.pNear l s).den),0⟩:=by
 have h:=task_right ht
 have hn:=near_err ht
 rw[decide_eq_true hv]at hn
 have hn:M.nearErr l s=0:=hn
 have hx:=near_some h hv
 obtain⟨ho,hb⟩:=near_take h hx
 unfold M.near
 rw[hn]
 show M.nearC l s (M.pNear l s)=_
 unfold M.nearC
 rw[near_away h hx,sum_vol h ho.parts,hb.sum]
end
end Go.Bl
end
section
set_option maxRecDepth 100000
namespace Go.Bl
open Go.V Go.Proofs
theorem eI_to0{q:Bool}{n st:Nat}{F:Nat→Nat→D}(hst:(Nat.beq st 1||Nat.beq n 0)=true)(hI:eI.Is n F):(D.sl q n st F).eqv (.sl q (eI.list n F).length 1 (eI.F (eI.list n F))):=by
 rw[Bool.or_eq_true]at hst
 rcases hst with h|h
 ·have h:=Nat.eq_of_beq_eq_true h
  subst h
  exact eI.to id hI
 ·have h:=Nat.eq_of_beq_eq_true h
  subst h
  exact⟨id,by simp[Enc.list],fun h=>absurd h (Nat.lt_irrefl 0),fun i j hi=>absurd hi (Nat.not_lt_zero i)⟩
namespace M
end M
end Go.Bl
end
section
set_option maxRecDepth 100000
namespace Go.Bl
open Go.V Go.Proofs
structure RC where
 pt:List Int
 pd:Int
 wt:List Int
 wd:Int
namespace M
def rat(rows:List Rw)(costs ch:List Int):Option RC:=
 cond (rdn (rmat rows ch) (rright rows ch)==0) none
  (cond (rkeeps (rsl (rmat rows ch) (rright rows ch)) (rdn (rmat rows ch) (rright rows ch)) rows)
   (cond (rnn (rsl (turned (rmat rows ch)) costs) ch.length)
    (some ⟨rsl (rmat rows ch) (rright rows ch),rdn (rmat rows ch) (rright rows ch),rwts rows.length ch (rsl (turned (rmat rows ch)) costs),rdn (turned (rmat rows ch)) costs⟩) none) none)
end M
def rcOf:Option RC→RC
 |some x=>x
 |none=>⟨[],0,[],0⟩
def resRC(o:Option RC):List Ar:=[.agg [dL (rcOf o).pt,dI (rcOf o).pd,dL (rcOf o).wt,dI (rcOf o).wd],rB o.isSome]
structure AtOK(B:Nat)(rows:List Rw)(costs ch:List Int):Prop where
 n:costs.length=ch.length+1
 nB:costs.length≤B
 n5:costs.length≤5
 r0:0<rows.length
 rL:rows.length≤1000
 rc:∀r,r∈rows→r.co.length=costs.length
 ci:∀v,v∈ch→0≤v∧v<(rows.length:Int)
 tu:M.rdn (M.rmat rows ch) (M.rright rows ch)≠0→(M.rsl (M.turned (M.rmat rows ch)) costs).length=costs.length
theorem rsl_len{m:List (List Int)}{r:List Int}(h:M.rdn m r≠0):(M.rsl m r).length=m.length:=by
 unfold M.rdn M.rden M.rsolve at h
 unfold M.rsl M.rsol M.rsolve
 cases hd:M.rdet m.length m==0
 ·simp
 ·rw[hd]at h;exact absurd rfl h
theorem zR_none:rsEqv zR (resRC none):=⟨⟨⟨(fun e=>by cases e),rfl,fun h=>absurd h (Nat.lt_irrefl 0),fun i j hi=>absurd hi (Nat.not_lt_zero i)⟩,rfl,⟨(fun e=>by cases e),rfl,fun h=>absurd h (Nat.lt_irrefl 0),fun i j hi=>absurd hi (Nat.not_lt_zero i)⟩,rfl,trivial⟩,rfl,trivial⟩
theorem rrow_len{B:Nat}{rows:List Rw}{costs ch:List Int}(h:AtOK B rows costs ch){v:Int}(hv:v<(rows.length:Int)):(M.rrow rows v).co.length=costs.length:=by
 have h0:=h.r0
 exact h.rc _ (getD_in (by omega))
theorem rmat_len{B:Nat}{rows:List Rw}{costs ch:List Int}(h:AtOK B rows costs ch):(M.rmat rows ch).length=costs.length∧(∀r,r∈M.rmat rows ch→r.length=costs.length)∧(M.rright rows ch).length=costs.length:=by
 have h0:=h.r0
 refine⟨by simp[M.rmat,h.n],fun r hr=>?_,by simp[M.rright,h.n]⟩
 rcases List.mem_cons.1 hr with rfl|hr
 ·exact rrow_len h (by omega)
 ·obtain⟨v,hv,rfl⟩:=List.mem_map.1 hr
  exact rrow_len h (h.ci v hv).2
theorem w120{B:Nat}{rows:List Rw}{costs ch:List Int}(h:AtOK B rows costs ch):(tr120 B rows costs ch).wp (fun rs=>rsEqv rs (resRC (M.rat rows costs ch))):=by
 have hn:=h.n
 have hnB:=h.nB
 have hn5:=h.n5
 have hrL:=h.rL
 obtain⟨hl,hr,hb⟩:=rmat_len h
 refine rowT_wp h.r0 (by omega) h.ci fun x hx1 hx2=>?_
 rw[hx1,hx2]
 simp only[Enc.list_F]
 refine⟨Nat.le_refl _,Nat.le_refl _,Enc.is_F _ _ _,Enc.is_F _ _ _,by omega,by omega,by omega,fun r hr'=>by rw[hr r hr',hl],fun hd=>?_,fun hd=>?_⟩
 ·have:M.rat rows costs ch=none:=by unfold M.rat;rw[hd];rfl
  rw[this]
  exact zR_none
 have hd0:M.rdn (M.rmat rows ch) (M.rright rows ch)≠0:=by intro e;rw[e]at hd;exact absurd hd (by decide)
 have hsl:=rsl_len hd0
 have htu:=h.tu hd0
 refine holdT_wp hrL (by omega) (fun r hr'=>by rw[h.rc r hr'];omega) (fun hk=>?_) (fun hk z=>?_)
 ·have:M.rat rows costs ch=none:=by unfold M.rat;rw[hd,hk];rfl
  rw[this]
  exact zR_none
 refine turnT_wp (by omega) (by omega) (fun r hr'=>by rw[hr r hr'];omega) fun y hy=>?_
 obtain⟨tl1,tl2⟩:=turned_len (m:=M.rmat rows ch)
 rw[hy]
 refine⟨Nat.le_refl _,Enc.is_F _ _ _,Enc.is_F _ _ _,by omega,by omega,by omega,fun r hr'=>by rw[tl2 r hr',tl1],?_⟩
 refine wtT_wp h.r0 hrL (by omega) (by omega) h.ci (fun hw=>?_) (fun hw v h1 h2 h3 h4=>?_)
 ·have:M.rat rows costs ch=none:=by unfold M.rat;rw[hd,hk,hw];rfl
  show rsEqv zR _
  rw[this]
  exact zR_none
 ·have:M.rat rows costs ch=some ⟨M.rsl (M.rmat rows ch) (M.rright rows ch),M.rdn (M.rmat rows ch) (M.rright rows ch),M.rwts rows.length ch (M.rsl (M.turned (M.rmat rows ch)) costs),M.rdn (M.turned (M.rmat rows ch)) costs⟩:=by unfold M.rat;rw[hd,hk,hw];rfl
  show rsEqv (endW v) _
  rw[this]
  unfold endW
  rw[h1,h2,h3,h4]
  exact⟨⟨D.eqv_refl _,rfl,⟨(fun e=>by cases e),rfl,fun _=>rfl,fun _ _ _ _=>D.eqv_refl _⟩,rfl,trivial⟩,rfl,trivial⟩
def dom120z(B:Nat):DomF
 |[.c (.sl _ n_rows st_rows F_rows),.c (.sl _ n_costs st_costs F_costs),.c (.sl _ n_ch st_ch F_ch)]=>(match Nat.beq st_rows 2&&Nat.beq st_costs 1&&(Nat.beq st_ch 1||Nat.beq n_ch 0)with
  |true=>some ([eRw.Is n_rows F_rows,eI.Is n_costs F_costs,eI.Is n_ch F_ch,AtOK B (eRw.list n_rows F_rows) (eI.list n_costs F_costs) (eI.list n_ch F_ch)],resRC (M.rat (eRw.list n_rows F_rows) (eI.list n_costs F_costs) (eI.list n_ch F_ch)))
  |_=>none)
 |_=>none
def v120z(B:Nat):Nat×Sm:=(120,fokSm (dom120z B))
theorem C120z{B:Nat}(hS:SumOK Try.prog G0 gw 143 (fokSm (dom143g B))):FOK Try.prog G0 gw 120 (dom120z B):=by
 intro ags p r hd hp κ w xs hw hl hG hx
 unfold dom120z at hd
 split at hd
 ·rename_i q_rows n_rows st_rows F_rows q_costs n_costs st_costs F_costs q_ch n_ch st_ch F_ch
  split at hd
  ·rename_i hst
   rw[Bool.and_eq_true,Bool.and_eq_true]at hst
   obtain⟨⟨g1,g2⟩,gz_ch⟩:=hst
   have g1:=Nat.eq_of_beq_eq_true g1
   have g2:=Nat.eq_of_beq_eq_true g2
   subst g1 g2
   simp only[Option.some.injEq,Prod.mk.injEq]at hd
   obtain⟨rfl,rfl⟩:=hd
   obtain⟨hI_rows,hI_costs,hI_ch,hp⟩:=hp
   have heq:agsEqv [.c (.sl q_rows n_rows 2 F_rows),.c (.sl q_costs n_costs 1 F_costs),.c (.sl q_ch n_ch st_ch F_ch)] [.c (.sl q_rows (eRw.list n_rows F_rows).length 2 (eRw.F (eRw.list n_rows F_rows))),.c (.sl q_costs (eI.list n_costs F_costs).length 1 (eI.F (eI.list n_costs F_costs))),.c (.sl q_ch (eI.list n_ch F_ch).length 1 (eI.F (eI.list n_ch F_ch)))]:=⟨eRw.to id hI_rows,eI.to id hI_costs,eI_to0 gz_ch hI_ch,trivial⟩
   have len_rows:(eRw.list n_rows F_rows).length=n_rows:=eRw.list_len
   have len_costs:(eI.list n_costs F_costs).length=n_costs:=eI.list_len
   have len_ch:(eI.list n_ch F_ch).length=n_ch:=eI.list_len
   generalize eRw.list n_rows F_rows=rows at *
   generalize eI.list n_costs F_costs=costs at *
   generalize eI.list n_ch F_ch=ch at *
   subst len_rows len_costs len_ch
   exact fokX_fin mixed gw_stable (sl:=[v143g B]) ⟨hS,trivial⟩ Try.func120 hw hl hG hx heq rfl (t120 B _ _ _ _ _ _) (w120 hp.1)
  ·cases hd
 ·cases hd
theorem S120z{B:Nat}(hS:SumOK Try.prog G0 gw 143 (fokSm (dom143g B))):SumOK Try.prog G0 gw 120 (fokSm (dom120z B)):=fok_sum Try.func120 rfl (C120z hS)
end Go.Bl
end
section
set_option maxRecDepth 100000
namespace Go.Bl
open Go.V Go.Proofs
abbrev GX:Type:=List Int×List Int×Int×List Int×Int×PUnit
def rowT2{α:Type}(d:Nat)(rows:List Rw)(ch:List Int)(K:XA→T (XA ⊕ α)):T α:=
 T.needs [(0:Int)≤0,(0:Int)<(rows.length:Int),(0:Int)≤0,(0:Int)<(rows.length:Int),eR.Is 1 (oneRF false (rows.getD (Int.toNat 0) eRw.dflt).1),eI.Is 1 (oneF (rows.getD (Int.toNat 0) eRw.dflt).2)]
  (.loop XA (0,eR.list 1 (oneRF false (rows.getD (Int.toNat 0) eRw.dflt).1),eI.list 1 (oneF (rows.getD (Int.toNat 0) eRw.dflt).2),PUnit.unit) fun x=>.br (decide (x.1<(d:Int)))
   (T.needs [0≤x.1,x.1<(d:Int),x.1.toNat<d,0≤ch.getD x.1.toNat 0,ch.getD x.1.toNat 0<(rows.length:Int),x.2.1.length+1≤1000000,x.2.1.length≤x.2.1.length,0≤x.1,x.1<(d:Int),x.1.toNat<d,0≤ch.getD x.1.toNat 0,ch.getD x.1.toNat 0<(rows.length:Int),x.2.2.1.length+1≤1000000,x.2.2.1.length≤x.2.2.1.length,
     eR.Is (x.2.1.length+1) (joinF x.2.1.length (eR.F x.2.1) (oneRF false (rows.getD (ch.getD x.1.toNat 0).toNat eRw.dflt).1)),x.2.1.length+1≤x.2.1.length+1,
     eI.Is (x.2.2.1.length+1) (joinF x.2.2.1.length (eI.F x.2.2.1) (oneF (rows.getD (ch.getD x.1.toNat 0).toNat eRw.dflt).2)),x.2.2.1.length+1≤x.2.2.1.length+1]
    (.ret (.inl (w64 (x.1+1),eR.list (x.2.1.length+1) (joinF x.2.1.length (eR.F x.2.1) (oneRF false (rows.getD (ch.getD x.1.toNat 0).toNat eRw.dflt).1)),eI.list (x.2.2.1.length+1) (joinF x.2.2.1.length (eI.F x.2.2.1) (oneF (rows.getD (ch.getD x.1.toNat 0).toNat eRw.dflt).2)),PUnit.unit)))) (K x))
def holdT2{α:Type}(rows:List Rw)(v:List Int)(den:Int)(no:T ((Int×Int×PUnit) ⊕ (XZ ⊕ α)))(K:XZ→T (XZ ⊕ α)):T α:=
 T.needs [eI.Is 0 nF,eI.Is 0 nF] (.loop XZ (0,eI.list 0 nF,0,eI.list 0 nF,0,PUnit.unit) fun x=>.br (decide (x.1<(rows.length:Int)))
  (dotT rows v x.1 fun y=>T.needs [0≤x.1,x.1<(rows.length:Int)] (.br (decide (y.2.1<w64 ((rows.getD x.1.toNat eRw.dflt).2*den))) no
   (T.needs [eI.Is x.2.1.length (eI.F x.2.1),eI.Is x.2.2.2.1.length (eI.F x.2.2.2.1)] (.ret (.inr (.inl (w64 (x.1+1),eI.list x.2.1.length (eI.F x.2.1),x.2.2.1,eI.list x.2.2.2.1.length (eI.F x.2.2.2.1),x.2.2.2.2.1,PUnit.unit))))))) (K x))
def wtT2{α:Type}(d:Nat)(L:Int)(ch v:List Int)(x0:XZ)(p:List Int)(pd wd:Int)(no:T (XW ⊕ α))(yes:XW→T (XW ⊕ α)):T α:=
 T.needs [0≤L,L≤L,L≤1000000,(0:Int)≤0,(0:Int)<(v.length:Int),(0:Int)≤0,(0:Int)<(L.toNat:Int),0<L.toNat,eI.Is p.length (eI.F p),eI.Is L.toNat (putF 0 0 1 [dI (v.getD 0 0)] fun _ j=>List.getD [dI 0] j .nilp),L.toNat≤L.toNat,
   eI.Is x0.2.1.length (eI.F x0.2.1),eI.Is x0.2.2.2.1.length (eI.F x0.2.2.2.1)]
  (.loop XW (0,eI.list p.length (eI.F p),pd,eI.list L.toNat (putF 0 0 1 [dI (v.getD 0 0)] fun _ j=>List.getD [dI 0] j .nilp),wd,eI.list x0.2.1.length (eI.F x0.2.1),x0.2.2.1,eI.list x0.2.2.2.1.length (eI.F x0.2.2.2.1),x0.2.2.2.2.1,PUnit.unit) fun x=>.br (decide (x.1<(d:Int)))
   (T.needs [0≤w64 (x.1+1),w64 (x.1+1)<(v.length:Int)] (.br (decide (v.getD (w64 (x.1+1)).toNat 0<0)) no
    (T.needs [0≤x.1,x.1<(d:Int),x.1.toNat<d,0≤w64 (x.1+1),w64 (x.1+1)<(v.length:Int),0≤ch.getD x.1.toNat 0,ch.getD x.1.toNat 0<(x.2.2.2.1.length:Int),(ch.getD x.1.toNat 0).toNat<x.2.2.2.1.length,eI.Is x.2.1.length (eI.F x.2.1),
      eI.Is x.2.2.2.1.length (putW x.2.2.2.1 (ch.getD x.1.toNat 0) (v.getD (w64 (x.1+1)).toNat 0)),x.2.2.2.1.length≤x.2.2.2.1.length,eI.Is x.2.2.2.2.2.1.length (eI.F x.2.2.2.2.2.1),eI.Is x.2.2.2.2.2.2.2.1.length (eI.F x.2.2.2.2.2.2.2.1)]
     (.ret (.inl (w64 (x.1+1),eI.list x.2.1.length (eI.F x.2.1),x.2.2.1,eI.list x.2.2.2.1.length (putW x.2.2.2.1 (ch.getD x.1.toNat 0) (v.getD (w64 (x.1+1)).toNat 0)),x.2.2.2.2.1,eI.list x.2.2.2.2.2.1.length (eI.F x.2.2.2.2.2.1),x.2.2.2.2.2.2.1,eI.list x.2.2.2.2.2.2.2.1.length (eI.F x.2.2.2.2.2.2.2.1),x.2.2.2.2.2.2.2.2.1,PUnit.unit))))))
   (T.needs [x.2.2.2.1.length≤x.2.2.2.1.length] (yes x)))
def nd3(d k:Nat):List Prop:=[(0:Int)≤(k:Int),(k:Int)<(d:Int),k<d]
def putT{γ:Type}(d:Nat)(x:GX)(f:GX ⊕ List Ar→γ):Nat→Nat→Int→(Nat→Nat→D)→T γ
 |0,_,_,F=>T.needs [eI.Is d F,d≤d,eI.Is x.2.1.length (eI.F x.2.1),eI.Is x.2.2.2.1.length (eI.F x.2.2.2.1)]
   (.ret (f (.inl (eI.list d F,eI.list x.2.1.length (eI.F x.2.1),x.2.2.1,eI.list x.2.2.2.1.length (eI.F x.2.2.2.1),x.2.2.2.2.1,PUnit.unit))))
 |r+1,j,v,F=>T.needs (nd3 d (j-1)++nd3 d j) (putT d x f r (j+1) (w64 (v+1)) (putF j 0 1 [dI (w64 (v+1))] F))
def nextT{γ:Type}(d:Nat)(L:Int)(x:GX)(f:GX ⊕ List Ar→γ):Nat→T γ
 |0=>.ret (f (.inr zR))
 |k+1=>T.needs (nd3 d k) (.br (x.1.getD k 0==w64 (w64 (L-(d:Int))+(k:Int))) (nextT d L x f k)
   (T.needs (nd3 d k++nd3 d k) (putT d x f (d-(k+1)) (k+1) (w64 (x.1.getD k 0+1)) (putF k 0 1 [dI (w64 (x.1.getD k 0+1))] (eI.F x.1)))))
def tr70(B d:Nat)(rows:List Rw)(costs:List Int)(pre:List Prop)(F0:Nat→Nat→D):T (List Ar):=
 T.needs pre (T.needs [eI.Is d F0,d≤d,eI.Is 0 nF,eI.Is 0 nF] (.loop GX (eI.list d F0,eI.list 0 nF,0,eI.list 0 nF,0,PUnit.unit) fun c=>
  rowT2 d rows c.1 fun x=>T.needs [x.2.1.length≤x.2.1.length,x.2.2.1.length≤x.2.2.1.length,eR.Is x.2.1.length (eR.F x.2.1),eI.Is x.2.2.1.length (eI.F x.2.2.1),1≤x.2.1.length,x.2.1.length≤B,x.2.2.1.length=x.2.1.length,∀r,r∈eR.list x.2.1.length (eR.F x.2.1)→r.length=x.2.1.length]
  (.br (M.rdn (eR.list x.2.1.length (eR.F x.2.1)) (eI.list x.2.2.1.length (eI.F x.2.2.1))==0) (nextT d (rows.length:Int) c .inr d)
   (holdT2 rows (M.rsl (eR.list x.2.1.length (eR.F x.2.1)) (eI.list x.2.2.1.length (eI.F x.2.2.1))) (M.rdn (eR.list x.2.1.length (eR.F x.2.1)) (eI.list x.2.2.1.length (eI.F x.2.2.1))) (nextT d (rows.length:Int) c (fun r=>.inr (.inr (.inr r))) d) fun z=>
    turnT x.2.1 fun y=>T.needs [y.2.1.length≤y.2.1.length,eR.Is y.2.1.length (eR.F y.2.1),eI.Is (d+1) (eI.F costs),1≤y.2.1.length,y.2.1.length≤B,d+1=y.2.1.length,∀r,r∈eR.list y.2.1.length (eR.F y.2.1)→r.length=y.2.1.length]
     (wtT2 d (rows.length:Int) c.1 (M.rsl (eR.list y.2.1.length (eR.F y.2.1)) (eI.list (d+1) (eI.F costs))) z (M.rsl (eR.list x.2.1.length (eR.F x.2.1)) (eI.list x.2.2.1.length (eI.F x.2.2.1))) (M.rdn (eR.list x.2.1.length (eR.F x.2.1)) (eI.list x.2.2.1.length (eI.F x.2.2.1)))
      (M.rdn (eR.list y.2.1.length (eR.F y.2.1)) (eI.list (d+1) (eI.F costs))) (nextT d (rows.length:Int) c (fun r=>.inr (.inr (.inr (.inr r)))) d) fun v=>.ret (.inr (.inr (.inr (.inr (.inr (endW v)))))))))))
def initF:Nat→Nat→Nat→D
 |0=>nF
 |k+1=>joinF k (initF k) (oneF ((k+1:Nat):Int))
def pre70:Nat→List Prop
 |0=>[]
 |k+1=>(match k with|0=>[(1:Nat)≤1000000]|k+1=>pre70 (k+1)++ [k+2≤1000000,k+1≤k+1])
theorem t70_2(B:Nat)(q q2:Bool)(rows:List Rw)(r0 r1:Int):runFnX Try.prog G0 (lookS [v143g B]) (fun f=>match Nat.beq f 120 with|true=>[(3,[.slot 10 (.int .i64),.slot 8 (.rowE 31 eR),.slot 9 (.rowE 3 eI)],none),(10,[.slot 13 (.int .i64),.blk 6 [.imE eI,.int .i64,.imE eI,.int .i64]],none),(14,[.slot 15 (.int .i64),.slot 14 (.int .i64)],none),(21,[.slot 17 (.int .i64),.slot 16 .nsl],some [.slot 17 (.int .i64),.slot 16 (.rowE 31 eR)]),(25,[.slot 19 (.int .i64),.slot 18 .nsl],some [.slot 19 (.int .i64),.slot 18 (.rowE 3 eI)]),(33,[.slot 23 (.int .i64),.blk 22 [.imE eI,.int .i64,.rowE 3 eI,.int .i64],.blk 6 [.imE eI,.int .i64,.imE eI,.int .i64]],none),(8000021,[],none),(8000025,[],none)]|false=>[(1000015,[],none),(1000035,[],none),(1000053,[],none),(1000068,[],none),(3000014,[],none),(3000017,[],none),(3000033,[],none),(3000051,[],none),(3000067,[],none),(3000064,[],none),(3000070,[],none),(3000075,[],none),(6,[.slot 6 (.rowN 3 eI 1),.blk 4 [.imE eI,.int .i64,.imE eI,.int .i64]],none)]) [120] 1 60 6 70 Try.f70 [.c (.sl q rows.length 2 (eRw.F rows)),.c (.sl q2 2 1 (eI.F [r0,r1]))] =
  tr70 B 1 rows [r0,r1] (pre70 1) (initF 1):=by kernel_rfl
theorem t70_3(B:Nat)(q q2:Bool)(rows:List Rw)(r0 r1 r2:Int):runFnX Try.prog G0 (lookS [v143g B]) (fun f=>match Nat.beq f 120 with|true=>[(3,[.slot 10 (.int .i64),.slot 8 (.rowE 31 eR),.slot 9 (.rowE 3 eI)],none),(10,[.slot 13 (.int .i64),.blk 6 [.imE eI,.int .i64,.imE eI,.int .i64]],none),(14,[.slot 15 (.int .i64),.slot 14 (.int .i64)],none),(21,[.slot 17 (.int .i64),.slot 16 .nsl],some [.slot 17 (.int .i64),.slot 16 (.rowE 31 eR)]),(25,[.slot 19 (.int .i64),.slot 18 .nsl],some [.slot 19 (.int .i64),.slot 18 (.rowE 3 eI)]),(33,[.slot 23 (.int .i64),.blk 22 [.imE eI,.int .i64,.rowE 3 eI,.int .i64],.blk 6 [.imE eI,.int .i64,.imE eI,.int .i64]],none),(8000021,[],none),(8000025,[],none)]|false=>[(1000015,[],none),(1000035,[],none),(1000053,[],none),(1000068,[],none),(3000014,[],none),(3000017,[],none),(3000033,[],none),(3000051,[],none),(3000067,[],none),(3000064,[],none),(3000070,[],none),(3000075,[],none),(6,[.slot 6 (.rowN 3 eI 2),.blk 4 [.imE eI,.int .i64,.imE eI,.int .i64]],none)]) [120] 1 60 6 70 Try.f70 [.c (.sl q rows.length 2 (eRw.F rows)),.c (.sl q2 3 1 (eI.F [r0,r1,r2]))] =
  tr70 B 2 rows [r0,r1,r2] (pre70 2) (initF 2):=by kernel_rfl
theorem t70_4(B:Nat)(q q2:Bool)(rows:List Rw)(r0 r1 r2 r3:Int):runFnX Try.prog G0 (lookS [v143g B]) (fun f=>match Nat.beq f 120 with|true=>[(3,[.slot 10 (.int .i64),.slot 8 (.rowE 31 eR),.slot 9 (.rowE 3 eI)],none),(10,[.slot 13 (.int .i64),.blk 6 [.imE eI,.int .i64,.imE eI,.int .i64]],none),(14,[.slot 15 (.int .i64),.slot 14 (.int .i64)],none),(21,[.slot 17 (.int .i64),.slot 16 .nsl],some [.slot 17 (.int .i64),.slot 16 (.rowE 31 eR)]),(25,[.slot 19 (.int .i64),.slot 18 .nsl],some [.slot 19 (.int .i64),.slot 18 (.rowE 3 eI)]),(33,[.slot 23 (.int .i64),.blk 22 [.imE eI,.int .i64,.rowE 3 eI,.int .i64],.blk 6 [.imE eI,.int .i64,.imE eI,.int .i64]],none),(8000021,[],none),(8000025,[],none)]|false=>[(1000015,[],none),(1000035,[],none),(1000053,[],none),(1000068,[],none),(3000014,[],none),(3000017,[],none),(3000033,[],none),(3000051,[],none),(3000067,[],none),(3000064,[],none),(3000070,[],none),(3000075,[],none),(6,[.slot 6 (.rowN 3 eI 3),.blk 4 [.imE eI,.int .i64,.imE eI,.int .i64]],none)]) [120] 1 60 6 70 Try.f70 [.c (.sl q rows.length 2 (eRw.F rows)),.c (.sl q2 4 1 (eI.F [r0,r1,r2,r3]))] =
  tr70 B 3 rows [r0,r1,r2,r3] (pre70 3) (initF 3):=by kernel_rfl
end Go.Bl
end
section
set_option maxRecDepth 100000
namespace Go.Bl
open Go.V Go.Proofs
namespace M
def lastK(d:Nat)(L:Int)(c:List Int):Nat→Option Nat
 |0=>none
 |k+1=>cond (c.getD k 0==L-d+k) (lastK d L c k) (some k)
def bump(d k:Nat)(c:List Int):List Int:=c.take k++(List.range (d-k)).map fun(j:Nat)=>c.getD k 0+1+(j:Int)
def nextC(d:Nat)(L:Int)(c:List Int):Option (List Int):=(lastK d L c d).map fun k=>bump d k c
def initC(d:Nat):List Int:=(List.range d).map fun(k:Nat)=>(k:Int)+1
end M
structure Val(d:Nat)(L:Int)(c:List Int):Prop where
 len:c.length=d
 lo:∀k,k<d→(k:Int)+1≤c.getD k 0
 hi:∀k,k<d→c.getD k 0≤L-d+k
 up:∀k,k+1<d→c.getD k 0<c.getD (k+1) 0
def Lx(d:Nat)(c e:List Int):Prop:=∃i,i<d∧(∀j,j<i→c.getD j 0=e.getD j 0)∧c.getD i 0<e.getD i 0
theorem lastK_some{d:Nat}{L:Int}{c:List Int}:∀{n k:Nat},M.lastK d L c n=some k→k<n∧c.getD k 0≠L-d+k∧∀j,k<j→j<n→c.getD j 0=L-d+j:=by
 intro n
 induction n with
 |zero=>intro k h;cases h
 |succ n ih=>
  intro k h
  unfold M.lastK at h
  cases hb:c.getD n 0==L-d+n
  ·rw[hb]at h
   have h:some n=some k:=h
   cases h
   exact⟨by omega,(fun e=>by rw[e,beq_self_eq_true]at hb;cases hb),fun j h1 h2=>by omega⟩
  ·rw[hb]at h
   obtain⟨g1,g2,g3⟩:=ih h
   refine⟨by omega,g2,fun j h1 h2=>?_⟩
   by_cases hj:j=n
   ·subst hj;exact eq_of_beq hb
   ·exact g3 j h1 (by omega)
theorem lastK_none{d:Nat}{L:Int}{c:List Int}:∀{n:Nat},M.lastK d L c n=none→∀j,j<n→c.getD j 0=L-d+j:=by
 intro n
 induction n with
 |zero=>intro _ j hj;omega
 |succ n ih=>
  intro h j hj
  unfold M.lastK at h
  cases hb:c.getD n 0==L-d+n
  ·rw[hb]at h;cases h
  ·rw[hb]at h
   by_cases e:j=n
   ·subst e;exact eq_of_beq hb
   ·exact ih h j (by omega)
theorem bump_len{d k:Nat}{c:List Int}(hc:c.length=d)(hk:k≤d):(M.bump d k c).length=d:=by
 simp[M.bump];omega
theorem bump_lt{d k j:Nat}{c:List Int}(hc:c.length=d)(hk:k<d)(hj:j<k):(M.bump d k c).getD j 0=c.getD j 0:=by
 unfold M.bump
 simp only[List.getD_eq_getElem?_getD]
 rw[List.getElem?_append_left (by simp;omega),List.getElem?_take,if_pos hj]
theorem bump_ge{d k j:Nat}{c:List Int}(hc:c.length=d)(hk:k<d)(h1:k≤j)(h2:j<d):(M.bump d k c).getD j 0=c.getD k 0+1+((j-k:Nat):Int):=by
 unfold M.bump
 have hl:(c.take k).length=k:=by simp;omega
 rw[List.getD_eq_getElem?_getD,List.getElem?_append_right (by rw[hl];exact h1),hl,List.getElem?_map,List.getElem?_range (by omega)]
 rfl
section
variable {d : Nat} {L : Int} {c e : List Int}
theorem Val.bump(h:Val d L c){k:Nat}(hk:k<d)(hn:c.getD k 0≠L-d+k):Val d L (M.bump d k c):=by
 have hlo:=h.lo k hk
 have hhi:=h.hi k hk
 refine⟨bump_len h.len (by omega),fun j hj=>?_,fun j hj=>?_,fun j hj=>?_⟩
 ·by_cases hjk:j<k
  ·rw[bump_lt h.len hk hjk];exact h.lo j hj
  ·rw[bump_ge h.len hk (by omega) hj];omega
 ·by_cases hjk:j<k
  ·rw[bump_lt h.len hk hjk];exact h.hi j hj
  ·rw[bump_ge h.len hk (by omega) hj];omega
 ·by_cases hjk:j+1<k
  ·rw[bump_lt h.len hk (show j<k by omega),bump_lt h.len hk hjk];exact h.up j hj
  ·by_cases e1:j+1=k
   ·rw[bump_lt h.len hk (show j<k by omega),bump_ge h.len hk (by omega) hj]
    have:=h.up j hj
    rw[e1]at this ⊢
    omega
   ·rw[bump_ge h.len hk (show k≤j by omega) (by omega),bump_ge h.len hk (by omega) hj];omega
theorem Lx.bump(h:Val d L c){k:Nat}(hk:k<d):Lx d c (M.bump d k c):=
 ⟨k,hk,fun j hj=>(bump_lt h.len hk hj).symm,by rw[bump_ge h.len hk (Nat.le_refl _) hk];omega⟩
theorem Val.next(h:Val d L c){c':List Int}(hn:M.nextC d L c=some c'):Val d L c'∧Lx d c c':=by
 unfold M.nextC at hn
 obtain⟨k,hk,rfl⟩:=Option.map_eq_some_iff.1 hn
 obtain⟨h1,h2,h3⟩:=lastK_some hk
 exact⟨h.bump h1 h2,Lx.bump h h1⟩
theorem Val.grow(h:Val d L c){k:Nat}:∀{j:Nat},k≤j→j<d→c.getD k 0+((j-k:Nat):Int)≤c.getD j 0:=by
 intro j
 induction j with
 |zero=>
  intro h1 h2
  obtain rfl:k=0:=by omega
  simp
 |succ j ih=>
  intro h1 h2
  by_cases e:k=j+1
  ·subst e;simp
  ·have:=ih (by omega) (by omega)
   have:=h.up j h2
   omega
theorem lx_or(hge:∀j,j<d→(∀i,i<j→c.getD i 0=e.getD i 0)→c.getD j 0≤e.getD j 0):∀n,n≤d→(∀j,j<n→c.getD j 0=e.getD j 0)∨Lx d c e:=by
 intro n
 induction n with
 |zero=>intro _;exact .inl fun j hj=>by omega
 |succ n ih=>
  intro hn
  rcases ih (by omega)with h|h
  ·have:=hge n (by omega) h
   by_cases hlt:c.getD n 0<e.getD n 0
   ·exact .inr ⟨n,by omega,h,hlt⟩
   ·refine .inl fun j hj=>?_
    by_cases ej:j=n
    ·subst ej;omega
    ·exact h j (by omega)
  ·exact .inr h
theorem val_ext(hc:c.length=d)(he:e.length=d)(h:∀j,j<d→c.getD j 0=e.getD j 0):c=e:=by
 refine List.ext_getElem (by omega) fun i h1 h2=>?_
 have:=h i (by omega)
 simpa[h1,h2]using this
theorem next_succ(hc:Val d L c)(he:Val d L e)(hx:Lx d c e):∃c',M.nextC d L c=some c'∧(c'=e∨Lx d c' e):=by
 obtain⟨i,hi,h1,h2⟩:=hx
 have hmax:=he.hi i hi
 unfold M.nextC
 cases hk:M.lastK d L c d with
 |none=>have:=lastK_none hk i hi;omega
 |some k=>
  obtain⟨k1,k2,k3⟩:=lastK_some hk
  refine⟨_,rfl,?_⟩
  have hik:i≤k:=by
   rcases Nat.lt_or_ge k i with h|h
   ·have:=k3 i h hi;omega
   ·exact h
  by_cases hlt:i<k
  ·exact .inr ⟨i,hi,fun j hj=>by rw[bump_lt hc.len k1 (by omega)];exact h1 j hj,by rw[bump_lt hc.len k1 hlt];exact h2⟩
  ·obtain rfl:i=k:=by omega
   have key:=lx_or (d:=d) (c:=M.bump d i c) (e:=e) (fun j hj hp=>by
    by_cases hjk:j<i
    ·rw[bump_lt hc.len k1 hjk,h1 j hjk];exact Int.le_refl _
    ·rw[bump_ge hc.len k1 (by omega) hj]
     have:=he.grow (k:=i) (j:=j) (by omega) hj
     omega) d (Nat.le_refl _)
   rcases key with h|h
   ·exact .inl (val_ext (bump_len hc.len (by omega)) he.len h)
   ·exact .inr h
theorem initC_get{j:Nat}(hj:j<d):(M.initC d).getD j 0=(j:Int)+1:=by
 unfold M.initC
 rw[List.getD_eq_getElem?_getD,List.getElem?_map,List.getElem?_range hj];rfl
theorem initC_val(h:(d:Int)+1≤L):Val d L (M.initC d):=by
 refine⟨by simp[M.initC],fun k hk=>by rw[initC_get hk];omega,fun k hk=>by rw[initC_get hk];omega,fun k hk=>by rw[initC_get hk,initC_get (by omega)];omega⟩
theorem initC_least(he:Val d L e):M.initC d=e∨Lx d (M.initC d) e:=by
 rcases lx_or (d:=d) (c:=M.initC d) (e:=e) (fun j hj _=>by rw[initC_get hj];exact he.lo j hj) d (Nat.le_refl _)with h|h
 ·exact .inl (val_ext (by simp[M.initC]) he.len h)
 ·exact .inr h
end
def rk(L:Int)(c:List Int):Nat→Int
 |0=>0
 |n+1=>rk L c n*L+c.getD n 0
theorem rk_lt{d:Nat}{L:Int}{c e:List Int}(hL:0<L)(hc:∀k,k<d→0≤c.getD k 0∧c.getD k 0<L)(he:∀k,k<d→0≤e.getD k 0∧e.getD k 0<L)(hx:Lx d c e):rk L c d<rk L e d:=by
 obtain⟨i,hi,h1,h2⟩:=hx
 have hp:∀n,n≤i→rk L c n=rk L e n:=by
  intro n
  induction n with
  |zero=>intro _;rfl
  |succ n ih=>intro hn;simp only[rk];rw[ih (by omega),h1 n (by omega)]
 have hq:∀n,i<n→n≤d→rk L c n<rk L e n:=by
  intro n
  induction n with
  |zero=>intro h;omega
  |succ n ih=>
   intro h3 h4
   simp only[rk]
   by_cases en:n=i
   ·subst en
    rw[hp n (Nat.le_refl _)];omega
   ·have:=ih (by omega) (by omega)
    have hm:=Int.mul_le_mul_of_nonneg_right (show rk L c n+1≤rk L e n by omega) (show 0≤L by omega)
    rw[Int.add_mul,Int.one_mul]at hm
    have:=hc n (by omega)
    have:=he n (by omega)
    omega
 exact hq d hi (Nat.le_refl _)
theorem rk_bound{d:Nat}{L:Int}{c:List Int}(hL:0<L)(hc:∀k,k<d→0≤c.getD k 0∧c.getD k 0<L):∀n,n≤d→0≤rk L c n∧rk L c n<L^n:=by
 intro n
 induction n with
 |zero=>intro _;exact⟨Int.le_refl _,by simp[rk]⟩
 |succ n ih=>
  intro hn
  obtain⟨h1,h2⟩:=ih (by omega)
  have:=hc n (by omega)
  simp only[rk]
  rw[Int.pow_succ]
  have hm:=Int.mul_le_mul_of_nonneg_right (show rk L c n+1≤L^n by omega) (show 0≤L by omega)
  rw[Int.add_mul,Int.one_mul]at hm
  have:=Int.mul_nonneg h1 (show 0≤L by omega)
  omega
theorem Val.ent{d:Nat}{L:Int}{c:List Int}(h:Val d L c):∀k,k<d→0≤c.getD k 0∧c.getD k 0<L:=by
 intro k hk
 have:=h.lo k hk
 have:=h.hi k hk
 omega
def mC(d:Nat)(L:Int)(c:List Int):Nat:=(L^d-rk L c d).toNat
theorem mC_lt{d:Nat}{L:Int}{c e:List Int}(hL:0<L)(hc:Val d L c)(he:Val d L e)(hx:Lx d c e):mC d L e<mC d L c:=by
 have h1:=rk_lt hL hc.ent he.ent hx
 have h2:=rk_bound hL he.ent d (Nat.le_refl _)
 unfold mC
 omega
namespace M
def rgo(rows:List Rw)(costs:List Int):Nat→List Int→Option RC
 |0,_=>none
 |f+1,c=>(match rat rows costs c with
  |some x=>some x
  |none=>(match nextC (costs.length-1) (rows.length:Int) c with
   |some c'=>rgo rows costs f c'
   |none=>none))
def rbest(rows:List Rw)(costs:List Int):Option RC:=rgo rows costs (rows.length^(costs.length-1)+1) (initC (costs.length-1))
end M
theorem rgo_some{rows:List Rw}{costs:List Int}{x:RC}:∀{f:Nat} {c:List Int},Val (costs.length-1) (rows.length:Int) c→M.rgo rows costs f c=some x→∃e,Val (costs.length-1) (rows.length:Int) e∧M.rat rows costs e=some x:=by
 intro f
 induction f with
 |zero=>intro c _ h;cases h
 |succ f ih=>
  intro c hc h
  simp only[M.rgo]at h
  split at h
  ·rename_i y hy
   cases h
   exact⟨c,hc,hy⟩
  ·split at h
   ·rename_i c' hc'
    exact ih (hc.next hc').1 h
   ·cases h
theorem rgo_none{rows:List Rw}{costs:List Int}(hL:0<rows.length):∀{f:Nat} {c:List Int},Val (costs.length-1) (rows.length:Int) c→mC (costs.length-1) (rows.length:Int) c<f→M.rgo rows costs f c=none →
  ∀e,Val (costs.length-1) (rows.length:Int) e→c=e∨Lx (costs.length-1) c e→M.rat rows costs e=none:=by
 intro f
 induction f with
 |zero=>intro c _ h;omega
 |succ f ih=>
  intro c hc hm h e he hce
  simp only[M.rgo]at h
  split at h
  ·cases h
  ·rename_i hn
   rcases hce with rfl|hx
   ·exact hn
   ·obtain⟨c',h1,h2⟩:=next_succ hc he hx
    rw[h1]at h
    obtain⟨v1,v2⟩:=hc.next h1
    have:=mC_lt (by omega) hc v1 v2
    exact ih v1 (by omega) h e he h2
theorem rbest_some{rows:List Rw}{costs:List Int}(hL:costs.length≤rows.length)(hn:1≤costs.length){x:RC}(h:M.rbest rows costs=some x):∃e,Val (costs.length-1) (rows.length:Int) e∧M.rat rows costs e=some x:=
 rgo_some (initC_val (by omega)) h
theorem mC_fuel{rows:List Rw}{costs:List Int}(hL:costs.length≤rows.length)(hn:1≤costs.length):mC (costs.length-1) (rows.length:Int) (M.initC (costs.length-1))<rows.length^(costs.length-1)+1:=by
 have hb:=rk_bound (L:=(rows.length:Int)) (by omega) (initC_val (d:=costs.length-1) (L:=(rows.length:Int)) (by omega)).ent _ (Nat.le_refl _)
 unfold mC
 have:((rows.length^(costs.length-1):Nat):Int)=(rows.length:Int)^(costs.length-1):=by simp
 omega
theorem rbest_none{rows:List Rw}{costs:List Int}(hL:costs.length≤rows.length)(hn:1≤costs.length)(h:M.rbest rows costs=none):∀e,Val (costs.length-1) (rows.length:Int) e→M.rat rows costs e=none:=
 fun e he=>rgo_none (by omega) (initC_val (by omega)) (mC_fuel hL hn) h e he (initC_least he)
end Go.Bl
end
