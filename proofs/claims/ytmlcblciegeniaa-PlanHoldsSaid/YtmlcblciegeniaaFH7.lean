/- The parts of the engines, of their contracts and of the plain laws that the claim rests on: A101, A102, A99b, A99c, A103a, A103, A85, A104, A105, A106, A107, A108, A109, A111, A112, A113d, A113, A115, A116, A117, R0, RG. -/
import Derived.Test.YtmlcblciegeniaaFH6
import Derived.ChangeSame
import Derived.ChangeVars
import Derived.ProofKit
import Derived.LaidMore
import Derived.OpenShut
import Derived.Carry
import Derived.ChangeArms
set_option linter.unusedVariables false
set_option linter.unusedSimpArgs false
section
set_option maxRecDepth 100000
namespace Go.Pl
open Go.V Go.Proofs
theorem RowIs.app{α:Type}{E:Enc α}{d m:Nat}{F G:Nat→Nat→D}{set more:List α}(h:RowIs E d F set)(k:RowIs E m G more):RowIs E (d+m) (joinF d F G) (set++more):=by
 constructor
 ·intro i j hi hj
  unfold joinF
  by_cases hd:i<d
  ·rw[blt_of hd];exact h.is i j hd hj
  ·have:Nat.blt i d=false:=by rw[←Bool.not_eq_true,Nat.blt_eq];omega
   simp only[this]
   exact k.is (i-d) j (by omega) hj
 ·rw[←h.eq,←k.eq]
  unfold Enc.list
  rw[List.range_add,List.map_append,List.map_map]
  congr 1
  ·refine List.map_congr_left fun i hi=>?_
   have hi:=List.mem_range.1 hi
   congr 1
   funext j
   unfold joinF
   rw[blt_of hi]
  ·refine List.map_congr_left fun i _=>?_
   show E.rd (joinF d F G (d+i))=_
   congr 1
   funext j
   unfold joinF
   have:Nat.blt (d+i) d=false:=by rw[←Bool.not_eq_true,Nat.blt_eq];omega
   simp only[this,Nat.add_sub_cancel_left]
theorem t71r(q:Bool)(u:List Int):runFnR Try.prog G0 (lookS []) (fun _=>[]) [] 1 40 6 71 Try.f71 [.c (.sl q u.length 1 (eI.F u))] =
  T.need (0+u.length≤1000000) (T.need (0+u.length≤0+u.length) (T.ret (3,1,0+u.length,joinF 0 (fun(i j:Nat)=>List.getD [] (i*1+j) D.nilp) (eI.F u)))):=by kernel_rfl
def dom71r:DomR
 |[.c (.sl _ n st F)]=>(match Nat.beq st 1||Nat.beq n 0 with
  |true=>some ([eI.Is n F,n≤1000000],rowI (eI.list n F))
  |_=>none)
 |_=>none
def v71r:Nat×Sm:=(71,fokSmR dom71r)
theorem C71r:FOKR Try.prog G0 gw 71 dom71r:=by
 intro ags p r hd hp κ w xs hw hl hG hx
 unfold dom71r at hd
 split at hd
 ·rename_i q n st F
  split at hd
  ·rename_i hst
   simp only[Option.some.injEq,Prod.mk.injEq]at hd
   obtain⟨rfl,rfl⟩:=hd
   obtain⟨hI,hn,_⟩:=hp
   have heq:agsEqv [.c (.sl q n st F)] [.c (.sl q (eI.list n F).length 1 (eI.F (eI.list n F)))]:=⟨eI.toz hst hI,trivial⟩
   have hlen:(eI.list n F).length≤1000000:=by rw[Enc.list_len];exact hn
   refine fokR_fin mixed gw_stable (sl:=[]) trivial Try.func71 (fun _ _=>rfl) hw hl hG hx heq rfl (t71r _ _) ⟨by omega,Nat.le_refl _,rfl,rfl,by simp[rowI],fun i j hi hj=>?_⟩
   simp only[join0]
   obtain rfl:j=0:=Nat.lt_one_iff.1 hj
   exact D.eqv_refl _
  ·cases hd
 ·cases hd
theorem S71r:SumOK Try.prog G0 gw 71 (fokSmR dom71r):=fokR_sum Try.func71 rfl C71r
namespace M
def sdM(n:Nat)(mo:List Int)(i:Nat):List Side:=[⟨unitL n i 1,0⟩,⟨unitL n i 1,mo.getD i 0⟩]
def sdD(de:List Dem)(j:Nat):Side:=⟨(de.getD j dfD).co,(de.getD j dfD).am⟩
def sides(mo:List Int)(de:List Dem):List Side:=(List.range mo.length).flatMap (sdM mo.length mo)++(List.range de.length).map (sdD de)
end M
abbrev twoG(n:Nat)(F:Nat→Nat→D)(a:Int):Nat→Nat→D:=fun(i j:Nat)=>List.getD [D.sl true n 1 F,dI 0,D.sl true n 1 F,dI a] (i*2+j) D.nilp
abbrev oneG(co:List Int)(a:Int):Nat→Nat→D:=fun(i j:Nat)=>List.getD [D.sl false co.length 1 (eI.F co),dI a] (i*2+j) D.nilp
theorem twoG_row{n:Nat}{F:Nat→Nat→D}{a:Int}{co:List Int}(h:RowIs eI n F co):RowIs eSd 2 (twoG n F a) [⟨co,0⟩,⟨co,a⟩]:=by
 have hl:=h.eq
 refine⟨fun i j hi hj=>?_,?_⟩
 ·have hj:j<2:=hj
  match i,hi,j,hj with
  |0,_,0,_=>exact eI.to (fun e=>by cases e) h.is
  |0,_,1,_=>exact D.eqv_refl _
  |1,_,0,_=>exact eI.to (fun e=>by cases e) h.is
  |1,_,1,_=>exact D.eqv_refl _
 ·unfold Enc.list
  show[(⟨eI.list n F,0⟩:Side),⟨eI.list n F,a⟩]=_
  rw[hl]
theorem oneG_row(co:List Int)(a:Int):RowIs eSd 1 (oneG co a) [⟨co,a⟩]:=by
 refine⟨fun i j hi hj=>?_,?_⟩
 ·have hj:j<2:=hj
  match i,hi,j,hj with
  |0,_,0,_=>exact eI.to (fun e=>by cases e) (Enc.is_F _ _ _)
  |0,_,1,_=>exact D.eqv_refl _
 ·show[(⟨eI.list co.length (eI.F co),a⟩:Side)]=_
  rw[Enc.list_F]
def k87_1(y:Int×List Side×PUnit)(de:List Dem):=joinF (List.length (Prod.fst (Prod.snd y))) (Enc.F eSd (Prod.fst (Prod.snd y))) fun(i j:Nat)=>List.getD [D.sl false (List.length (Dem.co (List.getD de (Int.toNat (Prod.fst y)) dfD))) (1:Nat) (Enc.F eI (Dem.co (List.getD de (Int.toNat (Prod.fst y)) dfD))),D.int IntKind.i64 (Dem.am (List.getD de (Int.toNat (Prod.fst y)) dfD))] (i*(2:Nat)+j) D.nilp
def tr87(q_mo:Bool)(mo:List Int)(q_ga:Bool)(ga:List Int)(q_de:Bool)(de:List Dem):T (List Ar):=
  T.loop2 (Int×PUnit×PUnit) (Int×List Side×PUnit) (Sum.inl ((0:Int),PUnit.unit,PUnit.unit)) (fun(x:Int×PUnit×PUnit)=>T.br (decide (x.1<(mo.length:Int))) (T.need ((0:Int)≤(mo.length:Int)) (T.need ((mo.length:Int)≤(mo.length:Int)) (T.need ((mo.length:Int)≤1000000) (T.need ((0:Int)≤x.1) (T.need (x.1<(Nat.cast (R:=Int) (Int.toNat (mo.length:Int)))) (T.need (Int.toNat x.1<Int.toNat (mo.length:Int)) (T.need ((0:Int)≤x.1) (T.need (x.1<(mo.length:Int)) (T.need (Int.toNat (mo.length:Int)≤Int.toNat (mo.length:Int)) (T.need (Int.toNat (mo.length:Int)≤Int.toNat (mo.length:Int)) (T.need ((2:Nat)≤1000000) (T.need (Enc.Is eSd (2:Nat) (joinF (0:Nat) (fun(_ _:Nat)=>D.nilp) fun(i j:Nat)=>List.getD [D.sl true (Int.toNat (mo.length:Int)) (1:Nat) (putF x.1.toNat (0:Nat) (1:Nat) [D.int IntKind.i64 (1:Int)] fun(x j:Nat)=>List.getD [D.int IntKind.i64 (0:Int)] j D.nilp),D.int IntKind.i64 (0:Int),D.sl true (Int.toNat (mo.length:Int)) (1:Nat) (putF x.1.toNat (0:Nat) (1:Nat) [D.int IntKind.i64 (1:Int)] fun(x j:Nat)=>List.getD [D.int IntKind.i64 (0:Int)] j D.nilp),D.int IntKind.i64 (mo.getD x.1.toNat (0:Int))] (i*2+j) D.nilp)) (T.need ((2:Nat)≤2) (T.ret (Sum.inl (Sum.inr (IntKind.i64.wrap (x.1+1),Enc.list eSd (2:Nat) (joinF (0:Nat) (fun(_ _:Nat)=>D.nilp) fun(i j:Nat)=>List.getD [D.sl true (Int.toNat (mo.length:Int)) (1:Nat) (putF x.1.toNat (0:Nat) (1:Nat) [D.int IntKind.i64 (1:Int)] fun(x j:Nat)=>List.getD [D.int IntKind.i64 (0:Int)] j D.nilp),D.int IntKind.i64 (0:Int),D.sl true (Int.toNat (mo.length:Int)) (1:Nat) (putF x.1.toNat (0:Nat) (1:Nat) [D.int IntKind.i64 (1:Int)] fun(x j:Nat)=>List.getD [D.int IntKind.i64 (0:Int)] j D.nilp),D.int IntKind.i64 (mo.getD x.1.toNat (0:Int))] (i*2+j) D.nilp),PUnit.unit))))))))))))))))) (T.loop2 (Int×PUnit×PUnit) (Int×List Side×PUnit) (Sum.inl ((0:Int),PUnit.unit,PUnit.unit)) (fun(x:Int×PUnit×PUnit)=>T.br (decide (x.1<(de.length:Int))) (T.need ((0:Int)≤x.1) (T.need (x.1<(de.length:Int)) (T.need ((0:Int)≤x.1) (T.need (x.1<(de.length:Int)) (T.need ((1:Nat)≤1000000) (T.need (Enc.Is eSd (1:Nat) (joinF (0:Nat) (fun(_ _:Nat)=>D.nilp) fun(i j:Nat)=>List.getD [D.sl false (List.length (Dem.co (de.getD x.1.toNat dfD))) (1:Nat) (Enc.F eI (Dem.co (de.getD x.1.toNat dfD))),D.int IntKind.i64 (Dem.am (de.getD x.1.toNat dfD))] (i*2+j) D.nilp)) (T.need ((1:Nat)≤1) (T.ret (Sum.inl (Sum.inr (IntKind.i64.wrap (x.1+1),Enc.list eSd (1:Nat) (joinF (0:Nat) (fun(_ _:Nat)=>D.nilp) fun(i j:Nat)=>List.getD [D.sl false (List.length (Dem.co (de.getD x.1.toNat dfD))) (1:Nat) (Enc.F eI (Dem.co (de.getD x.1.toNat dfD))),D.int IntKind.i64 (Dem.am (de.getD x.1.toNat dfD))] (i*2+j) D.nilp),PUnit.unit))))))))))) (T.ret (Sum.inr (Sum.inr [Ar.c (D.sl false (0:Nat) (0:Nat) (fun(_ _:Nat)=>D.nilp))])))) fun(y:Int×List Side×PUnit)=>T.br (decide (y.1<(de.length:Int))) (T.need ((0:Int)≤y.1) (T.need (y.1<(de.length:Int)) (T.need ((0:Int)≤y.1) (T.need (y.1<(de.length:Int)) (T.need (List.length (y.2.1)+1≤1000000) (T.need (List.length (y.2.1)≤List.length (y.2.1)) (T.need (Enc.Is eSd (List.length (y.2.1)+1) (k87_1 y de)) (T.need (List.length (y.2.1)+1≤List.length (y.2.1)+1) (T.ret (Sum.inl (Sum.inr (IntKind.i64.wrap (y.1+1),Enc.list eSd (List.length (y.2.1)+1) (k87_1 y de),PUnit.unit)))))))))))) (T.need (List.length (y.2.1)≤List.length (y.2.1)) (T.ret (Sum.inr (Sum.inr [Ar.c (D.sl true (List.length (y.2.1)) (2:Nat) (Enc.F eSd (y.2.1)))])))))) fun(y:Int×List Side×PUnit)=>T.br (decide (y.1<(mo.length:Int))) (T.need ((0:Int)≤(mo.length:Int)) (T.need ((mo.length:Int)≤(mo.length:Int)) (T.need ((mo.length:Int)≤1000000) (T.need ((0:Int)≤y.1) (T.need (y.1<(Nat.cast (R:=Int) (Int.toNat (mo.length:Int)))) (T.need (Int.toNat y.1<Int.toNat (mo.length:Int)) (T.need ((0:Int)≤y.1) (T.need (y.1<(mo.length:Int)) (T.need (Int.toNat (mo.length:Int)≤Int.toNat (mo.length:Int)) (T.need (Int.toNat (mo.length:Int)≤Int.toNat (mo.length:Int)) (T.need (List.length (y.2.1)+2≤1000000) (T.need (List.length (y.2.1)≤List.length (y.2.1)) (T.need (Enc.Is eSd (List.length (y.2.1)+2) (joinF (List.length (y.2.1)) (Enc.F eSd (y.2.1)) fun(i j:Nat)=>List.getD [D.sl true (Int.toNat (mo.length:Int)) (1:Nat) (putF y.1.toNat (0:Nat) (1:Nat) [D.int IntKind.i64 (1:Int)] fun(x j:Nat)=>List.getD [D.int IntKind.i64 (0:Int)] j D.nilp),D.int IntKind.i64 (0:Int),D.sl true (Int.toNat (mo.length:Int)) (1:Nat) (putF y.1.toNat (0:Nat) (1:Nat) [D.int IntKind.i64 (1:Int)] fun(x j:Nat)=>List.getD [D.int IntKind.i64 (0:Int)] j D.nilp),D.int IntKind.i64 (mo.getD y.1.toNat (0:Int))] (i*2+j) D.nilp)) (T.need (List.length (y.2.1)+2≤List.length (y.2.1)+2) (T.ret (Sum.inl (Sum.inr (IntKind.i64.wrap (y.1+1),Enc.list eSd (List.length (y.2.1)+2) (joinF (List.length (y.2.1)) (Enc.F eSd (y.2.1)) fun(i j:Nat)=>List.getD [D.sl true (Int.toNat (mo.length:Int)) (1:Nat) (putF y.1.toNat (0:Nat) (1:Nat) [D.int IntKind.i64 (1:Int)] fun(x j:Nat)=>List.getD [D.int IntKind.i64 (0:Int)] j D.nilp),D.int IntKind.i64 (0:Int),D.sl true (Int.toNat (mo.length:Int)) (1:Nat) (putF y.1.toNat (0:Nat) (1:Nat) [D.int IntKind.i64 (1:Int)] fun(x j:Nat)=>List.getD [D.int IntKind.i64 (0:Int)] j D.nilp),D.int IntKind.i64 (mo.getD y.1.toNat (0:Int))] (i*2+j) D.nilp),PUnit.unit)))))))))))))))))) (T.need (Enc.Is eSd (List.length (y.2.1)) (Enc.F eSd (y.2.1))) (T.need (List.length (y.2.1)≤List.length (y.2.1)) (T.loop (Int×List Side×PUnit) ((0:Int),Enc.list eSd (List.length (y.2.1)) (Enc.F eSd (y.2.1)),PUnit.unit) fun(x:Int×List Side×PUnit)=>T.br (decide (x.1<(de.length:Int))) (T.need ((0:Int)≤x.1) (T.need (x.1<(de.length:Int)) (T.need ((0:Int)≤x.1) (T.need (x.1<(de.length:Int)) (T.need (List.length (x.2.1)+1≤1000000) (T.need (List.length (x.2.1)≤List.length (x.2.1)) (T.need (Enc.Is eSd (List.length (x.2.1)+1) (joinF (List.length (x.2.1)) (Enc.F eSd (x.2.1)) fun(i j:Nat)=>List.getD [D.sl false (List.length (Dem.co (de.getD x.1.toNat dfD))) (1:Nat) (Enc.F eI (Dem.co (de.getD x.1.toNat dfD))),D.int IntKind.i64 (Dem.am (de.getD x.1.toNat dfD))] (i*2+j) D.nilp)) (T.need (List.length (x.2.1)+1≤List.length (x.2.1)+1) (T.ret (Sum.inl (IntKind.i64.wrap (x.1+1),Enc.list eSd (List.length (x.2.1)+1) (joinF (List.length (x.2.1)) (Enc.F eSd (x.2.1)) fun(i j:Nat)=>List.getD [D.sl false (List.length (Dem.co (de.getD x.1.toNat dfD))) (1:Nat) (Enc.F eI (Dem.co (de.getD x.1.toNat dfD))),D.int IntKind.i64 (Dem.am (de.getD x.1.toNat dfD))] (i*2+j) D.nilp),PUnit.unit))))))))))) (T.need (List.length (x.2.1)≤List.length (x.2.1)) (T.ret (Sum.inr (Sum.inr [Ar.c (D.sl true (List.length (x.2.1)) (2:Nat) (Enc.F eSd (x.2.1)))])))))))
theorem t87(q_mo:Bool)(mo:List Int)(q_ga:Bool)(ga:List Int)(q_de:Bool)(de:List Dem):runFnX Try.prog G0 (lookS []) (fun _=>[(3,[.slot 4 (.int .i64),.slot 3 .nsl],some [.slot 4 (.int .i64),.slot 3 (.rowE 146 eSd)]),(9,[.slot 6 (.int .i64),.slot 3 .nsl],some [.slot 6 (.int .i64),.slot 3 (.rowE 146 eSd)])]) [] 1 60 4 87 Try.f87 [.agg [.sl q_mo mo.length 1 (eI.F mo),.sl q_ga ga.length 1 (eI.F ga),.sl q_de de.length 3 (eDm.F de)]] =
  tr87 q_mo mo q_ga ga q_de de:=by kernel_rfl
theorem w87(q_mo:Bool)(mo:List Int)(q_ga:Bool)(ga:List Int)(q_de:Bool)(de:List Dem)(h2:mo.length≤1000)(h1:de.length≤1000)(h0:0<mo.length) :
  (tr87 q_mo mo q_ga ga q_de de).wp (fun rs=>rsEqv rs [.c (.sl false (M.sides mo de).length 2 (eSd.F (M.sides mo de)))]):=by
 unfold tr87
 simp only[k87_1,Int.toNat_natCast,Enc.list_F]
 refine⟨fun z=>match z with|.inl x=>x.1=((0:Nat):Int)∧([]:List Side)=[]|.inr y=>∃k:Nat,k≤mo.length∧y.1=(k:Int)∧y.2.1=([]:List Side)++(List.range k).flatMap (M.sdM mo.length mo),fun z=>match z with|.inl x=>mo.length+1|.inr y=>mo.length-y.1.toNat,⟨rfl,rfl⟩,?_,?_⟩
 ·rintro ⟨y,u1,u2⟩ ⟨hy,hpre⟩
  simp only at hy
  have hpre:([]:List Side)=[]:=hpre
  have hy:y=((0:Nat):Int):=hy
  subst hy
  have hw:IntKind.i64.wrap (((0:Nat):Int)+1)=((0+1:Nat):Int):=wrap_succ (by omega)
  refine⟨fun hb=>?_,fun hb=>?_⟩
  ·have hlt:=lt_of_dec hb
   obtain⟨r1,r2⟩:=unit_row (n:=mo.length) (i:=0) (m:=1) (v:=1) (by omega) rfl
   have g:=twoG_row (a:=mo.getD 0 0) (RowIs.mk r1 r2)
   have nx:(List.range (0+1)).flatMap (M.sdM mo.length mo)=(List.range 0).flatMap (M.sdM mo.length mo)++ [⟨M.unitL mo.length 0 1,0⟩,⟨M.unitL mo.length 0 1,mo.getD 0 0⟩]:=by rw[List.range_succ,List.flatMap_append,List.flatMap_singleton];rfl
   have o:=(RowIs.mk (E:=eSd) (d:=0) (F:=fun _ _=>D.nilp) (set:=[]) (fun i j hi=>absurd hi (Nat.not_lt_zero i)) rfl).app g
   have o3:([]:List Side)++ [⟨M.unitL mo.length 0 1,0⟩,⟨M.unitL mo.length 0 1,mo.getD 0 0⟩]=([]:List Side)++(List.range (0+1)).flatMap (M.sdM mo.length mo):=by rw[nx,hpre];rfl
   dsimp only[Int.toNat_natCast,hw]
   simp only[Int.toNat_natCast,hw,Enc.list_F]
   repeat (refine⟨(by first|exact Enc.is_F _ _ _|exact Nat.le_refl _|exact Int.le_refl _|assumption|exact o.is|omega),?_⟩)
   have mu:mo.length-((0+1:Nat):Int).toNat<mo.length+1:=by omega
   exact⟨⟨0+1,hlt,rfl,o.eq.trans o3⟩,mu⟩
  ·have hge:=ge_of_dec hb
   have hz:mo.length=0:=by omega
   exact absurd h0 (by omega)
 ·rintro ⟨y,acc,u⟩ ⟨k,hk,hy,ha⟩
  simp only at hy ha
  subst hy
  have hal:acc.length≤5000:=by rw[ha];simp only[List.length_append,List.length_map,List.length_range,List.length_nil,List.length_flatMap,M.sdM,List.length_cons,List.map_const',List.sum_replicate_nat];omega
  have hw:IntKind.i64.wrap ((k:Int)+1)=((k+1:Nat):Int):=wrap_succ (by omega)
  refine⟨fun hb=>?_,fun hb=>?_⟩
  ·have hlt:=lt_of_dec hb
   obtain⟨r1,r2⟩:=unit_row (n:=mo.length) (i:=k) (m:=1) (v:=1) (by omega) rfl
   have g:=twoG_row (a:=mo.getD k 0) (RowIs.mk r1 r2)
   have nx:(List.range (k+1)).flatMap (M.sdM mo.length mo)=(List.range k).flatMap (M.sdM mo.length mo)++ [⟨M.unitL mo.length k 1,0⟩,⟨M.unitL mo.length k 1,mo.getD k 0⟩]:=by rw[List.range_succ,List.flatMap_append,List.flatMap_singleton];rfl
   have o:=(rowIs_F (E:=eSd) acc).app g
   have o3:acc++ [⟨M.unitL mo.length k 1,0⟩,⟨M.unitL mo.length k 1,mo.getD k 0⟩]=([]:List Side)++(List.range (k+1)).flatMap (M.sdM mo.length mo):=by rw[nx,ha,List.append_assoc]
   dsimp only[Int.toNat_natCast,hw]
   simp only[Int.toNat_natCast,hw,Enc.list_F]
   repeat (refine⟨(by first|exact Enc.is_F _ _ _|exact Nat.le_refl _|exact Int.le_refl _|assumption|exact o.is|omega),?_⟩)
   have mu:mo.length-((k+1:Nat):Int).toNat<mo.length-((k:Nat):Int).toNat:=by omega
   exact⟨⟨k+1,hlt,rfl,o.eq.trans o3⟩,mu⟩
  ·have hge:=ge_of_dec hb
   obtain rfl:k=mo.length:=by omega
   repeat (refine⟨(by first|exact Enc.is_F _ _ _|exact Nat.le_refl _|exact Int.le_refl _|assumption|omega),?_⟩)
   refine⟨fun y=>∃k:Nat,k≤de.length∧y.1=(k:Int)∧y.2.1=((List.range mo.length).flatMap (M.sdM mo.length mo))++(List.range k).map (M.sdD de),fun y=>de.length-y.1.toNat,⟨0,Nat.zero_le _,rfl,by simp only[List.range_zero,List.map_nil,List.append_nil];rw[ha];rfl⟩,?_⟩
   rintro ⟨y,acc,u⟩ ⟨k,hk,hy,ha⟩
   simp only at hy ha
   subst hy
   have hal:acc.length≤5000:=by rw[ha];simp only[List.length_append,List.length_map,List.length_range,List.length_nil,List.length_flatMap,M.sdM,List.length_cons,List.map_const',List.sum_replicate_nat];omega
   have hw:IntKind.i64.wrap ((k:Int)+1)=((k+1:Nat):Int):=wrap_succ (by omega)
   refine⟨fun hb=>?_,fun hb=>?_⟩
   ·have hlt:=lt_of_dec hb
    have g:=oneG_row (de.getD k dfD).co (de.getD k dfD).am
    have nx:(List.range (k+1)).map (M.sdD de)=(List.range k).map (M.sdD de)++ [⟨(de.getD k dfD).co,(de.getD k dfD).am⟩]:=by rw[List.range_succ,List.map_append];rfl
    have o:=(rowIs_F (E:=eSd) acc).app g
    have o3:acc++ [⟨(de.getD k dfD).co,(de.getD k dfD).am⟩]=((List.range mo.length).flatMap (M.sdM mo.length mo))++(List.range (k+1)).map (M.sdD de):=by rw[nx,ha,List.append_assoc]
    dsimp only[Int.toNat_natCast,hw]
    simp only[Int.toNat_natCast,hw,Enc.list_F]
    repeat (refine⟨(by first|exact Enc.is_F _ _ _|exact Nat.le_refl _|exact Int.le_refl _|assumption|exact o.is|omega),?_⟩)
    have mu:de.length-((k+1:Nat):Int).toNat<de.length-((k:Nat):Int).toNat:=by omega
    exact⟨⟨k+1,hlt,rfl,o.eq.trans o3⟩,mu⟩
   ·have hge:=ge_of_dec hb
    obtain rfl:k=de.length:=by omega
    repeat (refine⟨(by first|exact Enc.is_F _ _ _|exact Nat.le_refl _|exact Int.le_refl _|assumption|omega),?_⟩)
    have hfin:acc=M.sides mo de:=by rw[ha];rfl
    subst hfin
    exact⟨⟨(fun e=>by cases e),rfl,fun _=>rfl,fun i j _ _=>D.eqv_refl _⟩,trivial⟩
def dom87:DomF
 |[.agg [.sl _ n_mo st_mo F_mo,.sl _ n_ga st_ga F_ga,.sl _ n_de st_de F_de]]=>(match (Nat.beq st_mo 1||Nat.beq n_mo 0)&&(Nat.beq st_ga 1||Nat.beq n_ga 0)&&(Nat.beq st_de 3||Nat.beq n_de 0)with
  |true=>some ([eI.Is n_mo F_mo,eI.Is n_ga F_ga,eDm.Is n_de F_de,(eI.list n_mo F_mo).length≤1000,(eDm.list n_de F_de).length≤1000,0<(eI.list n_mo F_mo).length],[.c (.sl false (M.sides (eI.list n_mo F_mo) (eDm.list n_de F_de)).length 2 (eSd.F (M.sides (eI.list n_mo F_mo) (eDm.list n_de F_de))))])
  |_=>none)
 |_=>none
def v87:Nat×Sm:=(87,fokSm dom87)
theorem C87:FOK Try.prog G0 gw 87 dom87:=by
 intro ags p r hd hp κ w xs hw hl hG hx
 unfold dom87 at hd
 split at hd
 ·rename_i q_mo n_mo st_mo F_mo q_ga n_ga st_ga F_ga q_de n_de st_de F_de
  split at hd
  ·rename_i hst
   simp only[Bool.and_eq_true]at hst
   obtain⟨⟨g1,g2⟩,g3⟩:=hst
   simp only[Option.some.injEq,Prod.mk.injEq]at hd
   obtain⟨rfl,rfl⟩:=hd
   obtain⟨hI_mo,hI_ga,hI_de,hp⟩:=hp
   have heq:agsEqv [.agg [.sl q_mo n_mo st_mo F_mo,.sl q_ga n_ga st_ga F_ga,.sl q_de n_de st_de F_de]] [.agg [.sl q_mo (eI.list n_mo F_mo).length 1 (eI.F (eI.list n_mo F_mo)),.sl q_ga (eI.list n_ga F_ga).length 1 (eI.F (eI.list n_ga F_ga)),.sl q_de (eDm.list n_de F_de).length 3 (eDm.F (eDm.list n_de F_de))]]:=⟨⟨eI.toz g1 hI_mo,eI.toz g2 hI_ga,eDm.toz g3 hI_de,trivial⟩,trivial⟩
   have len_mo:(eI.list n_mo F_mo).length=n_mo:=eI.list_len
   have len_ga:(eI.list n_ga F_ga).length=n_ga:=eI.list_len
   have len_de:(eDm.list n_de F_de).length=n_de:=eDm.list_len
   generalize eI.list n_mo F_mo=mo at *
   generalize eI.list n_ga F_ga=ga at *
   generalize eDm.list n_de F_de=de at *
   subst len_mo len_ga len_de
   exact fokX_fin mixed gw_stable (sl:=[]) trivial Try.func87 hw hl hG hx heq rfl (t87 _ _ _ _ _ _) (w87 _ _ _ _ _ _ hp.1 hp.2.1 hp.2.2.1)
  ·cases hd
 ·cases hd
theorem S87:SumOK Try.prog G0 gw 87 (fokSm dom87):=fok_sum Try.func87 rfl C87
end Go.Pl
end
section
set_option maxRecDepth 100000
namespace Go.Pl
open Go.V Go.Proofs
theorem listD(l:List Int):Enc.list eI l.length (fun(i x:Nat)=>dI (l.getD i 0))=l:=(rowIs_dI l).eq
theorem putD{l:List Int}{k:Nat}{v:Int}(hk:k<l.length):RowIs eI l.length (putF k 0 1 [dI v] (fun(i _:Nat)=>dI (l.getD i 0))) (l.set k v):=put1 hk
namespace M
def rmat(N:Nat)(R:List Side):List (List Int):=(List.range N).map fun i=>(R.getD i dfSd).co
def rmatC(N:Nat)(R:List Side)(k:Nat):List (List Int):=(List.range N).map fun i=>(R.getD i dfSd).co.set k (R.getD i dfSd).am
def rsign(N:Nat)(R:List Side):Int:=cond (decide (rdet N (rmat N R)<0)) (-1) 1
def rnum(N:Nat)(R:List Side)(k:Nat):Int:=IntKind.i64.wrap (rsign N R*rdet N (rmatC N R k))
def rden(N:Nat)(R:List Side):Int:=IntKind.i64.wrap (rsign N R*rdet N (rmat N R))
def rcorner(N:Nat)(R:List Side):Int×List Int×Bool:=
 cond (rdet N (rmat N R)==0) (0,[],false) (cond ((List.range N).any fun k=>decide (rnum N R k<0)) (0,[],false) (rden N R,(List.range N).map (rnum N R),true))
end M
def res88(x:Int×List Int×Bool):List Ar:=[.agg [dI x.1,.sl false x.2.1.length 1 (eI.F x.2.1)],rB x.2.2]
theorem sl_lit{q:Bool}{F:Nat→Nat→D}{l:List Int}(h:∀i,i<l.length→F i 0=dI (l.getD i 0)):(D.sl q l.length 1 F).eqv (.sl false l.length 1 (eI.F l)):=
 ⟨(fun e=>by cases e),rfl,fun _=>rfl,fun i j hi hj=>by
  obtain rfl:j=0:=Nat.lt_one_iff.1 hj
  rw[h i hi];exact D.eqv_refl _⟩
theorem nil88:rsEqv [.agg [dI 0,.sl false 0 0 (fun _ _=>.nilp)],rB false] (res88 (0,[],false)):=⟨⟨rfl,nil_eqv eI,trivial⟩,rfl,trivial⟩
def tr88_1(q:Bool)(c0:List Int)(a0:Int):T (List Ar):=
  T.need ((0:Int)≤0) (T.need ((0:Int)<1) (T.need (Enc.Is eI c0.length (Enc.F eI c0)) (T.need (c0.length≤1000000) (T.need (List.length (cI c0)≤List.length (cI c0)) (T.need ((1:Nat)≤1000000) (T.need ((1:Nat)≤1) (T.need (Enc.Is eI (List.length (cI c0)) fun(i x:Nat)=>dI (List.getD (cI c0) i (0:Int))) (T.need (List.length (cI c0)=1) (T.br (M.rdet (1:Nat) [Enc.list eI (List.length (cI c0)) fun(i x:Nat)=>dI (List.getD (cI c0) i (0:Int))]==0) (T.ret [Ar.agg [D.int IntKind.i64 (0:Int),D.sl false (0:Nat) (0:Nat) (fun(_ _:Nat)=>D.nilp)],Ar.c (D.bool false)]) (T.need ((0:Int)≤0) (T.need ((0:Int)<1) (T.need (Enc.Is eI c0.length (Enc.F eI c0)) (T.need (c0.length≤1000000) (T.need ((0:Int)≤0) (T.need ((0:Int)<1) (T.need ((0:Int)≤0) (T.need ((0:Int)<((cI c0).length:Int)) (T.need ((0:Nat)<List.length (cI c0)) (T.need (List.length (cI c0)≤List.length (cI c0)) (T.need ((1:Nat)≤1000000) (T.need ((1:Nat)≤1) (T.need (Enc.Is eI (List.length (cI c0)) (putF (0:Nat) (0:Nat) (1:Nat) [D.int IntKind.i64 a0] fun(i x:Nat)=>dI (List.getD (cI c0) i (0:Int)))) (T.need (List.length (cI c0)=1) (T.br (decide (IntKind.i64.wrap ((bif decide (M.rdet (1:Nat) [Enc.list eI (List.length (cI c0)) fun(i x:Nat)=>dI (List.getD (cI c0) i (0:Int))]<0)then(-1:Int)else(1:Int))*M.rdet (1:Nat) [Enc.list eI (List.length (cI c0)) (putF (0:Nat) (0:Nat) (1:Nat) [D.int IntKind.i64 a0] fun(i x:Nat)=>dI (List.getD (cI c0) i (0:Int)))])<0)) (T.ret [Ar.agg [D.int IntKind.i64 (0:Int),D.sl false (0:Nat) (0:Nat) (fun(_ _:Nat)=>D.nilp)],Ar.c (D.bool false)]) (T.need ((1:Nat)≤1000000) (T.need ((1:Nat)≤1) (T.ret [Ar.agg [D.int IntKind.i64 (IntKind.i64.wrap ((bif decide (M.rdet (1:Nat) [Enc.list eI (List.length (cI c0)) fun(i x:Nat)=>dI (List.getD (cI c0) i (0:Int))]<0)then(-1:Int)else(1:Int))*M.rdet (1:Nat) [Enc.list eI (List.length (cI c0)) fun(i x:Nat)=>dI (List.getD (cI c0) i (0:Int))])),D.sl true (1:Nat) (1:Nat) (joinF (0:Nat) ((fun(_ _:Nat)=>D.nilp)) fun(i j:Nat)=>List.getD [D.int IntKind.i64 (IntKind.i64.wrap ((bif decide (M.rdet (1:Nat) [Enc.list eI (List.length (cI c0)) fun(i x:Nat)=>dI (List.getD (cI c0) i (0:Int))]<0)then(-1:Int)else(1:Int))*M.rdet (1:Nat) [Enc.list eI (List.length (cI c0)) (putF (0:Nat) (0:Nat) (1:Nat) [D.int IntKind.i64 a0] fun(i x:Nat)=>dI (List.getD (cI c0) i (0:Int)))]))] (i*1+j) D.nilp)],Ar.c (D.bool true)])))))))))))))))))))))))))))
theorem t88_1(q:Bool)(c0:List Int)(a0:Int):runFnX Try.prog G0 (lookS [v71r,v184 1]) (fun f=>match f with|156=>[(3000006,[],none),(3000008,[],none),(3000010,[],none),(1000011,[],none),(3000020,[],none),(1000021,[],none)]|88=>[(5000017,[.slot 5 (.int .i64)],none),(3000006,[],none),(3000023,[],none),(3000025,[],none),(1000026,[],none)]|_=>[]) [156] 1 60 6 88 Try.f88 [.c (.sl q 1 2 (eSd.F [⟨c0,a0⟩]))] =
  tr88_1 q c0 a0:=by kernel_rfl
theorem w88_1(q:Bool)(c0:List Int)(a0:Int)(h0:c0.length=1):(tr88_1 q c0 a0).wp (fun rs=>rsEqv rs (res88 (M.rcorner 1 [⟨c0,a0⟩]))):=by
 unfold tr88_1
 simp only[Enc.list_F,listD]
 have p00:=putD (l:=c0) (k:=0) (v:=a0) (by omega)
 simp only[p00.eq]
 have e0:M.rdet 1 (M.rmat 1 [⟨c0,a0⟩])=M.rdet 1 [c0]:=rfl
 have n0:M.rnum 1 [⟨c0,a0⟩] 0=IntKind.i64.wrap ((cond (decide (M.rdet 1 [c0]<0)) (-1) 1)*M.rdet 1 [c0.set 0 a0]):=rfl
 have ea:((List.range 1).any fun k=>decide (M.rnum 1 [⟨c0,a0⟩] k<0))=(decide (M.rnum 1 [⟨c0,a0⟩] 0<0)):=by simp[List.range_succ,Bool.or_assoc]
 repeat (refine⟨(by first|exact Enc.is_F _ _ _|exact Nat.le_refl _|exact Int.le_refl _|assumption|exact(rowIs_dI _).is|exact p00.is|omega|decide),?_⟩)
 refine⟨fun hb=>?_,fun hb=>?_⟩
 ·unfold M.rcorner;rw[e0,hb];exact nil88
 ·repeat (refine⟨(by first|exact Enc.is_F _ _ _|exact Nat.le_refl _|exact Int.le_refl _|assumption|exact(rowIs_dI _).is|exact p00.is|omega|decide),?_⟩)
  refine⟨fun hb0=>?_,fun hb0=>?_⟩
  ·unfold M.rcorner;rw[e0,hb,ea,n0];simp only[hb0,Bool.true_or,Bool.or_true,Bool.false_or,cond_true,cond_false];exact nil88
  repeat (refine⟨(by first|exact Enc.is_F _ _ _|exact Nat.le_refl _|exact Int.le_refl _|assumption|exact(rowIs_dI _).is|exact p00.is|omega|decide),?_⟩)
  unfold M.rcorner
  rw[e0,hb,ea,n0]
  simp only[hb0,Bool.false_or,cond_false]
  refine⟨⟨rfl,sl_lit (l:=(List.range 1).map (M.rnum 1 [⟨c0,a0⟩])) (fun i hi=>?_),trivial⟩,rfl,trivial⟩
  have hi:i<1:=by simpa using hi
  match i,hi with
  |0,_=>rfl
def tr88_2(q:Bool)(c0 c1:List Int)(a0 a1:Int):T (List Ar):=
  T.need ((0:Int)≤0) (T.need ((0:Int)<2) (T.need (Enc.Is eI c0.length (Enc.F eI c0)) (T.need (c0.length≤1000000) (T.need (List.length (cI c0)≤List.length (cI c0)) (T.need ((1:Nat)≤1000000) (T.need ((0:Int)≤1) (T.need ((1:Int)<2) (T.need (Enc.Is eI c1.length (Enc.F eI c1)) (T.need (c1.length≤1000000) (T.need (List.length (cI c1)≤List.length (cI c1)) (T.need ((2:Nat)≤1000000) (T.need ((1:Nat)≤1) (T.need ((2:Nat)≤2) (T.need (Enc.Is eI (List.length (cI c0)) fun(i x:Nat)=>dI (List.getD (cI c0) i (0:Int))) (T.need (List.length (cI c0)=2) (T.need (Enc.Is eI (List.length (cI c1)) fun(i x:Nat)=>dI (List.getD (cI c1) i (0:Int))) (T.need (List.length (cI c1)=2) (T.br (M.rdet (2:Nat) [Enc.list eI (List.length (cI c0)) fun(i x:Nat)=>dI (List.getD (cI c0) i (0:Int)),Enc.list eI (List.length (cI c1)) fun(i x:Nat)=>dI (List.getD (cI c1) i (0:Int))]==0) (T.ret [Ar.agg [D.int IntKind.i64 (0:Int),D.sl false (0:Nat) (0:Nat) (fun(_ _:Nat)=>D.nilp)],Ar.c (D.bool false)]) (T.need ((0:Int)≤0) (T.need ((0:Int)<2) (T.need (Enc.Is eI c0.length (Enc.F eI c0)) (T.need (c0.length≤1000000) (T.need ((0:Int)≤0) (T.need ((0:Int)<2) (T.need ((0:Int)≤0) (T.need ((0:Int)<((cI c0).length:Int)) (T.need ((0:Nat)<List.length (cI c0)) (T.need (List.length (cI c0)≤List.length (cI c0)) (T.need ((1:Nat)≤1000000) (T.need ((0:Int)≤1) (T.need ((1:Int)<2) (T.need (Enc.Is eI c1.length (Enc.F eI c1)) (T.need (c1.length≤1000000) (T.need ((0:Int)≤1) (T.need ((1:Int)<2) (T.need ((0:Int)≤0) (T.need ((0:Int)<((cI c1).length:Int)) (T.need ((0:Nat)<List.length (cI c1)) (T.need (List.length (cI c1)≤List.length (cI c1)) (T.need ((2:Nat)≤1000000) (T.need ((1:Nat)≤1) (T.need ((2:Nat)≤2) (T.need (Enc.Is eI (List.length (cI c0)) (putF (0:Nat) (0:Nat) (1:Nat) [D.int IntKind.i64 a0] fun(i x:Nat)=>dI (List.getD (cI c0) i (0:Int)))) (T.need (List.length (cI c0)=2) (T.need (Enc.Is eI (List.length (cI c1)) (putF (0:Nat) (0:Nat) (1:Nat) [D.int IntKind.i64 a1] fun(i x:Nat)=>dI (List.getD (cI c1) i (0:Int)))) (T.need (List.length (cI c1)=2) (T.br (decide (IntKind.i64.wrap ((bif decide (M.rdet (2:Nat) [Enc.list eI (List.length (cI c0)) fun(i x:Nat)=>dI (List.getD (cI c0) i (0:Int)),Enc.list eI (List.length (cI c1)) fun(i x:Nat)=>dI (List.getD (cI c1) i (0:Int))]<0)then(-1:Int)else(1:Int))*M.rdet (2:Nat) [Enc.list eI (List.length (cI c0)) (putF (0:Nat) (0:Nat) (1:Nat) [D.int IntKind.i64 a0] fun(i x:Nat)=>dI (List.getD (cI c0) i (0:Int))),Enc.list eI (List.length (cI c1)) (putF (0:Nat) (0:Nat) (1:Nat) [D.int IntKind.i64 a1] fun(i x:Nat)=>dI (List.getD (cI c1) i (0:Int)))])<0)) (T.ret [Ar.agg [D.int IntKind.i64 (0:Int),D.sl false (0:Nat) (0:Nat) (fun(_ _:Nat)=>D.nilp)],Ar.c (D.bool false)]) (T.need ((1:Nat)≤1000000) (T.need ((0:Int)≤0) (T.need ((0:Int)<2) (T.need (Enc.Is eI c0.length (Enc.F eI c0)) (T.need (c0.length≤1000000) (T.need ((0:Int)≤0) (T.need ((0:Int)<2) (T.need ((0:Int)≤1) (T.need ((1:Int)<((cI c0).length:Int)) (T.need ((1:Nat)<List.length (cI c0)) (T.need (List.length (cI c0)≤List.length (cI c0)) (T.need ((1:Nat)≤1000000) (T.need ((0:Int)≤1) (T.need ((1:Int)<2) (T.need (Enc.Is eI c1.length (Enc.F eI c1)) (T.need (c1.length≤1000000) (T.need ((0:Int)≤1) (T.need ((1:Int)<2) (T.need ((0:Int)≤1) (T.need ((1:Int)<((cI c1).length:Int)) (T.need ((1:Nat)<List.length (cI c1)) (T.need (List.length (cI c1)≤List.length (cI c1)) (T.need ((2:Nat)≤1000000) (T.need ((1:Nat)≤1) (T.need ((2:Nat)≤2) (T.need (Enc.Is eI (List.length (cI c0)) (putF (1:Nat) (0:Nat) (1:Nat) [D.int IntKind.i64 a0] fun(i x:Nat)=>dI (List.getD (cI c0) i (0:Int)))) (T.need (List.length (cI c0)=2) (T.need (Enc.Is eI (List.length (cI c1)) (putF (1:Nat) (0:Nat) (1:Nat) [D.int IntKind.i64 a1] fun(i x:Nat)=>dI (List.getD (cI c1) i (0:Int)))) (T.need (List.length (cI c1)=2) (T.br (decide (IntKind.i64.wrap ((bif decide (M.rdet (2:Nat) [Enc.list eI (List.length (cI c0)) fun(i x:Nat)=>dI (List.getD (cI c0) i (0:Int)),Enc.list eI (List.length (cI c1)) fun(i x:Nat)=>dI (List.getD (cI c1) i (0:Int))]<0)then(-1:Int)else(1:Int))*M.rdet (2:Nat) [Enc.list eI (List.length (cI c0)) (putF (1:Nat) (0:Nat) (1:Nat) [D.int IntKind.i64 a0] fun(i x:Nat)=>dI (List.getD (cI c0) i (0:Int))),Enc.list eI (List.length (cI c1)) (putF (1:Nat) (0:Nat) (1:Nat) [D.int IntKind.i64 a1] fun(i x:Nat)=>dI (List.getD (cI c1) i (0:Int)))])<0)) (T.ret [Ar.agg [D.int IntKind.i64 (0:Int),D.sl false (0:Nat) (0:Nat) (fun(_ _:Nat)=>D.nilp)],Ar.c (D.bool false)]) (T.need ((2:Nat)≤1000000) (T.need ((1:Nat)≤1) (T.need ((2:Nat)≤2) (T.ret [Ar.agg [D.int IntKind.i64 (IntKind.i64.wrap ((bif decide (M.rdet (2:Nat) [Enc.list eI (List.length (cI c0)) fun(i x:Nat)=>dI (List.getD (cI c0) i (0:Int)),Enc.list eI (List.length (cI c1)) fun(i x:Nat)=>dI (List.getD (cI c1) i (0:Int))]<0)then(-1:Int)else(1:Int))*M.rdet (2:Nat) [Enc.list eI (List.length (cI c0)) fun(i x:Nat)=>dI (List.getD (cI c0) i (0:Int)),Enc.list eI (List.length (cI c1)) fun(i x:Nat)=>dI (List.getD (cI c1) i (0:Int))])),D.sl true (2:Nat) (1:Nat) (joinF (1:Nat) (joinF (0:Nat) ((fun(_ _:Nat)=>D.nilp)) fun(i j:Nat)=>List.getD [D.int IntKind.i64 (IntKind.i64.wrap ((bif decide (M.rdet (2:Nat) [Enc.list eI (List.length (cI c0)) fun(i x:Nat)=>dI (List.getD (cI c0) i (0:Int)),Enc.list eI (List.length (cI c1)) fun(i x:Nat)=>dI (List.getD (cI c1) i (0:Int))]<0)then(-1:Int)else(1:Int))*M.rdet (2:Nat) [Enc.list eI (List.length (cI c0)) (putF (0:Nat) (0:Nat) (1:Nat) [D.int IntKind.i64 a0] fun(i x:Nat)=>dI (List.getD (cI c0) i (0:Int))),Enc.list eI (List.length (cI c1)) (putF (0:Nat) (0:Nat) (1:Nat) [D.int IntKind.i64 a1] fun(i x:Nat)=>dI (List.getD (cI c1) i (0:Int)))]))] (i*1+j) D.nilp) fun(i j:Nat)=>List.getD [D.int IntKind.i64 (IntKind.i64.wrap ((bif decide (M.rdet (2:Nat) [Enc.list eI (List.length (cI c0)) fun(i x:Nat)=>dI (List.getD (cI c0) i (0:Int)),Enc.list eI (List.length (cI c1)) fun(i x:Nat)=>dI (List.getD (cI c1) i (0:Int))]<0)then(-1:Int)else(1:Int))*M.rdet (2:Nat) [Enc.list eI (List.length (cI c0)) (putF (1:Nat) (0:Nat) (1:Nat) [D.int IntKind.i64 a0] fun(i x:Nat)=>dI (List.getD (cI c0) i (0:Int))),Enc.list eI (List.length (cI c1)) (putF (1:Nat) (0:Nat) (1:Nat) [D.int IntKind.i64 a1] fun(i x:Nat)=>dI (List.getD (cI c1) i (0:Int)))]))] (i*1+j) D.nilp)],Ar.c (D.bool true)])))))))))))))))))))))))))))))))))))))))))))))))))))))))))))))))))))))))))))))))))
theorem t88_2(q:Bool)(c0 c1:List Int)(a0 a1:Int):runFnX Try.prog G0 (lookS [v71r,v184 2]) (fun f=>match f with|156=>[(3000006,[],none),(3000008,[],none),(3000010,[],none),(1000011,[],none),(3000020,[],none),(1000021,[],none)]|88=>[(5000017,[.slot 5 (.int .i64)],none),(3000006,[],none),(3000023,[],none),(3000025,[],none),(1000026,[],none)]|_=>[]) [156] 1 60 6 88 Try.f88 [.c (.sl q 2 2 (eSd.F [⟨c0,a0⟩,⟨c1,a1⟩]))] =
  tr88_2 q c0 c1 a0 a1:=by kernel_rfl
theorem w88_2(q:Bool)(c0 c1:List Int)(a0 a1:Int)(h0:c0.length=2)(h1:c1.length=2):(tr88_2 q c0 c1 a0 a1).wp (fun rs=>rsEqv rs (res88 (M.rcorner 2 [⟨c0,a0⟩,⟨c1,a1⟩]))):=by
 unfold tr88_2
 simp only[Enc.list_F,listD]
 have p00:=putD (l:=c0) (k:=0) (v:=a0) (by omega)
 have p01:=putD (l:=c0) (k:=1) (v:=a0) (by omega)
 have p10:=putD (l:=c1) (k:=0) (v:=a1) (by omega)
 have p11:=putD (l:=c1) (k:=1) (v:=a1) (by omega)
 simp only[p00.eq,p01.eq,p10.eq,p11.eq]
 have e0:M.rdet 2 (M.rmat 2 [⟨c0,a0⟩,⟨c1,a1⟩])=M.rdet 2 [c0,c1]:=rfl
 have n0:M.rnum 2 [⟨c0,a0⟩,⟨c1,a1⟩] 0=IntKind.i64.wrap ((cond (decide (M.rdet 2 [c0,c1]<0)) (-1) 1)*M.rdet 2 [c0.set 0 a0,c1.set 0 a1]):=rfl
 have n1:M.rnum 2 [⟨c0,a0⟩,⟨c1,a1⟩] 1=IntKind.i64.wrap ((cond (decide (M.rdet 2 [c0,c1]<0)) (-1) 1)*M.rdet 2 [c0.set 1 a0,c1.set 1 a1]):=rfl
 have ea:((List.range 2).any fun k=>decide (M.rnum 2 [⟨c0,a0⟩,⟨c1,a1⟩] k<0))=(decide (M.rnum 2 [⟨c0,a0⟩,⟨c1,a1⟩] 0<0)||decide (M.rnum 2 [⟨c0,a0⟩,⟨c1,a1⟩] 1<0)):=by simp[List.range_succ,Bool.or_assoc]
 repeat (refine⟨(by first|exact Enc.is_F _ _ _|exact Nat.le_refl _|exact Int.le_refl _|assumption|exact(rowIs_dI _).is|exact p00.is|exact p01.is|exact p10.is|exact p11.is|omega|decide),?_⟩)
 refine⟨fun hb=>?_,fun hb=>?_⟩
 ·unfold M.rcorner;rw[e0,hb];exact nil88
 ·repeat (refine⟨(by first|exact Enc.is_F _ _ _|exact Nat.le_refl _|exact Int.le_refl _|assumption|exact(rowIs_dI _).is|exact p00.is|exact p01.is|exact p10.is|exact p11.is|omega|decide),?_⟩)
  refine⟨fun hb0=>?_,fun hb0=>?_⟩
  ·unfold M.rcorner;rw[e0,hb,ea,n0,n1];simp only[hb0,Bool.true_or,Bool.or_true,Bool.false_or,cond_true,cond_false];exact nil88
  repeat (refine⟨(by first|exact Enc.is_F _ _ _|exact Nat.le_refl _|exact Int.le_refl _|assumption|exact(rowIs_dI _).is|exact p00.is|exact p01.is|exact p10.is|exact p11.is|omega|decide),?_⟩)
  refine⟨fun hb1=>?_,fun hb1=>?_⟩
  ·unfold M.rcorner;rw[e0,hb,ea,n0,n1];simp only[hb0,hb1,Bool.true_or,Bool.or_true,Bool.false_or,cond_true,cond_false];exact nil88
  repeat (refine⟨(by first|exact Enc.is_F _ _ _|exact Nat.le_refl _|exact Int.le_refl _|assumption|exact(rowIs_dI _).is|exact p00.is|exact p01.is|exact p10.is|exact p11.is|omega|decide),?_⟩)
  unfold M.rcorner
  rw[e0,hb,ea,n0,n1]
  simp only[hb0,hb1,Bool.false_or,cond_false]
  refine⟨⟨rfl,sl_lit (l:=(List.range 2).map (M.rnum 2 [⟨c0,a0⟩,⟨c1,a1⟩])) (fun i hi=>?_),trivial⟩,rfl,trivial⟩
  have hi:i<2:=by simpa using hi
  match i,hi with
  |0,_=>rfl
  |1,_=>rfl
def tr88_3(q:Bool)(c0 c1 c2:List Int)(a0 a1 a2:Int):T (List Ar):=
  T.need ((0:Int)≤0) (T.need ((0:Int)<3) (T.need (Enc.Is eI c0.length (Enc.F eI c0)) (T.need (c0.length≤1000000) (T.need (List.length (cI c0)≤List.length (cI c0)) (T.need ((1:Nat)≤1000000) (T.need ((0:Int)≤1) (T.need ((1:Int)<3) (T.need (Enc.Is eI c1.length (Enc.F eI c1)) (T.need (c1.length≤1000000) (T.need (List.length (cI c1)≤List.length (cI c1)) (T.need ((2:Nat)≤1000000) (T.need ((1:Nat)≤1) (T.need ((0:Int)≤2) (T.need ((2:Int)<3) (T.need (Enc.Is eI c2.length (Enc.F eI c2)) (T.need (c2.length≤1000000) (T.need (List.length (cI c2)≤List.length (cI c2)) (T.need ((3:Nat)≤1000000) (T.need ((2:Nat)≤2) (T.need ((3:Nat)≤3) (T.need (Enc.Is eI (List.length (cI c0)) fun(i x:Nat)=>dI (List.getD (cI c0) i (0:Int))) (T.need (List.length (cI c0)=3) (T.need (Enc.Is eI (List.length (cI c1)) fun(i x:Nat)=>dI (List.getD (cI c1) i (0:Int))) (T.need (List.length (cI c1)=3) (T.need (Enc.Is eI (List.length (cI c2)) fun(i x:Nat)=>dI (List.getD (cI c2) i (0:Int))) (T.need (List.length (cI c2)=3) (T.br (M.rdet (3:Nat) [Enc.list eI (List.length (cI c0)) fun(i x:Nat)=>dI (List.getD (cI c0) i (0:Int)),Enc.list eI (List.length (cI c1)) fun(i x:Nat)=>dI (List.getD (cI c1) i (0:Int)),Enc.list eI (List.length (cI c2)) fun(i x:Nat)=>dI (List.getD (cI c2) i (0:Int))]==0) (T.ret [Ar.agg [D.int IntKind.i64 (0:Int),D.sl false (0:Nat) (0:Nat) (fun(_ _:Nat)=>D.nilp)],Ar.c (D.bool false)]) (T.need ((0:Int)≤0) (T.need ((0:Int)<3) (T.need (Enc.Is eI c0.length (Enc.F eI c0)) (T.need (c0.length≤1000000) (T.need ((0:Int)≤0) (T.need ((0:Int)<3) (T.need ((0:Int)≤0) (T.need ((0:Int)<((cI c0).length:Int)) (T.need ((0:Nat)<List.length (cI c0)) (T.need (List.length (cI c0)≤List.length (cI c0)) (T.need ((1:Nat)≤1000000) (T.need ((0:Int)≤1) (T.need ((1:Int)<3) (T.need (Enc.Is eI c1.length (Enc.F eI c1)) (T.need (c1.length≤1000000) (T.need ((0:Int)≤1) (T.need ((1:Int)<3) (T.need ((0:Int)≤0) (T.need ((0:Int)<((cI c1).length:Int)) (T.need ((0:Nat)<List.length (cI c1)) (T.need (List.length (cI c1)≤List.length (cI c1)) (T.need ((2:Nat)≤1000000) (T.need ((1:Nat)≤1) (T.need ((0:Int)≤2) (T.need ((2:Int)<3) (T.need (Enc.Is eI c2.length (Enc.F eI c2)) (T.need (c2.length≤1000000) (T.need ((0:Int)≤2) (T.need ((2:Int)<3) (T.need ((0:Int)≤0) (T.need ((0:Int)<((cI c2).length:Int)) (T.need ((0:Nat)<List.length (cI c2)) (T.need (List.length (cI c2)≤List.length (cI c2)) (T.need ((3:Nat)≤1000000) (T.need ((2:Nat)≤2) (T.need ((3:Nat)≤3) (T.need (Enc.Is eI (List.length (cI c0)) (putF (0:Nat) (0:Nat) (1:Nat) [D.int IntKind.i64 a0] fun(i x:Nat)=>dI (List.getD (cI c0) i (0:Int)))) (T.need (List.length (cI c0)=3) (T.need (Enc.Is eI (List.length (cI c1)) (putF (0:Nat) (0:Nat) (1:Nat) [D.int IntKind.i64 a1] fun(i x:Nat)=>dI (List.getD (cI c1) i (0:Int)))) (T.need (List.length (cI c1)=3) (T.need (Enc.Is eI (List.length (cI c2)) (putF (0:Nat) (0:Nat) (1:Nat) [D.int IntKind.i64 a2] fun(i x:Nat)=>dI (List.getD (cI c2) i (0:Int)))) (T.need (List.length (cI c2)=3) (T.br (decide (IntKind.i64.wrap ((bif decide (M.rdet (3:Nat) [Enc.list eI (List.length (cI c0)) fun(i x:Nat)=>dI (List.getD (cI c0) i (0:Int)),Enc.list eI (List.length (cI c1)) fun(i x:Nat)=>dI (List.getD (cI c1) i (0:Int)),Enc.list eI (List.length (cI c2)) fun(i x:Nat)=>dI (List.getD (cI c2) i (0:Int))]<0)then(-1:Int)else(1:Int))*M.rdet (3:Nat) [Enc.list eI (List.length (cI c0)) (putF (0:Nat) (0:Nat) (1:Nat) [D.int IntKind.i64 a0] fun(i x:Nat)=>dI (List.getD (cI c0) i (0:Int))),Enc.list eI (List.length (cI c1)) (putF (0:Nat) (0:Nat) (1:Nat) [D.int IntKind.i64 a1] fun(i x:Nat)=>dI (List.getD (cI c1) i (0:Int))),Enc.list eI (List.length (cI c2)) (putF (0:Nat) (0:Nat) (1:Nat) [D.int IntKind.i64 a2] fun(i x:Nat)=>dI (List.getD (cI c2) i (0:Int)))])<0)) (T.ret [Ar.agg [D.int IntKind.i64 (0:Int),D.sl false (0:Nat) (0:Nat) (fun(_ _:Nat)=>D.nilp)],Ar.c (D.bool false)]) (T.need ((1:Nat)≤1000000) (T.need ((0:Int)≤0) (T.need ((0:Int)<3) (T.need (Enc.Is eI c0.length (Enc.F eI c0)) (T.need (c0.length≤1000000) (T.need ((0:Int)≤0) (T.need ((0:Int)<3) (T.need ((0:Int)≤1) (T.need ((1:Int)<((cI c0).length:Int)) (T.need ((1:Nat)<List.length (cI c0)) (T.need (List.length (cI c0)≤List.length (cI c0)) (T.need ((1:Nat)≤1000000) (T.need ((0:Int)≤1) (T.need ((1:Int)<3) (T.need (Enc.Is eI c1.length (Enc.F eI c1)) (T.need (c1.length≤1000000) (T.need ((0:Int)≤1) (T.need ((1:Int)<3) (T.need ((0:Int)≤1) (T.need ((1:Int)<((cI c1).length:Int)) (T.need ((1:Nat)<List.length (cI c1)) (T.need (List.length (cI c1)≤List.length (cI c1)) (T.need ((2:Nat)≤1000000) (T.need ((1:Nat)≤1) (T.need ((0:Int)≤2) (T.need ((2:Int)<3) (T.need (Enc.Is eI c2.length (Enc.F eI c2)) (T.need (c2.length≤1000000) (T.need ((0:Int)≤2) (T.need ((2:Int)<3) (T.need ((0:Int)≤1) (T.need ((1:Int)<((cI c2).length:Int)) (T.need ((1:Nat)<List.length (cI c2)) (T.need (List.length (cI c2)≤List.length (cI c2)) (T.need ((3:Nat)≤1000000) (T.need ((2:Nat)≤2) (T.need ((3:Nat)≤3) (T.need (Enc.Is eI (List.length (cI c0)) (putF (1:Nat) (0:Nat) (1:Nat) [D.int IntKind.i64 a0] fun(i x:Nat)=>dI (List.getD (cI c0) i (0:Int)))) (T.need (List.length (cI c0)=3) (T.need (Enc.Is eI (List.length (cI c1)) (putF (1:Nat) (0:Nat) (1:Nat) [D.int IntKind.i64 a1] fun(i x:Nat)=>dI (List.getD (cI c1) i (0:Int)))) (T.need (List.length (cI c1)=3) (T.need (Enc.Is eI (List.length (cI c2)) (putF (1:Nat) (0:Nat) (1:Nat) [D.int IntKind.i64 a2] fun(i x:Nat)=>dI (List.getD (cI c2) i (0:Int)))) (T.need (List.length (cI c2)=3) (T.br (decide (IntKind.i64.wrap ((bif decide (M.rdet (3:Nat) [Enc.list eI (List.length (cI c0)) fun(i x:Nat)=>dI (List.getD (cI c0) i (0:Int)),Enc.list eI (List.length (cI c1)) fun(i x:Nat)=>dI (List.getD (cI c1) i (0:Int)),Enc.list eI (List.length (cI c2)) fun(i x:Nat)=>dI (List.getD (cI c2) i (0:Int))]<0)then(-1:Int)else(1:Int))*M.rdet (3:Nat) [Enc.list eI (List.length (cI c0)) (putF (1:Nat) (0:Nat) (1:Nat) [D.int IntKind.i64 a0] fun(i x:Nat)=>dI (List.getD (cI c0) i (0:Int))),Enc.list eI (List.length (cI c1)) (putF (1:Nat) (0:Nat) (1:Nat) [D.int IntKind.i64 a1] fun(i x:Nat)=>dI (List.getD (cI c1) i (0:Int))),Enc.list eI (List.length (cI c2)) (putF (1:Nat) (0:Nat) (1:Nat) [D.int IntKind.i64 a2] fun(i x:Nat)=>dI (List.getD (cI c2) i (0:Int)))])<0)) (T.ret [Ar.agg [D.int IntKind.i64 (0:Int),D.sl false (0:Nat) (0:Nat) (fun(_ _:Nat)=>D.nilp)],Ar.c (D.bool false)]) (T.need ((2:Nat)≤1000000) (T.need ((1:Nat)≤1) (T.need ((0:Int)≤0) (T.need ((0:Int)<3) (T.need (Enc.Is eI c0.length (Enc.F eI c0)) (T.need (c0.length≤1000000) (T.need ((0:Int)≤0) (T.need ((0:Int)<3) (T.need ((0:Int)≤2) (T.need ((2:Int)<((cI c0).length:Int)) (T.need ((2:Nat)<List.length (cI c0)) (T.need (List.length (cI c0)≤List.length (cI c0)) (T.need ((1:Nat)≤1000000) (T.need ((0:Int)≤1) (T.need ((1:Int)<3) (T.need (Enc.Is eI c1.length (Enc.F eI c1)) (T.need (c1.length≤1000000) (T.need ((0:Int)≤1) (T.need ((1:Int)<3) (T.need ((0:Int)≤2) (T.need ((2:Int)<((cI c1).length:Int)) (T.need ((2:Nat)<List.length (cI c1)) (T.need (List.length (cI c1)≤List.length (cI c1)) (T.need ((2:Nat)≤1000000) (T.need ((1:Nat)≤1) (T.need ((0:Int)≤2) (T.need ((2:Int)<3) (T.need (Enc.Is eI c2.length (Enc.F eI c2)) (T.need (c2.length≤1000000) (T.need ((0:Int)≤2) (T.need ((2:Int)<3) (T.need ((0:Int)≤2) (T.need ((2:Int)<((cI c2).length:Int)) (T.need ((2:Nat)<List.length (cI c2)) (T.need (List.length (cI c2)≤List.length (cI c2)) (T.need ((3:Nat)≤1000000) (T.need ((2:Nat)≤2) (T.need ((3:Nat)≤3) (T.need (Enc.Is eI (List.length (cI c0)) (putF (2:Nat) (0:Nat) (1:Nat) [D.int IntKind.i64 a0] fun(i x:Nat)=>dI (List.getD (cI c0) i (0:Int)))) (T.need (List.length (cI c0)=3) (T.need (Enc.Is eI (List.length (cI c1)) (putF (2:Nat) (0:Nat) (1:Nat) [D.int IntKind.i64 a1] fun(i x:Nat)=>dI (List.getD (cI c1) i (0:Int)))) (T.need (List.length (cI c1)=3) (T.need (Enc.Is eI (List.length (cI c2)) (putF (2:Nat) (0:Nat) (1:Nat) [D.int IntKind.i64 a2] fun(i x:Nat)=>dI (List.getD (cI c2) i (0:Int)))) (T.need (List.length (cI c2)=3) (T.br (decide (IntKind.i64.wrap ((bif decide (M.rdet (3:Nat) [Enc.list eI (List.length (cI c0)) fun(i x:Nat)=>dI (List.getD (cI c0) i (0:Int)),Enc.list eI (List.length (cI c1)) fun(i x:Nat)=>dI (List.getD (cI c1) i (0:Int)),Enc.list eI (List.length (cI c2)) fun(i x:Nat)=>dI (List.getD (cI c2) i (0:Int))]<0)then(-1:Int)else(1:Int))*M.rdet (3:Nat) [Enc.list eI (List.length (cI c0)) (putF (2:Nat) (0:Nat) (1:Nat) [D.int IntKind.i64 a0] fun(i x:Nat)=>dI (List.getD (cI c0) i (0:Int))),Enc.list eI (List.length (cI c1)) (putF (2:Nat) (0:Nat) (1:Nat) [D.int IntKind.i64 a1] fun(i x:Nat)=>dI (List.getD (cI c1) i (0:Int))),Enc.list eI (List.length (cI c2)) (putF (2:Nat) (0:Nat) (1:Nat) [D.int IntKind.i64 a2] fun(i x:Nat)=>dI (List.getD (cI c2) i (0:Int)))])<0)) (T.ret [Ar.agg [D.int IntKind.i64 (0:Int),D.sl false (0:Nat) (0:Nat) (fun(_ _:Nat)=>D.nilp)],Ar.c (D.bool false)]) (T.need ((3:Nat)≤1000000) (T.need ((2:Nat)≤2) (T.need ((3:Nat)≤3) (T.ret [Ar.agg [D.int IntKind.i64 (IntKind.i64.wrap ((bif decide (M.rdet (3:Nat) [Enc.list eI (List.length (cI c0)) fun(i x:Nat)=>dI (List.getD (cI c0) i (0:Int)),Enc.list eI (List.length (cI c1)) fun(i x:Nat)=>dI (List.getD (cI c1) i (0:Int)),Enc.list eI (List.length (cI c2)) fun(i x:Nat)=>dI (List.getD (cI c2) i (0:Int))]<0)then(-1:Int)else(1:Int))*M.rdet (3:Nat) [Enc.list eI (List.length (cI c0)) fun(i x:Nat)=>dI (List.getD (cI c0) i (0:Int)),Enc.list eI (List.length (cI c1)) fun(i x:Nat)=>dI (List.getD (cI c1) i (0:Int)),Enc.list eI (List.length (cI c2)) fun(i x:Nat)=>dI (List.getD (cI c2) i (0:Int))])),D.sl true (3:Nat) (1:Nat) (joinF (2:Nat) (joinF (1:Nat) (joinF (0:Nat) ((fun(_ _:Nat)=>D.nilp)) fun(i j:Nat)=>List.getD [D.int IntKind.i64 (IntKind.i64.wrap ((bif decide (M.rdet (3:Nat) [Enc.list eI (List.length (cI c0)) fun(i x:Nat)=>dI (List.getD (cI c0) i (0:Int)),Enc.list eI (List.length (cI c1)) fun(i x:Nat)=>dI (List.getD (cI c1) i (0:Int)),Enc.list eI (List.length (cI c2)) fun(i x:Nat)=>dI (List.getD (cI c2) i (0:Int))]<0)then(-1:Int)else(1:Int))*M.rdet (3:Nat) [Enc.list eI (List.length (cI c0)) (putF (0:Nat) (0:Nat) (1:Nat) [D.int IntKind.i64 a0] fun(i x:Nat)=>dI (List.getD (cI c0) i (0:Int))),Enc.list eI (List.length (cI c1)) (putF (0:Nat) (0:Nat) (1:Nat) [D.int IntKind.i64 a1] fun(i x:Nat)=>dI (List.getD (cI c1) i (0:Int))),Enc.list eI (List.length (cI c2)) (putF (0:Nat) (0:Nat) (1:Nat) [D.int IntKind.i64 a2] fun(i x:Nat)=>dI (List.getD (cI c2) i (0:Int)))]))] (i*1+j) D.nilp) fun(i j:Nat)=>List.getD [D.int IntKind.i64 (IntKind.i64.wrap ((bif decide (M.rdet (3:Nat) [Enc.list eI (List.length (cI c0)) fun(i x:Nat)=>dI (List.getD (cI c0) i (0:Int)),Enc.list eI (List.length (cI c1)) fun(i x:Nat)=>dI (List.getD (cI c1) i (0:Int)),Enc.list eI (List.length (cI c2)) fun(i x:Nat)=>dI (List.getD (cI c2) i (0:Int))]<0)then(-1:Int)else(1:Int))*M.rdet (3:Nat) [Enc.list eI (List.length (cI c0)) (putF (1:Nat) (0:Nat) (1:Nat) [D.int IntKind.i64 a0] fun(i x:Nat)=>dI (List.getD (cI c0) i (0:Int))),Enc.list eI (List.length (cI c1)) (putF (1:Nat) (0:Nat) (1:Nat) [D.int IntKind.i64 a1] fun(i x:Nat)=>dI (List.getD (cI c1) i (0:Int))),Enc.list eI (List.length (cI c2)) (putF (1:Nat) (0:Nat) (1:Nat) [D.int IntKind.i64 a2] fun(i x:Nat)=>dI (List.getD (cI c2) i (0:Int)))]))] (i*1+j) D.nilp) fun(i j:Nat)=>List.getD [D.int IntKind.i64 (IntKind.i64.wrap ((bif decide (M.rdet (3:Nat) [Enc.list eI (List.length (cI c0)) fun(i x:Nat)=>dI (List.getD (cI c0) i (0:Int)),Enc.list eI (List.length (cI c1)) fun(i x:Nat)=>dI (List.getD (cI c1) i (0:Int)),Enc.list eI (List.length (cI c2)) fun(i x:Nat)=>dI (List.getD (cI c2) i (0:Int))]<0)then(-1:Int)else(1:Int))*M.rdet (3:Nat) [Enc.list eI (List.length (cI c0)) (putF (2:Nat) (0:Nat) (1:Nat) [D.int IntKind.i64 a0] fun(i x:Nat)=>dI (List.getD (cI c0) i (0:Int))),Enc.list eI (List.length (cI c1)) (putF (2:Nat) (0:Nat) (1:Nat) [D.int IntKind.i64 a1] fun(i x:Nat)=>dI (List.getD (cI c1) i (0:Int))),Enc.list eI (List.length (cI c2)) (putF (2:Nat) (0:Nat) (1:Nat) [D.int IntKind.i64 a2] fun(i x:Nat)=>dI (List.getD (cI c2) i (0:Int)))]))] (i*1+j) D.nilp)],Ar.c (D.bool true)])))))))))))))))))))))))))))))))))))))))))))))))))))))))))))))))))))))))))))))))))))))))))))))))))))))))))))))))))))))))))))))))))))))))))))))))))))))))))))))))))))
theorem t88_3(q:Bool)(c0 c1 c2:List Int)(a0 a1 a2:Int):runFnX Try.prog G0 (lookS [v71r,v184 3]) (fun f=>match f with|156=>[(3000006,[],none),(3000008,[],none),(3000010,[],none),(1000011,[],none),(3000020,[],none),(1000021,[],none)]|88=>[(5000017,[.slot 5 (.int .i64)],none),(3000006,[],none),(3000023,[],none),(3000025,[],none),(1000026,[],none)]|_=>[]) [156] 1 60 6 88 Try.f88 [.c (.sl q 3 2 (eSd.F [⟨c0,a0⟩,⟨c1,a1⟩,⟨c2,a2⟩]))] =
  tr88_3 q c0 c1 c2 a0 a1 a2:=by kernel_rfl
theorem w88_3(q:Bool)(c0 c1 c2:List Int)(a0 a1 a2:Int)(h0:c0.length=3)(h1:c1.length=3)(h2:c2.length=3):(tr88_3 q c0 c1 c2 a0 a1 a2).wp (fun rs=>rsEqv rs (res88 (M.rcorner 3 [⟨c0,a0⟩,⟨c1,a1⟩,⟨c2,a2⟩]))):=by
 unfold tr88_3
 simp only[Enc.list_F,listD]
 have p00:=putD (l:=c0) (k:=0) (v:=a0) (by omega)
 have p01:=putD (l:=c0) (k:=1) (v:=a0) (by omega)
 have p02:=putD (l:=c0) (k:=2) (v:=a0) (by omega)
 have p10:=putD (l:=c1) (k:=0) (v:=a1) (by omega)
 have p11:=putD (l:=c1) (k:=1) (v:=a1) (by omega)
 have p12:=putD (l:=c1) (k:=2) (v:=a1) (by omega)
 have p20:=putD (l:=c2) (k:=0) (v:=a2) (by omega)
 have p21:=putD (l:=c2) (k:=1) (v:=a2) (by omega)
 have p22:=putD (l:=c2) (k:=2) (v:=a2) (by omega)
 simp only[p00.eq,p01.eq,p02.eq,p10.eq,p11.eq,p12.eq,p20.eq,p21.eq,p22.eq]
 have e0:M.rdet 3 (M.rmat 3 [⟨c0,a0⟩,⟨c1,a1⟩,⟨c2,a2⟩])=M.rdet 3 [c0,c1,c2]:=rfl
 have n0:M.rnum 3 [⟨c0,a0⟩,⟨c1,a1⟩,⟨c2,a2⟩] 0=IntKind.i64.wrap ((cond (decide (M.rdet 3 [c0,c1,c2]<0)) (-1) 1)*M.rdet 3 [c0.set 0 a0,c1.set 0 a1,c2.set 0 a2]):=rfl
 have n1:M.rnum 3 [⟨c0,a0⟩,⟨c1,a1⟩,⟨c2,a2⟩] 1=IntKind.i64.wrap ((cond (decide (M.rdet 3 [c0,c1,c2]<0)) (-1) 1)*M.rdet 3 [c0.set 1 a0,c1.set 1 a1,c2.set 1 a2]):=rfl
 have n2:M.rnum 3 [⟨c0,a0⟩,⟨c1,a1⟩,⟨c2,a2⟩] 2=IntKind.i64.wrap ((cond (decide (M.rdet 3 [c0,c1,c2]<0)) (-1) 1)*M.rdet 3 [c0.set 2 a0,c1.set 2 a1,c2.set 2 a2]):=rfl
 have ea:((List.range 3).any fun k=>decide (M.rnum 3 [⟨c0,a0⟩,⟨c1,a1⟩,⟨c2,a2⟩] k<0))=(decide (M.rnum 3 [⟨c0,a0⟩,⟨c1,a1⟩,⟨c2,a2⟩] 0<0)||decide (M.rnum 3 [⟨c0,a0⟩,⟨c1,a1⟩,⟨c2,a2⟩] 1<0)||decide (M.rnum 3 [⟨c0,a0⟩,⟨c1,a1⟩,⟨c2,a2⟩] 2<0)):=by simp[List.range_succ,Bool.or_assoc]
 repeat (refine⟨(by first|exact Enc.is_F _ _ _|exact Nat.le_refl _|exact Int.le_refl _|assumption|exact(rowIs_dI _).is|exact p00.is|exact p01.is|exact p02.is|exact p10.is|exact p11.is|exact p12.is|exact p20.is|exact p21.is|exact p22.is|omega|decide),?_⟩)
 refine⟨fun hb=>?_,fun hb=>?_⟩
 ·unfold M.rcorner;rw[e0,hb];exact nil88
 ·repeat (refine⟨(by first|exact Enc.is_F _ _ _|exact Nat.le_refl _|exact Int.le_refl _|assumption|exact(rowIs_dI _).is|exact p00.is|exact p01.is|exact p02.is|exact p10.is|exact p11.is|exact p12.is|exact p20.is|exact p21.is|exact p22.is|omega|decide),?_⟩)
  refine⟨fun hb0=>?_,fun hb0=>?_⟩
  ·unfold M.rcorner;rw[e0,hb,ea,n0,n1,n2];simp only[hb0,Bool.true_or,Bool.or_true,Bool.false_or,cond_true,cond_false];exact nil88
  repeat (refine⟨(by first|exact Enc.is_F _ _ _|exact Nat.le_refl _|exact Int.le_refl _|assumption|exact(rowIs_dI _).is|exact p00.is|exact p01.is|exact p02.is|exact p10.is|exact p11.is|exact p12.is|exact p20.is|exact p21.is|exact p22.is|omega|decide),?_⟩)
  refine⟨fun hb1=>?_,fun hb1=>?_⟩
  ·unfold M.rcorner;rw[e0,hb,ea,n0,n1,n2];simp only[hb0,hb1,Bool.true_or,Bool.or_true,Bool.false_or,cond_true,cond_false];exact nil88
  repeat (refine⟨(by first|exact Enc.is_F _ _ _|exact Nat.le_refl _|exact Int.le_refl _|assumption|exact(rowIs_dI _).is|exact p00.is|exact p01.is|exact p02.is|exact p10.is|exact p11.is|exact p12.is|exact p20.is|exact p21.is|exact p22.is|omega|decide),?_⟩)
  refine⟨fun hb2=>?_,fun hb2=>?_⟩
  ·unfold M.rcorner;rw[e0,hb,ea,n0,n1,n2];simp only[hb0,hb1,hb2,Bool.true_or,Bool.or_true,Bool.false_or,cond_true,cond_false];exact nil88
  repeat (refine⟨(by first|exact Enc.is_F _ _ _|exact Nat.le_refl _|exact Int.le_refl _|assumption|exact(rowIs_dI _).is|exact p00.is|exact p01.is|exact p02.is|exact p10.is|exact p11.is|exact p12.is|exact p20.is|exact p21.is|exact p22.is|omega|decide),?_⟩)
  unfold M.rcorner
  rw[e0,hb,ea,n0,n1,n2]
  simp only[hb0,hb1,hb2,Bool.false_or,cond_false]
  refine⟨⟨rfl,sl_lit (l:=(List.range 3).map (M.rnum 3 [⟨c0,a0⟩,⟨c1,a1⟩,⟨c2,a2⟩])) (fun i hi=>?_),trivial⟩,rfl,trivial⟩
  have hi:i<3:=by simpa using hi
  match i,hi with
  |0,_=>rfl
  |1,_=>rfl
  |2,_=>rfl
def dom88:DomF
 |[.c (.sl _ n st F)]=>(match Nat.beq st 2 with
  |true=>some ([eSd.Is n F,1≤n∧n≤3,∀s,s∈eSd.list n F→s.co.length=n],res88 (M.rcorner n (eSd.list n F)))
  |_=>none)
 |_=>none
def v88:Nat×Sm:=(88,fokSm dom88)
theorem C88:FOK Try.prog G0 gw 88 dom88:=by
 intro ags p r hd hp κ w xs hw hl hG hx
 unfold dom88 at hd
 split at hd
 ·rename_i q n st F
  split at hd
  ·rename_i hst
   have hst:=Nat.eq_of_beq_eq_true hst
   subst hst
   simp only[Option.some.injEq,Prod.mk.injEq]at hd
   obtain⟨rfl,rfl⟩:=hd
   obtain⟨hI,⟨hn1,hn3⟩,hco,_⟩:=hp
   have heq:agsEqv [.c (.sl q n 2 F)] [.c (.sl q (eSd.list n F).length 2 (eSd.F (eSd.list n F)))]:=⟨eSd.to id hI,trivial⟩
   have hl':(eSd.list n F).length=n:=Enc.list_len eSd
   rw[hl']at heq
   generalize eSd.list n F=R at *
   obtain rfl|rfl|rfl:n=1∨n=2∨n=3:=by omega
   ·obtain⟨c0,a0,rfl⟩:∃c0 a0,R=[⟨c0,a0⟩]:=by match R,hl' with|[s0],_=>exact⟨s0.co,s0.am,rfl⟩
    exact fokX_fin mixed gw_stable (sl:=[v71r,v184 1]) ⟨S71r,S184_1,trivial⟩ Try.func88 hw hl hG hx heq rfl (t88_1 q c0 a0) (w88_1 q c0 a0 (hco ⟨c0,a0⟩ (by simp)))
   ·obtain⟨c0,a0,c1,a1,rfl⟩:∃c0 a0 c1 a1,R=[⟨c0,a0⟩,⟨c1,a1⟩]:=by match R,hl' with|[s0,s1],_=>exact⟨s0.co,s0.am,s1.co,s1.am,rfl⟩
    exact fokX_fin mixed gw_stable (sl:=[v71r,v184 2]) ⟨S71r,S184_2,trivial⟩ Try.func88 hw hl hG hx heq rfl (t88_2 q c0 c1 a0 a1) (w88_2 q c0 c1 a0 a1 (hco ⟨c0,a0⟩ (by simp)) (hco ⟨c1,a1⟩ (by simp)))
   ·obtain⟨c0,a0,c1,a1,c2,a2,rfl⟩:∃c0 a0 c1 a1 c2 a2,R=[⟨c0,a0⟩,⟨c1,a1⟩,⟨c2,a2⟩]:=by match R,hl' with|[s0,s1,s2],_=>exact⟨s0.co,s0.am,s1.co,s1.am,s2.co,s2.am,rfl⟩
    exact fokX_fin mixed gw_stable (sl:=[v71r,v184 3]) ⟨S71r,S184_3,trivial⟩ Try.func88 hw hl hG hx heq rfl (t88_3 q c0 c1 c2 a0 a1 a2) (w88_3 q c0 c1 c2 a0 a1 a2 (hco ⟨c0,a0⟩ (by simp)) (hco ⟨c1,a1⟩ (by simp)) (hco ⟨c2,a2⟩ (by simp)))
  ·cases hd
 ·cases hd
theorem S88:SumOK Try.prog G0 gw 88 (fokSm dom88):=fok_sum Try.func88 rfl C88
end Go.Pl
end
section
set_option maxRecDepth 100000
namespace Go.Pl
open Go.V Go.Proofs
theorem floor_eq{n d:Int}(hd:0<d):(n.tmod d<0→n.tdiv d-1=n/d)∧(¬n.tmod d<0→n.tdiv d=n/d):=by
 have h1:=Int.emod_nonneg n (show d≠0 by omega)
 have h2:=Int.emod_lt_of_pos n hd
 have e1:=Int.tdiv_eq_ediv (a:=n) (b:=d)
 have e2:=Int.tmod_eq_emod (a:=n) (b:=d)
 by_cases h:0≤n∨d∣n
 ·rw[if_pos h]at e1 e2
  constructor <;>intro <;>omega
 ·rw[if_neg h]at e1 e2
  rw[Int.sign_eq_one_of_pos hd]at e1
  constructor <;>intro <;>omega
theorem ediv_ok{n d:Int}(h:i64ok n):(n/d).natAbs<9223372036854775808:=Nat.lt_of_le_of_lt (Int.natAbs_ediv_le_natAbs n d) h
theorem floorW_big{n b:Int}(hn:i64ok n)(hb:0<b):M.floorW n b=n/b:=by
 have h:=floor_eq (n:=n) hb
 have h2:=ediv_ok (d:=b) hn
 have h3:(n.tdiv b).natAbs≤n.natAbs:=Int.natAbs_tdiv_le_natAbs n b
 unfold i64ok at hn
 unfold M.floorW
 by_cases hm:n.tmod b<0
 ·rw[decide_eq_true hm,cond_true,wrap_id (n:=n.tdiv b) (by omega) (by omega),h.1 hm,wrap_id (by omega) (by omega)]
 ·rw[decide_eq_false hm,cond_false,wrap_id (n:=n.tdiv b) (by omega) (by omega),h.2 hm]
def dom148f:DomF
 |[.c (.int .i64 n),.c (.int .i64 b)]=>some ([0<b,i64ok n],[rI (n/b)])
 |_=>none
def v148f:Nat×Sm:=(148,fokSm dom148f)
theorem C148f:FOK Try.prog G0 gw 148 dom148f:=by
 intro ags p r hd hp κ w xs hw hl hG hx
 unfold dom148f at hd
 split at hd
 ·rename_i n b
  simp only[Option.some.injEq,Prod.mk.injEq]at hd
  obtain⟨rfl,rfl⟩:=hd
  have:=C148 [.c (.int .i64 n),.c (.int .i64 b)] [b≠0] [rI (M.floorW n b)] rfl ⟨by have:=hp.1;omega,trivial⟩ κ w xs hw hl hG hx
  rw[floorW_big hp.2.1 hp.1]at this
  exact this
 ·cases hd
theorem S148f:SumOK Try.prog G0 gw 148 (fokSm dom148f):=fok_sum Try.func148 rfl C148f
namespace M
def cmpX(n d m k:Int):Int:=if n*k<m*d then -1 else if n*k=m*d then 0 else 1
end M
end Go.Pl
end
section
set_option maxRecDepth 100000
namespace Go.Pl
open Go.V Go.Proofs
def tr79(n d m k:Int):T (List Ar):=
  T.loop (Int×Int×Int×Int×PUnit) (n,d,m,k,PUnit.unit) fun(x:Int×Int×Int×Int×PUnit)=>T.need ((0:Int)<x.2.1) (T.need (i64ok x.1) (T.need ((0:Int)<Prod.fst (Prod.snd (x.2.2))) (T.need (i64ok (Prod.fst (x.2.2))) (T.br (decide (x.1/x.2.1<Prod.fst (x.2.2)/Prod.fst (Prod.snd (x.2.2)))) (T.ret (Sum.inr [Ar.c (D.int IntKind.i64 (-1:Int))])) (T.br (decide (x.1/x.2.1>Prod.fst (x.2.2)/Prod.fst (Prod.snd (x.2.2)))) (T.ret (Sum.inr [Ar.c (D.int IntKind.i64 (1:Int))])) (T.br (IntKind.i64.wrap (x.1-IntKind.i64.wrap (x.1/x.2.1*x.2.1))==0) (T.br (IntKind.i64.wrap (Prod.fst (x.2.2)-IntKind.i64.wrap (Prod.fst (x.2.2)/Prod.fst (Prod.snd (x.2.2))*Prod.fst (Prod.snd (x.2.2))))==0) (T.ret (Sum.inr [Ar.c (D.int IntKind.i64 (0:Int))])) (T.br (IntKind.i64.wrap (x.1-IntKind.i64.wrap (x.1/x.2.1*x.2.1))==0) (T.ret (Sum.inr [Ar.c (D.int IntKind.i64 (-1:Int))])) (T.br (IntKind.i64.wrap (Prod.fst (x.2.2)-IntKind.i64.wrap (Prod.fst (x.2.2)/Prod.fst (Prod.snd (x.2.2))*Prod.fst (Prod.snd (x.2.2))))==0) (T.ret (Sum.inr [Ar.c (D.int IntKind.i64 (1:Int))])) (T.ret (Sum.inl (Prod.fst (Prod.snd (x.2.2)),IntKind.i64.wrap (Prod.fst (x.2.2)-IntKind.i64.wrap (Prod.fst (x.2.2)/Prod.fst (Prod.snd (x.2.2))*Prod.fst (Prod.snd (x.2.2)))),x.2.1,IntKind.i64.wrap (x.1-IntKind.i64.wrap (x.1/x.2.1*x.2.1)),PUnit.unit)))))) (T.br (IntKind.i64.wrap (x.1-IntKind.i64.wrap (x.1/x.2.1*x.2.1))==0) (T.ret (Sum.inr [Ar.c (D.int IntKind.i64 (-1:Int))])) (T.br (IntKind.i64.wrap (Prod.fst (x.2.2)-IntKind.i64.wrap (Prod.fst (x.2.2)/Prod.fst (Prod.snd (x.2.2))*Prod.fst (Prod.snd (x.2.2))))==0) (T.ret (Sum.inr [Ar.c (D.int IntKind.i64 (1:Int))])) (T.ret (Sum.inl (Prod.fst (Prod.snd (x.2.2)),IntKind.i64.wrap (Prod.fst (x.2.2)-IntKind.i64.wrap (Prod.fst (x.2.2)/Prod.fst (Prod.snd (x.2.2))*Prod.fst (Prod.snd (x.2.2)))),x.2.1,IntKind.i64.wrap (x.1-IntKind.i64.wrap (x.1/x.2.1*x.2.1)),PUnit.unit)))))))))))
theorem t79(n d m k:Int):runFnX Try.prog G0 (lookS [v148f]) (fun _=>[(1,[.slot 0 (.int .i64),.slot 1 (.int .i64),.slot 2 (.int .i64),.slot 3 (.int .i64)],none)]) [] 1 20 3 79 Try.f79 [.c (dI n),.c (dI d),.c (dI m),.c (dI k)] =
  tr79 n d m k:=by kernel_rfl
theorem wrap_emod{n d:Int}(hd:0<d)(h:i64ok d):IntKind.i64.wrap (n-IntKind.i64.wrap (n/d*d))=n%d:=by
 have h0:=Int.emod_nonneg n (show d≠0 by omega)
 have h1:=Int.emod_lt_of_pos n hd
 have h2:=Int.mul_ediv_add_emod n d
 rw[Int.mul_comm]at h2
 have e:IntKind.i64.wrap (n-IntKind.i64.wrap (n/d*d))=IntKind.i64.wrap (n-n/d*d):=by simp only[IntKind.wrap_i64];omega
 rw[e,show n-n/d*d=n%d by omega]
 unfold i64ok at h
 exact wrap_id (by omega) (by omega)
theorem cmpX_lt{n d m k:Int}(hd:0<d)(hk:0<k)(h:n/d<m/k):M.cmpX n d m k= -1:=by
 have h1:=Int.mul_ediv_add_emod n d
 have h2:=Int.mul_ediv_add_emod m k
 have r1:=Int.emod_lt_of_pos n hd
 have r2:=Int.emod_nonneg m (show k≠0 by omega)
 have a1:d*(n/d+1)≤d*(m/k):=Int.mul_le_mul_of_nonneg_left (by omega) (by omega)
 rw[Int.mul_add,Int.mul_one]at a1
 have a2:n<d*(m/k):=by omega
 have a3:n*k<d*(m/k)*k:=Int.mul_lt_mul_of_pos_right a2 hk
 have a4:(k*(m/k))*d≤m*d:=Int.mul_le_mul_of_nonneg_right (by omega) (by omega)
 have a5:d*(m/k)*k=(k*(m/k))*d:=by rw[Int.mul_comm k,Int.mul_comm d,Int.mul_assoc,Int.mul_assoc,Int.mul_comm d k]
 unfold M.cmpX
 rw[if_pos (by omega)]
theorem cmpX_swap(n d m k:Int):M.cmpX m k n d= - M.cmpX n d m k:=by
 unfold M.cmpX
 by_cases h1:n*k<m*d
 ·rw[if_pos h1,if_neg (by omega),if_neg (by omega)]
  rfl
 ·rw[if_neg h1]
  by_cases h2:n*k=m*d
  ·rw[if_pos h2,if_neg (by omega),if_pos h2.symm];rfl
  ·rw[if_neg h2,if_pos (by omega)]
theorem cmpX_rest{n d m k:Int}(h:n/d=m/k):M.cmpX n d m k=M.cmpX (n%d) d (m%k) k:=by
 have h1:=Int.mul_ediv_add_emod n d
 have h2:=Int.mul_ediv_add_emod m k
 have e1:n*k=d*(n/d)*k+n%d*k:=by rw[←Int.add_mul,h1]
 have e2:m*d=d*(n/d)*k+m%k*d:=by
  rw[h]
  have:d*(m/k)*k=k*(m/k)*d:=by rw[Int.mul_comm k,Int.mul_comm d,Int.mul_assoc,Int.mul_assoc,Int.mul_comm d k]
  rw[this,←Int.add_mul,h2]
 unfold M.cmpX
 rw[e1,e2]
 by_cases h1:n%d*k<m%k*d
 ·rw[if_pos h1,if_pos (by omega)]
 ·rw[if_neg h1,if_neg (by omega)]
  by_cases h2:n%d*k=m%k*d
  ·rw[if_pos h2,if_pos (by omega)]
  ·rw[if_neg h2,if_neg (by omega)]
theorem cmpX_turn(r d t k:Int):M.cmpX k t d r=M.cmpX r d t k:=by
 unfold M.cmpX
 rw[Int.mul_comm k r,Int.mul_comm d t]
theorem w79{n d m k:Int}(hd:0<d)(hk:0<k)(h1:i64ok n)(h2:i64ok d)(h3:i64ok m)(h4:i64ok k):(tr79 n d m k).wp (fun rs=>rsEqv rs [rI (M.cmpX n d m k)]):=by
 unfold tr79
 refine⟨fun x=>0<x.2.1∧0<x.2.2.2.1∧i64ok x.1∧i64ok x.2.1∧i64ok x.2.2.1∧i64ok x.2.2.2.1∧M.cmpX x.1 x.2.1 x.2.2.1 x.2.2.2.1=M.cmpX n d m k,fun x=>(x.2.1+x.2.2.2.1).toNat,⟨hd,hk,h1,h2,h3,h4,rfl⟩,?_⟩
 rintro ⟨a,b,c,e,u⟩ ⟨g1,g2,g3,g4,g5,g6,g7⟩
 simp only at g1 g2 g3 g4 g5 g6 g7
 have ra0:=Int.emod_nonneg a (show b≠0 by omega)
 have ra1:=Int.emod_lt_of_pos a g1
 have rc0:=Int.emod_nonneg c (show e≠0 by omega)
 have rc1:=Int.emod_lt_of_pos c g2
 have hwa:IntKind.i64.wrap (a-IntKind.i64.wrap (a/b*b))=a%b:=wrap_emod g1 g4
 have hwc:IntKind.i64.wrap (c-IntKind.i64.wrap (c/e*e))=c%e:=wrap_emod g2 g6
 simp only[hwa,hwc]
 refine⟨g1,g3,g2,g5,fun hb=>?_,fun hb=>?_⟩
 ·have hb:=of_decide_eq_true hb
  rw[←g7,cmpX_lt g1 g2 hb];exact rsEqv_refl _
 have hb:=of_decide_eq_false hb
 refine⟨fun hc=>?_,fun hc=>?_⟩
 ·have hc:=of_decide_eq_true hc
  rw[←g7,cmpX_swap c e a b,cmpX_lt g2 g1 hc];exact rsEqv_refl _
 have hc:=of_decide_eq_false hc
 have hr:=cmpX_rest (show a/b=c/e by omega)
 have zero:a%b=0→c%e≠0→M.cmpX n d m k= -1:=by
  intro e1 e2
  have:=Int.mul_pos (show 0<c%e by omega) g1
  rw[←g7,hr,e1];unfold M.cmpX;rw[Int.zero_mul,if_pos this]
 have one:c%e=0→a%b≠0→M.cmpX n d m k=1:=by
  intro e1 e2
  have:=Int.mul_pos (show 0<a%b by omega) g2
  rw[←g7,hr,e1];unfold M.cmpX;rw[Int.zero_mul,if_neg (by omega),if_neg (by omega)]
 have nxt:a%b≠0→c%e≠0→(0<c%e∧0<a%b∧i64ok e∧i64ok (c%e)∧i64ok b∧i64ok (a%b)∧M.cmpX e (c%e) b (a%b)=M.cmpX n d m k)∧(c%e+a%b).toNat<(b+e).toNat:=by
  intro e1 e2
  refine⟨⟨by omega,by omega,g6,by unfold i64ok at *;omega,g4,by unfold i64ok at *;omega,?_⟩,by omega⟩
  rw[cmpX_turn,←hr,g7]
 refine⟨fun hx=>?_,fun hx=>?_⟩
 ·have hx:=eq_of_beq hx
  refine⟨fun hy=>?_,fun hy=>?_⟩
  ·have hy:=eq_of_beq hy
   have:M.cmpX n d m k=0:=by rw[←g7,hr,hx,hy];unfold M.cmpX;rw[Int.zero_mul,Int.zero_mul];rfl
   rw[this];exact rsEqv_refl _
  ·have hy:c%e≠0:=by intro e9;rw[e9]at hy;exact absurd hy (by decide)
   refine⟨fun hz=>?_,fun hz=>?_⟩
   ·rw[zero hx hy];exact rsEqv_refl _
   ·rw[hx]at hz;exact absurd hz (by decide)
 ·have hx:a%b≠0:=by intro e9;rw[e9]at hx;exact absurd hx (by decide)
  refine⟨fun hz=>absurd (eq_of_beq hz) hx,fun hz=>⟨fun hy=>?_,fun hy=>?_⟩⟩
  ·rw[one (eq_of_beq hy) hx];exact rsEqv_refl _
  ·have hy:c%e≠0:=by intro e9;rw[e9]at hy;exact absurd hy (by decide)
   exact nxt hx hy
def dom79:DomF
 |[.c (.int .i64 n),.c (.int .i64 d),.c (.int .i64 m),.c (.int .i64 k)]=>some ([0<d,0<k,i64ok n,i64ok d,i64ok m,i64ok k],[rI (M.cmpX n d m k)])
 |_=>none
def v79:Nat×Sm:=(79,fokSm dom79)
theorem C79:FOK Try.prog G0 gw 79 dom79:=by
 intro ags p r hd hp κ w xs hw hl hG hx
 unfold dom79 at hd
 split at hd
 ·rename_i n d m k
  simp only[Option.some.injEq,Prod.mk.injEq]at hd
  obtain⟨rfl,rfl⟩:=hd
  have heq:agsEqv [.c (.int .i64 n),.c (.int .i64 d),.c (.int .i64 m),.c (.int .i64 k)] [.c (.int .i64 n),.c (.int .i64 d),.c (.int .i64 m),.c (.int .i64 k)]:=⟨Ag.eqv_refl _,Ag.eqv_refl _,Ag.eqv_refl _,Ag.eqv_refl _,trivial⟩
  exact fokX_fin mixed gw_stable (sl:=[v148f]) ⟨S148f,trivial⟩ Try.func79 hw hl hG hx heq rfl (t79 n d m k) (w79 hp.1 hp.2.1 hp.2.2.1 hp.2.2.2.1 hp.2.2.2.2.1 hp.2.2.2.2.2.1)
 ·cases hd
theorem S79:SumOK Try.prog G0 gw 79 (fokSm dom79):=fok_sum Try.func79 rfl C79
end Go.Pl
end
section
set_option maxRecDepth 100000
namespace Go.Pl
open Go.V Go.Proofs
namespace M
def nxt(c:List Int):Nat:=cond (decide (0<c.length)) ((c.getD (c.length-1) 0).toNat+1) 0
def ord(L:Nat):Nat→List Int→List (List Int)
 |0,c=>[c]
 |k+1,c=>((List.range (L-nxt c)).reverse).flatMap fun i=>ord L k (c++ [((nxt c+i:Nat):Int)])
def pickS(S:List Side)(c:List Int):List Side:=c.map fun i=>S.getD i.toNat dfSd
abbrev Gr:=Int×Int×Bool
def betterG(S:List Side)(mo ga:List Int)(de:List Dem)(a:Gr)(c:List Int):Gr:=
 cond (!(rcorner c.length (pickS S c)).2.2) a
  (cond (allowE mo de (rcorner c.length (pickS S c)).1 (rcorner c.length (pickS S c)).2.1 != 0) a
   (cond (!a.2.2) (dot ga (rcorner c.length (pickS S c)).2.1,(rcorner c.length (pickS S c)).1,true)
    (cond (decide (cmpX (dot ga (rcorner c.length (pickS S c)).2.1) (rcorner c.length (pickS S c)).1 a.1 a.2.1>0)) (dot ga (rcorner c.length (pickS S c)).2.1,(rcorner c.length (pickS S c)).1,true) a)))
def greatG(mo ga:List Int)(de:List Dem):Gr:=(ord (sides mo de).length mo.length []).foldl (betterG (sides mo de) mo ga de) (0,1,false)
end M
def GoodC(n L:Nat)(c:List Int):Prop:=c.length≤n∧∀v,v∈c→0≤v∧v<(L:Int)
def wtC(n L:Nat)(st:List (List Int)):Nat:=(st.map fun c=>(L+1)^(n+1-c.length)).sum
theorem wtC_app{n L:Nat}{a b:List (List Int)}:wtC n L (a++b)=wtC n L a+wtC n L b:=by simp[wtC]
theorem wtC_one{n L:Nat}{c:List Int}:wtC n L [c]=(L+1)^(n+1-c.length):=by simp[wtC]
theorem len_wtC{n L:Nat}:∀{st:List (List Int)},st.length≤wtC n L st
 |[]=>Nat.le_refl _
 |c::st=>by
  have ih:=len_wtC (n:=n) (L:=L) (st:=st)
  have:0<(L+1)^(n+1-c.length):=Nat.pow_pos (by omega)
  simp only[wtC,List.map_cons,List.sum_cons,List.length_cons]at ih ⊢
  omega
theorem sum_const{α:Type}{f:α→Nat}{p:Nat}:∀{l:List α},(∀x,x∈l→f x=p)→(l.map f).sum=l.length*p
 |[],_=>by simp
 |x::l,h=>by
  rw[List.map_cons,List.sum_cons,sum_const fun y hy=>h y (List.mem_cons_of_mem _ hy),h x (by simp),List.length_cons,Nat.add_mul];omega
theorem wtC_push{n L:Nat}{c:List Int}(h:c.length<n)(j:Nat):wtC n L ((List.range (L-j)).map fun i=>c++ [((j+i:Nat):Int)])<(L+1)^(n+1-c.length):=by
 have e:wtC n L ((List.range (L-j)).map fun i=>c++ [((j+i:Nat):Int)])=(L-j)*(L+1)^(n-c.length):=by
  unfold wtC
  rw[List.map_map,sum_const (p:=(L+1)^(n-c.length)),List.length_range]
  intro i _
  simp only[Function.comp,List.length_append,List.length_singleton]
  congr 1;omega
 rw[e,show n+1-c.length=(n-c.length)+1 by omega,Nat.pow_succ]
 have hp:0<(L+1)^(n-c.length):=Nat.pow_pos (by omega)
 have h1:(L-j)*(L+1)^(n-c.length)≤L*(L+1)^(n-c.length):=Nat.mul_le_mul_right _ (by omega)
 have h2:(L+1)^(n-c.length)*(L+1)=L*(L+1)^(n-c.length)+(L+1)^(n-c.length):=by rw[Nat.mul_comm,Nat.add_mul,Nat.one_mul]
 omega
theorem list_cut{α:Type}{E:Enc α}{a b:List α}:E.list a.length (E.F (a++b))=a:=by
 apply List.ext_getElem
 ·simp[Enc.list]
 ·intro i h1 h2
  simp[Enc.list,Enc.F,E.law,h2,List.getElem?_append_left h2]
def ordS(n L:Nat)(st:List (List Int)):List (List Int):=st.reverse.flatMap fun c=>M.ord L (n-c.length) c
theorem ordS_push{n L:Nat}{st:List (List Int)}{c:List Int}(h:c.length<n):ordS n L (st++(List.range (L-M.nxt c)).map fun i=>c++ [((M.nxt c+i:Nat):Int)])=ordS n L (st++ [c]):=by
 unfold ordS
 rw[List.reverse_append,List.reverse_append,List.flatMap_append,List.flatMap_append]
 congr 1
 obtain⟨k,hk⟩:∃k,n-c.length=k+1:=⟨n-c.length-1,by omega⟩
 rw[List.reverse_singleton,List.flatMap_singleton,hk,M.ord,←List.map_reverse,List.flatMap_map]
 congr 1
 funext i
 simp only[List.length_append,List.length_singleton]
 rw[show n-(c.length+1)=k by omega]
theorem ordS_full{n L:Nat}{st:List (List Int)}{c:List Int}(h:c.length=n):ordS n L (st++ [c])=c::ordS n L st:=by
 unfold ordS
 rw[List.reverse_append,List.flatMap_append,List.reverse_singleton,List.flatMap_singleton,h,Nat.sub_self]
 rfl
theorem goodC_push{n L:Nat}{c:List Int}(h:c.length<n)(hc:GoodC n L c){d:List Int}(hd:d∈(List.range (L-M.nxt c)).map fun i=>c++ [((M.nxt c+i:Nat):Int)]):GoodC n L d:=by
 obtain⟨i,hi,rfl⟩:=List.mem_map.1 hd
 rw[List.mem_range]at hi
 refine⟨by simp;omega,fun v hv=>?_⟩
 rcases List.mem_append.1 hv with hv|hv
 ·exact hc.2 v hv
 ·rw[List.mem_singleton]at hv;subst hv;omega
theorem row_one(v:Int):RowIs eI 1 (fun(i j:Nat)=>List.getD [dI v] (i*1+j) D.nilp) [v]:=by
 refine⟨fun i j hi hj=>?_,rfl⟩
 have hj:j<1:=hj
 obtain rfl:i=0:=by omega
 obtain rfl:j=0:=by omega
 exact D.eqv_refl _
theorem row_oneR{len:Nat}{F:Nat→Nat→D}{l:List Int}(h:RowIs eI len F l):RowIs eR 1 (fun(i j:Nat)=>List.getD [D.sl true len 1 F] (i*1+j) D.nilp) [l]:=by
 refine⟨fun i j hi hj=>?_,?_⟩
 ·have hj:j<1:=hj
  obtain rfl:i=0:=by omega
  obtain rfl:j=0:=by omega
  exact eI.to (fun e=>by cases e) h.is
 ·show[eI.list len F]=[l]
  rw[h.eq]
theorem row_nil:RowIs eR 1 (fun(i j:Nat)=>List.getD [D.sl true 0 0 fun(_ _:Nat)=>D.nilp] (i*1+j) D.nilp) [[]]:=by
 refine⟨fun i j hi hj=>?_,rfl⟩
 have hj:j<1:=hj
 obtain rfl:i=0:=by omega
 obtain rfl:j=0:=by omega
 exact⟨(fun e=>by cases e),rfl,(fun h=>absurd h (Nat.lt_irrefl 0)),fun i j hi=>absurd hi (Nat.not_lt_zero i)⟩
end Go.Pl
end
section
set_option maxRecDepth 100000
namespace Go.Pl
open Go.V Go.Proofs
abbrev GX:Type:=List (List Int)×Int×Int×Bool×PUnit
def lsx(x:GX):Int:=IntKind.i64.wrap ((x.1.length:Int)-1)
def tpx(x:GX):Nat:=Int.toNat (lsx x)
def topx(x:GX):List Int:=List.getD x.1 (tpx x) []
def butx(x:GX):List (List Int):=Enc.list eR (tpx x) (Enc.F eR x.1)
abbrev sdx(mo:List Int)(de:List Dem):List Side:=M.sides (cI mo) (cD de)
abbrev cny(y:Int×List Side×PUnit):Int×List Int×Bool:=M.rcorner (List.length (Prod.fst (Prod.snd y))) (Enc.list eSd (List.length (Prod.fst (Prod.snd y))) (Enc.F eSd (Prod.fst (Prod.snd y))))
def pushB(L:Nat)(top:List Int)(x:GX)(x_1:Int×List (List Int)×PUnit):T ((Int×List (List Int)×PUnit) ⊕ (GX ⊕ List Ar)):=
  T.br (decide (x_1.1<(Nat.cast (R:=Int) (L)))) (T.need (Enc.Is eI top.length (Enc.F eI top)) (T.need (top.length≤1000000) (T.need (List.length (cI top)+1≤1000000) (T.need (List.length (cI top)≤List.length (cI top)) (T.need (List.length (cI top)+1≤List.length (cI top)+1) (T.need (List.length (x_1.2.1)+1≤1000000) (T.need (List.length (x_1.2.1)≤List.length (x_1.2.1)) (T.need (Enc.Is eR (List.length (x_1.2.1)+1) (joinF (List.length (x_1.2.1)) (Enc.F eR (x_1.2.1)) fun(i j:Nat)=>List.getD [D.sl true (List.length (cI top)+1) (1:Nat) (joinF (List.length (cI top)) (fun(i x_2:Nat)=>dI (List.getD (cI top) i (0:Int))) fun(i j:Nat)=>List.getD [D.int IntKind.i64 x_1.1] (i*1+j) D.nilp)] (i*1+j) D.nilp)) (T.need (List.length (x_1.2.1)+1≤List.length (x_1.2.1)+1) (T.ret (Sum.inl (IntKind.i64.wrap (x_1.1+1),Enc.list eR (List.length (x_1.2.1)+1) (joinF (List.length (x_1.2.1)) (Enc.F eR (x_1.2.1)) fun(i j:Nat)=>List.getD [D.sl true (List.length (cI top)+1) (1:Nat) (joinF (List.length (cI top)) (fun(i x_2:Nat)=>dI (List.getD (cI top) i (0:Int))) fun(i j:Nat)=>List.getD [D.int IntKind.i64 x_1.1] (i*1+j) D.nilp)] (i*1+j) D.nilp),PUnit.unit)))))))))))) (T.need (Enc.Is eR (List.length (x_1.2.1)) (Enc.F eR (x_1.2.1))) (T.need (List.length (x_1.2.1)≤List.length (x_1.2.1)) (T.ret (Sum.inr (Sum.inl (Enc.list eR (List.length (x_1.2.1)) (Enc.F eR (x_1.2.1)),x.2.1,Prod.fst (x.2.2),Prod.fst (Prod.snd (x.2.2)),PUnit.unit))))))
def tryA(mo:List Int)(de:List Dem)(top:List Int)(x_1:Int×PUnit×PUnit):T (((Int×PUnit×PUnit) ⊕ (Int×List Side×PUnit)) ⊕ (GX ⊕ List Ar)):=
  T.br (decide (x_1.1<(top.length:Int))) (T.need ((0:Int)≤x_1.1) (T.need (x_1.1<(top.length:Int)) (T.need ((0:Int)≤top.getD x_1.1.toNat (0:Int)) (T.need (top.getD x_1.1.toNat (0:Int)<((sdx mo de).length:Int)) (T.need ((1:Nat)≤1000000) (T.need (Enc.Is eSd (1:Nat) (joinF (0:Nat) (fun(_ _:Nat)=>D.nilp) fun(i j:Nat)=>List.getD [D.sl false (List.length (Side.co (List.getD (sdx mo de) (Int.toNat (top.getD x_1.1.toNat (0:Int))) dfSd))) (1:Nat) (Enc.F eI (Side.co (List.getD (sdx mo de) (Int.toNat (top.getD x_1.1.toNat (0:Int))) dfSd))),D.int IntKind.i64 (Side.am (List.getD (sdx mo de) (Int.toNat (top.getD x_1.1.toNat (0:Int))) dfSd))] (i*2+j) D.nilp)) (T.need ((1:Nat)≤1) (T.ret (Sum.inl (Sum.inr (IntKind.i64.wrap (x_1.1+1),Enc.list eSd (1:Nat) (joinF (0:Nat) (fun(_ _:Nat)=>D.nilp) fun(i j:Nat)=>List.getD [D.sl false (List.length (Side.co (List.getD (sdx mo de) (Int.toNat (top.getD x_1.1.toNat (0:Int))) dfSd))) (1:Nat) (Enc.F eI (Side.co (List.getD (sdx mo de) (Int.toNat (top.getD x_1.1.toNat (0:Int))) dfSd))),D.int IntKind.i64 (Side.am (List.getD (sdx mo de) (Int.toNat (top.getD x_1.1.toNat (0:Int))) dfSd))] (i*2+j) D.nilp),PUnit.unit))))))))))) T.fail
def tryB(mo ga:List Int)(de:List Dem)(top:List Int)(x:GX)(y:Int×List Side×PUnit):T (((Int×PUnit×PUnit) ⊕ (Int×List Side×PUnit)) ⊕ (GX ⊕ List Ar)):=
  T.br (decide (y.1<(top.length:Int))) (T.need ((0:Int)≤y.1) (T.need (y.1<(top.length:Int)) (T.need ((0:Int)≤top.getD y.1.toNat (0:Int)) (T.need (top.getD y.1.toNat (0:Int)<((sdx mo de).length:Int)) (T.need (List.length (y.2.1)+1≤1000000) (T.need (List.length (y.2.1)≤List.length (y.2.1)) (T.need (Enc.Is eSd (List.length (y.2.1)+1) (joinF (List.length (y.2.1)) (Enc.F eSd (y.2.1)) fun(i j:Nat)=>List.getD [D.sl false (List.length (Side.co (List.getD (sdx mo de) (Int.toNat (top.getD y.1.toNat (0:Int))) dfSd))) (1:Nat) (Enc.F eI (Side.co (List.getD (sdx mo de) (Int.toNat (top.getD y.1.toNat (0:Int))) dfSd))),D.int IntKind.i64 (Side.am (List.getD (sdx mo de) (Int.toNat (top.getD y.1.toNat (0:Int))) dfSd))] (i*2+j) D.nilp)) (T.need (List.length (y.2.1)+1≤List.length (y.2.1)+1) (T.ret (Sum.inl (Sum.inr (IntKind.i64.wrap (y.1+1),Enc.list eSd (List.length (y.2.1)+1) (joinF (List.length (y.2.1)) (Enc.F eSd (y.2.1)) fun(i j:Nat)=>List.getD [D.sl false (List.length (Side.co (List.getD (sdx mo de) (Int.toNat (top.getD y.1.toNat (0:Int))) dfSd))) (1:Nat) (Enc.F eI (Side.co (List.getD (sdx mo de) (Int.toNat (top.getD y.1.toNat (0:Int))) dfSd))),D.int IntKind.i64 (Side.am (List.getD (sdx mo de) (Int.toNat (top.getD y.1.toNat (0:Int))) dfSd))] (i*2+j) D.nilp),PUnit.unit)))))))))))) (T.need (List.length (y.2.1)≤List.length (y.2.1)) (T.need (Enc.Is eSd (List.length (y.2.1)) (Enc.F eSd (y.2.1))) (T.need ((1:Nat)≤List.length (y.2.1)∧List.length (y.2.1)≤3) (T.need (∀(s:Side),s∈Enc.list eSd (List.length (y.2.1)) (Enc.F eSd (y.2.1))→List.length (Side.co s)=List.length (y.2.1)) (T.br (!Prod.snd (Prod.snd (cny y))) (T.need (Enc.Is eR (tpx x) (Enc.F eR x.1)) (T.need (tpx x≤x.1.length) (T.ret (Sum.inr (Sum.inl ((butx x),x.2.1,Prod.fst (x.2.2),Prod.fst (Prod.snd (x.2.2)),PUnit.unit)))))) (T.need (Enc.Is eI mo.length (Enc.F eI mo)) (T.need (Enc.Is eI ga.length (Enc.F eI ga)) (T.need (Enc.Is eDm de.length (Enc.F eDm de)) (T.need (Enc.Is eI (List.length (Prod.fst (Prod.snd (cny y)))) (Enc.F eI (Prod.fst (Prod.snd (cny y))))) (T.need (List.length (cI mo)≤1000000) (T.need (List.length (cD de)≤1000000) (T.need (List.length (cI mo)≤List.length (cI (Prod.fst (Prod.snd (cny y))))) (T.need (∀(d:Dem),d∈(cD de)→List.length (Dem.co d)≤1000000∧List.length (Dem.co d)≤List.length (cI (Prod.fst (Prod.snd (cny y))))) (T.br (M.allowE (cI mo) (cD de) (Prod.fst (cny y)) (cI (Prod.fst (Prod.snd (cny y)))) != (0:Int)) (T.need (Enc.Is eR (tpx x) (Enc.F eR x.1)) (T.need (tpx x≤x.1.length) (T.ret (Sum.inr (Sum.inl ((butx x),x.2.1,Prod.fst (x.2.2),Prod.fst (Prod.snd (x.2.2)),PUnit.unit)))))) (T.need (Enc.Is eI ga.length (Enc.F eI ga)) (T.need (Enc.Is eI (List.length (Prod.fst (Prod.snd (cny y)))) (Enc.F eI (Prod.fst (Prod.snd (cny y))))) (T.need (List.length (cI ga)≤1000000) (T.need (List.length (cI ga)≤List.length (cI (Prod.fst (Prod.snd (cny y))))) (T.br (!Prod.fst (Prod.snd (x.2.2))) (T.need (Enc.Is eR (tpx x) (Enc.F eR x.1)) (T.need (tpx x≤x.1.length) (T.ret (Sum.inr (Sum.inl ((butx x),M.dot (cI ga) (cI (Prod.fst (Prod.snd (cny y)))),Prod.fst (cny y),true,PUnit.unit)))))) (T.need ((0:Int)<Prod.fst (cny y)) (T.need ((0:Int)<Prod.fst (x.2.2)) (T.need (i64ok (M.dot (cI ga) (cI (Prod.fst (Prod.snd (cny y)))))) (T.need (i64ok (Prod.fst (cny y))) (T.need (i64ok (x.2.1)) (T.need (i64ok (Prod.fst (x.2.2))) (T.br (decide (M.cmpX (M.dot (cI ga) (cI (Prod.fst (Prod.snd (cny y))))) (Prod.fst (cny y)) (x.2.1) (Prod.fst (x.2.2))>(0:Int))) (T.need (Enc.Is eR (tpx x) (Enc.F eR x.1)) (T.need (tpx x≤x.1.length) (T.ret (Sum.inr (Sum.inl ((butx x),M.dot (cI ga) (cI (Prod.fst (Prod.snd (cny y)))),Prod.fst (cny y),true,PUnit.unit)))))) (T.need (Enc.Is eR (tpx x) (Enc.F eR x.1)) (T.need (tpx x≤x.1.length) (T.ret (Sum.inr (Sum.inl ((butx x),x.2.1,Prod.fst (x.2.2),Prod.fst (Prod.snd (x.2.2)),PUnit.unit))))))))))))))))))))))))))))))))
def vNoRest:Nat×Sm:=(2,fokSm fun _=>none)
def tr20(q_mo:Bool)(mo:List Int)(q_ga:Bool)(ga:List Int)(q_de:Bool)(de:List Dem):T (List Ar):=
  T.need (Enc.Is eI mo.length (Enc.F eI mo)) (T.need (Enc.Is eI ga.length (Enc.F eI ga)) (T.need (Enc.Is eDm de.length (Enc.F eDm de)) (T.need (List.length (cI mo)≤1000) (T.need (List.length (cD de)≤1000) (T.need ((0:Nat)<List.length (cI mo)) (T.need (Enc.Is eR (1:Nat) fun(i j:Nat)=>List.getD [D.sl true (0:Nat) (0:Nat) fun(_ _:Nat)=>D.nilp] (i*1+j) D.nilp) (T.loop (List (List Int)×Int×Int×Bool×PUnit) (Enc.list eR (1:Nat) fun(i j:Nat)=>List.getD [D.sl true (0:Nat) (0:Nat) fun(_ _:Nat)=>D.nilp] (i*1+j) D.nilp,(0:Int),(1:Int),false,PUnit.unit) fun(x:List (List Int)×Int×Int×Bool×PUnit)=>T.br (decide ((x.1.length:Int)>(0:Int))) (T.need ((0:Int)≤lsx x) (T.need (lsx x<(x.1.length:Int)) (T.need (tpx x<x.1.length) (T.need ((0:Int)≤lsx x) (T.need (lsx x≤(x.1.length:Int)) (T.br (decide (((topx x).length:Int)<(mo.length:Int))) (T.br (decide (((topx x).length:Int)>(0:Int))) (T.need ((0:Int)≤IntKind.i64.wrap (((topx x).length:Int)-1)) (T.need (IntKind.i64.wrap (((topx x).length:Int)-1)<((topx x).length:Int)) (T.need (Enc.Is eR (tpx x) (Enc.F eR x.1)) (T.need (tpx x≤x.1.length) (T.loop (Int×List (List Int)×PUnit) (IntKind.i64.wrap (List.getD (topx x) (Int.toNat (IntKind.i64.wrap (((topx x).length:Int)-1))) (0:Int)+1),(butx x),PUnit.unit) (pushB (List.length (sdx mo de)) (topx x) x)))))) (T.need (Enc.Is eR (tpx x) (Enc.F eR x.1)) (T.need (tpx x≤x.1.length) (T.loop (Int×List (List Int)×PUnit) ((0:Int),(butx x),PUnit.unit) (pushB (List.length (sdx mo de)) (topx x) x))))) (T.loop2 (Int×PUnit×PUnit) (Int×List Side×PUnit) (Sum.inl ((0:Int),PUnit.unit,PUnit.unit)) (tryA mo de (topx x)) (tryB mo ga de (topx x) x)))))))) (T.ret (Sum.inr [Ar.c (D.int IntKind.i64 (x.2.1)),Ar.c (D.int IntKind.i64 (Prod.fst (x.2.2))),Ar.c (D.bool (Prod.fst (Prod.snd (x.2.2))))])))))))))
theorem t20(q_mo:Bool)(mo:List Int)(q_ga:Bool)(ga:List Int)(q_de:Bool)(de:List Dem):runFnX Try.prog G0 (lookS [vNoRest,v87,v71r,v88,v89,v90,v79]) (fun _=>[(4,[.slot 9 (.rowE 22 eR),.slot 6 (.int .i64),.slot 7 (.int .i64),.slot 8 .bool],none),(12,[.slot 12 (.int .i64),.slot 9 (.rowE 22 eR)],none),(17,[.slot 14 (.int .i64),.slot 13 .nsl],some [.slot 14 (.int .i64),.slot 13 (.rowE 146 eSd)])]) [] 1 60 4 20 Try.f20 [.agg [.sl q_mo mo.length 1 (eI.F mo),.sl q_ga ga.length 1 (eI.F ga),.sl q_de de.length 3 (eDm.F de)]] =
  tr20 q_mo mo q_ga ga q_de de:=by kernel_rfl
theorem lsx_lit{st:List (List Int)}{c:List Int}{r:Int×Int×Bool×PUnit}(h:st.length<1000000):lsx (st++ [c],r)=(st.length:Int):=by
 unfold lsx
 rw[List.length_append,List.length_singleton,wrap_id (by omega) (by omega)];omega
theorem tpx_lit{st:List (List Int)}{c:List Int}{r:Int×Int×Bool×PUnit}(h:st.length<1000000):tpx (st++ [c],r)=st.length:=by
 unfold tpx;rw[lsx_lit h];rfl
theorem topx_lit{st:List (List Int)}{c:List Int}{r:Int×Int×Bool×PUnit}(h:st.length<1000000):topx (st++ [c],r)=c:=by
 unfold topx;rw[tpx_lit h];simp
theorem butx_lit{st:List (List Int)}{c:List Int}{r:Int×Int×Bool×PUnit}(h:st.length<1000000):butx (st++ [c],r)=st:=by
 unfold butx;rw[tpx_lit h];exact list_cut
theorem push_wp{L j:Nat}{top:List Int}{x:GX}{st:List (List Int)}{Q:GX ⊕ List Ar→Prop}(hj:j≤L)(hL:L≤1000)(ht:top.length≤1000)(hs:st.length≤990000)
  (hQ:Q (Sum.inl (st++(List.range (L-j)).map (fun i=>top++ [((j+i:Nat):Int)]),x.2.1,x.2.2.1,x.2.2.2.1,PUnit.unit))) :
  (T.loop (Int×List (List Int)×PUnit) ((j:Int),st,PUnit.unit) (pushB L top x)).wp Q:=by
 refine⟨fun z=>∃i:Nat,i≤L-j∧z.1=((j+i:Nat):Int)∧z.2.1=st++(List.range i).map (fun i=>top++ [((j+i:Nat):Int)]),fun z=>L+1-z.1.toNat,⟨0,Nat.zero_le _,rfl,by simp⟩,?_⟩
 rintro ⟨z,acc,u⟩ ⟨i,hi,hz,ha⟩
 simp only at hz ha
 subst hz
 have hal:acc.length≤991000:=by rw[ha];simp only[List.length_append,List.length_map,List.length_range];omega
 have hw:IntKind.i64.wrap (((j+i:Nat):Int)+1)=((j+i+1:Nat):Int):=wrap_succ (by omega)
 have o:=(rowIs_F (E:=eR) acc).app (row_oneR ((rowIs_dI top).app (row_one ((j+i:Nat):Int))))
 unfold pushB
 refine⟨fun hb=>?_,fun hb=>?_⟩
 ·have hlt:=lt_of_dec hb
  simp only[cI,Enc.list_F,hw]
  repeat (refine⟨(by first|exact Enc.is_F _ _ _|exact Nat.le_refl _|exact o.is|omega),?_⟩)
  refine⟨⟨i+1,by omega,rfl,o.eq.trans ?_⟩,?_⟩
  ·rw[ha,List.range_succ,List.map_append,List.append_assoc];rfl
  ·show L+1-((j+i+1:Nat):Int).toNat<L+1-((j+i:Nat):Int).toNat
   omega
 ·have hge:=ge_of_dec hb
  obtain rfl:i=L-j:=by omega
  simp only[Enc.list_F]
  refine⟨Enc.is_F _ _ _,Nat.le_refl _,?_⟩
  rw[ha]
  exact hQ
structure GrOk(mo ga:List Int)(de:List Dem):Prop where
 n1:1≤mo.length
 n3:mo.length≤3
 lg:ga.length=mo.length
 ld:∀d,d∈de→d.co.length=mo.length
 lS:(M.sides mo de).length≤30
 lD:de.length≤1000
 hS:∀s,s∈M.sides mo de→s.co.length=mo.length
 hR:∀R,R.length=mo.length→(∀s,s∈R→s∈M.sides mo de)→(M.rcorner mo.length R).2.2=true→0<(M.rcorner mo.length R).1∧i64ok (M.rcorner mo.length R).1∧i64ok (M.dot ga (M.rcorner mo.length R).2.1)∧(M.rcorner mo.length R).2.1.length=mo.length
theorem pickS_take{S:List Side}{c:List Int}{i:Nat}(h:i<c.length):M.pickS S (c.take (i+1))=M.pickS S (c.take i)++ [S.getD (c.getD i 0).toNat dfSd]:=by
 unfold M.pickS
 rw[List.take_succ_eq_append_getElem h,List.map_append]
 simp[h]
theorem mem_pickS{S:List Side}{n:Nat}{c:List Int}(h:∀v,v∈c→0≤v∧v<(S.length:Int)){s:Side}(hs:s∈M.pickS S c):s∈S:=by
 obtain⟨v,hv,rfl⟩:=List.mem_map.1 hs
 have:=h v hv
 have hl:v.toNat<S.length:=by omega
 simp[hl]
theorem try_wp{mo ga:List Int}{de:List Dem}(hG:GrOk mo ga de){st:List (List Int)}{c:List Int}{nu dn:Int}{so:Bool}{Q:GX ⊕ List Ar→Prop}(hc:c.length=mo.length)(hg:∀v,v∈c→0≤v∧v<((M.sides mo de).length:Int))(hd:0<dn)(hi1:i64ok nu)(hi2:i64ok dn)(hl:st.length≤990000)
  (hQ:Q (Sum.inl (st,(M.betterG (M.sides mo de) mo ga de (nu,dn,so) c).1,(M.betterG (M.sides mo de) mo ga de (nu,dn,so) c).2.1,(M.betterG (M.sides mo de) mo ga de (nu,dn,so) c).2.2,PUnit.unit))) :
  (T.loop2 (Int×PUnit×PUnit) (Int×List Side×PUnit) (Sum.inl ((0:Int),PUnit.unit,PUnit.unit)) (tryA mo de c) (tryB mo ga de c (st++ [c],nu,dn,so,PUnit.unit))).wp Q:=by
 have n1:=hG.n1
 have n3:=hG.n3
 have vb:∀i,i<c.length→0≤c.getD i 0∧c.getD i 0<((M.sides mo de).length:Int):=fun i hi=>hg _ (by rw[List.getD_eq_getElem?_getD,List.getElem?_eq_getElem hi];exact List.getElem_mem hi)
 refine⟨fun z=>match z with|.inl x=>x.1=((0:Nat):Int)|.inr y=>∃i:Nat,i≤c.length∧y.1=(i:Int)∧y.2.1=M.pickS (M.sides mo de) (c.take i),fun z=>match z with|.inl _=>c.length+1|.inr y=>c.length-y.1.toNat,rfl,?_,?_⟩
 ·rintro ⟨y,u1,u2⟩ hy
  have hy:y=((0:Nat):Int):=hy
  subst hy
  unfold tryA
  have hw:IntKind.i64.wrap (((0:Nat):Int)+1)=((0+1:Nat):Int):=wrap_succ (by omega)
  simp only[sdx,cI,cD,Enc.list_F,Int.toNat_natCast,hw]
  have vb0:=vb 0 (by omega)
  have o:=(RowIs.mk (E:=eSd) (d:=0) (F:=fun _ _=>D.nilp) (set:=[]) (fun i j hi=>absurd hi (Nat.not_lt_zero i)) rfl).app (oneG_row ((M.sides mo de).getD (c.getD 0 0).toNat dfSd).co ((M.sides mo de).getD (c.getD 0 0).toNat dfSd).am)
  refine⟨fun hb=>?_,fun hb=>?_⟩
  ·repeat (refine⟨(by first|exact o.is|exact vb0.1|exact vb0.2|omega),?_⟩)
   refine⟨⟨0+1,by omega,rfl,o.eq.trans ?_⟩,?_⟩
   ·rw[pickS_take (by omega)];rfl
   ·show c.length-((0+1:Nat):Int).toNat<c.length+1
    omega
  ·have hge:=ge_of_dec hb
   omega
 ·rintro ⟨y,acc,u⟩ ⟨i,hi,hy,ha⟩
  simp only at hy ha
  subst hy
  unfold tryB
  have hw:IntKind.i64.wrap ((i:Int)+1)=((i+1:Nat):Int):=wrap_succ (by omega)
  have hal:acc.length=i:=by rw[ha];unfold M.pickS;rw[List.length_map,List.length_take];omega
  simp only[sdx,cny,cI,cD,Enc.list_F,Int.toNat_natCast,hw,lsx_lit (show st.length<1000000 by omega),tpx_lit (show st.length<1000000 by omega),butx_lit (show st.length<1000000 by omega)]
  refine⟨fun hb=>?_,fun hb=>?_⟩
  ·have hlt:=lt_of_dec hb
   have vbi:=vb i hlt
   have o:=(rowIs_F (E:=eSd) acc).app (oneG_row ((M.sides mo de).getD (c.getD i 0).toNat dfSd).co ((M.sides mo de).getD (c.getD i 0).toNat dfSd).am)
   repeat (refine⟨(by first|exact o.is|exact vbi.1|exact vbi.2|exact Nat.le_refl _|omega),?_⟩)
   refine⟨⟨i+1,by omega,rfl,o.eq.trans ?_⟩,?_⟩
   ·rw[pickS_take hlt,ha]
   ·show c.length-((i+1:Nat):Int).toNat<c.length-((i:Nat):Int).toNat
    omega
  ·have hge:=ge_of_dec hb
   obtain rfl:i=c.length:=by omega
   rw[List.take_length]at ha
   have hm:∀s,s∈acc→s∈M.sides mo de:=fun s hs=>mem_pickS (n:=0) hg (ha ▸ hs)
   have hbt:M.betterG (M.sides mo de) mo ga de (nu,dn,so) c=cond (!(M.rcorner mo.length acc).2.2) (nu,dn,so)
     (cond (M.allowE mo de (M.rcorner mo.length acc).1 (M.rcorner mo.length acc).2.1 != 0) (nu,dn,so)
      (cond (!so) (M.dot ga (M.rcorner mo.length acc).2.1,(M.rcorner mo.length acc).1,true)
       (cond (decide (M.cmpX (M.dot ga (M.rcorner mo.length acc).2.1) (M.rcorner mo.length acc).1 nu dn>0)) (M.dot ga (M.rcorner mo.length acc).2.1,(M.rcorner mo.length acc).1,true) (nu,dn,so)))):=by
    unfold M.betterG;rw[←ha,hc]
   rw[hbt]at hQ
   have hal':acc.length=mo.length:=by omega
   rw[hal']
   have hrr:=hG.hR acc hal' hm
   generalize M.rcorner mo.length acc=r at *
   refine⟨Nat.le_refl _,Enc.is_F _ _ _,⟨n1,n3⟩,fun s hs=>hG.hS s (hm s hs),fun h1=>?_,fun h1=>?_⟩
   ·rw[h1]at hQ
    exact⟨Enc.is_F _ _ _,by simp,hQ⟩
   ·have hr:=hrr (by simpa using h1)
    obtain⟨r1,r2,r3,r4⟩:=hr
    have lD:=hG.lD
    rw[h1]at hQ
    refine⟨Enc.is_F _ _ _,Enc.is_F _ _ _,Enc.is_F _ _ _,Enc.is_F _ _ _,by omega,by omega,by omega,fun d hd=>?_,fun h2=>?_,fun h2=>?_⟩
    ·have:=hG.ld d hd
     omega
    ·rw[h2]at hQ
     exact⟨Enc.is_F _ _ _,by simp,hQ⟩
    ·rw[h2]at hQ
     have lg:=hG.lg
     refine⟨Enc.is_F _ _ _,Enc.is_F _ _ _,by omega,by omega,fun h3=>?_,fun h3=>?_⟩
     ·rw[h3]at hQ
      exact⟨Enc.is_F _ _ _,by simp,hQ⟩
     ·rw[h3]at hQ
      refine⟨r1,hd,r3,r2,hi1,hi2,fun h4=>?_,fun h4=>?_⟩
      ·rw[h4]at hQ
       exact⟨Enc.is_F _ _ _,by simp,hQ⟩
      ·rw[h4]at hQ
       exact⟨Enc.is_F _ _ _,by simp,hQ⟩
def res20(x:M.Gr):List Ar:=[rI x.1,rI x.2.1,rB x.2.2]
theorem SNoRest:SumOK Try.prog G0 gw 2 (fokSm fun _=>none):=fok_sum Try.func2 rfl (by intro ags p r hd;cases hd)
def grI(mo ga:List Int)(de:List Dem)(x:GX):Prop:=(∀c,c∈x.1→GoodC mo.length (M.sides mo de).length c)∧wtC mo.length (M.sides mo de).length x.1≤923521∧0<x.2.2.1∧i64ok x.2.1∧i64ok x.2.2.1∧(ordS mo.length (M.sides mo de).length x.1).foldl (M.betterG (M.sides mo de) mo ga de) (x.2.1,x.2.2.1,x.2.2.2.1)=M.greatG mo ga de
def grM(mo:List Int)(de:List Dem)(x:GX):Nat:=wtC mo.length (M.sides mo de).length x.1
theorem nxt_le{n L:Nat}{c:List Int}(h:GoodC n L c):M.nxt c≤L:=by
 unfold M.nxt
 by_cases hc:0<c.length
 ·rw[decide_eq_true hc]
  have:=h.2 (c.getD (c.length-1) 0) (by rw[List.getD_eq_getElem?_getD,List.getElem?_eq_getElem (by omega)];exact List.getElem_mem _)
  show _+1≤_
  omega
 ·rw[decide_eq_false hc];exact Nat.zero_le _
theorem gr_push{mo ga:List Int}{de:List Dem}{st:List (List Int)}{c:List Int}{nu dn:Int}{so:Bool}{Q:List Ar→Prop}(h:grI mo ga de (st++ [c],nu,dn,so,PUnit.unit))(hc:c.length<mo.length) :
  LoopP (grI mo ga de) (grM mo de) (grM mo de (st++ [c],nu,dn,so,PUnit.unit)) Q (Sum.inl (st++(List.range ((M.sides mo de).length-M.nxt c)).map (fun i=>c++ [((M.nxt c+i:Nat):Int)]),nu,dn,so,PUnit.unit)):=by
 obtain⟨g1,g2,g3,g4,g5,g6⟩:=h
 have hw:=wtC_push (L:=(M.sides mo de).length) hc (M.nxt c)
 simp only[wtC_app,wtC_one]at g2
 refine⟨⟨fun d hd=>?_,?_,g3,g4,g5,?_⟩,?_⟩
 ·rcases List.mem_append.1 hd with hd|hd
  ·exact g1 d (List.mem_append_left _ hd)
  ·exact goodC_push hc (g1 c (by simp)) hd
 ·simp only[wtC_app];omega
 ·simp only[ordS_push hc];exact g6
 ·unfold grM;simp only[wtC_app,wtC_one];omega
theorem gr_try{mo ga:List Int}{de:List Dem}(hG:GrOk mo ga de){st:List (List Int)}{c:List Int}{nu dn:Int}{so:Bool}{Q:List Ar→Prop}(h:grI mo ga de (st++ [c],nu,dn,so,PUnit.unit))(hc:c.length=mo.length) :
  LoopP (grI mo ga de) (grM mo de) (grM mo de (st++ [c],nu,dn,so,PUnit.unit)) Q (Sum.inl (st,(M.betterG (M.sides mo de) mo ga de (nu,dn,so) c).1,(M.betterG (M.sides mo de) mo ga de (nu,dn,so) c).2.1,(M.betterG (M.sides mo de) mo ga de (nu,dn,so) c).2.2,PUnit.unit)):=by
 obtain⟨g1,g2,g3,g4,g5,g6⟩:=h
 simp only[wtC_app,wtC_one]at g2
 have hp:0<((M.sides mo de).length+1)^(mo.length+1-c.length):=Nat.pow_pos (by omega)
 have hb:0<(M.betterG (M.sides mo de) mo ga de (nu,dn,so) c).2.1∧i64ok (M.betterG (M.sides mo de) mo ga de (nu,dn,so) c).1∧i64ok (M.betterG (M.sides mo de) mo ga de (nu,dn,so) c).2.1:=by
  have hal:(M.pickS (M.sides mo de) c).length=mo.length:=by unfold M.pickS;rw[List.length_map,hc]
  have hrr:=hG.hR (M.pickS (M.sides mo de) c) hal (fun s hs=>mem_pickS (n:=0) (g1 c (by simp)).2 hs)
  unfold M.betterG
  rw[hc]
  generalize M.rcorner mo.length (M.pickS (M.sides mo de) c)=r at *
  cases h1:r.2.2 with
  |false=>exact⟨g3,g4,g5⟩
  |true=>
   obtain⟨r1,r2,r3,r4⟩:=hrr h1
   cases h2:(M.allowE mo de r.1 r.2.1 != 0)with
   |true=>exact⟨g3,g4,g5⟩
   |false=>
    cases so with
    |false=>exact⟨r1,r3,r2⟩
    |true=>
     cases h4:decide (M.cmpX (M.dot ga r.2.1) r.1 nu dn>0)with
     |true=>exact⟨r1,r3,r2⟩
     |false=>exact⟨g3,g4,g5⟩
 refine⟨⟨fun d hd=>g1 d (List.mem_append_left _ hd),?_,hb.1,hb.2.1,hb.2.2,?_⟩,?_⟩
 ·show wtC _ _ st≤_
  omega
 ·rw[←g6]
  simp only[ordS_full hc,List.foldl_cons]
 ·unfold grM;simp only[wtC_app,wtC_one];omega
theorem w20(q_mo:Bool)(mo:List Int)(q_ga:Bool)(ga:List Int)(q_de:Bool)(de:List Dem)(hG:GrOk mo ga de):(tr20 q_mo mo q_ga ga q_de de).wp (fun rs=>rsEqv rs (res20 (M.greatG mo ga de))):=by
 have n1:=hG.n1
 have n3:=hG.n3
 have lS:=hG.lS
 have lD:=hG.lD
 have hw0:((M.sides mo de).length+1)^(mo.length+1)≤923521:=
  Nat.le_trans (Nat.pow_le_pow_left (show _≤31 by omega) _) (show 31^(mo.length+1)≤31^4 from Nat.pow_le_pow_right (by decide) (by omega))
 unfold tr20
 simp only[sdx,cI,cD,Enc.list_F,row_nil.eq]
 refine⟨Enc.is_F _ _ _,Enc.is_F _ _ _,Enc.is_F _ _ _,by omega,by omega,by omega,row_nil.is,?_⟩
 refine⟨grI mo ga de,grM mo de,⟨fun c hc=>?_,?_,Int.one_pos,by decide,by decide,?_⟩,?_⟩
 ·rw[List.mem_singleton]at hc;subst hc;exact⟨Nat.zero_le _,fun v hv=>by cases hv⟩
 ·show wtC _ _ [[]]≤_
  rw[wtC_one];exact hw0
 ·show(ordS _ _ ([]++ [[]])).foldl _ _=_
  unfold ordS M.greatG
  simp
 ·rintro ⟨st',nu,dn,so,u⟩ hI
  cases u
  have g2:=hI.2.1
  have hsl:=len_wtC (n:=mo.length) (L:=(M.sides mo de).length) (st:=st')
  simp only at g2
  refine⟨fun hb=>?_,fun hb=>?_⟩
  ·rcases List.eq_nil_or_concat st' with rfl|⟨st,c,rfl⟩
   ·simp at hb
   ·rw[List.concat_eq_append]at *
    simp only[List.length_append,List.length_singleton]at hsl
    have hst:st.length<1000000:=by omega
    have hcl:c∈st++ [c]:=by simp
    have hgc:=hI.1 c hcl
    have hcn:=hgc.1
    simp only[lsx_lit hst,tpx_lit hst,topx_lit hst,butx_lit hst,List.length_append,List.length_singleton]
    refine⟨by omega,by omega,by omega,by omega,by omega,fun h1=>?_,fun h1=>?_⟩
    ·have hlt:=lt_of_dec h1
     refine⟨fun h2=>?_,fun h2=>?_⟩
     ·have h0:0<c.length:=by simpa using h2
      have e1:IntKind.wrap IntKind.i64 ((c.length:Int)-1)=((c.length-1:Nat):Int):=by rw[wrap_id (by omega) (by omega)];omega
      have hv:=hgc.2 (c.getD (c.length-1) 0) (by rw[List.getD_eq_getElem?_getD,List.getElem?_eq_getElem (by omega)];exact List.getElem_mem _)
      have e2:IntKind.wrap IntKind.i64 (c.getD (c.length-1) 0+1)=((M.nxt c:Nat):Int):=by
       unfold M.nxt
       rw[decide_eq_true h0,wrap_id (by omega) (by omega)]
       show _=(((c.getD (c.length-1) 0).toNat+1:Nat):Int)
       omega
      simp only[e1,Int.toNat_natCast,e2]
      refine⟨by omega,by omega,Enc.is_F _ _ _,by omega,?_⟩
      exact push_wp (nxt_le hgc) (by omega) (by omega) (by omega) (gr_push hI hlt)
     ·have h0:c.length=0:=by
       have:¬(0<c.length):=by simpa using h2
       omega
      obtain rfl:c=[]:=List.length_eq_zero_iff.1 h0
      refine⟨Enc.is_F _ _ _,by omega,?_⟩
      exact push_wp (j:=0) (Nat.zero_le _) (by omega) (by simp) (by omega) (gr_push hI hlt)
    ·have hge:=ge_of_dec h1
     have hcc:c.length=mo.length:=by omega
     exact try_wp hG hcc hgc.2 hI.2.2.1 hI.2.2.2.1 hI.2.2.2.2.1 (by omega) (gr_try hG hI hcc)
  ·obtain rfl:st'=[]:=by
    have:¬(0<st'.length):=by simpa using hb
    exact List.length_eq_zero_iff.1 (by omega)
   have hf:=hI.2.2.2.2.2
   have hf:(nu,dn,so)=M.greatG mo ga de:=hf
   rw[←hf]
   exact⟨rfl,rfl,rfl,trivial⟩
def dom20:DomF
 |[.agg [.sl _ n_mo st_mo F_mo,.sl _ n_ga st_ga F_ga,.sl _ n_de st_de F_de]]=>(match (Nat.beq st_mo 1||Nat.beq n_mo 0)&&(Nat.beq st_ga 1||Nat.beq n_ga 0)&&(Nat.beq st_de 3||Nat.beq n_de 0)with
  |true=>some ([eI.Is n_mo F_mo,eI.Is n_ga F_ga,eDm.Is n_de F_de,GrOk (eI.list n_mo F_mo) (eI.list n_ga F_ga) (eDm.list n_de F_de)],res20 (M.greatG (eI.list n_mo F_mo) (eI.list n_ga F_ga) (eDm.list n_de F_de)))
  |_=>none)
 |_=>none
def v20:Nat×Sm:=(20,fokSm dom20)
theorem C20:FOK Try.prog G0 gw 20 dom20:=by
 intro ags p r hd hp κ w xs hw hl hG hx
 unfold dom20 at hd
 split at hd
 ·rename_i q_mo n_mo st_mo F_mo q_ga n_ga st_ga F_ga q_de n_de st_de F_de
  split at hd
  ·rename_i hst
   simp only[Bool.and_eq_true]at hst
   obtain⟨⟨g1,g2⟩,g3⟩:=hst
   simp only[Option.some.injEq,Prod.mk.injEq]at hd
   obtain⟨rfl,rfl⟩:=hd
   obtain⟨hI_mo,hI_ga,hI_de,hp⟩:=hp
   have heq:agsEqv [.agg [.sl q_mo n_mo st_mo F_mo,.sl q_ga n_ga st_ga F_ga,.sl q_de n_de st_de F_de]] [.agg [.sl q_mo (eI.list n_mo F_mo).length 1 (eI.F (eI.list n_mo F_mo)),.sl q_ga (eI.list n_ga F_ga).length 1 (eI.F (eI.list n_ga F_ga)),.sl q_de (eDm.list n_de F_de).length 3 (eDm.F (eDm.list n_de F_de))]]:=⟨⟨eI.toz g1 hI_mo,eI.toz g2 hI_ga,eDm.toz g3 hI_de,trivial⟩,trivial⟩
   have len_mo:(eI.list n_mo F_mo).length=n_mo:=eI.list_len
   have len_ga:(eI.list n_ga F_ga).length=n_ga:=eI.list_len
   have len_de:(eDm.list n_de F_de).length=n_de:=eDm.list_len
   generalize eI.list n_mo F_mo=mo at *
   generalize eI.list n_ga F_ga=ga at *
   generalize eDm.list n_de F_de=de at *
   subst len_mo len_ga len_de
   exact fokX_fin mixed gw_stable (sl:=[vNoRest,v87,v71r,v88,v89,v90,v79]) ⟨SNoRest,S87,S71r,S88,S89,S90,S79,trivial⟩ Try.func20 hw hl hG hx heq rfl (t20 _ _ _ _ _ _) (w20 _ _ _ _ _ _ hp.1)
  ·cases hd
 ·cases hd
theorem S20:SumOK Try.prog G0 gw 20 (fokSm dom20):=fok_sum Try.func20 rfl C20
end Go.Pl
end
section
set_option maxRecDepth 100000
namespace Go.Pl
open Go.V Go.Proofs Go.Lp
theorem sm_one{v:Rat}{c:Nat}:∀{n:Nat},sm (fun i=>if c=i then v else 0) (List.range n)=if c<n then v else 0:=by
 intro n
 induction n with
 |zero=>rfl
 |succ n ih=>
  rw[List.range_succ,sm_append,ih]
  simp only[sm]
  by_cases h1:c<n
  ·rw[if_pos h1,if_neg (by omega),if_pos (by omega)];grind
  ·by_cases h2:c=n
   ·rw[if_neg h1,if_pos h2,if_pos (by omega)];grind
   ·rw[if_neg h1,if_neg h2,if_neg (by omega)];grind
section
variable {mo : List Int} {de : List Dem} {more : List Int}
theorem start_lp{K:Nat}(h4:mo.length+more.length≤4){asked:List Int}(ha:Ask (mo.length+more.length) K asked)(hx:∀i,mo.length≤i→asked.getD i 0≤0) :
  ∃B:List Nat,B.length=mo.length+more.length∧(∀i,i∈B→i<(M.planes mo de more).length)∧D (pR (M.planes mo de more)) B (List.range (mo.length+more.length))≠0 ∧
   Dual (pR (M.planes mo de more)) (pW asked) (List.range (mo.length+more.length)) [] B:=by
 obtain⟨n,hn⟩:∃n,n=mo.length+more.length:=⟨_,rfl⟩
 obtain⟨all,hall⟩:∃all,all=M.planes mo de more:=⟨_,rfl⟩
 obtain⟨s,hs⟩:∃s:Nat→Bool,s=fun i=>decide (0≤asked.getD i 0∧i<mo.length):=⟨_,rfl⟩
 rw[←hn]at h4 ha ⊢
 rw[←hall]
 have hlen:all.length=de.length+(mo.length+n):=by rw[hall,planes_len,hn]
 have row:∀i,i<n→∀c,pR all (stI de.length mo.length s i) c=if c=i then(if s i=true then(1:Rat)else -1)else 0:=by
  intro i hi c
  unfold pR stI
  cases hsi:s i with
  |true=>
   have him:i<mo.length:=by
    rw[hs]at hsi
    exact(of_decide_eq_true hsi).2
   rw[cond_true,hall,planes_mo him]
   show((en (M.unitL (mo.length+more.length) i 1) c:Int):Rat)=_
   rw[unit_en (by omega)]
   split <;>simp
  |false=>
   rw[cond_false,hall,planes_nn (by omega)]
   show((en (M.unitL (mo.length+more.length) i (-1)) c:Int):Rat)=_
   rw[unit_en (by omega)]
   split <;>simp
 refine⟨(List.range n).map (stI de.length mo.length s),by simp,fun i hi=>?_,?_,?_⟩
 ·obtain⟨k,hk,rfl⟩:=List.mem_map.1 hi
  have hk:=List.mem_range.1 hk
  rw[hlen]
  unfold stI
  cases hsk:s k with
  |true=>
   have him:k<mo.length:=by
    rw[hs]at hsk
    exact(of_decide_eq_true hsk).2
   rw[cond_true];omega
  |false=>rw[cond_false];omega
 ·obtain⟨b,hb,hbs⟩:=bits_of s n h4
  have hne:=diag_ne n h4 b (Nat.lt_of_lt_of_le hb (by
   calc 2^n≤2^4:=Nat.pow_le_pow_right (by decide) h4
    _=16:=rfl))
  rw[←D_ne]at hne
  rw[D_map,List.map_map]
  rw[D_map]at hne
  rw[List.map_congr_left (g:=fun i=>fun c=>(((if c=i then(if b.testBit i then(1:Int)else -1)else 0:Int)):Rat)) (fun i hi=>by
   funext c
   have hi:=List.mem_range.1 hi
   show pR all (stI de.length mo.length s i) c=_
   rw[row i hi c,hbs i hi]
   split
   ·split <;>simp
   ·simp)]
  exact hne
 ·obtain⟨yy,hyy⟩:∃yy:Nat→Rat,yy=fun i=> - (((asked.getD i 0).natAbs:Int):Rat):=⟨_,rfl⟩
  refine⟨fun a=>if a<de.length+mo.length then yy (a-de.length)else yy (a-de.length-mo.length),fun a _=>?_,fun c hc=>?_⟩
  ·have key:∀i,yy i≤0:=by
    intro i
    rw[hyy]
    have:(0:Rat)≤(((asked.getD i 0).natAbs:Int):Rat):=Rat.intCast_nonneg.2 (by omega)
    show-_≤(0:Rat)
    grind
   show(if _ then _ else _)≤(0:Rat)
   split <;>exact key _
  ·have hc:=List.mem_range.1 hc
   rw[List.nil_append,sm_map,sm_congr (h:=fun i=>if c=i then pW asked c else 0) (fun i hi=>?_),sm_one,if_pos hc]
   have hi:=List.mem_range.1 hi
   show(if stI de.length mo.length s i<de.length+mo.length then yy (stI de.length mo.length s i-de.length)else yy (stI de.length mo.length s i-de.length-mo.length))*pR all (stI de.length mo.length s i) c=_
   rw[row i hi c]
   by_cases hci:c=i
   ·subst hci
    rw[if_pos rfl,if_pos rfl]
    cases hsi:s c with
    |true=>
     rw[hs]at hsi
     obtain⟨h1,h2⟩:=of_decide_eq_true hsi
     have e:stI de.length mo.length s c=de.length+c:=by unfold stI;rw[hs];simp only[];rw[decide_eq_true ⟨h1,h2⟩];rfl
     rw[e,if_pos (by omega),Nat.add_sub_cancel_left,if_pos rfl,hyy]
     unfold pW en
     show-(((asked.getD c 0).natAbs:Int):Rat)*1=_
     rw[show((asked.getD c 0).natAbs:Int)=asked.getD c 0 by omega]
     grind
    |false=>
     have hf:=hsi
     rw[hs]at hsi
     have h1:=of_decide_eq_false hsi
     have h0:asked.getD c 0≤0:=by
      by_cases hcm:c<mo.length
      ·by_cases h2:0≤asked.getD c 0
       ·exact absurd ⟨h2,hcm⟩ h1
       ·omega
      ·exact hx c (by omega)
     have e:stI de.length mo.length s c=de.length+(mo.length+c):=by unfold stI;rw[hf];rfl
     rw[e,if_neg (by omega),show de.length+(mo.length+c)-de.length-mo.length=c by omega,if_neg (by decide),hyy]
     unfold pW en
     show-(((asked.getD c 0).natAbs:Int):Rat)*(-1)=_
     rw[show((asked.getD c 0).natAbs:Int)= - asked.getD c 0 by omega,Rat.intCast_neg]
     grind
   ·rw[if_neg hci,if_neg hci];grind
end
def PtOK(n:Nat)(all:List Plane)(x:List Int)(d:Int):Prop:=0<d∧∀p,p∈all→dl n p.co x≤p.am*d
theorem pt_has{n:Nat}{all:List Plane}{x:List Int}{d:Int}(h:PtOK n all x d):HasPoint n all:=by
 have hd:((d:Int):Rat)≠0:=fun e=>by have:=Rat.intCast_inj.1 (show((d:Int):Rat)=((0:Int):Rat) by rw[e];rfl);have:=h.1;omega
 have hp:(0:Rat)<((d:Int):Rat):=Rat.intCast_pos.2 h.1
 refine⟨fun c=>((en x c:Int):Rat)/((d:Int):Rat),fun p hp'=>?_⟩
 have:=Rat.intCast_le_intCast.2 (h.2 p hp')
 unfold dl at this
 rw[smI_cast,Rat.intCast_mul]at this
 rw[sm_congr (h:=fun c=>(1/((d:Int):Rat))*(((en p.co c*en x c:Int)):Rat)) (fun c _=>by
  show _*(_/_)=_
  rw[Rat.intCast_mul,Rat.div_def,Rat.div_def];grind),sm_smul]
 have h1:(0:Rat)≤1/((d:Int):Rat):=by
  rw[Rat.div_def]
  have:=Rat.le_of_lt (Rat.inv_pos.2 hp)
  grind
 have h2:=Rat.mul_le_mul_of_nonneg_left this h1
 have h3:(1/((d:Int):Rat))*(((p.am:Int):Rat)*((d:Int):Rat))=((p.am:Int):Rat):=by
  rw[Rat.div_def]
  have:=Rat.mul_inv_cancel _ hd
  grind
 rw[h3]at h2
 exact h2
section
variable {n : Nat} {all : List Plane}
theorem cor_pt{t:List Plane}{x:List Int}{d:Int}(h:Cor n all t x d):PtOK n all x d:=⟨h.sol.pos,h.all⟩
theorem one_of(h:SmallP n all){asked:List Int}{K nd nm:Nat}(hK:1≤K)(hK1:K≤100)(ha:Ask n K asked)(hst:∃B:List Nat,B.length=n∧(∀i,i∈B→i<all.length)∧D (pR all) B (List.range n)≠0∧Dual (pR all) (pW asked) (List.range n) [] B) :
  (¬HasPoint n all∧M.possible all n=false∧M.best asked all n=M.bs0) ∨
  (M.possible all n=true∧∃t v u,t∈M.subs all n∧Wt n K t asked v (M.weights asked all nd nm).od∧(M.weights asked all nd nm).wd=(M.putW t v t.length (List.replicate nd 0,List.replicate nm 0)).1∧(M.weights asked all nd nm).wt=(M.putW t v t.length (List.replicate nd 0,List.replicate nm 0)).2 ∧
   u∈M.subs all n∧Cor n all u (M.best asked all n).pa (M.best asked all n).ad∧(M.best asked all n).gd=(M.best asked all n).ad∧(M.best asked all n).num=dl n asked (M.best asked all n).pa ∧
   (M.best asked all n).num*(M.weights asked all nd nm).od=wsum n t v*(M.best asked all n).ad ∧
   (∀x d,PtOK n all x d→dl n asked x*(M.best asked all n).ad≤(M.best asked all n).num*d)):=by
 obtain⟨B,hBl,hB,hD,hdual⟩:=hst
 have ha100:Ask n 100 asked:=⟨ha.len,fun x hx=>by have:=ha.b x hx;omega⟩
 rcases lp h hK (by omega) ha.len ha.at hBl hB hD hdual with hno|⟨t,ht,hc,v,e,hw⟩
 ·refine .inl ⟨hno,?_,?_⟩
  ·rw[←Bool.not_eq_true,possible_iff]
   rintro ⟨t,ht,hc⟩
   exact hno (pt_has (cor_pt (corner_yes h ht hc)))
  ·rcases best_spec h ha100 with⟨h1,_⟩|⟨t,h1,h2,h3,_⟩
   ·exact h1
   ·exact absurd (pt_has (cor_pt h3)) hno
 ·refine .inr ⟨possible_iff.2 ⟨t,ht,hc⟩,?_⟩
  obtain⟨hm,hl⟩:=sub_mem ht
  have cor:=corner_yes h ht hc
  rcases best_spec h ha100 with⟨h1,h2⟩|⟨u,hu,hu2,b3,b4,b5,b6⟩
  ·rw[h2 t ht]at hc;cases hc
  rcases light_spec (nd:=nd) (nm:=nm) h hK (by omega) ha with⟨h1,h2⟩|⟨t',v',l1,l2,l3,l4,l5,l6,l7⟩
  ·exact absurd hw (h2 t ht v e)
  obtain⟨hm',hl'⟩:=sub_mem l1
  have weak:=weak_P h hm' hl' l2 b3.all
  have tight:=tight_P h hm hl hw cor
  have le1:=l7 t ht v e hw
  have le2:=b6 t ht _ _ cor
  rw[l4]at le1
  rw[←b5]at weak
  have p1:=b3.sol.pos
  have p2:=l2.sol.pos
  have p3:=hw.sol.pos
  have p4:=cor.sol.pos
  -- best ≤ weights' bound ≤ t's bound = t's worth ≤ best
  have key:(M.best asked all n).num*(M.weights asked all nd nm).od=wsum n t' v'*(M.best asked all n).ad:=by
   refine Int.le_antisymm weak ?_
   generalize (M.best asked all n).num=bn at *
   generalize (M.best asked all n).ad=bd at *
   generalize (M.weights asked all nd nm).od=wd at *
   generalize wsum n t' v'=wn at *
   generalize wsum n t v=tn at *
   generalize dl n asked (M.sols t).1=cn at *
   generalize (M.sols t).2.1=cd at *
   -- wn*e ≤ tn*wd ; cn*e = tn*cd ; cn*bd ≤ bn*cd ⊢ wn*bd ≤ bn*wd
   refine Int.le_of_mul_le_mul_right (a:=e*cd) ?_ (Int.mul_pos p3 p4)
   calc wn*bd*(e*cd)=wn*e*(bd*cd):=by grind
    _≤tn*wd*(bd*cd):=Int.mul_le_mul_of_nonneg_right le1 (Int.le_of_lt (Int.mul_pos p1 p4))
    _=tn*cd*(wd*bd):=by grind
    _=cn*e*(wd*bd):=by rw[tight]
    _=cn*bd*(e*wd):=by grind
    _≤bn*cd*(e*wd):=Int.mul_le_mul_of_nonneg_right le2 (Int.le_of_lt (Int.mul_pos p3 p2))
    _=bn*wd*(e*cd):=by grind
  refine⟨t',v',u,l1,l2,l5,l6,hu,b3,b4,b5,key,fun x d hx=>?_⟩
  have w2:=weak_P h hm' hl' l2 hx.2
  have hd:=hx.1
  generalize (M.best asked all n).num=bn at *
  generalize (M.best asked all n).ad=bd at *
  generalize (M.weights asked all nd nm).od=wd at *
  generalize wsum n t' v'=wn at *
  refine Int.le_of_mul_le_mul_right (a:=wd) ?_ p2
  calc dl n asked x*bd*wd=dl n asked x*wd*bd:=by grind
   _≤wn*d*bd:=Int.mul_le_mul_of_nonneg_right w2 (Int.le_of_lt p1)
   _=wn*bd*d:=by grind
   _=bn*wd*d:=by rw[key]
   _=bn*d*wd:=by grind
end
end Go.Pl
end
section
set_option maxRecDepth 100000
namespace Go.Pl
open Go.V Go.Proofs
theorem detRow_congr{f g:Nat→Int}:∀{l:List Int} {k:Nat} {out s:Int},(∀i,i<l.length→f (k+i)=g (k+i))→M.detRow f l k out s=M.detRow g l k out s
 |[],_,_,_,_=>rfl
 |a::l,k,out,s,h=>by
  have h0:=h 0 (by simp)
  rw[Nat.add_zero]at h0
  unfold M.detRow
  rw[h0]
  exact detRow_congr fun i hi=>by
   have:=h (i+1) (by simpa using hi)
   rw[show k+1+i=k+(i+1) by omega];exact this
theorem rdet_eq:∀(n:Nat) (m:List (List Int)),m.length=n+1→(∀r,r∈m→r.length=n+1)→(∀r,r∈m→∀x,x∈r→i64ok x)→M.rdet (n+1) m=M.det (n+1) m:=by
 intro n
 induction n with
 |zero=>
  intro m hl hr hx
  match m,hl with
  |[r],_=>
   have h1:=hr r (by simp)
   match r,h1 with
   |[a],_=>
    have ha:=hx [a] (by simp) a (by simp)
    show a=cond (a != 0) (IntKind.i64.wrap (0+IntKind.i64.wrap (IntKind.i64.wrap (1*a)*1))) 0
    by_cases h0:a=0
    ·subst h0;rfl
    ·rw[show(a != 0)=true by simpa using h0,cond_true,Int.one_mul,wrap_ok ha,Int.mul_one,wrap_ok ha,Int.zero_add,wrap_ok ha]
 |succ n ih=>
  intro m hl hr hx
  show M.detRow (fun k=>M.rdet (n+1) (M.minorM m k)) (m.getD 0 []) 0 0 1=M.detRow (fun k=>M.det (n+1) (M.minorM m k)) (m.getD 0 []) 0 0 1
  have hm0:m.getD 0 []∈m:=getD_mem (by omega)
  refine detRow_congr fun i hi=>?_
  rw[hr _ hm0]at hi
  rw[Nat.zero_add]
  refine ih _ ?_ ?_ ?_
  ·unfold M.minorM;rw[List.length_map,List.length_drop];omega
  ·intro r h
   obtain⟨q,hq,rfl⟩:=List.mem_map.1 h
   have:=hr q (List.mem_of_mem_drop hq)
   rw[List.length_append,List.length_take,List.length_drop];omega
  ·intro r h x hxr
   obtain⟨q,hq,rfl⟩:=List.mem_map.1 h
   refine hx q (List.mem_of_mem_drop hq) x ?_
   rcases List.mem_append.1 hxr with h|h
   ·exact List.mem_of_mem_take h
   ·exact List.mem_of_mem_drop h
theorem rmat_eq{n:Nat}{R:List Side}(h:R.length=n):M.rmat n R=R.map Side.co:=by
 unfold M.rmat
 subst h
 rw[show(fun i=>(R.getD i dfSd).co)=Side.co∘(fun i=>R.getD i dfSd)from rfl,←List.map_map,range_getD]
theorem side_co(R:List Side)(i:Nat):(R.map Side.co).getD i []=(R.getD i dfSd).co:=by
 simp only[List.getD_eq_getElem?_getD,List.getElem?_map]
 cases R[i]? <;>rfl
theorem side_am(R:List Side)(i:Nat):(R.map Side.am).getD i 0=(R.getD i dfSd).am:=by
 simp only[List.getD_eq_getElem?_getD,List.getElem?_map]
 cases R[i]? <;>rfl
theorem rmatC_eq{n k:Nat}{R:List Side}(h:R.length=n):M.rmatC n R k=M.setCol (R.map Side.co) k (R.map Side.am):=by
 unfold M.rmatC M.setCol
 rw[List.length_map,h]
 exact List.map_congr_left fun i _=>by rw[side_co,side_am]
def anyNeg(x:List Int):Bool:=x.any fun v=>decide (v<0)
theorem rcorner_solve{n:Nat}{R:List Side}(h1:1≤n)(hl:R.length=n)(hS:Sq n (R.map Side.co))(ha:∀i,((R.map Side.am).getD i 0).natAbs≤1000000) :
  M.rcorner n R=cond (M.solve (R.map Side.co) (R.map Side.am)).2.2 (cond (anyNeg (M.solve (R.map Side.co) (R.map Side.am)).1) (0,[],false) ((M.solve (R.map Side.co) (R.map Side.am)).2.1,(M.solve (R.map Side.co) (R.map Side.am)).1,true)) (0,[],false):=by
 obtain⟨k,rfl⟩:∃k,n=k+1:=⟨n-1,by omega⟩
 have hdet:M.rdet (k+1) (M.rmat (k+1) R)=M.det (k+1) (R.map Side.co):=by
  rw[rmat_eq hl]
  refine rdet_eq k _ hS.len hS.row fun r hr x hx=>?_
  obtain⟨i,hi,rfl⟩:=mem_getD hx
  have:=hS.ent r hr i
  unfold en at this
  unfold i64ok;omega
 have hset:∀q,q<k+1→M.rdet (k+1) (M.rmatC (k+1) R q)=M.det (k+1) (M.setCol (R.map Side.co) q (R.map Side.am)):=by
  intro q hq
  rw[rmatC_eq hl]
  refine rdet_eq k _ (by rw[setCol_len];exact hS.len) ?_ ?_
  ·intro x hx
   unfold M.setCol at hx
   obtain⟨i,hi,rfl⟩:=List.mem_map.1 hx
   rw[List.length_set]
   exact hS.row _ (getD_mem (List.mem_range.1 hi))
  ·intro r hr x hx
   unfold M.setCol at hr
   obtain⟨i,hi,rfl⟩:=List.mem_map.1 hr
   have hm:=getD_mem (d:=([]:List Int)) (List.mem_range.1 hi)
   obtain⟨c,hc,rfl⟩:=mem_getD hx
   have e:=en_set (r:=(R.map Side.co).getD i []) (k:=q) (c:=c) (v:=(R.map Side.am).getD i 0) (by rw[hS.row _ hm];exact hq)
   unfold en at e
   rw[e]
   have h2:=hS.ent _ hm c
   have h3:=ha i
   unfold en at h2
   unfold i64ok
   split <;>omega
 have hb:=hS.det_b
 rw[←hS.det]at hb
 unfold M.rcorner M.solve
 rw[hdet,hS.len]
 cases hz:(M.det (k+1) (R.map Side.co)==0)with
 |true=>rfl
 |false=>
  have hsg:M.rsign (k+1) R=cond (decide (M.det (k+1) (R.map Side.co)<0)) (-1) 1:=by unfold M.rsign;rw[hdet]
  have hnum:∀q,q<k+1→M.rnum (k+1) R q=cond (decide (M.det (k+1) (R.map Side.co)<0)) (M.neg (M.det (k+1) (M.setCol (R.map Side.co) q (R.map Side.am)))) (M.det (k+1) (M.setCol (R.map Side.co) q (R.map Side.am))):=by
   intro q hq
   obtain⟨e1,e2⟩:=hS.set (B:=1000000) (by decide) (by decide) ha hq
   rw[←e1]at e2
   unfold M.rnum
   rw[hset q hq,hsg]
   cases decide (M.det (k+1) (R.map Side.co)<0)with
   |true=>rw[cond_true,cond_true,neg_ok (by omega),wrap64 (by omega)];omega
   |false=>rw[cond_false,cond_false,wrap64 (by omega)];omega
  have hden:M.rden (k+1) R=cond (decide (M.det (k+1) (R.map Side.co)<0)) (M.neg (M.det (k+1) (R.map Side.co))) (M.det (k+1) (R.map Side.co)):=by
   unfold M.rden
   rw[hdet,hsg]
   cases decide (M.det (k+1) (R.map Side.co)<0)with
   |true=>rw[cond_true,cond_true,neg_ok (by omega),wrap64 (by omega)];omega
   |false=>rw[cond_false,cond_false,wrap64 (by omega)];omega
  have hmap:(List.range (k+1)).map (M.rnum (k+1) R)=(List.range (k+1)).map fun q=>cond (decide (M.det (k+1) (R.map Side.co)<0)) (M.neg (M.det (k+1) (M.setCol (R.map Side.co) q (R.map Side.am)))) (M.det (k+1) (M.setCol (R.map Side.co) q (R.map Side.am))):=
   List.map_congr_left fun q hq=>hnum q (List.mem_range.1 hq)
  have hany:((List.range (k+1)).any fun q=>decide (M.rnum (k+1) R q<0))=anyNeg ((List.range (k+1)).map (M.rnum (k+1) R)):=by
   unfold anyNeg;rw[List.any_map];rfl
  rw[hany,hmap,hden]
  rfl
end Go.Pl
end
section
set_option maxRecDepth 100000
namespace Go.Pl
open Go.V Go.Proofs
open Go.Lp
theorem nxt_snoc{c:List Int}{a:Nat}:M.nxt (c++ [(a:Int)])=a+1:=by
 unfold M.nxt
 rw[List.length_append,List.length_singleton,decide_eq_true (by omega),show c.length+1-1=c.length by omega]
 simp
theorem mem_ord{L:Nat}:∀(k:Nat) (c:List Int) (s:List Nat),s.length=k→s.Pairwise (· < ·)→(∀a,a∈s→M.nxt c≤a∧a<L)→c++s.map (fun a:Nat=>(a:Int))∈M.ord L k c:=by
 intro k
 induction k with
 |zero=>
  intro c s hl _ _
  obtain rfl:s=[]:=List.length_eq_zero_iff.1 hl
  simp[M.ord]
 |succ k ih=>
  intro c s hl hp hb
  match s,hl with
  |a::s,hl=>
   have h1:=hb a (by simp)
   have hp':=List.pairwise_cons.1 hp
   have hi:=ih (c++ [(a:Int)]) s (by simpa using hl) hp'.2 (fun b hb'=>by
    have h2:=hp'.1 b hb'
    have h3:=hb b (List.mem_cons_of_mem _ hb')
    rw[nxt_snoc];omega)
   unfold M.ord
   refine List.mem_flatMap.2 ⟨a-M.nxt c,?_,?_⟩
   ·rw[List.mem_reverse,List.mem_range];omega
   ·rw[show M.nxt c+(a-M.nxt c)=a by omega]
    simpa using hi
theorem ord_good{L:Nat}:∀(k:Nat) (c d:List Int),d∈M.ord L k c→(∀v,v∈c→0≤v∧v<(L:Int))→d.length=c.length+k∧∀v,v∈d→0≤v∧v<(L:Int):=by
 intro k
 induction k with
 |zero=>
  intro c d h hc
  unfold M.ord at h
  rw[List.mem_singleton]at h
  subst h;exact⟨rfl,hc⟩
 |succ k ih=>
  intro c d h hc
  unfold M.ord at h
  obtain⟨i,hi,h⟩:=List.mem_flatMap.1 h
  rw[List.mem_reverse,List.mem_range]at hi
  obtain⟨h1,h2⟩:=ih _ d h (fun v hv=>by
   rcases List.mem_append.1 hv with hv|hv
   ·exact hc v hv
   ·rw[List.mem_singleton]at hv;subst hv;omega)
  refine⟨?_,h2⟩
  rw[h1,List.length_append,List.length_singleton];omega
theorem choose_rows{n L:Nat}{f:Nat→Nat→Rat}{I:List Nat}(hl:I.length=n)(hI:∀i,i∈I→i<L)(hD:D f I (List.range n)≠0) :
  ∃s:List Nat,s.Pairwise (· < ·)∧s.length=n∧(∀a,a∈s↔a∈I)∧D f s (List.range n)≠0:=by
 have hnd:I.Nodup:=Df_nodup (A:=[]) (by simpa using hD)
 have hperm:I.Perm ((List.range L).filter (fun a=>decide (a∈I))):=by
  refine perm_of hnd ?_ fun a=>?_
  ·exact List.Pairwise.filter _ List.nodup_range
  ·rw[List.mem_filter,List.mem_range]
   constructor
   ·intro ha;exact⟨hI a ha,by simpa using ha⟩
   ·intro ha;simpa using ha.2
 exact⟨_,List.Pairwise.filter _ List.pairwise_lt_range,by rw[←hperm.length_eq];exact hl,fun a=>(hperm.mem_iff).symm,Df_perm_ne hperm hD⟩
def AdmR(S:List Side)(mo:List Int)(de:List Dem)(c:List Int):Prop:=(M.rcorner c.length (M.pickS S c)).2.2=true∧M.allowE mo de (M.rcorner c.length (M.pickS S c)).1 (M.rcorner c.length (M.pickS S c)).2.1=0
abbrev dnR(S:List Side)(c:List Int):Int:=(M.rcorner c.length (M.pickS S c)).1
abbrev ptR(S:List Side)(c:List Int):List Int:=(M.rcorner c.length (M.pickS S c)).2.1
def GreatOf(S:List Side)(mo ga:List Int)(de:List Dem)(CS:List (List Int))(r:M.Gr):Prop:=
 (r=(0,1,false)∧∀c,c∈CS→¬AdmR S mo de c) ∨
 (∃c,c∈CS∧AdmR S mo de c∧0<dnR S c∧r=(M.dot ga (ptR S c),dnR S c,true)∧∀c',c'∈CS→AdmR S mo de c'→M.dot ga (ptR S c')*dnR S c≤M.dot ga (ptR S c)*dnR S c')
theorem great_fold{S:List Side}{mo ga:List Int}{de:List Dem}:∀(CS K:List (List Int)) (r:M.Gr),(∀c,c∈CS∨c∈K→AdmR S mo de c→0<dnR S c)→GreatOf S mo ga de K r→GreatOf S mo ga de (K++CS) (CS.foldl (M.betterG S mo ga de) r):=by
 intro CS
 induction CS with
 |nil=>intro K r _ h;simpa using h
 |cons c CS ih=>
  intro K r hp h
  rw[show K++c::CS=(K++ [c])++CS by simp,List.foldl_cons]
  refine ih _ _ (fun c' hc'=>?_) ?_
  ·rcases hc' with hc'|hc'
   ·exact hp c' (.inl (List.mem_cons_of_mem _ hc'))
   ·rcases List.mem_append.1 hc' with hc'|hc'
    ·exact hp c' (.inr hc')
    ·exact hp c' (.inl (by rw[List.mem_singleton.1 hc'];simp))
  ·by_cases hA:AdmR S mo de c
   ·have hpc:=hp c (.inl (by simp)) hA
    obtain⟨a1,a2⟩:=hA
    have hb:M.betterG S mo ga de r c=cond (!r.2.2) (M.dot ga (ptR S c),dnR S c,true) (cond (decide (M.cmpX (M.dot ga (ptR S c)) (dnR S c) r.1 r.2.1>0)) (M.dot ga (ptR S c),dnR S c,true) r):=by
     unfold M.betterG
     rw[a1,a2];rfl
    rw[hb]
    rcases h with⟨rfl,hno⟩|⟨t,ht,htA,htp,rfl,hbest⟩
    ·refine .inr ⟨c,by simp,⟨a1,a2⟩,hpc,rfl,fun c' hc' hA'=>?_⟩
     rcases List.mem_append.1 hc' with hc'|hc'
     ·exact absurd hA' (hno c' hc')
     ·rw[List.mem_singleton.1 hc'];exact Int.le_refl _
    ·by_cases hlt:M.dot ga (ptR S t)*dnR S c<M.dot ga (ptR S c)*dnR S t
     ·have e:M.cmpX (M.dot ga (ptR S c)) (dnR S c) (M.dot ga (ptR S t)) (dnR S t)>0:=by
       unfold M.cmpX
       split <;>first|omega|(split <;>omega)
      show GreatOf S mo ga de (K++ [c]) (cond (decide (M.cmpX (M.dot ga (ptR S c)) (dnR S c) (M.dot ga (ptR S t)) (dnR S t)>0)) _ _)
      rw[decide_eq_true e]
      refine .inr ⟨c,by simp,⟨a1,a2⟩,hpc,rfl,fun c' hc' hA'=>?_⟩
      rcases List.mem_append.1 hc' with hc'|hc'
      ·have h1:=hbest c' hc' hA'
       have hp':=hp c' (.inr hc') hA'
       have h2:M.dot ga (ptR S t)*dnR S c*dnR S c'≤M.dot ga (ptR S c)*dnR S t*dnR S c':=Int.mul_le_mul_of_nonneg_right (by omega) (by omega)
       have h3:M.dot ga (ptR S c')*dnR S t*dnR S c≤M.dot ga (ptR S t)*dnR S c'*dnR S c:=Int.mul_le_mul_of_nonneg_right h1 (by omega)
       refine Int.le_of_mul_le_mul_right (a:=dnR S t) ?_ htp
       have e1:M.dot ga (ptR S c')*dnR S c*dnR S t=M.dot ga (ptR S c')*dnR S t*dnR S c:=by rw[Int.mul_assoc,Int.mul_comm (dnR S c),Int.mul_assoc]
       have e2:M.dot ga (ptR S t)*dnR S c'*dnR S c=M.dot ga (ptR S t)*dnR S c*dnR S c':=by rw[Int.mul_assoc,Int.mul_comm (dnR S c'),Int.mul_assoc]
       have e3:M.dot ga (ptR S c)*dnR S c'*dnR S t=M.dot ga (ptR S c)*dnR S t*dnR S c':=by rw[Int.mul_assoc,Int.mul_comm (dnR S c'),Int.mul_assoc]
       omega
      ·rw[List.mem_singleton.1 hc'];exact Int.le_refl _
     ·have e:¬(M.cmpX (M.dot ga (ptR S c)) (dnR S c) (M.dot ga (ptR S t)) (dnR S t)>0):=by
       unfold M.cmpX
       split <;>first|omega|(split <;>omega)
      show GreatOf S mo ga de (K++ [c]) (cond (decide (M.cmpX (M.dot ga (ptR S c)) (dnR S c) (M.dot ga (ptR S t)) (dnR S t)>0)) _ _)
      rw[decide_eq_false e]
      refine .inr ⟨t,List.mem_append_left _ ht,htA,htp,rfl,fun c' hc' hA'=>?_⟩
      rcases List.mem_append.1 hc' with hc'|hc'
      ·exact hbest c' hc' hA'
      ·rw[List.mem_singleton.1 hc'];omega
   ·have hb:M.betterG S mo ga de r c=r:=by
     unfold M.betterG
     cases h1:(M.rcorner c.length (M.pickS S c)).2.2 with
     |false=>rfl
     |true=>
      by_cases h2:M.allowE mo de (M.rcorner c.length (M.pickS S c)).1 (M.rcorner c.length (M.pickS S c)).2.1=0
      ·exact absurd ⟨h1,h2⟩ hA
      ·rw[show(M.allowE mo de (M.rcorner c.length (M.pickS S c)).1 (M.rcorner c.length (M.pickS S c)).2.1 != 0)=true by simpa using h2];rfl
    rw[hb]
    rcases h with⟨h1,hno⟩|⟨t,ht,htA,htp,h1,hbest⟩
    ·refine .inl ⟨h1,fun c' hc'=>?_⟩
     rcases List.mem_append.1 hc' with hc'|hc'
     ·exact hno c' hc'
     ·rw[List.mem_singleton.1 hc'];exact hA
    ·refine .inr ⟨t,List.mem_append_left _ ht,htA,htp,h1,fun c' hc' hA'=>?_⟩
     rcases List.mem_append.1 hc' with hc'|hc'
     ·exact hbest c' hc' hA'
     ·rw[List.mem_singleton.1 hc']at hA';exact absurd hA' hA
end Go.Pl
end
section
set_option maxRecDepth 100000
namespace Go.Pl
open Go.V Go.Proofs
open Go.Lp
theorem altI_smul{α:Type}{k:Int}:∀{l:List α} {f:α→List α→Int},altI (fun c cs=>k*f c cs) l=k*altI f l
 |[],_=>by simp[altI]
 |c::cs,f=>by
  unfold altI
  rw[altI_smul (l:=cs) (f:=fun d ds=>f d (c::ds)),Int.mul_sub]
theorem DI_scale{α β:Type}{s:α→Int}{f:α→β→Int}:∀{rows:List α} {cols:List β},∃k:Int,DI (fun r c=>s r*f r c) rows cols=k*DI f rows cols
 |[],_=>⟨1,by simp[DI]⟩
 |r::rows,cols=>by
  obtain⟨k,hk⟩:=DI_scale_all (s:=s) (f:=f) (rows:=rows)
  refine⟨s r*k,?_⟩
  show altI (fun c cs=>s r*f r c*DI (fun r c=>s r*f r c) rows cs) cols=s r*k*altI (fun c cs=>f r c*DI f rows cs) cols
  rw[←altI_smul]
  congr 1
  funext c cs
  rw[hk cs,Int.mul_assoc,Int.mul_assoc,Int.mul_left_comm (f r c)]
where
 DI_scale_all {α β:Type} {s:α→Int} {f:α→β→Int}:∀{rows:List α},∃k:Int,∀cols:List β,DI (fun r c=>s r*f r c) rows cols=k*DI f rows cols
  |[]=>⟨1,fun cols=>by simp[DI]⟩
  |r::rows=>by
   obtain⟨k,hk⟩:=DI_scale_all (s:=s) (f:=f) (rows:=rows)
   refine⟨s r*k,fun cols=>?_⟩
   show altI (fun c cs=>s r*f r c*DI (fun r c=>s r*f r c) rows cs) cols=s r*k*altI (fun c cs=>f r c*DI f rows cs) cols
   rw[←altI_smul]
   congr 1
   funext c cs
   rw[hk cs,Int.mul_assoc,Int.mul_assoc,Int.mul_left_comm (f r c)]
theorem DI_scale_ne{α β:Type}{s:α→Int}{f:α→β→Int}{rows:List α}{cols:List β}(h:DI (fun r c=>s r*f r c) rows cols≠0):DI f rows cols≠0:=by
 obtain⟨k,hk⟩:=DI_scale (s:=s) (f:=f) (rows:=rows) (cols:=cols)
 intro e
 rw[hk,e,Int.mul_zero]at h
 exact h rfl
theorem smI_one{v:Int}{i:Nat}:∀{n:Nat},i<n→smI (fun c=>if i=c then v else 0) (List.range n)=v:=by
 intro n
 induction n with
 |zero=>intro h;omega
 |succ n ih=>
  intro h
  rw[List.range_succ,smI_append]
  by_cases e:i=n
  ·subst e
   rw[smI_congr (h:=fun _=>(0:Int)) (fun c hc=>if_neg (by have:=List.mem_range.1 hc;omega)),smI_zero]
   simp[smI]
  ·rw[ih (by omega)]
   simp[smI,e]
theorem dl_prop{n:Nat}{a v x:List Int}{d d':Int}(h:∀k,k<n→en v k*d=en x k*d'):dl n a v*d=dl n a x*d':=by
 unfold dl
 rw[smI_mulr,smI_mulr]
 exact smI_congr fun c hc=>by rw[Int.mul_assoc,Int.mul_assoc,h c (List.mem_range.1 hc)]
theorem Sol.prop{n B:Nat}{m:List (List Int)}{r v x:List Int}{d d':Int}(hs:Sol n B m r v d')(h:Sq n m)(hd:0<d)(hx:∀i,i<n→dl n (m.getD i []) x=r.getD i 0*d):∀k,k<n→en v k*d=en x k*d':=by
 intro k hk
 have hd':((d:Int):Rat)≠0:=fun e=>by have:=Rat.intCast_inj.1 (show((d:Int):Rat)=((0:Int):Rat) by rw[e];rfl);omega
 have key:=hs.spec h (x:=fun c=>((en x c:Int):Rat)/((d:Int):Rat)) (fun i hi=>by
  have:((dl n (m.getD i []) x:Int):Rat)=((r.getD i 0*d:Int):Rat):=by rw[hx i hi]
  unfold dl at this
  rw[smI_cast,Rat.intCast_mul]at this
  rw[sm_congr (h:=fun c=>(1/((d:Int):Rat))*(((en (m.getD i []) c*en x c:Int)):Rat)) (fun c _=>by
   show _*(_/_)=_
   rw[Rat.intCast_mul,Rat.div_def,Rat.div_def];grind),sm_smul,this,Rat.div_def]
  have:=Rat.mul_inv_cancel _ hd'
  grind) k hk
 apply Rat.intCast_inj.1
 rw[Rat.intCast_mul,Rat.intCast_mul]
 unfold en at key ⊢
 rw[key,Rat.div_def]
 have:=Rat.mul_inv_cancel _ hd'
 grind
section
variable {mo ga : List Int} {de : List Dem}
theorem sides_cases{s:Side}(h:s∈M.sides mo de):(∃i,i<mo.length∧s=⟨M.unitL mo.length i 1,0⟩)∨(∃i,i<mo.length∧s=⟨M.unitL mo.length i 1,mo.getD i 0⟩)∨∃j,j<de.length∧s=⟨(de.getD j dfD).co,(de.getD j dfD).am⟩:=by
 unfold M.sides at h
 rcases List.mem_append.1 h with h|h
 ·obtain⟨i,hi,h⟩:=List.mem_flatMap.1 h
  rw[List.mem_range]at hi
  unfold M.sdM at h
  simp only[List.mem_cons,List.not_mem_nil,or_false]at h
  rcases h with h|h
  ·exact .inl ⟨i,hi,h⟩
  ·exact .inr (.inl ⟨i,hi,h⟩)
 ·obtain⟨j,hj,h⟩:=List.mem_map.1 h
  exact .inr (.inr ⟨j,List.mem_range.1 hj,h.symm⟩)
theorem sides_len:(M.sides mo de).length=2*mo.length+de.length:=by
 unfold M.sides
 simp only[List.length_append,List.length_map,List.length_range,List.length_flatMap,M.sdM,List.length_cons,List.length_nil,List.map_const',List.sum_replicate_nat]
 omega
theorem unit_small{n i:Nat}(hi:i<n):∀x,x∈M.unitL n i 1→x.natAbs≤100:=by
 intro x hx
 obtain⟨k,_,rfl⟩:=mem_getD hx
 have:=unit_en (c:=k) (v:=1) hi
 unfold en at this
 rw[this]
 split <;>decide
theorem sides_small(hR:RightP mo ga de){s:Side}(h:s∈M.sides mo de):s.co.length=mo.length∧(∀x,x∈s.co→x.natAbs≤100)∧s.am.natAbs≤1000000:=by
 rcases sides_cases h with⟨i,hi,rfl⟩|⟨i,hi,rfl⟩|⟨j,hj,rfl⟩
 ·exact⟨unit_len,unit_small hi,Nat.zero_le _⟩
 ·refine⟨unit_len,unit_small hi,?_⟩
  have:=hR.rm _ (getD_mem (d:=0) hi)
  show(mo.getD i 0).natAbs≤_
  omega
 ·obtain⟨h1,h2,h3,h4⟩:=hR.rd _ (getD_mem (d:=dfD) hj)
  refine⟨h1,fun x hx=>?_,?_⟩
  ·have:=h2 x hx;omega
  ·show((de.getD j dfD).am).natAbs≤_
   omega
theorem sides_sq(hR:RightP mo ga de){R:List Side}(hl:R.length=mo.length)(hm:∀s,s∈R→s∈M.sides mo de):Sq mo.length (R.map Side.co)∧∀i,((R.map Side.am).getD i 0).natAbs≤1000000:=by
 refine⟨⟨hR.n4,by rw[List.length_map];exact hl,?_,?_⟩,fun i=>?_⟩
 ·intro r hr
  obtain⟨s,hs,rfl⟩:=List.mem_map.1 hr
  exact(sides_small hR (hm s hs)).1
 ·intro r hr c
  obtain⟨s,hs,rfl⟩:=List.mem_map.1 hr
  exact getD_small (sides_small hR (hm s hs)).2.1 c
 ·refine getD_small (l:=R.map Side.am) (K:=1000000) ?_ i
  intro x hx
  obtain⟨s,hs,rfl⟩:=List.mem_map.1 hx
  exact(sides_small hR (hm s hs)).2.2
theorem plane_side(hR:RightP mo ga de){p:Plane}(h:p∈M.planes mo de []):∃j,j<(M.sides mo de).length∧∃s:Int,(s=1∨s= -1)∧(∀c,en p.co c=s*en ((M.sides mo de).getD j dfSd).co c)∧p.am=s*((M.sides mo de).getD j dfSd).am:=by
 have get:∀{q:Side},q∈M.sides mo de→∃j,j<(M.sides mo de).length∧(M.sides mo de).getD j dfSd=q:=fun {q} hq=>by
  obtain⟨k,hk,rfl⟩:=List.getElem_of_mem hq
  exact⟨k,hk,by rw[List.getD_eq_getElem?_getD,List.getElem?_eq_getElem hk];rfl⟩
 have inA:∀i q,i<mo.length→q∈M.sdM mo.length mo i→q∈M.sides mo de:=fun i q hi hq=>by
  unfold M.sides
  exact List.mem_append_left _ (List.mem_flatMap.2 ⟨i,List.mem_range.2 hi,hq⟩)
 rcases planes_cases h with⟨j,hj,rfl⟩|⟨i,hi,rfl⟩|⟨i,hi,rfl⟩
 ·obtain⟨k,hk,e⟩:=get (q:=M.sdD de j) (by unfold M.sides;exact List.mem_append_right _ (List.mem_map_of_mem (List.mem_range.2 hj)))
  refine⟨k,hk,1,.inl rfl,?_,?_⟩
  ·intro c;rw[e,Int.one_mul];show en ((de.getD j dfD).co++ []) c=_;rw[List.append_nil];rfl
  ·rw[e,Int.one_mul];rfl
 ·obtain⟨k,hk,e⟩:=get (q:=⟨M.unitL mo.length i 1,mo.getD i 0⟩) (inA i _ hi (by unfold M.sdM;simp))
  refine⟨k,hk,1,.inl rfl,?_,?_⟩
  ·intro c;rw[e,Int.one_mul];rfl
  ·rw[e,Int.one_mul];rfl
 ·have hi:i<mo.length:=hi
  obtain⟨k,hk,e⟩:=get (q:=⟨M.unitL mo.length i 1,0⟩) (inA i _ hi (by unfold M.sdM;simp))
  refine⟨k,hk, -1,.inr rfl,?_,?_⟩
  ·intro c
   rw[e]
   show en (M.unitL mo.length i (-1)) c= -1*en (M.unitL mo.length i 1) c
   rw[unit_en hi,unit_en hi]
   split <;>rfl
  ·rw[e];rfl
theorem ptErr_of{den:Int}{pa:List Int}(hl:pa.length=mo.length)(h1:1≤den∧den≤100000000000)(h2:∀x,x∈pa→0≤x∧x≤1000000000000000):M.ptErr mo den pa=0:=by
 have e:M.ptOk den pa=true:=by
  unfold M.ptOk
  rw[within_iff.2 h1,cond_true]
  have:pa.any (badF 171)=false:=by
   rw[List.any_eq_false]
   intro x hx
   have:=within_iff.2 (h2 x hx)
   show ¬((!M.within x 0 1000000000000000)=true)
   rw[this];decide
  rw[this];rfl
 unfold M.ptErr
 rw[show((pa.length:Int)==(mo.length:Int))=true by rw[hl];simp,e]
 rfl
theorem corner_sol(hR:RightP mo ga de){R:List Side}(hl:R.length=mo.length)(hm:∀s,s∈R→s∈M.sides mo de)(h:(M.rcorner mo.length R).2.2=true) :
  Sol mo.length 1000000 (R.map Side.co) (R.map Side.am) (M.rcorner mo.length R).2.1 (M.rcorner mo.length R).1∧∀k,0≤en (M.rcorner mo.length R).2.1 k:=by
 obtain⟨hS,ha⟩:=sides_sq hR hl hm
 rw[rcorner_solve hR.n0 hl hS ha]at h ⊢
 by_cases hd:DI en (R.map Side.co) (List.range mo.length)=0
 ·rw[solve_no hS hd]at h;cases h
 ·obtain⟨s1,s2⟩:=solve_yes hS (B:=1000000) (by decide) (by decide) ha hd
  rw[s1]at h ⊢
  rw[cond_true]at h ⊢
  cases hn:anyNeg (M.solve (R.map Side.co) (R.map Side.am)).1 with
  |true=>rw[hn]at h;cases h
  |false=>
   refine⟨s2,fun k=>?_⟩
   show 0≤en (M.solve (R.map Side.co) (R.map Side.am)).1 k
   unfold anyNeg at hn
   rw[List.any_eq_false]at hn
   unfold en
   by_cases hk:k<(M.solve (R.map Side.co) (R.map Side.am)).1.length
   ·have:=hn _ (getD_mem (d:=0) hk)
    simpa using this
   ·rw[List.getD_eq_getElem?_getD,List.getElem?_eq_none (by omega)];exact Int.le_refl _
theorem sol_ptErr(hR:RightP mo ga de){m:List (List Int)}{r x:List Int}{d:Int}(hs:Sol mo.length 1000000 m r x d)(h0:∀k,0≤en x k):M.ptErr mo d x=0:=by
 refine ptErr_of hs.len ⟨hs.pos,by have:=hs.db;omega⟩ fun v hv=>?_
 obtain⟨k,_,rfl⟩:=mem_getD hv
 have h1:=h0 k
 have h2:=hs.nb k
 unfold en at h1
 omega
theorem allowed_planes(hR:RightP mo ga de){x:List Int}{d:Int}(h0:∀k,k<mo.length→0≤en x k):Allowed mo de d x→∀p,p∈M.planes mo de []→dl mo.length p.co x≤p.am*d:=by
 intro h p hp
 have unit:∀{i:Nat} {v:Int},i<mo.length→dl mo.length (M.unitL mo.length i v) x=v*en x i:=by
  intro i v hi
  unfold dl
  rw[smI_congr (h:=fun c=>if i=c then v*en x i else 0) (fun c _=>by
   rw[unit_en hi]
   by_cases e:c=i
   ·subst e;rw[if_pos rfl,if_pos rfl]
   ·rw[if_neg e,if_neg (fun e'=>e e'.symm),Int.zero_mul])]
  exact smI_one hi
 rcases planes_cases hp with⟨j,hj,rfl⟩|⟨i,hi,rfl⟩|⟨i,hi,rfl⟩
 ·have:=h.room j hj
  rw[dl_dotK]at this
  show dl mo.length ((de.getD j dfD).co++ []) x≤_
  rw[List.append_nil];exact this
 ·have:=h.top i hi
  show dl mo.length (M.unitL mo.length i 1) x≤_
  rw[unit hi,Int.one_mul];exact this
 ·have hi:i<mo.length:=hi
  have:=h0 i hi
  show dl mo.length (M.unitL mo.length i (-1)) x≤0*d
  rw[unit hi];omega
theorem planes_allowed{x:List Int}{d:Int}(h:∀p,p∈M.planes mo de []→dl mo.length p.co x≤p.am*d):Allowed mo de d x∧∀k,k<mo.length→0≤en x k:=by
 have unit:∀{i:Nat} {v:Int},i<mo.length→dl mo.length (M.unitL mo.length i v) x=v*en x i:=by
  intro i v hi
  unfold dl
  rw[smI_congr (h:=fun c=>if i=c then v*en x i else 0) (fun c _=>by
   rw[unit_en hi]
   by_cases e:c=i
   ·subst e;rw[if_pos rfl,if_pos rfl]
   ·rw[if_neg e,if_neg (fun e'=>e e'.symm),Int.zero_mul])]
  exact smI_one hi
 refine⟨⟨fun i hi=>?_,fun j hj=>?_⟩,fun i hi=>?_⟩
 ·have:=h _ (mem_mo (more:=[]) hi)
  have:dl mo.length (M.unitL mo.length i 1) x≤mo.getD i 0*d:=this
  rw[unit hi,Int.one_mul]at this;exact this
 ·have:=h _ (mem_de (more:=[]) hj)
  have:dl mo.length ((de.getD j dfD).co++ []) x≤(de.getD j dfD).am*d:=this
  rw[List.append_nil]at this
  rw[dl_dotK];exact this
 ·have:=h _ (mem_nn (more:=[]) hi)
  have:dl mo.length (M.unitL mo.length i (-1)) x≤0*d:=this
  rw[unit hi]at this;omega
end
end Go.Pl
end
section
set_option maxRecDepth 100000
namespace Go.Pl
open Go.V Go.Proofs
open Go.Lp
section
variable {mo ga : List Int} {de : List Dem}
theorem right_small(hR:RightP mo ga de):SmallP mo.length (M.planes mo de []):=by
 have h:=small_planes (mo:=mo) (de:=de) (more:=[]) (Nat.succ_le_of_lt hR.n0) (by simpa using hR.n4) hR.rm (fun d hd=>(hR.rd d hd).1) (fun d hd=>(hR.rd d hd).2.1) (fun d hd=>(hR.rd d hd).2.2) (fun x hx=>by cases hx)
 simpa using h
theorem right_ask(hR:RightP mo ga de):Ask mo.length 100 ga:=⟨hR.lg,fun x hx=>by have:=hR.rg x hx;omega⟩
theorem pickS_ok{S:List Side}{n:Nat}{c:List Int}(h1:c.length=n)(h2:∀v,v∈c→0≤v∧v<(S.length:Int)):(M.pickS S c).length=n∧∀s,s∈M.pickS S c→s∈S:=
 ⟨by unfold M.pickS;rw[List.length_map,h1],fun s hs=>mem_pickS (n:=0) h2 hs⟩
theorem gr_ok(hR:RightP mo ga de)(h3:mo.length≤3):GrOk mo ga de:=by
 have n0:=hR.n0
 have ld:=hR.ld
 refine⟨by omega,h3,hR.lg,fun d hd=>(hR.rd d hd).1,by rw[sides_len];omega,by omega,fun s hs=>(sides_small hR hs).1,fun R hl hm h=>?_⟩
 obtain⟨hs,h0⟩:=corner_sol hR hl hm h
 have p1:=hs.pos
 have p2:=hs.db
 refine⟨p1,by unfold i64ok;omega,?_,hs.len⟩
 have hx:∀k,((M.rcorner mo.length R).2.1.getD k 0).natAbs≤24000000000000:=fun k=>Nat.le_trans (hs.nb k) (by decide)
 rw[gain_dl (right_small hR) (right_ask hR) hx]
 have:=dl_bnd (n:=mo.length) (a:=ga) (b:=(M.rcorner mo.length R).2.1) (A:=100) (B:=24000000000000) (fun c=>(right_ask hR).at c) hx hR.n4
 unfold i64ok;omega
theorem adm_pt(hR:RightP mo ga de){c:List Int}(h1:c.length=mo.length)(h2:∀v,v∈c→0≤v∧v<((M.sides mo de).length:Int))(hA:AdmR (M.sides mo de) mo de c) :
  PtOK mo.length (M.planes mo de []) (ptR (M.sides mo de) c) (dnR (M.sides mo de) c)∧M.dot ga (ptR (M.sides mo de) c)=dl mo.length ga (ptR (M.sides mo de) c)∧(M.dot ga (ptR (M.sides mo de) c)).natAbs≤9600000000000000∧dnR (M.sides mo de) c≤2400000000:=by
 obtain⟨hl,hm⟩:=pickS_ok h1 h2
 obtain⟨a1,a2⟩:=hA
 have hs':=corner_sol hR hl hm (by rw[←h1];exact a1)
 rw[←h1]at hs'
 unfold ptR dnR
 obtain⟨hs,h0⟩:=hs'
 rw[h1]at hs h0 a2 a1 ⊢
 have hP:=sol_ptErr hR hs h0
 have hAl:=(allowed_iff hR hP).1 a2
 have hx:∀k,((M.rcorner mo.length (M.pickS (M.sides mo de) c)).2.1.getD k 0).natAbs≤24000000000000:=fun k=>Nat.le_trans (hs.nb k) (by decide)
 have hg:=gain_dl (right_small hR) (right_ask hR) hx
 refine⟨⟨hs.pos,allowed_planes hR (fun k _=>h0 k) hAl⟩,hg,?_,hs.db⟩
 rw[hg]
 have:=dl_bnd (n:=mo.length) (a:=ga) (b:=(M.rcorner mo.length (M.pickS (M.sides mo de) c)).2.1) (A:=100) (B:=24000000000000) (fun c=>(right_ask hR).at c) hx hR.n4
 omega
theorem corner_adm(hR:RightP mo ga de){t:List Plane}{x:List Int}{d:Int}(ht:t∈M.subs (M.planes mo de []) mo.length)(hc:Cor mo.length (M.planes mo de []) t x d) :
  ∃c,c∈M.ord (M.sides mo de).length mo.length []∧AdmR (M.sides mo de) mo de c∧∀k,k<mo.length→en (ptR (M.sides mo de) c) k*d=en x k*dnR (M.sides mo de) c:=by
 obtain⟨htm,htl⟩:=sub_mem ht
 have hsm:=right_small hR
 have hps:∀p,∃j:Nat,p∈M.planes mo de []→j<(M.sides mo de).length∧∃s:Int,(s=1∨s= -1)∧(∀c,en p.co c=s*en ((M.sides mo de).getD j dfSd).co c)∧p.am=s*((M.sides mo de).getD j dfSd).am:=by
  intro p
  by_cases hp:p∈M.planes mo de []
  ·obtain⟨j,h1,h2⟩:=plane_side hR hp
   exact⟨j,fun _=>⟨h1,h2⟩⟩
  ·exact⟨0,fun h=>absurd h hp⟩
 obtain⟨J,hJ⟩:=Classical.axiomOfChoice hps
 have hss:∀p,∃s:Int,p∈M.planes mo de []→(s=1∨s= -1)∧(∀c,en p.co c=s*en ((M.sides mo de).getD (J p) dfSd).co c)∧p.am=s*((M.sides mo de).getD (J p) dfSd).am:=by
  intro p
  by_cases hp:p∈M.planes mo de []
  ·obtain⟨s,h⟩:=(hJ p hp).2
   exact⟨s,fun _=>h⟩
  ·exact⟨0,fun h=>absurd h hp⟩
 obtain⟨sg,hsg⟩:=Classical.axiomOfChoice hss
 have hd0:DI en (t.map Plane.co) (List.range mo.length)≠0:=by have:=hc.sol.pos;have:=hc.sol.den;omega
 rw[DI_map,DI_congr (g:=fun p c=>sg p*en ((M.sides mo de).getD (J p) dfSd).co c) (fun p hp c _=>(hsg p (htm p hp)).2.1 c)]at hd0
 have hd1:=DI_scale_ne (s:=sg) (f:=fun p c=>en ((M.sides mo de).getD (J p) dfSd).co c) hd0
 rw[←DI_map (f:=fun j c=>en ((M.sides mo de).getD j dfSd).co c) (g:=J)]at hd1
 obtain⟨s,hsp,hsl,hsm',hsD⟩:=choose_rows (L:=(M.sides mo de).length) (I:=t.map J) (by rw[List.length_map];exact htl) (fun i hi=>by
  obtain⟨p,hp,rfl⟩:=List.mem_map.1 hi
  exact(hJ p (htm p hp)).1) (D_ne.2 hd1)
 have hsD:=D_ne.1 hsD
 have hsL:∀a,a∈s→a<(M.sides mo de).length:=fun a ha=>by
  obtain⟨p,hp,rfl⟩:=List.mem_map.1 ((hsm' a).1 ha)
  exact(hJ p (htm p hp)).1
 have hord:=mem_ord (L:=(M.sides mo de).length) mo.length [] s hsl hsp (fun a ha=>⟨Nat.zero_le _,hsL a ha⟩)
 rw[List.nil_append]at hord
 obtain⟨c,hcdef⟩:∃c:List Int,c=s.map (fun a:Nat=>(a:Int)):=⟨_,rfl⟩
 rw[←hcdef]at hord
 obtain⟨h1,h2⟩:=ord_good _ _ _ hord (fun v hv=>by cases hv)
 have h1:c.length=mo.length:=by simpa using h1
 have hpick:M.pickS (M.sides mo de) c=s.map fun a=>(M.sides mo de).getD a dfSd:=by
  rw[hcdef];unfold M.pickS;rw[List.map_map];rfl
 obtain⟨hl,hm⟩:=pickS_ok h1 h2
 obtain⟨hS,ha⟩:=sides_sq hR hl hm
 have hDR:DI en ((M.pickS (M.sides mo de) c).map Side.co) (List.range mo.length)≠0:=by
  rw[hpick,List.map_map,DI_map];exact hsD
 obtain⟨s1,s2⟩:=solve_yes hS (B:=1000000) (by decide) (by decide) ha hDR
 have hdpos:=hc.sol.pos
 have hrow:∀i,i<mo.length→dl mo.length (((M.pickS (M.sides mo de) c).map Side.co).getD i []) x=((M.pickS (M.sides mo de) c).map Side.am).getD i 0*d:=by
  intro i hi
  rw[side_co,side_am]
  have hgi:(M.pickS (M.sides mo de) c).getD i dfSd=(M.sides mo de).getD (s.getD i 0) dfSd:=by
   rw[hpick,List.getD_eq_getElem?_getD,List.getElem?_map,List.getElem?_eq_getElem (by omega),List.getD_eq_getElem?_getD (l:=s),List.getElem?_eq_getElem (by omega)]
   rfl
  rw[hgi]
  obtain⟨p,hp,hpJ⟩:=List.mem_map.1 ((hsm' _).1 (getD_mem (d:=0) (show i<s.length by omega)))
  obtain⟨g1,g2,g3⟩:=hsg p (htm p hp)
  rw[←hpJ]
  obtain⟨q,hq,rfl⟩:=memP_getD hp
  have hr:=hc.sol.rows (hsm.sq htm htl) q (by omega)
  rw[co_at,am_at]at hr
  have hdl:dl mo.length (t.getD q dfP).co x=sg (t.getD q dfP)*dl mo.length ((M.sides mo de).getD (J (t.getD q dfP)) dfSd).co x:=by
   unfold dl
   rw[←smI_smul]
   exact smI_congr fun c _=>by rw[g2,Int.mul_assoc]
  rw[hdl,g3]at hr
  rcases g1 with g1|g1 <;>rw[g1]at hr
  ·simpa using hr
  ·rw[Int.mul_assoc]at hr;omega
 have hprop:=s2.prop hS hdpos hrow
 have hal0:=planes_allowed hc.all
 have hx0:∀k,0≤en (M.solve ((M.pickS (M.sides mo de) c).map Side.co) ((M.pickS (M.sides mo de) c).map Side.am)).1 k:=by
  intro k
  by_cases hk:k<mo.length
  ·have e1:=hprop k hk
   have e2:=hal0.2 k hk
   have e3:0≤en x k*(M.solve ((M.pickS (M.sides mo de) c).map Side.co) ((M.pickS (M.sides mo de) c).map Side.am)).2.1:=Int.mul_nonneg e2 (by have:=s2.pos;omega)
   rw[←e1]at e3
   exact Int.nonneg_of_mul_nonneg_left e3 hdpos
  ·unfold en
   rw[List.getD_eq_getElem?_getD,List.getElem?_eq_none (by rw[s2.len];omega)];exact Int.le_refl _
 have hneg:anyNeg (M.solve ((M.pickS (M.sides mo de) c).map Side.co) ((M.pickS (M.sides mo de) c).map Side.am)).1=false:=by
  unfold anyNeg
  rw[List.any_eq_false]
  intro v hv
  obtain⟨k,_,rfl⟩:=mem_getD hv
  have:=hx0 k
  unfold en at this
  simpa using this
 have hcor:=rcorner_solve hR.n0 hl hS ha
 rw[s1,cond_true,hneg,cond_false]at hcor
 have hP:=sol_ptErr hR s2 hx0
 have hAll:Allowed mo de (M.solve ((M.pickS (M.sides mo de) c).map Side.co) ((M.pickS (M.sides mo de) c).map Side.am)).2.1 (M.solve ((M.pickS (M.sides mo de) c).map Side.co) ((M.pickS (M.sides mo de) c).map Side.am)).1:=by
  refine(planes_allowed fun p hp=>?_).1
  have e1:=hc.all p hp
  have e2:=dl_prop (a:=p.co) hprop
  have e3:=s2.pos
  refine Int.le_of_mul_le_mul_right (a:=d) ?_ hdpos
  rw[e2]
  have e4:=Int.mul_le_mul_of_nonneg_right e1 (Int.le_of_lt e3)
  rw[Int.mul_assoc,Int.mul_comm d]at e4
  rw[Int.mul_assoc];exact e4
 refine⟨c,hord,⟨?_,?_⟩,?_⟩
 ·rw[h1,hcor]
 ·rw[h1,hcor]
  exact(allowed_iff hR hP).2 hAll
 ·unfold ptR dnR
  rw[h1,hcor]
  exact hprop
theorem great_eq(hR:RightP mo ga de) :
  (¬HasPoint mo.length (M.planes mo de [])∧M.greatG mo ga de=(0,1,false)) ∨
  (∃N D':Int,M.greatG mo ga de=(N,D',true)∧0<D'∧D'≤2400000000∧N.natAbs≤9600000000000000∧N*(M.bstB mo ga de).gd=(M.bstB mo ga de).num*D'∧0<(M.bstB mo ga de).gd):=by
 have hsm:=right_small hR
 have hst:=start_lp (mo:=mo) (de:=de) (more:=[]) (K:=100) (by simpa using hR.n4) (asked:=ga) (by simpa using right_ask hR) (fun i hi=>by
  rw[List.getD_eq_getElem?_getD,List.getElem?_eq_none (by rw[hR.lg];exact hi)];exact Int.le_refl _)
 simp only[List.length_nil,Nat.add_zero]at hst
 have hone:=one_of hsm (asked:=ga) (K:=100) (nd:=de.length) (nm:=mo.length) (by decide) (by decide) (right_ask hR) hst
 have hgood:∀c,c∈M.ord (M.sides mo de).length mo.length []→c.length=mo.length∧∀v,v∈c→0≤v∧v<((M.sides mo de).length:Int):=fun c hc=>by
  have:=ord_good _ _ _ hc (fun v hv=>by cases hv)
  simpa using this
 have hG:GreatOf (M.sides mo de) mo ga de ([]++M.ord (M.sides mo de).length mo.length []) (M.greatG mo ga de):=by
  refine great_fold _ [] _ (fun c hc hA=>?_) (.inl ⟨rfl,fun c hc=>by cases hc⟩)
  rcases hc with hc|hc
  ·obtain⟨h1,h2⟩:=hgood c hc
   exact(adm_pt (ga:=ga) hR h1 h2 hA).1.1
  ·cases hc
 rw[List.nil_append]at hG
 rcases hone with⟨hno,_,_⟩|⟨_,t,v,u,_,_,_,_,hu,hcor,hgd,hnum,_,hle⟩
 ·refine .inl ⟨hno,?_⟩
  rcases hG with⟨h,_⟩|⟨c,hc,hA,_⟩
  ·exact h
  ·obtain⟨h1,h2⟩:=hgood c hc
   exact absurd (pt_has (adm_pt (ga:=ga) hR h1 h2 hA).1) hno
 ·refine .inr ?_
  obtain⟨c,hc,hA,hprop⟩:=corner_adm hR hu hcor
  rcases hG with⟨_,h⟩|⟨c',hc',hA',hp',h,hbest⟩
  ·exact absurd hA (h c hc)
  ·obtain⟨h1,h2⟩:=hgood c hc
   obtain⟨g1,g2⟩:=hgood c' hc'
   obtain⟨q1,q2,q3,q4⟩:=adm_pt (ga:=ga) hR h1 h2 hA
   obtain⟨r1,r2,r3,r4⟩:=adm_pt (ga:=ga) hR g1 g2 hA'
   refine⟨_,_,h,hp',r4,r3,?_,?_⟩
   ·have b1:=hbest c hc hA
    have b2:=hle _ _ r1
    rw[←r2]at b2
    have b3:=dl_prop (a:=ga) hprop
    rw[←q2]at b3
    show _*(M.best ga (M.planes mo de []) mo.length).gd=(M.best ga (M.planes mo de []) mo.length).num*_
    rw[hgd]
    refine Int.le_antisymm b2 ?_
    rw[hnum]
    have hq:=q1.1
    refine Int.le_of_mul_le_mul_right (a:=dnR (M.sides mo de) c) ?_ hq
    have hbd:=hcor.sol.pos
    have b4:=Int.mul_le_mul_of_nonneg_right b1 (Int.le_of_lt hbd)
    have e1:dl mo.length ga (M.best ga (M.planes mo de []) mo.length).pa*dnR (M.sides mo de) c'*dnR (M.sides mo de) c=M.dot ga (ptR (M.sides mo de) c)*dnR (M.sides mo de) c'*(M.best ga (M.planes mo de []) mo.length).ad:=by
     rw[Int.mul_assoc,Int.mul_comm (dnR (M.sides mo de) c'),←Int.mul_assoc,←b3,Int.mul_assoc,Int.mul_comm _ (dnR (M.sides mo de) c'),←Int.mul_assoc]
    rw[e1]
    refine Int.le_trans b4 ?_
    rw[Int.mul_assoc,Int.mul_comm (dnR (M.sides mo de) c),←Int.mul_assoc]
    exact Int.le_refl _
   ·show 0<(M.best ga (M.planes mo de []) mo.length).gd
    rw[hgd];exact hcor.sol.pos
end
end Go.Pl
end
section
set_option maxRecDepth 100000
namespace Go.Pl
open Go.V Go.Proofs
abbrev ycI(l:List Int):List Int:=Enc.list eI (List.length (cI l)) (Enc.F eI (cI l))
abbrev ycD(l:List Dem):List Dem:=Enc.list eDm (List.length (cD l)) (Enc.F eDm (cD l))
abbrev bo3(mo ga:List Int)(de:List Dem):M.PB×Int:=M.bestOf (ycI mo) (ycI ga) (ycD de)
abbrev pt3(mo ga:List Int)(de:List Dem):List Int:=Enc.list eI (List.length (M.PB.pt (Prod.fst (bo3 mo ga de)))) (Enc.F eI (M.PB.pt (Prod.fst (bo3 mo ga de))))
end Go.Pl
end
section
set_option maxRecDepth 100000
namespace Go.Pl
open Go.V Go.Proofs
open Go.Lp
theorem told_cop{n d:Int}(hd:0<d):Nat.gcd (M.told1 n d).natAbs (M.told2 n d).natAbs=1:=by
 have hg:Int.gcd n d≠0:=fun h=>by have:=Int.gcd_eq_zero_iff.1 h;omega
 have e1:M.told1 n d*((Int.gcd n d:Nat):Int)=n:=by unfold M.told1;exact Int.tdiv_mul_cancel (Int.gcd_dvd_left ..)
 have e2:M.told2 n d*((Int.gcd n d:Nat):Int)=d:=by unfold M.told2;exact Int.tdiv_mul_cancel (Int.gcd_dvd_right ..)
 have h1:n.natAbs=(M.told1 n d).natAbs*Int.gcd n d:=by
  have:=congrArg Int.natAbs e1
  rw[Int.natAbs_mul,Int.natAbs_natCast]at this;exact this.symm
 have h2:d.natAbs=(M.told2 n d).natAbs*Int.gcd n d:=by
  have:=congrArg Int.natAbs e2
  rw[Int.natAbs_mul,Int.natAbs_natCast]at this;exact this.symm
 have h3:Int.gcd n d=Nat.gcd n.natAbs d.natAbs:=rfl
 have h4:Nat.gcd n.natAbs d.natAbs=Nat.gcd (M.told1 n d).natAbs (M.told2 n d).natAbs*Int.gcd n d:=by
  rw[←Nat.gcd_mul_right,←h1,←h2]
 rw[←h3]at h4
 have h5:1*Int.gcd n d=Nat.gcd (M.told1 n d).natAbs (M.told2 n d).natAbs*Int.gcd n d:=by rw[Nat.one_mul];exact h4
 exact(Nat.eq_of_mul_eq_mul_right (by omega) h5).symm
theorem told_eq{n d m e:Int}(hd:0<d)(he:0<e)(h:n*e=m*d):M.told1 n d=M.told1 m e∧M.told2 n d=M.told2 m e:=by
 have c1:=told_cop (n:=n) hd
 have c2:=told_cop (n:=m) he
 have p1:=told2_pos (n:=n) hd
 have p2:=told2_pos (n:=m) he
 obtain⟨g,hg,n1,d1⟩:=told_mul (n:=n) hd
 obtain⟨k,hk,m1,e1⟩:=told_mul (n:=m) he
 generalize M.told1 n d=a at *
 generalize M.told2 n d=b at *
 generalize M.told1 m e=a' at *
 generalize M.told2 m e=b' at *
 have hx:a*b'=a'*b:=by
  rw[n1,e1,m1,d1]at h
  have:a*b'*(g*k)=a'*b*(g*k):=by
   rw[show a*b'*(g*k)=a*g*(b'*k) by rw[Int.mul_assoc,Int.mul_assoc,Int.mul_left_comm b'],h,show a'*b*(g*k)=a'*k*(b*g) by rw[Int.mul_comm g k,Int.mul_assoc,Int.mul_assoc,Int.mul_left_comm b]]
  exact Int.eq_of_mul_eq_mul_right (Int.ne_of_gt (Int.mul_pos hg hk)) this
 have hn:a.natAbs*b'.natAbs=a'.natAbs*b.natAbs:=by rw[←Int.natAbs_mul,hx,Int.natAbs_mul]
 have k1:b.natAbs∣b'.natAbs:=by
  refine Nat.Coprime.dvd_of_dvd_mul_left (m:=a.natAbs) (n:=b'.natAbs) (k:=b.natAbs) ?_ ⟨a'.natAbs,by rw[hn,Nat.mul_comm]⟩
  show Nat.gcd b.natAbs a.natAbs=1
  rw[Nat.gcd_comm];exact c1
 have k2:b'.natAbs∣b.natAbs:=by
  refine Nat.Coprime.dvd_of_dvd_mul_left (m:=a'.natAbs) (n:=b.natAbs) (k:=b'.natAbs) ?_ ⟨a.natAbs,by rw[←hn,Nat.mul_comm]⟩
  show Nat.gcd b'.natAbs a'.natAbs=1
  rw[Nat.gcd_comm];exact c2
 have hb:=Nat.dvd_antisymm k1 k2
 have hb:b=b':=by omega
 subst hb
 exact⟨Int.eq_of_mul_eq_mul_right (by omega) hx,rfl⟩
theorem frac_eq{n d m e:Int}(hd:0<d)(he:0<e)(h:n*e=m*d):M.frac n d=M.frac m e:=by
 obtain⟨h1,h2⟩:=told_eq hd he h
 unfold M.frac
 rw[h1,h2]
theorem gcdL_dvd:∀(l:List Int) (a:Nat),l.foldl (fun a b=>Nat.gcd a b.natAbs) a∣a∧∀x,x∈l→l.foldl (fun a b=>Nat.gcd a b.natAbs) a∣x.natAbs
 |[],a=>⟨Nat.dvd_refl _,fun x hx=>by cases hx⟩
 |y::l,a=>by
  obtain⟨h1,h2⟩:=gcdL_dvd l (Nat.gcd a y.natAbs)
  refine⟨Nat.dvd_trans h1 (Nat.gcd_dvd_left ..),fun x hx=>?_⟩
  rcases List.mem_cons.1 hx with rfl|hx
  ·exact Nat.dvd_trans h1 (Nat.gcd_dvd_right ..)
  ·exact h2 x hx
theorem low_prop{b:M.Bs}(hd:0<b.ad)(hdb:b.ad≤2400000000)(hx:∀k,(b.pa.getD k 0).natAbs≤24000000000000) :
  0<M.lowD b∧M.lowD b≤b.ad∧(M.lowP b).length=b.pa.length∧∀k,en (M.lowP b) k*b.ad=en b.pa k*M.lowD b∧(en (M.lowP b) k).natAbs≤(en b.pa k).natAbs:=by
 have hdv:∀x,x∈b.pa++ [b.ad]→M.lowG b∣x:=fun x hx=>by
  have:=(gcdL_dvd (b.pa++ [b.ad]) 0).2 x hx
  unfold M.lowG M.gcdL
  exact Int.ofNat_dvd_left.2 this
 have hgd:=hdv b.ad (by simp)
 have hg0:0<M.lowG b:=by
  have h1:M.lowG b≠0:=fun h=>by rw[h]at hgd;have:=Int.zero_dvd.1 hgd;omega
  have h2:0≤M.lowG b:=by unfold M.lowG;omega
  omega
 have key:∀x,M.lowG b∣x→x.natAbs≤24000000000000→IntKind.i64.wrap (x.tdiv (M.lowG b))*M.lowG b=x∧(IntKind.i64.wrap (x.tdiv (M.lowG b))).natAbs≤x.natAbs:=by
  intro x hx hb
  have hle:(x.tdiv (M.lowG b)).natAbs≤x.natAbs:=by
   have:=Int.tdiv_mul_cancel hx
   have h2:=congrArg Int.natAbs this
   rw[Int.natAbs_mul]at h2
   have h3:1≤(M.lowG b).natAbs:=by omega
   have h4:=Nat.mul_le_mul_left (x.tdiv (M.lowG b)).natAbs h3
   omega
  rw[wrap_ok (by unfold i64ok;omega)]
  exact⟨Int.tdiv_mul_cancel hx,hle⟩
 obtain⟨d1,d2⟩:=key b.ad hgd (by omega)
 have d1:M.lowD b*M.lowG b=b.ad:=d1
 have d2:(M.lowD b).natAbs≤b.ad.natAbs:=d2
 have hdp:0<M.lowD b:=by
  rcases Int.lt_or_le 0 (M.lowD b)with h|h
  ·exact h
  ·have:=Int.mul_nonpos_of_nonpos_of_nonneg h (Int.le_of_lt hg0);omega
 refine⟨hdp,by omega,by unfold M.lowP;rw[List.length_map],fun k=>?_⟩
 by_cases hk:k<b.pa.length
 ·have hm:b.pa.getD k 0∈b.pa++ [b.ad]:=List.mem_append_left _ (getD_mem hk)
  obtain⟨e1,e2⟩:=key _ (hdv _ hm) (hx k)
  have hl:en (M.lowP b) k=IntKind.i64.wrap ((b.pa.getD k 0).tdiv (M.lowG b)):=by
   unfold en M.lowP
   rw[List.getD_eq_getElem?_getD,List.getElem?_map,List.getD_eq_getElem?_getD,List.getElem?_eq_getElem hk];rfl
  rw[hl]
  refine⟨?_,e2⟩
  unfold en
  conv=>lhs;rw[←d1]
  conv=>rhs;rw[←e1]
  rw[Int.mul_assoc,Int.mul_comm (M.lowD b)]
 ·have h1:en (M.lowP b) k=0:=by unfold en M.lowP;rw[List.getD_eq_getElem?_getD,List.getElem?_eq_none (by rw[List.length_map];omega)];rfl
  have h2:en b.pa k=0:=by unfold en;rw[List.getD_eq_getElem?_getD,List.getElem?_eq_none (by omega)];rfl
  rw[h1,h2];exact⟨by rw[Int.zero_mul,Int.zero_mul],Nat.le_refl _⟩
section
variable {mo ga : List Int} {de : List Dem}
theorem low_point(hR:RightP mo ga de){u:List Plane}(hc:Cor mo.length (M.planes mo de []) u (M.bstB mo ga de).pa (M.bstB mo ga de).ad)(hgd:(M.bstB mo ga de).gd=(M.bstB mo ga de).ad)(hnum:(M.bstB mo ga de).num=dl mo.length ga (M.bstB mo ga de).pa) :
  M.ptErr mo (M.lowD (M.bstB mo ga de)) (M.lowP (M.bstB mo ga de))=0∧M.ckPt mo ga de (M.lowD (M.bstB mo ga de)) (M.lowP (M.bstB mo ga de))=M.frac (M.bstB mo ga de).num (M.bstB mo ga de).gd:=by
 generalize M.bstB mo ga de=b at *
 have hx:∀k,(b.pa.getD k 0).natAbs≤24000000000000:=fun k=>Nat.le_trans (hc.sol.nb k) (by decide)
 obtain⟨l1,l2,l3,l4⟩:=low_prop hc.sol.pos hc.sol.db hx
 have hdb:=hc.sol.db
 have hdp:=hc.sol.pos
 obtain⟨_,h0⟩:=planes_allowed hc.all
 have hn0:∀k,0≤en (M.lowP b) k:=by
  intro k
  by_cases hk:k<mo.length
  ·have e1:=(l4 k).1
   have e2:0≤en b.pa k*M.lowD b:=Int.mul_nonneg (h0 k hk) (Int.le_of_lt l1)
   rw[←e1]at e2
   exact Int.nonneg_of_mul_nonneg_left e2 hdp
  ·unfold en
   rw[List.getD_eq_getElem?_getD,List.getElem?_eq_none (by rw[l3,hc.sol.len];omega)];exact Int.le_refl _
 have hP:M.ptErr mo (M.lowD b) (M.lowP b)=0:=by
  refine ptErr_of (by rw[l3];exact hc.sol.len) ⟨l1,by omega⟩ fun v hv=>?_
  obtain⟨k,_,rfl⟩:=mem_getD hv
  have e1:=hn0 k
  have e2:=(l4 k).2
  have e3:=hx k
  unfold en at e1 e2
  omega
 have hAll:Allowed mo de (M.lowD b) (M.lowP b):=by
  refine(planes_allowed fun p hp=>?_).1
  have e1:=hc.all p hp
  have e2:=dl_prop (n:=mo.length) (a:=p.co) (fun k _=>(l4 k).1)
  refine Int.le_of_mul_le_mul_right (a:=b.ad) ?_ hdp
  rw[e2]
  have e4:=Int.mul_le_mul_of_nonneg_right e1 (Int.le_of_lt l1)
  rw[Int.mul_assoc,Int.mul_comm b.ad]at e4
  rw[Int.mul_assoc];exact e4
 refine⟨hP,?_⟩
 have hA:=(allowed_iff hR hP).2 hAll
 unfold M.ckPt
 rw[hA]
 show M.frac (M.dot ga (M.lowP b)) (M.lowD b)=_
 have hxl:∀k,((M.lowP b).getD k 0).natAbs≤24000000000000:=fun k=>Nat.le_trans (l4 k).2 (hx k)
 rw[gain_dl (right_small hR) (right_ask hR) hxl]
 refine frac_eq l1 (by rw[hgd];exact hdp) ?_
 rw[hgd,hnum]
 exact dl_prop (fun k _=>(l4 k).1)
end
end Go.Pl
end
section
set_option maxRecDepth 100000
namespace Go.Pl
open Go.V Go.Proofs
open Go.Lp
theorem small_lens{mo ga:List Int}{de:List Dem}(h:M.smallP mo ga de=true):mo.length≤3∧M.few mo ga de=true:=by
 unfold M.smallP at h
 cases h1:M.few mo ga de with
 |false=>rw[h1]at h;cases h
 |true=>
  rw[h1]at h
  cases h2:decide ((mo.length:Int)≤3)with
  |false=>rw[h2]at h;cases h
  |true=>exact⟨by have:=of_decide_eq_true h2;omega,rfl⟩
end Go.Pl
end
section
set_option maxRecDepth 100000
namespace Go.Pl
open Go.V Go.Proofs
open Go.Lp
section
variable {mo ga : List Int} {de : List Dem}
theorem right_erase(hR:RightP mo ga de)(k:Nat):RightP mo ga (de.eraseIdx k):=
 ⟨hR.n0,hR.n4,hR.lg,Nat.le_trans (by rw[List.length_eraseIdx];split <;>omega) hR.ld,hR.rm,hR.rg,fun d hd=>hR.rd d (List.mem_of_mem_eraseIdx hd)⟩
theorem room_all{den:Int}{pa:List Int}(h:Allowed mo de den pa):∀d,d∈de→dotK d.co pa mo.length≤d.am*den:=by
 intro d hd
 obtain⟨i,hi,rfl⟩:=List.getElem_of_mem hd
 have:=h.room i hi
 rwa [List.getD_eq_getElem?_getD,List.getElem?_eq_getElem hi]at this
theorem dlK(n:Nat)(a b:List Int):dl n a b=dotK a b n:=(dotK_smI a b n).symm
theorem pt_erase(hR:RightP mo ga de){x:List Int}{d:Int}{k:Nat}(h:PtOK mo.length (M.planes mo de []) x d):PtOK mo.length (M.planes mo (de.eraseIdx k) []) x d:=by
 obtain⟨ha,h0⟩:=planes_allowed h.2
 exact⟨h.1,allowed_planes (right_erase hR k) h0 ⟨ha.top,fun j hj=>room_all ha _ (List.mem_of_mem_eraseIdx (getD_mem (d:=dfD) hj))⟩⟩
theorem best_gr(hR:RightP mo ga de):(¬HasPoint mo.length (M.planes mo de [])∧M.bstB mo ga de=M.bs0) ∨
  (PtOK mo.length (M.planes mo de []) (M.bstB mo ga de).pa (M.bstB mo ga de).ad∧(M.bstB mo ga de).ad≤2400000000∧(∀k,((M.bstB mo ga de).pa.getD k 0).natAbs≤24000000000000)∧(M.bstB mo ga de).pa.length=mo.length∧(M.bstB mo ga de).gd=(M.bstB mo ga de).ad∧(M.bstB mo ga de).num=dl mo.length ga (M.bstB mo ga de).pa ∧
   ∀x d,PtOK mo.length (M.planes mo de []) x d→dl mo.length ga x*(M.bstB mo ga de).ad≤(M.bstB mo ga de).num*d):=by
 have hsm:=right_small hR
 have hst:=start_lp (mo:=mo) (de:=de) (more:=[]) (K:=100) (by simpa using hR.n4) (asked:=ga) (by simpa using right_ask hR) (fun i hi=>by
  rw[List.getD_eq_getElem?_getD,List.getElem?_eq_none (by rw[hR.lg];exact hi)];exact Int.le_refl _)
 simp only[List.length_nil,Nat.add_zero]at hst
 rcases one_of hsm (asked:=ga) (K:=100) (nd:=de.length) (nm:=mo.length) (by decide) (by decide) (right_ask hR) hst with⟨hno,_,hb⟩|⟨_,t,v,u,_,_,_,_,hu,hcor,hgd,hnum,_,hle⟩
 ·exact .inl ⟨hno,hb⟩
 ·exact .inr ⟨cor_pt hcor,hcor.sol.db,fun k=>Nat.le_trans (hcor.sol.nb k) (by decide),hcor.sol.len,hgd,hnum,hle⟩
def comb(n:Nat)(r:Int)(x y:List Int):List Int:=(List.range n).map fun c=>r*en x c+en y c
theorem en_comb{n c:Nat}{r:Int}{x y:List Int}(h:c<n):en (comb n r x y) c=r*en x c+en y c:=by
 unfold en comb
 rw[List.getD_eq_getElem?_getD,List.getElem?_map,List.getElem?_range h];rfl
theorem dl_comb(n:Nat)(r:Int)(a x y:List Int):dl n a (comb n r x y)=r*dl n a x+dl n a y:=by
 unfold dl
 rw[←smI_smul,←smI_add]
 refine smI_congr fun c hc=>?_
 rw[en_comb (List.mem_range.1 hc),Int.mul_add,Int.mul_left_comm]
theorem hold_binds(hR:RightP mo ga de){k:Nat}(hk:k<de.length){x y:List Int}{d e num:Int}(hx:PtOK mo.length (M.planes mo de []) x d)(hy:PtOK mo.length (M.planes mo (de.eraseIdx k) []) y e)
  (hle:∀x' d',PtOK mo.length (M.planes mo de []) x' d'→dl mo.length ga x'*d≤num*d') (hnum:num=dl mo.length ga x) (hlt:num*e<dl mo.length ga y*d) :
  dotK (de.getD k dfD).co x mo.length=(de.getD k dfD).am*d:=by
 apply Classical.byContradiction
 intro hne
 obtain⟨ha,h0⟩:=planes_allowed hx.2
 obtain⟨hb,h1⟩:=planes_allowed hy.2
 have hs:=ha.room k hk
 have hd:=hx.1
 have he:=hy.1
 obtain⟨r,hr,hr1⟩:∃r:Int,0≤r∧dotK (de.getD k dfD).co y mo.length-(de.getD k dfD).am*e≤r:=by
  by_cases h:dotK (de.getD k dfD).co y mo.length-(de.getD k dfD).am*e≤0
  ·exact⟨0,Int.le_refl _,h⟩
  ·exact⟨_,by omega,Int.le_refl _⟩
 have hrd:0≤r*d:=Int.mul_nonneg hr (Int.le_of_lt hd)
 have hz:PtOK mo.length (M.planes mo de []) (comb mo.length r x y) (r*d+e):=by
  refine⟨by omega,allowed_planes hR (fun i hi=>?_) ⟨fun i hi=>?_,fun j hj=>?_⟩⟩
  ·rw[en_comb hi]
   have:=Int.mul_nonneg hr (h0 i hi);have:=h1 i hi;omega
  ·have e1:(comb mo.length r x y).getD i 0=r*en x i+en y i:=en_comb hi
   rw[e1,Int.mul_add]
   have g1:en x i≤mo.getD i 0*d:=ha.top i hi
   have g2:en y i≤mo.getD i 0*e:=hb.top i hi
   have:=Int.mul_le_mul_of_nonneg_left g1 hr
   rw[Int.mul_left_comm]at this
   omega
  ·rw[←dlK,dl_comb,dlK,dlK,Int.mul_add]
   by_cases hjk:j=k
   ·subst hjk
    have h2:1≤(de.getD j dfD).am*d-dotK (de.getD j dfD).co x mo.length:=by omega
    have h3:=Int.mul_le_mul_of_nonneg_left h2 hr
    rw[Int.mul_sub,Int.mul_left_comm]at h3
    omega
   ·have g1:=ha.room j hj
    have hm:de.getD j dfD∈de.eraseIdx k:=by
     rw[List.mem_eraseIdx_iff_getElem]
     exact⟨j,hj,hjk,by rw[List.getD_eq_getElem?_getD,List.getElem?_eq_getElem hj];rfl⟩
    have g2:=room_all hb _ hm
    have:=Int.mul_le_mul_of_nonneg_left g1 hr
    rw[Int.mul_left_comm]at this
    omega
 have hg:=hle _ _ hz
 rw[dl_comb,←hnum,Int.add_mul,Int.mul_add]at hg
 have e2:r*num*d=num*(r*d):=by rw[Int.mul_assoc,Int.mul_left_comm]
 omega
namespace M
def holdP(mo ga:List Int)(de:List Dem)(k:Nat):Bool:=less (bstB mo ga de).num (bstB mo ga de).gd (bstB mo ga (de.eraseIdx k)).num (bstB mo ga (de.eraseIdx k)).gd
def holdX(mo ga:List Int)(de:List Dem)(k:Nat):Bool:=decide (cmpX (greatG mo ga (de.eraseIdx k)).1 (greatG mo ga (de.eraseIdx k)).2.1 (greatG mo ga de).1 (greatG mo ga de).2.1>0)
def holding(mo ga:List Int)(de:List Dem):List Int×Int:=cond ((checkProg mo ga de).2 != 0) ([],(checkProg mo ga de).2) (cond ((bstB mo ga de).ad==0) ([],12) (bindK (holdP mo ga de) de.length,0))
def holdingX(mo ga:List Int)(de:List Dem):List Int:=bindK (holdX mo ga de) de.length
def has(l:List Int)(x:Int):Bool:=decide (x∈l)
end M
theorem cmp_less{N D m e:Int}:decide (M.cmpX N D m e>0)=M.less m e N D:=by
 unfold M.cmpX M.less
 by_cases h1:N*e<m*D
 ·rw[if_pos h1,decide_eq_false (by omega),decide_eq_false (by omega)]
 ·rw[if_neg h1]
  by_cases h2:N*e=m*D
  ·rw[if_pos h2,decide_eq_false (by omega),decide_eq_false (by omega)]
  ·rw[if_neg h2,decide_eq_true (by omega),decide_eq_true (by omega)]
theorem less_prop{n d m e N D P Q:Int}(hd:0<d)(he:0<e)(hD:0<D)(hQ:0<Q)(h1:N*d=n*D)(h2:P*e=m*Q):M.less N D P Q=M.less n d m e:=by
 unfold M.less
 have key:(N*Q)*(d*e)=(n*e)*(D*Q):=by
  calc (N*Q)*(d*e)=(N*d)*(Q*e):=by ac_rfl
   _=(n*D)*(Q*e):=by rw[h1]
   _=(n*e)*(D*Q):=by ac_rfl
 have key2:(P*D)*(d*e)=(m*d)*(D*Q):=by
  calc (P*D)*(d*e)=(P*e)*(D*d):=by ac_rfl
   _=(m*Q)*(D*d):=by rw[h2]
   _=(m*d)*(D*Q):=by ac_rfl
 have p1:0<d*e:=Int.mul_pos hd he
 have p2:0<D*Q:=Int.mul_pos hD hQ
 by_cases h:N*Q<P*D
 ·have g:=Int.mul_lt_mul_of_pos_right h p1
  rw[key,key2]at g
  rw[decide_eq_true h,decide_eq_true (Int.lt_of_mul_lt_mul_right g (Int.le_of_lt p2))]
 ·have g:=Int.mul_le_mul_of_nonneg_right (Int.not_lt.1 h) (Int.le_of_lt p1)
  rw[key,key2]at g
  rw[decide_eq_false h,decide_eq_false (Int.not_lt.2 (Int.le_of_mul_le_mul_right g p2))]
theorem hold_eq(hR:RightP mo ga de)(hp:HasPoint mo.length (M.planes mo de []))(k:Nat):0<(M.bstB mo ga de).gd∧0<(M.bstB mo ga (de.eraseIdx k)).gd∧M.holdX mo ga de k=M.holdP mo ga de k:=by
 rcases great_eq hR with⟨h,_⟩|⟨N,D,hg,hD,_,_,hq,hgd⟩
 ·exact absurd hp h
 ·have hp':HasPoint mo.length (M.planes mo (de.eraseIdx k) []):=by
   rcases best_gr hR with⟨h,_⟩|⟨h,_⟩
   ·exact absurd hp h
   ·exact pt_has (pt_erase hR h)
  rcases great_eq (right_erase hR k)with⟨h,_⟩|⟨N',D',hg',hD',_,_,hq',hgd'⟩
  ·exact absurd hp' h
  ·refine⟨hgd,hgd',?_⟩
   unfold M.holdX M.holdP
   rw[hg,hg',cmp_less]
   exact less_prop hgd hgd' hD hD' hq hq'
theorem low_binds(hR:RightP mo ga de){k:Nat}(hk:k<de.length)(hd:0<(M.bstB mo ga de).ad)(hdb:(M.bstB mo ga de).ad≤2400000000)(hx:∀k,((M.bstB mo ga de).pa.getD k 0).natAbs≤24000000000000)(hP:M.ptErr mo (M.lowD (M.bstB mo ga de)) (M.lowP (M.bstB mo ga de))=0)
  (h:dotK (de.getD k dfD).co (M.bstB mo ga de).pa mo.length=(de.getD k dfD).am*(M.bstB mo ga de).ad):M.zeroR de (M.lowD (M.bstB mo ga de)) (M.lowP (M.bstB mo ga de)) k=true:=by
 obtain⟨l1,l2,l3,l4⟩:=low_prop hd hdb hx
 unfold M.zeroR
 rw[room_exact hR hP hk]
 have e:=dl_prop (n:=mo.length) (a:=(de.getD k dfD).co) (fun i _=>(l4 i).1)
 rw[dlK,dlK,h]at e
 have:dotK (de.getD k dfD).co (M.lowP (M.bstB mo ga de)) mo.length=(de.getD k dfD).am*M.lowD (M.bstB mo ga de):=by
  refine Int.eq_of_mul_eq_mul_right (a:=(M.bstB mo ga de).ad) (by omega) ?_
  rw[e,Int.mul_assoc,Int.mul_comm (M.bstB mo ga de).ad,←Int.mul_assoc]
 rw[this]
 simp
theorem mem_bindK{z:Nat→Bool}{n:Nat}{x:Int}:x∈M.bindK z n↔∃k:Nat,k<n∧z k=true∧x=(k:Int):=by
 unfold M.bindK
 constructor
 ·intro h
  obtain⟨k,hk,rfl⟩:=List.mem_map.1 h
  obtain⟨h1,h2⟩:=List.mem_filter.1 hk
  exact⟨k,List.mem_range.1 h1,h2,rfl⟩
 ·rintro ⟨k,h1,h2,rfl⟩
  exact List.mem_map.2 ⟨k,List.mem_filter.2 ⟨List.mem_range.2 h1,h2⟩,rfl⟩
theorem bindK_congr{y z:Nat→Bool}{n:Nat}(h:∀k,k<n→y k=z k):M.bindK y n=M.bindK z n:=by
 unfold M.bindK
 rw[List.filter_congr (fun k hk=>h k (List.mem_range.1 hk))]
theorem best_cor(hR:RightP mo ga de)(h:((M.bstB mo ga de).ad==0)=false):∃u,Cor mo.length (M.planes mo de []) u (M.bstB mo ga de).pa (M.bstB mo ga de).ad:=by
 rcases best_spec (right_small hR) (right_ask hR)with⟨h1,_⟩|⟨t,_,_,h3,_⟩
 ·have h1:M.bstB mo ga de=M.bs0:=h1
  rw[h1]at h;exact absurd h (by decide)
 ·exact⟨t,h3⟩
theorem frac_err(n d:Int):(M.frac n d).2.2=0∨(M.frac n d).2.2=8:=by
 unfold M.frac
 cases M.small (M.told1 n d) 1000000000 with
 |false=>exact .inr rfl
 |true=>cases decide (M.told2 n d>1000000000)with
  |true=>exact .inr rfl
  |false=>exact .inl rfl
theorem law7(hc:(M.checkProg mo ga de).2=0) :
  (M.greatG mo ga de=(0,1,false)∧M.holding mo ga de=([],12)) ∨
  (∃N D:Int,M.greatG mo ga de=(N,D,true)∧M.holding mo ga de=(M.bindK (M.holdP mo ga de) de.length,0)∧M.holdingX mo ga de=M.bindK (M.holdP mo ga de) de.length ∧
   ∃b e,M.bestOf mo ga de=(b,e)∧((e=8)∨(e=0∧b.pt.length=mo.length∧M.ptErr mo b.dn b.pt=0∧∀x,x∈M.bindK (M.holdP mo ga de) de.length→x∈M.binds de b.dn b.pt))):=by
 have hR:=prog_right hc
 have hh:M.holding mo ga de=cond ((M.bstB mo ga de).ad==0) ([],12) (M.bindK (M.holdP mo ga de) de.length,0):=by
  unfold M.holding;rw[hc];rfl
 rcases best_gr hR with⟨hno,hb⟩|⟨hpt,hdb,hxb,hl,hgd,hnum,hle⟩
 ·refine .inl ⟨?_,by rw[hh,hb];rfl⟩
  rcases great_eq hR with⟨_,h⟩|⟨N,D,h,_,_,_,_,h0⟩
  ·exact h
  ·rw[hb]at h0;exact absurd h0 (by decide)
 ·refine .inr ?_
  have hp:=pt_has hpt
  have had:((M.bstB mo ga de).ad==0)=false:=by have:=hpt.1;simpa using(by omega:¬(M.bstB mo ga de).ad=0)
  rw[had,cond_false]at hh
  have hX:M.holdingX mo ga de=M.bindK (M.holdP mo ga de) de.length:=bindK_congr fun k _=>(hold_eq hR hp k).2.2
  have hb0:M.bestOf mo ga de=cond ((M.frac (M.bstB mo ga de).num (M.bstB mo ga de).gd).2.2 != 0) (M.pb0,(M.frac (M.bstB mo ga de).num (M.bstB mo ga de).gd).2.2)
    (⟨(M.frac (M.bstB mo ga de).num (M.bstB mo ga de).gd).1,(M.frac (M.bstB mo ga de).num (M.bstB mo ga de).gd).2.1,M.lowD (M.bstB mo ga de),M.lowP (M.bstB mo ga de),(M.wtsB mo ga de).od,(M.wtsB mo ga de).wd,(M.wtsB mo ga de).wt⟩,0):=by
   unfold M.bestOf
   rw[hc,had];rfl
  obtain⟨u,hcor⟩:=best_cor hR had
  have c1:=(low_point hR hcor hgd hnum).1
  have b4:=(low_prop hpt.1 hdb hxb).2.2.1
  rw[hl]at b4
  rcases great_eq hR with⟨h,_⟩|⟨N,D,hg,_⟩
  ·exact absurd hp h
  ·refine⟨N,D,hg,hh,hX,?_⟩
   rcases frac_err (M.bstB mo ga de).num (M.bstB mo ga de).gd with h0|h8
   ·rw[h0]at hb0
    refine⟨_,_,hb0,.inr ⟨rfl,b4,c1,fun x hx=>?_⟩⟩
    obtain⟨k,hk,hz,rfl⟩:=mem_bindK.1 hx
    refine mem_bindK.2 ⟨k,hk,?_,rfl⟩
    refine low_binds hR hk hpt.1 hdb hxb c1 ?_
    rcases best_gr (right_erase hR k)with⟨hno,_⟩|⟨hq,_,_,_,hgd',hnum',_⟩
    ·exact absurd (pt_has (pt_erase hR hpt)) hno
    ·refine hold_binds hR hk hpt hq hle hnum ?_
     have hz:M.less (M.bstB mo ga de).num (M.bstB mo ga de).gd (M.bstB mo ga (de.eraseIdx k)).num (M.bstB mo ga (de.eraseIdx k)).gd=true:=hz
     have:=of_decide_eq_true hz
     rw[hgd,hgd',←hnum']at *
     exact this
   ·rw[h8]at hb0
    exact⟨_,_,hb0,.inl rfl⟩
end
end Go.Pl
end
section
set_option maxRecDepth 100000
namespace Go.Pl
open Go.V Go.Proofs
def qF(n d:Int):Nat→D
 |0=>dI n
 |_=>dI d
end Go.Pl
end
section
set_option maxRecDepth 100000
namespace Go.Pl
open Go.V Go.Proofs
section
variable {mo ga : List Int} {de : List Dem}
def BestQ(mo ga:List Int)(de:List Dem):Prop:=OkP mo.length mo ga de∧i64ok (M.bstB mo ga de).num∧0<(M.bstB mo ga de).gd∧(M.bstB mo ga de).gd<9223372036854775808
theorem best_q(hR:RightP mo ga de)(h3:mo.length≤3)(h:0<(M.bstB mo ga de).gd):BestQ mo ga de:=by
 have hok:=okP hR h3
 rcases best_gr hR with⟨_,hb⟩|⟨hp,hdb,_,_,hgd,_,_⟩
 ·rw[hb]at h;exact absurd h (by decide)
 ·have hne:((M.bstB mo ga de).ad==0)=false:=by have:=hp.1;simpa using(by omega:¬(M.bstB mo ga de).ad=0)
  exact⟨hok,(bst_ok hok.small hok.gain hne).1,h,by rw[hgd];omega⟩
end
def tr130(q_mo:Bool)(mo:List Int)(q_ga:Bool)(ga:List Int)(q_de:Bool)(de:List Dem)(n d:Int):T (List Ar):=
  T.need (Enc.Is eI mo.length (Enc.F eI mo)) (T.need (Enc.Is eI ga.length (Enc.F eI ga)) (T.need (Enc.Is eDm de.length (Enc.F eDm de)) (T.need (OkP mo.length (Enc.list eI mo.length (Enc.F eI mo)) (Enc.list eI ga.length (Enc.F eI ga)) (Enc.list eDm de.length (Enc.F eDm de))) (T.need (i64ok n) (T.need (i64ok (M.Bs.num (M.best (Enc.list eI ga.length (Enc.F eI ga)) (M.planes (Enc.list eI mo.length (Enc.F eI mo)) (Enc.list eDm de.length (Enc.F eDm de)) []) mo.length))) (T.need ((0:Int)<d∧d<9223372036854775808) (T.need ((0:Int)<M.Bs.gd (M.best (Enc.list eI ga.length (Enc.F eI ga)) (M.planes (Enc.list eI mo.length (Enc.F eI mo)) (Enc.list eDm de.length (Enc.F eDm de)) []) mo.length)∧M.Bs.gd (M.best (Enc.list eI ga.length (Enc.F eI ga)) (M.planes (Enc.list eI mo.length (Enc.F eI mo)) (Enc.list eDm de.length (Enc.F eDm de)) []) mo.length)<9223372036854775808) (T.ret [Ar.c (D.bool (M.less n d (M.Bs.num (M.best (Enc.list eI ga.length (Enc.F eI ga)) (M.planes (Enc.list eI mo.length (Enc.F eI mo)) (Enc.list eDm de.length (Enc.F eDm de)) []) mo.length)) (M.Bs.gd (M.best (Enc.list eI ga.length (Enc.F eI ga)) (M.planes (Enc.list eI mo.length (Enc.F eI mo)) (Enc.list eDm de.length (Enc.F eDm de)) []) mo.length))))]))))))))
theorem t130(q_mo:Bool)(mo:List Int)(q_ga:Bool)(ga:List Int)(q_de:Bool)(de:List Dem)(n d:Int):runFnX Try.prog G0 (lookS [v84,v131]) (fun _=>[]) [] 1 60 3 130 Try.f130 [.agg [.sl q_mo mo.length 1 (eI.F mo),.sl q_ga ga.length 1 (eI.F ga),.sl q_de de.length 3 (eDm.F de)],.ptr 2 (qF n d)] =
  tr130 q_mo mo q_ga ga q_de de n d:=by kernel_rfl
theorem w130(q_mo:Bool)(mo:List Int)(q_ga:Bool)(ga:List Int)(q_de:Bool)(de:List Dem)(n d:Int)(hq:BestQ mo ga de)(h1:i64ok n)(h2:0<d∧d<9223372036854775808) :
  (tr130 q_mo mo q_ga ga q_de de n d).wp (fun rs=>rsEqv rs [rB (M.less n d (M.bstB mo ga de).num (M.bstB mo ga de).gd)]):=by
 unfold tr130
 simp only[Enc.list_F]
 exact⟨Enc.is_F _ _ _,Enc.is_F _ _ _,Enc.is_F _ _ _,hq.1,h1,hq.2.1,h2,hq.2.2,rsEqv_refl _⟩
def dom130:DomF
 |[.agg [.sl _ n1 st1 F1,.sl _ n2 st2 F2,.sl _ n3 st3 F3],.ptr 2 G]=>(match Nat.beq st1 1&&Nat.beq st2 1&&Nat.beq st3 3,G 0,G 1 with
  |true,.int .i64 n,.int .i64 d=>some ([eI.Is n1 F1,eI.Is n2 F2,eDm.Is n3 F3,BestQ (eI.list n1 F1) (eI.list n2 F2) (eDm.list n3 F3),i64ok n,0<d∧d<9223372036854775808],[rB (M.less n d (M.bstB (eI.list n1 F1) (eI.list n2 F2) (eDm.list n3 F3)).num (M.bstB (eI.list n1 F1) (eI.list n2 F2) (eDm.list n3 F3)).gd)])
  |_,_,_=>none)
 |_=>none
def v130:Nat×Sm:=(130,fokSm dom130)
theorem C130:FOK Try.prog G0 gw 130 dom130:=by
 intro ags p r hd hp κ w xs hw hl hG hx
 unfold dom130 at hd
 split at hd
 ·rename_i q1 n1 st1 F1 q2 n2 st2 F2 q3 n3 st3 F3 G
  split at hd
  ·rename_i n d hst hG0 hG1
   simp only[Bool.and_eq_true]at hst
   obtain⟨⟨g1,g2⟩,g3⟩:=hst
   have g1:=Nat.eq_of_beq_eq_true g1
   have g2:=Nat.eq_of_beq_eq_true g2
   have g3:=Nat.eq_of_beq_eq_true g3
   subst g1 g2 g3
   simp only[Option.some.injEq,Prod.mk.injEq]at hd
   obtain⟨rfl,rfl⟩:=hd
   obtain⟨hI1,hI2,hI3,hp⟩:=hp
   have heq:agsEqv [.agg [.sl q1 n1 1 F1,.sl q2 n2 1 F2,.sl q3 n3 3 F3],.ptr 2 G] [.agg [.sl q1 (eI.list n1 F1).length 1 (eI.F (eI.list n1 F1)),.sl q2 (eI.list n2 F2).length 1 (eI.F (eI.list n2 F2)),.sl q3 (eDm.list n3 F3).length 3 (eDm.F (eDm.list n3 F3))],.ptr 2 (qF n d)]:=by
    refine⟨⟨eI.to id hI1,eI.to id hI2,eDm.to id hI3,trivial⟩,⟨rfl,fun j hj=>?_⟩,trivial⟩
    match j,hj with
    |0,_=>rw[hG0];exact D.eqv_refl _
    |1,_=>rw[hG1];exact D.eqv_refl _
    |j+2,hj=>exact absurd hj (by omega)
   have len1:(eI.list n1 F1).length=n1:=eI.list_len
   have len2:(eI.list n2 F2).length=n2:=eI.list_len
   have len3:(eDm.list n3 F3).length=n3:=eDm.list_len
   generalize eI.list n1 F1=mo at *
   generalize eI.list n2 F2=ga at *
   generalize eDm.list n3 F3=de at *
   subst len1 len2 len3
   exact fokX_fin mixed gw_stable (sl:=[v84,v131]) ⟨S84,S131,trivial⟩ Try.func130 hw hl hG hx heq rfl (t130 _ _ _ _ _ _ _ _) (w130 _ _ _ _ _ _ _ _ hp.1 hp.2.1 hp.2.2.1)
  ·cases hd
 ·cases hd
theorem S130:SumOK Try.prog G0 gw 130 (fokSm dom130):=fok_sum Try.func130 rfl C130
end Go.Pl
end
section
set_option maxRecDepth 100000
namespace Go.Pl
open Go.V Go.Proofs
theorem great_ok{mo ga:List Int}{de:List Dem}(hR:RightP mo ga de):0<(M.greatG mo ga de).2.1∧i64ok (M.greatG mo ga de).1∧i64ok (M.greatG mo ga de).2.1:=by
 rcases great_eq hR with⟨_,h⟩|⟨N,D,h,h1,h2,h3,_⟩
 ·rw[h];exact⟨by decide,by unfold i64ok;decide,by unfold i64ok;decide⟩
 ·rw[h];exact⟨h1,by unfold i64ok;simp only;omega,by unfold i64ok;simp only;omega⟩
def tr50(q_mo:Bool)(mo:List Int)(q_ga:Bool)(ga:List Int)(q_de:Bool)(de:List Dem):T (List Ar):=
  T.need (iI mo) (T.need (iI ga) (T.need (iD de) (T.need (GrOk (cI mo) (cI ga) (cD de)) (T.loop2 (Int×PUnit×PUnit) (Int×List Int×PUnit) (Sum.inl ((0:Int),PUnit.unit,PUnit.unit)) (fun(x:Int×PUnit×PUnit)=>T.br (decide (x.1<(de.length:Int))) (T.need (iI mo) (T.need (iI ga) (T.need (iD de) (T.need ((0:Int)≤x.1) (T.need (x.1<((cD de).length:Int)) (T.need (List.length (cI mo)≤1000000) (T.need (List.length (cI ga)≤1000000) (T.need (List.length (cD de)≤1000000) (T.need (∀(d:Dem),d∈cD de→List.length (Dem.co d)≤1000000) (T.need (iI (cI mo)) (T.need (iI (cI ga)) (T.need (Enc.Is eDm (List.length (M.erase (cD de) x.1)) (Enc.F eDm (M.erase (cD de) x.1))) (T.need (GrOk (cI (cI mo)) (cI (cI ga)) (Enc.list eDm (List.length (M.erase (cD de) x.1)) (Enc.F eDm (M.erase (cD de) x.1)))) (T.need ((0:Int)<Prod.fst (Prod.snd (M.greatG (cI (cI mo)) (cI (cI ga)) (Enc.list eDm (List.length (M.erase (cD de) x.1)) (Enc.F eDm (M.erase (cD de) x.1)))))) (T.need ((0:Int)<Prod.fst (Prod.snd (M.greatG (cI mo) (cI ga) (cD de)))) (T.need (i64ok (Prod.fst (M.greatG (cI (cI mo)) (cI (cI ga)) (Enc.list eDm (List.length (M.erase (cD de) x.1)) (Enc.F eDm (M.erase (cD de) x.1)))))) (T.need (i64ok (Prod.fst (Prod.snd (M.greatG (cI (cI mo)) (cI (cI ga)) (Enc.list eDm (List.length (M.erase (cD de) x.1)) (Enc.F eDm (M.erase (cD de) x.1))))))) (T.need (i64ok (Prod.fst (M.greatG (cI mo) (cI ga) (cD de)))) (T.need (i64ok (Prod.fst (Prod.snd (M.greatG (cI mo) (cI ga) (cD de))))) (T.br (decide (M.cmpX (Prod.fst (M.greatG (cI (cI mo)) (cI (cI ga)) (Enc.list eDm (List.length (M.erase (cD de) x.1)) (Enc.F eDm (M.erase (cD de) x.1))))) (Prod.fst (Prod.snd (M.greatG (cI (cI mo)) (cI (cI ga)) (Enc.list eDm (List.length (M.erase (cD de) x.1)) (Enc.F eDm (M.erase (cD de) x.1)))))) (Prod.fst (M.greatG (cI mo) (cI ga) (cD de))) (Prod.fst (Prod.snd (M.greatG (cI mo) (cI ga) (cD de))))>(0:Int))) (T.need ((1:Nat)≤1000000) (T.need (Enc.Is eI (1:Nat) (joinF (0:Nat) (fun(_ _:Nat)=>D.nilp) fun(i j:Nat)=>List.getD [D.int IntKind.i64 x.1] (i*1+j) D.nilp)) (T.need ((1:Nat)≤1) (T.ret (Sum.inl (Sum.inr (IntKind.i64.wrap (x.1+1),Enc.list eI (1:Nat) (joinF (0:Nat) (fun(_ _:Nat)=>D.nilp) fun(i j:Nat)=>List.getD [D.int IntKind.i64 x.1] (i*1+j) D.nilp),PUnit.unit))))))) (T.ret (Sum.inl (Sum.inl (IntKind.i64.wrap (x.1+1),PUnit.unit,PUnit.unit)))))))))))))))))))))))) (T.ret (Sum.inr [Ar.c (D.sl false (0:Nat) (0:Nat) fun(_ _:Nat)=>D.nilp)]))) fun(y:Int×List Int×PUnit)=>T.br (decide (y.1<(de.length:Int))) (T.need (iI mo) (T.need (iI ga) (T.need (iD de) (T.need ((0:Int)≤y.1) (T.need (y.1<((cD de).length:Int)) (T.need (List.length (cI mo)≤1000000) (T.need (List.length (cI ga)≤1000000) (T.need (List.length (cD de)≤1000000) (T.need (∀(d:Dem),d∈cD de→List.length (Dem.co d)≤1000000) (T.need (iI (cI mo)) (T.need (iI (cI ga)) (T.need (Enc.Is eDm (List.length (M.erase (cD de) y.1)) (Enc.F eDm (M.erase (cD de) y.1))) (T.need (GrOk (cI (cI mo)) (cI (cI ga)) (Enc.list eDm (List.length (M.erase (cD de) y.1)) (Enc.F eDm (M.erase (cD de) y.1)))) (T.need ((0:Int)<Prod.fst (Prod.snd (M.greatG (cI (cI mo)) (cI (cI ga)) (Enc.list eDm (List.length (M.erase (cD de) y.1)) (Enc.F eDm (M.erase (cD de) y.1)))))) (T.need ((0:Int)<Prod.fst (Prod.snd (M.greatG (cI mo) (cI ga) (cD de)))) (T.need (i64ok (Prod.fst (M.greatG (cI (cI mo)) (cI (cI ga)) (Enc.list eDm (List.length (M.erase (cD de) y.1)) (Enc.F eDm (M.erase (cD de) y.1)))))) (T.need (i64ok (Prod.fst (Prod.snd (M.greatG (cI (cI mo)) (cI (cI ga)) (Enc.list eDm (List.length (M.erase (cD de) y.1)) (Enc.F eDm (M.erase (cD de) y.1))))))) (T.need (i64ok (Prod.fst (M.greatG (cI mo) (cI ga) (cD de)))) (T.need (i64ok (Prod.fst (Prod.snd (M.greatG (cI mo) (cI ga) (cD de))))) (T.br (decide (M.cmpX (Prod.fst (M.greatG (cI (cI mo)) (cI (cI ga)) (Enc.list eDm (List.length (M.erase (cD de) y.1)) (Enc.F eDm (M.erase (cD de) y.1))))) (Prod.fst (Prod.snd (M.greatG (cI (cI mo)) (cI (cI ga)) (Enc.list eDm (List.length (M.erase (cD de) y.1)) (Enc.F eDm (M.erase (cD de) y.1)))))) (Prod.fst (M.greatG (cI mo) (cI ga) (cD de))) (Prod.fst (Prod.snd (M.greatG (cI mo) (cI ga) (cD de))))>(0:Int))) (T.need (List.length (y.2.1)+1≤1000000) (T.need (List.length (y.2.1)≤List.length (y.2.1)) (T.need (Enc.Is eI (List.length (y.2.1)+1) (joinF (List.length (y.2.1)) (Enc.F eI (y.2.1)) fun(i j:Nat)=>List.getD [D.int IntKind.i64 y.1] (i*1+j) D.nilp)) (T.need (List.length (y.2.1)+1≤List.length (y.2.1)+1) (T.ret (Sum.inl (Sum.inr (IntKind.i64.wrap (y.1+1),Enc.list eI (List.length (y.2.1)+1) (joinF (List.length (y.2.1)) (Enc.F eI (y.2.1)) fun(i j:Nat)=>List.getD [D.int IntKind.i64 y.1] (i*1+j) D.nilp),PUnit.unit)))))))) (T.need (Enc.Is eI (List.length (y.2.1)) (Enc.F eI (y.2.1))) (T.need (List.length (y.2.1)≤List.length (y.2.1)) (T.ret (Sum.inl (Sum.inr (IntKind.i64.wrap (y.1+1),Enc.list eI (List.length (y.2.1)) (Enc.F eI (y.2.1)),PUnit.unit)))))))))))))))))))))))))) (T.need (List.length (y.2.1)≤List.length (y.2.1)) (T.ret (Sum.inr [Ar.c (D.sl true (List.length (y.2.1)) (1:Nat) (Enc.F eI (y.2.1)))])))))))
theorem t50(q_mo:Bool)(mo:List Int)(q_ga:Bool)(ga:List Int)(q_de:Bool)(de:List Dem):runFnX Try.prog G0 (lookS [v20,v47,v79]) (fun _=>[(4,[.slot 7 (.int .i64),.slot 3 .nsl],some [.slot 7 (.int .i64),.slot 3 (.rowE 3 eI)])]) [] 1 60 3 50 Try.f50 [.agg [.sl q_mo mo.length 1 (eI.F mo),.sl q_ga ga.length 1 (eI.F ga),.sl q_de de.length 3 (eDm.F de)]] =
  tr50 q_mo mo q_ga ga q_de de:=by kernel_rfl
theorem w50(q_mo:Bool)(mo:List Int)(q_ga:Bool)(ga:List Int)(q_de:Bool)(de:List Dem)(hR:RightP mo ga de)(l3:mo.length≤3) :
  (tr50 q_mo mo q_ga ga q_de de).wp (fun rs=>rsEqv rs [.c (.sl false (M.holdingX mo ga de).length 1 (eI.F (M.holdingX mo ga de)))]):=by
 unfold tr50 M.holdingX
 simp only[cI,cD,iI,iD,Enc.list_F]
 have h1:mo.length≤1000000:=by omega
 have h2:ga.length≤1000000:=by have:=hR.lg;omega
 have h3:de.length≤1000000:=by have:=hR.ld;omega
 have hco:∀d,d∈de→d.co.length≤1000000:=fun d hd=>by have:=(hR.rd d hd).1;omega
 have ok:=great_ok hR
 have okE:=fun k:Nat=>great_ok (right_erase hR k)
 have grE:=fun k:Nat=>gr_ok (right_erase hR k) l3
 refine⟨Enc.is_F _ _ _,Enc.is_F _ _ _,Enc.is_F _ _ _,gr_ok hR l3,?_⟩
 refine⟨fun z=>match z with
  |.inl x=>∃k:Nat,k≤de.length∧x=((k:Int),PUnit.unit,PUnit.unit)∧M.bindK (M.holdX mo ga de) k=[]
  |.inr y=>∃k:Nat,k≤de.length∧y.1=k∧y.2.1=M.bindK (M.holdX mo ga de) k,
  fun z=>match z with|.inl x=>de.length-x.1.toNat|.inr y=>de.length-y.1.toNat,⟨0,Nat.zero_le _,rfl,rfl⟩,?_,?_⟩
 ·rintro x ⟨k,hk,rfl,h0⟩
  have hw:IntKind.i64.wrap ((k:Int)+1)=((k+1:Nat):Int):=wrap_succ (by omega)
  refine⟨fun hb=>?_,fun hb=>?_⟩
  ·have hlt:=lt_of_dec hb
   have mu:de.length-(IntKind.i64.wrap ((k:Int)+1)).toNat<de.length-(k:Int).toNat:=by rw[hw];omega
   refine⟨Enc.is_F _ _ _,Enc.is_F _ _ _,Enc.is_F _ _ _,by dsimp only;omega,by dsimp only;omega,h1,h2,h3,hco,Enc.is_F _ _ _,Enc.is_F _ _ _,Enc.is_F _ _ _,grE k,(okE k).1,ok.1,(okE k).2.1,(okE k).2.2,ok.2.1,ok.2.2,fun hx=>?_,fun hx=>?_⟩
   ·have hx:M.holdX mo ga de k=true:=hx
    obtain⟨o1,o2⟩:=push_one eI (F:=fun _ _=>.nilp) (G:=inQ (k:Int)) inQ_push.1 inQ_push.2
    have o3:[(k:Int)]=M.bindK (M.holdX mo ga de) (k+1):=by rw[bindK_succ,if_pos hx,h0];rfl
    exact⟨by decide,o1,Nat.le_refl _,⟨k+1,hlt,hw,o2.trans o3⟩,mu⟩
   ·have hx:¬M.holdX mo ga de k=true:=by
     have hx:M.holdX mo ga de k=false:=hx
     rw[hx];decide
    exact⟨⟨k+1,hlt,by rw[hw],by rw[bindK_succ,if_neg hx,h0];rfl⟩,mu⟩
  ·have hge:=ge_of_dec hb
   obtain rfl:k=de.length:=by omega
   rw[h0]
   exact⟨nil_eqv eI,trivial⟩
 ·rintro ⟨y,acc,u⟩ ⟨k,g2,g3,g4⟩
  simp only at g3 g4
  subst g3
  have hacc:acc.length≤k:=by rw[g4];exact bindK_len _ _
  have hw:IntKind.i64.wrap ((k:Int)+1)=((k+1:Nat):Int):=wrap_succ (by omega)
  have mu:k<de.length→de.length-(IntKind.i64.wrap ((k:Int)+1)).toNat<de.length-(k:Int).toNat:=by intro _;rw[hw];omega
  refine⟨fun hb=>?_,fun hb=>?_⟩
  ·have hlt:=lt_of_dec hb
   refine⟨Enc.is_F _ _ _,Enc.is_F _ _ _,Enc.is_F _ _ _,by dsimp only;omega,by dsimp only;omega,h1,h2,h3,hco,Enc.is_F _ _ _,Enc.is_F _ _ _,Enc.is_F _ _ _,grE k,(okE k).1,ok.1,(okE k).2.1,(okE k).2.2,ok.2.1,ok.2.2,fun hx=>?_,fun hx=>?_⟩
   ·have hx:M.holdX mo ga de k=true:=hx
    obtain⟨o1,o2⟩:=eI.push (l:=acc) (a:=(k:Int)) (G:=inQ (k:Int)) inQ_push.1 inQ_push.2
    have o3:acc++ [(k:Int)]=M.bindK (M.holdX mo ga de) (k+1):=by rw[bindK_succ,if_pos hx,g4]
    exact⟨by dsimp only;omega,Nat.le_refl _,o1,Nat.le_refl _,⟨k+1,hlt,hw,o2.trans o3⟩,mu hlt⟩
   ·have hx:¬M.holdX mo ga de k=true:=by
     have hx:M.holdX mo ga de k=false:=hx
     rw[hx];decide
    have o3:acc=M.bindK (M.holdX mo ga de) (k+1):=by rw[bindK_succ,if_neg hx,g4,List.append_nil]
    exact⟨Enc.is_F _ _ _,Nat.le_refl _,⟨k+1,hlt,hw,o3⟩,mu hlt⟩
  ·have hge:=ge_of_dec hb
   obtain rfl:k=de.length:=by omega
   rw[←g4]
   exact⟨Nat.le_refl _,⟨(fun e=>by cases e),rfl,fun _=>rfl,fun i j hi hj=>D.eqv_refl _⟩,trivial⟩
def dom50:DomF
 |[.agg [.sl _ n_mo st_mo F_mo,.sl _ n_ga st_ga F_ga,.sl _ n_de st_de F_de]]=>(match Nat.beq st_mo 1&&Nat.beq st_ga 1&&Nat.beq st_de 3 with
  |true=>some ([eI.Is n_mo F_mo,eI.Is n_ga F_ga,eDm.Is n_de F_de,RightP (eI.list n_mo F_mo) (eI.list n_ga F_ga) (eDm.list n_de F_de),(eI.list n_mo F_mo).length≤3],[.c (.sl false (M.holdingX (eI.list n_mo F_mo) (eI.list n_ga F_ga) (eDm.list n_de F_de)).length 1 (eI.F (M.holdingX (eI.list n_mo F_mo) (eI.list n_ga F_ga) (eDm.list n_de F_de))))])
  |_=>none)
 |_=>none
def v50:Nat×Sm:=(50,fokSm dom50)
theorem C50:FOK Try.prog G0 gw 50 dom50:=by
 intro ags p r hd hp κ w xs hw hl hG hx
 unfold dom50 at hd
 split at hd
 ·rename_i q_mo n_mo st_mo F_mo q_ga n_ga st_ga F_ga q_de n_de st_de F_de
  split at hd
  ·rename_i hst
   simp only[Bool.and_eq_true]at hst
   obtain⟨⟨g1,g2⟩,g3⟩:=hst
   have g1:=Nat.eq_of_beq_eq_true g1
   have g2:=Nat.eq_of_beq_eq_true g2
   have g3:=Nat.eq_of_beq_eq_true g3
   subst g1 g2 g3
   simp only[Option.some.injEq,Prod.mk.injEq]at hd
   obtain⟨rfl,rfl⟩:=hd
   obtain⟨hI_mo,hI_ga,hI_de,hp⟩:=hp
   have heq:agsEqv [.agg [.sl q_mo n_mo 1 F_mo,.sl q_ga n_ga 1 F_ga,.sl q_de n_de 3 F_de]] [.agg [.sl q_mo (eI.list n_mo F_mo).length 1 (eI.F (eI.list n_mo F_mo)),.sl q_ga (eI.list n_ga F_ga).length 1 (eI.F (eI.list n_ga F_ga)),.sl q_de (eDm.list n_de F_de).length 3 (eDm.F (eDm.list n_de F_de))]]:=⟨⟨eI.to id hI_mo,eI.to id hI_ga,eDm.to id hI_de,trivial⟩,trivial⟩
   have len_mo:(eI.list n_mo F_mo).length=n_mo:=eI.list_len
   have len_ga:(eI.list n_ga F_ga).length=n_ga:=eI.list_len
   have len_de:(eDm.list n_de F_de).length=n_de:=eDm.list_len
   generalize eI.list n_mo F_mo=mo at *
   generalize eI.list n_ga F_ga=ga at *
   generalize eDm.list n_de F_de=de at *
   subst len_mo len_ga len_de
   exact fokX_fin mixed gw_stable (sl:=[v20,v47,v79]) ⟨S20,S47,S79,trivial⟩ Try.func50 hw hl hG hx heq rfl (t50 _ _ _ _ _ _) (w50 _ _ _ _ _ _ hp.1 hp.2.1)
  ·cases hd
 ·cases hd
theorem S50:SumOK Try.prog G0 gw 50 (fokSm dom50):=fok_sum Try.func50 rfl C50
def tr52(q_u:Bool)(u:List Int)(x:Int):T (List Ar):=
  T.loop (Int×PUnit) ((0:Int),PUnit.unit) fun(x_1:Int×PUnit)=>T.br (decide (x_1.1<(u.length:Int))) (T.need ((0:Int)≤x_1.1) (T.need (x_1.1<(u.length:Int)) (T.br (u.getD x_1.1.toNat (0:Int)==x) (T.ret (Sum.inr [Ar.c (D.bool true)])) (T.ret (Sum.inl (IntKind.i64.wrap (x_1.1+1),PUnit.unit)))))) (T.ret (Sum.inr [Ar.c (D.bool false)]))
theorem t52(q_u:Bool)(u:List Int)(x:Int):runFnX Try.prog G0 (lookS []) (fun _=>[(2,[.slot 5 (.int .i64)],none)]) [] 1 60 3 52 Try.f52 [.c (.sl q_u u.length 1 (eI.F u)),.c (dI x)] =
  tr52 q_u u x:=by kernel_rfl
theorem w52(q_u:Bool)(u:List Int)(x:Int)(h:u.length≤1000000):(tr52 q_u u x).wp (fun rs=>rsEqv rs [rB (M.has u x)]):=by
 unfold tr52
 refine range_wp (n:=u.length) (fun k _=>∀i,i<k→u.getD i 0≠x) (fun i hi=>absurd hi (Nat.not_lt_zero i)) ?_
 rintro k y hk hI
 refine wp_br (fun hb=>?_) (fun hb=>?_)
 ·have hlt:=lt_of_dec hb
  refine⟨by show(0:Int)≤k;omega,by show(k:Int)<u.length;omega,wp_br (fun hx=>?_) (fun hx=>?_)⟩
  ·have hx:(u.getD k 0==x)=true:=hx
   have hm:M.has u x=true:=by
    unfold M.has
    rw[←eq_of_beq hx]
    exact decide_eq_true (getD_mem hlt)
   show rsEqv _ _
   rw[hm];exact rsEqv_refl _
  ·have hx:(u.getD k 0==x)=false:=hx
   refine⟨hlt,wrap_succ (by omega),fun i hi=>?_⟩
   rcases Nat.lt_succ_iff_lt_or_eq.1 hi with h1|rfl
   ·exact hI i h1
   ·intro e;rw[e]at hx;simp at hx
 ·have hge:=ge_of_dec hb
  obtain rfl:k=u.length:=by omega
  have hm:M.has u x=false:=by
   unfold M.has
   refine decide_eq_false fun hm=>?_
   obtain⟨i,hi,rfl⟩:=List.getElem_of_mem hm
   refine hI i hi ?_
   rw[List.getD_eq_getElem?_getD,List.getElem?_eq_getElem hi];rfl
  show rsEqv _ _
  rw[hm];exact rsEqv_refl _
def dom52:DomF
 |[.c (.sl _ n_u st_u F_u),.c (.int .i64 x)]=>(match Nat.beq st_u 1 with
  |true=>some ([eI.Is n_u F_u,(eI.list n_u F_u).length≤1000000],[rB (M.has (eI.list n_u F_u) x)])
  |_=>none)
 |_=>none
def v52:Nat×Sm:=(52,fokSm dom52)
theorem C52:FOK Try.prog G0 gw 52 dom52:=by
 intro ags p r hd hp κ w xs hw hl hG hx
 unfold dom52 at hd
 split at hd
 ·rename_i q_u n_u st_u F_u x
  split at hd
  ·rename_i hst
   have g1:=hst
   have g1:=Nat.eq_of_beq_eq_true g1
   subst g1
   simp only[Option.some.injEq,Prod.mk.injEq]at hd
   obtain⟨rfl,rfl⟩:=hd
   obtain⟨hI_u,hp⟩:=hp
   have heq:agsEqv [.c (.sl q_u n_u 1 F_u),.c (.int .i64 x)] [.c (.sl q_u (eI.list n_u F_u).length 1 (eI.F (eI.list n_u F_u))),.c (.int .i64 x)]:=⟨eI.to id hI_u,Ag.eqv_refl _,trivial⟩
   have len_u:(eI.list n_u F_u).length=n_u:=eI.list_len
   generalize eI.list n_u F_u=u at *
   subst len_u
   exact fokX_fin mixed gw_stable (sl:=[]) trivial Try.func52 hw hl hG hx heq rfl (t52 _ _ _) (w52 _ _ _ hp.1)
  ·cases hd
 ·cases hd
theorem S52:SumOK Try.prog G0 gw 52 (fokSm dom52):=fok_sum Try.func52 rfl C52
end Go.Pl
end
section
set_option maxRecDepth 100000
namespace Go.Pl
open Go.V Go.Proofs
def tr48(q_mo:Bool)(mo:List Int)(q_ga:Bool)(ga:List Int)(q_de:Bool)(de:List Dem):T (List Ar):=
  T.need (Enc.Is eI mo.length (Enc.F eI mo)) (T.need (Enc.Is eI ga.length (Enc.F eI ga)) (T.need (Enc.Is eDm de.length (Enc.F eDm de)) (T.need (mo.length≤1000000) (T.need (ga.length≤1000000) (T.need (de.length≤1000000) (T.need (∀(d:Dem),d∈cD de→ByteArray.size (Dem.nm d)≤1000000∧List.length (Dem.co d)≤1000000) (T.br (Prod.snd (M.checkProg (cI mo) (cI ga) (cD de)) != (0:Int)) (T.ret [Ar.c (D.sl false (0:Nat) (0:Nat) fun(_ _:Nat)=>D.nilp),Ar.c (D.int IntKind.i64 (Prod.snd (M.checkProg (cI mo) (cI ga) (cD de))))]) (T.need (Enc.Is eI mo.length (Enc.F eI (cI mo))) (T.need (Enc.Is eI ga.length (Enc.F eI (cI ga))) (T.need (Enc.Is eDm de.length (Enc.F eDm (cD de))) (T.need (OkP mo.length (xcI mo) (xcI ga) (xcD de)) (T.br (!!M.Bs.ad (xB mo ga de)==0) (T.ret [Ar.c (D.sl false (0:Nat) (0:Nat) fun(_ _:Nat)=>D.nilp),Ar.c (D.int IntKind.i64 (12:Int))]) (T.loop2 (Int×PUnit×PUnit) (Int×List Int×PUnit) (Sum.inl ((0:Int),PUnit.unit,PUnit.unit)) (fun(x:Int×PUnit×PUnit)=>T.br (decide (x.1<(de.length:Int))) (T.need (Enc.Is eI mo.length (Enc.F eI (cI mo))) (T.need (Enc.Is eI ga.length (Enc.F eI (cI ga))) (T.need (Enc.Is eDm de.length (Enc.F eDm (cD de))) (T.need ((0:Int)≤x.1) (T.need (List.length (xcI mo)≤1000000) (T.need (List.length (xcI ga)≤1000000) (T.need (List.length (xcD de)≤1000000) (T.need (∀(d:Dem),d∈xcD de→List.length (Dem.co d)≤1000000) (T.need (Enc.Is eI (List.length (xcI mo)) (Enc.F eI (xcI mo))) (T.need (Enc.Is eI (List.length (xcI ga)) (Enc.F eI (xcI ga))) (T.need (Enc.Is eDm (List.length (M.erase (xcD de) x.1)) (Enc.F eDm (M.erase (xcD de) x.1))) (T.need (BestQ (Enc.list eI (List.length (xcI mo)) (Enc.F eI (xcI mo))) (Enc.list eI (List.length (xcI ga)) (Enc.F eI (xcI ga))) (Enc.list eDm (List.length (M.erase (xcD de) x.1)) (Enc.F eDm (M.erase (xcD de) x.1)))) (T.need (i64ok (M.Bs.num (xB mo ga de))) (T.need ((0:Int)<M.Bs.gd (xB mo ga de)∧M.Bs.gd (xB mo ga de)<9223372036854775808) (T.br (M.less (M.Bs.num (xB mo ga de)) (M.Bs.gd (xB mo ga de)) (M.Bs.num (M.bstB (Enc.list eI (List.length (xcI mo)) (Enc.F eI (xcI mo))) (Enc.list eI (List.length (xcI ga)) (Enc.F eI (xcI ga))) (Enc.list eDm (List.length (M.erase (xcD de) x.1)) (Enc.F eDm (M.erase (xcD de) x.1))))) (M.Bs.gd (M.bstB (Enc.list eI (List.length (xcI mo)) (Enc.F eI (xcI mo))) (Enc.list eI (List.length (xcI ga)) (Enc.F eI (xcI ga))) (Enc.list eDm (List.length (M.erase (xcD de) x.1)) (Enc.F eDm (M.erase (xcD de) x.1)))))) (T.need ((1:Nat)≤1000000) (T.need (Enc.Is eI (1:Nat) (joinF (0:Nat) (fun(_ _:Nat)=>D.nilp) fun(i j:Nat)=>List.getD [D.int IntKind.i64 x.1] (i*1+j) D.nilp)) (T.need ((1:Nat)≤1) (T.ret (Sum.inl (Sum.inr (IntKind.i64.wrap (x.1+1),Enc.list eI (1:Nat) (joinF (0:Nat) (fun(_ _:Nat)=>D.nilp) fun(i j:Nat)=>List.getD [D.int IntKind.i64 x.1] (i*1+j) D.nilp),PUnit.unit))))))) (T.ret (Sum.inl (Sum.inl (IntKind.i64.wrap (x.1+1),PUnit.unit,PUnit.unit))))))))))))))))))) (T.ret (Sum.inr [Ar.c (D.sl false (0:Nat) (0:Nat) fun(_ _:Nat)=>D.nilp),Ar.c (D.int IntKind.i64 (0:Int))]))) fun(y:Int×List Int×PUnit)=>T.br (decide (y.1<(de.length:Int))) (T.need (Enc.Is eI mo.length (Enc.F eI (cI mo))) (T.need (Enc.Is eI ga.length (Enc.F eI (cI ga))) (T.need (Enc.Is eDm de.length (Enc.F eDm (cD de))) (T.need ((0:Int)≤y.1) (T.need (List.length (xcI mo)≤1000000) (T.need (List.length (xcI ga)≤1000000) (T.need (List.length (xcD de)≤1000000) (T.need (∀(d:Dem),d∈xcD de→List.length (Dem.co d)≤1000000) (T.need (Enc.Is eI (List.length (xcI mo)) (Enc.F eI (xcI mo))) (T.need (Enc.Is eI (List.length (xcI ga)) (Enc.F eI (xcI ga))) (T.need (Enc.Is eDm (List.length (M.erase (xcD de) y.1)) (Enc.F eDm (M.erase (xcD de) y.1))) (T.need (BestQ (Enc.list eI (List.length (xcI mo)) (Enc.F eI (xcI mo))) (Enc.list eI (List.length (xcI ga)) (Enc.F eI (xcI ga))) (Enc.list eDm (List.length (M.erase (xcD de) y.1)) (Enc.F eDm (M.erase (xcD de) y.1)))) (T.need (i64ok (M.Bs.num (xB mo ga de))) (T.need ((0:Int)<M.Bs.gd (xB mo ga de)∧M.Bs.gd (xB mo ga de)<9223372036854775808) (T.br (M.less (M.Bs.num (xB mo ga de)) (M.Bs.gd (xB mo ga de)) (M.Bs.num (M.bstB (Enc.list eI (List.length (xcI mo)) (Enc.F eI (xcI mo))) (Enc.list eI (List.length (xcI ga)) (Enc.F eI (xcI ga))) (Enc.list eDm (List.length (M.erase (xcD de) y.1)) (Enc.F eDm (M.erase (xcD de) y.1))))) (M.Bs.gd (M.bstB (Enc.list eI (List.length (xcI mo)) (Enc.F eI (xcI mo))) (Enc.list eI (List.length (xcI ga)) (Enc.F eI (xcI ga))) (Enc.list eDm (List.length (M.erase (xcD de) y.1)) (Enc.F eDm (M.erase (xcD de) y.1)))))) (T.need (List.length (y.2.1)+1≤1000000) (T.need (List.length (y.2.1)≤List.length (y.2.1)) (T.need (Enc.Is eI (List.length (y.2.1)+1) (joinF (List.length (y.2.1)) (Enc.F eI (y.2.1)) fun(i j:Nat)=>List.getD [D.int IntKind.i64 y.1] (i*1+j) D.nilp)) (T.need (List.length (y.2.1)+1≤List.length (y.2.1)+1) (T.ret (Sum.inl (Sum.inr (IntKind.i64.wrap (y.1+1),Enc.list eI (List.length (y.2.1)+1) (joinF (List.length (y.2.1)) (Enc.F eI (y.2.1)) fun(i j:Nat)=>List.getD [D.int IntKind.i64 y.1] (i*1+j) D.nilp),PUnit.unit)))))))) (T.need (Enc.Is eI (List.length (y.2.1)) (Enc.F eI (y.2.1))) (T.need (List.length (y.2.1)≤List.length (y.2.1)) (T.ret (Sum.inl (Sum.inr (IntKind.i64.wrap (y.1+1),Enc.list eI (List.length (y.2.1)) (Enc.F eI (y.2.1)),PUnit.unit))))))))))))))))))))) (T.need (List.length (y.2.1)≤List.length (y.2.1)) (T.ret (Sum.inr [Ar.c (D.sl true (List.length (y.2.1)) (1:Nat) (Enc.F eI (y.2.1))),Ar.c (D.int IntKind.i64 (0:Int))]))))))))))))))))
theorem t48(q_mo:Bool)(mo:List Int)(q_ga:Bool)(ga:List Int)(q_de:Bool)(de:List Dem):runFnX Try.prog G0 (lookS [v83,v84,v126,v130]) (fun f=>if f=129 then[(3,[.slot 11 (.int .i64),.slot 5 .nsl],some [.slot 11 (.int .i64),.slot 5 (.rowE 3 eI)])]else[]) [129] 1 60 3 48 Try.f48 [.agg [.sl q_mo mo.length 1 (eI.F mo),.sl q_ga ga.length 1 (eI.F ga),.sl q_de de.length 3 (eDm.F de)]] =
  tr48 q_mo mo q_ga ga q_de de:=by kernel_rfl
theorem w48(q_mo:Bool)(mo:List Int)(q_ga:Bool)(ga:List Int)(q_de:Bool)(de:List Dem)(h1:mo.length≤1000000)(h2:ga.length≤1000000)(h3:de.length≤1000000)(hn:∀d,d∈de→d.nm.size≤1000000∧d.co.length≤1000000)(hs:(M.checkProg mo ga de).2=0→mo.length≤3) :
  (tr48 q_mo mo q_ga ga q_de de).wp (fun rs=>rsEqv rs [.c (.sl false (M.holding mo ga de).1.length 1 (eI.F (M.holding mo ga de).1)),rI (M.holding mo ga de).2]):=by
 unfold tr48
 simp only[xB,xcI,xcD,cI,cD,Enc.list_F]
 refine⟨Enc.is_F _ _ _,Enc.is_F _ _ _,Enc.is_F _ _ _,h1,h2,h3,hn,fun he=>?_,fun he=>?_⟩
 ·unfold M.holding
  rw[he]
  exact⟨nil_eqv eI,rfl,trivial⟩
 ·have h0:(M.checkProg mo ga de).2=0:=by simpa using he
  have hR:=prog_right h0
  have l3:=hs h0
  have hok:=okP hR l3
  have e0:M.holding mo ga de=cond ((M.bstB mo ga de).ad==0) ([],12) (M.bindK (M.holdP mo ga de) de.length,0):=by unfold M.holding;rw[h0];rfl
  refine⟨Enc.is_F _ _ _,Enc.is_F _ _ _,Enc.is_F _ _ _,hok,fun hb=>?_,fun hb=>?_⟩
  ·have hb':((M.bstB mo ga de).ad==0)=true:=by unfold M.bstB;simpa using hb
   rw[e0,hb']
   exact⟨nil_eqv eI,rfl,trivial⟩
  ·have hb':((M.bstB mo ga de).ad==0)=false:=by unfold M.bstB;simpa using hb
   rw[e0,hb',cond_false]
   have hp:HasPoint mo.length (M.planes mo de []):=by
    rcases best_gr hR with⟨_,h⟩|⟨h,_⟩
    ·rw[h]at hb';exact absurd hb' (by decide)
    ·exact pt_has h
   have hq:=best_q hR l3 (hold_eq hR hp 0).1
   have hqE:∀k,k<de.length→BestQ mo ga (de.eraseIdx k):=fun k _=>best_q (right_erase hR k) l3 (hold_eq hR hp k).2.1
   have hco:∀d,d∈de→d.co.length≤1000000:=fun d hd=>(hn d hd).2
   refine⟨fun z=>match z with
    |.inl x=>∃k:Nat,k≤de.length∧x=((k:Int),PUnit.unit,PUnit.unit)∧M.bindK (M.holdP mo ga de) k=[]
    |.inr y=>∃k:Nat,k≤de.length∧y.1=k∧y.2.1=M.bindK (M.holdP mo ga de) k,
    fun z=>match z with|.inl x=>de.length-x.1.toNat|.inr y=>de.length-y.1.toNat,⟨0,Nat.zero_le _,rfl,rfl⟩,?_,?_⟩
   ·rintro x ⟨k,hk,rfl,h0⟩
    have hw:IntKind.i64.wrap ((k:Int)+1)=((k+1:Nat):Int):=wrap_succ (by omega)
    refine⟨fun hb=>?_,fun hb=>?_⟩
    ·have hlt:=lt_of_dec hb
     have mu:de.length-(IntKind.i64.wrap ((k:Int)+1)).toNat<de.length-(k:Int).toNat:=by rw[hw];omega
     refine⟨Enc.is_F _ _ _,Enc.is_F _ _ _,Enc.is_F _ _ _,by dsimp only;omega,h1,h2,h3,hco,Enc.is_F _ _ _,Enc.is_F _ _ _,Enc.is_F _ _ _,hqE k hlt,hq.2.1,hq.2.2,fun hx=>?_,fun hx=>?_⟩
     ·have hx:M.holdP mo ga de k=true:=hx
      obtain⟨o1,o2⟩:=push_one eI (F:=fun _ _=>.nilp) (G:=inQ (k:Int)) inQ_push.1 inQ_push.2
      have o3:[(k:Int)]=M.bindK (M.holdP mo ga de) (k+1):=by rw[bindK_succ,if_pos hx,h0];rfl
      exact⟨by decide,o1,Nat.le_refl _,⟨k+1,hlt,hw,o2.trans o3⟩,mu⟩
     ·have hx:¬M.holdP mo ga de k=true:=by
       have hx:M.holdP mo ga de k=false:=hx
       rw[hx];decide
      exact⟨⟨k+1,hlt,by rw[hw],by rw[bindK_succ,if_neg hx,h0];rfl⟩,mu⟩
    ·have hge:=ge_of_dec hb
     obtain rfl:k=de.length:=by omega
     rw[h0]
     exact⟨nil_eqv eI,rfl,trivial⟩
   ·rintro ⟨y,acc,u⟩ ⟨k,g2,g3,g4⟩
    simp only at g3 g4
    subst g3
    have hacc:acc.length≤k:=by rw[g4];exact bindK_len _ _
    have hw:IntKind.i64.wrap ((k:Int)+1)=((k+1:Nat):Int):=wrap_succ (by omega)
    have mu:k<de.length→de.length-(IntKind.i64.wrap ((k:Int)+1)).toNat<de.length-(k:Int).toNat:=by intro _;rw[hw];omega
    refine⟨fun hb=>?_,fun hb=>?_⟩
    ·have hlt:=lt_of_dec hb
     refine⟨Enc.is_F _ _ _,Enc.is_F _ _ _,Enc.is_F _ _ _,by dsimp only;omega,h1,h2,h3,hco,Enc.is_F _ _ _,Enc.is_F _ _ _,Enc.is_F _ _ _,hqE k hlt,hq.2.1,hq.2.2,fun hx=>?_,fun hx=>?_⟩
     ·have hx:M.holdP mo ga de k=true:=hx
      obtain⟨o1,o2⟩:=eI.push (l:=acc) (a:=(k:Int)) (G:=inQ (k:Int)) inQ_push.1 inQ_push.2
      have o3:acc++ [(k:Int)]=M.bindK (M.holdP mo ga de) (k+1):=by rw[bindK_succ,if_pos hx,g4]
      exact⟨by dsimp only;omega,Nat.le_refl _,o1,Nat.le_refl _,⟨k+1,hlt,hw,o2.trans o3⟩,mu hlt⟩
     ·have hx:¬M.holdP mo ga de k=true:=by
       have hx:M.holdP mo ga de k=false:=hx
       rw[hx];decide
      have o3:acc=M.bindK (M.holdP mo ga de) (k+1):=by rw[bindK_succ,if_neg hx,g4,List.append_nil]
      exact⟨Enc.is_F _ _ _,Nat.le_refl _,⟨k+1,hlt,hw,o3⟩,mu hlt⟩
    ·have hge:=ge_of_dec hb
     obtain rfl:k=de.length:=by omega
     rw[←g4]
     exact⟨Nat.le_refl _,⟨(fun e=>by cases e),rfl,fun _=>rfl,fun i j hi hj=>D.eqv_refl _⟩,rfl,trivial⟩
def dom48:DomF
 |[.agg [.sl _ n_mo st_mo F_mo,.sl _ n_ga st_ga F_ga,.sl _ n_de st_de F_de]]=>(match Nat.beq st_mo 1&&Nat.beq st_ga 1&&Nat.beq st_de 3 with
  |true=>some ([eI.Is n_mo F_mo,eI.Is n_ga F_ga,eDm.Is n_de F_de,(eI.list n_mo F_mo).length≤1000000,(eI.list n_ga F_ga).length≤1000000,(eDm.list n_de F_de).length≤1000000,∀d,d∈(eDm.list n_de F_de)→d.nm.size≤1000000∧d.co.length≤1000000,(M.checkProg (eI.list n_mo F_mo) (eI.list n_ga F_ga) (eDm.list n_de F_de)).2=0→(eI.list n_mo F_mo).length≤3],[.c (.sl false (M.holding (eI.list n_mo F_mo) (eI.list n_ga F_ga) (eDm.list n_de F_de)).1.length 1 (eI.F (M.holding (eI.list n_mo F_mo) (eI.list n_ga F_ga) (eDm.list n_de F_de)).1)),rI (M.holding (eI.list n_mo F_mo) (eI.list n_ga F_ga) (eDm.list n_de F_de)).2])
  |_=>none)
 |_=>none
def v48:Nat×Sm:=(48,fokSm dom48)
theorem C48:FOK Try.prog G0 gw 48 dom48:=by
 intro ags p r hd hp κ w xs hw hl hG hx
 unfold dom48 at hd
 split at hd
 ·rename_i q_mo n_mo st_mo F_mo q_ga n_ga st_ga F_ga q_de n_de st_de F_de
  split at hd
  ·rename_i hst
   simp only[Bool.and_eq_true]at hst
   obtain⟨⟨g1,g2⟩,g3⟩:=hst
   have g1:=Nat.eq_of_beq_eq_true g1
   have g2:=Nat.eq_of_beq_eq_true g2
   have g3:=Nat.eq_of_beq_eq_true g3
   subst g1 g2 g3
   simp only[Option.some.injEq,Prod.mk.injEq]at hd
   obtain⟨rfl,rfl⟩:=hd
   obtain⟨hI_mo,hI_ga,hI_de,hp⟩:=hp
   have heq:agsEqv [.agg [.sl q_mo n_mo 1 F_mo,.sl q_ga n_ga 1 F_ga,.sl q_de n_de 3 F_de]] [.agg [.sl q_mo (eI.list n_mo F_mo).length 1 (eI.F (eI.list n_mo F_mo)),.sl q_ga (eI.list n_ga F_ga).length 1 (eI.F (eI.list n_ga F_ga)),.sl q_de (eDm.list n_de F_de).length 3 (eDm.F (eDm.list n_de F_de))]]:=⟨⟨eI.to id hI_mo,eI.to id hI_ga,eDm.to id hI_de,trivial⟩,trivial⟩
   have len_mo:(eI.list n_mo F_mo).length=n_mo:=eI.list_len
   have len_ga:(eI.list n_ga F_ga).length=n_ga:=eI.list_len
   have len_de:(eDm.list n_de F_de).length=n_de:=eDm.list_len
   generalize eI.list n_mo F_mo=mo at *
   generalize eI.list n_ga F_ga=ga at *
   generalize eDm.list n_de F_de=de at *
   subst len_mo len_ga len_de
   exact fokX_fin mixed gw_stable (sl:=[v83,v84,v126,v130]) ⟨S83,S84,S126,S130,trivial⟩ Try.func48 hw hl hG hx heq rfl (t48 _ _ _ _ _ _) (w48 _ _ _ _ _ _ hp.1 hp.2.1 hp.2.2.1 hp.2.2.2.1 hp.2.2.2.2.1)
  ·cases hd
 ·cases hd
theorem S48:SumOK Try.prog G0 gw 48 (fokSm dom48):=fok_sum Try.func48 rfl C48
end Go.Pl
end
section
set_option maxRecDepth 100000
namespace Go.Pl
open Go.V Go.Proofs
abbrev ho7(mo ga:List Int)(de:List Dem):List Int×Int:=M.holding (ycI mo) (ycI ga) (ycD de)
abbrev hl7(mo ga:List Int)(de:List Dem):List Int:=Enc.list eI (List.length (Prod.fst (ho7 mo ga de))) (Enc.F eI (Prod.fst (ho7 mo ga de)))
abbrev bi7(mo ga:List Int)(de:List Dem):List Int:=M.binds (cD de) (M.PB.dn (Prod.fst (bo3 mo ga de))) (pt3 mo ga de)
def tr7(q_mo:Bool)(mo:List Int)(q_ga:Bool)(ga:List Int)(q_de:Bool)(de:List Dem):T (List Ar):=
  T.br (!true) (T.ret [Ar.c (D.bool false)]) (T.need (Enc.Is eI mo.length (Enc.F eI mo)) (T.need (Enc.Is eI ga.length (Enc.F eI ga)) (T.need (Enc.Is eDm de.length (Enc.F eDm de)) (T.br (!M.smallP (cI mo) (cI ga) (cD de)) (T.ret [Ar.c (D.bool true)]) (T.need (Enc.Is eI mo.length (Enc.F eI mo)) (T.need (Enc.Is eI ga.length (Enc.F eI ga)) (T.need (Enc.Is eDm de.length (Enc.F eDm de)) (T.need (List.length (cI mo)≤1000000) (T.need (List.length (cI ga)≤1000000) (T.need (List.length (cD de)≤1000000) (T.need (∀(d:Dem),d∈(cD de)→List.length (Dem.co d)≤1000000) (T.need (Enc.Is eI (List.length (cI mo)) (Enc.F eI (cI mo))) (T.need (Enc.Is eI (List.length (cI ga)) (Enc.F eI (cI ga))) (T.need (Enc.Is eDm (List.length (cD de)) (Enc.F eDm (cD de))) (T.need (List.length (ycI mo)≤1000000) (T.need (List.length (ycI ga)≤1000000) (T.need (List.length (ycD de)≤1000000) (T.need (∀(d:Dem),d∈(ycD de)→ByteArray.size (Dem.nm d)≤1000000∧List.length (Dem.co d)≤1000000) (T.need (Prod.snd (M.checkProg (ycI mo) (ycI ga) (ycD de))=0→List.length (ycI mo)≤3) (T.need (Enc.Is eI mo.length (Enc.F eI mo)) (T.need (Enc.Is eI ga.length (Enc.F eI ga)) (T.need (Enc.Is eDm de.length (Enc.F eDm de)) (T.need (List.length (cI mo)≤1000000) (T.need (List.length (cD de)≤1000000) (T.need (∀(d:Dem),d∈(cD de)→ByteArray.size (Dem.nm d)≤1000000∧List.length (Dem.co d)≤1000000) (T.br (Prod.snd (M.checkProg (cI mo) (cI ga) (cD de)) != (0:Int)) (T.br (Prod.snd (ho7 mo ga de)==Prod.snd (M.checkProg (cI mo) (cI ga) (cD de))) (T.ret [Ar.c (D.bool (((Prod.fst (ho7 mo ga de)).length:Int)==0))]) (T.ret [Ar.c (D.bool false)])) (T.need (Enc.Is eI mo.length (Enc.F eI mo)) (T.need (Enc.Is eI ga.length (Enc.F eI ga)) (T.need (Enc.Is eDm de.length (Enc.F eDm de)) (T.need (GrOk (cI mo) (cI ga) (cD de)) (T.br (!Prod.snd (Prod.snd (M.greatG (cI mo) (cI ga) (cD de)))) (T.br (Prod.snd (ho7 mo ga de)==12) (T.ret [Ar.c (D.bool (((Prod.fst (ho7 mo ga de)).length:Int)==0))]) (T.ret [Ar.c (D.bool false)])) (T.br (Prod.snd (ho7 mo ga de) != (0:Int)) (T.ret [Ar.c (D.bool false)]) (T.need (Enc.Is eI mo.length (Enc.F eI mo)) (T.need (Enc.Is eI ga.length (Enc.F eI ga)) (T.need (Enc.Is eDm de.length (Enc.F eDm de)) (T.need (RightP (cI mo) (cI ga) (cD de)) (T.need (List.length (cI mo)≤3) (T.need (Enc.Is eI (List.length (Prod.fst (ho7 mo ga de))) (Enc.F eI (Prod.fst (ho7 mo ga de)))) (T.need (Enc.Is eI (List.length (M.holdingX (cI mo) (cI ga) (cD de))) (Enc.F eI (M.holdingX (cI mo) (cI ga) (cD de)))) (T.need (List.length (hl7 mo ga de)≤1000000) (T.br (!decide (hl7 mo ga de=Enc.list eI (List.length (M.holdingX (cI mo) (cI ga) (cD de))) (Enc.F eI (M.holdingX (cI mo) (cI ga) (cD de))))) (T.ret [Ar.c (D.bool false)]) (T.need (Enc.Is eI mo.length (Enc.F eI mo)) (T.need (Enc.Is eI ga.length (Enc.F eI ga)) (T.need (Enc.Is eDm de.length (Enc.F eDm de)) (T.need (List.length (cI mo)≤1000000) (T.need (List.length (cI ga)≤1000000) (T.need (List.length (cD de)≤1000000) (T.need (∀(d:Dem),d∈(cD de)→List.length (Dem.co d)≤1000000) (T.need (Enc.Is eI (List.length (cI mo)) (Enc.F eI (cI mo))) (T.need (Enc.Is eI (List.length (cI ga)) (Enc.F eI (cI ga))) (T.need (Enc.Is eDm (List.length (cD de)) (Enc.F eDm (cD de))) (T.need (List.length (ycI mo)≤1000000) (T.need (List.length (ycI ga)≤1000000) (T.need (List.length (ycD de)≤1000000) (T.need (∀(d:Dem),d∈(ycD de)→ByteArray.size (Dem.nm d)≤1000000∧List.length (Dem.co d)≤1000000) (T.need (Prod.snd (M.checkProg (ycI mo) (ycI ga) (ycD de))=0→List.length (ycI mo)≤3) (T.br (Prod.snd (bo3 mo ga de) != (0:Int)) (T.ret [Ar.c (D.bool (Prod.snd (bo3 mo ga de)==8))]) (T.need (Enc.Is eI mo.length (Enc.F eI mo)) (T.need (Enc.Is eI ga.length (Enc.F eI ga)) (T.need (Enc.Is eDm de.length (Enc.F eDm de)) (T.need (Enc.Is eI (List.length (M.PB.pt (Prod.fst (bo3 mo ga de)))) (Enc.F eI (M.PB.pt (Prod.fst (bo3 mo ga de))))) (T.need (List.length (pt3 mo ga de)≤1000000) (T.br (M.ptErr (cI mo) (M.PB.dn (Prod.fst (bo3 mo ga de))) (pt3 mo ga de) != (0:Int)) (T.ret [Ar.c (D.bool false)]) (T.need (Enc.Is eI mo.length (Enc.F eI mo)) (T.need (Enc.Is eI ga.length (Enc.F eI ga)) (T.need (Enc.Is eDm de.length (Enc.F eDm de)) (T.need (Enc.Is eI (List.length (M.PB.pt (Prod.fst (bo3 mo ga de)))) (Enc.F eI (M.PB.pt (Prod.fst (bo3 mo ga de))))) (T.need (List.length (cD de)≤1000000) (T.need (∀(d:Dem),d∈(cD de)→List.length (Dem.co d)≤1000000∧List.length (Dem.co d)≤List.length (pt3 mo ga de)) (T.loop (Int×PUnit) ((0:Int),PUnit.unit) fun(x:Int×PUnit)=>T.br (decide (x.1<((Prod.fst (ho7 mo ga de)).length:Int))) (T.need ((0:Int)≤x.1) (T.need (x.1<((Prod.fst (ho7 mo ga de)).length:Int)) (T.need (Enc.Is eI (List.length (bi7 mo ga de)) (Enc.F eI (bi7 mo ga de))) (T.need (List.length (Enc.list eI (List.length (bi7 mo ga de)) (Enc.F eI (bi7 mo ga de)))≤1000000) (T.br (!M.has (Enc.list eI (List.length (bi7 mo ga de)) (Enc.F eI (bi7 mo ga de))) (List.getD (Prod.fst (ho7 mo ga de)) x.1.toNat (0:Int))) (T.ret (Sum.inr [Ar.c (D.bool false)])) (T.ret (Sum.inl (IntKind.i64.wrap (x.1+1),PUnit.unit)))))))) (T.ret (Sum.inr [Ar.c (D.bool true)]))))))))))))))))))))))))))))))))))))))))))))))))))))))))))))))))))))))))
theorem t7(q_mo:Bool)(mo:List Int)(q_ga:Bool)(ga:List Int)(q_de:Bool)(de:List Dem):runFnX Try.prog G0 (lookS [v15,v16,v18,v48,v19,v20,v49,v50,v17g,v23,v51,v52]) (fun _=>[(21,[.slot 12 (.int .i64)],none)]) [] 1 60 3 7 Try.f7 [.agg [.sl q_mo mo.length 1 (eI.F mo),.sl q_ga ga.length 1 (eI.F ga),.sl q_de de.length 3 (eDm.F de)]] =
  tr7 q_mo mo q_ga ga q_de de:=by kernel_rfl
theorem w7(q_mo:Bool)(mo:List Int)(q_ga:Bool)(ga:List Int)(q_de:Bool)(de:List Dem):(tr7 q_mo mo q_ga ga q_de de).wp (fun rs=>rsEqv rs [rB true]):=by
 unfold tr7
 simp only[bi7,hl7,ho7,bo3,pt3,ycI,ycD,cI,cD,Enc.list_F]
 refine⟨fun h=>absurd h (by decide),fun _=>⟨Enc.is_F _ _ _,Enc.is_F _ _ _,Enc.is_F _ _ _,fun _=>rsEqv_refl _,fun hs=>?_⟩⟩
 have hs:M.smallP mo ga de=true:=by simpa using hs
 obtain⟨s1,hfew⟩:=small_lens hs
 obtain⟨f1,f2,f3,f4⟩:=few_yes hfew
 have hnm:∀d,d∈de→d.nm.size≤1000000∧d.co.length≤1000000:=fun d hd=>by
  obtain⟨i,hi,rfl⟩:=List.getElem_of_mem hd
  have:=f4 i hi
  rw[List.getD_eq_getElem?_getD,List.getElem?_eq_getElem hi]at this
  have h1:(de[i]).nm.size≤20:=this.1
  have h2:=this.2
  simp only[Option.getD_some]at h2
  exact⟨by omega,by omega⟩
 have hco:∀d,d∈de→d.co.length≤1000000:=fun d hd=>(hnm d hd).2
 have hs3:(M.checkProg mo ga de).2=0→mo.length≤3:=fun _=>s1
 refine⟨Enc.is_F _ _ _,Enc.is_F _ _ _,Enc.is_F _ _ _,by omega,by omega,by omega,hco,Enc.is_F _ _ _,Enc.is_F _ _ _,Enc.is_F _ _ _,by omega,by omega,by omega,hnm,hs3,Enc.is_F _ _ _,Enc.is_F _ _ _,Enc.is_F _ _ _,by omega,by omega,hnm,?_⟩
 by_cases hc:(M.checkProg mo ga de).2=0
 ·have hR:=prog_right hc
  refine⟨fun h=>absurd (bne_iff_ne.1 h) (fun h=>h hc),fun _=>⟨Enc.is_F _ _ _,Enc.is_F _ _ _,Enc.is_F _ _ _,gr_ok hR s1,?_⟩⟩
  rcases law7 (ga:=ga) hc with⟨hg,hh⟩|⟨N,D',hg,hh,hX,b,e,hb,hcase⟩
  ·simp only[hg,hh]
   exact⟨fun _=>⟨fun _=>rsEqv_refl _,fun h=>absurd h (by decide)⟩,fun h=>absurd h (by decide)⟩
  ·simp only[hg,hh,hX,hb]
   have hl:(M.bindK (M.holdP mo ga de) de.length).length≤de.length:=bindK_len _ _
   refine⟨fun h=>absurd h (by decide),fun _=>⟨fun h=>absurd h (by decide),fun _=>⟨Enc.is_F _ _ _,Enc.is_F _ _ _,Enc.is_F _ _ _,hR,s1,Enc.is_F _ _ _,Enc.is_F _ _ _,by omega,fun h=>absurd h (by simp),fun _=>?_⟩⟩⟩
   refine⟨Enc.is_F _ _ _,Enc.is_F _ _ _,Enc.is_F _ _ _,by omega,by omega,by omega,hco,Enc.is_F _ _ _,Enc.is_F _ _ _,Enc.is_F _ _ _,by omega,by omega,by omega,hnm,hs3,?_⟩
   rcases hcase with rfl|⟨rfl,b4,c1,hm⟩
   ·exact⟨fun _=>rsEqv_refl _,fun h=>absurd h (by decide)⟩
   ·refine⟨fun h=>absurd h (by decide),fun _=>⟨Enc.is_F _ _ _,Enc.is_F _ _ _,Enc.is_F _ _ _,Enc.is_F _ _ _,by omega,fun h=>absurd c1 (bne_iff_ne.1 h),fun _=>?_⟩⟩
    refine⟨Enc.is_F _ _ _,Enc.is_F _ _ _,Enc.is_F _ _ _,Enc.is_F _ _ _,by omega,fun d hd=>⟨hco d hd,by rw[b4];have:=(hR.rd d hd).1;omega⟩,?_⟩
    have hbl:(M.binds de b.dn b.pt).length≤de.length:=bindK_len _ _
    refine range_wp (n:=(M.bindK (M.holdP mo ga de) de.length).length) (fun _ _=>True) trivial ?_
    rintro k y hk _
    refine wp_br (fun hb=>?_) (fun hb=>?_)
    ·have hlt:=lt_of_dec hb
     refine⟨by show(0:Int)≤k;omega,by show(k:Int)<(M.bindK (M.holdP mo ga de) de.length).length;omega,Enc.is_F _ _ _,by omega,wp_br (fun hx=>?_) (fun _=>⟨hlt,wrap_succ (by omega),trivial⟩)⟩
     have:M.has (M.binds de b.dn b.pt) ((M.bindK (M.holdP mo ga de) de.length).getD k 0)=true:=decide_eq_true (hm _ (getD_mem hlt))
     have hx:(!M.has (M.binds de b.dn b.pt) ((M.bindK (M.holdP mo ga de) de.length).getD k 0))=true:=hx
     rw[this]at hx;cases hx
    ·exact rsEqv_refl _
 ·have hh:M.holding mo ga de=([],(M.checkProg mo ga de).2):=by
   unfold M.holding
   rw[bne_iff_ne.2 hc];rfl
  simp only[hh]
  exact⟨fun _=>⟨fun _=>rsEqv_refl _,fun h=>absurd h (by simp)⟩,fun h=>absurd ((bne_iff_ne.2 hc).symm.trans h) (by decide)⟩
def dom7:DomF
 |[.agg [.sl _ n_mo st_mo F_mo,.sl _ n_ga st_ga F_ga,.sl _ n_de st_de F_de]]=>(match Nat.beq st_mo 1&&Nat.beq st_ga 1&&Nat.beq st_de 3 with
  |true=>some ([eI.Is n_mo F_mo,eI.Is n_ga F_ga,eDm.Is n_de F_de],[rB true])
  |_=>none)
 |_=>none
theorem C7:FOK Try.prog G0 gw 7 dom7:=by
 intro ags p r hd hp κ w xs hw hl hG hx
 unfold dom7 at hd
 split at hd
 ·rename_i q_mo n_mo st_mo F_mo q_ga n_ga st_ga F_ga q_de n_de st_de F_de
  split at hd
  ·rename_i hst
   simp only[Bool.and_eq_true]at hst
   obtain⟨⟨g1,g2⟩,g3⟩:=hst
   have g1:=Nat.eq_of_beq_eq_true g1
   have g2:=Nat.eq_of_beq_eq_true g2
   have g3:=Nat.eq_of_beq_eq_true g3
   subst g1 g2 g3
   simp only[Option.some.injEq,Prod.mk.injEq]at hd
   obtain⟨rfl,rfl⟩:=hd
   obtain⟨hI_mo,hI_ga,hI_de,hp⟩:=hp
   have heq:agsEqv [.agg [.sl q_mo n_mo 1 F_mo,.sl q_ga n_ga 1 F_ga,.sl q_de n_de 3 F_de]] [.agg [.sl q_mo (eI.list n_mo F_mo).length 1 (eI.F (eI.list n_mo F_mo)),.sl q_ga (eI.list n_ga F_ga).length 1 (eI.F (eI.list n_ga F_ga)),.sl q_de (eDm.list n_de F_de).length 3 (eDm.F (eDm.list n_de F_de))]]:=⟨⟨eI.to id hI_mo,eI.to id hI_ga,eDm.to id hI_de,trivial⟩,trivial⟩
   have len_mo:(eI.list n_mo F_mo).length=n_mo:=eI.list_len
   have len_ga:(eI.list n_ga F_ga).length=n_ga:=eI.list_len
   have len_de:(eDm.list n_de F_de).length=n_de:=eDm.list_len
   generalize eI.list n_mo F_mo=mo at *
   generalize eI.list n_ga F_ga=ga at *
   generalize eDm.list n_de F_de=de at *
   subst len_mo len_ga len_de
   exact fokX_fin mixed gw_stable (sl:=[v15,v16,v18,v48,v19,v20,v49,v50,v17g,v23,v51,v52]) ⟨S15,S16,S18,S48,S19,S20,S49,S50,S17g,S23,S51,S52,trivial⟩ Try.func7 hw hl hG hx heq rfl (t7 _ _ _ _ _ _) (w7 _ _ _ _ _ _)
  ·cases hd
 ·cases hd
end Go.Pl
end
section
namespace Go.Rw
open Go Go.ChangeShapes Go.WideShapes Go.RowKit Go.ChangeAt
open Go.V (F2 D fullK fullK_cell f2_append f2_len f2_get)
section
variable {H : Type} {enc : TypeId × Value → H} {P : Program} {w : World} {base : Nat} {sp : Nat → Bool} {hd : Bool}
theorem trodAll_below(hl:laidOutB P=true){W W':World}(hb:Below W.heap.size W W'):∀{ts:List TypeId} {vs:List Value} {ds:List (DataW H)} {ps:List MemPlace},
  (∀t∈ts,P.readableRec t=true∧t<P.types.size)→DataW.TrodAll enc P W 0 (fun _=>true) true ts vs ds ps→(∀x∈ps,x.block<W.heap.size) →
  DataW.TrodAll enc P W' 0 (fun b=>decide (b<W.heap.size)) true ts vs ds ps
 |[],_,_,_,_,h,_=>by
  obtain⟨rfl,rfl,rfl⟩:=trodAll_nil h
  exact trodAll_mk0
 |t::ts,_,_,_,hr,h,hlt=>by
  obtain⟨v,vs1,d,ds1,a,b,rfl,rfl,rfl,h1,h2⟩:=trodAll_cons h
  refine⟨a,b,?_,trodAll_below hl hb (fun u hu=>hr u (List.mem_cons_of_mem _ hu)) h2 fun x hx=>hlt x (List.mem_append_right _ hx),rfl⟩
  have ht:=hr t (List.mem_cons_self ..)
  exact Below.trod hl ht.1 ht.2 h1 hb fun x hx=>hlt x (List.mem_append_left _ hx)
theorem law_post{fn:Func}{s:ChangeSpec}{apart fresh handsOn:Bool}{W W':World}{args:Array Value}{ds gs:List (DataW H)}{before:List MemPlace}{tb:TypeId}(hl:laidOutB P=true)
  (hr:∀t∈fn.params.toList,P.readableRec t=true∧t<P.types.size) (hv:s.vars=[]) (hrt:fn.resultTypes= #[tb]) (hbool:P.underlying tb=some .bool)
  (hfn:s.fn H ds={results:=[.lit (.bool true)],args:=ds})
  (hW:DataW.Whole enc P fn.params.toList s.vars apart W args.toList ds gs before) (hb:Below W.heap.size W W'):s.post enc P fn apart fresh handsOn false W args (.bool true) W':=by
 have hW':=hW
 obtain⟨p,q,hA,hV,rfl,_,_⟩:=hW'
 have hlt:∀x∈p++q,x.block<W.heap.size:=fun x hx=>hW.lt x hx
 rw[hv]at hV
 have hgs:gs=[]∧q=[]:=by
  cases gs with
  |nil=>exact⟨rfl,hV⟩
  |cons g r=>exact absurd hV (by intro h;cases h)
 obtain⟨rfl,rfl⟩:=hgs
 have e:s.fn H (ds++ [])={results:=[.lit (.bool true)],args:=ds}:=by rw[List.append_nil];exact hfn
 refine⟨ds,[],_,[],p,[],hW,?_,?_,?_,hb.frame _,fun h=>by cases h⟩
 ·rw[e,hrt]
  exact trodAll_mk1 (shut_bool hbool true)
 ·rw[e]
  exact trodAll_below hl hb hr hA fun x hx=>hlt x (List.mem_append_left _ hx)
 ·rw[e,hv]
  rfl
end
end Go.Rw
end
section
namespace Go.Rw
open Go Go.ChangeShapes Go.WideShapes Go.RowKit Go.ChangeAt
open Go.V (F2 D fullK fullK_cell f2_append f2_len f2_get)
inductive SK where
 |i
 |s
 |sl (sh:List SK)
inductive DG:SK→D→Prop where
 |i (n:Int):DG .i (.int .i64 n)
 |s (t:ByteArray):DG .s (.str t)
 |sl (sh:List SK) (len:Nat) (F:Nat→Nat→D) (h:∀i j k,i<len→sh[j]? = some k→DG k (F i j)):DG (.sl sh) (.sl false len sh.length F)
def MG(w:World)(k:SK)(v:Value):Prop:=∃d,DG k d∧D.rel (fullK w) d v
def sgFs(P:Program)(g:TypeId→Option (List SK)):List Field→Nat→Nat→Option (List SK)
 |[],o,c=>(match Nat.beq o c with|true=>some []|false=>none)
 |f::fs,o,c=>(match Nat.beq f.offset o,g f.type,sgFs P g fs (o+P.cellsOf f.type) c with
  |true,some a,some b=>some (a++b)
  |_,_,_=>none)
def sgArr(l:List SK):Nat→List SK
 |0=>[]
 |n+1=>l++sgArr l n
def sg(P:Program):Nat→TypeId→Option (List SK)
 |0,_=>none
 |k+1,t=>match P.underlying t with
  |some (.int .i64)=>some [.i]
  |some .string=>some [.s]
  |some (.struct fs)=>sgFs P (sg P k) fs.toList 0 (P.cellsOf t)
  |some (.array n e)=>(match sg P k e,Nat.beq (P.cellsOf t) (n*P.cellsOf e)with|some l,true=>some (sgArr l n)|_,_=>none)
  |some (.slice e)=>(match sg P k e with|some sh=>(match Nat.beq (P.cellsOf e) sh.length&&Nat.blt 0 sh.length with|true=>some [.sl sh]|false=>none)|none=>none)
  |_=>none
section
variable {H : Type} {enc : TypeId × Value → H} {P : Program} {w : World} {base : Nat} {sp : Nat → Bool} {hd : Bool}
theorem sgFs_spec{R:SK→Value→Prop}{g:TypeId→Option (List SK)}:∀(fs:List Field) (o c:Nat) (cs:List Value) {l:List SK},sgFs P g fs o c=some l→cs.length=c →
  (∀f∈fs,∀l',g f.type=some l'→F2 R l' ((cs.drop f.offset).take (P.cellsOf f.type)))→F2 R l (cs.drop o)
 |[],o,c,cs,l,h,hl,_=>by
  unfold sgFs at h
  split at h
  ·rename_i hb
   have:o=c:=Nat.eq_of_beq_eq_true hb
   simp only[Option.some.injEq]at h
   subst h
   rw[this,←hl,List.drop_length]
   exact .nil
  ·cases h
 |f::fs,o,c,cs,l,h,hl,hf=>by
  simp only[sgFs]at h
  split at h
  ·rename_i a b hb ha hrest
   have ho:f.offset=o:=Nat.eq_of_beq_eq_true hb
   simp only[Option.some.injEq]at h
   subst h
   have h1:=hf f (List.mem_cons_self ..) a ha
   have h2:=sgFs_spec fs _ c cs hrest hl fun g hg=>hf g (List.mem_cons_of_mem _ hg)
   rw[ho]at h1
   have e:cs.drop o=(cs.drop o).take (P.cellsOf f.type)++(cs.drop o).drop (P.cellsOf f.type):=(List.take_append_drop _ _).symm
   rw[e,List.drop_drop]
   exact f2_append h1 h2
  ·cases h
theorem sgArr_spec{R:SK→Value→Prop}{l:List SK}{c:Nat}:∀(n:Nat) (cs:List Value),cs.length=n*c→(∀i,i<n→F2 R l ((cs.drop (i*c)).take c))→F2 R (sgArr l n) cs
 |0,cs,h,_=>by
  have:cs=[]:=List.length_eq_zero_iff.1 (by simpa using h)
  subst this
  exact .nil
 |n+1,cs,h,hf=>by
  have h0:=hf 0 (by omega)
  rw[Nat.zero_mul,List.drop_zero]at h0
  have hr:=sgArr_spec (c:=c) n (cs.drop c) (by rw[List.length_drop,h,Nat.succ_mul];omega) fun i hi=>by
   have:=hf (i+1) (by omega)
   rw[List.drop_drop,show c+i*c=(i+1)*c by rw[Nat.succ_mul];omega]
   exact this
  rw[←List.take_append_drop c cs]
  exact f2_append h0 hr
theorem trod_sg:∀(k fuel:Nat) (t:TypeId) (cs:List Value) (x:DataW H×List MemPlace) {l:List SK},sg P k t=some l→DataW.trod enc P w base sp hd fuel t cs=some x→F2 (MG w) l cs
 |0,_,_,_,_,_,h,_=>by cases h
 |k+1,fuel,t,cs,x,l,h,hx=>by
  unfold sg at h
  split at h
  ·rename_i ht
   simp only[Option.some.injEq]at h
   subst h
   obtain⟨n,rfl,rfl,_⟩:=DataW.trod_int ht hx
   exact .cons ⟨.int .i64 n,.i n,rfl⟩ .nil
  ·rename_i ht
   simp only[Option.some.injEq]at h
   subst h
   obtain⟨s,rfl,rfl,_⟩:=DataW.trod_string ht hx
   exact .cons ⟨.str s,.s s,rfl⟩ .nil
  ·rename_i fs ht
   obtain⟨xs,n,_,rfl,hl,hlen,hf⟩:=DataW.trod_struct ht hx
   have:=sgFs_spec (P:=P) (R:=MG w) fs.toList 0 (P.cellsOf t) cs h hl (by
    intro f hm l' hl'
    obtain⟨i,hi,hi'⟩:=List.getElem_of_mem hm
    have hgi:fs[i]? = some f:=by rw[←Array.getElem?_toList,List.getElem?_eq_getElem hi,hi']
    have hlt:i<xs.length:=by rw[hlen];exact(Array.getElem?_eq_some_iff.1 hgi).1
    have hy:xs[i]? = some xs[i]:=List.getElem?_eq_getElem hlt
    have:=hf i f hgi
    rw[hy]at this
    exact trod_sg k n f.type _ _ hl' this)
   simpa using this
  ·rename_i n e ht
   split at h
   ·rename_i l' hl' hcb
    simp only[Option.some.injEq]at h
    subst h
    obtain⟨xs,m,_,ex,hlen,hl,hel⟩:=DataW.trod_array ht hx
    have hcz:P.cellsOf t=n*P.cellsOf e:=Nat.eq_of_beq_eq_true hcb
    refine sgArr_spec (c:=P.cellsOf e) n cs (by rw[←hcz];exact hlen) fun i hi=>?_
    have hlt:i<xs.length:=by omega
    have hy:xs[i]? = some xs[i]:=List.getElem?_eq_getElem hlt
    have:=hel i hi
    rw[hy]at this
    exact trod_sg k m e _ _ hl' this
   ·cases h
  ·rename_i e ht
   split at h
   ·rename_i sh hsh
    split at h
    ·rename_i hc
     simp only[Option.some.injEq]at h
     subst h
     rw[Bool.and_eq_true]at hc
     have hn:P.cellsOf e=sh.length:=Nat.eq_of_beq_eq_true hc.1
     have hn0:0<sh.length:=Nat.le_of_ble_eq_true hc.2
     rcases DataW.trod_slice ht hx with⟨h1,_⟩|⟨a,len0,cap0,elems,rest,n',_,h1,_,_,hlc,_,hel,hget,_⟩
     ·rw[h1]
      exact .cons ⟨.sl false 0 sh.length (fun _ _=>.nilp),.sl sh 0 _ (fun i j k hi=>by omega),.inl ⟨rfl,rfl,rfl⟩⟩ .nil
     ·rw[h1]
      rw[hn]at hget
      have each:∀i,i<len0→∀j,j<sh.length→∃d,(∀k',sh[j]? = some k'→DG k' d)∧∃y,w.cell? ((a.add (i*sh.length)).add j)=some y∧D.rel (fullK w) d y:=by
       intro i hi j hj
       have hg:=hget i hi
       have hlt:i<elems.length:=by omega
       rw[List.getElem?_eq_getElem hlt]at hg
       simp only[Option.bind_eq_some_iff]at hg
       obtain⟨cs,hcs,hx⟩:=hg
       have hF:=trod_sg k n' e cs _ hsh hx
       obtain⟨_,hl,hcell⟩:=World.cells?_some hcs
       obtain⟨y,hy,hm⟩:=f2_get hF (i:=j) (List.getElem?_eq_getElem hj)
       obtain⟨d,hd1,hd2⟩:=hm
       have hcj:=hcell j hj
       exact⟨d,fun k' hk'=>by rw[List.getElem?_eq_getElem hj]at hk';cases hk';exact hd1,y,by rw[hcj,hy],hd2⟩
      have spot0:0<len0→a.spot=none:=by
       intro hp
       obtain⟨_,_,y,hy,_⟩:=each 0 hp 0 hn0
       have:=World.cell?_spot hy
       simpa[Addr.add]using this
      refine .cons ⟨.sl false len0 sh.length (fun i j=>if h:i<len0∧j<sh.length then Classical.choose (each i h.1 j h.2)else .nilp),.sl sh len0 _ (fun i j k' hi hk'=>?_),.inr ⟨a,cap0,rfl,hlc,spot0,fun i j hi hj=>?_⟩⟩ .nil
      ·have hj:j<sh.length:=(List.getElem?_eq_some_iff.1 hk').1
       simp only[dif_pos (And.intro hi hj)]
       exact(Classical.choose_spec (each i hi j hj)).1 k' hk'
      ·obtain⟨_,y,hy,hr⟩:=Classical.choose_spec (each i hi j hj)
       have hp:a.spot=none:=spot0 (by omega)
       have e1:(a.add (i*sh.length)).add j=⟨a.block,a.off+i*sh.length+j,none⟩:=by
        obtain⟨b,off,spot⟩:=a
        simp only at hp
        subst hp
        rw[Go.WideShapes.add_plain,Go.WideShapes.add_plain]
       rw[e1]at hy
       refine⟨_,fullK_cell hy,?_⟩
       simp only[dif_pos (And.intro hi hj)]
       exact hr
    ·cases h
   ·cases h
  ·cases h
theorem open_st{r:Reach}{b0:Nat}{t:TypeId}{fs:Array Field}{v:Value}{d:DataW H}{p:List MemPlace}(k:Nat){l:List SK}(ht:P.underlying t=some (.struct fs))(ha:sg P k t=some l)
  (hv:Value.okWide P w r b0 t v) (h:DataW.Trod enc P w base sp hd t v d p):∃cs:List Value,F2 (MG w) l cs∧v=.agg cs.toArray:=by
 obtain⟨cs,rfl,hsz⟩:=okWide_struct ht hv
 obtain⟨fuel,hf⟩:=h
 have hF:F2 (MG w) l cs.toList:=trod_sg k fuel t _ _ ha hf
 exact⟨cs.toList,hF,by rw[Array.toArray_toList]⟩
theorem mg_sl{sh:List SK}{v:Value}(h:MG w (.sl sh) v):∃(len:Nat) (F:Nat→Nat→D),(D.sl false len sh.length F).rel (fullK w) v∧∀i j k,i<len→sh[j]? = some k→DG k (F i j):=by
 obtain⟨d,hd,hr⟩:=h
 cases hd with
 |sl _ len F hF=>exact⟨len,F,hr,hF⟩
theorem dg_i{d:D}(h:DG .i d):∃n,d=.int .i64 n:=by cases h with|i n=>exact⟨n,rfl⟩
theorem dg_s{d:D}(h:DG .s d):∃n,d=.str n:=by cases h with|s n=>exact⟨n,rfl⟩
theorem dg_sl{sh:List SK}{d:D}(h:DG (.sl sh) d):∃(len:Nat) (F:Nat→Nat→D),d=.sl false len sh.length F∧∀i j k,i<len→sh[j]? = some k→DG k (F i j):=by
 cases h with
 |sl _ len F hF=>exact⟨len,F,rfl,hF⟩
end
end Go.Rw
end
