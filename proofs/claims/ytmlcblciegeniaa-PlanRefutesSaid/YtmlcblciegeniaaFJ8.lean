/- The parts of the engines, of their contracts and of the plain laws that the claim rests on: A105, A106, A107, A108, A110, A111, A112, A126, A127, A128, R0, RG. -/
import Derived.Test.YtmlcblciegeniaaFJ7
import Derived.ChangeSame
import Derived.ChangeVars
import Derived.ProofKit
import Derived.LaidMore
import Derived.OpenShut
import Derived.Carry
import Derived.ChangeArms
set_option linter.unusedVariables false
set_option linter.unusedSimpArgs false
section
set_option maxRecDepth 100000
namespace Go.Pl
open Go.V Go.Proofs
open Go.Lp
theorem nxt_snoc{c:List Int}{a:Nat}:M.nxt (c++ [(a:Int)])=a+1:=by
 unfold M.nxt
 rw[List.length_append,List.length_singleton,decide_eq_true (by omega),show c.length+1-1=c.length by omega]
 simp
theorem mem_ord{L:Nat}:∀(k:Nat) (c:List Int) (s:List Nat),s.length=k→s.Pairwise (· < ·)→(∀a,a∈s→M.nxt c≤a∧a<L)→c++s.map (fun a:Nat=>(a:Int))∈M.ord L k c:=by
 intro k
 induction k with
 |zero=>
  intro c s hl _ _
  obtain rfl:s=[]:=List.length_eq_zero_iff.1 hl
  simp[M.ord]
 |succ k ih=>
  intro c s hl hp hb
  match s,hl with
  |a::s,hl=>
   have h1:=hb a (by simp)
   have hp':=List.pairwise_cons.1 hp
   have hi:=ih (c++ [(a:Int)]) s (by simpa using hl) hp'.2 (fun b hb'=>by
    have h2:=hp'.1 b hb'
    have h3:=hb b (List.mem_cons_of_mem _ hb')
    rw[nxt_snoc];omega)
   unfold M.ord
   refine List.mem_flatMap.2 ⟨a-M.nxt c,?_,?_⟩
   ·rw[List.mem_reverse,List.mem_range];omega
   ·rw[show M.nxt c+(a-M.nxt c)=a by omega]
    simpa using hi
theorem ord_good{L:Nat}:∀(k:Nat) (c d:List Int),d∈M.ord L k c→(∀v,v∈c→0≤v∧v<(L:Int))→d.length=c.length+k∧∀v,v∈d→0≤v∧v<(L:Int):=by
 intro k
 induction k with
 |zero=>
  intro c d h hc
  unfold M.ord at h
  rw[List.mem_singleton]at h
  subst h;exact⟨rfl,hc⟩
 |succ k ih=>
  intro c d h hc
  unfold M.ord at h
  obtain⟨i,hi,h⟩:=List.mem_flatMap.1 h
  rw[List.mem_reverse,List.mem_range]at hi
  obtain⟨h1,h2⟩:=ih _ d h (fun v hv=>by
   rcases List.mem_append.1 hv with hv|hv
   ·exact hc v hv
   ·rw[List.mem_singleton]at hv;subst hv;omega)
  refine⟨?_,h2⟩
  rw[h1,List.length_append,List.length_singleton];omega
theorem choose_rows{n L:Nat}{f:Nat→Nat→Rat}{I:List Nat}(hl:I.length=n)(hI:∀i,i∈I→i<L)(hD:D f I (List.range n)≠0) :
  ∃s:List Nat,s.Pairwise (· < ·)∧s.length=n∧(∀a,a∈s↔a∈I)∧D f s (List.range n)≠0:=by
 have hnd:I.Nodup:=Df_nodup (A:=[]) (by simpa using hD)
 have hperm:I.Perm ((List.range L).filter (fun a=>decide (a∈I))):=by
  refine perm_of hnd ?_ fun a=>?_
  ·exact List.Pairwise.filter _ List.nodup_range
  ·rw[List.mem_filter,List.mem_range]
   constructor
   ·intro ha;exact⟨hI a ha,by simpa using ha⟩
   ·intro ha;simpa using ha.2
 exact⟨_,List.Pairwise.filter _ List.pairwise_lt_range,by rw[←hperm.length_eq];exact hl,fun a=>(hperm.mem_iff).symm,Df_perm_ne hperm hD⟩
def AdmR(S:List Side)(mo:List Int)(de:List Dem)(c:List Int):Prop:=(M.rcorner c.length (M.pickS S c)).2.2=true∧M.allowE mo de (M.rcorner c.length (M.pickS S c)).1 (M.rcorner c.length (M.pickS S c)).2.1=0
abbrev dnR(S:List Side)(c:List Int):Int:=(M.rcorner c.length (M.pickS S c)).1
abbrev ptR(S:List Side)(c:List Int):List Int:=(M.rcorner c.length (M.pickS S c)).2.1
def GreatOf(S:List Side)(mo ga:List Int)(de:List Dem)(CS:List (List Int))(r:M.Gr):Prop:=
 (r=(0,1,false)∧∀c,c∈CS→¬AdmR S mo de c) ∨
 (∃c,c∈CS∧AdmR S mo de c∧0<dnR S c∧r=(M.dot ga (ptR S c),dnR S c,true)∧∀c',c'∈CS→AdmR S mo de c'→M.dot ga (ptR S c')*dnR S c≤M.dot ga (ptR S c)*dnR S c')
theorem great_fold{S:List Side}{mo ga:List Int}{de:List Dem}:∀(CS K:List (List Int)) (r:M.Gr),(∀c,c∈CS∨c∈K→AdmR S mo de c→0<dnR S c)→GreatOf S mo ga de K r→GreatOf S mo ga de (K++CS) (CS.foldl (M.betterG S mo ga de) r):=by
 intro CS
 induction CS with
 |nil=>intro K r _ h;simpa using h
 |cons c CS ih=>
  intro K r hp h
  rw[show K++c::CS=(K++ [c])++CS by simp,List.foldl_cons]
  refine ih _ _ (fun c' hc'=>?_) ?_
  ·rcases hc' with hc'|hc'
   ·exact hp c' (.inl (List.mem_cons_of_mem _ hc'))
   ·rcases List.mem_append.1 hc' with hc'|hc'
    ·exact hp c' (.inr hc')
    ·exact hp c' (.inl (by rw[List.mem_singleton.1 hc'];simp))
  ·by_cases hA:AdmR S mo de c
   ·have hpc:=hp c (.inl (by simp)) hA
    obtain⟨a1,a2⟩:=hA
    have hb:M.betterG S mo ga de r c=cond (!r.2.2) (M.dot ga (ptR S c),dnR S c,true) (cond (decide (M.cmpX (M.dot ga (ptR S c)) (dnR S c) r.1 r.2.1>0)) (M.dot ga (ptR S c),dnR S c,true) r):=by
     unfold M.betterG
     rw[a1,a2];rfl
    rw[hb]
    rcases h with⟨rfl,hno⟩|⟨t,ht,htA,htp,rfl,hbest⟩
    ·refine .inr ⟨c,by simp,⟨a1,a2⟩,hpc,rfl,fun c' hc' hA'=>?_⟩
     rcases List.mem_append.1 hc' with hc'|hc'
     ·exact absurd hA' (hno c' hc')
     ·rw[List.mem_singleton.1 hc'];exact Int.le_refl _
    ·by_cases hlt:M.dot ga (ptR S t)*dnR S c<M.dot ga (ptR S c)*dnR S t
     ·have e:M.cmpX (M.dot ga (ptR S c)) (dnR S c) (M.dot ga (ptR S t)) (dnR S t)>0:=by
       unfold M.cmpX
       split <;>first|omega|(split <;>omega)
      show GreatOf S mo ga de (K++ [c]) (cond (decide (M.cmpX (M.dot ga (ptR S c)) (dnR S c) (M.dot ga (ptR S t)) (dnR S t)>0)) _ _)
      rw[decide_eq_true e]
      refine .inr ⟨c,by simp,⟨a1,a2⟩,hpc,rfl,fun c' hc' hA'=>?_⟩
      rcases List.mem_append.1 hc' with hc'|hc'
      ·have h1:=hbest c' hc' hA'
       have hp':=hp c' (.inr hc') hA'
       have h2:M.dot ga (ptR S t)*dnR S c*dnR S c'≤M.dot ga (ptR S c)*dnR S t*dnR S c':=Int.mul_le_mul_of_nonneg_right (by omega) (by omega)
       have h3:M.dot ga (ptR S c')*dnR S t*dnR S c≤M.dot ga (ptR S t)*dnR S c'*dnR S c:=Int.mul_le_mul_of_nonneg_right h1 (by omega)
       refine Int.le_of_mul_le_mul_right (a:=dnR S t) ?_ htp
       have e1:M.dot ga (ptR S c')*dnR S c*dnR S t=M.dot ga (ptR S c')*dnR S t*dnR S c:=by rw[Int.mul_assoc,Int.mul_comm (dnR S c),Int.mul_assoc]
       have e2:M.dot ga (ptR S t)*dnR S c'*dnR S c=M.dot ga (ptR S t)*dnR S c*dnR S c':=by rw[Int.mul_assoc,Int.mul_comm (dnR S c'),Int.mul_assoc]
       have e3:M.dot ga (ptR S c)*dnR S c'*dnR S t=M.dot ga (ptR S c)*dnR S t*dnR S c':=by rw[Int.mul_assoc,Int.mul_comm (dnR S c'),Int.mul_assoc]
       omega
      ·rw[List.mem_singleton.1 hc'];exact Int.le_refl _
     ·have e:¬(M.cmpX (M.dot ga (ptR S c)) (dnR S c) (M.dot ga (ptR S t)) (dnR S t)>0):=by
       unfold M.cmpX
       split <;>first|omega|(split <;>omega)
      show GreatOf S mo ga de (K++ [c]) (cond (decide (M.cmpX (M.dot ga (ptR S c)) (dnR S c) (M.dot ga (ptR S t)) (dnR S t)>0)) _ _)
      rw[decide_eq_false e]
      refine .inr ⟨t,List.mem_append_left _ ht,htA,htp,rfl,fun c' hc' hA'=>?_⟩
      rcases List.mem_append.1 hc' with hc'|hc'
      ·exact hbest c' hc' hA'
      ·rw[List.mem_singleton.1 hc'];omega
   ·have hb:M.betterG S mo ga de r c=r:=by
     unfold M.betterG
     cases h1:(M.rcorner c.length (M.pickS S c)).2.2 with
     |false=>rfl
     |true=>
      by_cases h2:M.allowE mo de (M.rcorner c.length (M.pickS S c)).1 (M.rcorner c.length (M.pickS S c)).2.1=0
      ·exact absurd ⟨h1,h2⟩ hA
      ·rw[show(M.allowE mo de (M.rcorner c.length (M.pickS S c)).1 (M.rcorner c.length (M.pickS S c)).2.1 != 0)=true by simpa using h2];rfl
    rw[hb]
    rcases h with⟨h1,hno⟩|⟨t,ht,htA,htp,h1,hbest⟩
    ·refine .inl ⟨h1,fun c' hc'=>?_⟩
     rcases List.mem_append.1 hc' with hc'|hc'
     ·exact hno c' hc'
     ·rw[List.mem_singleton.1 hc'];exact hA
    ·refine .inr ⟨t,List.mem_append_left _ ht,htA,htp,h1,fun c' hc' hA'=>?_⟩
     rcases List.mem_append.1 hc' with hc'|hc'
     ·exact hbest c' hc' hA'
     ·rw[List.mem_singleton.1 hc']at hA';exact absurd hA' hA
end Go.Pl
end
section
set_option maxRecDepth 100000
namespace Go.Pl
open Go.V Go.Proofs
open Go.Lp
theorem altI_smul{α:Type}{k:Int}:∀{l:List α} {f:α→List α→Int},altI (fun c cs=>k*f c cs) l=k*altI f l
 |[],_=>by simp[altI]
 |c::cs,f=>by
  unfold altI
  rw[altI_smul (l:=cs) (f:=fun d ds=>f d (c::ds)),Int.mul_sub]
theorem DI_scale{α β:Type}{s:α→Int}{f:α→β→Int}:∀{rows:List α} {cols:List β},∃k:Int,DI (fun r c=>s r*f r c) rows cols=k*DI f rows cols
 |[],_=>⟨1,by simp[DI]⟩
 |r::rows,cols=>by
  obtain⟨k,hk⟩:=DI_scale_all (s:=s) (f:=f) (rows:=rows)
  refine⟨s r*k,?_⟩
  show altI (fun c cs=>s r*f r c*DI (fun r c=>s r*f r c) rows cs) cols=s r*k*altI (fun c cs=>f r c*DI f rows cs) cols
  rw[←altI_smul]
  congr 1
  funext c cs
  rw[hk cs,Int.mul_assoc,Int.mul_assoc,Int.mul_left_comm (f r c)]
where
 DI_scale_all {α β:Type} {s:α→Int} {f:α→β→Int}:∀{rows:List α},∃k:Int,∀cols:List β,DI (fun r c=>s r*f r c) rows cols=k*DI f rows cols
  |[]=>⟨1,fun cols=>by simp[DI]⟩
  |r::rows=>by
   obtain⟨k,hk⟩:=DI_scale_all (s:=s) (f:=f) (rows:=rows)
   refine⟨s r*k,fun cols=>?_⟩
   show altI (fun c cs=>s r*f r c*DI (fun r c=>s r*f r c) rows cs) cols=s r*k*altI (fun c cs=>f r c*DI f rows cs) cols
   rw[←altI_smul]
   congr 1
   funext c cs
   rw[hk cs,Int.mul_assoc,Int.mul_assoc,Int.mul_left_comm (f r c)]
theorem DI_scale_ne{α β:Type}{s:α→Int}{f:α→β→Int}{rows:List α}{cols:List β}(h:DI (fun r c=>s r*f r c) rows cols≠0):DI f rows cols≠0:=by
 obtain⟨k,hk⟩:=DI_scale (s:=s) (f:=f) (rows:=rows) (cols:=cols)
 intro e
 rw[hk,e,Int.mul_zero]at h
 exact h rfl
theorem smI_one{v:Int}{i:Nat}:∀{n:Nat},i<n→smI (fun c=>if i=c then v else 0) (List.range n)=v:=by
 intro n
 induction n with
 |zero=>intro h;omega
 |succ n ih=>
  intro h
  rw[List.range_succ,smI_append]
  by_cases e:i=n
  ·subst e
   rw[smI_congr (h:=fun _=>(0:Int)) (fun c hc=>if_neg (by have:=List.mem_range.1 hc;omega)),smI_zero]
   simp[smI]
  ·rw[ih (by omega)]
   simp[smI,e]
theorem dl_prop{n:Nat}{a v x:List Int}{d d':Int}(h:∀k,k<n→en v k*d=en x k*d'):dl n a v*d=dl n a x*d':=by
 unfold dl
 rw[smI_mulr,smI_mulr]
 exact smI_congr fun c hc=>by rw[Int.mul_assoc,Int.mul_assoc,h c (List.mem_range.1 hc)]
theorem Sol.prop{n B:Nat}{m:List (List Int)}{r v x:List Int}{d d':Int}(hs:Sol n B m r v d')(h:Sq n m)(hd:0<d)(hx:∀i,i<n→dl n (m.getD i []) x=r.getD i 0*d):∀k,k<n→en v k*d=en x k*d':=by
 intro k hk
 have hd':((d:Int):Rat)≠0:=fun e=>by have:=Rat.intCast_inj.1 (show((d:Int):Rat)=((0:Int):Rat) by rw[e];rfl);omega
 have key:=hs.spec h (x:=fun c=>((en x c:Int):Rat)/((d:Int):Rat)) (fun i hi=>by
  have:((dl n (m.getD i []) x:Int):Rat)=((r.getD i 0*d:Int):Rat):=by rw[hx i hi]
  unfold dl at this
  rw[smI_cast,Rat.intCast_mul]at this
  rw[sm_congr (h:=fun c=>(1/((d:Int):Rat))*(((en (m.getD i []) c*en x c:Int)):Rat)) (fun c _=>by
   show _*(_/_)=_
   rw[Rat.intCast_mul,Rat.div_def,Rat.div_def];grind),sm_smul,this,Rat.div_def]
  have:=Rat.mul_inv_cancel _ hd'
  grind) k hk
 apply Rat.intCast_inj.1
 rw[Rat.intCast_mul,Rat.intCast_mul]
 unfold en at key ⊢
 rw[key,Rat.div_def]
 have:=Rat.mul_inv_cancel _ hd'
 grind
section
variable {mo ga : List Int} {de : List Dem}
theorem sides_cases{s:Side}(h:s∈M.sides mo de):(∃i,i<mo.length∧s=⟨M.unitL mo.length i 1,0⟩)∨(∃i,i<mo.length∧s=⟨M.unitL mo.length i 1,mo.getD i 0⟩)∨∃j,j<de.length∧s=⟨(de.getD j dfD).co,(de.getD j dfD).am⟩:=by
 unfold M.sides at h
 rcases List.mem_append.1 h with h|h
 ·obtain⟨i,hi,h⟩:=List.mem_flatMap.1 h
  rw[List.mem_range]at hi
  unfold M.sdM at h
  simp only[List.mem_cons,List.not_mem_nil,or_false]at h
  rcases h with h|h
  ·exact .inl ⟨i,hi,h⟩
  ·exact .inr (.inl ⟨i,hi,h⟩)
 ·obtain⟨j,hj,h⟩:=List.mem_map.1 h
  exact .inr (.inr ⟨j,List.mem_range.1 hj,h.symm⟩)
theorem sides_len:(M.sides mo de).length=2*mo.length+de.length:=by
 unfold M.sides
 simp only[List.length_append,List.length_map,List.length_range,List.length_flatMap,M.sdM,List.length_cons,List.length_nil,List.map_const',List.sum_replicate_nat]
 omega
theorem unit_small{n i:Nat}(hi:i<n):∀x,x∈M.unitL n i 1→x.natAbs≤100:=by
 intro x hx
 obtain⟨k,_,rfl⟩:=mem_getD hx
 have:=unit_en (c:=k) (v:=1) hi
 unfold en at this
 rw[this]
 split <;>decide
theorem sides_small(hR:RightP mo ga de){s:Side}(h:s∈M.sides mo de):s.co.length=mo.length∧(∀x,x∈s.co→x.natAbs≤100)∧s.am.natAbs≤1000000:=by
 rcases sides_cases h with⟨i,hi,rfl⟩|⟨i,hi,rfl⟩|⟨j,hj,rfl⟩
 ·exact⟨unit_len,unit_small hi,Nat.zero_le _⟩
 ·refine⟨unit_len,unit_small hi,?_⟩
  have:=hR.rm _ (getD_mem (d:=0) hi)
  show(mo.getD i 0).natAbs≤_
  omega
 ·obtain⟨h1,h2,h3,h4⟩:=hR.rd _ (getD_mem (d:=dfD) hj)
  refine⟨h1,fun x hx=>?_,?_⟩
  ·have:=h2 x hx;omega
  ·show((de.getD j dfD).am).natAbs≤_
   omega
theorem sides_sq(hR:RightP mo ga de){R:List Side}(hl:R.length=mo.length)(hm:∀s,s∈R→s∈M.sides mo de):Sq mo.length (R.map Side.co)∧∀i,((R.map Side.am).getD i 0).natAbs≤1000000:=by
 refine⟨⟨hR.n4,by rw[List.length_map];exact hl,?_,?_⟩,fun i=>?_⟩
 ·intro r hr
  obtain⟨s,hs,rfl⟩:=List.mem_map.1 hr
  exact(sides_small hR (hm s hs)).1
 ·intro r hr c
  obtain⟨s,hs,rfl⟩:=List.mem_map.1 hr
  exact getD_small (sides_small hR (hm s hs)).2.1 c
 ·refine getD_small (l:=R.map Side.am) (K:=1000000) ?_ i
  intro x hx
  obtain⟨s,hs,rfl⟩:=List.mem_map.1 hx
  exact(sides_small hR (hm s hs)).2.2
theorem plane_side(hR:RightP mo ga de){p:Plane}(h:p∈M.planes mo de []):∃j,j<(M.sides mo de).length∧∃s:Int,(s=1∨s= -1)∧(∀c,en p.co c=s*en ((M.sides mo de).getD j dfSd).co c)∧p.am=s*((M.sides mo de).getD j dfSd).am:=by
 have get:∀{q:Side},q∈M.sides mo de→∃j,j<(M.sides mo de).length∧(M.sides mo de).getD j dfSd=q:=fun {q} hq=>by
  obtain⟨k,hk,rfl⟩:=List.getElem_of_mem hq
  exact⟨k,hk,by rw[List.getD_eq_getElem?_getD,List.getElem?_eq_getElem hk];rfl⟩
 have inA:∀i q,i<mo.length→q∈M.sdM mo.length mo i→q∈M.sides mo de:=fun i q hi hq=>by
  unfold M.sides
  exact List.mem_append_left _ (List.mem_flatMap.2 ⟨i,List.mem_range.2 hi,hq⟩)
 rcases planes_cases h with⟨j,hj,rfl⟩|⟨i,hi,rfl⟩|⟨i,hi,rfl⟩
 ·obtain⟨k,hk,e⟩:=get (q:=M.sdD de j) (by unfold M.sides;exact List.mem_append_right _ (List.mem_map_of_mem (List.mem_range.2 hj)))
  refine⟨k,hk,1,.inl rfl,?_,?_⟩
  ·intro c;rw[e,Int.one_mul];show en ((de.getD j dfD).co++ []) c=_;rw[List.append_nil];rfl
  ·rw[e,Int.one_mul];rfl
 ·obtain⟨k,hk,e⟩:=get (q:=⟨M.unitL mo.length i 1,mo.getD i 0⟩) (inA i _ hi (by unfold M.sdM;simp))
  refine⟨k,hk,1,.inl rfl,?_,?_⟩
  ·intro c;rw[e,Int.one_mul];rfl
  ·rw[e,Int.one_mul];rfl
 ·have hi:i<mo.length:=hi
  obtain⟨k,hk,e⟩:=get (q:=⟨M.unitL mo.length i 1,0⟩) (inA i _ hi (by unfold M.sdM;simp))
  refine⟨k,hk, -1,.inr rfl,?_,?_⟩
  ·intro c
   rw[e]
   show en (M.unitL mo.length i (-1)) c= -1*en (M.unitL mo.length i 1) c
   rw[unit_en hi,unit_en hi]
   split <;>rfl
  ·rw[e];rfl
theorem ptErr_of{den:Int}{pa:List Int}(hl:pa.length=mo.length)(h1:1≤den∧den≤100000000000)(h2:∀x,x∈pa→0≤x∧x≤1000000000000000):M.ptErr mo den pa=0:=by
 have e:M.ptOk den pa=true:=by
  unfold M.ptOk
  rw[within_iff.2 h1,cond_true]
  have:pa.any (badF 171)=false:=by
   rw[List.any_eq_false]
   intro x hx
   have:=within_iff.2 (h2 x hx)
   show ¬((!M.within x 0 1000000000000000)=true)
   rw[this];decide
  rw[this];rfl
 unfold M.ptErr
 rw[show((pa.length:Int)==(mo.length:Int))=true by rw[hl];simp,e]
 rfl
theorem corner_sol(hR:RightP mo ga de){R:List Side}(hl:R.length=mo.length)(hm:∀s,s∈R→s∈M.sides mo de)(h:(M.rcorner mo.length R).2.2=true) :
  Sol mo.length 1000000 (R.map Side.co) (R.map Side.am) (M.rcorner mo.length R).2.1 (M.rcorner mo.length R).1∧∀k,0≤en (M.rcorner mo.length R).2.1 k:=by
 obtain⟨hS,ha⟩:=sides_sq hR hl hm
 rw[rcorner_solve hR.n0 hl hS ha]at h ⊢
 by_cases hd:DI en (R.map Side.co) (List.range mo.length)=0
 ·rw[solve_no hS hd]at h;cases h
 ·obtain⟨s1,s2⟩:=solve_yes hS (B:=1000000) (by decide) (by decide) ha hd
  rw[s1]at h ⊢
  rw[cond_true]at h ⊢
  cases hn:anyNeg (M.solve (R.map Side.co) (R.map Side.am)).1 with
  |true=>rw[hn]at h;cases h
  |false=>
   refine⟨s2,fun k=>?_⟩
   show 0≤en (M.solve (R.map Side.co) (R.map Side.am)).1 k
   unfold anyNeg at hn
   rw[List.any_eq_false]at hn
   unfold en
   by_cases hk:k<(M.solve (R.map Side.co) (R.map Side.am)).1.length
   ·have:=hn _ (getD_mem (d:=0) hk)
    simpa using this
   ·rw[List.getD_eq_getElem?_getD,List.getElem?_eq_none (by omega)];exact Int.le_refl _
theorem sol_ptErr(hR:RightP mo ga de){m:List (List Int)}{r x:List Int}{d:Int}(hs:Sol mo.length 1000000 m r x d)(h0:∀k,0≤en x k):M.ptErr mo d x=0:=by
 refine ptErr_of hs.len ⟨hs.pos,by have:=hs.db;omega⟩ fun v hv=>?_
 obtain⟨k,_,rfl⟩:=mem_getD hv
 have h1:=h0 k
 have h2:=hs.nb k
 unfold en at h1
 omega
theorem allowed_planes(hR:RightP mo ga de){x:List Int}{d:Int}(h0:∀k,k<mo.length→0≤en x k):Allowed mo de d x→∀p,p∈M.planes mo de []→dl mo.length p.co x≤p.am*d:=by
 intro h p hp
 have unit:∀{i:Nat} {v:Int},i<mo.length→dl mo.length (M.unitL mo.length i v) x=v*en x i:=by
  intro i v hi
  unfold dl
  rw[smI_congr (h:=fun c=>if i=c then v*en x i else 0) (fun c _=>by
   rw[unit_en hi]
   by_cases e:c=i
   ·subst e;rw[if_pos rfl,if_pos rfl]
   ·rw[if_neg e,if_neg (fun e'=>e e'.symm),Int.zero_mul])]
  exact smI_one hi
 rcases planes_cases hp with⟨j,hj,rfl⟩|⟨i,hi,rfl⟩|⟨i,hi,rfl⟩
 ·have:=h.room j hj
  rw[dl_dotK]at this
  show dl mo.length ((de.getD j dfD).co++ []) x≤_
  rw[List.append_nil];exact this
 ·have:=h.top i hi
  show dl mo.length (M.unitL mo.length i 1) x≤_
  rw[unit hi,Int.one_mul];exact this
 ·have hi:i<mo.length:=hi
  have:=h0 i hi
  show dl mo.length (M.unitL mo.length i (-1)) x≤0*d
  rw[unit hi];omega
theorem planes_allowed{x:List Int}{d:Int}(h:∀p,p∈M.planes mo de []→dl mo.length p.co x≤p.am*d):Allowed mo de d x∧∀k,k<mo.length→0≤en x k:=by
 have unit:∀{i:Nat} {v:Int},i<mo.length→dl mo.length (M.unitL mo.length i v) x=v*en x i:=by
  intro i v hi
  unfold dl
  rw[smI_congr (h:=fun c=>if i=c then v*en x i else 0) (fun c _=>by
   rw[unit_en hi]
   by_cases e:c=i
   ·subst e;rw[if_pos rfl,if_pos rfl]
   ·rw[if_neg e,if_neg (fun e'=>e e'.symm),Int.zero_mul])]
  exact smI_one hi
 refine⟨⟨fun i hi=>?_,fun j hj=>?_⟩,fun i hi=>?_⟩
 ·have:=h _ (mem_mo (more:=[]) hi)
  have:dl mo.length (M.unitL mo.length i 1) x≤mo.getD i 0*d:=this
  rw[unit hi,Int.one_mul]at this;exact this
 ·have:=h _ (mem_de (more:=[]) hj)
  have:dl mo.length ((de.getD j dfD).co++ []) x≤(de.getD j dfD).am*d:=this
  rw[List.append_nil]at this
  rw[dl_dotK];exact this
 ·have:=h _ (mem_nn (more:=[]) hi)
  have:dl mo.length (M.unitL mo.length i (-1)) x≤0*d:=this
  rw[unit hi]at this;omega
end
end Go.Pl
end
section
set_option maxRecDepth 100000
namespace Go.Pl
open Go.V Go.Proofs
open Go.Lp
section
variable {mo ga : List Int} {de : List Dem}
theorem right_small(hR:RightP mo ga de):SmallP mo.length (M.planes mo de []):=by
 have h:=small_planes (mo:=mo) (de:=de) (more:=[]) (Nat.succ_le_of_lt hR.n0) (by simpa using hR.n4) hR.rm (fun d hd=>(hR.rd d hd).1) (fun d hd=>(hR.rd d hd).2.1) (fun d hd=>(hR.rd d hd).2.2) (fun x hx=>by cases hx)
 simpa using h
theorem right_ask(hR:RightP mo ga de):Ask mo.length 100 ga:=⟨hR.lg,fun x hx=>by have:=hR.rg x hx;omega⟩
theorem pickS_ok{S:List Side}{n:Nat}{c:List Int}(h1:c.length=n)(h2:∀v,v∈c→0≤v∧v<(S.length:Int)):(M.pickS S c).length=n∧∀s,s∈M.pickS S c→s∈S:=
 ⟨by unfold M.pickS;rw[List.length_map,h1],fun s hs=>mem_pickS (n:=0) h2 hs⟩
theorem gr_ok(hR:RightP mo ga de)(h3:mo.length≤3):GrOk mo ga de:=by
 have n0:=hR.n0
 have ld:=hR.ld
 refine⟨by omega,h3,hR.lg,fun d hd=>(hR.rd d hd).1,by rw[sides_len];omega,by omega,fun s hs=>(sides_small hR hs).1,fun R hl hm h=>?_⟩
 obtain⟨hs,h0⟩:=corner_sol hR hl hm h
 have p1:=hs.pos
 have p2:=hs.db
 refine⟨p1,by unfold i64ok;omega,?_,hs.len⟩
 have hx:∀k,((M.rcorner mo.length R).2.1.getD k 0).natAbs≤24000000000000:=fun k=>Nat.le_trans (hs.nb k) (by decide)
 rw[gain_dl (right_small hR) (right_ask hR) hx]
 have:=dl_bnd (n:=mo.length) (a:=ga) (b:=(M.rcorner mo.length R).2.1) (A:=100) (B:=24000000000000) (fun c=>(right_ask hR).at c) hx hR.n4
 unfold i64ok;omega
theorem adm_pt(hR:RightP mo ga de){c:List Int}(h1:c.length=mo.length)(h2:∀v,v∈c→0≤v∧v<((M.sides mo de).length:Int))(hA:AdmR (M.sides mo de) mo de c) :
  PtOK mo.length (M.planes mo de []) (ptR (M.sides mo de) c) (dnR (M.sides mo de) c)∧M.dot ga (ptR (M.sides mo de) c)=dl mo.length ga (ptR (M.sides mo de) c)∧(M.dot ga (ptR (M.sides mo de) c)).natAbs≤9600000000000000∧dnR (M.sides mo de) c≤2400000000:=by
 obtain⟨hl,hm⟩:=pickS_ok h1 h2
 obtain⟨a1,a2⟩:=hA
 have hs':=corner_sol hR hl hm (by rw[←h1];exact a1)
 rw[←h1]at hs'
 unfold ptR dnR
 obtain⟨hs,h0⟩:=hs'
 rw[h1]at hs h0 a2 a1 ⊢
 have hP:=sol_ptErr hR hs h0
 have hAl:=(allowed_iff hR hP).1 a2
 have hx:∀k,((M.rcorner mo.length (M.pickS (M.sides mo de) c)).2.1.getD k 0).natAbs≤24000000000000:=fun k=>Nat.le_trans (hs.nb k) (by decide)
 have hg:=gain_dl (right_small hR) (right_ask hR) hx
 refine⟨⟨hs.pos,allowed_planes hR (fun k _=>h0 k) hAl⟩,hg,?_,hs.db⟩
 rw[hg]
 have:=dl_bnd (n:=mo.length) (a:=ga) (b:=(M.rcorner mo.length (M.pickS (M.sides mo de) c)).2.1) (A:=100) (B:=24000000000000) (fun c=>(right_ask hR).at c) hx hR.n4
 omega
theorem corner_adm(hR:RightP mo ga de){t:List Plane}{x:List Int}{d:Int}(ht:t∈M.subs (M.planes mo de []) mo.length)(hc:Cor mo.length (M.planes mo de []) t x d) :
  ∃c,c∈M.ord (M.sides mo de).length mo.length []∧AdmR (M.sides mo de) mo de c∧∀k,k<mo.length→en (ptR (M.sides mo de) c) k*d=en x k*dnR (M.sides mo de) c:=by
 obtain⟨htm,htl⟩:=sub_mem ht
 have hsm:=right_small hR
 have hps:∀p,∃j:Nat,p∈M.planes mo de []→j<(M.sides mo de).length∧∃s:Int,(s=1∨s= -1)∧(∀c,en p.co c=s*en ((M.sides mo de).getD j dfSd).co c)∧p.am=s*((M.sides mo de).getD j dfSd).am:=by
  intro p
  by_cases hp:p∈M.planes mo de []
  ·obtain⟨j,h1,h2⟩:=plane_side hR hp
   exact⟨j,fun _=>⟨h1,h2⟩⟩
  ·exact⟨0,fun h=>absurd h hp⟩
 obtain⟨J,hJ⟩:=Classical.axiomOfChoice hps
 have hss:∀p,∃s:Int,p∈M.planes mo de []→(s=1∨s= -1)∧(∀c,en p.co c=s*en ((M.sides mo de).getD (J p) dfSd).co c)∧p.am=s*((M.sides mo de).getD (J p) dfSd).am:=by
  intro p
  by_cases hp:p∈M.planes mo de []
  ·obtain⟨s,h⟩:=(hJ p hp).2
   exact⟨s,fun _=>h⟩
  ·exact⟨0,fun h=>absurd h hp⟩
 obtain⟨sg,hsg⟩:=Classical.axiomOfChoice hss
 have hd0:DI en (t.map Plane.co) (List.range mo.length)≠0:=by have:=hc.sol.pos;have:=hc.sol.den;omega
 rw[DI_map,DI_congr (g:=fun p c=>sg p*en ((M.sides mo de).getD (J p) dfSd).co c) (fun p hp c _=>(hsg p (htm p hp)).2.1 c)]at hd0
 have hd1:=DI_scale_ne (s:=sg) (f:=fun p c=>en ((M.sides mo de).getD (J p) dfSd).co c) hd0
 rw[←DI_map (f:=fun j c=>en ((M.sides mo de).getD j dfSd).co c) (g:=J)]at hd1
 obtain⟨s,hsp,hsl,hsm',hsD⟩:=choose_rows (L:=(M.sides mo de).length) (I:=t.map J) (by rw[List.length_map];exact htl) (fun i hi=>by
  obtain⟨p,hp,rfl⟩:=List.mem_map.1 hi
  exact(hJ p (htm p hp)).1) (D_ne.2 hd1)
 have hsD:=D_ne.1 hsD
 have hsL:∀a,a∈s→a<(M.sides mo de).length:=fun a ha=>by
  obtain⟨p,hp,rfl⟩:=List.mem_map.1 ((hsm' a).1 ha)
  exact(hJ p (htm p hp)).1
 have hord:=mem_ord (L:=(M.sides mo de).length) mo.length [] s hsl hsp (fun a ha=>⟨Nat.zero_le _,hsL a ha⟩)
 rw[List.nil_append]at hord
 obtain⟨c,hcdef⟩:∃c:List Int,c=s.map (fun a:Nat=>(a:Int)):=⟨_,rfl⟩
 rw[←hcdef]at hord
 obtain⟨h1,h2⟩:=ord_good _ _ _ hord (fun v hv=>by cases hv)
 have h1:c.length=mo.length:=by simpa using h1
 have hpick:M.pickS (M.sides mo de) c=s.map fun a=>(M.sides mo de).getD a dfSd:=by
  rw[hcdef];unfold M.pickS;rw[List.map_map];rfl
 obtain⟨hl,hm⟩:=pickS_ok h1 h2
 obtain⟨hS,ha⟩:=sides_sq hR hl hm
 have hDR:DI en ((M.pickS (M.sides mo de) c).map Side.co) (List.range mo.length)≠0:=by
  rw[hpick,List.map_map,DI_map];exact hsD
 obtain⟨s1,s2⟩:=solve_yes hS (B:=1000000) (by decide) (by decide) ha hDR
 have hdpos:=hc.sol.pos
 have hrow:∀i,i<mo.length→dl mo.length (((M.pickS (M.sides mo de) c).map Side.co).getD i []) x=((M.pickS (M.sides mo de) c).map Side.am).getD i 0*d:=by
  intro i hi
  rw[side_co,side_am]
  have hgi:(M.pickS (M.sides mo de) c).getD i dfSd=(M.sides mo de).getD (s.getD i 0) dfSd:=by
   rw[hpick,List.getD_eq_getElem?_getD,List.getElem?_map,List.getElem?_eq_getElem (by omega),List.getD_eq_getElem?_getD (l:=s),List.getElem?_eq_getElem (by omega)]
   rfl
  rw[hgi]
  obtain⟨p,hp,hpJ⟩:=List.mem_map.1 ((hsm' _).1 (getD_mem (d:=0) (show i<s.length by omega)))
  obtain⟨g1,g2,g3⟩:=hsg p (htm p hp)
  rw[←hpJ]
  obtain⟨q,hq,rfl⟩:=memP_getD hp
  have hr:=hc.sol.rows (hsm.sq htm htl) q (by omega)
  rw[co_at,am_at]at hr
  have hdl:dl mo.length (t.getD q dfP).co x=sg (t.getD q dfP)*dl mo.length ((M.sides mo de).getD (J (t.getD q dfP)) dfSd).co x:=by
   unfold dl
   rw[←smI_smul]
   exact smI_congr fun c _=>by rw[g2,Int.mul_assoc]
  rw[hdl,g3]at hr
  rcases g1 with g1|g1 <;>rw[g1]at hr
  ·simpa using hr
  ·rw[Int.mul_assoc]at hr;omega
 have hprop:=s2.prop hS hdpos hrow
 have hal0:=planes_allowed hc.all
 have hx0:∀k,0≤en (M.solve ((M.pickS (M.sides mo de) c).map Side.co) ((M.pickS (M.sides mo de) c).map Side.am)).1 k:=by
  intro k
  by_cases hk:k<mo.length
  ·have e1:=hprop k hk
   have e2:=hal0.2 k hk
   have e3:0≤en x k*(M.solve ((M.pickS (M.sides mo de) c).map Side.co) ((M.pickS (M.sides mo de) c).map Side.am)).2.1:=Int.mul_nonneg e2 (by have:=s2.pos;omega)
   rw[←e1]at e3
   exact Int.nonneg_of_mul_nonneg_left e3 hdpos
  ·unfold en
   rw[List.getD_eq_getElem?_getD,List.getElem?_eq_none (by rw[s2.len];omega)];exact Int.le_refl _
 have hneg:anyNeg (M.solve ((M.pickS (M.sides mo de) c).map Side.co) ((M.pickS (M.sides mo de) c).map Side.am)).1=false:=by
  unfold anyNeg
  rw[List.any_eq_false]
  intro v hv
  obtain⟨k,_,rfl⟩:=mem_getD hv
  have:=hx0 k
  unfold en at this
  simpa using this
 have hcor:=rcorner_solve hR.n0 hl hS ha
 rw[s1,cond_true,hneg,cond_false]at hcor
 have hP:=sol_ptErr hR s2 hx0
 have hAll:Allowed mo de (M.solve ((M.pickS (M.sides mo de) c).map Side.co) ((M.pickS (M.sides mo de) c).map Side.am)).2.1 (M.solve ((M.pickS (M.sides mo de) c).map Side.co) ((M.pickS (M.sides mo de) c).map Side.am)).1:=by
  refine(planes_allowed fun p hp=>?_).1
  have e1:=hc.all p hp
  have e2:=dl_prop (a:=p.co) hprop
  have e3:=s2.pos
  refine Int.le_of_mul_le_mul_right (a:=d) ?_ hdpos
  rw[e2]
  have e4:=Int.mul_le_mul_of_nonneg_right e1 (Int.le_of_lt e3)
  rw[Int.mul_assoc,Int.mul_comm d]at e4
  rw[Int.mul_assoc];exact e4
 refine⟨c,hord,⟨?_,?_⟩,?_⟩
 ·rw[h1,hcor]
 ·rw[h1,hcor]
  exact(allowed_iff hR hP).2 hAll
 ·unfold ptR dnR
  rw[h1,hcor]
  exact hprop
theorem great_eq(hR:RightP mo ga de) :
  (¬HasPoint mo.length (M.planes mo de [])∧M.greatG mo ga de=(0,1,false)) ∨
  (∃N D':Int,M.greatG mo ga de=(N,D',true)∧0<D'∧D'≤2400000000∧N.natAbs≤9600000000000000∧N*(M.bstB mo ga de).gd=(M.bstB mo ga de).num*D'∧0<(M.bstB mo ga de).gd):=by
 have hsm:=right_small hR
 have hst:=start_lp (mo:=mo) (de:=de) (more:=[]) (K:=100) (by simpa using hR.n4) (asked:=ga) (by simpa using right_ask hR) (fun i hi=>by
  rw[List.getD_eq_getElem?_getD,List.getElem?_eq_none (by rw[hR.lg];exact hi)];exact Int.le_refl _)
 simp only[List.length_nil,Nat.add_zero]at hst
 have hone:=one_of hsm (asked:=ga) (K:=100) (nd:=de.length) (nm:=mo.length) (by decide) (by decide) (right_ask hR) hst
 have hgood:∀c,c∈M.ord (M.sides mo de).length mo.length []→c.length=mo.length∧∀v,v∈c→0≤v∧v<((M.sides mo de).length:Int):=fun c hc=>by
  have:=ord_good _ _ _ hc (fun v hv=>by cases hv)
  simpa using this
 have hG:GreatOf (M.sides mo de) mo ga de ([]++M.ord (M.sides mo de).length mo.length []) (M.greatG mo ga de):=by
  refine great_fold _ [] _ (fun c hc hA=>?_) (.inl ⟨rfl,fun c hc=>by cases hc⟩)
  rcases hc with hc|hc
  ·obtain⟨h1,h2⟩:=hgood c hc
   exact(adm_pt (ga:=ga) hR h1 h2 hA).1.1
  ·cases hc
 rw[List.nil_append]at hG
 rcases hone with⟨hno,_,_⟩|⟨_,t,v,u,_,_,_,_,hu,hcor,hgd,hnum,_,hle⟩
 ·refine .inl ⟨hno,?_⟩
  rcases hG with⟨h,_⟩|⟨c,hc,hA,_⟩
  ·exact h
  ·obtain⟨h1,h2⟩:=hgood c hc
   exact absurd (pt_has (adm_pt (ga:=ga) hR h1 h2 hA).1) hno
 ·refine .inr ?_
  obtain⟨c,hc,hA,hprop⟩:=corner_adm hR hu hcor
  rcases hG with⟨_,h⟩|⟨c',hc',hA',hp',h,hbest⟩
  ·exact absurd hA (h c hc)
  ·obtain⟨h1,h2⟩:=hgood c hc
   obtain⟨g1,g2⟩:=hgood c' hc'
   obtain⟨q1,q2,q3,q4⟩:=adm_pt (ga:=ga) hR h1 h2 hA
   obtain⟨r1,r2,r3,r4⟩:=adm_pt (ga:=ga) hR g1 g2 hA'
   refine⟨_,_,h,hp',r4,r3,?_,?_⟩
   ·have b1:=hbest c hc hA
    have b2:=hle _ _ r1
    rw[←r2]at b2
    have b3:=dl_prop (a:=ga) hprop
    rw[←q2]at b3
    show _*(M.best ga (M.planes mo de []) mo.length).gd=(M.best ga (M.planes mo de []) mo.length).num*_
    rw[hgd]
    refine Int.le_antisymm b2 ?_
    rw[hnum]
    have hq:=q1.1
    refine Int.le_of_mul_le_mul_right (a:=dnR (M.sides mo de) c) ?_ hq
    have hbd:=hcor.sol.pos
    have b4:=Int.mul_le_mul_of_nonneg_right b1 (Int.le_of_lt hbd)
    have e1:dl mo.length ga (M.best ga (M.planes mo de []) mo.length).pa*dnR (M.sides mo de) c'*dnR (M.sides mo de) c=M.dot ga (ptR (M.sides mo de) c)*dnR (M.sides mo de) c'*(M.best ga (M.planes mo de []) mo.length).ad:=by
     rw[Int.mul_assoc,Int.mul_comm (dnR (M.sides mo de) c'),←Int.mul_assoc,←b3,Int.mul_assoc,Int.mul_comm _ (dnR (M.sides mo de) c'),←Int.mul_assoc]
    rw[e1]
    refine Int.le_trans b4 ?_
    rw[Int.mul_assoc,Int.mul_comm (dnR (M.sides mo de) c),←Int.mul_assoc]
    exact Int.le_refl _
   ·show 0<(M.best ga (M.planes mo de []) mo.length).gd
    rw[hgd];exact hcor.sol.pos
end
end Go.Pl
end
section
set_option maxRecDepth 100000
namespace Go.Pl
open Go.V Go.Proofs
abbrev ycI(l:List Int):List Int:=Enc.list eI (List.length (cI l)) (Enc.F eI (cI l))
abbrev ycD(l:List Dem):List Dem:=Enc.list eDm (List.length (cD l)) (Enc.F eDm (cD l))
end Go.Pl
end
section
set_option maxRecDepth 100000
namespace Go.Pl
open Go.V Go.Proofs
open Go.Lp
theorem smI_set{l:List Int}{A:Nat→Int}{a n:Nat}{x:Int}(hl:l.length=n)(ha:a<n)(h0:l.getD a 0=0):smI (fun j=>(l.set a x).getD j 0*A j) (List.range n)=smI (fun j=>l.getD j 0*A j) (List.range n)+x*A a:=by
 have e:∀j,(l.set a x).getD j 0*A j=l.getD j 0*A j+(if a=j then x*A a else 0):=by
  intro j
  have:=en_set (r:=l) (k:=a) (c:=j) (v:=x) (by omega)
  unfold en at this
  rw[this]
  by_cases h:j=a
  ·subst h;rw[if_pos rfl,if_pos rfl,h0];omega
  ·rw[if_neg h,if_neg (fun h'=>h h'.symm),Int.add_zero]
 rw[smI_congr (h:=fun j=>l.getD j 0*A j+(if a=j then x*A a else 0)) (fun j _=>e j),smI_add,smI_one ha]
def worthP(A B:Nat→Int)(p:Plane):Int:=cond (decide (p.de≥0)) (A p.de.toNat) (cond (decide (p.dr≥0)) (B p.dr.toNat) 0)
def sumW(nd nm:Nat)(A B:Nat→Int)(z:List Int×List Int):Int:=smI (fun j=>z.1.getD j 0*A j) (List.range nd)+smI (fun i=>z.2.getD i 0*B i) (List.range nm)
def Apart(p q:Plane):Prop:=(p.de≥0→q.de≥0→p.de≠q.de)∧(p.dr≥0→q.dr≥0→p.dr≠q.dr)
theorem put_sum{nd nm:Nat}{A B:Nat→Int}{K:Int}(hK:0≤K){t:List Plane}{v:List Int}(hok:∀p,p∈t→(p.de≥0→p.de.toNat<nd)∧(p.dr≥0→p.dr.toNat<nm))(hap:∀q r,q<t.length→r<t.length→q≠r→Apart (t.getD q dfP) (t.getD r dfP))(hv:∀k,0≤v.getD k 0∧v.getD k 0≤K) :
  ∀k,k≤t.length→(M.putW t v k (List.replicate nd 0,List.replicate nm 0)).1.length=nd∧(M.putW t v k (List.replicate nd 0,List.replicate nm 0)).2.length=nm ∧
   (∀x,x∈(M.putW t v k (List.replicate nd 0,List.replicate nm 0)).1→0≤x∧x≤K)∧(∀x,x∈(M.putW t v k (List.replicate nd 0,List.replicate nm 0)).2→0≤x∧x≤K) ∧
   (∀q,k≤q→q<t.length→((t.getD q dfP).de≥0→(M.putW t v k (List.replicate nd 0,List.replicate nm 0)).1.getD (t.getD q dfP).de.toNat 0=0)∧((t.getD q dfP).dr≥0→(M.putW t v k (List.replicate nd 0,List.replicate nm 0)).2.getD (t.getD q dfP).dr.toNat 0=0)) ∧
   sumW nd nm A B (M.putW t v k (List.replicate nd 0,List.replicate nm 0))=smI (fun q=>v.getD q 0*worthP A B (t.getD q dfP)) (List.range k):=by
 intro k
 induction k with
 |zero=>
  intro _
  have g0:∀m i:Nat,(List.replicate m (0:Int)).getD i 0=0:=by
   intro m i
   rw[List.getD_eq_getElem?_getD,List.getElem?_replicate]
   split <;>rfl
  refine⟨by simp[M.putW],by simp[M.putW],?_,?_,fun q _ _=>⟨fun _=>g0 _ _,fun _=>g0 _ _⟩,?_⟩
  ·intro x hx
   have:x∈List.replicate nd (0:Int):=hx
   rw[List.eq_of_mem_replicate this];exact⟨Int.le_refl _,hK⟩
  ·intro x hx
   have:x∈List.replicate nm (0:Int):=hx
   rw[List.eq_of_mem_replicate this];exact⟨Int.le_refl _,hK⟩
  ·show smI (fun j=>(List.replicate nd (0:Int)).getD j 0*A j) (List.range nd)+smI (fun i=>(List.replicate nm (0:Int)).getD i 0*B i) (List.range nm)=0
   rw[smI_congr (h:=fun _=>(0:Int)) (fun j _=>by rw[g0,Int.zero_mul]),smI_congr (l:=List.range nm) (h:=fun _=>(0:Int)) (fun j _=>by rw[g0,Int.zero_mul]),smI_zero,smI_zero];rfl
 |succ k ih=>
  intro hk
  obtain⟨i1,i2,i3,i4,i5,i6⟩:=ih (by omega)
  rw[putW_succ]
  generalize M.putW t v k (List.replicate nd 0,List.replicate nm 0)=z at *
  obtain⟨hde,hdr⟩:=hok _ (getD_mem (d:=dfP) (show k<t.length by omega))
  obtain⟨z1,z2⟩:=i5 k (Nat.le_refl _) (by omega)
  have hsum:∀y,smI (fun q=>v.getD q 0*worthP A B (t.getD q dfP)) (List.range k)+v.getD k 0*worthP A B (t.getD k dfP)=y→y=smI (fun q=>v.getD q 0*worthP A B (t.getD q dfP)) (List.range (k+1)):=by
   intro y h
   rw[List.range_succ,smI_append,←h]
   simp[smI]
  have mem_set:∀{l:List Int} {a:Nat} {x y:Int},y∈l.set a x→y=x∨y∈l:=fun {l a x y} h=>(List.mem_or_eq_of_mem_set h).symm
  have getset:∀{l:List Int} {a b:Nat} {x:Int},a<l.length→b≠a→(l.set a x).getD b 0=l.getD b 0:=by
   intro l a b x ha hb
   have:=en_set (r:=l) (k:=a) (c:=b) (v:=x) ha
   unfold en at this
   rw[this,if_neg hb]
  by_cases h1:(t.getD k dfP).de≥0
  ·have hs:stepW (t.getD k dfP) (v.getD k 0) z=(z.1.set (t.getD k dfP).de.toNat (v.getD k 0),z.2):=by unfold stepW;rw[decide_eq_true h1];rfl
   rw[hs]
   refine⟨by rw[List.length_set];exact i1,i2,fun x hx=>?_,i4,fun q hq1 hq2=>⟨fun hq=>?_,(i5 q (by omega) hq2).2⟩,?_⟩
   ·rcases mem_set hx with rfl|hx
    ·exact hv k
    ·exact i3 x hx
   ·have ap:=(hap q k hq2 (by omega) (by omega)).1 hq h1
    show(z.1.set (t.getD k dfP).de.toNat (v.getD k 0)).getD (t.getD q dfP).de.toNat 0=0
    rw[getset (by rw[i1];exact hde h1) (by omega)]
    exact(i5 q (by omega) hq2).1 hq
   ·refine hsum _ ?_
    rw[←i6]
    unfold sumW
    show _=smI (fun j=>(z.1.set (t.getD k dfP).de.toNat (v.getD k 0)).getD j 0*A j) (List.range nd)+smI (fun i=>z.2.getD i 0*B i) (List.range nm)
    rw[smI_set i1 (hde h1) (z1 h1)]
    unfold worthP
    rw[decide_eq_true h1,cond_true];omega
  ·by_cases h2:(t.getD k dfP).dr≥0
   ·have hs:stepW (t.getD k dfP) (v.getD k 0) z=(z.1,z.2.set (t.getD k dfP).dr.toNat (v.getD k 0)):=by unfold stepW;rw[decide_eq_false h1,decide_eq_true h2];rfl
    rw[hs]
    refine⟨i1,by rw[List.length_set];exact i2,i3,fun x hx=>?_,fun q hq1 hq2=>⟨(i5 q (by omega) hq2).1,fun hq=>?_⟩,?_⟩
    ·rcases mem_set hx with rfl|hx
     ·exact hv k
     ·exact i4 x hx
    ·have ap:=(hap q k hq2 (by omega) (by omega)).2 hq h2
     show(z.2.set (t.getD k dfP).dr.toNat (v.getD k 0)).getD (t.getD q dfP).dr.toNat 0=0
     rw[getset (by rw[i2];exact hdr h2) (by omega)]
     exact(i5 q (by omega) hq2).2 hq
    ·refine hsum _ ?_
     rw[←i6]
     unfold sumW
     show _=smI (fun j=>z.1.getD j 0*A j) (List.range nd)+smI (fun j=>(z.2.set (t.getD k dfP).dr.toNat (v.getD k 0)).getD j 0*B j) (List.range nm)
     rw[smI_set i2 (hdr h2) (z2 h2)]
     unfold worthP
     rw[decide_eq_false h1,decide_eq_true h2,cond_false,cond_true];omega
   ·have hs:stepW (t.getD k dfP) (v.getD k 0) z=z:=by unfold stepW;rw[decide_eq_false h1,decide_eq_false h2];rfl
    rw[hs]
    refine⟨i1,i2,i3,i4,fun q hq1 hq2=>i5 q (by omega) hq2,hsum _ ?_⟩
    rw[i6]
    unfold worthP
    rw[decide_eq_false h1,decide_eq_false h2,cond_false,cond_false,Int.mul_zero,Int.add_zero]
theorem Apart.symm{p q:Plane}(h:Apart p q):Apart q p:=⟨fun a b e=>h.1 b a e.symm,fun a b e=>h.2 b a e.symm⟩
theorem wErr_of{mo:List Int}{de:List Dem}{den:Int}{wd wt:List Int}(h1:wd.length=de.length)(h2:wt.length=mo.length)(h3:1≤den∧den≤100000000000)(h4:∀x,x∈wd→0≤x∧x≤100000000000)(h5:∀x,x∈wt→0≤x∧x≤100000000000):M.wErr mo de den wd wt=0:=by
 have no:∀{l:List Int},(∀x,x∈l→0≤x∧x≤100000000000)→l.any (badF 170)=false:=by
  intro l h
  rw[List.any_eq_false]
  intro x hx
  have:=within_iff.2 (h x hx)
  show ¬((!M.within x 0 100000000000)=true)
  rw[this];decide
 have e:M.wOk den wd wt=true:=by
  unfold M.wOk
  rw[within_iff.2 h3,no h4,no h5];rfl
 unfold M.wErr
 rw[show((wd.length:Int)==(de.length:Int))=true by rw[h1];simp,show((wt.length:Int)==(mo.length:Int))=true by rw[h2];simp,e]
 rfl
section
variable {mo ga : List Int} {de : List Dem}
end
end Go.Pl
end
section
set_option maxRecDepth 100000
namespace Go.Pl
open Go.V Go.Proofs
open Go.Lp
theorem small_lens{mo ga:List Int}{de:List Dem}(h:M.smallP mo ga de=true):mo.length≤3∧M.few mo ga de=true:=by
 unfold M.smallP at h
 cases h1:M.few mo ga de with
 |false=>rw[h1]at h;cases h
 |true=>
  rw[h1]at h
  cases h2:decide ((mo.length:Int)≤3)with
  |false=>rw[h2]at h;cases h
  |true=>exact⟨by have:=of_decide_eq_true h2;omega,rfl⟩
end Go.Pl
end
section
set_option maxRecDepth 100000
namespace Go.Pl
open Go.V Go.Proofs
open Go.Lp
section
variable {mo ga : List Int} {de : List Dem}
theorem right_erase(hR:RightP mo ga de)(k:Nat):RightP mo ga (de.eraseIdx k):=
 ⟨hR.n0,hR.n4,hR.lg,Nat.le_trans (by rw[List.length_eraseIdx];split <;>omega) hR.ld,hR.rm,hR.rg,fun d hd=>hR.rd d (List.mem_of_mem_eraseIdx hd)⟩
theorem dlK(n:Nat)(a b:List Int):dl n a b=dotK a b n:=(dotK_smI a b n).symm
theorem best_gr(hR:RightP mo ga de):(¬HasPoint mo.length (M.planes mo de [])∧M.bstB mo ga de=M.bs0) ∨
  (PtOK mo.length (M.planes mo de []) (M.bstB mo ga de).pa (M.bstB mo ga de).ad∧(M.bstB mo ga de).ad≤2400000000∧(∀k,((M.bstB mo ga de).pa.getD k 0).natAbs≤24000000000000)∧(M.bstB mo ga de).pa.length=mo.length∧(M.bstB mo ga de).gd=(M.bstB mo ga de).ad∧(M.bstB mo ga de).num=dl mo.length ga (M.bstB mo ga de).pa ∧
   ∀x d,PtOK mo.length (M.planes mo de []) x d→dl mo.length ga x*(M.bstB mo ga de).ad≤(M.bstB mo ga de).num*d):=by
 have hsm:=right_small hR
 have hst:=start_lp (mo:=mo) (de:=de) (more:=[]) (K:=100) (by simpa using hR.n4) (asked:=ga) (by simpa using right_ask hR) (fun i hi=>by
  rw[List.getD_eq_getElem?_getD,List.getElem?_eq_none (by rw[hR.lg];exact hi)];exact Int.le_refl _)
 simp only[List.length_nil,Nat.add_zero]at hst
 rcases one_of hsm (asked:=ga) (K:=100) (nd:=de.length) (nm:=mo.length) (by decide) (by decide) (right_ask hR) hst with⟨hno,_,hb⟩|⟨_,t,v,u,_,_,_,_,hu,hcor,hgd,hnum,_,hle⟩
 ·exact .inl ⟨hno,hb⟩
 ·exact .inr ⟨cor_pt hcor,hcor.sol.db,fun k=>Nat.le_trans (hcor.sol.nb k) (by decide),hcor.sol.len,hgd,hnum,hle⟩
namespace M
end M
theorem bindK_congr{y z:Nat→Bool}{n:Nat}(h:∀k,k<n→y k=z k):M.bindK y n=M.bindK z n:=by
 unfold M.bindK
 rw[List.filter_congr (fun k hk=>h k (List.mem_range.1 hk))]
end
end Go.Pl
end
section
set_option maxRecDepth 100000
namespace Go.Pl
open Go.V Go.Proofs
open Go.Lp
theorem apart_planesM{mo:List Int}{de:List Dem}:(M.planes mo de [-1]).Pairwise Apart:=by
 unfold M.planes
 have pw:∀{f:Nat→Plane} {n:Nat},(∀i j,i<j→Apart (f i) (f j))→((List.range n).map f).Pairwise Apart:=by
  intro f n h
  rw[List.pairwise_map]
  exact List.pairwise_lt_range.imp (fun {a b} hab=>h a b hab)
 refine List.pairwise_append.2 ⟨pw fun i j h=>⟨fun _ _=>?_,fun h'=>?_⟩,List.pairwise_append.2 ⟨pw fun i j h=>⟨fun h'=>?_,fun _ _=>?_⟩,pw fun i j h=>⟨fun h'=>?_,fun h'=>?_⟩,?_⟩,?_⟩
 ·show((i:Nat):Int)≠((j:Nat):Int);omega
 ·exact absurd h' (show ¬((-1:Int)≥0) by decide)
 ·exact absurd h' (show ¬((-1:Int)≥0) by decide)
 ·show((i:Nat):Int)≠((j:Nat):Int);omega
 ·exact absurd h' (show ¬((-1:Int)≥0) by decide)
 ·exact absurd h' (show ¬((-1:Int)≥0) by decide)
 ·intro p hp q hq
  obtain⟨i,_,rfl⟩:=List.mem_map.1 hp
  obtain⟨j,_,rfl⟩:=List.mem_map.1 hq
  exact⟨fun h'=>absurd h' (show ¬((-1:Int)≥0) by decide),fun _ h'=>absurd h' (show ¬((-1:Int)≥0) by decide)⟩
 ·intro p hp q hq
  obtain⟨i,_,rfl⟩:=List.mem_map.1 hp
  rcases List.mem_append.1 hq with hq|hq
  ·obtain⟨j,_,rfl⟩:=List.mem_map.1 hq
   exact⟨fun _ h'=>absurd h' (show ¬((-1:Int)≥0) by decide),fun h'=>absurd h' (show ¬((-1:Int)≥0) by decide)⟩
  ·obtain⟨j,_,rfl⟩:=List.mem_map.1 hq
   exact⟨fun _ h'=>absurd h' (show ¬((-1:Int)≥0) by decide),fun h'=>absurd h' (show ¬((-1:Int)≥0) by decide)⟩
theorem apart_subM{mo:List Int}{de:List Dem}{t:List Plane}(h:t.Sublist (M.planes mo de [-1])):∀q r,q<t.length→r<t.length→q≠r→Apart (t.getD q dfP) (t.getD r dfP):=by
 have hp:=List.pairwise_iff_getElem.1 (apart_planesM.sublist h)
 intro q r hq hr hne
 have e:∀k (hk:k<t.length),t.getD k dfP=t[k]:=fun k hk=>by rw[List.getD_eq_getElem?_getD,List.getElem?_eq_getElem hk];rfl
 rw[e q hq,e r hr]
 rcases Nat.lt_or_gt_of_ne hne with h|h
 ·exact hp q r hq hr h
 ·exact(hp r q hr hq h).symm
section
variable {mo ga : List Int} {de : List Dem}
theorem worth_coM(hR:RightP mo ga de){c:Nat}(hc:c<mo.length){p:Plane}(hp:p∈M.planes mo de [-1]):en p.co c≤worthP (fun j=>(de.getD j dfD).co.getD c 0) (fun i=>if i=c then 1 else 0) p:=by
 rcases planes_cases hp with⟨j,hj,rfl⟩|⟨i,hi,rfl⟩|⟨i,hi,rfl⟩
 ·show en ((de.getD j dfD).co++ [-1]) c≤cond (decide (((j:Nat):Int)≥0)) ((de.getD ((j:Nat):Int).toNat dfD).co.getD c 0) _
  have hl:=(hR.rd _ (getD_mem (d:=dfD) hj)).1
  rw[decide_eq_true (by omega)]
  unfold en
  rw[List.getD_eq_getElem?_getD,List.getElem?_append_left (by omega),←List.getD_eq_getElem?_getD]
  exact Int.le_refl _
 ·have hi':i<mo.length + [(-1:Int)].length:=by omega
  show en (M.unitL (mo.length + [(-1:Int)].length) i 1) c≤cond (decide ((-1:Int)≥0)) _ (cond (decide (((i:Nat):Int)≥0)) (if((i:Nat):Int).toNat=c then 1 else 0) 0)
  rw[unit_en hi',decide_eq_true (show((i:Nat):Int)≥0 by omega)]
  show(if c=i then(1:Int)else 0)≤(if i=c then 1 else 0)
  by_cases h:c=i
  ·subst h;exact Int.le_refl _
  ·rw[if_neg h,if_neg (fun h'=>h h'.symm)];exact Int.le_refl _
 ·show en (M.unitL (mo.length + [(-1:Int)].length) i (-1)) c≤0
  rw[unit_en hi]
  split <;>decide
theorem worth_amM{p:Plane}(hp:p∈M.planes mo de [-1]):worthP (fun j=>(de.getD j dfD).am) (fun i=>mo.getD i 0) p=p.am:=by
 rcases planes_cases hp with⟨j,hj,rfl⟩|⟨i,hi,rfl⟩|⟨i,hi,rfl⟩
 ·show cond (decide (((j:Nat):Int)≥0)) ((de.getD ((j:Nat):Int).toNat dfD).am) _=(de.getD j dfD).am
  rw[decide_eq_true (by omega)];rfl
 ·show cond (decide ((-1:Int)≥0)) _ (cond (decide (((i:Nat):Int)≥0)) (mo.getD ((i:Nat):Int).toNat 0) 0)=mo.getD i 0
  rw[decide_eq_true (show((i:Nat):Int)≥0 by omega)];rfl
 ·rfl
namespace M
def askM(n:Nat):List Int:=unitL (n+1) n (-1)
def wtsM(mo:List Int)(de:List Dem):Ws:=weights (askM mo.length) (planes mo de [-1]) de.length mo.length
end M
theorem askM_at(n c:Nat):(M.askM n).getD c 0=if c=n then -1 else 0:=unit_en (Nat.lt_succ_self n)
theorem ask_m(n:Nat):Ask (n+1) 100 (M.askM n):=by
 refine⟨by simp[M.askM,M.unitL],fun x hx=>?_⟩
 obtain⟨k,_,rfl⟩:=mem_getD hx
 rw[askM_at]
 split <;>decide
theorem dl_unit{m i:Nat}{v:Int}(hi:i<m)(a:List Int):dl m a (M.unitL m i v)=en a i*v:=by
 unfold dl
 rw[smI_congr (h:=fun c=>if i=c then en a i*v else 0) (fun c _=>by
  rw[unit_en hi]
  by_cases h:c=i
  ·subst h;rw[if_pos rfl,if_pos rfl]
  ·rw[if_neg h,if_neg (fun h'=>h h'.symm),Int.mul_zero])]
 exact smI_one hi
theorem dl_unitL{m i:Nat}{v:Int}(hi:i<m)(x:List Int):dl m (M.unitL m i v) x=v*en x i:=by
 have:=dl_unit hi x (v:=v)
 unfold dl at this ⊢
 rw[smI_congr (h:=fun c=>en x c*en (M.unitL m i v) c) (fun c _=>Int.mul_comm _ _),this,Int.mul_comm]
theorem dl_more{n:Nat}{co:List Int}(hl:co.length=n)(v:Int)(x:List Int):dl (n+1) (co++ [v]) x=dl n co x+v*en x n:=by
 unfold dl
 rw[List.range_succ,smI_append]
 have e1:smI (fun c=>en (co++ [v]) c*en x c) (List.range n)=smI (fun c=>en co c*en x c) (List.range n):=smI_congr fun c hc=>by
  have hc:=List.mem_range.1 hc
  congr 1
  unfold en
  rw[List.getD_eq_getElem?_getD,List.getElem?_append_left (by omega),←List.getD_eq_getElem?_getD]
 have e2:smI (fun c=>en (co++ [v]) c*en x c) [n]=v*en x n:=by
  have:en (co++ [v]) n=v:=by
   unfold en
   rw[List.getD_eq_getElem?_getD,List.getElem?_append_right (by omega),hl,Nat.sub_self];rfl
  show en (co++ [v]) n*en x n+0=_
  rw[this,Int.add_zero]
 rw[e1,e2]
theorem way_pt(hR:RightP mo ga de):PtOK (mo.length+1) (M.planes mo de [-1]) (M.unitL (mo.length+1) mo.length 1000000) 1:=by
 refine⟨by decide,fun p hp=>?_⟩
 rw[dl_unit (Nat.lt_succ_self _),Int.mul_one]
 rcases planes_cases hp with⟨j,hj,rfl⟩|⟨i,hi,rfl⟩|⟨i,hi,rfl⟩
 ·have hd:=hR.rd _ (getD_mem (d:=dfD) hj)
  show en ((de.getD j dfD).co++ [-1]) mo.length*1000000≤(de.getD j dfD).am
  have:en ((de.getD j dfD).co++ [-1]) mo.length= -1:=by
   unfold en
   rw[List.getD_eq_getElem?_getD,List.getElem?_append_right (by omega),hd.1,Nat.sub_self];rfl
  rw[this];omega
 ·have hi':i<mo.length + [(-1:Int)].length:=by omega
  show en (M.unitL (mo.length + [(-1:Int)].length) i 1) mo.length*1000000≤mo.getD i 0
  rw[unit_en hi',if_neg (by omega)]
  have:=hR.rm _ (getD_mem (d:=(0:Int)) hi)
  omega
 ·show en (M.unitL (mo.length + [(-1:Int)].length) i (-1)) mo.length*1000000≤0
  rw[unit_en hi]
  split <;>decide
theorem way_none(hR:RightP mo ga de){x:List Int}{d:Int}(h:PtOK (mo.length+1) (M.planes mo de [-1]) x d)(hx:en x mo.length≤0):PtOK mo.length (M.planes mo de []) x d:=by
 have hall:=h.2
 have hmem:∀p,p∈(List.range de.length).map (M.pDe [-1] de)++((List.range mo.length).map (M.pMo (mo.length + [(-1:Int)].length) mo)++(List.range (mo.length + [(-1:Int)].length)).map (M.pNn (mo.length + [(-1:Int)].length)))→dl (mo.length+1) p.co x≤p.am*d:=hall
 have h0:∀k,k<mo.length→0≤en x k:=fun k hk=>by
  have:=hmem (M.pNn (mo.length + [(-1:Int)].length) k) (List.mem_append_right _ (List.mem_append_right _ (List.mem_map_of_mem (List.mem_range.2 (by omega)))))
  have e:dl (mo.length+1) (M.unitL (mo.length+1) k (-1)) x≤0*d:=this
  rw[dl_unitL (by omega)]at e
  omega
 refine⟨h.1,allowed_planes hR h0 ⟨fun i hi=>?_,fun j hj=>?_⟩⟩
 ·have:=hmem (M.pMo (mo.length + [(-1:Int)].length) mo i) (List.mem_append_right _ (List.mem_append_left _ (List.mem_map_of_mem (List.mem_range.2 hi))))
  have e:dl (mo.length+1) (M.unitL (mo.length+1) i 1) x≤mo.getD i 0*d:=this
  rw[dl_unitL (by omega)]at e
  show en x i≤_
  omega
 ·have:=hmem (M.pDe [-1] de j) (List.mem_append_left _ (List.mem_map_of_mem (List.mem_range.2 hj)))
  have e:dl (mo.length+1) ((de.getD j dfD).co++ [-1]) x≤(de.getD j dfD).am*d:=this
  rw[dl_more (hR.rd _ (getD_mem (d:=dfD) hj)).1]at e
  rw[←dlK]
  omega
theorem refute_ok(hR:RightP mo ga de)(s1:mo.length≤3)(hno:¬HasPoint mo.length (M.planes mo de [])) :
  M.wErr mo de (M.wtsM mo de).od (M.wtsM mo de).wd (M.wtsM mo de).wt=0∧M.refu mo de (M.wtsM mo de).wd (M.wtsM mo de).wt=true∧0<(M.wtsM mo de).od:=by
 have hok:=okP hR s1
 have hsm:=hok.smallM
 have hask:=ask_m mo.length
 have hst:=start_lp (mo:=mo) (de:=de) (more:=[-1]) (K:=100) (by simp;omega) (asked:=M.askM mo.length) (by simpa using hask) (fun i hi=>by
  rw[askM_at];split <;>decide)
 simp only[List.length_cons,List.length_nil,Nat.zero_add]at hst
 rcases one_of hsm (asked:=M.askM mo.length) (K:=100) (nd:=de.length) (nm:=mo.length) (by decide) (by decide) hask hst with⟨hn,_⟩|⟨_,t,v,u,ht,hw,hwd,hwt,hu,hcor,hgd,hnum,hwb,_⟩
 ·exact absurd (pt_has (way_pt hR)) hn
 ·have hw:Wt (mo.length+1) 100 t (M.askM mo.length) v (M.wtsM mo de).od:=hw
  have hwd:(M.wtsM mo de).wd=(M.putW t v t.length (List.replicate de.length 0,List.replicate mo.length 0)).1:=hwd
  have hwt:(M.wtsM mo de).wt=(M.putW t v t.length (List.replicate de.length 0,List.replicate mo.length 0)).2:=hwt
  obtain⟨b,hb⟩:∃b,b=M.best (M.askM mo.length) (M.planes mo de [-1]) (mo.length+1):=⟨_,rfl⟩
  rw[←hb]at hcor hgd hnum hwb
  have hwb:b.num*(M.wtsM mo de).od=wsum (mo.length+1) t v*b.ad:=hwb
  have had:=hcor.sol.pos
  have hop:=hw.sol.pos
  have hob:=hw.sol.db
  have hneg:b.num<0:=by
   apply Classical.byContradiction
   intro h
   unfold M.askM at hnum
   rw[dl_unitL (Nat.lt_succ_self _)]at hnum
   exact hno (pt_has (way_none hR (cor_pt hcor) (by omega)))
  have hws:wsum (mo.length+1) t v<0:=by
   apply Classical.byContradiction
   intro h
   have h1:=Int.mul_nonneg (Int.not_lt.1 h) (Int.le_of_lt had)
   have h2:=Int.mul_lt_mul_of_pos_right hneg hop
   rw[Int.zero_mul]at h2
   omega
  obtain⟨htm,htl⟩:=sub_mem ht
  obtain⟨wd,hwd0⟩:∃wd,wd=(M.wtsM mo de).wd:=⟨_,rfl⟩
  obtain⟨wt,hwt0⟩:∃wt,wt=(M.wtsM mo de).wt:=⟨_,rfl⟩
  obtain⟨od,hod0⟩:∃od,od=(M.wtsM mo de).od:=⟨_,rfl⟩
  rw[←hwd0]at hwd ⊢
  rw[←hwt0]at hwt ⊢
  rw[←hod0]at hw hop hob ⊢
  have hok:∀p,p∈t→(p.de≥0→p.de.toNat<de.length)∧(p.dr≥0→p.dr.toNat<mo.length):=fun p hp=>by
   have:=planes_ok p (htm p hp)
   unfold PlOK at this
   refine⟨fun h=>?_,fun h=>?_⟩
   ·have:=this.1 h;omega
   ·have:=this.2 h;omega
  have hv:∀k,0≤v.getD k 0∧v.getD k 0≤2400000000:=fun k=>by
   have:=hw.nn k
   have:=hw.sol.nb k
   omega
  have key:∀A B:Nat→Int,wd.length=de.length∧wt.length=mo.length∧(∀x,x∈wd→0≤x∧x≤2400000000)∧(∀x,x∈wt→0≤x∧x≤2400000000)∧smI (fun j=>wd.getD j 0*A j) (List.range de.length)+smI (fun i=>wt.getD i 0*B i) (List.range mo.length)=smI (fun q=>v.getD q 0*worthP A B (t.getD q dfP)) (List.range (mo.length+1)):=by
   intro A B
   obtain⟨i1,i2,i3,i4,_,i6⟩:=put_sum (nd:=de.length) (nm:=mo.length) (A:=A) (B:=B) (K:=2400000000) (by decide) hok (apart_subM (mem_subs.1 ht).1) hv t.length (Nat.le_refl _)
   rw[←hwd]at i1 i3
   rw[←hwt]at i2 i4
   unfold sumW at i6
   rw[←hwd,←hwt]at i6
   rw[htl]at i6
   exact⟨i1,i2,i3,i4,i6⟩
  obtain⟨l1,l2,l3,l4,_⟩:=key (fun _=>0) (fun _=>0)
  have hE:M.wErr mo de od wd wt=0:=wErr_of l1 l2 ⟨hop,by omega⟩ (fun x hx=>by have:=l3 x hx;omega) (fun x hx=>by have:=l4 x hx;omega)
  refine⟨hE,?_,hop⟩
  have hput:M.putsF mo.length de wd wt (fun _=>0)=true:=by
   refine(puts_iff hR hE _).2 fun i hi=>?_
   have hk:=(key (fun j=>(de.getD j dfD).co.getD i 0) (fun k=>if k=i then 1 else 0)).2.2.2.2
   have hd:=hw.dual hsm htm htl (j:=i) (by omega)
   have e1:smI (fun k=>wt.getD k 0*(if k=i then 1 else 0)) (List.range mo.length)=wt.getD i 0:=by
    rw[smI_congr (h:=fun k=>if i=k then wt.getD i 0 else 0) (fun k _=>by
     by_cases h:k=i
     ·subst h;rw[if_pos rfl,if_pos rfl,Int.mul_one]
     ·rw[if_neg h,if_neg (fun h'=>h h'.symm),Int.mul_zero])]
    exact smI_one hi
   rw[e1]at hk
   unfold onX
   rw[sumK_smI,Int.add_comm,hk]
   have hd:smI (fun q=>en (t.getD q dfP).co i*en v q) (List.range (mo.length+1))=(M.askM mo.length).getD i 0*od:=hd
   rw[askM_at,if_neg (by omega),Int.zero_mul]at hd
   show 0≤_
   refine Int.le_trans (Int.le_of_eq hd.symm) ?_
   refine smI_le fun q hq=>?_
   have hq:=List.mem_range.1 hq
   have hm:=htm _ (getD_mem (d:=dfP) (show q<t.length by omega))
   rw[Int.mul_comm]
   exact Int.mul_le_mul_of_nonneg_left (worth_coM hR hi hm) (hw.nn q)
  unfold M.refu
  rw[hput,cond_true,(bnd_exact hR hE).1]
  have hk:=(key (fun j=>(de.getD j dfD).am) (fun i=>mo.getD i 0)).2.2.2.2
  have hx:bndX mo de wd wt=wsum (mo.length+1) t v:=by
   unfold bndX
   rw[dotK_smI,sumK_smI,l2,Int.add_comm,hk]
   unfold wsum
   exact smI_congr fun q hq=>by
    have hq:=List.mem_range.1 hq
    rw[worth_amM (htm _ (getD_mem (d:=dfP) (show q<t.length by omega)))];rfl
  rw[hx]
  exact decide_eq_true hws
end
end Go.Pl
end
section
set_option maxRecDepth 100000
namespace Go.Pl
open Go.V Go.Proofs
abbrev ak60(mo:List Int):List Int:=Enc.list eI (Int.toNat (IntKind.i64.wrap ((mo.length:Int)+1))) (putF (Int.toNat (mo.length:Int)) 0 1 [D.int .i64 (-1)] fun(_ j:Nat)=>List.getD [D.int .i64 0] j D.nilp)
abbrev ws60(mo:List Int)(de:List Dem):M.Ws:=M.weights (ak60 mo) (M.planes (xcI mo) (xcD de) [-1]) (List.length (xcD de)) (List.length mo)
namespace M
def refuteR(mo ga:List Int)(de:List Dem):(Int×List Int×List Int)×Int:=cond ((checkProg mo ga de).2 != 0) ((0,[],[]),(checkProg mo ga de).2) (cond (possible (planes mo de []) mo.length) ((0,[],[]),12) (((wtsM mo de).od,(wtsM mo de).wd,(wtsM mo de).wt),0))
def failP(mo:List Int)(de:List Dem)(k:Nat):Bool:=possible (planes mo (de.eraseIdx k) []) mo.length
def failing(mo ga:List Int)(de:List Dem):List Int×Int:=cond ((checkProg mo ga de).2 != 0) ([],(checkProg mo ga de).2) (cond (possible (planes mo de []) mo.length) ([],12) (bindK (failP mo de) de.length,0))
def failX(mo ga:List Int)(de:List Dem)(k:Nat):Bool:=(greatG mo ga (de.eraseIdx k)).2.2
def failingX(mo ga:List Int)(de:List Dem):List Int:=bindK (failX mo ga de) de.length
end M
def res60(x:(Int×List Int×List Int)×Int):List Ar:=[.agg [dI x.1.1,.sl false x.1.2.1.length 1 (eI.F x.1.2.1),.sl false x.1.2.2.length 1 (eI.F x.1.2.2)],rI x.2]
theorem ak_eq{mo:List Int}(h:mo.length≤1000000):eI.Is (Int.toNat (IntKind.i64.wrap ((mo.length:Int)+1))) (putF (Int.toNat (mo.length:Int)) 0 1 [D.int .i64 (-1)] fun(_ j:Nat)=>List.getD [D.int .i64 0] j D.nilp)∧ak60 mo=M.askM mo.length:=by
 have e:Int.toNat (IntKind.i64.wrap ((mo.length:Int)+1))=mo.length+1:=by rw[wrap_succ (by omega)];rfl
 unfold ak60
 rw[e]
 exact unit_row (n:=mo.length+1) (i:=mo.length) (m:=1) (v:= -1) (Nat.lt_succ_self _) rfl
def tr60(q_mo:Bool)(mo:List Int)(q_ga:Bool)(ga:List Int)(q_de:Bool)(de:List Dem):T (List Ar):=
  T.needs [Enc.Is eI mo.length (Enc.F eI mo),Enc.Is eI ga.length (Enc.F eI ga),Enc.Is eDm de.length (Enc.F eDm de),mo.length≤1000000,ga.length≤1000000,de.length≤1000000,(∀(d:Dem),d∈cD de→ByteArray.size (Dem.nm d)≤1000000∧List.length (Dem.co d)≤1000000)] (T.br (Prod.snd (M.checkProg (cI mo) (cI ga) (cD de)) != (0:Int)) (T.ret [Ar.agg [D.int IntKind.i64 (0:Int),D.sl false (0:Nat) (0:Nat) (fun(_ _:Nat)=>D.nilp),D.sl false (0:Nat) (0:Nat) (fun(_ _:Nat)=>D.nilp)],Ar.c (D.int IntKind.i64 (Prod.snd (M.checkProg (cI mo) (cI ga) (cD de))))]) (T.needs [Enc.Is eI mo.length (Enc.F eI (cI mo)),Enc.Is eI ga.length (Enc.F eI (cI ga)),Enc.Is eDm de.length (Enc.F eDm (cD de)),OkP mo.length (xcI mo) (xcI ga) (xcD de)] (T.br (M.possible (M.planes (xcI mo) (xcD de) []) mo.length) (T.ret [Ar.agg [D.int IntKind.i64 (0:Int),D.sl false (0:Nat) (0:Nat) (fun(_ _:Nat)=>D.nilp),D.sl false (0:Nat) (0:Nat) (fun(_ _:Nat)=>D.nilp)],Ar.c (D.int IntKind.i64 (12:Int))]) (T.needs [(0:Int)≤IntKind.i64.wrap ((mo.length:Int)+1),IntKind.i64.wrap ((mo.length:Int)+1)≤IntKind.i64.wrap ((mo.length:Int)+1),IntKind.i64.wrap ((mo.length:Int)+1)≤1000000,(0:Int)≤(mo.length:Int),(mo.length:Int)<(Nat.cast (R:=Int) (Int.toNat (IntKind.i64.wrap ((mo.length:Int)+1)))),Int.toNat (mo.length:Int)<Int.toNat (IntKind.i64.wrap ((mo.length:Int)+1)),Int.toNat (IntKind.i64.wrap ((mo.length:Int)+1))≤Int.toNat (IntKind.i64.wrap ((mo.length:Int)+1)),Enc.Is eI mo.length (Enc.F eI (cI mo)),Enc.Is eI ga.length (Enc.F eI (cI ga)),Enc.Is eDm de.length (Enc.F eDm (cD de)),(Enc.Is eI (Int.toNat (IntKind.i64.wrap ((mo.length:Int)+1))) (putF (Int.toNat (mo.length:Int)) (0:Nat) (1:Nat) [D.int IntKind.i64 (-1:Int)] fun(x j:Nat)=>List.getD [D.int IntKind.i64 (0:Int)] j D.nilp)),OkP mo.length (xcI mo) (xcI ga) (xcD de),Ask (mo.length+1) (100:Nat) (ak60 mo),(-1:Int)=(-1:Int)] (T.ret [Ar.agg [D.int IntKind.i64 (M.Ws.od (ws60 mo de)),D.sl false (List.length (M.Ws.wd (ws60 mo de))) (1:Nat) (Enc.F eI (M.Ws.wd (ws60 mo de))),D.sl false (List.length (M.Ws.wt (ws60 mo de))) (1:Nat) (Enc.F eI (M.Ws.wt (ws60 mo de)))],Ar.c (D.int IntKind.i64 (0:Int))])))))
theorem t60(q_mo:Bool)(mo:List Int)(q_ga:Bool)(ga:List Int)(q_de:Bool)(de:List Dem):runFnX Try.prog G0 (lookS [v83,v140,v86m]) (fun _=>[]) [] 1 60 3 60 Try.f60 [.agg [.sl q_mo mo.length 1 (eI.F mo),.sl q_ga ga.length 1 (eI.F ga),.sl q_de de.length 3 (eDm.F de)]] =
  tr60 q_mo mo q_ga ga q_de de:=by kernel_rfl
theorem w60(q_mo:Bool)(mo:List Int)(q_ga:Bool)(ga:List Int)(q_de:Bool)(de:List Dem)(h1:mo.length≤1000000)(h2:ga.length≤1000000)(h3:de.length≤1000000)(hn:∀d,d∈de→d.nm.size≤1000000∧d.co.length≤1000000)(hs:(M.checkProg mo ga de).2=0→mo.length≤3):(tr60 q_mo mo q_ga ga q_de de).wp (fun rs=>rsEqv rs (res60 (M.refuteR mo ga de))):=by
 obtain⟨k1,k2⟩:=ak_eq h1
 unfold tr60
 rw[ws60,k2]
 simp only[xcI,xcD,cI,cD,Enc.list_F]
 refine⟨Enc.is_F _ _ _,Enc.is_F _ _ _,Enc.is_F _ _ _,h1,h2,h3,hn,fun he=>?_,fun he=>?_⟩
 ·unfold M.refuteR
  rw[he]
  exact⟨⟨rfl,nil_eqv eI,nil_eqv eI,trivial⟩,rfl,trivial⟩
 ·have h0:(M.checkProg mo ga de).2=0:=by simpa using he
  have hR:=prog_right h0
  have l3:=hs h0
  have hok:=okP hR l3
  have e0:M.refuteR mo ga de=cond (M.possible (M.planes mo de []) mo.length) ((0,[],[]),12) (((M.wtsM mo de).od,(M.wtsM mo de).wd,(M.wtsM mo de).wt),0):=by unfold M.refuteR;rw[h0];rfl
  have hw:IntKind.i64.wrap ((mo.length:Int)+1)=((mo.length+1:Nat):Int):=wrap_succ (by omega)
  rw[e0]
  refine⟨Enc.is_F _ _ _,Enc.is_F _ _ _,Enc.is_F _ _ _,hok,fun hb=>?_,fun hb=>?_⟩
  ·rw[hb]
   exact⟨⟨rfl,nil_eqv eI,nil_eqv eI,trivial⟩,rfl,trivial⟩
  ·rw[hb,cond_false]
   exact⟨by rw[hw];omega,Int.le_refl _,by rw[hw];omega,by omega,by rw[hw];omega,by rw[hw];omega,Nat.le_refl _,Enc.is_F _ _ _,Enc.is_F _ _ _,Enc.is_F _ _ _,k1,hok,ask_m _,trivial,rsEqv_refl _⟩
def dom60:DomF
 |[.agg [.sl _ n_mo st_mo F_mo,.sl _ n_ga st_ga F_ga,.sl _ n_de st_de F_de]]=>(match Nat.beq st_mo 1&&Nat.beq st_ga 1&&Nat.beq st_de 3 with
  |true=>some ([eI.Is n_mo F_mo,eI.Is n_ga F_ga,eDm.Is n_de F_de,(eI.list n_mo F_mo).length≤1000000,(eI.list n_ga F_ga).length≤1000000,(eDm.list n_de F_de).length≤1000000,∀d,d∈(eDm.list n_de F_de)→d.nm.size≤1000000∧d.co.length≤1000000,(M.checkProg (eI.list n_mo F_mo) (eI.list n_ga F_ga) (eDm.list n_de F_de)).2=0→(eI.list n_mo F_mo).length≤3],res60 (M.refuteR (eI.list n_mo F_mo) (eI.list n_ga F_ga) (eDm.list n_de F_de)))
  |_=>none)
 |_=>none
def v60:Nat×Sm:=(60,fokSm dom60)
theorem C60:FOK Try.prog G0 gw 60 dom60:=by
 intro ags p r hd hp κ w xs hw hl hG hx
 unfold dom60 at hd
 split at hd
 ·rename_i q_mo n_mo st_mo F_mo q_ga n_ga st_ga F_ga q_de n_de st_de F_de
  split at hd
  ·rename_i hst
   simp only[Bool.and_eq_true]at hst
   obtain⟨⟨g1,g2⟩,g3⟩:=hst
   have g1:=Nat.eq_of_beq_eq_true g1
   have g2:=Nat.eq_of_beq_eq_true g2
   have g3:=Nat.eq_of_beq_eq_true g3
   subst g1 g2 g3
   simp only[Option.some.injEq,Prod.mk.injEq]at hd
   obtain⟨rfl,rfl⟩:=hd
   obtain⟨hI_mo,hI_ga,hI_de,hp⟩:=hp
   have heq:agsEqv [.agg [.sl q_mo n_mo 1 F_mo,.sl q_ga n_ga 1 F_ga,.sl q_de n_de 3 F_de]] [.agg [.sl q_mo (eI.list n_mo F_mo).length 1 (eI.F (eI.list n_mo F_mo)),.sl q_ga (eI.list n_ga F_ga).length 1 (eI.F (eI.list n_ga F_ga)),.sl q_de (eDm.list n_de F_de).length 3 (eDm.F (eDm.list n_de F_de))]]:=⟨⟨eI.to id hI_mo,eI.to id hI_ga,eDm.to id hI_de,trivial⟩,trivial⟩
   have len_mo:(eI.list n_mo F_mo).length=n_mo:=eI.list_len
   have len_ga:(eI.list n_ga F_ga).length=n_ga:=eI.list_len
   have len_de:(eDm.list n_de F_de).length=n_de:=eDm.list_len
   generalize eI.list n_mo F_mo=mo at *
   generalize eI.list n_ga F_ga=ga at *
   generalize eDm.list n_de F_de=de at *
   subst len_mo len_ga len_de
   exact fokX_fin mixed gw_stable (sl:=[v83,v140,v86m]) ⟨S83,S140,S86m,trivial⟩ Try.func60 hw hl hG hx heq rfl (t60 _ _ _ _ _ _) (w60 _ _ _ _ _ _ hp.1 hp.2.1 hp.2.2.1 hp.2.2.2.1 hp.2.2.2.2.1)
  ·cases hd
 ·cases hd
theorem S60:SumOK Try.prog G0 gw 60 (fokSm dom60):=fok_sum Try.func60 rfl C60
def tr61(q_mo:Bool)(mo:List Int)(q_ga:Bool)(ga:List Int)(q_de:Bool)(de:List Dem):T (List Ar):=
  T.needs [Enc.Is eI mo.length (Enc.F eI mo),Enc.Is eI ga.length (Enc.F eI ga),Enc.Is eDm de.length (Enc.F eDm de),mo.length≤1000000,ga.length≤1000000,de.length≤1000000,(∀(d:Dem),d∈cD de→ByteArray.size (Dem.nm d)≤1000000∧List.length (Dem.co d)≤1000000)] (T.br (Prod.snd (M.checkProg (cI mo) (cI ga) (cD de)) != (0:Int)) (T.ret [Ar.c (D.sl false (0:Nat) (0:Nat) (fun(_ _:Nat)=>D.nilp)),Ar.c (D.int IntKind.i64 (Prod.snd (M.checkProg (cI mo) (cI ga) (cD de))))]) (T.needs [Enc.Is eI mo.length (Enc.F eI (cI mo)),Enc.Is eI ga.length (Enc.F eI (cI ga)),Enc.Is eDm de.length (Enc.F eDm (cD de)),OkP mo.length (xcI mo) (xcI ga) (xcD de)] (T.br (M.possible (M.planes (xcI mo) (xcD de) []) mo.length) (T.ret [Ar.c (D.sl false (0:Nat) (0:Nat) (fun(_ _:Nat)=>D.nilp)),Ar.c (D.int IntKind.i64 (12:Int))]) (T.loop2 (Int×PUnit×PUnit) (Int×List Int×PUnit) (Sum.inl ((0:Int),PUnit.unit,PUnit.unit)) (fun(x:Int×PUnit×PUnit)=>T.br (decide (x.1<(de.length:Int))) (T.needs [Enc.Is eI mo.length (Enc.F eI (cI mo)),Enc.Is eI ga.length (Enc.F eI (cI ga)),Enc.Is eDm de.length (Enc.F eDm (cD de)),(0:Int)≤x.1,List.length (xcI mo)≤1000000,List.length (xcI ga)≤1000000,List.length (xcD de)≤1000000,(∀(d:Dem),d∈xcD de→List.length (Dem.co d)≤1000000),Enc.Is eI (List.length (xcI mo)) (Enc.F eI (xcI mo)),Enc.Is eI (List.length (xcI ga)) (Enc.F eI (xcI ga)),Enc.Is eDm (List.length (M.erase (xcD de) x.1)) (Enc.F eDm (M.erase (xcD de) x.1)),OkP (List.length (xcI mo)) (Enc.list eI (List.length (xcI mo)) (Enc.F eI (xcI mo))) (Enc.list eI (List.length (xcI ga)) (Enc.F eI (xcI ga))) (Enc.list eDm (List.length (M.erase (xcD de) x.1)) (Enc.F eDm (M.erase (xcD de) x.1)))] (T.br (M.possible (M.planes (Enc.list eI (List.length (xcI mo)) (Enc.F eI (xcI mo))) (Enc.list eDm (List.length (M.erase (xcD de) x.1)) (Enc.F eDm (M.erase (xcD de) x.1))) []) (List.length (xcI mo))) (T.needs [(1:Nat)≤1000000,(Enc.Is eI (1:Nat) (joinF (0:Nat) ((fun(_ _:Nat)=>D.nilp)) fun(i j:Nat)=>List.getD [D.int IntKind.i64 x.1] (i*1+j) D.nilp)),(1:Nat)≤1] (T.ret (Sum.inl (Sum.inr (IntKind.i64.wrap (x.1+1),Enc.list eI (1:Nat) (joinF (0:Nat) ((fun(_ _:Nat)=>D.nilp)) fun(i j:Nat)=>List.getD [D.int IntKind.i64 x.1] (i*1+j) D.nilp),PUnit.unit))))) (T.ret (Sum.inl (Sum.inl (IntKind.i64.wrap (x.1+1),PUnit.unit,PUnit.unit)))))) (T.ret (Sum.inr [Ar.c (D.sl false (0:Nat) (0:Nat) (fun(_ _:Nat)=>D.nilp)),Ar.c (D.int IntKind.i64 (0:Int))]))) fun(y:Int×List Int×PUnit)=>T.br (decide (y.1<(de.length:Int))) (T.needs [Enc.Is eI mo.length (Enc.F eI (cI mo)),Enc.Is eI ga.length (Enc.F eI (cI ga)),Enc.Is eDm de.length (Enc.F eDm (cD de)),(0:Int)≤y.1,List.length (xcI mo)≤1000000,List.length (xcI ga)≤1000000,List.length (xcD de)≤1000000,(∀(d:Dem),d∈xcD de→List.length (Dem.co d)≤1000000),Enc.Is eI (List.length (xcI mo)) (Enc.F eI (xcI mo)),Enc.Is eI (List.length (xcI ga)) (Enc.F eI (xcI ga)),Enc.Is eDm (List.length (M.erase (xcD de) y.1)) (Enc.F eDm (M.erase (xcD de) y.1)),OkP (List.length (xcI mo)) (Enc.list eI (List.length (xcI mo)) (Enc.F eI (xcI mo))) (Enc.list eI (List.length (xcI ga)) (Enc.F eI (xcI ga))) (Enc.list eDm (List.length (M.erase (xcD de) y.1)) (Enc.F eDm (M.erase (xcD de) y.1)))] (T.br (M.possible (M.planes (Enc.list eI (List.length (xcI mo)) (Enc.F eI (xcI mo))) (Enc.list eDm (List.length (M.erase (xcD de) y.1)) (Enc.F eDm (M.erase (xcD de) y.1))) []) (List.length (xcI mo))) (T.needs [y.2.1.length+1≤1000000,y.2.1.length≤y.2.1.length,(Enc.Is eI (y.2.1.length+1) (joinF y.2.1.length (Enc.F eI y.2.1) fun(i j:Nat)=>List.getD [D.int IntKind.i64 y.1] (i*1+j) D.nilp)),y.2.1.length+1≤y.2.1.length+1] (T.ret (Sum.inl (Sum.inr (IntKind.i64.wrap (y.1+1),Enc.list eI (y.2.1.length+1) (joinF y.2.1.length (Enc.F eI y.2.1) fun(i j:Nat)=>List.getD [D.int IntKind.i64 y.1] (i*1+j) D.nilp),PUnit.unit))))) (T.need (Enc.Is eI y.2.1.length (Enc.F eI y.2.1)) (T.need (y.2.1.length≤y.2.1.length) (T.ret (Sum.inl (Sum.inr (IntKind.i64.wrap (y.1+1),Enc.list eI y.2.1.length (Enc.F eI y.2.1),PUnit.unit)))))))) (T.need (y.2.1.length≤y.2.1.length) (T.ret (Sum.inr [Ar.c (D.sl true y.2.1.length (1:Nat) (Enc.F eI y.2.1)),Ar.c (D.int IntKind.i64 (0:Int))])))))))
theorem t61(q_mo:Bool)(mo:List Int)(q_ga:Bool)(ga:List Int)(q_de:Bool)(de:List Dem):runFnX Try.prog G0 (lookS [v83,v140,v126]) (fun f=>if f=129 then[(3,[.slot 11 (.int .i64),.slot 5 .nsl],some [.slot 11 (.int .i64),.slot 5 (.rowE 3 eI)])]else[]) [129] 1 60 3 61 Try.f61 [.agg [.sl q_mo mo.length 1 (eI.F mo),.sl q_ga ga.length 1 (eI.F ga),.sl q_de de.length 3 (eDm.F de)]] =
  tr61 q_mo mo q_ga ga q_de de:=by kernel_rfl
theorem w61(q_mo:Bool)(mo:List Int)(q_ga:Bool)(ga:List Int)(q_de:Bool)(de:List Dem)(h1:mo.length≤1000000)(h2:ga.length≤1000000)(h3:de.length≤1000000)(hn:∀d,d∈de→d.nm.size≤1000000∧d.co.length≤1000000)(hs:(M.checkProg mo ga de).2=0→mo.length≤3) :
  (tr61 q_mo mo q_ga ga q_de de).wp (fun rs=>rsEqv rs [.c (.sl false (M.failing mo ga de).1.length 1 (eI.F (M.failing mo ga de).1)),rI (M.failing mo ga de).2]):=by
 unfold tr61
 simp only[xcI,xcD,cI,cD,Enc.list_F]
 refine⟨Enc.is_F _ _ _,Enc.is_F _ _ _,Enc.is_F _ _ _,h1,h2,h3,hn,fun he=>?_,fun he=>?_⟩
 ·unfold M.failing
  rw[he]
  exact⟨nil_eqv eI,rfl,trivial⟩
 ·have h0:(M.checkProg mo ga de).2=0:=by simpa using he
  have hR:=prog_right h0
  have l3:=hs h0
  have hok:=okP hR l3
  have e0:M.failing mo ga de=cond (M.possible (M.planes mo de []) mo.length) ([],12) (M.bindK (M.failP mo de) de.length,0):=by unfold M.failing;rw[h0];rfl
  rw[e0]
  refine⟨Enc.is_F _ _ _,Enc.is_F _ _ _,Enc.is_F _ _ _,hok,fun hb=>?_,fun hb=>?_⟩
  ·rw[hb]
   exact⟨nil_eqv eI,rfl,trivial⟩
  ·rw[hb,cond_false]
   have hokE:∀k:Nat,OkP mo.length mo ga (de.eraseIdx k):=fun k=>okP (right_erase hR k) l3
   have hco:∀d,d∈de→d.co.length≤1000000:=fun d hd=>(hn d hd).2
   refine⟨fun z=>match z with
    |.inl x=>∃k:Nat,k≤de.length∧x=((k:Int),PUnit.unit,PUnit.unit)∧M.bindK (M.failP mo de) k=[]
    |.inr y=>∃k:Nat,k≤de.length∧y.1=k∧y.2.1=M.bindK (M.failP mo de) k,
    fun z=>match z with|.inl x=>de.length-x.1.toNat|.inr y=>de.length-y.1.toNat,⟨0,Nat.zero_le _,rfl,rfl⟩,?_,?_⟩
   ·rintro x ⟨k,hk,rfl,h0⟩
    have hw:IntKind.i64.wrap ((k:Int)+1)=((k+1:Nat):Int):=wrap_succ (by omega)
    refine⟨fun hb=>?_,fun hb=>?_⟩
    ·have hlt:=lt_of_dec hb
     have mu:de.length-(IntKind.i64.wrap ((k:Int)+1)).toNat<de.length-(k:Int).toNat:=by rw[hw];omega
     refine⟨Enc.is_F _ _ _,Enc.is_F _ _ _,Enc.is_F _ _ _,by dsimp only;omega,h1,h2,h3,hco,Enc.is_F _ _ _,Enc.is_F _ _ _,Enc.is_F _ _ _,hokE k,fun hx=>?_,fun hx=>?_⟩
     ·have hx:M.failP mo de k=true:=hx
      obtain⟨o1,o2⟩:=push_one eI (F:=fun _ _=>.nilp) (G:=inQ (k:Int)) inQ_push.1 inQ_push.2
      have o3:[(k:Int)]=M.bindK (M.failP mo de) (k+1):=by rw[bindK_succ,if_pos hx,h0];rfl
      exact⟨by decide,o1,Nat.le_refl _,⟨k+1,hlt,hw,o2.trans o3⟩,mu⟩
     ·have hx:¬M.failP mo de k=true:=by
       have hx:M.failP mo de k=false:=hx
       rw[hx];decide
      exact⟨⟨k+1,hlt,by rw[hw],by rw[bindK_succ,if_neg hx,h0];rfl⟩,mu⟩
    ·have hge:=ge_of_dec hb
     obtain rfl:k=de.length:=by omega
     rw[h0]
     exact⟨nil_eqv eI,rfl,trivial⟩
   ·rintro ⟨y,acc,u⟩ ⟨k,g2,g3,g4⟩
    simp only at g3 g4
    subst g3
    have hacc:acc.length≤k:=by rw[g4];exact bindK_len _ _
    have hw:IntKind.i64.wrap ((k:Int)+1)=((k+1:Nat):Int):=wrap_succ (by omega)
    have mu:k<de.length→de.length-(IntKind.i64.wrap ((k:Int)+1)).toNat<de.length-(k:Int).toNat:=by intro _;rw[hw];omega
    refine⟨fun hb=>?_,fun hb=>?_⟩
    ·have hlt:=lt_of_dec hb
     refine⟨Enc.is_F _ _ _,Enc.is_F _ _ _,Enc.is_F _ _ _,by dsimp only;omega,h1,h2,h3,hco,Enc.is_F _ _ _,Enc.is_F _ _ _,Enc.is_F _ _ _,hokE k,fun hx=>?_,fun hx=>?_⟩
     ·have hx:M.failP mo de k=true:=hx
      obtain⟨o1,o2⟩:=eI.push (l:=acc) (a:=(k:Int)) (G:=inQ (k:Int)) inQ_push.1 inQ_push.2
      have o3:acc++ [(k:Int)]=M.bindK (M.failP mo de) (k+1):=by rw[bindK_succ,if_pos hx,g4]
      exact⟨by dsimp only;omega,Nat.le_refl _,o1,Nat.le_refl _,⟨k+1,hlt,hw,o2.trans o3⟩,mu hlt⟩
     ·have hx:¬M.failP mo de k=true:=by
       have hx:M.failP mo de k=false:=hx
       rw[hx];decide
      have o3:acc=M.bindK (M.failP mo de) (k+1):=by rw[bindK_succ,if_neg hx,g4,List.append_nil]
      exact⟨Enc.is_F _ _ _,Nat.le_refl _,⟨k+1,hlt,hw,o3⟩,mu hlt⟩
    ·have hge:=ge_of_dec hb
     obtain rfl:k=de.length:=by omega
     rw[←g4]
     exact⟨Nat.le_refl _,⟨(fun e=>by cases e),rfl,fun _=>rfl,fun i j hi hj=>D.eqv_refl _⟩,rfl,trivial⟩
def dom61:DomF
 |[.agg [.sl _ n_mo st_mo F_mo,.sl _ n_ga st_ga F_ga,.sl _ n_de st_de F_de]]=>(match Nat.beq st_mo 1&&Nat.beq st_ga 1&&Nat.beq st_de 3 with
  |true=>some ([eI.Is n_mo F_mo,eI.Is n_ga F_ga,eDm.Is n_de F_de,(eI.list n_mo F_mo).length≤1000000,(eI.list n_ga F_ga).length≤1000000,(eDm.list n_de F_de).length≤1000000,∀d,d∈(eDm.list n_de F_de)→d.nm.size≤1000000∧d.co.length≤1000000,(M.checkProg (eI.list n_mo F_mo) (eI.list n_ga F_ga) (eDm.list n_de F_de)).2=0→(eI.list n_mo F_mo).length≤3],[.c (.sl false (M.failing (eI.list n_mo F_mo) (eI.list n_ga F_ga) (eDm.list n_de F_de)).1.length 1 (eI.F (M.failing (eI.list n_mo F_mo) (eI.list n_ga F_ga) (eDm.list n_de F_de)).1)),rI (M.failing (eI.list n_mo F_mo) (eI.list n_ga F_ga) (eDm.list n_de F_de)).2])
  |_=>none)
 |_=>none
def v61:Nat×Sm:=(61,fokSm dom61)
theorem C61:FOK Try.prog G0 gw 61 dom61:=by
 intro ags p r hd hp κ w xs hw hl hG hx
 unfold dom61 at hd
 split at hd
 ·rename_i q_mo n_mo st_mo F_mo q_ga n_ga st_ga F_ga q_de n_de st_de F_de
  split at hd
  ·rename_i hst
   simp only[Bool.and_eq_true]at hst
   obtain⟨⟨g1,g2⟩,g3⟩:=hst
   have g1:=Nat.eq_of_beq_eq_true g1
   have g2:=Nat.eq_of_beq_eq_true g2
   have g3:=Nat.eq_of_beq_eq_true g3
   subst g1 g2 g3
   simp only[Option.some.injEq,Prod.mk.injEq]at hd
   obtain⟨rfl,rfl⟩:=hd
   obtain⟨hI_mo,hI_ga,hI_de,hp⟩:=hp
   have heq:agsEqv [.agg [.sl q_mo n_mo 1 F_mo,.sl q_ga n_ga 1 F_ga,.sl q_de n_de 3 F_de]] [.agg [.sl q_mo (eI.list n_mo F_mo).length 1 (eI.F (eI.list n_mo F_mo)),.sl q_ga (eI.list n_ga F_ga).length 1 (eI.F (eI.list n_ga F_ga)),.sl q_de (eDm.list n_de F_de).length 3 (eDm.F (eDm.list n_de F_de))]]:=⟨⟨eI.to id hI_mo,eI.to id hI_ga,eDm.to id hI_de,trivial⟩,trivial⟩
   have len_mo:(eI.list n_mo F_mo).length=n_mo:=eI.list_len
   have len_ga:(eI.list n_ga F_ga).length=n_ga:=eI.list_len
   have len_de:(eDm.list n_de F_de).length=n_de:=eDm.list_len
   generalize eI.list n_mo F_mo=mo at *
   generalize eI.list n_ga F_ga=ga at *
   generalize eDm.list n_de F_de=de at *
   subst len_mo len_ga len_de
   exact fokX_fin mixed gw_stable (sl:=[v83,v140,v126]) ⟨S83,S140,S126,trivial⟩ Try.func61 hw hl hG hx heq rfl (t61 _ _ _ _ _ _) (w61 _ _ _ _ _ _ hp.1 hp.2.1 hp.2.2.1 hp.2.2.2.1 hp.2.2.2.2.1)
  ·cases hd
 ·cases hd
theorem S61:SumOK Try.prog G0 gw 61 (fokSm dom61):=fok_sum Try.func61 rfl C61
def tr62(q_mo:Bool)(mo:List Int)(q_ga:Bool)(ga:List Int)(q_de:Bool)(de:List Dem):T (List Ar):=
  T.loop2 (Int×PUnit×PUnit) (Int×List Int×PUnit) (Sum.inl ((0:Int),PUnit.unit,PUnit.unit)) (fun(x:Int×PUnit×PUnit)=>T.br (decide (x.1<(de.length:Int))) (T.needs [iI mo,iI ga,iD de,(0:Int)≤x.1,x.1<((cD de).length:Int),List.length (cI mo)≤1000000,List.length (cI ga)≤1000000,List.length (cD de)≤1000000,(∀(d:Dem),d∈cD de→List.length (Dem.co d)≤1000000),iI (cI mo),iI (cI ga),Enc.Is eDm (List.length (M.erase (cD de) x.1)) (Enc.F eDm (M.erase (cD de) x.1)),GrOk (cI (cI mo)) (cI (cI ga)) (Enc.list eDm (List.length (M.erase (cD de) x.1)) (Enc.F eDm (M.erase (cD de) x.1)))] (T.br (Prod.snd (Prod.snd (M.greatG (cI (cI mo)) (cI (cI ga)) (Enc.list eDm (List.length (M.erase (cD de) x.1)) (Enc.F eDm (M.erase (cD de) x.1)))))) (T.needs [(1:Nat)≤1000000,(Enc.Is eI (1:Nat) (joinF (0:Nat) (fun(_ _:Nat)=>D.nilp) fun(i j:Nat)=>List.getD [D.int IntKind.i64 x.1] (i*1+j) D.nilp)),(1:Nat)≤1] (T.ret (Sum.inl (Sum.inr (IntKind.i64.wrap (x.1+1),Enc.list eI (1:Nat) (joinF (0:Nat) (fun(_ _:Nat)=>D.nilp) fun(i j:Nat)=>List.getD [D.int IntKind.i64 x.1] (i*1+j) D.nilp),PUnit.unit))))) (T.ret (Sum.inl (Sum.inl (IntKind.i64.wrap (x.1+1),PUnit.unit,PUnit.unit)))))) (T.ret (Sum.inr [Ar.c (D.sl false (0:Nat) (0:Nat) fun(_ _:Nat)=>D.nilp)]))) fun(y:Int×List Int×PUnit)=>T.br (decide (y.1<(de.length:Int))) (T.needs [iI mo,iI ga,iD de,(0:Int)≤y.1,y.1<((cD de).length:Int),List.length (cI mo)≤1000000,List.length (cI ga)≤1000000,List.length (cD de)≤1000000,(∀(d:Dem),d∈cD de→List.length (Dem.co d)≤1000000),iI (cI mo),iI (cI ga),Enc.Is eDm (List.length (M.erase (cD de) y.1)) (Enc.F eDm (M.erase (cD de) y.1)),GrOk (cI (cI mo)) (cI (cI ga)) (Enc.list eDm (List.length (M.erase (cD de) y.1)) (Enc.F eDm (M.erase (cD de) y.1)))] (T.br (Prod.snd (Prod.snd (M.greatG (cI (cI mo)) (cI (cI ga)) (Enc.list eDm (List.length (M.erase (cD de) y.1)) (Enc.F eDm (M.erase (cD de) y.1)))))) (T.needs [y.2.1.length+1≤1000000,y.2.1.length≤y.2.1.length,(Enc.Is eI (y.2.1.length+1) (joinF y.2.1.length (Enc.F eI y.2.1) fun(i j:Nat)=>List.getD [D.int IntKind.i64 y.1] (i*1+j) D.nilp)),y.2.1.length+1≤y.2.1.length+1] (T.ret (Sum.inl (Sum.inr (IntKind.i64.wrap (y.1+1),Enc.list eI (y.2.1.length+1) (joinF y.2.1.length (Enc.F eI y.2.1) fun(i j:Nat)=>List.getD [D.int IntKind.i64 y.1] (i*1+j) D.nilp),PUnit.unit))))) (T.need (Enc.Is eI y.2.1.length (Enc.F eI y.2.1)) (T.need (y.2.1.length≤y.2.1.length) (T.ret (Sum.inl (Sum.inr (IntKind.i64.wrap (y.1+1),Enc.list eI y.2.1.length (Enc.F eI y.2.1),PUnit.unit)))))))) (T.need (y.2.1.length≤y.2.1.length) (T.ret (Sum.inr [Ar.c (D.sl true y.2.1.length (1:Nat) (Enc.F eI y.2.1))])))
theorem t62(q_mo:Bool)(mo:List Int)(q_ga:Bool)(ga:List Int)(q_de:Bool)(de:List Dem):runFnX Try.prog G0 (lookS [v20,v47]) (fun _=>[(3,[.slot 4 (.int .i64),.slot 3 .nsl],some [.slot 4 (.int .i64),.slot 3 (.rowE 3 eI)])]) [] 1 60 3 62 Try.f62 [.agg [.sl q_mo mo.length 1 (eI.F mo),.sl q_ga ga.length 1 (eI.F ga),.sl q_de de.length 3 (eDm.F de)]] =
  tr62 q_mo mo q_ga ga q_de de:=by kernel_rfl
theorem w62(q_mo:Bool)(mo:List Int)(q_ga:Bool)(ga:List Int)(q_de:Bool)(de:List Dem)(hR:RightP mo ga de)(l3:mo.length≤3) :
  (tr62 q_mo mo q_ga ga q_de de).wp (fun rs=>rsEqv rs [.c (.sl false (M.failingX mo ga de).length 1 (eI.F (M.failingX mo ga de)))]):=by
 unfold tr62 M.failingX
 simp only[cI,cD,iI,iD,Enc.list_F]
 have h1:mo.length≤1000000:=by omega
 have h2:ga.length≤1000000:=by have:=hR.lg;omega
 have h3:de.length≤1000000:=by have:=hR.ld;omega
 have hco:∀d,d∈de→d.co.length≤1000000:=fun d hd=>by have:=(hR.rd d hd).1;omega
 have grE:=fun k:Nat=>gr_ok (right_erase hR k) l3
 refine⟨fun z=>match z with
  |.inl x=>∃k:Nat,k≤de.length∧x=((k:Int),PUnit.unit,PUnit.unit)∧M.bindK (M.failX mo ga de) k=[]
  |.inr y=>∃k:Nat,k≤de.length∧y.1=k∧y.2.1=M.bindK (M.failX mo ga de) k,
  fun z=>match z with|.inl x=>de.length-x.1.toNat|.inr y=>de.length-y.1.toNat,⟨0,Nat.zero_le _,rfl,rfl⟩,?_,?_⟩
 ·rintro x ⟨k,hk,rfl,h0⟩
  have hw:IntKind.i64.wrap ((k:Int)+1)=((k+1:Nat):Int):=wrap_succ (by omega)
  refine⟨fun hb=>?_,fun hb=>?_⟩
  ·have hlt:=lt_of_dec hb
   have mu:de.length-(IntKind.i64.wrap ((k:Int)+1)).toNat<de.length-(k:Int).toNat:=by rw[hw];omega
   refine⟨Enc.is_F _ _ _,Enc.is_F _ _ _,Enc.is_F _ _ _,by dsimp only;omega,by dsimp only;omega,h1,h2,h3,hco,Enc.is_F _ _ _,Enc.is_F _ _ _,Enc.is_F _ _ _,grE k,fun hx=>?_,fun hx=>?_⟩
   ·have hx:M.failX mo ga de k=true:=hx
    obtain⟨o1,o2⟩:=push_one eI (F:=fun _ _=>.nilp) (G:=inQ (k:Int)) inQ_push.1 inQ_push.2
    have o3:[(k:Int)]=M.bindK (M.failX mo ga de) (k+1):=by rw[bindK_succ,if_pos hx,h0];rfl
    exact⟨by decide,o1,Nat.le_refl _,⟨k+1,hlt,hw,o2.trans o3⟩,mu⟩
   ·have hx:¬M.failX mo ga de k=true:=by
     have hx:M.failX mo ga de k=false:=hx
     rw[hx];decide
    exact⟨⟨k+1,hlt,by rw[hw],by rw[bindK_succ,if_neg hx,h0];rfl⟩,mu⟩
  ·have hge:=ge_of_dec hb
   obtain rfl:k=de.length:=by omega
   rw[h0]
   exact⟨nil_eqv eI,trivial⟩
 ·rintro ⟨y,acc,u⟩ ⟨k,g2,g3,g4⟩
  simp only at g3 g4
  subst g3
  have hacc:acc.length≤k:=by rw[g4];exact bindK_len _ _
  have hw:IntKind.i64.wrap ((k:Int)+1)=((k+1:Nat):Int):=wrap_succ (by omega)
  have mu:k<de.length→de.length-(IntKind.i64.wrap ((k:Int)+1)).toNat<de.length-(k:Int).toNat:=by intro _;rw[hw];omega
  refine⟨fun hb=>?_,fun hb=>?_⟩
  ·have hlt:=lt_of_dec hb
   refine⟨Enc.is_F _ _ _,Enc.is_F _ _ _,Enc.is_F _ _ _,by dsimp only;omega,by dsimp only;omega,h1,h2,h3,hco,Enc.is_F _ _ _,Enc.is_F _ _ _,Enc.is_F _ _ _,grE k,fun hx=>?_,fun hx=>?_⟩
   ·have hx:M.failX mo ga de k=true:=hx
    obtain⟨o1,o2⟩:=eI.push (l:=acc) (a:=(k:Int)) (G:=inQ (k:Int)) inQ_push.1 inQ_push.2
    have o3:acc++ [(k:Int)]=M.bindK (M.failX mo ga de) (k+1):=by rw[bindK_succ,if_pos hx,g4]
    exact⟨by dsimp only;omega,Nat.le_refl _,o1,Nat.le_refl _,⟨k+1,hlt,hw,o2.trans o3⟩,mu hlt⟩
   ·have hx:¬M.failX mo ga de k=true:=by
     have hx:M.failX mo ga de k=false:=hx
     rw[hx];decide
    have o3:acc=M.bindK (M.failX mo ga de) (k+1):=by rw[bindK_succ,if_neg hx,g4,List.append_nil]
    exact⟨Enc.is_F _ _ _,Nat.le_refl _,⟨k+1,hlt,hw,o3⟩,mu hlt⟩
  ·have hge:=ge_of_dec hb
   obtain rfl:k=de.length:=by omega
   rw[←g4]
   exact⟨Nat.le_refl _,⟨(fun e=>by cases e),rfl,fun _=>rfl,fun i j hi hj=>D.eqv_refl _⟩,trivial⟩
def dom62:DomF
 |[.agg [.sl _ n_mo st_mo F_mo,.sl _ n_ga st_ga F_ga,.sl _ n_de st_de F_de]]=>(match Nat.beq st_mo 1&&Nat.beq st_ga 1&&Nat.beq st_de 3 with
  |true=>some ([eI.Is n_mo F_mo,eI.Is n_ga F_ga,eDm.Is n_de F_de,RightP (eI.list n_mo F_mo) (eI.list n_ga F_ga) (eDm.list n_de F_de),(eI.list n_mo F_mo).length≤3],[.c (.sl false (M.failingX (eI.list n_mo F_mo) (eI.list n_ga F_ga) (eDm.list n_de F_de)).length 1 (eI.F (M.failingX (eI.list n_mo F_mo) (eI.list n_ga F_ga) (eDm.list n_de F_de))))])
  |_=>none)
 |_=>none
def v62:Nat×Sm:=(62,fokSm dom62)
theorem C62:FOK Try.prog G0 gw 62 dom62:=by
 intro ags p r hd hp κ w xs hw hl hG hx
 unfold dom62 at hd
 split at hd
 ·rename_i q_mo n_mo st_mo F_mo q_ga n_ga st_ga F_ga q_de n_de st_de F_de
  split at hd
  ·rename_i hst
   simp only[Bool.and_eq_true]at hst
   obtain⟨⟨g1,g2⟩,g3⟩:=hst
   have g1:=Nat.eq_of_beq_eq_true g1
   have g2:=Nat.eq_of_beq_eq_true g2
   have g3:=Nat.eq_of_beq_eq_true g3
   subst g1 g2 g3
   simp only[Option.some.injEq,Prod.mk.injEq]at hd
   obtain⟨rfl,rfl⟩:=hd
   obtain⟨hI_mo,hI_ga,hI_de,hp⟩:=hp
   have heq:agsEqv [.agg [.sl q_mo n_mo 1 F_mo,.sl q_ga n_ga 1 F_ga,.sl q_de n_de 3 F_de]] [.agg [.sl q_mo (eI.list n_mo F_mo).length 1 (eI.F (eI.list n_mo F_mo)),.sl q_ga (eI.list n_ga F_ga).length 1 (eI.F (eI.list n_ga F_ga)),.sl q_de (eDm.list n_de F_de).length 3 (eDm.F (eDm.list n_de F_de))]]:=⟨⟨eI.to id hI_mo,eI.to id hI_ga,eDm.to id hI_de,trivial⟩,trivial⟩
   have len_mo:(eI.list n_mo F_mo).length=n_mo:=eI.list_len
   have len_ga:(eI.list n_ga F_ga).length=n_ga:=eI.list_len
   have len_de:(eDm.list n_de F_de).length=n_de:=eDm.list_len
   generalize eI.list n_mo F_mo=mo at *
   generalize eI.list n_ga F_ga=ga at *
   generalize eDm.list n_de F_de=de at *
   subst len_mo len_ga len_de
   exact fokX_fin mixed gw_stable (sl:=[v20,v47]) ⟨S20,S47,trivial⟩ Try.func62 hw hl hG hx heq rfl (t62 _ _ _ _ _ _) (w62 _ _ _ _ _ _ hp.1 hp.2.1)
  ·cases hd
 ·cases hd
theorem S62:SumOK Try.prog G0 gw 62 (fokSm dom62):=fok_sum Try.func62 rfl C62
end Go.Pl
end
section
set_option maxRecDepth 100000
namespace Go.Pl
open Go.V Go.Proofs
open Go.Lp
abbrev rf9(mo ga:List Int)(de:List Dem):(Int×List Int×List Int)×Int:=M.refuteR (ycI mo) (ycI ga) (ycD de)
abbrev fl9(mo ga:List Int)(de:List Dem):List Int×Int:=M.failing (ycI mo) (ycI ga) (ycD de)
abbrev wd9(mo ga:List Int)(de:List Dem):List Int:=Enc.list eI (List.length (Prod.fst (Prod.snd (Prod.fst (rf9 mo ga de))))) (Enc.F eI (Prod.fst (Prod.snd (Prod.fst (rf9 mo ga de)))))
abbrev wt9(mo ga:List Int)(de:List Dem):List Int:=Enc.list eI (List.length (Prod.snd (Prod.snd (Prod.fst (rf9 mo ga de))))) (Enc.F eI (Prod.snd (Prod.snd (Prod.fst (rf9 mo ga de)))))
abbrev li9(mo ga:List Int)(de:List Dem):List Int:=Enc.list eI (List.length (Prod.fst (fl9 mo ga de))) (Enc.F eI (Prod.fst (fl9 mo ga de)))
abbrev lx9(mo ga:List Int)(de:List Dem):List Int:=Enc.list eI (List.length (M.failingX (cI mo) (cI ga) (cD de))) (Enc.F eI (M.failingX (cI mo) (cI ga) (cD de)))
def tr9(q_mo:Bool)(mo:List Int)(q_ga:Bool)(ga:List Int)(q_de:Bool)(de:List Dem):T (List Ar):=
  T.br (!true) (T.ret [Ar.c (D.bool false)]) (T.needs [Enc.Is eI mo.length (Enc.F eI mo),Enc.Is eI ga.length (Enc.F eI ga),Enc.Is eDm de.length (Enc.F eDm de)] (T.br (!M.smallP (cI mo) (cI ga) (cD de)) (T.ret [Ar.c (D.bool true)]) (T.needs [Enc.Is eI mo.length (Enc.F eI mo),Enc.Is eI ga.length (Enc.F eI ga),Enc.Is eDm de.length (Enc.F eDm de),List.length (cI mo)≤1000000,List.length (cI ga)≤1000000,List.length (cD de)≤1000000,(∀(d:Dem),d∈(cD de)→List.length (Dem.co d)≤1000000),Enc.Is eI (List.length (cI mo)) (Enc.F eI (cI mo)),Enc.Is eI (List.length (cI ga)) (Enc.F eI (cI ga)),Enc.Is eDm (List.length (cD de)) (Enc.F eDm (cD de)),List.length (ycI mo)≤1000000,List.length (ycI ga)≤1000000,List.length (ycD de)≤1000000,(∀(d:Dem),d∈(ycD de)→ByteArray.size (Dem.nm d)≤1000000∧List.length (Dem.co d)≤1000000),(Prod.snd (M.checkProg (ycI mo) (ycI ga) (ycD de))=0→List.length (ycI mo)≤3),Enc.Is eI mo.length (Enc.F eI mo),Enc.Is eI ga.length (Enc.F eI ga),Enc.Is eDm de.length (Enc.F eDm de),List.length (cI mo)≤1000000,List.length (cI ga)≤1000000,List.length (cD de)≤1000000,(∀(d:Dem),d∈(cD de)→List.length (Dem.co d)≤1000000),Enc.Is eI (List.length (cI mo)) (Enc.F eI (cI mo)),Enc.Is eI (List.length (cI ga)) (Enc.F eI (cI ga)),Enc.Is eDm (List.length (cD de)) (Enc.F eDm (cD de)),List.length (ycI mo)≤1000000,List.length (ycI ga)≤1000000,List.length (ycD de)≤1000000,(∀(d:Dem),d∈(ycD de)→ByteArray.size (Dem.nm d)≤1000000∧List.length (Dem.co d)≤1000000),(Prod.snd (M.checkProg (ycI mo) (ycI ga) (ycD de))=0→List.length (ycI mo)≤3)] (T.br (Prod.fst (Prod.fst (rf9 mo ga de))==0) (T.needs [Enc.Is eI mo.length (Enc.F eI mo),Enc.Is eI ga.length (Enc.F eI ga),Enc.Is eDm de.length (Enc.F eDm de),List.length (cI mo)≤1000000,List.length (cD de)≤1000000,(∀(d:Dem),d∈(cD de)→ByteArray.size (Dem.nm d)≤1000000∧List.length (Dem.co d)≤1000000)] (T.br (Prod.snd (M.checkProg (cI mo) (cI ga) (cD de)) != (0:Int)) (T.br (Prod.snd (rf9 mo ga de)==Prod.snd (M.checkProg (cI mo) (cI ga) (cD de))) (T.br (Prod.snd (fl9 mo ga de)==Prod.snd (M.checkProg (cI mo) (cI ga) (cD de))) (T.br (IntKind.i64.wrap (((Prod.fst (Prod.snd (Prod.fst (rf9 mo ga de)))).length:Int)+((Prod.snd (Prod.snd (Prod.fst (rf9 mo ga de)))).length:Int))==0) (T.ret [Ar.c (D.bool (((Prod.fst (fl9 mo ga de)).length:Int)==0))]) (T.ret [Ar.c (D.bool false)])) (T.ret [Ar.c (D.bool false)])) (T.ret [Ar.c (D.bool false)])) (T.needs [Enc.Is eI mo.length (Enc.F eI mo),Enc.Is eI ga.length (Enc.F eI ga),Enc.Is eDm de.length (Enc.F eDm de),GrOk (cI mo) (cI ga) (cD de)] (T.br (Prod.snd (Prod.snd (M.greatG (cI mo) (cI ga) (cD de)))) (T.br (Prod.snd (rf9 mo ga de)==12) (T.br (Prod.snd (fl9 mo ga de)==12) (T.br (IntKind.i64.wrap (((Prod.fst (Prod.snd (Prod.fst (rf9 mo ga de)))).length:Int)+((Prod.snd (Prod.snd (Prod.fst (rf9 mo ga de)))).length:Int))==0) (T.ret [Ar.c (D.bool (((Prod.fst (fl9 mo ga de)).length:Int)==0))]) (T.ret [Ar.c (D.bool false)])) (T.ret [Ar.c (D.bool false)])) (T.ret [Ar.c (D.bool false)])) (T.br (Prod.snd (rf9 mo ga de)==0) (T.needs [Enc.Is eI mo.length (Enc.F eI mo),Enc.Is eI ga.length (Enc.F eI ga),Enc.Is eDm de.length (Enc.F eDm de),Enc.Is eI (List.length (Prod.fst (Prod.snd (Prod.fst (rf9 mo ga de))))) (Enc.F eI (Prod.fst (Prod.snd (Prod.fst (rf9 mo ga de))))),Enc.Is eI (List.length (Prod.snd (Prod.snd (Prod.fst (rf9 mo ga de))))) (Enc.F eI (Prod.snd (Prod.snd (Prod.fst (rf9 mo ga de))))),List.length (wd9 mo ga de)≤1000000,List.length (wt9 mo ga de)≤1000000] (T.br (M.wErr (cI mo) (cD de) (Prod.fst (Prod.fst (rf9 mo ga de))) (wd9 mo ga de) (wt9 mo ga de)==0) (T.needs [Enc.Is eI mo.length (Enc.F eI mo),Enc.Is eI ga.length (Enc.F eI ga),Enc.Is eDm de.length (Enc.F eDm de),Enc.Is eI (List.length (Prod.fst (Prod.snd (Prod.fst (rf9 mo ga de))))) (Enc.F eI (Prod.fst (Prod.snd (Prod.fst (rf9 mo ga de))))),Enc.Is eI (List.length (Prod.snd (Prod.snd (Prod.fst (rf9 mo ga de))))) (Enc.F eI (Prod.snd (Prod.snd (Prod.fst (rf9 mo ga de))))),Prod.snd (M.checkProg (cI mo) (cI ga) (cD de))=0,M.wErr (cI mo) (cD de) (Prod.fst (Prod.fst (rf9 mo ga de))) (wd9 mo ga de) (wt9 mo ga de)=0] (T.br (M.refu (cI mo) (cD de) (wd9 mo ga de) (wt9 mo ga de)) (T.br (Prod.snd (fl9 mo ga de)==0) (T.needs [Enc.Is eI mo.length (Enc.F eI mo),Enc.Is eI ga.length (Enc.F eI ga),Enc.Is eDm de.length (Enc.F eDm de),RightP (cI mo) (cI ga) (cD de),List.length (cI mo)≤3,Enc.Is eI (List.length (Prod.fst (fl9 mo ga de))) (Enc.F eI (Prod.fst (fl9 mo ga de))),Enc.Is eI (List.length (M.failingX (cI mo) (cI ga) (cD de))) (Enc.F eI (M.failingX (cI mo) (cI ga) (cD de))),List.length (li9 mo ga de)≤1000000] (T.ret [Ar.c (D.bool (decide (li9 mo ga de=lx9 mo ga de)))])) (T.ret [Ar.c (D.bool false)])) (T.ret [Ar.c (D.bool false)]))) (T.ret [Ar.c (D.bool false)]))) (T.ret [Ar.c (D.bool false)])))))) (T.needs [Enc.Is eI mo.length (Enc.F eI mo),Enc.Is eI ga.length (Enc.F eI ga),Enc.Is eDm de.length (Enc.F eDm de),List.length (cI mo)≤1000000,List.length (cD de)≤1000000,(∀(d:Dem),d∈(cD de)→ByteArray.size (Dem.nm d)≤1000000∧List.length (Dem.co d)≤1000000)] (T.br (Prod.snd (M.checkProg (cI mo) (cI ga) (cD de)) != (0:Int)) (T.br (Prod.snd (rf9 mo ga de)==Prod.snd (M.checkProg (cI mo) (cI ga) (cD de))) (T.br (Prod.snd (fl9 mo ga de)==Prod.snd (M.checkProg (cI mo) (cI ga) (cD de))) (T.ret [Ar.c (D.bool false)]) (T.ret [Ar.c (D.bool false)])) (T.ret [Ar.c (D.bool false)])) (T.needs [Enc.Is eI mo.length (Enc.F eI mo),Enc.Is eI ga.length (Enc.F eI ga),Enc.Is eDm de.length (Enc.F eDm de),GrOk (cI mo) (cI ga) (cD de)] (T.br (Prod.snd (Prod.snd (M.greatG (cI mo) (cI ga) (cD de)))) (T.br (Prod.snd (rf9 mo ga de)==12) (T.br (Prod.snd (fl9 mo ga de)==12) (T.ret [Ar.c (D.bool false)]) (T.ret [Ar.c (D.bool false)])) (T.ret [Ar.c (D.bool false)])) (T.br (Prod.snd (rf9 mo ga de)==0) (T.needs [Enc.Is eI mo.length (Enc.F eI mo),Enc.Is eI ga.length (Enc.F eI ga),Enc.Is eDm de.length (Enc.F eDm de),Enc.Is eI (List.length (Prod.fst (Prod.snd (Prod.fst (rf9 mo ga de))))) (Enc.F eI (Prod.fst (Prod.snd (Prod.fst (rf9 mo ga de))))),Enc.Is eI (List.length (Prod.snd (Prod.snd (Prod.fst (rf9 mo ga de))))) (Enc.F eI (Prod.snd (Prod.snd (Prod.fst (rf9 mo ga de))))),List.length (wd9 mo ga de)≤1000000,List.length (wt9 mo ga de)≤1000000] (T.br (M.wErr (cI mo) (cD de) (Prod.fst (Prod.fst (rf9 mo ga de))) (wd9 mo ga de) (wt9 mo ga de)==0) (T.needs [Enc.Is eI mo.length (Enc.F eI mo),Enc.Is eI ga.length (Enc.F eI ga),Enc.Is eDm de.length (Enc.F eDm de),Enc.Is eI (List.length (Prod.fst (Prod.snd (Prod.fst (rf9 mo ga de))))) (Enc.F eI (Prod.fst (Prod.snd (Prod.fst (rf9 mo ga de))))),Enc.Is eI (List.length (Prod.snd (Prod.snd (Prod.fst (rf9 mo ga de))))) (Enc.F eI (Prod.snd (Prod.snd (Prod.fst (rf9 mo ga de))))),Prod.snd (M.checkProg (cI mo) (cI ga) (cD de))=0,M.wErr (cI mo) (cD de) (Prod.fst (Prod.fst (rf9 mo ga de))) (wd9 mo ga de) (wt9 mo ga de)=0] (T.br (M.refu (cI mo) (cD de) (wd9 mo ga de) (wt9 mo ga de)) (T.br (Prod.snd (fl9 mo ga de)==0) (T.needs [Enc.Is eI mo.length (Enc.F eI mo),Enc.Is eI ga.length (Enc.F eI ga),Enc.Is eDm de.length (Enc.F eDm de),RightP (cI mo) (cI ga) (cD de),List.length (cI mo)≤3,Enc.Is eI (List.length (Prod.fst (fl9 mo ga de))) (Enc.F eI (Prod.fst (fl9 mo ga de))),Enc.Is eI (List.length (M.failingX (cI mo) (cI ga) (cD de))) (Enc.F eI (M.failingX (cI mo) (cI ga) (cD de))),List.length (li9 mo ga de)≤1000000] (T.ret [Ar.c (D.bool (decide (li9 mo ga de=lx9 mo ga de)))])) (T.ret [Ar.c (D.bool false)])) (T.ret [Ar.c (D.bool false)]))) (T.ret [Ar.c (D.bool false)]))) (T.ret [Ar.c (D.bool false)]))))))))))
theorem t9(q_mo:Bool)(mo:List Int)(q_ga:Bool)(ga:List Int)(q_de:Bool)(de:List Dem):runFnX Try.prog G0 (lookS [v15,v16,v18,v60,v61,v19,v20,v24,v56,v62,v49]) (fun _=>[]) [] 1 60 3 9 Try.f9 [.agg [.sl q_mo mo.length 1 (eI.F mo),.sl q_ga ga.length 1 (eI.F ga),.sl q_de de.length 3 (eDm.F de)]] =
  tr9 q_mo mo q_ga ga q_de de:=by kernel_rfl
section
variable {mo ga : List Int} {de : List Dem}
theorem poss_has(hR:RightP mo ga de):M.possible (M.planes mo de []) mo.length=true↔HasPoint mo.length (M.planes mo de []):=by
 have hst:=start_lp (mo:=mo) (de:=de) (more:=[]) (K:=100) (by simpa using hR.n4) (asked:=ga) (by simpa using right_ask hR) (fun i hi=>by
  rw[List.getD_eq_getElem?_getD,List.getElem?_eq_none (by rw[hR.lg];exact hi)];exact Int.le_refl _)
 simp only[List.length_nil,Nat.add_zero]at hst
 rcases one_of (right_small hR) (asked:=ga) (K:=100) (nd:=de.length) (nm:=mo.length) (by decide) (by decide) (right_ask hR) hst with⟨hno,hp,_⟩|⟨hp,t,v,u,_,_,_,_,_,hcor,_⟩
 ·rw[hp];exact⟨fun h=>absurd h (by decide),fun h=>absurd h hno⟩
 ·exact⟨fun _=>pt_has (cor_pt hcor),fun _=>hp⟩
theorem great_has(hR:RightP mo ga de):(M.greatG mo ga de).2.2=M.possible (M.planes mo de []) mo.length:=by
 rcases great_eq hR with⟨hno,h⟩|⟨N,D,h,_,_,_,_,hgd⟩
 ·rw[h]
  cases hp:M.possible (M.planes mo de []) mo.length with
  |false=>rfl
  |true=>exact absurd ((poss_has hR).1 hp) hno
 ·rw[h]
  rcases best_gr hR with⟨_,hb⟩|⟨hp,_⟩
  ·rw[hb]at hgd;exact absurd hgd (by decide)
  ·exact((poss_has hR).2 (pt_has hp)).symm
theorem fail_eq(hR:RightP mo ga de):M.failingX mo ga de=M.bindK (M.failP mo de) de.length:=by
 unfold M.failingX
 refine bindK_congr fun k _=>?_
 unfold M.failX M.failP
 exact great_has (right_erase hR k)
theorem law9(hc:(M.checkProg mo ga de).2=0)(s1:mo.length≤3) :
  ((M.greatG mo ga de).2.2=true∧M.refuteR mo ga de=((0,[],[]),12)∧M.failing mo ga de=([],12)) ∨
  ((M.greatG mo ga de).2.2=false∧∃od wd wt,M.refuteR mo ga de=((od,wd,wt),0)∧0<od∧M.wErr mo de od wd wt=0∧M.refu mo de wd wt=true∧M.failing mo ga de=(M.bindK (M.failP mo de) de.length,0)):=by
 have hR:=prog_right hc
 have hg:=great_has hR
 have e1:M.refuteR mo ga de=cond (M.possible (M.planes mo de []) mo.length) ((0,[],[]),12) (((M.wtsM mo de).od,(M.wtsM mo de).wd,(M.wtsM mo de).wt),0):=by unfold M.refuteR;rw[hc];rfl
 have e2:M.failing mo ga de=cond (M.possible (M.planes mo de []) mo.length) ([],12) (M.bindK (M.failP mo de) de.length,0):=by unfold M.failing;rw[hc];rfl
 cases hp:M.possible (M.planes mo de []) mo.length with
 |true=>
  rw[hp]at hg e1 e2
  exact .inl ⟨hg,e1,e2⟩
 |false=>
  rw[hp]at hg e1 e2
  have hno:¬HasPoint mo.length (M.planes mo de []):=fun h=>by rw[(poss_has hR).2 h]at hp;cases hp
  obtain⟨h1,h2,h3⟩:=refute_ok hR s1 hno
  exact .inr ⟨hg,_,_,_,e1,h3,h1,h2,e2⟩
end
theorem w9(q_mo:Bool)(mo:List Int)(q_ga:Bool)(ga:List Int)(q_de:Bool)(de:List Dem):(tr9 q_mo mo q_ga ga q_de de).wp (fun rs=>rsEqv rs [rB true]):=by
 unfold tr9
 simp only[lx9,li9,wt9,wd9,fl9,rf9,ycI,ycD,cI,cD,Enc.list_F]
 refine⟨fun h=>absurd h (by decide),fun _=>⟨Enc.is_F _ _ _,Enc.is_F _ _ _,Enc.is_F _ _ _,fun _=>rsEqv_refl _,fun hs=>?_⟩⟩
 have hs:M.smallP mo ga de=true:=by simpa using hs
 obtain⟨s1,hfew⟩:=small_lens hs
 obtain⟨f1,f2,f3,f4⟩:=few_yes hfew
 have hnm:∀d,d∈de→d.nm.size≤1000000∧d.co.length≤1000000:=fun d hd=>by
  obtain⟨i,hi,rfl⟩:=List.getElem_of_mem hd
  have:=f4 i hi
  rw[List.getD_eq_getElem?_getD,List.getElem?_eq_getElem hi]at this
  have h1:(de[i]).nm.size≤20:=this.1
  have h2:=this.2
  simp only[Option.getD_some]at h2
  exact⟨by omega,by omega⟩
 have hco:∀d,d∈de→d.co.length≤1000000:=fun d hd=>(hnm d hd).2
 have hs3:(M.checkProg mo ga de).2=0→mo.length≤3:=fun _=>s1
 refine⟨Enc.is_F _ _ _,Enc.is_F _ _ _,Enc.is_F _ _ _,by omega,by omega,by omega,hco,Enc.is_F _ _ _,Enc.is_F _ _ _,Enc.is_F _ _ _,by omega,by omega,by omega,hnm,hs3,?_⟩
 refine⟨Enc.is_F _ _ _,Enc.is_F _ _ _,Enc.is_F _ _ _,by omega,by omega,by omega,hco,Enc.is_F _ _ _,Enc.is_F _ _ _,Enc.is_F _ _ _,by omega,by omega,by omega,hnm,hs3,?_⟩
 have z0:(IntKind.i64.wrap (((([]:List Int).length:Nat):Int)+((([]:List Int).length:Nat):Int))==0)=true:=by rw[wrap_id (by decide) (by decide)];rfl
 by_cases hc:(M.checkProg mo ga de).2=0
 ·have hR:=prog_right hc
  have hne:((M.checkProg mo ga de).2 != 0)=false:=by rw[hc];rfl
  rcases law9 (ga:=ga) hc s1 with⟨hg,hr,hf⟩|⟨hg,od,wd,wt,hr,hod,hE,hrf,hf⟩
  ·simp only[hg,hr,hf]
   refine⟨fun _=>⟨Enc.is_F _ _ _,Enc.is_F _ _ _,Enc.is_F _ _ _,by omega,by omega,hnm,fun h=>absurd (hne.symm.trans h) (by decide),fun _=>⟨Enc.is_F _ _ _,Enc.is_F _ _ _,Enc.is_F _ _ _,gr_ok hR s1,?_⟩⟩,fun h=>absurd h (by decide)⟩
   exact⟨fun _=>⟨fun _=>⟨fun _=>⟨fun _=>rsEqv_refl _,fun h=>absurd (z0.symm.trans h) (by decide)⟩,fun h=>absurd h (by decide)⟩,fun h=>absurd h (by decide)⟩,fun h=>absurd h (by decide)⟩
  ·have hX:=fail_eq hR
   simp only[hg,hr,hf,hX]
   have hl:(M.bindK (M.failP mo de) de.length).length≤de.length:=bindK_len _ _
   have hw:=wt_right hE
   refine⟨fun h=>absurd (eq_of_beq h) (by omega),fun _=>⟨Enc.is_F _ _ _,Enc.is_F _ _ _,Enc.is_F _ _ _,by omega,by omega,hnm,fun h=>absurd (hne.symm.trans h) (by decide),fun _=>⟨Enc.is_F _ _ _,Enc.is_F _ _ _,Enc.is_F _ _ _,gr_ok hR s1,fun h=>absurd h (by decide),fun _=>⟨fun _=>?_,fun h=>absurd h (by decide)⟩⟩⟩⟩
   refine⟨Enc.is_F _ _ _,Enc.is_F _ _ _,Enc.is_F _ _ _,Enc.is_F _ _ _,Enc.is_F _ _ _,by have:=hw.1;omega,by have:=hw.2.1;omega,fun _=>?_,fun h=>absurd (h.symm.trans (beq_iff_eq.2 hE)) (by decide)⟩
   refine⟨Enc.is_F _ _ _,Enc.is_F _ _ _,Enc.is_F _ _ _,Enc.is_F _ _ _,Enc.is_F _ _ _,hc,hE,fun _=>⟨fun _=>?_,fun h=>absurd h (by decide)⟩,fun h=>absurd (h.symm.trans hrf) (by decide)⟩
   refine⟨Enc.is_F _ _ _,Enc.is_F _ _ _,Enc.is_F _ _ _,hR,s1,Enc.is_F _ _ _,Enc.is_F _ _ _,by omega,?_⟩
   exact rsEqv_refl _
 ·have hne:((M.checkProg mo ga de).2 != 0)=true:=bne_iff_ne.2 hc
  have hr:M.refuteR mo ga de=((0,[],[]),(M.checkProg mo ga de).2):=by unfold M.refuteR;rw[hne];rfl
  have hf:M.failing mo ga de=([],(M.checkProg mo ga de).2):=by unfold M.failing;rw[hne];rfl
  simp only[hr,hf]
  refine⟨fun _=>⟨Enc.is_F _ _ _,Enc.is_F _ _ _,Enc.is_F _ _ _,by omega,by omega,hnm,fun _=>?_,fun h=>absurd (hne.symm.trans h) (by decide)⟩,fun h=>absurd h (by decide)⟩
  exact⟨fun _=>⟨fun _=>⟨fun _=>rsEqv_refl _,fun h=>absurd (z0.symm.trans h) (by decide)⟩,fun h=>absurd h (by simp)⟩,fun h=>absurd h (by simp)⟩
def dom9:DomF
 |[.agg [.sl _ n_mo st_mo F_mo,.sl _ n_ga st_ga F_ga,.sl _ n_de st_de F_de]]=>(match Nat.beq st_mo 1&&Nat.beq st_ga 1&&Nat.beq st_de 3 with
  |true=>some ([eI.Is n_mo F_mo,eI.Is n_ga F_ga,eDm.Is n_de F_de],[rB true])
  |_=>none)
 |_=>none
theorem C9:FOK Try.prog G0 gw 9 dom9:=by
 intro ags p r hd hp κ w xs hw hl hG hx
 unfold dom9 at hd
 split at hd
 ·rename_i q_mo n_mo st_mo F_mo q_ga n_ga st_ga F_ga q_de n_de st_de F_de
  split at hd
  ·rename_i hst
   simp only[Bool.and_eq_true]at hst
   obtain⟨⟨g1,g2⟩,g3⟩:=hst
   have g1:=Nat.eq_of_beq_eq_true g1
   have g2:=Nat.eq_of_beq_eq_true g2
   have g3:=Nat.eq_of_beq_eq_true g3
   subst g1 g2 g3
   simp only[Option.some.injEq,Prod.mk.injEq]at hd
   obtain⟨rfl,rfl⟩:=hd
   obtain⟨hI_mo,hI_ga,hI_de,hp⟩:=hp
   have heq:agsEqv [.agg [.sl q_mo n_mo 1 F_mo,.sl q_ga n_ga 1 F_ga,.sl q_de n_de 3 F_de]] [.agg [.sl q_mo (eI.list n_mo F_mo).length 1 (eI.F (eI.list n_mo F_mo)),.sl q_ga (eI.list n_ga F_ga).length 1 (eI.F (eI.list n_ga F_ga)),.sl q_de (eDm.list n_de F_de).length 3 (eDm.F (eDm.list n_de F_de))]]:=⟨⟨eI.to id hI_mo,eI.to id hI_ga,eDm.to id hI_de,trivial⟩,trivial⟩
   have len_mo:(eI.list n_mo F_mo).length=n_mo:=eI.list_len
   have len_ga:(eI.list n_ga F_ga).length=n_ga:=eI.list_len
   have len_de:(eDm.list n_de F_de).length=n_de:=eDm.list_len
   generalize eI.list n_mo F_mo=mo at *
   generalize eI.list n_ga F_ga=ga at *
   generalize eDm.list n_de F_de=de at *
   subst len_mo len_ga len_de
   exact fokX_fin mixed gw_stable (sl:=[v15,v16,v18,v60,v61,v19,v20,v24,v56,v62,v49]) ⟨S15,S16,S18,S60,S61,S19,S20,S24,S56,S62,S49,trivial⟩ Try.func9 hw hl hG hx heq rfl (t9 _ _ _ _ _ _) (w9 _ _ _ _ _ _)
  ·cases hd
 ·cases hd
end Go.Pl
end
section
namespace Go.Rw
open Go Go.ChangeShapes Go.WideShapes Go.RowKit Go.ChangeAt
open Go.V (F2 D fullK fullK_cell f2_append f2_len f2_get)
section
variable {H : Type} {enc : TypeId × Value → H} {P : Program} {w : World} {base : Nat} {sp : Nat → Bool} {hd : Bool}
theorem trodAll_below(hl:laidOutB P=true){W W':World}(hb:Below W.heap.size W W'):∀{ts:List TypeId} {vs:List Value} {ds:List (DataW H)} {ps:List MemPlace},
  (∀t∈ts,P.readableRec t=true∧t<P.types.size)→DataW.TrodAll enc P W 0 (fun _=>true) true ts vs ds ps→(∀x∈ps,x.block<W.heap.size) →
  DataW.TrodAll enc P W' 0 (fun b=>decide (b<W.heap.size)) true ts vs ds ps
 |[],_,_,_,_,h,_=>by
  obtain⟨rfl,rfl,rfl⟩:=trodAll_nil h
  exact trodAll_mk0
 |t::ts,_,_,_,hr,h,hlt=>by
  obtain⟨v,vs1,d,ds1,a,b,rfl,rfl,rfl,h1,h2⟩:=trodAll_cons h
  refine⟨a,b,?_,trodAll_below hl hb (fun u hu=>hr u (List.mem_cons_of_mem _ hu)) h2 fun x hx=>hlt x (List.mem_append_right _ hx),rfl⟩
  have ht:=hr t (List.mem_cons_self ..)
  exact Below.trod hl ht.1 ht.2 h1 hb fun x hx=>hlt x (List.mem_append_left _ hx)
theorem law_post{fn:Func}{s:ChangeSpec}{apart fresh handsOn:Bool}{W W':World}{args:Array Value}{ds gs:List (DataW H)}{before:List MemPlace}{tb:TypeId}(hl:laidOutB P=true)
  (hr:∀t∈fn.params.toList,P.readableRec t=true∧t<P.types.size) (hv:s.vars=[]) (hrt:fn.resultTypes= #[tb]) (hbool:P.underlying tb=some .bool)
  (hfn:s.fn H ds={results:=[.lit (.bool true)],args:=ds})
  (hW:DataW.Whole enc P fn.params.toList s.vars apart W args.toList ds gs before) (hb:Below W.heap.size W W'):s.post enc P fn apart fresh handsOn false W args (.bool true) W':=by
 have hW':=hW
 obtain⟨p,q,hA,hV,rfl,_,_⟩:=hW'
 have hlt:∀x∈p++q,x.block<W.heap.size:=fun x hx=>hW.lt x hx
 rw[hv]at hV
 have hgs:gs=[]∧q=[]:=by
  cases gs with
  |nil=>exact⟨rfl,hV⟩
  |cons g r=>exact absurd hV (by intro h;cases h)
 obtain⟨rfl,rfl⟩:=hgs
 have e:s.fn H (ds++ [])={results:=[.lit (.bool true)],args:=ds}:=by rw[List.append_nil];exact hfn
 refine⟨ds,[],_,[],p,[],hW,?_,?_,?_,hb.frame _,fun h=>by cases h⟩
 ·rw[e,hrt]
  exact trodAll_mk1 (shut_bool hbool true)
 ·rw[e]
  exact trodAll_below hl hb hr hA fun x hx=>hlt x (List.mem_append_left _ hx)
 ·rw[e,hv]
  rfl
end
end Go.Rw
end
section
namespace Go.Rw
open Go Go.ChangeShapes Go.WideShapes Go.RowKit Go.ChangeAt
open Go.V (F2 D fullK fullK_cell f2_append f2_len f2_get)
inductive SK where
 |i
 |s
 |sl (sh:List SK)
inductive DG:SK→D→Prop where
 |i (n:Int):DG .i (.int .i64 n)
 |s (t:ByteArray):DG .s (.str t)
 |sl (sh:List SK) (len:Nat) (F:Nat→Nat→D) (h:∀i j k,i<len→sh[j]? = some k→DG k (F i j)):DG (.sl sh) (.sl false len sh.length F)
def MG(w:World)(k:SK)(v:Value):Prop:=∃d,DG k d∧D.rel (fullK w) d v
def sgFs(P:Program)(g:TypeId→Option (List SK)):List Field→Nat→Nat→Option (List SK)
 |[],o,c=>(match Nat.beq o c with|true=>some []|false=>none)
 |f::fs,o,c=>(match Nat.beq f.offset o,g f.type,sgFs P g fs (o+P.cellsOf f.type) c with
  |true,some a,some b=>some (a++b)
  |_,_,_=>none)
def sgArr(l:List SK):Nat→List SK
 |0=>[]
 |n+1=>l++sgArr l n
def sg(P:Program):Nat→TypeId→Option (List SK)
 |0,_=>none
 |k+1,t=>match P.underlying t with
  |some (.int .i64)=>some [.i]
  |some .string=>some [.s]
  |some (.struct fs)=>sgFs P (sg P k) fs.toList 0 (P.cellsOf t)
  |some (.array n e)=>(match sg P k e,Nat.beq (P.cellsOf t) (n*P.cellsOf e)with|some l,true=>some (sgArr l n)|_,_=>none)
  |some (.slice e)=>(match sg P k e with|some sh=>(match Nat.beq (P.cellsOf e) sh.length&&Nat.blt 0 sh.length with|true=>some [.sl sh]|false=>none)|none=>none)
  |_=>none
section
variable {H : Type} {enc : TypeId × Value → H} {P : Program} {w : World} {base : Nat} {sp : Nat → Bool} {hd : Bool}
theorem sgFs_spec{R:SK→Value→Prop}{g:TypeId→Option (List SK)}:∀(fs:List Field) (o c:Nat) (cs:List Value) {l:List SK},sgFs P g fs o c=some l→cs.length=c →
  (∀f∈fs,∀l',g f.type=some l'→F2 R l' ((cs.drop f.offset).take (P.cellsOf f.type)))→F2 R l (cs.drop o)
 |[],o,c,cs,l,h,hl,_=>by
  unfold sgFs at h
  split at h
  ·rename_i hb
   have:o=c:=Nat.eq_of_beq_eq_true hb
   simp only[Option.some.injEq]at h
   subst h
   rw[this,←hl,List.drop_length]
   exact .nil
  ·cases h
 |f::fs,o,c,cs,l,h,hl,hf=>by
  simp only[sgFs]at h
  split at h
  ·rename_i a b hb ha hrest
   have ho:f.offset=o:=Nat.eq_of_beq_eq_true hb
   simp only[Option.some.injEq]at h
   subst h
   have h1:=hf f (List.mem_cons_self ..) a ha
   have h2:=sgFs_spec fs _ c cs hrest hl fun g hg=>hf g (List.mem_cons_of_mem _ hg)
   rw[ho]at h1
   have e:cs.drop o=(cs.drop o).take (P.cellsOf f.type)++(cs.drop o).drop (P.cellsOf f.type):=(List.take_append_drop _ _).symm
   rw[e,List.drop_drop]
   exact f2_append h1 h2
  ·cases h
theorem sgArr_spec{R:SK→Value→Prop}{l:List SK}{c:Nat}:∀(n:Nat) (cs:List Value),cs.length=n*c→(∀i,i<n→F2 R l ((cs.drop (i*c)).take c))→F2 R (sgArr l n) cs
 |0,cs,h,_=>by
  have:cs=[]:=List.length_eq_zero_iff.1 (by simpa using h)
  subst this
  exact .nil
 |n+1,cs,h,hf=>by
  have h0:=hf 0 (by omega)
  rw[Nat.zero_mul,List.drop_zero]at h0
  have hr:=sgArr_spec (c:=c) n (cs.drop c) (by rw[List.length_drop,h,Nat.succ_mul];omega) fun i hi=>by
   have:=hf (i+1) (by omega)
   rw[List.drop_drop,show c+i*c=(i+1)*c by rw[Nat.succ_mul];omega]
   exact this
  rw[←List.take_append_drop c cs]
  exact f2_append h0 hr
theorem trod_sg:∀(k fuel:Nat) (t:TypeId) (cs:List Value) (x:DataW H×List MemPlace) {l:List SK},sg P k t=some l→DataW.trod enc P w base sp hd fuel t cs=some x→F2 (MG w) l cs
 |0,_,_,_,_,_,h,_=>by cases h
 |k+1,fuel,t,cs,x,l,h,hx=>by
  unfold sg at h
  split at h
  ·rename_i ht
   simp only[Option.some.injEq]at h
   subst h
   obtain⟨n,rfl,rfl,_⟩:=DataW.trod_int ht hx
   exact .cons ⟨.int .i64 n,.i n,rfl⟩ .nil
  ·rename_i ht
   simp only[Option.some.injEq]at h
   subst h
   obtain⟨s,rfl,rfl,_⟩:=DataW.trod_string ht hx
   exact .cons ⟨.str s,.s s,rfl⟩ .nil
  ·rename_i fs ht
   obtain⟨xs,n,_,rfl,hl,hlen,hf⟩:=DataW.trod_struct ht hx
   have:=sgFs_spec (P:=P) (R:=MG w) fs.toList 0 (P.cellsOf t) cs h hl (by
    intro f hm l' hl'
    obtain⟨i,hi,hi'⟩:=List.getElem_of_mem hm
    have hgi:fs[i]? = some f:=by rw[←Array.getElem?_toList,List.getElem?_eq_getElem hi,hi']
    have hlt:i<xs.length:=by rw[hlen];exact(Array.getElem?_eq_some_iff.1 hgi).1
    have hy:xs[i]? = some xs[i]:=List.getElem?_eq_getElem hlt
    have:=hf i f hgi
    rw[hy]at this
    exact trod_sg k n f.type _ _ hl' this)
   simpa using this
  ·rename_i n e ht
   split at h
   ·rename_i l' hl' hcb
    simp only[Option.some.injEq]at h
    subst h
    obtain⟨xs,m,_,ex,hlen,hl,hel⟩:=DataW.trod_array ht hx
    have hcz:P.cellsOf t=n*P.cellsOf e:=Nat.eq_of_beq_eq_true hcb
    refine sgArr_spec (c:=P.cellsOf e) n cs (by rw[←hcz];exact hlen) fun i hi=>?_
    have hlt:i<xs.length:=by omega
    have hy:xs[i]? = some xs[i]:=List.getElem?_eq_getElem hlt
    have:=hel i hi
    rw[hy]at this
    exact trod_sg k m e _ _ hl' this
   ·cases h
  ·rename_i e ht
   split at h
   ·rename_i sh hsh
    split at h
    ·rename_i hc
     simp only[Option.some.injEq]at h
     subst h
     rw[Bool.and_eq_true]at hc
     have hn:P.cellsOf e=sh.length:=Nat.eq_of_beq_eq_true hc.1
     have hn0:0<sh.length:=Nat.le_of_ble_eq_true hc.2
     rcases DataW.trod_slice ht hx with⟨h1,_⟩|⟨a,len0,cap0,elems,rest,n',_,h1,_,_,hlc,_,hel,hget,_⟩
     ·rw[h1]
      exact .cons ⟨.sl false 0 sh.length (fun _ _=>.nilp),.sl sh 0 _ (fun i j k hi=>by omega),.inl ⟨rfl,rfl,rfl⟩⟩ .nil
     ·rw[h1]
      rw[hn]at hget
      have each:∀i,i<len0→∀j,j<sh.length→∃d,(∀k',sh[j]? = some k'→DG k' d)∧∃y,w.cell? ((a.add (i*sh.length)).add j)=some y∧D.rel (fullK w) d y:=by
       intro i hi j hj
       have hg:=hget i hi
       have hlt:i<elems.length:=by omega
       rw[List.getElem?_eq_getElem hlt]at hg
       simp only[Option.bind_eq_some_iff]at hg
       obtain⟨cs,hcs,hx⟩:=hg
       have hF:=trod_sg k n' e cs _ hsh hx
       obtain⟨_,hl,hcell⟩:=World.cells?_some hcs
       obtain⟨y,hy,hm⟩:=f2_get hF (i:=j) (List.getElem?_eq_getElem hj)
       obtain⟨d,hd1,hd2⟩:=hm
       have hcj:=hcell j hj
       exact⟨d,fun k' hk'=>by rw[List.getElem?_eq_getElem hj]at hk';cases hk';exact hd1,y,by rw[hcj,hy],hd2⟩
      have spot0:0<len0→a.spot=none:=by
       intro hp
       obtain⟨_,_,y,hy,_⟩:=each 0 hp 0 hn0
       have:=World.cell?_spot hy
       simpa[Addr.add]using this
      refine .cons ⟨.sl false len0 sh.length (fun i j=>if h:i<len0∧j<sh.length then Classical.choose (each i h.1 j h.2)else .nilp),.sl sh len0 _ (fun i j k' hi hk'=>?_),.inr ⟨a,cap0,rfl,hlc,spot0,fun i j hi hj=>?_⟩⟩ .nil
      ·have hj:j<sh.length:=(List.getElem?_eq_some_iff.1 hk').1
       simp only[dif_pos (And.intro hi hj)]
       exact(Classical.choose_spec (each i hi j hj)).1 k' hk'
      ·obtain⟨_,y,hy,hr⟩:=Classical.choose_spec (each i hi j hj)
       have hp:a.spot=none:=spot0 (by omega)
       have e1:(a.add (i*sh.length)).add j=⟨a.block,a.off+i*sh.length+j,none⟩:=by
        obtain⟨b,off,spot⟩:=a
        simp only at hp
        subst hp
        rw[Go.WideShapes.add_plain,Go.WideShapes.add_plain]
       rw[e1]at hy
       refine⟨_,fullK_cell hy,?_⟩
       simp only[dif_pos (And.intro hi hj)]
       exact hr
    ·cases h
   ·cases h
  ·cases h
theorem open_st{r:Reach}{b0:Nat}{t:TypeId}{fs:Array Field}{v:Value}{d:DataW H}{p:List MemPlace}(k:Nat){l:List SK}(ht:P.underlying t=some (.struct fs))(ha:sg P k t=some l)
  (hv:Value.okWide P w r b0 t v) (h:DataW.Trod enc P w base sp hd t v d p):∃cs:List Value,F2 (MG w) l cs∧v=.agg cs.toArray:=by
 obtain⟨cs,rfl,hsz⟩:=okWide_struct ht hv
 obtain⟨fuel,hf⟩:=h
 have hF:F2 (MG w) l cs.toList:=trod_sg k fuel t _ _ ha hf
 exact⟨cs.toList,hF,by rw[Array.toArray_toList]⟩
theorem mg_sl{sh:List SK}{v:Value}(h:MG w (.sl sh) v):∃(len:Nat) (F:Nat→Nat→D),(D.sl false len sh.length F).rel (fullK w) v∧∀i j k,i<len→sh[j]? = some k→DG k (F i j):=by
 obtain⟨d,hd,hr⟩:=h
 cases hd with
 |sl _ len F hF=>exact⟨len,F,hr,hF⟩
theorem dg_i{d:D}(h:DG .i d):∃n,d=.int .i64 n:=by cases h with|i n=>exact⟨n,rfl⟩
theorem dg_s{d:D}(h:DG .s d):∃n,d=.str n:=by cases h with|s n=>exact⟨n,rfl⟩
theorem dg_sl{sh:List SK}{d:D}(h:DG (.sl sh) d):∃(len:Nat) (F:Nat→Nat→D),d=.sl false len sh.length F∧∀i j k,i<len→sh[j]? = some k→DG k (F i j):=by
 cases h with
 |sl _ len F hF=>exact⟨len,F,rfl,hF⟩
end
end Go.Rw
end
