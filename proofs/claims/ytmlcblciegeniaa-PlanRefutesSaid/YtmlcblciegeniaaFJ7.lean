/- The parts of the engines, of their contracts and of the plain laws that the claim rests on: A82, A83, A89, A84, A90, A95, A96, A93, A94, A125, A123, A124, A97, A98a, A98, A99, A101, A102, A99b, A99c, A103a, A103, A85, A104. -/
import Derived.Test.YtmlcblciegeniaaFJ6
set_option linter.unusedVariables false
set_option linter.unusedSimpArgs false
section
set_option maxRecDepth 100000
namespace Go.Pl
open Go.V Go.Proofs Go.Lp
namespace M
def turnP(n:Nat)(t:List Plane):List (List Int):=(List.range n).map fun i=>t.map fun p=>p.co.getD i 0
def wsol(asked:List Int)(t:List Plane):List Int×Int×Bool:=M.solve (turnP asked.length t) asked
end M
structure Cor(n:Nat)(all t:List Plane)(x:List Int)(d:Int):Prop where
 sol:Sol n 1000000 (t.map Plane.co) (t.map Plane.am) x d
 eq:M.sols t=(x,d,true)
 all:∀p,p∈all→dl n p.co x≤p.am*d
structure Wt(n B:Nat)(t:List Plane)(asked v:List Int)(d:Int):Prop where
 sol:Sol n B (M.turnP n t) asked v d
 eq:M.wsol asked t=(v,d,true)
 nn:∀k,0≤v.getD k 0
def wsum(n:Nat)(t:List Plane)(v:List Int):Int:=smI (fun i=>en v i*(t.getD i dfP).am) (List.range n)
theorem mem_getD{l:List Int}{x:Int}(h:x∈l):∃k,k<l.length∧l.getD k 0=x:=by
 obtain⟨k,hk,rfl⟩:=List.getElem_of_mem h
 exact⟨k,hk,by rw[List.getD_eq_getElem?_getD,List.getElem?_eq_getElem hk];rfl⟩
theorem memP_getD{l:List Plane}{x:Plane}(h:x∈l):∃k,k<l.length∧l.getD k dfP=x:=by
 obtain⟨k,hk,rfl⟩:=List.getElem_of_mem h
 exact⟨k,hk,by rw[List.getD_eq_getElem?_getD,List.getElem?_eq_getElem hk];rfl⟩
theorem mulI_bnd{a b:Int}{A B:Nat}(ha:a.natAbs≤A)(hb:b.natAbs≤B):(a*b).natAbs≤A*B:=by rw[Int.natAbs_mul];exact Nat.mul_le_mul ha hb
section
variable {n : Nat} {all t : List Plane}
theorem over_iff(h:SmallP n all){x:List Int}{d:Int}(hx:∀k,(x.getD k 0).natAbs≤24000000000000)(hd:d.natAbs≤2400000000):M.anyOver all x d=false↔∀p,p∈all→dl n p.co x≤p.am*d:=by
 unfold M.anyOver
 rw[List.any_eq_false]
 have key:∀p,p∈all→(M.dot p.co x>IntKind.i64.wrap (p.am*d)↔¬dl n p.co x≤p.am*d):=by
  intro p hp
  have e1:M.dot p.co x=dl n p.co x:=by
   rw[dot_dl (A:=100) (B:=24000000000000) (by omega) (by omega) (fun y hy=>by have:=h.ce p hp y hy;omega) (fun y hy=>by
    obtain⟨k,_,rfl⟩:=mem_getD hy
    have:=hx k;omega) (by omega) (by rw[h.cl p hp];exact h.n4),h.cl p hp]
  have hm:=mulI_bnd (h.ae p hp) hd
  rw[e1,wrap64 (by omega)]
  omega
 constructor
 ·intro e p hp
  have:=e p hp
  rw[decide_eq_true_iff,key p hp]at this
  omega
 ·intro e p hp
  rw[decide_eq_true_iff,key p hp]
  exact fun hn=>hn (e p hp)
theorem sub_mem(ht:t∈M.subs all n):(∀p,p∈t→p∈all)∧t.length=n:=⟨fun p hp=>(mem_subs.1 ht).1.subset hp,(mem_subs.1 ht).2⟩
theorem corner_yes(h:SmallP n all)(ht:t∈M.subs all n)(hc:M.isCorner all t=true):Cor n all t (M.sols t).1 (M.sols t).2.1:=by
 obtain⟨hm,hl⟩:=sub_mem ht
 have hq:=h.sq hm hl
 unfold M.isCorner at hc
 rw[Bool.and_eq_true,Bool.not_eq_true']at hc
 obtain⟨h1,h2⟩:=hc
 have hd:DI en (t.map Plane.co) (List.range n)≠0:=by
  intro e
  have:=solve_no (r:=t.map Plane.am) hq e
  unfold M.sols at h1
  rw[this]at h1
  cases h1
 obtain⟨s1,s2⟩:=solve_yes hq (B:=1000000) (by decide) (by decide) (h.am hm) hd
 refine⟨s2,?_,(over_iff h (x:=(M.sols t).1) (d:=(M.sols t).2.1) (fun k=>Nat.le_trans (s2.nb k) (by decide)) ?_).1 h2⟩
 ·show M.sols t=((M.sols t).1,(M.sols t).2.1,true)
  rw[←s1];rfl
 ·have:=s2.pos;have:=s2.db
  show(M.solve _ _).2.1.natAbs≤_
  omega
theorem corner_mk(h:SmallP n all)(ht:t∈M.subs all n)(hd:DI en (t.map Plane.co) (List.range n)≠0){x:Nat→Rat}
  (hx:∀q,q<n→sm (fun c=>((en (t.getD q dfP).co c:Int):Rat)*x c) (List.range n)=(((t.getD q dfP).am:Int):Rat))
  (hall:∀p,p∈all→sm (fun c=>((en p.co c:Int):Rat)*x c) (List.range n)≤((p.am:Int):Rat)):M.isCorner all t=true:=by
 obtain⟨hm,hl⟩:=sub_mem ht
 have hq:=h.sq hm hl
 obtain⟨s1,s2⟩:=solve_yes hq (B:=1000000) (by decide) (by decide) (h.am hm) hd
 have hs:=s2.spec hq (x:=x) (fun i hi=>by rw[co_at,am_at];exact hx i hi)
 have hpos:=s2.pos
 unfold M.isCorner
 rw[Bool.and_eq_true,Bool.not_eq_true']
 refine⟨s1,(over_iff h (x:=(M.sols t).1) (d:=(M.sols t).2.1) (fun k=>Nat.le_trans (s2.nb k) (by decide)) (by have:=s2.db;show(M.solve _ _).2.1.natAbs≤_;omega)).2 fun p hp=>?_⟩
 apply Rat.intCast_le_intCast.1
 unfold dl
 rw[smI_cast,sm_congr (h:=fun j=>(((M.sols t).2.1:Int):Rat)*(((en p.co j:Int):Rat)*x j)) (fun j hj=>by
  have:=hs j (List.mem_range.1 hj)
  show(((en p.co j*en (M.solve _ _).1 j:Int)):Rat)=_
  unfold en at this ⊢
  rw[Rat.intCast_mul,this]
  show _=(((M.solve _ _).2.1:Int):Rat)*_
  grind),sm_smul,Rat.intCast_mul,Rat.mul_comm ((p.am:Int):Rat)]
 exact Rat.mul_le_mul_of_nonneg_left (hall p hp) (Rat.intCast_nonneg.2 (Int.le_of_lt hpos))
theorem turn_at{i j:Nat}(hl:t.length=n)(hj:j<n)(hi:i<n):en ((M.turnP n t).getD j []) i=en (t.getD i dfP).co j:=by
 unfold M.turnP
 rw[map_getD hj]
 unfold en
 rw[List.getD_eq_getElem?_getD,List.getElem?_map,List.getD_eq_getElem?_getD (l:=t)]
 rw[List.getElem?_eq_getElem (by omega:i<t.length)]
 rfl
theorem turn_sq(h:SmallP n all)(hm:∀p,p∈t→p∈all)(hl:t.length=n):Sq n (M.turnP n t):=by
 refine⟨h.n4,by simp[M.turnP],fun r hr=>?_,fun r hr c=>?_⟩
 ·unfold M.turnP at hr
  obtain⟨i,_,rfl⟩:=List.mem_map.1 hr
  simp[hl]
 ·unfold M.turnP at hr
  obtain⟨i,_,rfl⟩:=List.mem_map.1 hr
  refine getD_small (fun y hy=>?_) c
  obtain⟨p,hp,rfl⟩:=List.mem_map.1 hy
  exact getD_small (h.ce p (hm p hp)) i
theorem turn_DI(hl:t.length=n):DI en (M.turnP n t) (List.range n)=DI en (t.map Plane.co) (List.range n):=by
 rw[DI_turn (f:=en) (rows:=t.map Plane.co) (by simp[hl])]
 rw[←range_getD (l:=t.map Plane.co) (d:=[]),List.length_map,hl,DI_mapc]
 unfold M.turnP
 rw[DI_map]
 refine DI_congr fun k hk i hi=>?_
 have hi:=List.mem_range.1 hi
 rw[co_at]
 unfold en
 rw[List.getD_eq_getElem?_getD,List.getElem?_map,List.getD_eq_getElem?_getD (l:=t),List.getElem?_eq_getElem (by omega:i<t.length)]
 rfl
theorem Wt.dual{B:Nat}(h:SmallP n all)(hm:∀p,p∈t→p∈all)(hl:t.length=n){asked v:List Int}{d:Int}(hw:Wt n B t asked v d){j:Nat}(hj:j<n):smI (fun i=>en (t.getD i dfP).co j*en v i) (List.range n)=en asked j*d:=by
 have:=hw.sol.rows (turn_sq h hm hl) j hj
 unfold dl at this
 rw[smI_congr (h:=fun i=>en (t.getD i dfP).co j*en v i) (fun i hi=>by rw[turn_at hl hj (List.mem_range.1 hi)])]at this
 exact this
theorem worthI{B:Nat}(h:SmallP n all)(hm:∀p,p∈t→p∈all)(hl:t.length=n){asked v x:List Int}{e:Int}(hw:Wt n B t asked v e):dl n asked x*e=smI (fun i=>en v i*dl n (t.getD i dfP).co x) (List.range n):=by
 unfold dl
 rw[smI_mulr,smI_congr (h:=fun c=>smI (fun i=>en v i*(en (t.getD i dfP).co c*en x c)) (List.range n)) (fun c hc=>by
  have:=hw.dual h hm hl (List.mem_range.1 hc)
  rw[show en asked c*en x c*e=en asked c*e*en x c by grind,←this,smI_mulr]
  exact smI_congr fun i _=>by grind),smI_comm]
 exact smI_congr fun i _=>smI_smul
theorem weak_P{B:Nat}(h:SmallP n all)(hm:∀p,p∈t→p∈all)(hl:t.length=n){asked v x:List Int}{e d:Int}(hw:Wt n B t asked v e)(hp:∀p,p∈all→dl n p.co x≤p.am*d):dl n asked x*e≤wsum n t v*d:=by
 rw[worthI h hm hl hw]
 unfold wsum
 rw[smI_mulr]
 refine smI_le fun i hi=>?_
 have hi:=List.mem_range.1 hi
 rw[Int.mul_assoc]
 exact Int.mul_le_mul_of_nonneg_left (hp _ (hm _ (getD_mem (by omega)))) (hw.nn i)
theorem tight_P{B:Nat}(h:SmallP n all)(hm:∀p,p∈t→p∈all)(hl:t.length=n){asked v x:List Int}{e d:Int}(hw:Wt n B t asked v e)(hc:Cor n all t x d):dl n asked x*e=wsum n t v*d:=by
 rw[worthI h hm hl hw]
 unfold wsum
 rw[smI_mulr]
 refine smI_congr fun i hi=>?_
 have hi:=List.mem_range.1 hi
 have:=hc.sol.rows (h.sq hm hl) i hi
 rw[co_at,am_at]at this
 rw[this,Int.mul_assoc]
def pR(all:List Plane)(i c:Nat):Rat:=((en (all.getD i dfP).co c:Int):Rat)
def pB(all:List Plane)(i:Nat):Rat:=(((all.getD i dfP).am:Int):Rat)
def pW(asked:List Int)(c:Nat):Rat:= - ((en asked c:Int):Rat)
def HasPoint(n:Nat)(all:List Plane):Prop:=∃x:Nat→Rat,∀p,p∈all→sm (fun c=>((en p.co c:Int):Rat)*x c) (List.range n)≤((p.am:Int):Rat)
theorem perm_of{l k:List Nat}(hl:l.Nodup)(hk:k.Nodup)(h:∀a,a∈l↔a∈k):l.Perm k:=(List.perm_ext_iff_of_nodup hl hk).2 h
theorem lp(h:SmallP n all){asked:List Int}{K:Nat}(hK:1≤K)(hK1:K≤1000000)(hal:asked.length=n)(has:∀i,(asked.getD i 0).natAbs≤K){B:List Nat}(hBl:B.length=n)(hB:∀i,i∈B→i<all.length)
  (hD:D (pR all) B (List.range n)≠0) (hdual:Dual (pR all) (pW asked) (List.range n) [] B) :
  ¬HasPoint n all∨∃t,t∈M.subs all n∧M.isCorner all t=true∧∃v e,Wt n K t asked v e:=by
 rcases opt (pR all) (pB all) (pW asked) (List.range n) n (List.range all.length) [] B hBl (by simp) hD hdual with hno|⟨S,hS,hSl,hSD,⟨y,hy,hw⟩,z,hz,hzf⟩
 ·refine .inl ?_
  rintro ⟨x,hx⟩
  refine hno x ⟨(fun a ha=>by cases ha),fun a ha=>?_⟩
  have hb:a<all.length:=by
   rcases List.mem_append.1 ha with ha|ha
   ·exact hB a ha
   ·exact List.mem_range.1 ha
  exact hx _ (getD_mem hb)
 ·refine .inr ?_
  simp only[List.nil_append]at hSD hz hw
  have hnd:S.Nodup:=Df_nodup (A:=[]) (by simpa using hSD)
  have hin:∀a,a∈S→a<all.length:=by
   intro a ha
   rcases List.mem_append.1 (hS a ha)with ha|ha
   ·exact hB a ha
   ·exact List.mem_range.1 ha
  obtain⟨S',hS'⟩:∃S',S'=(List.range all.length).filter (fun a=>decide (a∈S)):=⟨_,rfl⟩
  have hperm:S.Perm S':=by
   refine perm_of hnd ?_ fun a=>?_
   ·rw[hS'];exact List.Pairwise.filter _ List.nodup_range
   ·rw[hS',List.mem_filter,List.mem_range]
    constructor
    ·intro ha;exact⟨hin a ha,by simpa using ha⟩
    ·intro ha;simpa using ha.2
  have hl':S'.length=n:=by rw[←hperm.length_eq];exact hSl
  have hD':D (pR all) S' (List.range n)≠0:=Df_perm_ne hperm hSD
  have hin':∀a,a∈S'→a<all.length:=fun a ha=>hin a (hperm.mem_iff.2 ha)
  obtain⟨t,ht⟩:∃t,t=S'.map (fun i=>all.getD i dfP):=⟨_,rfl⟩
  have hsub:t.Sublist all:=by
   rw[ht,hS']
   conv=>rhs;rw[←range_getD (l:=all) (d:=dfP)]
   exact(List.filter_sublist (p:=fun a=>decide (a∈S)) (l:=List.range all.length)).map _
  have htl:t.length=n:=by rw[ht,List.length_map];exact hl'
  have htm:t∈M.subs all n:=mem_subs.2 ⟨hsub,htl⟩
  obtain⟨hm,_⟩:=sub_mem htm
  have hgd:∀q,q<n→S'.getD q 0<all.length∧t.getD q dfP=all.getD (S'.getD q 0) dfP:=by
   intro q hq
   refine⟨hin' _ (getD_mem (by omega)),?_⟩
   rw[ht,List.getD_eq_getElem?_getD,List.getElem?_map,List.getElem?_eq_getElem (by omega),List.getD_eq_getElem?_getD (l:=S'),List.getElem?_eq_getElem (by omega)]
   rfl
  have hrow:∀q c,q<n→pR all (S'.getD q 0) c=((en (t.getD q dfP).co c:Int):Rat):=by
   intro q c hq
   unfold pR
   rw[(hgd q hq).2]
  have hmap:S'=(List.range n).map (fun i=>S'.getD i 0):=by
   conv=>rhs;rw[←hl']
   exact range_getD.symm
  have hdI:DI en (t.map Plane.co) (List.range n)≠0:=by
   rw[DI_idx (by simp[htl])]
   refine D_ne.1 ?_
   rw[hmap]at hD'
   rw[D_map,List.map_map]at hD'
   rw[D_map]
   have e:(List.range n).map (pR all∘fun i=>S'.getD i 0)=(List.range n).map (fun i=>fun c=>((en ((t.map Plane.co).getD i []) c:Int):Rat)):=
    List.map_congr_left fun i hi=>by funext c;rw[co_at];exact hrow i c (List.mem_range.1 hi)
   rw[e]at hD'
   exact hD'
  refine⟨t,htm,corner_mk h htm hdI (x:=z) (fun q hq=>?_) (fun p hp=>?_),?_⟩
  ·have hmem:S'.getD q 0∈S:=hperm.mem_iff.2 (getD_mem (by omega))
   have:=hz _ hmem
   unfold dt at this
   rw[sm_congr (h:=fun c=>((en (t.getD q dfP).co c:Int):Rat)*z c) (fun c _=>by rw[hrow q c hq])]at this
   rw[this,(hgd q hq).2]
   rfl
  ·obtain⟨q,hq,rfl⟩:=memP_getD hp
   exact hzf q (List.mem_append_right _ (List.mem_range.2 hq))
  ·have hqT:=turn_sq h hm htl
   have hdT:DI en (M.turnP n t) (List.range n)≠0:=by rw[turn_DI htl];exact hdI
   obtain⟨s1,s2⟩:=solve_yes hqT hK hK1 has hdT
   have hspec:=s2.spec hqT (x:=fun i=> - y (S'.getD i 0)) (fun j hj=>by
    have e:=hw j (List.mem_range.2 hj)
    rw[sm_perm (g:=fun a=>y a*pR all a j) hperm,hmap,sm_map]at e
    unfold pW at e
    rw[sm_congr (h:=fun i=>(-1)*(y (S'.getD i 0)*pR all (S'.getD i 0) j)) (fun i hi=>by
     have hi:=List.mem_range.1 hi
     rw[turn_at htl hj hi,hrow i j hi]
     grind),sm_smul]
    show _=((en asked j:Int):Rat)
    have e2:sm (fun i=>y (S'.getD i 0)*pR all (S'.getD i 0) j) (List.range n)= - ((en asked j:Int):Rat):=e.symm
    rw[e2];grind)
   refine⟨(M.wsol asked t).1,(M.wsol asked t).2.1,?_⟩
   unfold M.wsol
   rw[hal]
   refine⟨s2,?_,fun k=>?_⟩
   ·unfold M.wsol
    rw[hal,←s1]
   ·by_cases hk:k<n
    ·apply Rat.intCast_le_intCast.1
     rw[hspec k hk]
     have hp:(0:Rat)≤(((M.solve (M.turnP n t) asked).2.1:Int):Rat):=Rat.intCast_nonneg.2 (Int.le_of_lt s2.pos)
     have hmem:S'.getD k 0∈S:=hperm.mem_iff.2 (getD_mem (by omega))
     have hyq:=hy _ hmem
     have:=Rat.mul_nonneg (show 0≤ - y (S'.getD k 0) by grind) hp
     exact this
    ·rw[List.getD_eq_getElem?_getD,List.getElem?_eq_none (by rw[s2.len];omega)];exact Int.le_refl _
end
end Go.Pl
end
section
set_option maxRecDepth 100000
namespace Go.Pl
open Go.V Go.Proofs Go.Lp
namespace M
def best(ga:List Int)(all:List Plane)(n:Nat):Bs:=foldC (bestStep ga all) all n [] bs0
def possible(all:List Plane)(n:Nat):Bool:=foldC (someStep all) all n [] false
structure Ws where
 num:Int
 gd:Int
 od:Int
 wd:List Int
 wt:List Int
def ws0:Ws:=⟨0,0,0,[],[]⟩
def wsumW(t:List Plane)(v:List Int):Int:=(List.range t.length).foldl (fun a i=>IntKind.i64.wrap (a+IntKind.i64.wrap (v.getD i 0*(t.getD i dfP).am))) 0
def putW(t:List Plane)(v:List Int)(k:Nat)(z:List Int×List Int):List Int×List Int:=
 (List.range k).foldl (fun z i=>cond (decide ((t.getD i dfP).de≥0)) (z.1.set (t.getD i dfP).de.toNat (v.getD i 0),z.2) (cond (decide ((t.getD i dfP).dr≥0)) (z.1,z.2.set (t.getD i dfP).dr.toNat (v.getD i 0)) z)) z
def lighter(nd nm:Nat)(s:Ws)(t:List Plane)(v:List Int)(d:Int):Ws:=
 cond (s.od==0||M.less (wsumW t v) d s.num s.gd) ⟨wsumW t v,d,d,(putW t v t.length (List.replicate nd 0,List.replicate nm 0)).1,(putW t v t.length (List.replicate nd 0,List.replicate nm 0)).2⟩ s
def wStep(asked:List Int)(nd nm:Nat)(s:Ws)(t:List Plane):Ws:=
 cond (!(wsol asked t).2.2||decide (M.least (wsol asked t).1<0)) s (lighter nd nm s t (wsol asked t).1 (wsol asked t).2.1)
def weights(asked:List Int)(all:List Plane)(nd nm:Nat):Ws:=foldC (wStep asked nd nm) all asked.length [] ws0
end M
section
variable {n : Nat} {all : List Plane}
theorem less_iff{n d m e:Int}:M.less n d m e=true↔n*e<m*d:=by unfold M.less;exact decide_eq_true_iff
structure Ask(n K:Nat)(asked:List Int):Prop where
 len:asked.length=n
 b:∀x,x∈asked→x.natAbs≤K
theorem Ask.at{K:Nat}{asked:List Int}(h:Ask n K asked)(i:Nat):(asked.getD i 0).natAbs≤K:=getD_small (l:=asked) h.b i
theorem gain_dl(h:SmallP n all){ga:List Int}(hg:Ask n 100 ga){x:List Int}(hx:∀k,(x.getD k 0).natAbs≤24000000000000):M.dot ga x=dl n ga x:=by
 have:=h.n4
 rw[dot_dl (A:=100) (B:=24000000000000) (by omega) (by omega) (fun y hy=>by have:=hg.b y hy;omega) (fun y hy=>by
  obtain⟨k,_,rfl⟩:=mem_getD hy
  have:=hx k;omega) (by omega) (by rw[hg.len];omega),hg.len]
def BestOf(n:Nat)(ga:List Int)(all:List Plane)(L:List (List Plane))(R:M.Bs):Prop:=
 (R=M.bs0∧∀t,t∈L→M.isCorner all t=false) ∨
 (∃t,t∈L∧M.isCorner all t=true∧Cor n all t R.pa R.ad∧R.gd=R.ad∧R.num=dl n ga R.pa∧∀t',t'∈L→∀x d,Cor n all t' x d→dl n ga x*R.ad≤R.num*d)
theorem Cor.corner{t:List Plane}{x:List Int}{d:Int}(h:SmallP n all)(hc:Cor n all t x d):M.isCorner all t=true:=by
 unfold M.isCorner
 rw[hc.eq]
 have:=hc.sol.pos;have:=hc.sol.db
 have:=(over_iff h (x:=x) (d:=d) (fun k=>Nat.le_trans (hc.sol.nb k) (by decide)) (by omega)).2 hc.all
 show(true&& !M.anyOver all x d)=true
 rw[this];rfl
theorem best_step(h:SmallP n all){ga:List Int}(hg:Ask n 100 ga){L:List (List Plane)}{t:List Plane}(ht:t∈M.subs all n){s:M.Bs}(hs:BestOf n ga all L s):BestOf n ga all (L++ [t]) (M.bestStep ga all s t):=by
 have hst:M.bestStep ga all s t=cond (M.isCorner all t) (M.better ga s (M.sols t).1 (M.sols t).2.1) s:=by
  unfold M.bestStep M.isCorner
  cases (M.sols t).2.2 <;>cases M.anyOver all (M.sols t).1 (M.sols t).2.1 <;>rfl
 rw[hst]
 cases hc:M.isCorner all t with
 |false=>
  show BestOf n ga all (L++ [t]) s
  rcases hs with⟨h1,h2⟩|⟨u,h1,h2,h3,h4,h5,h6⟩
  ·exact .inl ⟨h1,fun t' ht'=>by
    rcases List.mem_append.1 ht' with ht'|ht'
    ·exact h2 t' ht'
    ·rw[List.mem_singleton]at ht';rw[ht'];exact hc⟩
  ·refine .inr ⟨u,List.mem_append_left _ h1,h2,h3,h4,h5,fun t' ht' x d hcor=>?_⟩
   rcases List.mem_append.1 ht' with ht'|ht'
   ·exact h6 t' ht' x d hcor
   ·rw[List.mem_singleton]at ht'
    subst ht'
    rw[hcor.corner h]at hc;cases hc
 |true=>
  have cor:=corner_yes h ht hc
  obtain⟨x,hx⟩:∃x,x=(M.sols t).1:=⟨_,rfl⟩
  obtain⟨d,hd⟩:∃d,d=(M.sols t).2.1:=⟨_,rfl⟩
  show BestOf n ga all (L++ [t]) (M.better ga s (M.sols t).1 (M.sols t).2.1)
  rw[←hx,←hd]at cor ⊢
  have hdl:M.dot ga x=dl n ga x:=gain_dl h hg fun k=>Nat.le_trans (cor.sol.nb k) (by decide)
  have hpos:=cor.sol.pos
  have same:∀x' d',Cor n all t x' d'→x'=x∧d'=d:=by
   intro x' d' h'
   have e1:=h'.eq
   rw[cor.eq]at e1
   simp only[Prod.mk.injEq]at e1
   exact⟨e1.1.symm,e1.2.1.symm⟩
  unfold M.better
  rw[hdl]
  rcases hs with⟨h1,h2⟩|⟨u,h1,h2,h3,h4,h5,h6⟩
  ·subst h1
   show BestOf n ga all (L++ [t]) ⟨dl n ga x,d,d,x⟩
   refine .inr ⟨t,by simp,hc,cor,rfl,rfl,fun t' ht' x' d' hcor=>?_⟩
   rcases List.mem_append.1 ht' with ht'|ht'
   ·have:=hcor.corner h
    rw[h2 t' ht']at this;cases this
   ·rw[List.mem_singleton]at ht'
    subst ht'
    obtain⟨rfl,rfl⟩:=same x' d' hcor
    exact Int.le_refl _
  ·have hpos':=h3.sol.pos
   have hne:(s.ad==0)=false:=by rw[beq_eq_false_iff_ne];omega
   rw[hne,Bool.false_or]
   cases hl:M.less s.num s.gd (dl n ga x) d with
   |true=>
    have hlt:=less_iff.1 hl
    rw[h4]at hlt
    show BestOf n ga all (L++ [t]) ⟨dl n ga x,d,d,x⟩
    refine .inr ⟨t,by simp,hc,cor,rfl,rfl,fun t' ht' x' d' hcor=>?_⟩
    rcases List.mem_append.1 ht' with ht'|ht'
    ·have h7:=h6 t' ht' x' d' hcor
     have hp':=hcor.sol.pos
     show dl n ga x'*d≤dl n ga x*d'
     refine Int.le_of_mul_le_mul_right (a:=s.ad) ?_ hpos'
     calc dl n ga x'*d*s.ad=dl n ga x'*s.ad*d:=by grind
      _≤s.num*d'*d:=Int.mul_le_mul_of_nonneg_right h7 (Int.le_of_lt hpos)
      _=s.num*d*d':=by grind
      _≤dl n ga x*s.ad*d':=Int.mul_le_mul_of_nonneg_right (Int.le_of_lt hlt) (Int.le_of_lt hp')
      _=dl n ga x*d'*s.ad:=by grind
    ·rw[List.mem_singleton]at ht'
     subst ht'
     obtain⟨rfl,rfl⟩:=same x' d' hcor
     exact Int.le_refl _
   |false=>
    have hlt:¬s.num*d<dl n ga x*s.gd:=fun hh=>by rw[less_iff.2 hh]at hl;cases hl
    rw[h4]at hlt
    show BestOf n ga all (L++ [t]) s
    refine .inr ⟨u,List.mem_append_left _ h1,h2,h3,h4,h5,fun t' ht' x' d' hcor=>?_⟩
    rcases List.mem_append.1 ht' with ht'|ht'
    ·exact h6 t' ht' x' d' hcor
    ·rw[List.mem_singleton]at ht'
     subst ht'
     obtain⟨rfl,rfl⟩:=same x' d' hcor
     omega
theorem best_fold(h:SmallP n all){ga:List Int}(hg:Ask n 100 ga):∀(L K:List (List Plane)) {s:M.Bs},(∀t,t∈L→t∈M.subs all n)→BestOf n ga all K s→BestOf n ga all (K++L) (L.foldl (M.bestStep ga all) s):=by
 intro L
 induction L with
 |nil=>intro K s _ hs;simpa using hs
 |cons t L ih=>
  intro K s hm hs
  have:=ih (K++ [t]) (fun u hu=>hm u (List.mem_cons_of_mem _ hu)) (best_step h hg (hm t (List.mem_cons_self ..)) hs)
  rw[List.append_assoc]at this
  exact this
theorem best_spec(h:SmallP n all){ga:List Int}(hg:Ask n 100 ga):BestOf n ga all (M.subs all n) (M.best ga all n):=by
 unfold M.best
 rw[foldC_all]
 exact best_fold h hg (M.subs all n) [] (fun t ht=>ht) (.inl ⟨rfl,fun t ht=>by cases ht⟩)
theorem possible_iff:M.possible all n=true↔∃t,t∈M.subs all n∧M.isCorner all t=true:=by
 unfold M.possible
 rw[foldC_all,someStep_fold,Bool.false_or,List.any_eq_true]
theorem wsum_exact(h:SmallP n all){t:List Plane}(hm:∀p,p∈t→p∈all)(hl:t.length=n){v:List Int}{K:Nat}(hK:K≤2000000000000)(hv:∀k,(v.getD k 0).natAbs≤K):M.wsumW t v=wsum n t v:=by
 unfold M.wsumW wsum
 rw[hl]
 have key:∀k,k≤n→(List.range k).foldl (fun a i=>IntKind.i64.wrap (a+IntKind.i64.wrap (v.getD i 0*(t.getD i dfP).am))) 0=smI (fun i=>en v i*(t.getD i dfP).am) (List.range k)∧(smI (fun i=>en v i*(t.getD i dfP).am) (List.range k)).natAbs≤k*(K*1000000):=by
  intro k
  induction k with
  |zero=>intro _;exact⟨rfl,by simp[smI]⟩
  |succ k ih=>
   intro hk
   obtain⟨h1,h2⟩:=ih (by omega)
   have ham:=h.ae _ (hm _ (getD_mem (d:=dfP) (i:=k) (by omega)))
   have hmul:=mulI_bnd (hv k) ham
   have hn:=h.n4
   have hk3:k*(K*1000000)≤3*(K*1000000):=Nat.mul_le_mul_right _ (by omega)
   rw[List.range_succ,List.foldl_append,h1,smI_append]
   simp only[List.foldl_cons,List.foldl_nil,smI,Int.add_zero]
   show _∧_
   unfold en
   obtain⟨z,hz⟩:∃z,z=v.getD k 0*(t.getD k dfP).am:=⟨_,rfl⟩
   obtain⟨y,hy⟩:∃y,y=smI (fun i=>v.getD i 0*(t.getD i dfP).am) (List.range k):=⟨_,rfl⟩
   have h2':y.natAbs≤k*(K*1000000):=by rw[hy];exact h2
   rw[←hz]at hmul ⊢
   rw[←hy,wrap64 (n:=z) (by omega),wrap64 (by omega)]
   refine⟨rfl,?_⟩
   rw[Nat.succ_mul]
   omega
 exact(key n (Nat.le_refl _)).1
end
end Go.Pl
end
section
set_option maxRecDepth 100000
namespace Go.Pl
open Go.V Go.Proofs
theorem amJ_row(P:Nat→Plane):∀n,RowIs eI n (amJ P n) ((List.range n).map fun j=>(P j).am):=by
 intro n
 induction n with
 |zero=>exact⟨fun i j hi=>absurd hi (Nat.not_lt_zero i),rfl⟩
 |succ n ih=>
  rw[List.range_succ,List.map_append]
  exact ih.push (inQ_push (n:=(P n).am)).1 (inQ_push (n:=(P n).am)).2
theorem solP_eq(P:Nat→Plane)(n:Nat):solP P n=M.sols ((List.range n).map P):=by
 unfold solP M.sols matP
 rw[(amJ_row P n).eq,List.map_map,List.map_map]
 simp only[Enc.list_F]
 rfl
theorem needApp_ok{n:Nat}(hn:n≤100):∀j,j≤n→All (needApp n j):=by
 intro j
 induction j with
 |zero=>intro _;exact trivial
 |succ j ih=>
  intro hj
  refine All.append.2 ⟨ih (by omega),All.append.2 ⟨⟨Int.natCast_nonneg _,by omega,by omega,trivial⟩,?_⟩⟩
  cases j with
  |zero=>exact⟨by decide,by decide,trivial⟩
  |succ j=>exact⟨by omega,Nat.le_refl _,by omega,Nat.le_refl _,trivial⟩
theorem needRows_ok{n:Nat}{P:Nat→Plane}(h:∀j,j<n→(P j).co.length=n):All (needRows n P):=by
 refine All_mem fun p hp=>?_
 unfold needRows at hp
 obtain⟨j,hj,hp⟩:=List.mem_flatMap.1 hp
 have hj:=List.mem_range.1 hj
 simp only[List.mem_cons,List.not_mem_nil,or_false]at hp
 rcases hp with rfl|rfl
 ·exact Enc.is_F _ _ _
 ·exact h j hj
theorem rowIs_dI(l:List Int):RowIs eI l.length (fun i _=>dI (l.getD i 0)) l:=by
 have:(fun(i _:Nat)=>dI (l.getD i 0))=eI.F l:=rfl
 rw[this];exact rowIs_F l
section
variable {n : Nat} {AL : List Plane} {ga : List Int}
end
end Go.Pl
end
section
set_option maxRecDepth 100000
namespace Go.Pl
open Go.V Go.Proofs Go.Lp
theorem least_nn:∀{l:List Int} {a:Int},0≤l.foldl (fun a x=>if x<a then x else a) a↔0≤a∧∀x,x∈l→0≤x:=by
 intro l
 induction l with
 |nil=>intro a;simp
 |cons x l ih=>
  intro a
  rw[List.foldl_cons,ih]
  simp only[List.mem_cons,forall_eq_or_imp]
  split
  ·constructor
   ·rintro ⟨h1,h2⟩;exact⟨by omega,h1,h2⟩
   ·rintro ⟨_,h1,h2⟩;exact⟨h1,h2⟩
  ·constructor
   ·rintro ⟨h1,h2⟩;exact⟨h1,by omega,h2⟩
   ·rintro ⟨h1,_,h2⟩;exact⟨h1,h2⟩
theorem least_iff{l:List Int}:decide (M.least l<0)=false↔∀x,x∈l→0≤x:=by
 rw[decide_eq_false_iff_not,Int.not_lt]
 unfold M.least
 rw[least_nn]
 constructor
 ·exact fun h=>h.2
 ·intro h
  refine⟨?_,h⟩
  cases l with
  |nil=>exact Int.le_refl _
  |cons x l=>exact h x (List.mem_cons_self ..)
section
variable {n : Nat} {all : List Plane}
def LightOf(n K:Nat)(asked:List Int)(nd nm:Nat)(L:List (List Plane))(R:M.Ws):Prop:=
 (R=M.ws0∧∀t,t∈L→∀v e,¬Wt n K t asked v e) ∨
 (∃t v,t∈L∧Wt n K t asked v R.od∧R.gd=R.od∧R.num=wsum n t v∧R.wd=(M.putW t v t.length (List.replicate nd 0,List.replicate nm 0)).1∧R.wt=(M.putW t v t.length (List.replicate nd 0,List.replicate nm 0)).2 ∧
  ∀t',t'∈L→∀v' e',Wt n K t' asked v' e'→R.num*e'≤wsum n t' v'*R.od)
theorem light_step(h:SmallP n all){K nd nm:Nat}(hK:1≤K)(hK1:K≤1000){asked:List Int}(ha:Ask n K asked){L:List (List Plane)}{t:List Plane}(ht:t∈M.subs all n){s:M.Ws}(hs:LightOf n K asked nd nm L s):LightOf n K asked nd nm (L++ [t]) (M.wStep asked nd nm s t):=by
 obtain⟨hm,hl⟩:=sub_mem ht
 have hq:=turn_sq h hm hl
 obtain⟨b,hb⟩:∃b,b=(!(M.wsol asked t).2.2||decide (M.least (M.wsol asked t).1<0)):=⟨_,rfl⟩
 unfold M.wStep
 rw[←hb]
 cases b with
 |true=>
  have no:∀v e,¬Wt n K t asked v e:=by
   intro v e hw
   rw[hw.eq]at hb
   have:decide (M.least v<0)=false:=least_iff.2 fun x hx=>by
    obtain⟨k,_,rfl⟩:=mem_getD hx
    exact hw.nn k
   simp[this]at hb
  show LightOf n K asked nd nm (L++ [t]) s
  rcases hs with⟨h1,h2⟩|⟨u,v,h1,h2,h3,h4,h5,h6,h7⟩
  ·exact .inl ⟨h1,fun t' ht'=>by
    rcases List.mem_append.1 ht' with ht'|ht'
    ·exact h2 t' ht'
    ·rw[List.mem_singleton]at ht';rw[ht'];exact no⟩
  ·refine .inr ⟨u,v,List.mem_append_left _ h1,h2,h3,h4,h5,h6,fun t' ht' v' e' hw=>?_⟩
   rcases List.mem_append.1 ht' with ht'|ht'
   ·exact h7 t' ht' v' e' hw
   ·rw[List.mem_singleton]at ht'
    subst ht'
    exact absurd hw (no v' e')
 |false=>
  have hb:=hb.symm
  rw[Bool.or_eq_false_iff,Bool.not_eq_false']at hb
  obtain⟨hok,hle⟩:=hb
  have hd:DI en (M.turnP n t) (List.range n)≠0:=by
   intro e
   have:=solve_no (r:=asked) hq e
   unfold M.wsol at hok
   rw[ha.len,this]at hok
   cases hok
  obtain⟨s1,s2⟩:=solve_yes hq hK (by omega) ha.at hd
  obtain⟨v,hv⟩:∃v,v=(M.wsol asked t).1:=⟨_,rfl⟩
  obtain⟨d,hdd⟩:∃d,d=(M.wsol asked t).2.1:=⟨_,rfl⟩
  have hw:Wt n K t asked v d:=by
   refine⟨?_,by rw[hv,hdd,←hok],fun k=>?_⟩
   ·rw[hv,hdd];unfold M.wsol;rw[ha.len];exact s2
   ·by_cases hk:k<v.length
    ·exact least_iff.1 (hv ▸ hle) _ (getD_mem hk)
    ·rw[List.getD_eq_getElem?_getD,List.getElem?_eq_none (by omega)];exact Int.le_refl _
  have hsum:M.wsumW t v=wsum n t v:=wsum_exact h hm hl (K:=24000000*K) (by omega) hw.sol.nb
  have same:∀v' d',Wt n K t asked v' d'→v'=v∧d'=d:=by
   intro x' d' h'
   have e1:=h'.eq
   rw[hw.eq]at e1
   simp only[Prod.mk.injEq]at e1
   exact⟨e1.1.symm,e1.2.1.symm⟩
  have hpos:=hw.sol.pos
  show LightOf n K asked nd nm (L++ [t]) (M.lighter nd nm s t (M.wsol asked t).1 (M.wsol asked t).2.1)
  rw[←hv,←hdd]
  unfold M.lighter
  rw[hsum]
  rcases hs with⟨h1,h2⟩|⟨u,w,h1,h2,h3,h4,h5,h6,h7⟩
  ·subst h1
   show LightOf n K asked nd nm (L++ [t]) ⟨wsum n t v,d,d,_,_⟩
   refine .inr ⟨t,v,by simp,hw,rfl,rfl,rfl,rfl,fun t' ht' x' d' hcor=>?_⟩
   rcases List.mem_append.1 ht' with ht'|ht'
   ·exact absurd hcor (h2 t' ht' x' d')
   ·rw[List.mem_singleton]at ht'
    subst ht'
    obtain⟨rfl,rfl⟩:=same x' d' hcor
    exact Int.le_refl _
  ·have hpos':=h2.sol.pos
   have hne:(s.od==0)=false:=by rw[beq_eq_false_iff_ne];omega
   rw[hne,Bool.false_or]
   cases hl':M.less (wsum n t v) d s.num s.gd with
   |true=>
    have hlt:=less_iff.1 hl'
    rw[h3]at hlt
    show LightOf n K asked nd nm (L++ [t]) ⟨wsum n t v,d,d,_,_⟩
    refine .inr ⟨t,v,by simp,hw,rfl,rfl,rfl,rfl,fun t' ht' x' d' hcor=>?_⟩
    rcases List.mem_append.1 ht' with ht'|ht'
    ·have h8:=h7 t' ht' x' d' hcor
     have hp':=hcor.sol.pos
     show wsum n t v*d'≤wsum n t' x'*d
     refine Int.le_of_mul_le_mul_right (a:=s.od) ?_ hpos'
     calc wsum n t v*d'*s.od=wsum n t v*s.od*d':=by grind
      _≤s.num*d*d':=Int.mul_le_mul_of_nonneg_right (Int.le_of_lt hlt) (Int.le_of_lt hp')
      _=s.num*d'*d:=by grind
      _≤wsum n t' x'*s.od*d:=Int.mul_le_mul_of_nonneg_right h8 (Int.le_of_lt hpos)
      _=wsum n t' x'*d*s.od:=by grind
    ·rw[List.mem_singleton]at ht'
     subst ht'
     obtain⟨rfl,rfl⟩:=same x' d' hcor
     exact Int.le_refl _
   |false=>
    have hlt:¬wsum n t v*s.gd<s.num*d:=fun hh=>by rw[less_iff.2 hh]at hl';cases hl'
    rw[h3]at hlt
    show LightOf n K asked nd nm (L++ [t]) s
    refine .inr ⟨u,w,List.mem_append_left _ h1,h2,h3,h4,h5,h6,fun t' ht' x' d' hcor=>?_⟩
    rcases List.mem_append.1 ht' with ht'|ht'
    ·exact h7 t' ht' x' d' hcor
    ·rw[List.mem_singleton]at ht'
     subst ht'
     obtain⟨rfl,rfl⟩:=same x' d' hcor
     omega
theorem light_fold(h:SmallP n all){K nd nm:Nat}(hK:1≤K)(hK1:K≤1000){asked:List Int}(ha:Ask n K asked):∀(L J:List (List Plane)) {s:M.Ws},(∀t,t∈L→t∈M.subs all n)→LightOf n K asked nd nm J s→LightOf n K asked nd nm (J++L) (L.foldl (M.wStep asked nd nm) s):=by
 intro L
 induction L with
 |nil=>intro J s _ hs;simpa using hs
 |cons t L ih=>
  intro J s hm hs
  have:=ih (J++ [t]) (fun u hu=>hm u (List.mem_cons_of_mem _ hu)) (light_step h hK hK1 ha (hm t (List.mem_cons_self ..)) hs)
  rw[List.append_assoc]at this
  exact this
theorem light_spec(h:SmallP n all){K nd nm:Nat}(hK:1≤K)(hK1:K≤1000){asked:List Int}(ha:Ask n K asked):LightOf n K asked nd nm (M.subs all n) (M.weights asked all nd nm):=by
 unfold M.weights
 rw[foldC_all,ha.len]
 exact light_fold h hK hK1 ha (M.subs all n) [] (fun t ht=>ht) (.inl ⟨rfl,fun t ht=>by cases ht⟩)
end
section
variable {mo : List Int} {de : List Dem} {more : List Int}
theorem planes_len:(M.planes mo de more).length=de.length+(mo.length+(mo.length+more.length)):=by simp[M.planes]
theorem planes_mo{i:Nat}(h:i<mo.length):(M.planes mo de more).getD (de.length+i) dfP=M.pMo (mo.length+more.length) mo i:=by
 unfold M.planes
 rw[List.getD_eq_getElem?_getD,List.getElem?_append_right (by simp),List.length_map,List.length_range,Nat.add_sub_cancel_left,List.getElem?_append_left (by simpa using h),List.getElem?_map,List.getElem?_range h];rfl
theorem planes_nn{i:Nat}(h:i<mo.length+more.length):(M.planes mo de more).getD (de.length+(mo.length+i)) dfP=M.pNn (mo.length+more.length) i:=by
 unfold M.planes
 rw[List.getD_eq_getElem?_getD,List.getElem?_append_right (by simp),List.length_map,List.length_range,Nat.add_sub_cancel_left,List.getElem?_append_right (by simp),List.length_map,List.length_range,Nat.add_sub_cancel_left,List.getElem?_map,List.getElem?_range h];rfl
theorem planes_cases{p:Plane}(h:p∈M.planes mo de more):(∃j,j<de.length∧p=M.pDe more de j)∨(∃i,i<mo.length∧p=M.pMo (mo.length+more.length) mo i)∨(∃i,i<mo.length+more.length∧p=M.pNn (mo.length+more.length) i):=by
 unfold M.planes at h
 rcases List.mem_append.1 h with h|h
 ·obtain⟨j,hj,rfl⟩:=List.mem_map.1 h;exact .inl ⟨j,List.mem_range.1 hj,rfl⟩
 rcases List.mem_append.1 h with h|h
 ·obtain⟨j,hj,rfl⟩:=List.mem_map.1 h;exact .inr (.inl ⟨j,List.mem_range.1 hj,rfl⟩)
 ·obtain⟨j,hj,rfl⟩:=List.mem_map.1 h;exact .inr (.inr ⟨j,List.mem_range.1 hj,rfl⟩)
theorem mem_de{j:Nat}(h:j<de.length):M.pDe more de j∈M.planes mo de more:=by unfold M.planes;exact List.mem_append_left _ (List.mem_map_of_mem (List.mem_range.2 h))
theorem mem_mo{i:Nat}(h:i<mo.length):M.pMo (mo.length+more.length) mo i∈M.planes mo de more:=by unfold M.planes;exact List.mem_append_right _ (List.mem_append_left _ (List.mem_map_of_mem (List.mem_range.2 h)))
theorem mem_nn{i:Nat}(h:i<mo.length+more.length):M.pNn (mo.length+more.length) i∈M.planes mo de more:=by unfold M.planes;exact List.mem_append_right _ (List.mem_append_right _ (List.mem_map_of_mem (List.mem_range.2 h)))
theorem unit_en{n i c:Nat}{v:Int}(hi:i<n):en (M.unitL n i v) c=if c=i then v else 0:=by
 unfold M.unitL en
 rw[List.getD_eq_getElem?_getD,List.getElem?_set]
 by_cases h:i=c
 ·subst h;rw[if_pos rfl,if_pos rfl,if_pos (by simpa using hi)];rfl
 ·rw[if_neg h,if_neg (fun e=>h e.symm),List.getElem?_replicate]
  split <;>rfl
theorem unit_len{n i:Nat}{v:Int}:(M.unitL n i v).length=n:=by unfold M.unitL;simp
theorem small_planes(h1:1≤mo.length+more.length)(h4:mo.length+more.length≤4)(hmo:∀x,x∈mo→0≤x∧x≤1000000)(hd1:∀d,d∈de→d.co.length=mo.length)
  (hd2:∀d,d∈de→∀x,x∈d.co→ -100≤x∧x≤100) (hd3:∀d,d∈de→ -1000000≤d.am∧d.am≤1000000) (hm:∀x,x∈more→x.natAbs≤100):SmallP (mo.length+more.length) (M.planes mo de more):=by
 have hun:∀{i:Nat} {v:Int},i<mo.length+more.length→v.natAbs≤100→∀x,x∈M.unitL (mo.length+more.length) i v→x.natAbs≤100:=by
  intro i v hi hv x hx
  obtain⟨k,_,rfl⟩:=mem_getD hx
  have:=unit_en (c:=k) (v:=v) hi
  unfold en at this
  rw[this]
  split <;>omega
 refine⟨h4,h1,fun p hp=>?_,fun p hp x hx=>?_,fun p hp=>?_⟩
 ·rcases planes_cases hp with⟨j,hj,rfl⟩|⟨i,hi,rfl⟩|⟨i,hi,rfl⟩
  ·show((de.getD j dfD).co++more).length=_
   rw[List.length_append,hd1 _ (getD_mem hj)]
  ·exact unit_len
  ·exact unit_len
 ·rcases planes_cases hp with⟨j,hj,rfl⟩|⟨i,hi,rfl⟩|⟨i,hi,rfl⟩
  ·have hx:x∈(de.getD j dfD).co++more:=hx
   rcases List.mem_append.1 hx with hx|hx
   ·have:=hd2 _ (getD_mem hj) x hx;omega
   ·exact hm x hx
  ·exact hun (by omega) (by decide) x hx
  ·exact hun hi (by decide) x hx
 ·rcases planes_cases hp with⟨j,hj,rfl⟩|⟨i,hi,rfl⟩|⟨i,hi,rfl⟩
  ·have:=hd3 _ (getD_mem (d:=dfD) hj)
   show(de.getD j dfD).am.natAbs≤_
   omega
  ·have:=getD_bnd (l:=mo) (lo:=0) (hi:=1000000) (by omega) hmo i
   show(mo.getD i 0).natAbs≤_
   omega
  ·exact Nat.zero_le _
def stI(nd nm:Nat)(s:Nat→Bool)(i:Nat):Nat:=cond (s i) (nd+i) (nd+(nm+i))
theorem diag_ne:∀n,n≤4→∀b,b<16→DI (fun i c=>if c=i then(if b.testBit i then(1:Int)else -1)else 0) (List.range n) (List.range n)≠0:=by decide +kernel
theorem bits_of(s:Nat→Bool):∀n,n≤4→∃b,b<2^n∧∀i,i<n→b.testBit i=s i:=by
 intro n
 induction n with
 |zero=>intro _;exact⟨0,by decide,fun i h=>absurd h (Nat.not_lt_zero i)⟩
 |succ n ih=>
  intro hn
  obtain⟨b,hb,hs⟩:=ih (by omega)
  cases hsn:s n with
  |false=>
   refine⟨b,by rw[Nat.pow_succ];omega,fun i hi=>?_⟩
   by_cases h:i<n
   ·exact hs i h
   ·obtain rfl:i=n:=by omega
    rw[hsn,Nat.testBit_lt_two_pow hb]
  |true=>
   refine⟨2^n+b,by rw[Nat.pow_succ];omega,fun i hi=>?_⟩
   by_cases h:i<n
   ·rw[Nat.testBit_two_pow_add_gt h,hs i h]
   ·obtain rfl:i=n:=by omega
    rw[Nat.testBit_two_pow_add_eq,Nat.testBit_lt_two_pow hb,hsn];rfl
end
end Go.Pl
end
section
set_option maxRecDepth 100000
namespace Go.Pl
open Go.V Go.Proofs
namespace M
end M
theorem put1{l:List Int}{k:Nat}{v:Int}(hk:k<l.length):RowIs eI l.length (putF k 0 1 [dI v] (eI.F l)) (l.set k v):=by
 have at_:putF k 0 1 [dI v] (eI.F l) k 0=dI v:=by
  unfold putF
  rw[show Nat.beq k k=true from Nat.beq_refl k,Bool.true_and]
  rfl
 obtain⟨h1,h2⟩:=put_row eI (b:=v) hk (fun j hj=>putF_ne j hj) (fun j hj=>by
  obtain rfl:j=0:=Nat.lt_one_iff.1 hj
  rw[at_];exact D.eqv_refl _) (by show rdI _ 0=v;unfold rdI;rw[at_])
 exact⟨h1,h2⟩
structure OkP(n:Nat)(mo ga:List Int)(de:List Dem):Prop where
 n1:1≤n
 n3:n≤3
 lm:mo.length=n
 lg:ga.length=n
 ld:de.length≤100
 rm:∀x,x∈mo→0≤x∧x≤1000000
 rg:∀x,x∈ga→x.natAbs≤100
 d1:∀d,d∈de→d.co.length=mo.length
 d2:∀d,d∈de→∀x,x∈d.co→ -100≤x∧x≤100
 d3:∀d,d∈de→ -1000000≤d.am∧d.am≤1000000
theorem OkP.small{n:Nat}{mo ga:List Int}{de:List Dem}(h:OkP n mo ga de):SmallP n (M.planes mo de []):=by
 have:=small_planes (mo:=mo) (de:=de) (more:=[]) (by have:=h.lm;have:=h.n1;simp;omega) (by have:=h.lm;have:=h.n3;simp;omega) h.rm h.d1 h.d2 h.d3 (fun x hx=>by cases hx)
 simp only[List.length_nil,Nat.add_zero,h.lm]at this
 exact this
theorem OkP.len{n:Nat}{mo ga:List Int}{de:List Dem}(h:OkP n mo ga de):(M.planes mo de []).length≤10000:=by
 rw[planes_len];have:=h.lm;have:=h.n3;have:=h.ld;simp;omega
end Go.Pl
end
section
set_option maxRecDepth 100000
namespace Go.Pl
open Go.V Go.Proofs
theorem colJ_row(P:Nat→Plane)(c:Nat):∀n,RowIs eI n (colJ P c n) ((List.range n).map fun q=>(P q).co.getD c 0):=by
 intro n
 induction n with
 |zero=>exact⟨fun i j hi=>absurd hi (Nat.not_lt_zero i),rfl⟩
 |succ n ih=>
  rw[List.range_succ,List.map_append]
  exact ih.push (inQ_push (n:=(P n).co.getD c 0)).1 (inQ_push (n:=(P n).co.getD c 0)).2
theorem solW_eq(P:Nat→Plane){n:Nat}{asked:List Int}(ha:asked.length=n):solW P n asked=M.wsol asked ((List.range n).map P):=by
 unfold solW M.wsol M.turnP
 subst ha
 rw[Enc.list_F]
 congr 1
 refine List.map_congr_left fun c _=>?_
 rw[(colJ_row P c asked.length).eq,List.map_map]
 rfl
theorem sumJ_eq(P:Nat→Plane)(v:List Int)(n:Nat):sumJ P v n=M.wsumW ((List.range n).map P) v:=by
 unfold M.wsumW
 rw[List.length_map,List.length_range]
 have key:∀k,k≤n→sumJ P v k=(List.range k).foldl (fun a i=>IntKind.i64.wrap (a+IntKind.i64.wrap (v.getD i 0*(((List.range n).map P).getD i dfP).am))) 0:=by
  intro k
  induction k with
  |zero=>intro _;rfl
  |succ k ih=>
   intro hk
   rw[List.range_succ,List.foldl_append,←ih (by omega)]
   simp only[List.foldl_cons,List.foldl_nil,sumJ]
   rw[map_getD (by omega)]
 exact key n (Nat.le_refl _)
theorem needQ_ok{n c:Nat}{P:Nat→Plane}(hn:n≤100)(h:∀j,j<n→(P j).co.length=n)(hc:c<n):∀q,q≤n→All (needQ n P c q):=by
 intro q
 induction q with
 |zero=>intro _;exact trivial
 |succ q ih=>
  intro hq
  have:=h q (by omega)
  refine All.append.2 ⟨ih (by omega),All.append.2 ⟨⟨Int.natCast_nonneg _,by omega,by omega,Int.natCast_nonneg _,by omega,trivial⟩,?_⟩⟩
  cases q with
  |zero=>exact⟨by decide,trivial⟩
  |succ q=>exact⟨by omega,Nat.le_refl _,trivial⟩
theorem needC_ok{n:Nat}{P:Nat→Plane}(hn:n≤100)(h:∀j,j<n→(P j).co.length=n):∀c,c≤n→All (needC n P c):=by
 intro c
 induction c with
 |zero=>intro _;exact trivial
 |succ c ih=>intro hc;exact All.append.2 ⟨ih (by omega),needQ_ok hn h (by omega) n (Nat.le_refl _)⟩
theorem needS_ok{n:Nat}{v:List Int}(hv:v.length=n):∀i,i≤n→All (needS n v i):=by
 intro i
 induction i with
 |zero=>intro _;exact trivial
 |succ i ih=>intro hi;exact All.append.2 ⟨ih (by omega),Int.natCast_nonneg _,by omega,by omega,Int.natCast_nonneg _,by omega,trivial⟩
theorem zero_row(n:Nat):RowIs eI ((n:Int)).toNat zeroF (List.replicate n 0):=by
 rw[Int.toNat_natCast]
 refine⟨fun i j hi hj=>?_,?_⟩
 ·obtain rfl:j=0:=Nat.lt_one_iff.1 hj
  exact D.eqv_refl _
 ·unfold Enc.list
  rw[show(fun i=>eI.rd (zeroF i))=fun _:Nat=>(0:Int)from rfl,List.map_const',List.length_range]
def PlOK(nd nm:Nat)(p:Plane):Prop:=(p.de≥0→p.de<nd)∧(p.dr≥0→p.dr<nm)
def stepW(p:Plane)(x:Int)(z:List Int×List Int):List Int×List Int:=
 cond (decide (p.de≥0)) (z.1.set p.de.toNat x,z.2) (cond (decide (p.dr≥0)) (z.1,z.2.set p.dr.toNat x) z)
theorem needW_row(z:L86):All (needW (rowW z)):=⟨Enc.is_F _ _ _,Nat.le_refl _,Enc.is_F _ _ _,Nat.le_refl _,trivial⟩
theorem lst_row(z:L86):lstW (rowW z)=z:=by
 unfold lstW rowW
 rw[Enc.list_F,Enc.list_F]
theorem put_step{p:Plane}{i nd nm n:Nat}{v:List Int}{d:Int}{wd wt:List Int}(hp:PlOK nd nm p)(hv:v.length=n)(hi:i<n)(h1:wd.length=nd)(h2:wt.length=nm) :
  meetA p i v (d,wd,wt)∧afterA p i v (d,wd,wt)=(d,(stepW p (v.getD i 0) (wd,wt)).1,(stepW p (v.getD i 0) (wd,wt)).2):=by
 have hA:p.de≥0→All (needW (putA p i v (d,wd,wt)))∧lstW (putA p i v (d,wd,wt))=(d,wd.set p.de.toNat (v.getD i 0),wt):=by
  intro h
  have hlt:=hp.1 h
  have hr:=put1 (l:=wd) (k:=p.de.toNat) (v:=v.getD i 0) (by omega)
  refine⟨⟨hr.is,Nat.le_refl _,Enc.is_F _ _ _,Nat.le_refl _,trivial⟩,?_⟩
  unfold lstW putA
  dsimp only
  rw[hr.eq,Enc.list_F]
 have hB:p.dr≥0→All (needW (putB p i v (d,wd,wt)))∧lstW (putB p i v (d,wd,wt))=(d,wd,wt.set p.dr.toNat (v.getD i 0)):=by
  intro h
  have hlt:=hp.2 h
  have hr:=put1 (l:=wt) (k:=p.dr.toNat) (v:=v.getD i 0) (by omega)
  refine⟨⟨Enc.is_F _ _ _,Nat.le_refl _,hr.is,Nat.le_refl _,trivial⟩,?_⟩
  unfold lstW putB
  dsimp only
  rw[hr.eq,Enc.list_F]
 constructor
 ·refine⟨fun h=>?_,fun h=>?_⟩
  ·have h:=of_decide_eq_true h
   have hlt:=hp.1 h
   exact All.append.2 ⟨⟨Int.natCast_nonneg _,by omega,h,by show p.de<(wd.length:Int);omega,by show p.de.toNat<wd.length;omega,trivial⟩,(hA h).1⟩
  ·refine All.append.2 ⟨All.append.2 ⟨needW_row _,?_,trivial⟩,needW_row _⟩
   rw[lst_row]
   refine⟨fun h=>?_,fun h=>?_⟩
   ·have h:=of_decide_eq_true h
    have hlt:=hp.2 h
    exact All.append.2 ⟨⟨Int.natCast_nonneg _,by omega,h,by show p.dr<(wt.length:Int);omega,by show p.dr.toNat<wt.length;omega,trivial⟩,(hB h).1⟩
   ·exact All.append.2 ⟨trivial,needW_row _⟩
 ·unfold afterA stepW
  rw[lst_row,lst_row]
  cases h1:decide (p.de≥0)with
  |true=>
   rw[(hA (of_decide_eq_true h1)).2]
   rfl
  |false=>
   unfold afterB
   rw[lst_row]
   cases h2:decide (p.dr≥0)with
   |true=>
    rw[(hB (of_decide_eq_true h2)).2]
    rfl
   |false=>rfl
theorem putW_succ(t:List Plane)(v:List Int)(k:Nat)(z:List Int×List Int):M.putW t v (k+1) z=stepW (t.getD k dfP) (v.getD k 0) (M.putW t v k z):=by
 unfold M.putW
 rw[List.range_succ,List.foldl_append]
 rfl
theorem stepW_len(p:Plane)(x:Int)(z:List Int×List Int):(stepW p x z).1.length=z.1.length∧(stepW p x z).2.length=z.2.length:=by
 unfold stepW
 cases decide (p.de≥0) <;>cases decide (p.dr≥0) <;>simp
theorem putW_len(t:List Plane)(v:List Int)(z:List Int×List Int):∀k,(M.putW t v k z).1.length=z.1.length∧(M.putW t v k z).2.length=z.2.length:=by
 intro k
 induction k with
 |zero=>exact⟨rfl,rfl⟩
 |succ k ih=>rw[putW_succ];obtain⟨h1,h2⟩:=stepW_len (t.getD k dfP) (v.getD k 0) (M.putW t v k z);exact⟨h1.trans ih.1,h2.trans ih.2⟩
theorem putT_wp{nd nm n:Nat}{P:Nat→Plane}{v:List Int}{t:List Plane}(ht:t=(List.range n).map P)(hP:∀j,j<n→PlOK nd nm (P j))(hv:v.length=n){z:List Int×List Int}(hz1:z.1.length=nd)(hz2:z.2.length=nm){d:Int}{f:W86→St86}{Q:St86→Prop}
  (hf:∀w:W86,w.1=d→RowIs eI w.2.1.1 w.2.1.2 (M.putW t v n z).1→RowIs eI w.2.2.1 w.2.2.2 (M.putW t v n z).2→Q (f w)) :
  ∀(m i:Nat) (w:W86),i+m=n→w.1=d→RowIs eI w.2.1.1 w.2.1.2 (M.putW t v i z).1→RowIs eI w.2.2.1 w.2.2.2 (M.putW t v i z).2→(putT n P v m i w f).wp Q:=by
 intro m
 induction m with
 |zero=>
  intro i w hi hd h1 h2
  obtain rfl:i=n:=by omega
  exact hf w hd h1 h2
 |succ m ih=>
  intro i w hi hd h1 h2
  have hlst:lstW w=(d,(M.putW t v i z).1,(M.putW t v i z).2):=by unfold lstW;rw[h1.eq,h2.eq,hd]
  have hPi:=hP i (by omega)
  have hgt:t.getD i dfP=P i:=by rw[ht,map_getD (by omega)]
  obtain⟨l1,l2⟩:=putW_len t v z i
  obtain⟨s1,s2⟩:=put_step (p:=P i) (i:=i) (v:=v) (d:=d) (wd:=(M.putW t v i z).1) (wt:=(M.putW t v i z).2) hPi hv (by omega) (by omega) (by omega)
  have hnext:M.putW t v (i+1) z=stepW (P i) (v.getD i 0) ((M.putW t v i z).1,(M.putW t v i z).2):=by rw[putW_succ,hgt]
  refine needs_mk (All.append.2 ⟨⟨Int.natCast_nonneg _,by omega,by omega,trivial⟩,h1.is,Nat.le_refl _,h2.is,Nat.le_refl _,trivial⟩) ⟨by rw[hlst];exact s1,?_⟩
  rw[hlst,s2,←hnext]
  exact ih (i+1) _ (by omega) rfl (rowIs_F _) (rowIs_F _)
section
variable {B Z σ : Type} {K : Kit1 B Z} {AL : List Plane} {corn : (Nat → Plane) → Sg Empty Z → T (Sg Empty Z)} {f : σ → List Plane → σ} {Rep : Sg Empty Z → σ → Prop} {n : Nat}
structure Rep1(K:Kit1 B Z)(Rep:Sg Empty Z→σ→Prop):Prop where
 ok:∀s b,Rep s b→All (K.need (rawS K s))∧Rep (.b (K.unp (K.pack (rawS K s)))) b
theorem cutS_wp(hK:Rep1 K Rep){R S:Type}{d k:Nat}{fB:Int×List Plane×B→R}{o:SgF Empty Z}{b:σ}{set:List Plane}{q:Plane}(hk:k<1000000)(hr:Rep o.1 b)(hrow:RowIs ePn (d+1) o.2 (set++ [q])){Q:R ⊕ S→Prop}
  (hB:∀y,Rep (.b (K.unp y)) b→Q (.inl (fB (((k+1:Nat):Int),set,y)))):(cutS K d (k:Int) fB o).wp Q:=by
 have hw:IntKind.i64.wrap ((k:Int)+1)=((k+1:Nat):Int):=wrap_succ (by omega)
 have ht:=hrow.take
 obtain⟨s,J⟩:=o
 obtain⟨h1,h2⟩:=hK.ok s b hr
 refine needs_mk (All.append.2 ⟨⟨Int.natCast_nonneg _,by omega,ht.is,by omega,trivial⟩,h1⟩) ?_
 show Q _
 rw[hw,ht.eq]
 exact hB _ h2
theorem levS_wp(hK:Rep1 K Rep)(hC:CornOK AL corn f Rep n)(hL:AL.length≤10000)(hn:n≤100):∀(r d:Nat) (F:Nat→Nat→D) (P:Nat→Plane) (i:Nat) (s:Sg Empty Z) (b:σ) (set:List Plane),d+r=n→set.length=d→RowIs ePn d F set→(∀p,p∈set→p∈AL)→i≤AL.length→(List.range d).map P=set→Rep s b →
  (levS K AL corn r d F P (i:Int) s).wp (LevP f AL Rep r d i s b set):=by
 intro r
 induction r with
 |zero=>
  intro d F P i s b set hdn hset hrow hin hi hP hrep
  obtain rfl:d=n:=by omega
  refine T.bind_wp (T.wp_mono ?_ (hC P s b (fun j hj=>hin _ (by rw[←hP];exact List.mem_map_of_mem (List.mem_range.2 hj))) hrep))
  intro s' hs'
  rw[hP]at hs'
  exact⟨by rw[foldC_zero];exact hs'.1,hrow,hs'.2⟩
 |succ r ih=>
  intro d F P i s b set hdn hset hrow hin hi hP hrep
  have hnx:=fun(F:Nat→Nat→D) (P:Nat→Plane) (i:Nat) (s:Sg Empty Z) (b:σ) (set:List Plane) h1 h2 h3 h4 h5 h6=>ih (d+1) F P i s b set (by omega) h1 h2 h3 h4 h5 h6
  obtain⟨fin,hfin⟩:∃fin,fin=M.foldC f (AL.drop i) (r+1) set b:=⟨_,rfl⟩
  obtain⟨h1,h2⟩:=hK.ok s b hrep
  refine needs_mk (All.append.2 ⟨⟨hrow.is,Nat.le_refl _,trivial⟩,h1⟩) ?_
  refine⟨fun x=>∃k:Nat,k≤AL.length∧x.1=(k:Int)∧x.2.1=set∧∃bk,Rep (.b (K.unp x.2.2)) bk∧M.foldC f (AL.drop k) (r+1) set bk=fin,
   fun x=>AL.length+1-x.1.toNat,⟨i,hi,rfl,hrow.eq,b,h2,hfin.symm⟩,?_⟩
  rintro ⟨x1,x2,x3⟩ ⟨k,hk,e1,e2,bk,hbk,hf⟩
  dsimp only at e1 e2 hbk
  subst e1 e2
  refine rnd_wp (f:=f) (Rep:=Rep) (b:=bk) (Z:=Z) hL (by omega) (by omega) hnx hset hin hk hbk (fun hlt=>?_) (fun hle o ho=>?_)
  ·refine⟨?_,hset ▸ rowIs_F x2,fun _=>rfl⟩
   rw[←hfin,←hf,foldC_end hlt]
   exact hbk
  ·have hstep:=hf
   rw[foldC_step (by omega)]at hstep
   refine cutS_wp hK (by omega) ho.1 ho.2.1 (fun y hy=>⟨⟨k+1,by omega,rfl,rfl,_,hy,hstep⟩,?_⟩)
   show AL.length+1-((k+1:Nat):Int).toNat<AL.length+1-(k:Int).toNat;omega
theorem topS_wp(hK:Rep1 K Rep)(hC:CornOK AL corn f Rep n)(hL:AL.length≤10000)(hn:n≤100)(hn0:1≤n){b0:σ}(h0:Rep .p b0):(topS K AL corn n).wp fun o=>Rep o.1 (M.foldC f AL n [] b0):=by
 obtain⟨r,rfl⟩:∃r,n=r+1:=⟨n-1,by omega⟩
 obtain⟨fin,hfin⟩:∃fin,fin=M.foldC f AL (r+1) [] b0:=⟨_,rfl⟩
 have hnx:=fun(F:Nat→Nat→D) (P:Nat→Plane) (i:Nat) (s:Sg Empty Z) (b:σ) (set:List Plane) h1 h2 h3 h4 h5 h6=>levS_wp (f:=f) (n:=r+1) hK hC hL hn r 1 F P i s b set (by omega) h1 h2 h3 h4 h5 h6
 have hw:IntKind.i64.wrap ((AL.length:Int)-((r+1:Nat):Int))=(AL.length:Int)-((r+1:Nat):Int):=wrap_id (by omega) (by omega)
 have nil:∀p,p∈([]:List Plane)→p∈AL:=fun p hp=>by cases hp
 unfold topS
 rw[show r+1-1=r from rfl]
 refine⟨fun y=>match y with
  |.inl _=>True
  |.inr x=>∃k:Nat,k≤AL.length∧x.1=(k:Int)∧x.2.1=[]∧∃bk,Rep (.b (K.unp x.2.2)) bk∧M.foldC f (AL.drop k) (r+1) [] bk=fin,
  fun y=>match y with|.inl _=>AL.length+2|.inr x=>AL.length+1-x.1.toNat,trivial,?_,?_⟩
 ·intro _ _
  rw[hw]
  refine⟨fun hb=>?_,fun hb=>?_⟩
  ·have hle:=of_decide_eq_true hb
   refine needs_mk ⟨Int.le_refl _,by omega,by decide,trivial⟩ ?_
   have hmem:AL.getD 0 dfQ∈AL:=getD_mem (by omega)
   have hrow:RowIs ePn 1 (joinF 0 (fun _ _=>D.nilp) (cellP (AL.getD 0 dfQ))) [AL.getD 0 dfQ]:=by
    have e0:RowIs ePn 0 (fun _ _=>D.nilp) []:=⟨fun i j hi=>absurd hi (Nat.not_lt_zero i),rfl⟩
    exact e0.push (cell_push _).1 (cell_push _).2
   refine T.bind_wp (T.wp_mono (fun o ho=>?_) (hnx _ _ 1 .p b0 [AL.getD 0 dfQ] rfl hrow (fun p hp=>by rw[List.mem_singleton]at hp;rw[hp];exact hmem) (by omega) (chP_map (set:=[]) rfl) h0))
   have hstep:M.foldC f (AL.drop 1) (r+1) [] (M.foldC f (AL.drop 1) r [AL.getD 0 dfQ] b0)=fin:=by
    rw[hfin]
    have:=foldC_step (f:=f) (AL:=AL) (r:=r) (k:=0) (set:=[]) (b:=b0) (by omega)
    rw[List.drop_zero]at this
    exact this.symm
   refine cutS_wp (k:=0) (set:=[]) (q:=AL.getD 0 dfQ) hK (by omega) ho.1 ho.2.1 (fun y hy=>⟨⟨1,by omega,rfl,rfl,_,hy,hstep⟩,?_⟩)
   show AL.length+1-((1:Nat):Int).toNat<AL.length+2;omega
  ·have hle:=of_decide_eq_false hb
   show Rep .p (M.foldC f AL (r+1) [] b0)
   rw[foldC_few (by omega)]
   exact h0
 ·rintro ⟨x1,x2,x3⟩ ⟨k,hk,e1,e2,bk,hbk,hf⟩
  dsimp only at e1 e2 hbk
  subst e1 e2
  refine rnd_wp (f:=f) (Rep:=Rep) (b:=bk) (Z:=Z) hL (by omega) (by omega) hnx rfl nil hk hbk (fun hlt=>?_) (fun hle o ho=>?_)
  ·show Rep _ (M.foldC f AL (r+1) [] b0)
   rw[←hfin,←hf,foldC_end hlt]
   exact hbk
  ·have hstep:=hf
   rw[foldC_step (by omega)]at hstep
   refine cutS_wp hK (by omega) ho.1 ho.2.1 (fun y hy=>⟨⟨k+1,by omega,rfl,rfl,_,hy,hstep⟩,?_⟩)
   show AL.length+1-((k+1:Nat):Int).toNat<AL.length+1-(k:Int).toNat;omega
end
def Rep86:St86→M.Ws→Prop
 |.p,b=>b=M.ws0
 |.a x,_=>nomatch x
 |.b z,b=>∃wd wt,b=⟨z.1,z.2.1,z.2.2.1,wd,wt⟩∧RowIs eI z.2.2.2.1.1 z.2.2.2.1.2.1 wd∧RowIs eI z.2.2.2.2.1 z.2.2.2.2.2.1 wt∧((z.2.2.1=0∧b=M.ws0)∨(0<z.2.2.1∧z.2.2.1≤2400000000)∧z.2.1=z.2.2.1∧i64ok z.1)
theorem needR_ok{r:Raw}{l:List Int}(h:RowIs eI r.1 r.2.1 l):All (needR r):=by
 obtain⟨n,F,q⟩:=r
 cases q with
 |true=>exact⟨h.is,Nat.le_refl _,trivial⟩
 |false=>exact⟨h.is,trivial⟩
theorem rep86:Rep1 K86 Rep86:=by
 constructor
 intro s b hs
 cases s with
 |p=>
  have hs:b=M.ws0:=hs
  subst hs
  exact⟨⟨fun i j hi=>absurd hi (Nat.not_lt_zero i),fun i j hi=>absurd hi (Nat.not_lt_zero i),trivial⟩,[],[],rfl,⟨fun i j hi=>absurd hi (Nat.not_lt_zero i),rfl⟩,⟨fun i j hi=>absurd hi (Nat.not_lt_zero i),rfl⟩,.inl ⟨rfl,rfl⟩⟩
 |a x=>cases x
 |b z=>
  obtain⟨nu,gd,od,⟨n1,F1,q1⟩,n2,F2,q2⟩:=z
  obtain⟨wd,wt,h1,h2,h3,h4⟩:=hs
  refine⟨All.append.2 ⟨needR_ok h2,needR_ok h3⟩,wd,wt,h1,?_,?_,h4⟩
  ·show RowIs eI (Enc.list eI n1 F1).length (eI.F (Enc.list eI n1 F1)) wd
   have e:Enc.list eI n1 F1=wd:=h2.eq
   rw[e];exact rowIs_F wd
  ·show RowIs eI (Enc.list eI n2 F2).length (eI.F (Enc.list eI n2 F2)) wt
   have e:Enc.list eI n2 F2=wt:=h3.eq
   rw[e];exact rowIs_F wt
section
variable {n nd nm K : Nat} {AL : List Plane} {asked : List Int}
theorem light_wp{P:Nat→Plane}{t:List Plane}{v:List Int}{d:Int}(ht:t=(List.range n).map P)(hP:∀j,j<n→PlOK nd nm (P j))(hv:v.length=n)(hd:0<d∧d≤2400000000)(hi:i64ok (M.wsumW t v))(hnd:nd≤1000)(hnm:nm≤1000)(s:St86) :
  (lightT nd nm n P v d).wp fun s'=>Rep86 s' ⟨M.wsumW t v,d,d,(M.putW t v t.length (List.replicate nd 0,List.replicate nm 0)).1,(M.putW t v t.length (List.replicate nd 0,List.replicate nm 0)).2⟩∧(isB s=true→isB s'=true):=by
 have htl:t.length=n:=by rw[ht];simp
 have hs:=sumJ_eq P v n
 rw[←ht]at hs
 unfold lightT
 refine needs_mk ⟨Int.natCast_nonneg _,Int.le_refl _,by omega,Int.natCast_nonneg _,Int.le_refl _,by omega,trivial⟩ ?_
 refine putT_wp (nd:=nd) (nm:=nm) (d:=d) (z:=(List.replicate nd 0,List.replicate nm 0)) ht hP hv (by simp) (by simp) (fun w hw h1 h2=>?_) n 0 _ (by omega) rfl (zero_row nd) (zero_row nm)
 rw[htl,hs]
 obtain⟨w0,w1,w2⟩:=w
 have hw:w0=d:=hw
 subst hw
 exact⟨⟨_,_,rfl,h1,h2,.inr ⟨hd,rfl,hi⟩⟩,fun _=>rfl⟩
theorem corn86(h:SmallP n AL)(hAL:∀p,p∈AL→PlOK nd nm p)(hK:1≤K)(hK1:K≤1000)(ha:Ask n K asked)(hnd:nd≤1000)(hnm:nm≤1000):CornOK AL (cornW nd nm n asked) (M.wStep asked nd nm) Rep86 n:=by
 intro P s b hP hrep
 obtain⟨t,ht⟩:∃t,t=(List.range n).map P:=⟨_,rfl⟩
 have htl:t.length=n:=by rw[ht];simp
 have htm:∀p,p∈t→p∈AL:=by
  intro p hp
  rw[ht]at hp
  obtain⟨j,hj,rfl⟩:=List.mem_map.1 hp
  exact hP j (List.mem_range.1 hj)
 have hsq:=turn_sq h htm htl
 have hn4:=h.n4
 have hn1:=h.n1
 have hs:=solW_eq P ha.len
 rw[←ht]at hs ⊢
 unfold cornW
 have e1:Enc.list eI n (eI.F asked)=asked:=by have:=ha.len;subst this;exact Enc.list_F eI asked
 refine needs_mk (All.append.2 ⟨needC_ok (by omega) (fun j hj=>h.cl _ (hP j hj)) n (Nat.le_refl _),All.append.2 ⟨All_mem fun q hq=>?_,All.append.2 ⟨⟨Enc.is_F _ _ _,trivial⟩,All_mem fun q hq=>?_⟩⟩⟩) ?_
 ·rw[List.eq_of_mem_replicate hq];exact Nat.le_refl _
 ·obtain⟨c,_,hq⟩:=List.mem_flatMap.1 hq
  simp only[List.mem_cons,List.not_mem_nil,or_false]at hq
  rcases hq with rfl|rfl
  ·exact(colJ_row P c n).is
  ·first|exact trivial|rfl
 rw[hs]
 refine⟨fun hb=>?_,fun hb=>?_⟩
 ·have e:M.wStep asked nd nm b t=b:=by unfold M.wStep;rw[hb];rfl
  exact⟨by rw[e];exact hrep,id⟩
 ·have hok:(M.wsol asked t).2.2=true:=by simpa using hb
  have hd:Lp.DI en (M.turnP n t) (List.range n)≠0:=by
   intro e
   have:=solve_no (r:=asked) hsq e
   unfold M.wsol at hok
   rw[ha.len,this]at hok;cases hok
  obtain⟨_,sol⟩:=solve_yes hsq hK (by omega) ha.at hd
  obtain⟨v,hv⟩:∃v,v=(M.wsol asked t).1:=⟨_,rfl⟩
  obtain⟨d,hdd⟩:∃d,d=(M.wsol asked t).2.1:=⟨_,rfl⟩
  have hsol:M.wsol asked t=(v,d,true):=by rw[hv,hdd,←hok]
  have sol:Sol n K (M.turnP n t) asked v d:=by rw[hv,hdd];unfold M.wsol;rw[ha.len];exact sol
  have hvl:=sol.len
  have hdb:0<d∧d≤2400000000:=⟨sol.pos,sol.db⟩
  have hsum:M.wsumW t v=wsum n t v:=wsum_exact h htm htl (K:=24000000*K) (by omega) sol.nb
  have hi:i64ok (M.wsumW t v):=by
   rw[hsum]
   unfold wsum
   have:=Lp.smI_abs (g:=fun i=>en v i*(t.getD i dfP).am) (G:=fun _=>24000000*K*1000000) (l:=List.range n) (fun c hc=>mulI_bnd (sol.nb c) (h.ae _ (htm _ (getD_mem (by have:=List.mem_range.1 hc;omega)))))
   rw[show((List.range n).map fun _=>24000000*K*1000000).sum=n*(24000000*K*1000000) by rw[List.map_const'];simp]at this
   have h2:n*(24000000*K*1000000)≤4*(24000000*1000*1000000):=Nat.mul_le_mul hn4 (by omega)
   unfold i64ok
   omega
  rw[hsol]
  simp only[Enc.list_F]
  refine needs_mk ⟨Enc.is_F _ _ _,by omega,by omega,trivial⟩ ⟨fun hl=>?_,fun hl=>?_⟩
  ·have e:M.wStep asked nd nm b t=b:=by
    unfold M.wStep
    rw[hsol]
    show cond (!true||decide (M.least v<0)) _ _=_
    rw[hl];rfl
   exact⟨by rw[e];exact hrep,id⟩
  ·have e:M.wStep asked nd nm b t=M.lighter nd nm b t v d:=by
    unfold M.wStep
    rw[hsol]
    show cond (!true||decide (M.least v<0)) _ _=_
    rw[hl];rfl
   rw[e]
   refine needs_mk (needS_ok hvl n (Nat.le_refl _)) ?_
   have bet:=fun s=>light_wp (nd:=nd) (nm:=nm) (P:=P) (t:=t) (v:=v) (d:=d) ht (fun j hj=>hAL _ (hP j hj)) hvl hdb hi hnd hnm s
   have hsJ:=sumJ_eq P v n
   rw[←ht]at hsJ
   cases s with
   |p=>
    have hb0:b=M.ws0:=hrep
    subst hb0
    exact bet .p
   |a z=>cases z
   |b z=>
    obtain⟨nu,gd,od,⟨n1,F1,q1⟩,n2,F2,q2⟩:=z
    obtain⟨wd,wt,hb0,r1,r2,r3⟩:=hrep
    have hb0:b=⟨nu,gd,od,wd,wt⟩:=hb0
    have r3:(od=0∧b=M.ws0)∨(0<od∧od≤2400000000)∧gd=od∧i64ok nu:=r3
    show(overT nd nm n P v d nu gd od _).wp _
    unfold overT
    rw[hsJ]
    unfold M.lighter
    rcases r3 with⟨s3,s4⟩|⟨s3,s4,s5⟩
    ·rw[s4]
     subst s3
     refine⟨fun _=>bet _,fun hne=>?_⟩
     cases hne
    ·subst s4 hb0
     refine⟨fun h0=>?_,fun h0=>needs_mk ⟨hi,s5,⟨hdb.1,by omega⟩,⟨s3.1,by omega⟩,trivial⟩ ⟨fun h1=>?_,fun h1=>?_⟩⟩
     ·have:=eq_of_beq h0;omega
     ·have e:(gd==0||M.less (M.wsumW t v) d nu gd)=true:=by rw[h1,Bool.or_true]
      rw[show(M.Ws.od ⟨nu,gd,gd,wd,wt⟩==0||M.less (M.wsumW t v) d (M.Ws.num ⟨nu,gd,gd,wd,wt⟩) (M.Ws.gd ⟨nu,gd,gd,wd,wt⟩))=true from e,cond_true]
      exact bet _
     ·have e:(gd==0||M.less (M.wsumW t v) d nu gd)=false:=by rw[h1,Bool.or_false];exact h0
      rw[show(M.Ws.od ⟨nu,gd,gd,wd,wt⟩==0||M.less (M.wsumW t v) d (M.Ws.num ⟨nu,gd,gd,wd,wt⟩) (M.Ws.gd ⟨nu,gd,gd,wd,wt⟩))=false from e,cond_false]
      exact⟨⟨wd,wt,rfl,r1,r2,.inr ⟨s3,rfl,s5⟩⟩,id⟩
end
end Go.Pl
end
section
set_option maxRecDepth 100000
namespace Go.Pl
open Go.V Go.Proofs
def res86(b:M.Ws):List Ar:=[.agg [dI b.num,dI b.gd],.agg [dI b.od,.sl false b.wd.length 1 (eI.F b.wd),.sl false b.wt.length 1 (eI.F b.wt)]]
theorem row_eqv{q:Bool}{n:Nat}{F:Nat→Nat→D}{l:List Int}(h:RowIs eI n F l):(D.sl q n 1 F).eqv (.sl false l.length 1 (eI.F l)):=by
 have:=eI.to (q:=q) (q':=false) (fun e=>by cases e) h.is
 rw[h.eq]at this
 exact this
theorem finW_wp{s:St86}{b:M.Ws}(h:Rep86 s b):(finW s).wp fun rs=>rsEqv rs (res86 b):=by
 cases s with
 |p=>
  have h:b=M.ws0:=h
  subst h
  exact⟨⟨rfl,rfl,trivial⟩,⟨rfl,⟨id,rfl,(fun h=>absurd h (Nat.lt_irrefl 0)),fun i j hi=>absurd hi (Nat.not_lt_zero i)⟩,⟨id,rfl,(fun h=>absurd h (Nat.lt_irrefl 0)),fun i j hi=>absurd hi (Nat.not_lt_zero i)⟩,trivial⟩,trivial⟩
 |a x=>cases x
 |b z=>
  obtain⟨nu,gd,od,⟨n1,F1,q1⟩,n2,F2,q2⟩:=z
  obtain⟨wd,wt,h1,h2,h3,h4⟩:=h
  have h1:b=⟨nu,gd,od,wd,wt⟩:=h1
  subst h1
  exact⟨⟨rfl,rfl,trivial⟩,⟨rfl,row_eqv h2,row_eqv h3,trivial⟩,trivial⟩
theorem planes_ok{mo:List Int}{de:List Dem}{more:List Int}:∀p,p∈M.planes mo de more→PlOK de.length mo.length p:=by
 intro p hp
 rcases planes_cases hp with⟨j,hj,rfl⟩|⟨i,hi,rfl⟩|⟨i,hi,rfl⟩
 ·refine⟨fun _=>?_,fun h=>?_⟩
  ·show((j:Nat):Int)<_;omega
  ·exact absurd h (show ¬(-1:Int)≥0 by decide)
 ·refine⟨fun h=>?_,fun _=>?_⟩
  ·exact absurd h (show ¬(-1:Int)≥0 by decide)
  ·show((i:Nat):Int)<_;omega
 ·exact⟨fun h=>absurd h (show ¬(-1:Int)≥0 by decide),fun h=>absurd h (show ¬(-1:Int)≥0 by decide)⟩
end Go.Pl
end
section
set_option maxRecDepth 100000
namespace Go.Pl
open Go.V Go.Proofs
theorem t86_2m(q1 q2 q3 q4:Bool)(mo ga:List Int)(de:List Dem)(asked:List Int):runFnX Try.prog G0 (lookS [v153,v154q 2,v131,v155]) (fun f=>match f with|180=>[(7000004,[],none),(1000012,[],none),(4,[.slot 8 (.int .i64),.blk 1 [.rowN 206 ePn 0],.blk 1000004 [.int .i64,.int .i64],.blk 1000005 [.int .i64,.imE eI,.imE eI]],none),(4,[.slot 8 (.int .i64),.blk 1 [.rowN 206 ePn 1],.blk 1000004 [.int .i64,.int .i64],.blk 1000005 [.int .i64,.imE eI,.imE eI]],none)]|86=>[(3000032,[],none),(3000036,[],none),(3000035,[],none),(1000037,[],none),(3000041,[],none),(3000040,[],none),(1000042,[],none),(3000077,[],none),(3000076,[],none),(1000078,[],none),(3000118,[],none),(3000117,[],none),(1000119,[],none),(6000123,[.blk 9 [.int .i64,.rowE 3 eI,.rowE 3 eI]],none),(6000136,[.blk 9 [.int .i64,.rowE 3 eI,.rowE 3 eI]],none)]|_=>[]) [152,179,180] 4 60 40 86 Try.f86 [.agg [.sl q1 1 1 (eI.F mo),.sl q2 ga.length 1 (eI.F ga),.sl q3 de.length 3 (eDm.F de)],.c (.sl q4 2 1 (eI.F asked)),.c (.sl true 1 1 (eI.F [-1]))] =
  tr86 2 1 mo ga de asked 1 (eI.F [-1]):=by kernel_rfl
theorem t86_3m(q1 q2 q3 q4:Bool)(mo ga:List Int)(de:List Dem)(asked:List Int):runFnX Try.prog G0 (lookS [v153,v154q 3,v131,v155]) (fun f=>match f with|180=>[(7000004,[],none),(1000012,[],none),(4,[.slot 8 (.int .i64),.blk 1 [.rowN 206 ePn 0],.blk 1000004 [.int .i64,.int .i64],.blk 1000005 [.int .i64,.imE eI,.imE eI]],none),(4,[.slot 8 (.int .i64),.blk 1 [.rowN 206 ePn 1],.blk 1000004 [.int .i64,.int .i64],.blk 1000005 [.int .i64,.imE eI,.imE eI]],none),(4,[.slot 8 (.int .i64),.blk 1 [.rowN 206 ePn 2],.blk 1000004 [.int .i64,.int .i64],.blk 1000005 [.int .i64,.imE eI,.imE eI]],none)]|86=>[(3000032,[],none),(3000036,[],none),(3000035,[],none),(1000037,[],none),(3000041,[],none),(3000040,[],none),(1000042,[],none),(3000077,[],none),(3000076,[],none),(1000078,[],none),(3000118,[],none),(3000117,[],none),(1000119,[],none),(6000123,[.blk 9 [.int .i64,.rowE 3 eI,.rowE 3 eI]],none),(6000136,[.blk 9 [.int .i64,.rowE 3 eI,.rowE 3 eI]],none)]|_=>[]) [152,179,180] 4 60 40 86 Try.f86 [.agg [.sl q1 2 1 (eI.F mo),.sl q2 ga.length 1 (eI.F ga),.sl q3 de.length 3 (eDm.F de)],.c (.sl q4 3 1 (eI.F asked)),.c (.sl true 1 1 (eI.F [-1]))] =
  tr86 3 2 mo ga de asked 1 (eI.F [-1]):=by kernel_rfl
end Go.Pl
end
section
set_option maxRecDepth 100000
namespace Go.Pl
open Go.V Go.Proofs
theorem t86_4m(q1 q2 q3 q4:Bool)(mo ga:List Int)(de:List Dem)(asked:List Int):runFnX Try.prog G0 (lookS [v153,v154q 4,v131,v155]) (fun f=>match f with|180=>[(7000004,[],none),(1000012,[],none),(4,[.slot 8 (.int .i64),.blk 1 [.rowN 206 ePn 0],.blk 1000004 [.int .i64,.int .i64],.blk 1000005 [.int .i64,.imE eI,.imE eI]],none),(4,[.slot 8 (.int .i64),.blk 1 [.rowN 206 ePn 1],.blk 1000004 [.int .i64,.int .i64],.blk 1000005 [.int .i64,.imE eI,.imE eI]],none),(4,[.slot 8 (.int .i64),.blk 1 [.rowN 206 ePn 2],.blk 1000004 [.int .i64,.int .i64],.blk 1000005 [.int .i64,.imE eI,.imE eI]],none),(4,[.slot 8 (.int .i64),.blk 1 [.rowN 206 ePn 3],.blk 1000004 [.int .i64,.int .i64],.blk 1000005 [.int .i64,.imE eI,.imE eI]],none)]|86=>[(3000032,[],none),(3000036,[],none),(3000035,[],none),(1000037,[],none),(3000041,[],none),(3000040,[],none),(1000042,[],none),(3000077,[],none),(3000076,[],none),(1000078,[],none),(3000118,[],none),(3000117,[],none),(1000119,[],none),(6000123,[.blk 9 [.int .i64,.rowE 3 eI,.rowE 3 eI]],none),(6000136,[.blk 9 [.int .i64,.rowE 3 eI,.rowE 3 eI]],none)]|_=>[]) [152,179,180] 4 60 40 86 Try.f86 [.agg [.sl q1 3 1 (eI.F mo),.sl q2 ga.length 1 (eI.F ga),.sl q3 de.length 3 (eDm.F de)],.c (.sl q4 4 1 (eI.F asked)),.c (.sl true 1 1 (eI.F [-1]))] =
  tr86 4 3 mo ga de asked 1 (eI.F [-1]):=by kernel_rfl
end Go.Pl
end
section
set_option maxRecDepth 100000
namespace Go.Pl
open Go.V Go.Proofs
theorem OkP.smallM{n:Nat}{mo ga:List Int}{de:List Dem}(h:OkP n mo ga de):SmallP (n+1) (M.planes mo de [-1]):=by
 have:=small_planes (mo:=mo) (de:=de) (more:=[-1]) (by simp) (by have:=h.lm;have:=h.n3;simp;omega) h.rm h.d1 h.d2 h.d3 (fun x hx=>by rw[List.mem_singleton]at hx;subst hx;decide)
 simp only[List.length_cons,List.length_nil,h.lm]at this
 exact this
theorem OkP.lenM{n:Nat}{mo ga:List Int}{de:List Dem}(h:OkP n mo ga de):(M.planes mo de [-1]).length≤10000:=by
 rw[planes_len];have:=h.lm;have:=h.n3;have:=h.ld;simp;omega
theorem w86m{n:Nat}{mo ga asked:List Int}{de:List Dem}(h:OkP n mo ga de)(ha:Ask (n+1) 100 asked):(tr86 (n+1) n mo ga de asked 1 (eI.F [-1])).wp fun rs=>rsEqv rs (res86 (M.weights asked (M.planes mo de [-1]) de.length n)):=by
 have hm:=h.lm
 have hn3:=h.n3
 unfold tr86
 have e1:Enc.list eI n (eI.F mo)=mo:=by rw[←hm];exact Enc.list_F eI mo
 have e2:Enc.list eI 1 (eI.F [-1])=[-1]:=Enc.list_F eI [-1]
 rw[e1,e2]
 simp only[Enc.list_F]
 refine needs_mk ?_ (T.bind_wp (T.wp_mono (fun o ho=>?_) (topS_wp rep86 (corn86 (K:=100) h.smallM (fun p hp=>by have:=planes_ok p hp;rw[hm]at this;exact this) (by omega) (by omega) ha (by have:=h.ld;omega) (by omega)) h.lenM (by omega) (by omega) (b0:=M.ws0) rfl)))
 ·unfold needPl
  rw[e1,e2]
  simp only[Enc.list_F]
  exact⟨Enc.is_F _ _ _,Enc.is_F _ _ _,Enc.is_F _ _ _,Enc.is_F _ _ _,by have:=h.ld;omega,by omega,by decide,by simp,h.d1,trivial⟩
 ·have:=finW_wp ho
  unfold M.weights
  rw[ha.len]
  exact this
def dom86m:DomF
 |[.agg [.sl _ n1 st1 F1,.sl _ n2 st2 F2,.sl _ n3 st3 F3],.c (.sl _ n4 st4 F4),.c (.sl q5 n5 st5 F5)]=>(match Nat.beq st1 1&&Nat.beq st2 1&&(Nat.beq st3 3||Nat.beq n3 0)&&Nat.beq st4 1&&Nat.beq n5 1&&Nat.beq st5 1&&q5,F5 0 0 with
  |true,.int .i64 m=>some ([eI.Is n1 F1,eI.Is n2 F2,eDm.Is n3 F3,eI.Is n4 F4,OkP n1 (eI.list n1 F1) (eI.list n2 F2) (eDm.list n3 F3),Ask (n1+1) 100 (eI.list n4 F4),m= -1],res86 (M.weights (eI.list n4 F4) (M.planes (eI.list n1 F1) (eDm.list n3 F3) [-1]) (eDm.list n3 F3).length n1))
  |_,_=>none)
 |_=>none
def v86m:Nat×Sm:=(86,fokSm dom86m)
theorem C86m:FOK Try.prog G0 gw 86 dom86m:=by
 intro ags p r hd hp κ w xs hw hl hG hx
 unfold dom86m at hd
 split at hd
 ·rename_i q1 n1 st1 F1 q2 n2 st2 F2 q3 n3 st3 F3 q4 n4 st4 F4 q5 n5 st5 F5
  split at hd
  ·rename_i m hst hm5
   simp only[Bool.and_eq_true]at hst
   obtain⟨⟨⟨⟨⟨⟨g1,g2⟩,g3⟩,g4⟩,g5⟩,g6⟩,g7⟩:=hst
   have g1:=Nat.eq_of_beq_eq_true g1
   have g2:=Nat.eq_of_beq_eq_true g2
   have g4:=Nat.eq_of_beq_eq_true g4
   have g5:=Nat.eq_of_beq_eq_true g5
   have g6:=Nat.eq_of_beq_eq_true g6
   subst g1 g2 g4 g5 g6 g7
   simp only[Option.some.injEq,Prod.mk.injEq]at hd
   obtain⟨rfl,rfl⟩:=hd
   obtain⟨i1,i2,i3,i4,hok,hask,hm,_⟩:=hp
   subst hm
   have heq:agsEqv [.agg [.sl q1 n1 1 F1,.sl q2 n2 1 F2,.sl q3 n3 st3 F3],.c (.sl q4 n4 1 F4),.c (.sl true 1 1 F5)] [.agg [.sl q1 (eI.list n1 F1).length 1 (eI.F (eI.list n1 F1)),.sl q2 (eI.list n2 F2).length 1 (eI.F (eI.list n2 F2)),.sl q3 (eDm.list n3 F3).length 3 (eDm.F (eDm.list n3 F3))],.c (.sl q4 (eI.list n4 F4).length 1 (eI.F (eI.list n4 F4))),.c (.sl true 1 1 (eI.F [-1]))]:=
    ⟨⟨eI.to id i1,eI.to id i2,eDm.toz g3 i3,trivial⟩,eI.to id i4,⟨id,rfl,fun _=>rfl,fun i j hi hj=>by
     obtain rfl:i=0:=by omega
     obtain rfl:j=0:=by omega
     rw[hm5];exact D.eqv_refl _⟩,trivial⟩
   have hn1:=hok.n1
   have hn3:=hok.n3
   have hw86:=w86m hok hask
   have l1:(eI.list n1 F1).length=n1:=Enc.list_len eI
   rw[l1,hask.len]at heq
   generalize eI.list n1 F1=mo at *
   generalize eI.list n2 F2=ga at *
   generalize eDm.list n3 F3=de at *
   generalize eI.list n4 F4=asked at *
   obtain rfl|rfl|rfl:n1=1∨n1=2∨n1=3:=by omega
   ·exact fokX_fin mixed gw_stable (sl:=[v153,v154q 2,v131,v155]) ⟨S153,S154q (by decide) C154_2,S131,S155,trivial⟩ Try.func86 hw hl hG hx heq rfl (t86_2m q1 q2 q3 q4 mo ga de asked) hw86
   ·exact fokX_fin mixed gw_stable (sl:=[v153,v154q 3,v131,v155]) ⟨S153,S154q (by decide) C154_3,S131,S155,trivial⟩ Try.func86 hw hl hG hx heq rfl (t86_3m q1 q2 q3 q4 mo ga de asked) hw86
   ·exact fokX_fin mixed gw_stable (sl:=[v153,v154q 4,v131,v155]) ⟨S153,S154q (by decide) C154_4,S131,S155,trivial⟩ Try.func86 hw hl hG hx heq rfl (t86_4m q1 q2 q3 q4 mo ga de asked) hw86
  ·cases hd
 ·cases hd
theorem S86m:SumOK Try.prog G0 gw 86 (fokSm dom86m):=fok_sum Try.func86 rfl C86m
end Go.Pl
end
section
set_option maxRecDepth 100000
namespace Go.Pl
open Go.V Go.Proofs
abbrev B140:Type:=Int×List Plane×Bool×PUnit
abbrev O140:Type:=(Bool×(Nat→Nat→D)) ⊕ PUnit
abbrev nilG:Nat→Nat→D:=fun _ _=>.nilp
section
variable (AL : List Plane)
def cutE{R:Type}(d:Nat)(k:Int)(fB:B140→R):O140→T (R ⊕ O140)
 |.inl (z,J)=>T.needs [(0:Int)≤(d:Int),(d:Int)≤((d+1:Nat):Int),ePn.Is d J,d≤d+1] (.ret (.inl (fB (IntKind.i64.wrap (k+1),Enc.list ePn d J,z,⟨⟩))))
 |.inr _=>.ret (.inr (.inr ⟨⟩))
def rndE{R:Type}(nx:(Nat→Nat→D)→(Nat→Plane)→Int→Bool→T O140)(r d:Nat)(k:Int)(X:List Plane)(z:Bool)(fB:B140→R):T (R ⊕ O140):=
 .br (decide (k≤IntKind.i64.wrap ((AL.length:Int)-((r+1:Nat):Int)))) (T.needs [0≤k,k<(AL.length:Int),d+1≤1000000,d≤d]
  ((nx (joinF d (ePn.F X) (cellP (AL.getD k.toNat dfQ))) (chP d X (AL.getD k.toNat dfQ)) (IntKind.i64.wrap (k+1)) z).bind (cutE d k fB))) (.ret (.inr (.inl (z,ePn.F X))))
variable (corn : (Nat → Plane) → T (PUnit ⊕ PUnit))
def levE:(r:Nat)→(d:Nat)→(F:Nat→Nat→D)→(P:Nat→Plane)→Int→Bool→T O140
 |0,_,F,P,_,z=>(corn P).bind fun o=>match o with
  |.inl _=>.ret (.inl (z,F))
  |.inr _=>.ret (.inr ⟨⟩)
 |r+1,d,F,P,i,z=>T.needs [ePn.Is d F,d≤d] (.loop B140 (i,Enc.list ePn d F,z,⟨⟩) (fun x=>rndE AL (levE r (d+1)) r d x.1 x.2.1 x.2.2.1 id))
def topE(n:Nat):T O140:=
 .loop2 PUnit B140 (.inl ⟨⟩)
  (fun _=>.br (decide ((0:Int)≤IntKind.i64.wrap ((AL.length:Int)-(n:Int)))) (T.needs [(0:Int)≤0,(0:Int)<(AL.length:Int),1≤1000000]
   ((levE AL corn (n-1) 1 (joinF 0 nilG (cellP (AL.getD 0 dfQ))) (chP 0 [] (AL.getD 0 dfQ)) 1 false).bind (cutE 0 0 .inr))) (.ret (.inr (.inl (false,nilG)))))
  (fun x=>rndE AL (levE AL corn (n-1) 1) (n-1) 0 x.1 x.2.1 x.2.2.1 .inr)
def cornE(n:Nat)(P:Nat→Plane):T (PUnit ⊕ PUnit):=
 T.needs (needApp n n++ [n≤n,n≤n,eI.Is n (amJ P n)]++needRows n P)
  (.br (!(solP P n).2.2) (.ret (.inl ⟨⟩))
   ((T.loop (Int×PUnit) (0,⟨⟩) fun x=>.br (decide (x.1<(AL.length:Int)))
    (T.needs [0≤x.1,x.1<(AL.length:Int),iI (AL.getD x.1.toNat dfQ).co,iI (solP P n).1,(cI (AL.getD x.1.toNat dfQ).co).length≤1000000,(cI (AL.getD x.1.toNat dfQ).co).length≤(cI (solP P n).1).length]
     (.br (decide (M.dot (cI (AL.getD x.1.toNat dfQ).co) (cI (solP P n).1)>IntKind.i64.wrap ((AL.getD x.1.toNat dfQ).am*(solP P n).2.1)))
      (.br (decide (x.1≥0)) (.ret (.inr (.inl ⟨⟩))) (.ret (.inr (.inr ⟨⟩))))
      (.ret (.inl (IntKind.i64.wrap (x.1+1),⟨⟩)))))
    (.ret (.inr (.inr ⟨⟩))):T (PUnit ⊕ PUnit))))
end
def tr140(n:Nat)(mo ga:List Int)(de:List Dem):T (List Ar):=
 T.needs (needPl n mo ga de 0 (fun _ _=>.nilp)) ((topE (M.planes (Enc.list eI n (eI.F mo)) (cD de) (Enc.list eI 0 (fun _ _=>D.nilp)))
  (cornE (M.planes (Enc.list eI n (eI.F mo)) (cD de) (Enc.list eI 0 (fun _ _=>D.nilp))) n) n).bind fun o=>match o with
   |.inl _=>.ret [rB false]
   |.inr _=>.ret [rB true])
theorem t140_1(q1 q2 q3:Bool)(mo ga:List Int)(de:List Dem):runFnX Try.prog G0 (lookS [v153,v139,v154 1]) (fun f=>match f with|180=>[(7000004,[],none),(1000012,[],none),(4,[.slot 8 (.int .i64),.blk 1 [.rowN 206 ePn 0],.blk 1000001 [.bool]],none)]|149=>[(3000024,[],none),(3000023,[],none),(1000025,[],none)]|188=>[(2,[.slot 8 (.int .i64)],none)]|_=>[]) [149,178,152,179,180,177,188] 4 60 40 140 Try.f140 [.agg [.sl q1 1 1 (eI.F mo),.sl q2 ga.length 1 (eI.F ga),.sl q3 de.length 3 (eDm.F de)]] =
  tr140 1 mo ga de:=by kernel_rfl
theorem t140_2(q1 q2 q3:Bool)(mo ga:List Int)(de:List Dem):runFnX Try.prog G0 (lookS [v153,v139,v154 2]) (fun f=>match f with|180=>[(7000004,[],none),(1000012,[],none),(4,[.slot 8 (.int .i64),.blk 1 [.rowN 206 ePn 0],.blk 1000001 [.bool]],none),(4,[.slot 8 (.int .i64),.blk 1 [.rowN 206 ePn 1],.blk 1000001 [.bool]],none)]|149=>[(3000024,[],none),(3000023,[],none),(1000025,[],none)]|188=>[(2,[.slot 8 (.int .i64)],none)]|_=>[]) [149,178,152,179,180,177,188] 4 60 40 140 Try.f140 [.agg [.sl q1 2 1 (eI.F mo),.sl q2 ga.length 1 (eI.F ga),.sl q3 de.length 3 (eDm.F de)]] =
  tr140 2 mo ga de:=by kernel_rfl
theorem t140_3(q1 q2 q3:Bool)(mo ga:List Int)(de:List Dem):runFnX Try.prog G0 (lookS [v153,v139,v154 3]) (fun f=>match f with|180=>[(7000004,[],none),(1000012,[],none),(4,[.slot 8 (.int .i64),.blk 1 [.rowN 206 ePn 0],.blk 1000001 [.bool]],none),(4,[.slot 8 (.int .i64),.blk 1 [.rowN 206 ePn 1],.blk 1000001 [.bool]],none),(4,[.slot 8 (.int .i64),.blk 1 [.rowN 206 ePn 2],.blk 1000001 [.bool]],none)]|149=>[(3000024,[],none),(3000023,[],none),(1000025,[],none)]|188=>[(2,[.slot 8 (.int .i64)],none)]|_=>[]) [149,178,152,179,180,177,188] 4 60 40 140 Try.f140 [.agg [.sl q1 3 1 (eI.F mo),.sl q2 ga.length 1 (eI.F ga),.sl q3 de.length 3 (eDm.F de)]] =
  tr140 3 mo ga de:=by kernel_rfl
end Go.Pl
end
section
set_option maxRecDepth 100000
namespace Go.Pl
open Go.V Go.Proofs
section
variable {n : Nat} {AL : List Plane}
theorem foldC_true:∀{l:List Plane} {k:Nat} {set:List Plane},M.foldC (M.someStep AL) l k set true=true:=by
 intro l
 induction l with
 |nil=>intro k set;cases k <;>rfl
 |cons c l ih=>
  intro k set
  cases k with
  |zero=>rfl
  |succ k=>
   show M.foldC (M.someStep AL) l (k+1) set (M.foldC (M.someStep AL) l k (set++ [c]) true)=true
   rw[ih,ih]
def CornE(AL:List Plane)(n:Nat)(P:Nat→Plane):PUnit ⊕ PUnit→Prop
 |.inl _=>M.isCorner AL ((List.range n).map P)=false
 |.inr _=>M.isCorner AL ((List.range n).map P)=true
theorem cornE_wp(h:SmallP n AL)(hL:AL.length≤10000){P:Nat→Plane}(hP:∀j,j<n→P j∈AL):(cornE AL n P).wp (CornE AL n P):=by
 obtain⟨t,ht⟩:∃t,t=(List.range n).map P:=⟨_,rfl⟩
 have htl:t.length=n:=by rw[ht];simp
 have htm:∀p,p∈t→p∈AL:=by
  intro p hp
  rw[ht]at hp
  obtain⟨j,hj,rfl⟩:=List.mem_map.1 hp
  exact hP j (List.mem_range.1 hj)
 have hsq:=h.sq htm htl
 have hn4:=h.n4
 have hs:=solP_eq P n
 rw[←ht]at hs
 unfold cornE
 refine needs_mk (All.append.2 ⟨All.append.2 ⟨needApp_ok (by omega) n (Nat.le_refl _),Nat.le_refl _,Nat.le_refl _,(amJ_row P n).is,trivial⟩,needRows_ok fun j hj=>h.cl _ (hP j hj)⟩) ?_
 rw[hs]
 refine⟨fun hb=>?_,fun hb=>?_⟩
 ·have hb:(M.sols t).2.2=false:=by simpa using hb
  show M.isCorner AL ((List.range n).map P)=false
  rw[←ht]
  unfold M.isCorner
  rw[hb];rfl
 ·have hok:(M.sols t).2.2=true:=by simpa using hb
  have hd:Lp.DI en (t.map Plane.co) (List.range n)≠0:=by
   intro e
   have:=solve_no (r:=t.map Plane.am) hsq e
   unfold M.sols at hok
   rw[this]at hok;cases hok
  obtain⟨_,sol⟩:=solve_yes hsq (B:=1000000) (by decide) (by decide) (h.am htm) hd
  obtain⟨x,hx⟩:∃x,x=(M.sols t).1:=⟨_,rfl⟩
  obtain⟨d,hdd⟩:∃d,d=(M.sols t).2.1:=⟨_,rfl⟩
  have hsol:M.sols t=(x,d,true):=by rw[hx,hdd,←hok]
  have sol:Sol n 1000000 (t.map Plane.co) (t.map Plane.am) x d:=by rw[hx,hdd];exact sol
  have hxl:=sol.len
  have hcor:M.isCorner AL ((List.range n).map P)= !M.anyOver AL x d:=by
   rw[←ht]
   unfold M.isCorner
   rw[hsol];rfl
  rw[hsol]
  simp only[Enc.list_F]
  refine T.wp_mono (Q:=fun r=>match r with|.inl _=>M.anyOver AL x d=true|.inr _=>M.anyOver AL x d=false) ?_ ?_
  ·rintro (_|_) hr
   ·show M.isCorner AL ((List.range n).map P)=false
    rw[hcor,show M.anyOver AL x d=true from hr];rfl
   ·show M.isCorner AL ((List.range n).map P)=true
    rw[hcor,show M.anyOver AL x d=false from hr];rfl
  ·refine⟨fun y=>∃k:Nat,k≤AL.length∧y.1=(k:Int)∧∀j,j<k→¬M.dot (AL.getD j dfQ).co x>IntKind.i64.wrap ((AL.getD j dfQ).am*d),fun y=>AL.length+1-y.1.toNat,⟨0,Nat.zero_le _,rfl,fun j hj=>absurd hj (Nat.not_lt_zero j)⟩,?_⟩
   rintro ⟨y,u⟩ ⟨k,hk,hy,hno⟩
   dsimp only at hy
   subst hy
   have hw2:IntKind.i64.wrap ((k:Int)+1)=((k+1:Nat):Int):=wrap_succ (by omega)
   dsimp only
   rw[Int.toNat_natCast,hw2]
   refine⟨fun hb=>?_,fun hb=>?_⟩
   ·have hlt:=lt_of_dec hb
    have hco:=h.cl _ (getD_mem (d:=dfQ) hlt)
    refine needs_mk ⟨Int.natCast_nonneg _,by omega,Enc.is_F _ _ _,Enc.is_F _ _ _,by omega,by omega,trivial⟩ ⟨fun h1=>⟨fun _=>?_,fun h2=>?_⟩,fun h1=>?_⟩
    ·show M.anyOver AL x d=true
     unfold M.anyOver
     rw[List.any_eq_true]
     exact⟨_,getD_mem (d:=dfQ) hlt,h1⟩
    ·have:=of_decide_eq_false h2
     omega
    ·refine⟨⟨k+1,by omega,rfl,fun j hj=>?_⟩,?_⟩
     ·rcases Nat.lt_or_ge j k with hjk|hjk
      ·exact hno j hjk
      ·obtain rfl:j=k:=by omega
       exact of_decide_eq_false h1
     ·show AL.length+1-((k+1:Nat):Int).toNat<AL.length+1-(k:Int).toNat;omega
   ·have hge:=ge_of_dec hb
    show M.anyOver AL x d=false
    unfold M.anyOver
    rw[List.any_eq_false]
    intro p hp
    obtain⟨j,hj,rfl⟩:=memP_getD hp
    rw[decide_eq_true_iff]
    exact hno j (by omega)
def LevE(AL:List Plane)(r d i:Nat)(set:List Plane):O140→Prop
 |.inl o=>M.foldC (M.someStep AL) (AL.drop i) r set false=false∧RowIs ePn d o.2 set
 |.inr _=>M.foldC (M.someStep AL) (AL.drop i) r set false=true
theorem rndE_wp{r d:Nat}{nx:(Nat→Nat→D)→(Nat→Plane)→Int→Bool→T O140}(hL:AL.length≤10000)(hr:r≤100)(hd:d≤100)
  (hnx:∀(F:Nat→Nat→D) (P:Nat→Plane) (i:Nat) (z:Bool) (set:List Plane),set.length=d+1→RowIs ePn (d+1) F set→(∀p,p∈set→p∈AL)→i≤AL.length→(List.range (d+1)).map P=set→(nx F P (i:Int) z).wp (LevE AL r (d+1) i set))
  {R:Type} {fB:B140→R} {Q:R ⊕ O140→Prop} {k:Nat} {z:Bool} {set:List Plane} (hset:set.length=d) (hin:∀p,p∈set→p∈AL) (hk:k≤AL.length)
  (hexit:AL.length<k+(r+1)→Q (.inr (.inl (z,ePn.F set))))
  (hfound:k+(r+1)≤AL.length→M.foldC (M.someStep AL) (AL.drop (k+1)) r (set++ [AL.getD k dfQ]) false=true→Q (.inr (.inr ⟨⟩)))
  (hnext:k+(r+1)≤AL.length→M.foldC (M.someStep AL) (AL.drop (k+1)) r (set++ [AL.getD k dfQ]) false=false→∀z',Q (.inl (fB (((k+1:Nat):Int),set,z',⟨⟩)))):(rndE AL nx r d (k:Int) set z fB).wp Q:=by
 have hw:IntKind.i64.wrap ((AL.length:Int)-((r+1:Nat):Int))=(AL.length:Int)-((r+1:Nat):Int):=wrap_id (by omega) (by omega)
 have hw2:IntKind.i64.wrap ((k:Int)+1)=((k+1:Nat):Int):=wrap_succ (by omega)
 unfold rndE
 rw[hw,hw2]
 refine⟨fun hb=>?_,fun hb=>?_⟩
 ·have hle:=of_decide_eq_true hb
  refine needs_mk ⟨Int.natCast_nonneg _,by omega,by omega,Nat.le_refl _,trivial⟩ ?_
  rw[show(k:Int).toNat=k from Int.toNat_natCast k]
  have hmem:AL.getD k dfQ∈AL:=getD_mem (by omega)
  subst hset
  have hrow:RowIs ePn (set.length+1) (joinF set.length (ePn.F set) (cellP (AL.getD k dfQ))) (set++ [AL.getD k dfQ]):=(rowIs_F set).push (cell_push _).1 (cell_push _).2
  refine T.bind_wp (T.wp_mono (fun o ho=>?_) (hnx _ _ (k+1) z (set++ [AL.getD k dfQ]) (by simp) hrow (fun p hp=>by
   rcases List.mem_append.1 hp with hp|hp
   ·exact hin p hp
   ·rw[List.mem_singleton]at hp;rw[hp];exact hmem) (by omega) (chP_map rfl)))
  cases o with
  |inl o=>
   obtain⟨h1,h2⟩:=ho
   have ht:=h2.take
   obtain⟨z',J⟩:=o
   refine needs_mk ⟨Int.natCast_nonneg _,by omega,ht.is,by omega,trivial⟩ ?_
   show Q _
   rw[hw2,ht.eq]
   exact hnext (by omega) h1 z'
  |inr u=>exact hfound (by omega) ho
 ·have hle:=of_decide_eq_false hb
  exact hexit (by omega)
variable {corn : (Nat → Plane) → T (PUnit ⊕ PUnit)}
theorem levE_wp(hC:∀P,(∀j,j<n→P j∈AL)→(corn P).wp (CornE AL n P))(hL:AL.length≤10000)(hn:n≤100):∀(r d:Nat) (F:Nat→Nat→D) (P:Nat→Plane) (i:Nat) (z:Bool) (set:List Plane),d+r=n→set.length=d→RowIs ePn d F set→(∀p,p∈set→p∈AL)→i≤AL.length→(List.range d).map P=set →
  (levE AL corn r d F P (i:Int) z).wp (LevE AL r d i set):=by
 intro r
 induction r with
 |zero=>
  intro d F P i z set hdn hset hrow hin hi hP
  obtain rfl:d=n:=by omega
  refine T.bind_wp (T.wp_mono (fun o ho=>?_) (hC P (fun j hj=>hin _ (by rw[←hP];exact List.mem_map_of_mem (List.mem_range.2 hj)))))
  cases o with
  |inl u=>
   have ho:M.isCorner AL ((List.range d).map P)=false:=ho
   rw[hP]at ho
   exact⟨by rw[foldC_zero];unfold M.someStep;rw[ho];rfl,hrow⟩
  |inr u=>
   have ho:M.isCorner AL ((List.range d).map P)=true:=ho
   rw[hP]at ho
   show M.foldC (M.someStep AL) (AL.drop i) 0 set false=true
   rw[foldC_zero];unfold M.someStep;rw[ho];rfl
 |succ r ih=>
  intro d F P i z set hdn hset hrow hin hi hP
  have hnx:=fun(F:Nat→Nat→D) (P:Nat→Plane) (i:Nat) (z:Bool) (set:List Plane) h1 h2 h3 h4 h5=>ih (d+1) F P i z set (by omega) h1 h2 h3 h4 h5
  obtain⟨fin,hfin⟩:∃fin,fin=M.foldC (M.someStep AL) (AL.drop i) (r+1) set false:=⟨_,rfl⟩
  refine needs_mk ⟨hrow.is,Nat.le_refl _,trivial⟩ ?_
  refine⟨fun x=>∃k:Nat,k≤AL.length∧x.1=(k:Int)∧x.2.1=set∧M.foldC (M.someStep AL) (AL.drop k) (r+1) set false=fin,
   fun x=>AL.length+1-x.1.toNat,⟨i,hi,rfl,hrow.eq,hfin.symm⟩,?_⟩
  rintro ⟨x1,x2,x3,x4⟩ ⟨k,hk,e1,e2,hf⟩
  dsimp only at e1 e2
  subst e1 e2
  refine rndE_wp hL (by omega) (by omega) hnx hset hin hk (fun hlt=>?_) (fun hle hfo=>?_) (fun hle hfo z'=>?_)
  ·refine⟨?_,hset ▸ rowIs_F x2⟩
   rw[←hfin,←hf,foldC_end hlt]
  ·show M.foldC (M.someStep AL) (AL.drop i) (r+1) x2 false=true
   rw[←hfin,←hf,foldC_step (by omega),hfo,foldC_true]
  ·rw[foldC_step (by omega),hfo]at hf
   refine⟨⟨k+1,by omega,rfl,rfl,hf⟩,?_⟩
   show AL.length+1-((k+1:Nat):Int).toNat<AL.length+1-(k:Int).toNat;omega
theorem topE_wp(hC:∀P,(∀j,j<n→P j∈AL)→(corn P).wp (CornE AL n P))(hL:AL.length≤10000)(hn:n≤100)(hn0:1≤n):(topE AL corn n).wp fun o=>match o with|.inl _=>M.possible AL n=false|.inr _=>M.possible AL n=true:=by
 obtain⟨r,rfl⟩:∃r,n=r+1:=⟨n-1,by omega⟩
 have hnx:=fun(F:Nat→Nat→D) (P:Nat→Plane) (i:Nat) (z:Bool) (set:List Plane) h1 h2 h3 h4 h5=>levE_wp (n:=r+1) hC hL hn r 1 F P i z set (by omega) h1 h2 h3 h4 h5
 have hw:IntKind.i64.wrap ((AL.length:Int)-((r+1:Nat):Int))=(AL.length:Int)-((r+1:Nat):Int):=wrap_id (by omega) (by omega)
 have nil:∀p,p∈([]:List Plane)→p∈AL:=fun p hp=>by cases hp
 unfold topE M.possible
 rw[show r+1-1=r from rfl]
 refine⟨fun y=>match y with
  |.inl _=>True
  |.inr x=>∃k:Nat,k≤AL.length∧x.1=(k:Int)∧x.2.1=[]∧M.foldC (M.someStep AL) (AL.drop k) (r+1) [] false=M.foldC (M.someStep AL) AL (r+1) [] false,
  fun y=>match y with|.inl _=>AL.length+2|.inr x=>AL.length+1-x.1.toNat,trivial,?_,?_⟩
 ·intro _ _
  rw[hw]
  refine⟨fun hb=>?_,fun hb=>?_⟩
  ·have hle:=of_decide_eq_true hb
   refine needs_mk ⟨Int.le_refl _,by omega,by decide,trivial⟩ ?_
   have hmem:AL.getD 0 dfQ∈AL:=getD_mem (by omega)
   have hrow:RowIs ePn 1 (joinF 0 (fun _ _=>D.nilp) (cellP (AL.getD 0 dfQ))) [AL.getD 0 dfQ]:=by
    have e0:RowIs ePn 0 (fun _ _=>D.nilp) []:=⟨fun i j hi=>absurd hi (Nat.not_lt_zero i),rfl⟩
    exact e0.push (cell_push _).1 (cell_push _).2
   have hstep:=foldC_step (f:=M.someStep AL) (AL:=AL) (r:=r) (k:=0) (set:=[]) (b:=false) (by omega)
   rw[List.drop_zero]at hstep
   refine T.bind_wp (T.wp_mono (fun o ho=>?_) (hnx _ _ 1 false [AL.getD 0 dfQ] rfl hrow (fun p hp=>by rw[List.mem_singleton]at hp;rw[hp];exact hmem) (by omega) (chP_map (set:=[]) rfl)))
   cases o with
   |inl o=>
    obtain⟨h1,h2⟩:=ho
    have h2:RowIs ePn (0+1) o.2 ([]++ [AL.getD 0 dfQ]):=h2
    have ht:=h2.take
    obtain⟨z',J⟩:=o
    refine needs_mk ⟨Int.le_refl _,by omega,ht.is,by omega,trivial⟩ ?_
    refine⟨⟨1,by omega,rfl,ht.eq,?_⟩,?_⟩
    ·rw[hstep,List.nil_append,h1]
    ·show AL.length+1-((1:Nat):Int).toNat<AL.length+2;omega
   |inr u=>
    have ho:M.foldC (M.someStep AL) (AL.drop 1) r [AL.getD 0 dfQ] false=true:=ho
    show M.foldC (M.someStep AL) AL (r+1) [] false=true
    rw[hstep,List.nil_append,ho,foldC_true]
  ·have hle:=of_decide_eq_false hb
   show M.foldC (M.someStep AL) AL (r+1) [] false=false
   rw[foldC_few (by omega)]
 ·rintro ⟨x1,x2,x3,x4⟩ ⟨k,hk,e1,e2,hf⟩
  dsimp only at e1 e2
  subst e1 e2
  refine rndE_wp hL (by omega) (by omega) hnx rfl nil hk (fun hlt=>?_) (fun hle hfo=>?_) (fun hle hfo z'=>?_)
  ·show M.foldC (M.someStep AL) AL (r+1) [] false=false
   rw[←hf,foldC_end hlt]
  ·show M.foldC (M.someStep AL) AL (r+1) [] false=true
   rw[←hf,foldC_step (by omega),hfo,foldC_true]
  ·rw[foldC_step (by omega),hfo]at hf
   refine⟨⟨k+1,by omega,rfl,rfl,hf⟩,?_⟩
   show AL.length+1-((k+1:Nat):Int).toNat<AL.length+1-(k:Int).toNat;omega
end
theorem w140{n:Nat}{mo ga:List Int}{de:List Dem}(h:OkP n mo ga de):(tr140 n mo ga de).wp fun rs=>rsEqv rs [rB (M.possible (M.planes mo de []) n)]:=by
 have hm:=h.lm
 have hn3:=h.n3
 unfold tr140
 have e1:Enc.list eI n (eI.F mo)=mo:=by rw[←hm];exact Enc.list_F eI mo
 have e2:Enc.list eI 0 (fun _ _=>D.nilp)=[]:=rfl
 rw[e1,e2]
 simp only[Enc.list_F]
 refine needs_mk ?_ (T.bind_wp (T.wp_mono (fun o ho=>?_) (topE_wp (fun P hP=>cornE_wp h.small h.len hP) h.len (by omega) h.n1)))
 ·unfold needPl
  rw[e1,e2]
  simp only[Enc.list_F]
  exact⟨Enc.is_F _ _ _,Enc.is_F _ _ _,Enc.is_F _ _ _,fun i j hi=>absurd hi (Nat.not_lt_zero i),by have:=h.ld;omega,by omega,by decide,by have:=h.n1;simp;omega,h.d1,trivial⟩
 ·cases o with
  |inl _=>
   have ho:M.possible (M.planes mo de []) n=false:=ho
   rw[ho];exact rsEqv_refl _
  |inr _=>
   have ho:M.possible (M.planes mo de []) n=true:=ho
   rw[ho];exact rsEqv_refl _
def dom140:DomF
 |[.agg [.sl _ n1 st1 F1,.sl _ n2 st2 F2,.sl _ n3 st3 F3]]=>(match Nat.beq st1 1&&Nat.beq st2 1&&(Nat.beq st3 3||Nat.beq n3 0)with
  |true=>some ([eI.Is n1 F1,eI.Is n2 F2,eDm.Is n3 F3,OkP n1 (eI.list n1 F1) (eI.list n2 F2) (eDm.list n3 F3)],[rB (M.possible (M.planes (eI.list n1 F1) (eDm.list n3 F3) []) n1)])
  |_=>none)
 |_=>none
def v140:Nat×Sm:=(140,fokSm dom140)
theorem C140:FOK Try.prog G0 gw 140 dom140:=by
 intro ags p r hd hp κ w xs hw hl hG hx
 unfold dom140 at hd
 split at hd
 ·rename_i q1 n1 st1 F1 q2 n2 st2 F2 q3 n3 st3 F3
  split at hd
  ·rename_i hst
   simp only[Bool.and_eq_true]at hst
   obtain⟨⟨g1,g2⟩,g3⟩:=hst
   have g1:=Nat.eq_of_beq_eq_true g1
   have g2:=Nat.eq_of_beq_eq_true g2
   subst g1 g2
   simp only[Option.some.injEq,Prod.mk.injEq]at hd
   obtain⟨rfl,rfl⟩:=hd
   obtain⟨i1,i2,i3,hok,_⟩:=hp
   have heq:agsEqv [.agg [.sl q1 n1 1 F1,.sl q2 n2 1 F2,.sl q3 n3 st3 F3]] [.agg [.sl q1 (eI.list n1 F1).length 1 (eI.F (eI.list n1 F1)),.sl q2 (eI.list n2 F2).length 1 (eI.F (eI.list n2 F2)),.sl q3 (eDm.list n3 F3).length 3 (eDm.F (eDm.list n3 F3))]]:=⟨⟨eI.to id i1,eI.to id i2,eDm.toz g3 i3,trivial⟩,trivial⟩
   have hn1:=hok.n1
   have hn3:=hok.n3
   have hw140:=w140 hok
   have l1:(eI.list n1 F1).length=n1:=Enc.list_len eI
   rw[l1]at heq
   generalize eI.list n1 F1=mo at *
   generalize eI.list n2 F2=ga at *
   generalize eDm.list n3 F3=de at *
   obtain rfl|rfl|rfl:n1=1∨n1=2∨n1=3:=by omega
   ·exact fokX_fin mixed gw_stable (sl:=[v153,v139,v154 1]) ⟨S153,S139,S154_1,trivial⟩ Try.func140 hw hl hG hx heq rfl (t140_1 q1 q2 q3 mo ga de) hw140
   ·exact fokX_fin mixed gw_stable (sl:=[v153,v139,v154 2]) ⟨S153,S139,S154_2,trivial⟩ Try.func140 hw hl hG hx heq rfl (t140_2 q1 q2 q3 mo ga de) hw140
   ·exact fokX_fin mixed gw_stable (sl:=[v153,v139,v154 3]) ⟨S153,S139,S154_3,trivial⟩ Try.func140 hw hl hG hx heq rfl (t140_3 q1 q2 q3 mo ga de) hw140
  ·cases hd
 ·cases hd
theorem S140:SumOK Try.prog G0 gw 140 (fokSm dom140):=fok_sum Try.func140 rfl C140
end Go.Pl
end
section
set_option maxRecDepth 100000
namespace Go.Pl
open Go.V Go.Proofs
abbrev xcI(l:List Int):List Int:=Enc.list eI (List.length l) (Enc.F eI (cI l))
abbrev xcD(l:List Dem):List Dem:=Enc.list eDm (List.length l) (Enc.F eDm (cD l))
namespace M
structure PB where
 fn:Int
 fd:Int
 dn:Int
 pt:List Int
 wn:Int
 wl:List Int
 wt:List Int
def bstB(mo ga:List Int)(de:List Dem):Bs:=best ga (planes mo de []) mo.length
end M
theorem okP{mo ga:List Int}{de:List Dem}(h:RightP mo ga de)(h3:mo.length≤3):OkP mo.length mo ga de:=
 ⟨h.n0,h3,rfl,h.lg,by have:=h.ld;omega,h.rm,fun x hx=>by have:=h.rg x hx;omega,fun d hd=>(h.rd d hd).1,fun d hd=>(h.rd d hd).2.1,fun d hd=>(h.rd d hd).2.2⟩
namespace M
def smallP(mo ga:List Int)(de:List Dem):Bool:=cond (few mo ga de) (cond (decide ((mo.length:Int)≤3)) (decide ((de.length:Int)≤5)) false) false
end M
def tr16(q_mo:Bool)(mo:List Int)(q_ga:Bool)(ga:List Int)(q_de:Bool)(de:List Dem):T (List Ar):=
  T.needs [Enc.Is eI mo.length (Enc.F eI mo),Enc.Is eI ga.length (Enc.F eI ga),Enc.Is eDm de.length (Enc.F eDm de)] (T.br (M.few (Enc.list eI mo.length (Enc.F eI mo)) (Enc.list eI ga.length (Enc.F eI ga)) (Enc.list eDm de.length (Enc.F eDm de))) (T.br (decide ((mo.length:Int)≤3)) (T.ret [Ar.c (D.bool (decide ((de.length:Int)≤5)))]) (T.ret [Ar.c (D.bool false)])) (T.ret [Ar.c (D.bool false)]))
theorem t16(q_mo:Bool)(mo:List Int)(q_ga:Bool)(ga:List Int)(q_de:Bool)(de:List Dem):runFnX Try.prog G0 (lookS [v41]) (fun _=>[]) [] 1 60 3 16 Try.f16 [.agg [.sl q_mo mo.length 1 (eI.F mo),.sl q_ga ga.length 1 (eI.F ga),.sl q_de de.length 3 (eDm.F de)]] =
  tr16 q_mo mo q_ga ga q_de de:=by kernel_rfl
theorem w16(q_mo:Bool)(mo:List Int)(q_ga:Bool)(ga:List Int)(q_de:Bool)(de:List Dem):(tr16 q_mo mo q_ga ga q_de de).wp (fun rs=>rsEqv rs [rB (M.smallP mo ga de)]):=by
 unfold tr16
 simp only[Enc.list_F]
 refine⟨Enc.is_F _ _ _,Enc.is_F _ _ _,Enc.is_F _ _ _,fun h1=>⟨fun h2=>?_,fun h2=>?_⟩,fun h1=>?_⟩
 ·unfold M.smallP;rw[h1,h2];exact rsEqv_refl _
 ·unfold M.smallP;rw[h1,h2];exact rsEqv_refl _
 ·unfold M.smallP;rw[h1];exact rsEqv_refl _
def dom16:DomF
 |[.agg [.sl _ n_mo st_mo F_mo,.sl _ n_ga st_ga F_ga,.sl _ n_de st_de F_de]]=>(match Nat.beq st_mo 1&&Nat.beq st_ga 1&&Nat.beq st_de 3 with
  |true=>some ([eI.Is n_mo F_mo,eI.Is n_ga F_ga,eDm.Is n_de F_de],[rB (M.smallP (eI.list n_mo F_mo) (eI.list n_ga F_ga) (eDm.list n_de F_de))])
  |_=>none)
 |_=>none
def v16:Nat×Sm:=(16,fokSm dom16)
theorem C16:FOK Try.prog G0 gw 16 dom16:=by
 intro ags p r hd hp κ w xs hw hl hG hx
 unfold dom16 at hd
 split at hd
 ·rename_i q_mo n_mo st_mo F_mo q_ga n_ga st_ga F_ga q_de n_de st_de F_de
  split at hd
  ·rename_i hst
   simp only[Bool.and_eq_true]at hst
   obtain⟨⟨g1,g2⟩,g3⟩:=hst
   have g1:=Nat.eq_of_beq_eq_true g1
   have g2:=Nat.eq_of_beq_eq_true g2
   have g3:=Nat.eq_of_beq_eq_true g3
   subst g1 g2 g3
   simp only[Option.some.injEq,Prod.mk.injEq]at hd
   obtain⟨rfl,rfl⟩:=hd
   obtain⟨hI_mo,hI_ga,hI_de,hp⟩:=hp
   have heq:agsEqv [.agg [.sl q_mo n_mo 1 F_mo,.sl q_ga n_ga 1 F_ga,.sl q_de n_de 3 F_de]] [.agg [.sl q_mo (eI.list n_mo F_mo).length 1 (eI.F (eI.list n_mo F_mo)),.sl q_ga (eI.list n_ga F_ga).length 1 (eI.F (eI.list n_ga F_ga)),.sl q_de (eDm.list n_de F_de).length 3 (eDm.F (eDm.list n_de F_de))]]:=⟨⟨eI.to id hI_mo,eI.to id hI_ga,eDm.to id hI_de,trivial⟩,trivial⟩
   have len_mo:(eI.list n_mo F_mo).length=n_mo:=eI.list_len
   have len_ga:(eI.list n_ga F_ga).length=n_ga:=eI.list_len
   have len_de:(eDm.list n_de F_de).length=n_de:=eDm.list_len
   generalize eI.list n_mo F_mo=mo at *
   generalize eI.list n_ga F_ga=ga at *
   generalize eDm.list n_de F_de=de at *
   subst len_mo len_ga len_de
   exact fokX_fin mixed gw_stable (sl:=[v41]) ⟨S41,trivial⟩ Try.func16 hw hl hG hx heq rfl (t16 _ _ _ _ _ _) (w16 _ _ _ _ _ _)
  ·cases hd
 ·cases hd
theorem S16:SumOK Try.prog G0 gw 16 (fokSm dom16):=fok_sum Try.func16 rfl C16
end Go.Pl
end
section
set_option maxRecDepth 100000
namespace Go.Pl
open Go.V Go.Proofs
namespace M
def rdet:Nat→List (List Int)→Int
 |0,_=>0
 |1,m=>(m.getD 0 []).getD 0 0
 |n+2,m=>detRow (fun k=>rdet (n+1) (minorM m k)) (m.getD 0 []) 0 0 1
end M
def dom184(N:Nat):DomF
 |[.c (.sl _ n st F)]=>(match Nat.beq n N&&Nat.beq st 1,rowsS N n F with
  |true,some (m,p)=>some (p,[rI (M.rdet N m)])
  |_,_=>none)
 |_=>none
def v184(N:Nat):Nat×Sm:=(184,fokSm (dom184 N))
end Go.Pl
end
section
set_option maxRecDepth 100000
namespace Go.Pl
open Go.V Go.Proofs
def tr184_1(q:Bool)(a00:Int):T (List Ar):=
  T.needs [(0:Int)≤0,(0:Int)<1,(0:Int)≤0,(0:Int)<1] (T.ret [Ar.c (D.int IntKind.i64 a00)])
theorem t184_1(q:Bool)(a00:Int):runFnX Try.prog G0 (lookS []) (fun _=>[(3000008,[],none),(3000009,[],none),(1000010,[],none),(3000005,[],none),(3000016,[],none),(3000018,[],none),(1000019,[],none),(3000007,[],none),(3000022,[],none),(3000024,[],none),(1000025,[],none),(5000053,[.slot 3 (.int .i64)],none)]) [] 1 60 4 184 Try.f184 [.c (.sl q 1 1 (eR.F [[a00]]))] =
  tr184_1 q a00:=by kernel_rfl
theorem w184_1(q:Bool)(a00:Int):(tr184_1 q a00).wp (fun rs=>rsEqv rs [rI (M.rdet 1 [[a00]])]):=by
 unfold tr184_1
 repeat (refine⟨(by first|exact of_decide_eq_true rfl|exact fun i j _ _=>D.eqv_refl _|exact is_lit1 (D.eqv_refl _)|exact is_lit2 (D.eqv_refl _) (D.eqv_refl _)),?_⟩)
 refine rI_eqv ?_
 kernel_rfl
theorem C184_1:FOK Try.prog G0 gw 184 (dom184 1):=by
 intro ags p r hd hp κ w xs hw hl hG hx
 unfold dom184 at hd
 split at hd
 ·rename_i q n st F
  split at hd
  ·rename_i m pp hst hm
   simp only[Bool.and_eq_true]at hst
   obtain⟨h1,h2⟩:=hst
   have h1:=Nat.eq_of_beq_eq_true h1
   subst h1
   have h2:=Nat.eq_of_beq_eq_true h2
   subst h2
   simp only[Option.some.injEq,Prod.mk.injEq]at hd
   obtain⟨rfl,rfl⟩:=hd
   have hs:=(rowsS_spec hm hp).2.1
   have heq:agsEqv [.c (.sl q 1 1 F)] [.c (.sl q m.length 1 (eR.F m))]:=⟨rowsS_eqv id hm hp,trivial⟩
   obtain⟨w0,rfl⟩:=len1 (rowsS_spec hm hp).1
   obtain⟨a00,rfl⟩:=len1 (hs _ (by simp):w0.length=1)
   exact fokX_fin mixed gw_stable (sl:=[]) trivial Try.func184 hw hl hG hx heq rfl (t184_1 q a00) (w184_1 q a00)
  ·cases hd
 ·cases hd
theorem S184_1:SumOK Try.prog G0 gw 184 (fokSm (dom184 1)):=fok_sum Try.func184 rfl C184_1
def tr184_2(q:Bool)(a00 a01 a10 a11:Int):T (List Ar):=
  T.needs [(0:Int)≤1,(1:Int)<2,(0:Int)≤0,(0:Int)≤0,(0:Int)≤2,(0:Nat)≤1000000,(0:Int)≤1,(1:Int)<2,(0:Int)≤1,(1:Int)≤2,(2:Int)≤2,(1:Nat)≤1000000,(0:Nat)≤0,(1:Nat)≤1,(1:Nat)≤1000000,(0:Int)≤0,(0:Int)<2,(0:Int)≤0,(0:Int)<2,(0:Int)≤0,(0:Int)<2,(0:Int)≤0,(0:Int)<2,(1:Nat)≤1,(Enc.Is eI ((1:Nat)) (joinF (0:Nat) (joinF (0:Nat) (fun(i j:Nat)=>List.getD [] (i*1+j) D.nilp) fun(i j:Nat)=>Enc.F eI [a10,a11] ((0:Nat)+i) j) fun(i j:Nat)=>Enc.F eI [a10,a11] ((1:Nat)+i) j)),(1:Nat)=1,(0:Int)≤1,(1:Int)<2,(0:Int)≤0,(0:Int)≤1,(1:Int)≤2,(1:Nat)≤1000000,(0:Int)≤1,(1:Int)<2,(0:Int)≤2,(2:Int)≤2,(2:Int)≤2,(1:Nat)≤1000000,(1:Nat)≤1,(1:Nat)≤1,(1:Nat)≤1000000,(0:Int)≤0,(0:Int)<2,(0:Int)≤1,(1:Int)<2,(0:Int)≤0,(0:Int)<2,(0:Int)≤1,(1:Int)<2,(1:Nat)≤1,(Enc.Is eI ((1:Nat)) (joinF (1:Nat) (joinF (0:Nat) (fun(i j:Nat)=>List.getD [] (i*1+j) D.nilp) fun(i j:Nat)=>Enc.F eI [a10,a11] ((0:Nat)+i) j) fun(i j:Nat)=>Enc.F eI [a10,a11] ((2:Nat)+i) j)),(1:Nat)=1] (T.ret [Ar.c (D.int IntKind.i64 (bif a01 != (0:Int)then IntKind.i64.wrap ((bif a00 != (0:Int)then IntKind.i64.wrap ((0:Int)+IntKind.i64.wrap (IntKind.i64.wrap ((1:Int)*a00)*M.rdet (1:Nat) [Enc.list eI ((1:Nat)) (joinF (0:Nat) (joinF (0:Nat) (fun(i j:Nat)=>List.getD [] (i*1+j) D.nilp) fun(i j:Nat)=>Enc.F eI [a10,a11] ((0:Nat)+i) j) fun(i j:Nat)=>Enc.F eI [a10,a11] ((1:Nat)+i) j)]))else(0:Int))+IntKind.i64.wrap (IntKind.i64.wrap ((-1:Int)*a01)*M.rdet (1:Nat) [Enc.list eI ((1:Nat)) (joinF (1:Nat) (joinF (0:Nat) (fun(i j:Nat)=>List.getD [] (i*1+j) D.nilp) fun(i j:Nat)=>Enc.F eI [a10,a11] ((0:Nat)+i) j) fun(i j:Nat)=>Enc.F eI [a10,a11] ((2:Nat)+i) j)]))else bif a00 != (0:Int)then IntKind.i64.wrap ((0:Int)+IntKind.i64.wrap (IntKind.i64.wrap ((1:Int)*a00)*M.rdet (1:Nat) [Enc.list eI ((1:Nat)) (joinF (0:Nat) (joinF (0:Nat) (fun(i j:Nat)=>List.getD [] (i*1+j) D.nilp) fun(i j:Nat)=>Enc.F eI [a10,a11] ((0:Nat)+i) j) fun(i j:Nat)=>Enc.F eI [a10,a11] ((1:Nat)+i) j)]))else(0:Int)))])
theorem t184_2(q:Bool)(a00 a01 a10 a11:Int):runFnX Try.prog G0 (lookS [v184 1]) (fun _=>[(3000008,[],none),(3000009,[],none),(1000010,[],none),(3000005,[],none),(3000016,[],none),(3000018,[],none),(1000019,[],none),(3000007,[],none),(3000022,[],none),(3000024,[],none),(1000025,[],none),(5000053,[.slot 3 (.int .i64)],none)]) [] 1 60 4 184 Try.f184 [.c (.sl q 2 1 (eR.F [[a00,a01],[a10,a11]]))] =
  tr184_2 q a00 a01 a10 a11:=by kernel_rfl
theorem w184_2(q:Bool)(a00 a01 a10 a11:Int):(tr184_2 q a00 a01 a10 a11).wp (fun rs=>rsEqv rs [rI (M.rdet 2 [[a00,a01],[a10,a11]])]):=by
 unfold tr184_2
 repeat (refine⟨(by first|exact of_decide_eq_true rfl|exact fun i j _ _=>D.eqv_refl _|exact is_lit1 (D.eqv_refl _)|exact is_lit2 (D.eqv_refl _) (D.eqv_refl _)),?_⟩)
 refine rI_eqv ?_
 kernel_rfl
theorem C184_2:FOK Try.prog G0 gw 184 (dom184 2):=by
 intro ags p r hd hp κ w xs hw hl hG hx
 unfold dom184 at hd
 split at hd
 ·rename_i q n st F
  split at hd
  ·rename_i m pp hst hm
   simp only[Bool.and_eq_true]at hst
   obtain⟨h1,h2⟩:=hst
   have h1:=Nat.eq_of_beq_eq_true h1
   subst h1
   have h2:=Nat.eq_of_beq_eq_true h2
   subst h2
   simp only[Option.some.injEq,Prod.mk.injEq]at hd
   obtain⟨rfl,rfl⟩:=hd
   have hs:=(rowsS_spec hm hp).2.1
   have heq:agsEqv [.c (.sl q 2 1 F)] [.c (.sl q m.length 1 (eR.F m))]:=⟨rowsS_eqv id hm hp,trivial⟩
   obtain⟨w0,w1,rfl⟩:=len2 (rowsS_spec hm hp).1
   obtain⟨a00,a01,rfl⟩:=len2 (hs _ (by simp):w0.length=2)
   obtain⟨a10,a11,rfl⟩:=len2 (hs _ (by simp):w1.length=2)
   exact fokX_fin mixed gw_stable (sl:=[v184 1]) ⟨S184_1,trivial⟩ Try.func184 hw hl hG hx heq rfl (t184_2 q a00 a01 a10 a11) (w184_2 q a00 a01 a10 a11)
  ·cases hd
 ·cases hd
theorem S184_2:SumOK Try.prog G0 gw 184 (fokSm (dom184 2)):=fok_sum Try.func184 rfl C184_2
def tr184_3(q:Bool)(a00 a01 a02 a10 a11 a12 a20 a21 a22:Int):T (List Ar):=
  T.needs [(0:Int)≤1,(1:Int)<3,(0:Int)≤0,(0:Int)≤0,(0:Int)≤3,(0:Nat)≤1000000,(0:Int)≤1,(1:Int)<3,(0:Int)≤1,(1:Int)≤3,(3:Int)≤3,(2:Nat)≤1000000,(0:Nat)≤0,(2:Nat)≤2,(1:Nat)≤1000000,(0:Int)≤2,(2:Int)<3,(0:Int)≤0,(0:Int)≤0,(0:Int)≤3,(0:Nat)≤1000000,(0:Int)≤2,(2:Int)<3,(0:Int)≤1,(1:Int)≤3,(3:Int)≤3,(2:Nat)≤1000000,(0:Nat)≤0,(2:Nat)≤2,(2:Nat)≤1000000,(1:Nat)≤1,(0:Int)≤0,(0:Int)<3,(0:Int)≤0,(0:Int)<3,(0:Int)≤0,(0:Int)<3,(0:Int)≤0,(0:Int)<3,(2:Nat)≤2,(Enc.Is eI ((2:Nat)) (joinF (0:Nat) (joinF (0:Nat) (fun(i j:Nat)=>List.getD [] (i*1+j) D.nilp) fun(i j:Nat)=>Enc.F eI [a10,a11,a12] ((0:Nat)+i) j) fun(i j:Nat)=>Enc.F eI [a10,a11,a12] ((1:Nat)+i) j)),(2:Nat)=2,(Enc.Is eI ((2:Nat)) (joinF (0:Nat) (joinF (0:Nat) (fun(i j:Nat)=>List.getD [] (i*1+j) D.nilp) fun(i j:Nat)=>Enc.F eI [a20,a21,a22] ((0:Nat)+i) j) fun(i j:Nat)=>Enc.F eI [a20,a21,a22] ((1:Nat)+i) j)),(2:Nat)=2,(0:Int)≤1,(1:Int)<3,(0:Int)≤0,(0:Int)≤1,(1:Int)≤3,(1:Nat)≤1000000,(0:Int)≤1,(1:Int)<3,(0:Int)≤2,(2:Int)≤3,(3:Int)≤3,(2:Nat)≤1000000,(1:Nat)≤1,(2:Nat)≤2,(1:Nat)≤1000000,(0:Int)≤2,(2:Int)<3,(0:Int)≤0,(0:Int)≤1,(1:Int)≤3,(1:Nat)≤1000000,(0:Int)≤2,(2:Int)<3,(0:Int)≤2,(2:Int)≤3,(3:Int)≤3,(2:Nat)≤1000000,(1:Nat)≤1,(2:Nat)≤2,(2:Nat)≤1000000,(1:Nat)≤1,(0:Int)≤0,(0:Int)<3,(0:Int)≤1,(1:Int)<3,(0:Int)≤0,(0:Int)<3,(0:Int)≤1,(1:Int)<3,(2:Nat)≤2,(Enc.Is eI ((2:Nat)) (joinF (1:Nat) (joinF (0:Nat) (fun(i j:Nat)=>List.getD [] (i*1+j) D.nilp) fun(i j:Nat)=>Enc.F eI [a10,a11,a12] ((0:Nat)+i) j) fun(i j:Nat)=>Enc.F eI [a10,a11,a12] ((2:Nat)+i) j)),(2:Nat)=2,(Enc.Is eI ((2:Nat)) (joinF (1:Nat) (joinF (0:Nat) (fun(i j:Nat)=>List.getD [] (i*1+j) D.nilp) fun(i j:Nat)=>Enc.F eI [a20,a21,a22] ((0:Nat)+i) j) fun(i j:Nat)=>Enc.F eI [a20,a21,a22] ((2:Nat)+i) j)),(2:Nat)=2,(0:Int)≤1,(1:Int)<3,(0:Int)≤0,(0:Int)≤2,(2:Int)≤3,(2:Nat)≤1000000,(0:Int)≤1,(1:Int)<3,(0:Int)≤3,(3:Int)≤3,(3:Int)≤3,(2:Nat)≤1000000,(2:Nat)≤2,(2:Nat)≤2,(1:Nat)≤1000000,(0:Int)≤2,(2:Int)<3,(0:Int)≤0,(0:Int)≤2,(2:Int)≤3,(2:Nat)≤1000000,(0:Int)≤2,(2:Int)<3,(0:Int)≤3,(3:Int)≤3,(3:Int)≤3,(2:Nat)≤1000000,(2:Nat)≤2,(2:Nat)≤2,(2:Nat)≤1000000,(1:Nat)≤1,(0:Int)≤0,(0:Int)<3,(0:Int)≤2,(2:Int)<3,(0:Int)≤0,(0:Int)<3,(0:Int)≤2,(2:Int)<3,(2:Nat)≤2,(Enc.Is eI ((2:Nat)) (joinF (2:Nat) (joinF (0:Nat) (fun(i j:Nat)=>List.getD [] (i*1+j) D.nilp) fun(i j:Nat)=>Enc.F eI [a10,a11,a12] ((0:Nat)+i) j) fun(i j:Nat)=>Enc.F eI [a10,a11,a12] ((3:Nat)+i) j)),(2:Nat)=2,(Enc.Is eI ((2:Nat)) (joinF (2:Nat) (joinF (0:Nat) (fun(i j:Nat)=>List.getD [] (i*1+j) D.nilp) fun(i j:Nat)=>Enc.F eI [a20,a21,a22] ((0:Nat)+i) j) fun(i j:Nat)=>Enc.F eI [a20,a21,a22] ((3:Nat)+i) j)),(2:Nat)=2] (T.ret [Ar.c (D.int IntKind.i64 (bif a02 != (0:Int)then IntKind.i64.wrap ((bif a01 != (0:Int)then IntKind.i64.wrap ((bif a00 != (0:Int)then IntKind.i64.wrap ((0:Int)+IntKind.i64.wrap (IntKind.i64.wrap ((1:Int)*a00)*M.rdet (2:Nat) [Enc.list eI ((2:Nat)) (joinF (0:Nat) (joinF (0:Nat) (fun(i j:Nat)=>List.getD [] (i*1+j) D.nilp) fun(i j:Nat)=>Enc.F eI [a10,a11,a12] ((0:Nat)+i) j) fun(i j:Nat)=>Enc.F eI [a10,a11,a12] ((1:Nat)+i) j),Enc.list eI ((2:Nat)) (joinF (0:Nat) (joinF (0:Nat) (fun(i j:Nat)=>List.getD [] (i*1+j) D.nilp) fun(i j:Nat)=>Enc.F eI [a20,a21,a22] ((0:Nat)+i) j) fun(i j:Nat)=>Enc.F eI [a20,a21,a22] ((1:Nat)+i) j)]))else(0:Int))+IntKind.i64.wrap (IntKind.i64.wrap ((-1:Int)*a01)*M.rdet (2:Nat) [Enc.list eI ((2:Nat)) (joinF (1:Nat) (joinF (0:Nat) (fun(i j:Nat)=>List.getD [] (i*1+j) D.nilp) fun(i j:Nat)=>Enc.F eI [a10,a11,a12] ((0:Nat)+i) j) fun(i j:Nat)=>Enc.F eI [a10,a11,a12] ((2:Nat)+i) j),Enc.list eI ((2:Nat)) (joinF (1:Nat) (joinF (0:Nat) (fun(i j:Nat)=>List.getD [] (i*1+j) D.nilp) fun(i j:Nat)=>Enc.F eI [a20,a21,a22] ((0:Nat)+i) j) fun(i j:Nat)=>Enc.F eI [a20,a21,a22] ((2:Nat)+i) j)]))else bif a00 != (0:Int)then IntKind.i64.wrap ((0:Int)+IntKind.i64.wrap (IntKind.i64.wrap ((1:Int)*a00)*M.rdet (2:Nat) [Enc.list eI ((2:Nat)) (joinF (0:Nat) (joinF (0:Nat) (fun(i j:Nat)=>List.getD [] (i*1+j) D.nilp) fun(i j:Nat)=>Enc.F eI [a10,a11,a12] ((0:Nat)+i) j) fun(i j:Nat)=>Enc.F eI [a10,a11,a12] ((1:Nat)+i) j),Enc.list eI ((2:Nat)) (joinF (0:Nat) (joinF (0:Nat) (fun(i j:Nat)=>List.getD [] (i*1+j) D.nilp) fun(i j:Nat)=>Enc.F eI [a20,a21,a22] ((0:Nat)+i) j) fun(i j:Nat)=>Enc.F eI [a20,a21,a22] ((1:Nat)+i) j)]))else(0:Int))+IntKind.i64.wrap (IntKind.i64.wrap ((1:Int)*a02)*M.rdet (2:Nat) [Enc.list eI ((2:Nat)) (joinF (2:Nat) (joinF (0:Nat) (fun(i j:Nat)=>List.getD [] (i*1+j) D.nilp) fun(i j:Nat)=>Enc.F eI [a10,a11,a12] ((0:Nat)+i) j) fun(i j:Nat)=>Enc.F eI [a10,a11,a12] ((3:Nat)+i) j),Enc.list eI ((2:Nat)) (joinF (2:Nat) (joinF (0:Nat) (fun(i j:Nat)=>List.getD [] (i*1+j) D.nilp) fun(i j:Nat)=>Enc.F eI [a20,a21,a22] ((0:Nat)+i) j) fun(i j:Nat)=>Enc.F eI [a20,a21,a22] ((3:Nat)+i) j)]))else bif a01 != (0:Int)then IntKind.i64.wrap ((bif a00 != (0:Int)then IntKind.i64.wrap ((0:Int)+IntKind.i64.wrap (IntKind.i64.wrap ((1:Int)*a00)*M.rdet (2:Nat) [Enc.list eI ((2:Nat)) (joinF (0:Nat) (joinF (0:Nat) (fun(i j:Nat)=>List.getD [] (i*1+j) D.nilp) fun(i j:Nat)=>Enc.F eI [a10,a11,a12] ((0:Nat)+i) j) fun(i j:Nat)=>Enc.F eI [a10,a11,a12] ((1:Nat)+i) j),Enc.list eI ((2:Nat)) (joinF (0:Nat) (joinF (0:Nat) (fun(i j:Nat)=>List.getD [] (i*1+j) D.nilp) fun(i j:Nat)=>Enc.F eI [a20,a21,a22] ((0:Nat)+i) j) fun(i j:Nat)=>Enc.F eI [a20,a21,a22] ((1:Nat)+i) j)]))else(0:Int))+IntKind.i64.wrap (IntKind.i64.wrap ((-1:Int)*a01)*M.rdet (2:Nat) [Enc.list eI ((2:Nat)) (joinF (1:Nat) (joinF (0:Nat) (fun(i j:Nat)=>List.getD [] (i*1+j) D.nilp) fun(i j:Nat)=>Enc.F eI [a10,a11,a12] ((0:Nat)+i) j) fun(i j:Nat)=>Enc.F eI [a10,a11,a12] ((2:Nat)+i) j),Enc.list eI ((2:Nat)) (joinF (1:Nat) (joinF (0:Nat) (fun(i j:Nat)=>List.getD [] (i*1+j) D.nilp) fun(i j:Nat)=>Enc.F eI [a20,a21,a22] ((0:Nat)+i) j) fun(i j:Nat)=>Enc.F eI [a20,a21,a22] ((2:Nat)+i) j)]))else bif a00 != (0:Int)then IntKind.i64.wrap ((0:Int)+IntKind.i64.wrap (IntKind.i64.wrap ((1:Int)*a00)*M.rdet (2:Nat) [Enc.list eI ((2:Nat)) (joinF (0:Nat) (joinF (0:Nat) (fun(i j:Nat)=>List.getD [] (i*1+j) D.nilp) fun(i j:Nat)=>Enc.F eI [a10,a11,a12] ((0:Nat)+i) j) fun(i j:Nat)=>Enc.F eI [a10,a11,a12] ((1:Nat)+i) j),Enc.list eI ((2:Nat)) (joinF (0:Nat) (joinF (0:Nat) (fun(i j:Nat)=>List.getD [] (i*1+j) D.nilp) fun(i j:Nat)=>Enc.F eI [a20,a21,a22] ((0:Nat)+i) j) fun(i j:Nat)=>Enc.F eI [a20,a21,a22] ((1:Nat)+i) j)]))else(0:Int)))])
theorem t184_3(q:Bool)(a00 a01 a02 a10 a11 a12 a20 a21 a22:Int):runFnX Try.prog G0 (lookS [v184 2]) (fun _=>[(3000008,[],none),(3000009,[],none),(1000010,[],none),(3000005,[],none),(3000016,[],none),(3000018,[],none),(1000019,[],none),(3000007,[],none),(3000022,[],none),(3000024,[],none),(1000025,[],none),(5000053,[.slot 3 (.int .i64)],none)]) [] 1 60 4 184 Try.f184 [.c (.sl q 3 1 (eR.F [[a00,a01,a02],[a10,a11,a12],[a20,a21,a22]]))] =
  tr184_3 q a00 a01 a02 a10 a11 a12 a20 a21 a22:=by kernel_rfl
theorem w184_3(q:Bool)(a00 a01 a02 a10 a11 a12 a20 a21 a22:Int):(tr184_3 q a00 a01 a02 a10 a11 a12 a20 a21 a22).wp (fun rs=>rsEqv rs [rI (M.rdet 3 [[a00,a01,a02],[a10,a11,a12],[a20,a21,a22]])]):=by
 unfold tr184_3
 repeat (refine⟨(by first|exact of_decide_eq_true rfl|exact fun i j _ _=>D.eqv_refl _|exact is_lit1 (D.eqv_refl _)|exact is_lit2 (D.eqv_refl _) (D.eqv_refl _)),?_⟩)
 refine rI_eqv ?_
 kernel_rfl
theorem C184_3:FOK Try.prog G0 gw 184 (dom184 3):=by
 intro ags p r hd hp κ w xs hw hl hG hx
 unfold dom184 at hd
 split at hd
 ·rename_i q n st F
  split at hd
  ·rename_i m pp hst hm
   simp only[Bool.and_eq_true]at hst
   obtain⟨h1,h2⟩:=hst
   have h1:=Nat.eq_of_beq_eq_true h1
   subst h1
   have h2:=Nat.eq_of_beq_eq_true h2
   subst h2
   simp only[Option.some.injEq,Prod.mk.injEq]at hd
   obtain⟨rfl,rfl⟩:=hd
   have hs:=(rowsS_spec hm hp).2.1
   have heq:agsEqv [.c (.sl q 3 1 F)] [.c (.sl q m.length 1 (eR.F m))]:=⟨rowsS_eqv id hm hp,trivial⟩
   obtain⟨w0,w1,w2,rfl⟩:=len3 (rowsS_spec hm hp).1
   obtain⟨a00,a01,a02,rfl⟩:=len3 (hs _ (by simp):w0.length=3)
   obtain⟨a10,a11,a12,rfl⟩:=len3 (hs _ (by simp):w1.length=3)
   obtain⟨a20,a21,a22,rfl⟩:=len3 (hs _ (by simp):w2.length=3)
   exact fokX_fin mixed gw_stable (sl:=[v184 2]) ⟨S184_2,trivial⟩ Try.func184 hw hl hG hx heq rfl (t184_3 q a00 a01 a02 a10 a11 a12 a20 a21 a22) (w184_3 q a00 a01 a02 a10 a11 a12 a20 a21 a22)
  ·cases hd
 ·cases hd
theorem S184_3:SumOK Try.prog G0 gw 184 (fokSm (dom184 3)):=fok_sum Try.func184 rfl C184_3
end Go.Pl
end
section
set_option maxRecDepth 100000
namespace Go.Pl
open Go.V Go.Proofs
structure Side where
 co:List Int
 am:Int
def encSd(p:Side):Nat→D
 |0=>.sl false p.co.length 1 (eI.F p.co)
 |_=>dI p.am
def rdSd(F:Nat→D):Side:=⟨rdL F 0,rdI F 1⟩
theorem rdSd_enc(p:Side):rdSd (encSd p)=p:=by
 have h:eI.list p.co.length (eI.F p.co)=p.co:=Enc.list_F eI p.co
 simp only[rdSd,encSd,rdI,rdL,h]
def eSd:Enc Side:=⟨2,encSd,rdSd,⟨[],0⟩,rdSd_enc⟩
def dfSd:Side:=⟨[],0⟩
end Go.Pl
end
section
set_option maxRecDepth 100000
namespace Go.Pl
open Go.V Go.Proofs
theorem RowIs.app{α:Type}{E:Enc α}{d m:Nat}{F G:Nat→Nat→D}{set more:List α}(h:RowIs E d F set)(k:RowIs E m G more):RowIs E (d+m) (joinF d F G) (set++more):=by
 constructor
 ·intro i j hi hj
  unfold joinF
  by_cases hd:i<d
  ·rw[blt_of hd];exact h.is i j hd hj
  ·have:Nat.blt i d=false:=by rw[←Bool.not_eq_true,Nat.blt_eq];omega
   simp only[this]
   exact k.is (i-d) j (by omega) hj
 ·rw[←h.eq,←k.eq]
  unfold Enc.list
  rw[List.range_add,List.map_append,List.map_map]
  congr 1
  ·refine List.map_congr_left fun i hi=>?_
   have hi:=List.mem_range.1 hi
   congr 1
   funext j
   unfold joinF
   rw[blt_of hi]
  ·refine List.map_congr_left fun i _=>?_
   show E.rd (joinF d F G (d+i))=_
   congr 1
   funext j
   unfold joinF
   have:Nat.blt (d+i) d=false:=by rw[←Bool.not_eq_true,Nat.blt_eq];omega
   simp only[this,Nat.add_sub_cancel_left]
theorem t71r(q:Bool)(u:List Int):runFnR Try.prog G0 (lookS []) (fun _=>[]) [] 1 40 6 71 Try.f71 [.c (.sl q u.length 1 (eI.F u))] =
  T.need (0+u.length≤1000000) (T.need (0+u.length≤0+u.length) (T.ret (3,1,0+u.length,joinF 0 (fun(i j:Nat)=>List.getD [] (i*1+j) D.nilp) (eI.F u)))):=by kernel_rfl
def dom71r:DomR
 |[.c (.sl _ n st F)]=>(match Nat.beq st 1||Nat.beq n 0 with
  |true=>some ([eI.Is n F,n≤1000000],rowI (eI.list n F))
  |_=>none)
 |_=>none
def v71r:Nat×Sm:=(71,fokSmR dom71r)
theorem C71r:FOKR Try.prog G0 gw 71 dom71r:=by
 intro ags p r hd hp κ w xs hw hl hG hx
 unfold dom71r at hd
 split at hd
 ·rename_i q n st F
  split at hd
  ·rename_i hst
   simp only[Option.some.injEq,Prod.mk.injEq]at hd
   obtain⟨rfl,rfl⟩:=hd
   obtain⟨hI,hn,_⟩:=hp
   have heq:agsEqv [.c (.sl q n st F)] [.c (.sl q (eI.list n F).length 1 (eI.F (eI.list n F)))]:=⟨eI.toz hst hI,trivial⟩
   have hlen:(eI.list n F).length≤1000000:=by rw[Enc.list_len];exact hn
   refine fokR_fin mixed gw_stable (sl:=[]) trivial Try.func71 (fun _ _=>rfl) hw hl hG hx heq rfl (t71r _ _) ⟨by omega,Nat.le_refl _,rfl,rfl,by simp[rowI],fun i j hi hj=>?_⟩
   simp only[join0]
   obtain rfl:j=0:=Nat.lt_one_iff.1 hj
   exact D.eqv_refl _
  ·cases hd
 ·cases hd
theorem S71r:SumOK Try.prog G0 gw 71 (fokSmR dom71r):=fokR_sum Try.func71 rfl C71r
namespace M
def sdM(n:Nat)(mo:List Int)(i:Nat):List Side:=[⟨unitL n i 1,0⟩,⟨unitL n i 1,mo.getD i 0⟩]
def sdD(de:List Dem)(j:Nat):Side:=⟨(de.getD j dfD).co,(de.getD j dfD).am⟩
def sides(mo:List Int)(de:List Dem):List Side:=(List.range mo.length).flatMap (sdM mo.length mo)++(List.range de.length).map (sdD de)
end M
abbrev twoG(n:Nat)(F:Nat→Nat→D)(a:Int):Nat→Nat→D:=fun(i j:Nat)=>List.getD [D.sl true n 1 F,dI 0,D.sl true n 1 F,dI a] (i*2+j) D.nilp
abbrev oneG(co:List Int)(a:Int):Nat→Nat→D:=fun(i j:Nat)=>List.getD [D.sl false co.length 1 (eI.F co),dI a] (i*2+j) D.nilp
theorem twoG_row{n:Nat}{F:Nat→Nat→D}{a:Int}{co:List Int}(h:RowIs eI n F co):RowIs eSd 2 (twoG n F a) [⟨co,0⟩,⟨co,a⟩]:=by
 have hl:=h.eq
 refine⟨fun i j hi hj=>?_,?_⟩
 ·have hj:j<2:=hj
  match i,hi,j,hj with
  |0,_,0,_=>exact eI.to (fun e=>by cases e) h.is
  |0,_,1,_=>exact D.eqv_refl _
  |1,_,0,_=>exact eI.to (fun e=>by cases e) h.is
  |1,_,1,_=>exact D.eqv_refl _
 ·unfold Enc.list
  show[(⟨eI.list n F,0⟩:Side),⟨eI.list n F,a⟩]=_
  rw[hl]
theorem oneG_row(co:List Int)(a:Int):RowIs eSd 1 (oneG co a) [⟨co,a⟩]:=by
 refine⟨fun i j hi hj=>?_,?_⟩
 ·have hj:j<2:=hj
  match i,hi,j,hj with
  |0,_,0,_=>exact eI.to (fun e=>by cases e) (Enc.is_F _ _ _)
  |0,_,1,_=>exact D.eqv_refl _
 ·show[(⟨eI.list co.length (eI.F co),a⟩:Side)]=_
  rw[Enc.list_F]
def k87_1(y:Int×List Side×PUnit)(de:List Dem):=joinF (List.length (Prod.fst (Prod.snd y))) (Enc.F eSd (Prod.fst (Prod.snd y))) fun(i j:Nat)=>List.getD [D.sl false (List.length (Dem.co (List.getD de (Int.toNat (Prod.fst y)) dfD))) (1:Nat) (Enc.F eI (Dem.co (List.getD de (Int.toNat (Prod.fst y)) dfD))),D.int IntKind.i64 (Dem.am (List.getD de (Int.toNat (Prod.fst y)) dfD))] (i*(2:Nat)+j) D.nilp
def tr87(q_mo:Bool)(mo:List Int)(q_ga:Bool)(ga:List Int)(q_de:Bool)(de:List Dem):T (List Ar):=
  T.loop2 (Int×PUnit×PUnit) (Int×List Side×PUnit) (Sum.inl ((0:Int),PUnit.unit,PUnit.unit)) (fun(x:Int×PUnit×PUnit)=>T.br (decide (x.1<(mo.length:Int))) (T.needs [(0:Int)≤(mo.length:Int),(mo.length:Int)≤(mo.length:Int),(mo.length:Int)≤1000000,(0:Int)≤x.1,x.1<(Nat.cast (R:=Int) (Int.toNat (mo.length:Int))),Int.toNat x.1<Int.toNat (mo.length:Int),(0:Int)≤x.1,x.1<(mo.length:Int),Int.toNat (mo.length:Int)≤Int.toNat (mo.length:Int),Int.toNat (mo.length:Int)≤Int.toNat (mo.length:Int),(2:Nat)≤1000000,(Enc.Is eSd (2:Nat) (joinF (0:Nat) (fun(_ _:Nat)=>D.nilp) fun(i j:Nat)=>List.getD [D.sl true (Int.toNat (mo.length:Int)) (1:Nat) (putF x.1.toNat (0:Nat) (1:Nat) [D.int IntKind.i64 (1:Int)] fun(x j:Nat)=>List.getD [D.int IntKind.i64 (0:Int)] j D.nilp),D.int IntKind.i64 (0:Int),D.sl true (Int.toNat (mo.length:Int)) (1:Nat) (putF x.1.toNat (0:Nat) (1:Nat) [D.int IntKind.i64 (1:Int)] fun(x j:Nat)=>List.getD [D.int IntKind.i64 (0:Int)] j D.nilp),D.int IntKind.i64 (mo.getD x.1.toNat (0:Int))] (i*2+j) D.nilp)),(2:Nat)≤2] (T.ret (Sum.inl (Sum.inr (IntKind.i64.wrap (x.1+1),Enc.list eSd (2:Nat) (joinF (0:Nat) (fun(_ _:Nat)=>D.nilp) fun(i j:Nat)=>List.getD [D.sl true (Int.toNat (mo.length:Int)) (1:Nat) (putF x.1.toNat (0:Nat) (1:Nat) [D.int IntKind.i64 (1:Int)] fun(x j:Nat)=>List.getD [D.int IntKind.i64 (0:Int)] j D.nilp),D.int IntKind.i64 (0:Int),D.sl true (Int.toNat (mo.length:Int)) (1:Nat) (putF x.1.toNat (0:Nat) (1:Nat) [D.int IntKind.i64 (1:Int)] fun(x j:Nat)=>List.getD [D.int IntKind.i64 (0:Int)] j D.nilp),D.int IntKind.i64 (mo.getD x.1.toNat (0:Int))] (i*2+j) D.nilp),PUnit.unit))))) (T.loop2 (Int×PUnit×PUnit) (Int×List Side×PUnit) (Sum.inl ((0:Int),PUnit.unit,PUnit.unit)) (fun(x:Int×PUnit×PUnit)=>T.br (decide (x.1<(de.length:Int))) (T.needs [(0:Int)≤x.1,x.1<(de.length:Int),(0:Int)≤x.1,x.1<(de.length:Int),(1:Nat)≤1000000,(Enc.Is eSd (1:Nat) (joinF (0:Nat) (fun(_ _:Nat)=>D.nilp) fun(i j:Nat)=>List.getD [D.sl false (List.length (Dem.co (de.getD x.1.toNat dfD))) (1:Nat) (Enc.F eI (Dem.co (de.getD x.1.toNat dfD))),D.int IntKind.i64 (Dem.am (de.getD x.1.toNat dfD))] (i*2+j) D.nilp)),(1:Nat)≤1] (T.ret (Sum.inl (Sum.inr (IntKind.i64.wrap (x.1+1),Enc.list eSd (1:Nat) (joinF (0:Nat) (fun(_ _:Nat)=>D.nilp) fun(i j:Nat)=>List.getD [D.sl false (List.length (Dem.co (de.getD x.1.toNat dfD))) (1:Nat) (Enc.F eI (Dem.co (de.getD x.1.toNat dfD))),D.int IntKind.i64 (Dem.am (de.getD x.1.toNat dfD))] (i*2+j) D.nilp),PUnit.unit))))) (T.ret (Sum.inr (Sum.inr [Ar.c (D.sl false (0:Nat) (0:Nat) (fun(_ _:Nat)=>D.nilp))])))) fun(y:Int×List Side×PUnit)=>T.br (decide (y.1<(de.length:Int))) (T.needs [(0:Int)≤y.1,y.1<(de.length:Int),(0:Int)≤y.1,y.1<(de.length:Int),y.2.1.length+1≤1000000,y.2.1.length≤y.2.1.length,Enc.Is eSd (y.2.1.length+1) (k87_1 y de),y.2.1.length+1≤y.2.1.length+1] (T.ret (Sum.inl (Sum.inr (IntKind.i64.wrap (y.1+1),Enc.list eSd (y.2.1.length+1) (k87_1 y de),PUnit.unit))))) (T.need (y.2.1.length≤y.2.1.length) (T.ret (Sum.inr (Sum.inr [Ar.c (D.sl true y.2.1.length (2:Nat) (Enc.F eSd y.2.1))])))))) fun(y:Int×List Side×PUnit)=>T.br (decide (y.1<(mo.length:Int))) (T.needs [(0:Int)≤(mo.length:Int),(mo.length:Int)≤(mo.length:Int),(mo.length:Int)≤1000000,(0:Int)≤y.1,y.1<(Nat.cast (R:=Int) (Int.toNat (mo.length:Int))),Int.toNat y.1<Int.toNat (mo.length:Int),(0:Int)≤y.1,y.1<(mo.length:Int),Int.toNat (mo.length:Int)≤Int.toNat (mo.length:Int),Int.toNat (mo.length:Int)≤Int.toNat (mo.length:Int),y.2.1.length+2≤1000000,y.2.1.length≤y.2.1.length,(Enc.Is eSd (y.2.1.length+2) (joinF y.2.1.length (Enc.F eSd y.2.1) fun(i j:Nat)=>List.getD [D.sl true (Int.toNat (mo.length:Int)) (1:Nat) (putF y.1.toNat (0:Nat) (1:Nat) [D.int IntKind.i64 (1:Int)] fun(x j:Nat)=>List.getD [D.int IntKind.i64 (0:Int)] j D.nilp),D.int IntKind.i64 (0:Int),D.sl true (Int.toNat (mo.length:Int)) (1:Nat) (putF y.1.toNat (0:Nat) (1:Nat) [D.int IntKind.i64 (1:Int)] fun(x j:Nat)=>List.getD [D.int IntKind.i64 (0:Int)] j D.nilp),D.int IntKind.i64 (mo.getD y.1.toNat (0:Int))] (i*2+j) D.nilp)),y.2.1.length+2≤y.2.1.length+2] (T.ret (Sum.inl (Sum.inr (IntKind.i64.wrap (y.1+1),Enc.list eSd (y.2.1.length+2) (joinF y.2.1.length (Enc.F eSd y.2.1) fun(i j:Nat)=>List.getD [D.sl true (Int.toNat (mo.length:Int)) (1:Nat) (putF y.1.toNat (0:Nat) (1:Nat) [D.int IntKind.i64 (1:Int)] fun(x j:Nat)=>List.getD [D.int IntKind.i64 (0:Int)] j D.nilp),D.int IntKind.i64 (0:Int),D.sl true (Int.toNat (mo.length:Int)) (1:Nat) (putF y.1.toNat (0:Nat) (1:Nat) [D.int IntKind.i64 (1:Int)] fun(x j:Nat)=>List.getD [D.int IntKind.i64 (0:Int)] j D.nilp),D.int IntKind.i64 (mo.getD y.1.toNat (0:Int))] (i*2+j) D.nilp),PUnit.unit))))) (T.need (Enc.Is eSd y.2.1.length (Enc.F eSd y.2.1)) (T.need (y.2.1.length≤y.2.1.length) (T.loop (Int×List Side×PUnit) ((0:Int),Enc.list eSd y.2.1.length (Enc.F eSd y.2.1),PUnit.unit) fun(x:Int×List Side×PUnit)=>T.br (decide (x.1<(de.length:Int))) (T.needs [(0:Int)≤x.1,x.1<(de.length:Int),(0:Int)≤x.1,x.1<(de.length:Int),x.2.1.length+1≤1000000,x.2.1.length≤x.2.1.length,(Enc.Is eSd (x.2.1.length+1) (joinF x.2.1.length (Enc.F eSd x.2.1) fun(i j:Nat)=>List.getD [D.sl false (List.length (Dem.co (de.getD x.1.toNat dfD))) (1:Nat) (Enc.F eI (Dem.co (de.getD x.1.toNat dfD))),D.int IntKind.i64 (Dem.am (de.getD x.1.toNat dfD))] (i*2+j) D.nilp)),x.2.1.length+1≤x.2.1.length+1] (T.ret (Sum.inl (IntKind.i64.wrap (x.1+1),Enc.list eSd (x.2.1.length+1) (joinF x.2.1.length (Enc.F eSd x.2.1) fun(i j:Nat)=>List.getD [D.sl false (List.length (Dem.co (de.getD x.1.toNat dfD))) (1:Nat) (Enc.F eI (Dem.co (de.getD x.1.toNat dfD))),D.int IntKind.i64 (Dem.am (de.getD x.1.toNat dfD))] (i*2+j) D.nilp),PUnit.unit)))) (T.need (x.2.1.length≤x.2.1.length) (T.ret (Sum.inr (Sum.inr [Ar.c (D.sl true x.2.1.length (2:Nat) (Enc.F eSd x.2.1))])))))))
theorem t87(q_mo:Bool)(mo:List Int)(q_ga:Bool)(ga:List Int)(q_de:Bool)(de:List Dem):runFnX Try.prog G0 (lookS []) (fun _=>[(3,[.slot 4 (.int .i64),.slot 3 .nsl],some [.slot 4 (.int .i64),.slot 3 (.rowE 146 eSd)]),(9,[.slot 6 (.int .i64),.slot 3 .nsl],some [.slot 6 (.int .i64),.slot 3 (.rowE 146 eSd)])]) [] 1 60 4 87 Try.f87 [.agg [.sl q_mo mo.length 1 (eI.F mo),.sl q_ga ga.length 1 (eI.F ga),.sl q_de de.length 3 (eDm.F de)]] =
  tr87 q_mo mo q_ga ga q_de de:=by kernel_rfl
theorem w87(q_mo:Bool)(mo:List Int)(q_ga:Bool)(ga:List Int)(q_de:Bool)(de:List Dem)(h2:mo.length≤1000)(h1:de.length≤1000)(h0:0<mo.length) :
  (tr87 q_mo mo q_ga ga q_de de).wp (fun rs=>rsEqv rs [.c (.sl false (M.sides mo de).length 2 (eSd.F (M.sides mo de)))]):=by
 unfold tr87
 simp only[k87_1,Int.toNat_natCast,Enc.list_F]
 refine⟨fun z=>match z with|.inl x=>x.1=((0:Nat):Int)∧([]:List Side)=[]|.inr y=>∃k:Nat,k≤mo.length∧y.1=(k:Int)∧y.2.1=([]:List Side)++(List.range k).flatMap (M.sdM mo.length mo),fun z=>match z with|.inl x=>mo.length+1|.inr y=>mo.length-y.1.toNat,⟨rfl,rfl⟩,?_,?_⟩
 ·rintro ⟨y,u1,u2⟩ ⟨hy,hpre⟩
  simp only at hy
  have hpre:([]:List Side)=[]:=hpre
  have hy:y=((0:Nat):Int):=hy
  subst hy
  have hw:IntKind.i64.wrap (((0:Nat):Int)+1)=((0+1:Nat):Int):=wrap_succ (by omega)
  refine⟨fun hb=>?_,fun hb=>?_⟩
  ·have hlt:=lt_of_dec hb
   obtain⟨r1,r2⟩:=unit_row (n:=mo.length) (i:=0) (m:=1) (v:=1) (by omega) rfl
   have g:=twoG_row (a:=mo.getD 0 0) (RowIs.mk r1 r2)
   have nx:(List.range (0+1)).flatMap (M.sdM mo.length mo)=(List.range 0).flatMap (M.sdM mo.length mo)++ [⟨M.unitL mo.length 0 1,0⟩,⟨M.unitL mo.length 0 1,mo.getD 0 0⟩]:=by rw[List.range_succ,List.flatMap_append,List.flatMap_singleton];rfl
   have o:=(RowIs.mk (E:=eSd) (d:=0) (F:=fun _ _=>D.nilp) (set:=[]) (fun i j hi=>absurd hi (Nat.not_lt_zero i)) rfl).app g
   have o3:([]:List Side)++ [⟨M.unitL mo.length 0 1,0⟩,⟨M.unitL mo.length 0 1,mo.getD 0 0⟩]=([]:List Side)++(List.range (0+1)).flatMap (M.sdM mo.length mo):=by rw[nx,hpre];rfl
   dsimp only[Int.toNat_natCast,hw]
   simp only[Int.toNat_natCast,hw,Enc.list_F]
   repeat (refine⟨(by first|exact Enc.is_F _ _ _|exact Nat.le_refl _|exact Int.le_refl _|assumption|exact o.is|omega),?_⟩)
   have mu:mo.length-((0+1:Nat):Int).toNat<mo.length+1:=by omega
   exact⟨⟨0+1,hlt,rfl,o.eq.trans o3⟩,mu⟩
  ·have hge:=ge_of_dec hb
   have hz:mo.length=0:=by omega
   exact absurd h0 (by omega)
 ·rintro ⟨y,acc,u⟩ ⟨k,hk,hy,ha⟩
  simp only at hy ha
  subst hy
  have hal:acc.length≤5000:=by rw[ha];simp only[List.length_append,List.length_map,List.length_range,List.length_nil,List.length_flatMap,M.sdM,List.length_cons,List.map_const',List.sum_replicate_nat];omega
  have hw:IntKind.i64.wrap ((k:Int)+1)=((k+1:Nat):Int):=wrap_succ (by omega)
  refine⟨fun hb=>?_,fun hb=>?_⟩
  ·have hlt:=lt_of_dec hb
   obtain⟨r1,r2⟩:=unit_row (n:=mo.length) (i:=k) (m:=1) (v:=1) (by omega) rfl
   have g:=twoG_row (a:=mo.getD k 0) (RowIs.mk r1 r2)
   have nx:(List.range (k+1)).flatMap (M.sdM mo.length mo)=(List.range k).flatMap (M.sdM mo.length mo)++ [⟨M.unitL mo.length k 1,0⟩,⟨M.unitL mo.length k 1,mo.getD k 0⟩]:=by rw[List.range_succ,List.flatMap_append,List.flatMap_singleton];rfl
   have o:=(rowIs_F (E:=eSd) acc).app g
   have o3:acc++ [⟨M.unitL mo.length k 1,0⟩,⟨M.unitL mo.length k 1,mo.getD k 0⟩]=([]:List Side)++(List.range (k+1)).flatMap (M.sdM mo.length mo):=by rw[nx,ha,List.append_assoc]
   dsimp only[Int.toNat_natCast,hw]
   simp only[Int.toNat_natCast,hw,Enc.list_F]
   repeat (refine⟨(by first|exact Enc.is_F _ _ _|exact Nat.le_refl _|exact Int.le_refl _|assumption|exact o.is|omega),?_⟩)
   have mu:mo.length-((k+1:Nat):Int).toNat<mo.length-((k:Nat):Int).toNat:=by omega
   exact⟨⟨k+1,hlt,rfl,o.eq.trans o3⟩,mu⟩
  ·have hge:=ge_of_dec hb
   obtain rfl:k=mo.length:=by omega
   repeat (refine⟨(by first|exact Enc.is_F _ _ _|exact Nat.le_refl _|exact Int.le_refl _|assumption|omega),?_⟩)
   refine⟨fun y=>∃k:Nat,k≤de.length∧y.1=(k:Int)∧y.2.1=((List.range mo.length).flatMap (M.sdM mo.length mo))++(List.range k).map (M.sdD de),fun y=>de.length-y.1.toNat,⟨0,Nat.zero_le _,rfl,by simp only[List.range_zero,List.map_nil,List.append_nil];rw[ha];rfl⟩,?_⟩
   rintro ⟨y,acc,u⟩ ⟨k,hk,hy,ha⟩
   simp only at hy ha
   subst hy
   have hal:acc.length≤5000:=by rw[ha];simp only[List.length_append,List.length_map,List.length_range,List.length_nil,List.length_flatMap,M.sdM,List.length_cons,List.map_const',List.sum_replicate_nat];omega
   have hw:IntKind.i64.wrap ((k:Int)+1)=((k+1:Nat):Int):=wrap_succ (by omega)
   refine⟨fun hb=>?_,fun hb=>?_⟩
   ·have hlt:=lt_of_dec hb
    have g:=oneG_row (de.getD k dfD).co (de.getD k dfD).am
    have nx:(List.range (k+1)).map (M.sdD de)=(List.range k).map (M.sdD de)++ [⟨(de.getD k dfD).co,(de.getD k dfD).am⟩]:=by rw[List.range_succ,List.map_append];rfl
    have o:=(rowIs_F (E:=eSd) acc).app g
    have o3:acc++ [⟨(de.getD k dfD).co,(de.getD k dfD).am⟩]=((List.range mo.length).flatMap (M.sdM mo.length mo))++(List.range (k+1)).map (M.sdD de):=by rw[nx,ha,List.append_assoc]
    dsimp only[Int.toNat_natCast,hw]
    simp only[Int.toNat_natCast,hw,Enc.list_F]
    repeat (refine⟨(by first|exact Enc.is_F _ _ _|exact Nat.le_refl _|exact Int.le_refl _|assumption|exact o.is|omega),?_⟩)
    have mu:de.length-((k+1:Nat):Int).toNat<de.length-((k:Nat):Int).toNat:=by omega
    exact⟨⟨k+1,hlt,rfl,o.eq.trans o3⟩,mu⟩
   ·have hge:=ge_of_dec hb
    obtain rfl:k=de.length:=by omega
    repeat (refine⟨(by first|exact Enc.is_F _ _ _|exact Nat.le_refl _|exact Int.le_refl _|assumption|omega),?_⟩)
    have hfin:acc=M.sides mo de:=by rw[ha];rfl
    subst hfin
    exact⟨⟨(fun e=>by cases e),rfl,fun _=>rfl,fun i j _ _=>D.eqv_refl _⟩,trivial⟩
def dom87:DomF
 |[.agg [.sl _ n_mo st_mo F_mo,.sl _ n_ga st_ga F_ga,.sl _ n_de st_de F_de]]=>(match (Nat.beq st_mo 1||Nat.beq n_mo 0)&&(Nat.beq st_ga 1||Nat.beq n_ga 0)&&(Nat.beq st_de 3||Nat.beq n_de 0)with
  |true=>some ([eI.Is n_mo F_mo,eI.Is n_ga F_ga,eDm.Is n_de F_de,(eI.list n_mo F_mo).length≤1000,(eDm.list n_de F_de).length≤1000,0<(eI.list n_mo F_mo).length],[.c (.sl false (M.sides (eI.list n_mo F_mo) (eDm.list n_de F_de)).length 2 (eSd.F (M.sides (eI.list n_mo F_mo) (eDm.list n_de F_de))))])
  |_=>none)
 |_=>none
def v87:Nat×Sm:=(87,fokSm dom87)
theorem C87:FOK Try.prog G0 gw 87 dom87:=by
 intro ags p r hd hp κ w xs hw hl hG hx
 unfold dom87 at hd
 split at hd
 ·rename_i q_mo n_mo st_mo F_mo q_ga n_ga st_ga F_ga q_de n_de st_de F_de
  split at hd
  ·rename_i hst
   simp only[Bool.and_eq_true]at hst
   obtain⟨⟨g1,g2⟩,g3⟩:=hst
   simp only[Option.some.injEq,Prod.mk.injEq]at hd
   obtain⟨rfl,rfl⟩:=hd
   obtain⟨hI_mo,hI_ga,hI_de,hp⟩:=hp
   have heq:agsEqv [.agg [.sl q_mo n_mo st_mo F_mo,.sl q_ga n_ga st_ga F_ga,.sl q_de n_de st_de F_de]] [.agg [.sl q_mo (eI.list n_mo F_mo).length 1 (eI.F (eI.list n_mo F_mo)),.sl q_ga (eI.list n_ga F_ga).length 1 (eI.F (eI.list n_ga F_ga)),.sl q_de (eDm.list n_de F_de).length 3 (eDm.F (eDm.list n_de F_de))]]:=⟨⟨eI.toz g1 hI_mo,eI.toz g2 hI_ga,eDm.toz g3 hI_de,trivial⟩,trivial⟩
   have len_mo:(eI.list n_mo F_mo).length=n_mo:=eI.list_len
   have len_ga:(eI.list n_ga F_ga).length=n_ga:=eI.list_len
   have len_de:(eDm.list n_de F_de).length=n_de:=eDm.list_len
   generalize eI.list n_mo F_mo=mo at *
   generalize eI.list n_ga F_ga=ga at *
   generalize eDm.list n_de F_de=de at *
   subst len_mo len_ga len_de
   exact fokX_fin mixed gw_stable (sl:=[]) trivial Try.func87 hw hl hG hx heq rfl (t87 _ _ _ _ _ _) (w87 _ _ _ _ _ _ hp.1 hp.2.1 hp.2.2.1)
  ·cases hd
 ·cases hd
theorem S87:SumOK Try.prog G0 gw 87 (fokSm dom87):=fok_sum Try.func87 rfl C87
end Go.Pl
end
section
set_option maxRecDepth 100000
namespace Go.Pl
open Go.V Go.Proofs
theorem listD(l:List Int):Enc.list eI l.length (fun(i x:Nat)=>dI (l.getD i 0))=l:=(rowIs_dI l).eq
theorem putD{l:List Int}{k:Nat}{v:Int}(hk:k<l.length):RowIs eI l.length (putF k 0 1 [dI v] (fun(i _:Nat)=>dI (l.getD i 0))) (l.set k v):=put1 hk
namespace M
def rmat(N:Nat)(R:List Side):List (List Int):=(List.range N).map fun i=>(R.getD i dfSd).co
def rmatC(N:Nat)(R:List Side)(k:Nat):List (List Int):=(List.range N).map fun i=>(R.getD i dfSd).co.set k (R.getD i dfSd).am
def rsign(N:Nat)(R:List Side):Int:=cond (decide (rdet N (rmat N R)<0)) (-1) 1
def rnum(N:Nat)(R:List Side)(k:Nat):Int:=IntKind.i64.wrap (rsign N R*rdet N (rmatC N R k))
def rden(N:Nat)(R:List Side):Int:=IntKind.i64.wrap (rsign N R*rdet N (rmat N R))
def rcorner(N:Nat)(R:List Side):Int×List Int×Bool:=
 cond (rdet N (rmat N R)==0) (0,[],false) (cond ((List.range N).any fun k=>decide (rnum N R k<0)) (0,[],false) (rden N R,(List.range N).map (rnum N R),true))
end M
def res88(x:Int×List Int×Bool):List Ar:=[.agg [dI x.1,.sl false x.2.1.length 1 (eI.F x.2.1)],rB x.2.2]
theorem sl_lit{q:Bool}{F:Nat→Nat→D}{l:List Int}(h:∀i,i<l.length→F i 0=dI (l.getD i 0)):(D.sl q l.length 1 F).eqv (.sl false l.length 1 (eI.F l)):=
 ⟨(fun e=>by cases e),rfl,fun _=>rfl,fun i j hi hj=>by
  obtain rfl:j=0:=Nat.lt_one_iff.1 hj
  rw[h i hi];exact D.eqv_refl _⟩
theorem nil88:rsEqv [.agg [dI 0,.sl false 0 0 (fun _ _=>.nilp)],rB false] (res88 (0,[],false)):=⟨⟨rfl,nil_eqv eI,trivial⟩,rfl,trivial⟩
def tr88_1(q:Bool)(c0:List Int)(a0:Int):T (List Ar):=
  T.needs [(0:Int)≤0,(0:Int)<1,Enc.Is eI c0.length (Enc.F eI c0),c0.length≤1000000,List.length (cI c0)≤List.length (cI c0),(1:Nat)≤1000000,(1:Nat)≤1,(Enc.Is eI (List.length (cI c0)) fun(i x:Nat)=>dI (List.getD (cI c0) i (0:Int))),List.length (cI c0)=1] (T.br (M.rdet (1:Nat) [Enc.list eI (List.length (cI c0)) fun(i x:Nat)=>dI (List.getD (cI c0) i (0:Int))]==0) (T.ret [Ar.agg [D.int IntKind.i64 (0:Int),D.sl false (0:Nat) (0:Nat) (fun(_ _:Nat)=>D.nilp)],Ar.c (D.bool false)]) (T.needs [(0:Int)≤0,(0:Int)<1,Enc.Is eI c0.length (Enc.F eI c0),c0.length≤1000000,(0:Int)≤0,(0:Int)<1,(0:Int)≤0,(0:Int)<((cI c0).length:Int),(0:Nat)<List.length (cI c0),List.length (cI c0)≤List.length (cI c0),(1:Nat)≤1000000,(1:Nat)≤1,(Enc.Is eI (List.length (cI c0)) (putF (0:Nat) (0:Nat) (1:Nat) [D.int IntKind.i64 a0] fun(i x:Nat)=>dI (List.getD (cI c0) i (0:Int)))),List.length (cI c0)=1] (T.br (decide (IntKind.i64.wrap ((bif decide (M.rdet (1:Nat) [Enc.list eI (List.length (cI c0)) fun(i x:Nat)=>dI (List.getD (cI c0) i (0:Int))]<0)then(-1:Int)else(1:Int))*M.rdet (1:Nat) [Enc.list eI (List.length (cI c0)) (putF (0:Nat) (0:Nat) (1:Nat) [D.int IntKind.i64 a0] fun(i x:Nat)=>dI (List.getD (cI c0) i (0:Int)))])<0)) (T.ret [Ar.agg [D.int IntKind.i64 (0:Int),D.sl false (0:Nat) (0:Nat) (fun(_ _:Nat)=>D.nilp)],Ar.c (D.bool false)]) (T.need ((1:Nat)≤1000000) (T.need ((1:Nat)≤1) (T.ret [Ar.agg [D.int IntKind.i64 (IntKind.i64.wrap ((bif decide (M.rdet (1:Nat) [Enc.list eI (List.length (cI c0)) fun(i x:Nat)=>dI (List.getD (cI c0) i (0:Int))]<0)then(-1:Int)else(1:Int))*M.rdet (1:Nat) [Enc.list eI (List.length (cI c0)) fun(i x:Nat)=>dI (List.getD (cI c0) i (0:Int))])),D.sl true (1:Nat) (1:Nat) (joinF (0:Nat) ((fun(_ _:Nat)=>D.nilp)) fun(i j:Nat)=>List.getD [D.int IntKind.i64 (IntKind.i64.wrap ((bif decide (M.rdet (1:Nat) [Enc.list eI (List.length (cI c0)) fun(i x:Nat)=>dI (List.getD (cI c0) i (0:Int))]<0)then(-1:Int)else(1:Int))*M.rdet (1:Nat) [Enc.list eI (List.length (cI c0)) (putF (0:Nat) (0:Nat) (1:Nat) [D.int IntKind.i64 a0] fun(i x:Nat)=>dI (List.getD (cI c0) i (0:Int)))]))] (i*1+j) D.nilp)],Ar.c (D.bool true)]))))))
theorem t88_1(q:Bool)(c0:List Int)(a0:Int):runFnX Try.prog G0 (lookS [v71r,v184 1]) (fun f=>match f with|156=>[(3000006,[],none),(3000008,[],none),(3000010,[],none),(1000011,[],none),(3000020,[],none),(1000021,[],none)]|88=>[(5000017,[.slot 5 (.int .i64)],none),(3000006,[],none),(3000023,[],none),(3000025,[],none),(1000026,[],none)]|_=>[]) [156] 1 60 6 88 Try.f88 [.c (.sl q 1 2 (eSd.F [⟨c0,a0⟩]))] =
  tr88_1 q c0 a0:=by kernel_rfl
theorem w88_1(q:Bool)(c0:List Int)(a0:Int)(h0:c0.length=1):(tr88_1 q c0 a0).wp (fun rs=>rsEqv rs (res88 (M.rcorner 1 [⟨c0,a0⟩]))):=by
 unfold tr88_1
 simp only[Enc.list_F,listD]
 have p00:=putD (l:=c0) (k:=0) (v:=a0) (by omega)
 simp only[p00.eq]
 have e0:M.rdet 1 (M.rmat 1 [⟨c0,a0⟩])=M.rdet 1 [c0]:=rfl
 have n0:M.rnum 1 [⟨c0,a0⟩] 0=IntKind.i64.wrap ((cond (decide (M.rdet 1 [c0]<0)) (-1) 1)*M.rdet 1 [c0.set 0 a0]):=rfl
 have ea:((List.range 1).any fun k=>decide (M.rnum 1 [⟨c0,a0⟩] k<0))=(decide (M.rnum 1 [⟨c0,a0⟩] 0<0)):=by simp[List.range_succ,Bool.or_assoc]
 repeat (refine⟨(by first|exact Enc.is_F _ _ _|exact Nat.le_refl _|exact Int.le_refl _|assumption|exact(rowIs_dI _).is|exact p00.is|omega|decide),?_⟩)
 refine⟨fun hb=>?_,fun hb=>?_⟩
 ·unfold M.rcorner;rw[e0,hb];exact nil88
 ·repeat (refine⟨(by first|exact Enc.is_F _ _ _|exact Nat.le_refl _|exact Int.le_refl _|assumption|exact(rowIs_dI _).is|exact p00.is|omega|decide),?_⟩)
  refine⟨fun hb0=>?_,fun hb0=>?_⟩
  ·unfold M.rcorner;rw[e0,hb,ea,n0];simp only[hb0,Bool.true_or,Bool.or_true,Bool.false_or,cond_true,cond_false];exact nil88
  repeat (refine⟨(by first|exact Enc.is_F _ _ _|exact Nat.le_refl _|exact Int.le_refl _|assumption|exact(rowIs_dI _).is|exact p00.is|omega|decide),?_⟩)
  unfold M.rcorner
  rw[e0,hb,ea,n0]
  simp only[hb0,Bool.false_or,cond_false]
  refine⟨⟨rfl,sl_lit (l:=(List.range 1).map (M.rnum 1 [⟨c0,a0⟩])) (fun i hi=>?_),trivial⟩,rfl,trivial⟩
  have hi:i<1:=by simpa using hi
  match i,hi with
  |0,_=>rfl
def tr88_2(q:Bool)(c0 c1:List Int)(a0 a1:Int):T (List Ar):=
  T.needs [(0:Int)≤0,(0:Int)<2,Enc.Is eI c0.length (Enc.F eI c0),c0.length≤1000000,List.length (cI c0)≤List.length (cI c0),(1:Nat)≤1000000,(0:Int)≤1,(1:Int)<2,Enc.Is eI c1.length (Enc.F eI c1),c1.length≤1000000,List.length (cI c1)≤List.length (cI c1),(2:Nat)≤1000000,(1:Nat)≤1,(2:Nat)≤2,(Enc.Is eI (List.length (cI c0)) fun(i x:Nat)=>dI (List.getD (cI c0) i (0:Int))),List.length (cI c0)=2,(Enc.Is eI (List.length (cI c1)) fun(i x:Nat)=>dI (List.getD (cI c1) i (0:Int))),List.length (cI c1)=2] (T.br (M.rdet (2:Nat) [Enc.list eI (List.length (cI c0)) fun(i x:Nat)=>dI (List.getD (cI c0) i (0:Int)),Enc.list eI (List.length (cI c1)) fun(i x:Nat)=>dI (List.getD (cI c1) i (0:Int))]==0) (T.ret [Ar.agg [D.int IntKind.i64 (0:Int),D.sl false (0:Nat) (0:Nat) (fun(_ _:Nat)=>D.nilp)],Ar.c (D.bool false)]) (T.needs [(0:Int)≤0,(0:Int)<2,Enc.Is eI c0.length (Enc.F eI c0),c0.length≤1000000,(0:Int)≤0,(0:Int)<2,(0:Int)≤0,(0:Int)<((cI c0).length:Int),(0:Nat)<List.length (cI c0),List.length (cI c0)≤List.length (cI c0),(1:Nat)≤1000000,(0:Int)≤1,(1:Int)<2,Enc.Is eI c1.length (Enc.F eI c1),c1.length≤1000000,(0:Int)≤1,(1:Int)<2,(0:Int)≤0,(0:Int)<((cI c1).length:Int),(0:Nat)<List.length (cI c1),List.length (cI c1)≤List.length (cI c1),(2:Nat)≤1000000,(1:Nat)≤1,(2:Nat)≤2,(Enc.Is eI (List.length (cI c0)) (putF (0:Nat) (0:Nat) (1:Nat) [D.int IntKind.i64 a0] fun(i x:Nat)=>dI (List.getD (cI c0) i (0:Int)))),List.length (cI c0)=2,(Enc.Is eI (List.length (cI c1)) (putF (0:Nat) (0:Nat) (1:Nat) [D.int IntKind.i64 a1] fun(i x:Nat)=>dI (List.getD (cI c1) i (0:Int)))),List.length (cI c1)=2] (T.br (decide (IntKind.i64.wrap ((bif decide (M.rdet (2:Nat) [Enc.list eI (List.length (cI c0)) fun(i x:Nat)=>dI (List.getD (cI c0) i (0:Int)),Enc.list eI (List.length (cI c1)) fun(i x:Nat)=>dI (List.getD (cI c1) i (0:Int))]<0)then(-1:Int)else(1:Int))*M.rdet (2:Nat) [Enc.list eI (List.length (cI c0)) (putF (0:Nat) (0:Nat) (1:Nat) [D.int IntKind.i64 a0] fun(i x:Nat)=>dI (List.getD (cI c0) i (0:Int))),Enc.list eI (List.length (cI c1)) (putF (0:Nat) (0:Nat) (1:Nat) [D.int IntKind.i64 a1] fun(i x:Nat)=>dI (List.getD (cI c1) i (0:Int)))])<0)) (T.ret [Ar.agg [D.int IntKind.i64 (0:Int),D.sl false (0:Nat) (0:Nat) (fun(_ _:Nat)=>D.nilp)],Ar.c (D.bool false)]) (T.needs [(1:Nat)≤1000000,(0:Int)≤0,(0:Int)<2,Enc.Is eI c0.length (Enc.F eI c0),c0.length≤1000000,(0:Int)≤0,(0:Int)<2,(0:Int)≤1,(1:Int)<((cI c0).length:Int),(1:Nat)<List.length (cI c0),List.length (cI c0)≤List.length (cI c0),(1:Nat)≤1000000,(0:Int)≤1,(1:Int)<2,Enc.Is eI c1.length (Enc.F eI c1),c1.length≤1000000,(0:Int)≤1,(1:Int)<2,(0:Int)≤1,(1:Int)<((cI c1).length:Int),(1:Nat)<List.length (cI c1),List.length (cI c1)≤List.length (cI c1),(2:Nat)≤1000000,(1:Nat)≤1,(2:Nat)≤2,(Enc.Is eI (List.length (cI c0)) (putF (1:Nat) (0:Nat) (1:Nat) [D.int IntKind.i64 a0] fun(i x:Nat)=>dI (List.getD (cI c0) i (0:Int)))),List.length (cI c0)=2,(Enc.Is eI (List.length (cI c1)) (putF (1:Nat) (0:Nat) (1:Nat) [D.int IntKind.i64 a1] fun(i x:Nat)=>dI (List.getD (cI c1) i (0:Int)))),List.length (cI c1)=2] (T.br (decide (IntKind.i64.wrap ((bif decide (M.rdet (2:Nat) [Enc.list eI (List.length (cI c0)) fun(i x:Nat)=>dI (List.getD (cI c0) i (0:Int)),Enc.list eI (List.length (cI c1)) fun(i x:Nat)=>dI (List.getD (cI c1) i (0:Int))]<0)then(-1:Int)else(1:Int))*M.rdet (2:Nat) [Enc.list eI (List.length (cI c0)) (putF (1:Nat) (0:Nat) (1:Nat) [D.int IntKind.i64 a0] fun(i x:Nat)=>dI (List.getD (cI c0) i (0:Int))),Enc.list eI (List.length (cI c1)) (putF (1:Nat) (0:Nat) (1:Nat) [D.int IntKind.i64 a1] fun(i x:Nat)=>dI (List.getD (cI c1) i (0:Int)))])<0)) (T.ret [Ar.agg [D.int IntKind.i64 (0:Int),D.sl false (0:Nat) (0:Nat) (fun(_ _:Nat)=>D.nilp)],Ar.c (D.bool false)]) (T.needs [(2:Nat)≤1000000,(1:Nat)≤1,(2:Nat)≤2] (T.ret [Ar.agg [D.int IntKind.i64 (IntKind.i64.wrap ((bif decide (M.rdet (2:Nat) [Enc.list eI (List.length (cI c0)) fun(i x:Nat)=>dI (List.getD (cI c0) i (0:Int)),Enc.list eI (List.length (cI c1)) fun(i x:Nat)=>dI (List.getD (cI c1) i (0:Int))]<0)then(-1:Int)else(1:Int))*M.rdet (2:Nat) [Enc.list eI (List.length (cI c0)) fun(i x:Nat)=>dI (List.getD (cI c0) i (0:Int)),Enc.list eI (List.length (cI c1)) fun(i x:Nat)=>dI (List.getD (cI c1) i (0:Int))])),D.sl true (2:Nat) (1:Nat) (joinF (1:Nat) (joinF (0:Nat) ((fun(_ _:Nat)=>D.nilp)) fun(i j:Nat)=>List.getD [D.int IntKind.i64 (IntKind.i64.wrap ((bif decide (M.rdet (2:Nat) [Enc.list eI (List.length (cI c0)) fun(i x:Nat)=>dI (List.getD (cI c0) i (0:Int)),Enc.list eI (List.length (cI c1)) fun(i x:Nat)=>dI (List.getD (cI c1) i (0:Int))]<0)then(-1:Int)else(1:Int))*M.rdet (2:Nat) [Enc.list eI (List.length (cI c0)) (putF (0:Nat) (0:Nat) (1:Nat) [D.int IntKind.i64 a0] fun(i x:Nat)=>dI (List.getD (cI c0) i (0:Int))),Enc.list eI (List.length (cI c1)) (putF (0:Nat) (0:Nat) (1:Nat) [D.int IntKind.i64 a1] fun(i x:Nat)=>dI (List.getD (cI c1) i (0:Int)))]))] (i*1+j) D.nilp) fun(i j:Nat)=>List.getD [D.int IntKind.i64 (IntKind.i64.wrap ((bif decide (M.rdet (2:Nat) [Enc.list eI (List.length (cI c0)) fun(i x:Nat)=>dI (List.getD (cI c0) i (0:Int)),Enc.list eI (List.length (cI c1)) fun(i x:Nat)=>dI (List.getD (cI c1) i (0:Int))]<0)then(-1:Int)else(1:Int))*M.rdet (2:Nat) [Enc.list eI (List.length (cI c0)) (putF (1:Nat) (0:Nat) (1:Nat) [D.int IntKind.i64 a0] fun(i x:Nat)=>dI (List.getD (cI c0) i (0:Int))),Enc.list eI (List.length (cI c1)) (putF (1:Nat) (0:Nat) (1:Nat) [D.int IntKind.i64 a1] fun(i x:Nat)=>dI (List.getD (cI c1) i (0:Int)))]))] (i*1+j) D.nilp)],Ar.c (D.bool true)])))))))
theorem t88_2(q:Bool)(c0 c1:List Int)(a0 a1:Int):runFnX Try.prog G0 (lookS [v71r,v184 2]) (fun f=>match f with|156=>[(3000006,[],none),(3000008,[],none),(3000010,[],none),(1000011,[],none),(3000020,[],none),(1000021,[],none)]|88=>[(5000017,[.slot 5 (.int .i64)],none),(3000006,[],none),(3000023,[],none),(3000025,[],none),(1000026,[],none)]|_=>[]) [156] 1 60 6 88 Try.f88 [.c (.sl q 2 2 (eSd.F [⟨c0,a0⟩,⟨c1,a1⟩]))] =
  tr88_2 q c0 c1 a0 a1:=by kernel_rfl
theorem w88_2(q:Bool)(c0 c1:List Int)(a0 a1:Int)(h0:c0.length=2)(h1:c1.length=2):(tr88_2 q c0 c1 a0 a1).wp (fun rs=>rsEqv rs (res88 (M.rcorner 2 [⟨c0,a0⟩,⟨c1,a1⟩]))):=by
 unfold tr88_2
 simp only[Enc.list_F,listD]
 have p00:=putD (l:=c0) (k:=0) (v:=a0) (by omega)
 have p01:=putD (l:=c0) (k:=1) (v:=a0) (by omega)
 have p10:=putD (l:=c1) (k:=0) (v:=a1) (by omega)
 have p11:=putD (l:=c1) (k:=1) (v:=a1) (by omega)
 simp only[p00.eq,p01.eq,p10.eq,p11.eq]
 have e0:M.rdet 2 (M.rmat 2 [⟨c0,a0⟩,⟨c1,a1⟩])=M.rdet 2 [c0,c1]:=rfl
 have n0:M.rnum 2 [⟨c0,a0⟩,⟨c1,a1⟩] 0=IntKind.i64.wrap ((cond (decide (M.rdet 2 [c0,c1]<0)) (-1) 1)*M.rdet 2 [c0.set 0 a0,c1.set 0 a1]):=rfl
 have n1:M.rnum 2 [⟨c0,a0⟩,⟨c1,a1⟩] 1=IntKind.i64.wrap ((cond (decide (M.rdet 2 [c0,c1]<0)) (-1) 1)*M.rdet 2 [c0.set 1 a0,c1.set 1 a1]):=rfl
 have ea:((List.range 2).any fun k=>decide (M.rnum 2 [⟨c0,a0⟩,⟨c1,a1⟩] k<0))=(decide (M.rnum 2 [⟨c0,a0⟩,⟨c1,a1⟩] 0<0)||decide (M.rnum 2 [⟨c0,a0⟩,⟨c1,a1⟩] 1<0)):=by simp[List.range_succ,Bool.or_assoc]
 repeat (refine⟨(by first|exact Enc.is_F _ _ _|exact Nat.le_refl _|exact Int.le_refl _|assumption|exact(rowIs_dI _).is|exact p00.is|exact p01.is|exact p10.is|exact p11.is|omega|decide),?_⟩)
 refine⟨fun hb=>?_,fun hb=>?_⟩
 ·unfold M.rcorner;rw[e0,hb];exact nil88
 ·repeat (refine⟨(by first|exact Enc.is_F _ _ _|exact Nat.le_refl _|exact Int.le_refl _|assumption|exact(rowIs_dI _).is|exact p00.is|exact p01.is|exact p10.is|exact p11.is|omega|decide),?_⟩)
  refine⟨fun hb0=>?_,fun hb0=>?_⟩
  ·unfold M.rcorner;rw[e0,hb,ea,n0,n1];simp only[hb0,Bool.true_or,Bool.or_true,Bool.false_or,cond_true,cond_false];exact nil88
  repeat (refine⟨(by first|exact Enc.is_F _ _ _|exact Nat.le_refl _|exact Int.le_refl _|assumption|exact(rowIs_dI _).is|exact p00.is|exact p01.is|exact p10.is|exact p11.is|omega|decide),?_⟩)
  refine⟨fun hb1=>?_,fun hb1=>?_⟩
  ·unfold M.rcorner;rw[e0,hb,ea,n0,n1];simp only[hb0,hb1,Bool.true_or,Bool.or_true,Bool.false_or,cond_true,cond_false];exact nil88
  repeat (refine⟨(by first|exact Enc.is_F _ _ _|exact Nat.le_refl _|exact Int.le_refl _|assumption|exact(rowIs_dI _).is|exact p00.is|exact p01.is|exact p10.is|exact p11.is|omega|decide),?_⟩)
  unfold M.rcorner
  rw[e0,hb,ea,n0,n1]
  simp only[hb0,hb1,Bool.false_or,cond_false]
  refine⟨⟨rfl,sl_lit (l:=(List.range 2).map (M.rnum 2 [⟨c0,a0⟩,⟨c1,a1⟩])) (fun i hi=>?_),trivial⟩,rfl,trivial⟩
  have hi:i<2:=by simpa using hi
  match i,hi with
  |0,_=>rfl
  |1,_=>rfl
def tr88_3(q:Bool)(c0 c1 c2:List Int)(a0 a1 a2:Int):T (List Ar):=
  T.needs [(0:Int)≤0,(0:Int)<3,Enc.Is eI c0.length (Enc.F eI c0),c0.length≤1000000,List.length (cI c0)≤List.length (cI c0),(1:Nat)≤1000000,(0:Int)≤1,(1:Int)<3,Enc.Is eI c1.length (Enc.F eI c1),c1.length≤1000000,List.length (cI c1)≤List.length (cI c1),(2:Nat)≤1000000,(1:Nat)≤1,(0:Int)≤2,(2:Int)<3,Enc.Is eI c2.length (Enc.F eI c2),c2.length≤1000000,List.length (cI c2)≤List.length (cI c2),(3:Nat)≤1000000,(2:Nat)≤2,(3:Nat)≤3,(Enc.Is eI (List.length (cI c0)) fun(i x:Nat)=>dI (List.getD (cI c0) i (0:Int))),List.length (cI c0)=3,(Enc.Is eI (List.length (cI c1)) fun(i x:Nat)=>dI (List.getD (cI c1) i (0:Int))),List.length (cI c1)=3,(Enc.Is eI (List.length (cI c2)) fun(i x:Nat)=>dI (List.getD (cI c2) i (0:Int))),List.length (cI c2)=3] (T.br (M.rdet (3:Nat) [Enc.list eI (List.length (cI c0)) fun(i x:Nat)=>dI (List.getD (cI c0) i (0:Int)),Enc.list eI (List.length (cI c1)) fun(i x:Nat)=>dI (List.getD (cI c1) i (0:Int)),Enc.list eI (List.length (cI c2)) fun(i x:Nat)=>dI (List.getD (cI c2) i (0:Int))]==0) (T.ret [Ar.agg [D.int IntKind.i64 (0:Int),D.sl false (0:Nat) (0:Nat) (fun(_ _:Nat)=>D.nilp)],Ar.c (D.bool false)]) (T.needs [(0:Int)≤0,(0:Int)<3,Enc.Is eI c0.length (Enc.F eI c0),c0.length≤1000000,(0:Int)≤0,(0:Int)<3,(0:Int)≤0,(0:Int)<((cI c0).length:Int),(0:Nat)<List.length (cI c0),List.length (cI c0)≤List.length (cI c0),(1:Nat)≤1000000,(0:Int)≤1,(1:Int)<3,Enc.Is eI c1.length (Enc.F eI c1),c1.length≤1000000,(0:Int)≤1,(1:Int)<3,(0:Int)≤0,(0:Int)<((cI c1).length:Int),(0:Nat)<List.length (cI c1),List.length (cI c1)≤List.length (cI c1),(2:Nat)≤1000000,(1:Nat)≤1,(0:Int)≤2,(2:Int)<3,Enc.Is eI c2.length (Enc.F eI c2),c2.length≤1000000,(0:Int)≤2,(2:Int)<3,(0:Int)≤0,(0:Int)<((cI c2).length:Int),(0:Nat)<List.length (cI c2),List.length (cI c2)≤List.length (cI c2),(3:Nat)≤1000000,(2:Nat)≤2,(3:Nat)≤3,(Enc.Is eI (List.length (cI c0)) (putF (0:Nat) (0:Nat) (1:Nat) [D.int IntKind.i64 a0] fun(i x:Nat)=>dI (List.getD (cI c0) i (0:Int)))),List.length (cI c0)=3,(Enc.Is eI (List.length (cI c1)) (putF (0:Nat) (0:Nat) (1:Nat) [D.int IntKind.i64 a1] fun(i x:Nat)=>dI (List.getD (cI c1) i (0:Int)))),List.length (cI c1)=3,(Enc.Is eI (List.length (cI c2)) (putF (0:Nat) (0:Nat) (1:Nat) [D.int IntKind.i64 a2] fun(i x:Nat)=>dI (List.getD (cI c2) i (0:Int)))),List.length (cI c2)=3] (T.br (decide (IntKind.i64.wrap ((bif decide (M.rdet (3:Nat) [Enc.list eI (List.length (cI c0)) fun(i x:Nat)=>dI (List.getD (cI c0) i (0:Int)),Enc.list eI (List.length (cI c1)) fun(i x:Nat)=>dI (List.getD (cI c1) i (0:Int)),Enc.list eI (List.length (cI c2)) fun(i x:Nat)=>dI (List.getD (cI c2) i (0:Int))]<0)then(-1:Int)else(1:Int))*M.rdet (3:Nat) [Enc.list eI (List.length (cI c0)) (putF (0:Nat) (0:Nat) (1:Nat) [D.int IntKind.i64 a0] fun(i x:Nat)=>dI (List.getD (cI c0) i (0:Int))),Enc.list eI (List.length (cI c1)) (putF (0:Nat) (0:Nat) (1:Nat) [D.int IntKind.i64 a1] fun(i x:Nat)=>dI (List.getD (cI c1) i (0:Int))),Enc.list eI (List.length (cI c2)) (putF (0:Nat) (0:Nat) (1:Nat) [D.int IntKind.i64 a2] fun(i x:Nat)=>dI (List.getD (cI c2) i (0:Int)))])<0)) (T.ret [Ar.agg [D.int IntKind.i64 (0:Int),D.sl false (0:Nat) (0:Nat) (fun(_ _:Nat)=>D.nilp)],Ar.c (D.bool false)]) (T.needs [(1:Nat)≤1000000,(0:Int)≤0,(0:Int)<3,Enc.Is eI c0.length (Enc.F eI c0),c0.length≤1000000,(0:Int)≤0,(0:Int)<3,(0:Int)≤1,(1:Int)<((cI c0).length:Int),(1:Nat)<List.length (cI c0),List.length (cI c0)≤List.length (cI c0),(1:Nat)≤1000000,(0:Int)≤1,(1:Int)<3,Enc.Is eI c1.length (Enc.F eI c1),c1.length≤1000000,(0:Int)≤1,(1:Int)<3,(0:Int)≤1,(1:Int)<((cI c1).length:Int),(1:Nat)<List.length (cI c1),List.length (cI c1)≤List.length (cI c1),(2:Nat)≤1000000,(1:Nat)≤1,(0:Int)≤2,(2:Int)<3,Enc.Is eI c2.length (Enc.F eI c2),c2.length≤1000000,(0:Int)≤2,(2:Int)<3,(0:Int)≤1,(1:Int)<((cI c2).length:Int),(1:Nat)<List.length (cI c2),List.length (cI c2)≤List.length (cI c2),(3:Nat)≤1000000,(2:Nat)≤2,(3:Nat)≤3,(Enc.Is eI (List.length (cI c0)) (putF (1:Nat) (0:Nat) (1:Nat) [D.int IntKind.i64 a0] fun(i x:Nat)=>dI (List.getD (cI c0) i (0:Int)))),List.length (cI c0)=3,(Enc.Is eI (List.length (cI c1)) (putF (1:Nat) (0:Nat) (1:Nat) [D.int IntKind.i64 a1] fun(i x:Nat)=>dI (List.getD (cI c1) i (0:Int)))),List.length (cI c1)=3,(Enc.Is eI (List.length (cI c2)) (putF (1:Nat) (0:Nat) (1:Nat) [D.int IntKind.i64 a2] fun(i x:Nat)=>dI (List.getD (cI c2) i (0:Int)))),List.length (cI c2)=3] (T.br (decide (IntKind.i64.wrap ((bif decide (M.rdet (3:Nat) [Enc.list eI (List.length (cI c0)) fun(i x:Nat)=>dI (List.getD (cI c0) i (0:Int)),Enc.list eI (List.length (cI c1)) fun(i x:Nat)=>dI (List.getD (cI c1) i (0:Int)),Enc.list eI (List.length (cI c2)) fun(i x:Nat)=>dI (List.getD (cI c2) i (0:Int))]<0)then(-1:Int)else(1:Int))*M.rdet (3:Nat) [Enc.list eI (List.length (cI c0)) (putF (1:Nat) (0:Nat) (1:Nat) [D.int IntKind.i64 a0] fun(i x:Nat)=>dI (List.getD (cI c0) i (0:Int))),Enc.list eI (List.length (cI c1)) (putF (1:Nat) (0:Nat) (1:Nat) [D.int IntKind.i64 a1] fun(i x:Nat)=>dI (List.getD (cI c1) i (0:Int))),Enc.list eI (List.length (cI c2)) (putF (1:Nat) (0:Nat) (1:Nat) [D.int IntKind.i64 a2] fun(i x:Nat)=>dI (List.getD (cI c2) i (0:Int)))])<0)) (T.ret [Ar.agg [D.int IntKind.i64 (0:Int),D.sl false (0:Nat) (0:Nat) (fun(_ _:Nat)=>D.nilp)],Ar.c (D.bool false)]) (T.needs [(2:Nat)≤1000000,(1:Nat)≤1,(0:Int)≤0,(0:Int)<3,Enc.Is eI c0.length (Enc.F eI c0),c0.length≤1000000,(0:Int)≤0,(0:Int)<3,(0:Int)≤2,(2:Int)<((cI c0).length:Int),(2:Nat)<List.length (cI c0),List.length (cI c0)≤List.length (cI c0),(1:Nat)≤1000000,(0:Int)≤1,(1:Int)<3,Enc.Is eI c1.length (Enc.F eI c1),c1.length≤1000000,(0:Int)≤1,(1:Int)<3,(0:Int)≤2,(2:Int)<((cI c1).length:Int),(2:Nat)<List.length (cI c1),List.length (cI c1)≤List.length (cI c1),(2:Nat)≤1000000,(1:Nat)≤1,(0:Int)≤2,(2:Int)<3,Enc.Is eI c2.length (Enc.F eI c2),c2.length≤1000000,(0:Int)≤2,(2:Int)<3,(0:Int)≤2,(2:Int)<((cI c2).length:Int),(2:Nat)<List.length (cI c2),List.length (cI c2)≤List.length (cI c2),(3:Nat)≤1000000,(2:Nat)≤2,(3:Nat)≤3,(Enc.Is eI (List.length (cI c0)) (putF (2:Nat) (0:Nat) (1:Nat) [D.int IntKind.i64 a0] fun(i x:Nat)=>dI (List.getD (cI c0) i (0:Int)))),List.length (cI c0)=3,(Enc.Is eI (List.length (cI c1)) (putF (2:Nat) (0:Nat) (1:Nat) [D.int IntKind.i64 a1] fun(i x:Nat)=>dI (List.getD (cI c1) i (0:Int)))),List.length (cI c1)=3,(Enc.Is eI (List.length (cI c2)) (putF (2:Nat) (0:Nat) (1:Nat) [D.int IntKind.i64 a2] fun(i x:Nat)=>dI (List.getD (cI c2) i (0:Int)))),List.length (cI c2)=3] (T.br (decide (IntKind.i64.wrap ((bif decide (M.rdet (3:Nat) [Enc.list eI (List.length (cI c0)) fun(i x:Nat)=>dI (List.getD (cI c0) i (0:Int)),Enc.list eI (List.length (cI c1)) fun(i x:Nat)=>dI (List.getD (cI c1) i (0:Int)),Enc.list eI (List.length (cI c2)) fun(i x:Nat)=>dI (List.getD (cI c2) i (0:Int))]<0)then(-1:Int)else(1:Int))*M.rdet (3:Nat) [Enc.list eI (List.length (cI c0)) (putF (2:Nat) (0:Nat) (1:Nat) [D.int IntKind.i64 a0] fun(i x:Nat)=>dI (List.getD (cI c0) i (0:Int))),Enc.list eI (List.length (cI c1)) (putF (2:Nat) (0:Nat) (1:Nat) [D.int IntKind.i64 a1] fun(i x:Nat)=>dI (List.getD (cI c1) i (0:Int))),Enc.list eI (List.length (cI c2)) (putF (2:Nat) (0:Nat) (1:Nat) [D.int IntKind.i64 a2] fun(i x:Nat)=>dI (List.getD (cI c2) i (0:Int)))])<0)) (T.ret [Ar.agg [D.int IntKind.i64 (0:Int),D.sl false (0:Nat) (0:Nat) (fun(_ _:Nat)=>D.nilp)],Ar.c (D.bool false)]) (T.needs [(3:Nat)≤1000000,(2:Nat)≤2,(3:Nat)≤3] (T.ret [Ar.agg [D.int IntKind.i64 (IntKind.i64.wrap ((bif decide (M.rdet (3:Nat) [Enc.list eI (List.length (cI c0)) fun(i x:Nat)=>dI (List.getD (cI c0) i (0:Int)),Enc.list eI (List.length (cI c1)) fun(i x:Nat)=>dI (List.getD (cI c1) i (0:Int)),Enc.list eI (List.length (cI c2)) fun(i x:Nat)=>dI (List.getD (cI c2) i (0:Int))]<0)then(-1:Int)else(1:Int))*M.rdet (3:Nat) [Enc.list eI (List.length (cI c0)) fun(i x:Nat)=>dI (List.getD (cI c0) i (0:Int)),Enc.list eI (List.length (cI c1)) fun(i x:Nat)=>dI (List.getD (cI c1) i (0:Int)),Enc.list eI (List.length (cI c2)) fun(i x:Nat)=>dI (List.getD (cI c2) i (0:Int))])),D.sl true (3:Nat) (1:Nat) (joinF (2:Nat) (joinF (1:Nat) (joinF (0:Nat) ((fun(_ _:Nat)=>D.nilp)) fun(i j:Nat)=>List.getD [D.int IntKind.i64 (IntKind.i64.wrap ((bif decide (M.rdet (3:Nat) [Enc.list eI (List.length (cI c0)) fun(i x:Nat)=>dI (List.getD (cI c0) i (0:Int)),Enc.list eI (List.length (cI c1)) fun(i x:Nat)=>dI (List.getD (cI c1) i (0:Int)),Enc.list eI (List.length (cI c2)) fun(i x:Nat)=>dI (List.getD (cI c2) i (0:Int))]<0)then(-1:Int)else(1:Int))*M.rdet (3:Nat) [Enc.list eI (List.length (cI c0)) (putF (0:Nat) (0:Nat) (1:Nat) [D.int IntKind.i64 a0] fun(i x:Nat)=>dI (List.getD (cI c0) i (0:Int))),Enc.list eI (List.length (cI c1)) (putF (0:Nat) (0:Nat) (1:Nat) [D.int IntKind.i64 a1] fun(i x:Nat)=>dI (List.getD (cI c1) i (0:Int))),Enc.list eI (List.length (cI c2)) (putF (0:Nat) (0:Nat) (1:Nat) [D.int IntKind.i64 a2] fun(i x:Nat)=>dI (List.getD (cI c2) i (0:Int)))]))] (i*1+j) D.nilp) fun(i j:Nat)=>List.getD [D.int IntKind.i64 (IntKind.i64.wrap ((bif decide (M.rdet (3:Nat) [Enc.list eI (List.length (cI c0)) fun(i x:Nat)=>dI (List.getD (cI c0) i (0:Int)),Enc.list eI (List.length (cI c1)) fun(i x:Nat)=>dI (List.getD (cI c1) i (0:Int)),Enc.list eI (List.length (cI c2)) fun(i x:Nat)=>dI (List.getD (cI c2) i (0:Int))]<0)then(-1:Int)else(1:Int))*M.rdet (3:Nat) [Enc.list eI (List.length (cI c0)) (putF (1:Nat) (0:Nat) (1:Nat) [D.int IntKind.i64 a0] fun(i x:Nat)=>dI (List.getD (cI c0) i (0:Int))),Enc.list eI (List.length (cI c1)) (putF (1:Nat) (0:Nat) (1:Nat) [D.int IntKind.i64 a1] fun(i x:Nat)=>dI (List.getD (cI c1) i (0:Int))),Enc.list eI (List.length (cI c2)) (putF (1:Nat) (0:Nat) (1:Nat) [D.int IntKind.i64 a2] fun(i x:Nat)=>dI (List.getD (cI c2) i (0:Int)))]))] (i*1+j) D.nilp) fun(i j:Nat)=>List.getD [D.int IntKind.i64 (IntKind.i64.wrap ((bif decide (M.rdet (3:Nat) [Enc.list eI (List.length (cI c0)) fun(i x:Nat)=>dI (List.getD (cI c0) i (0:Int)),Enc.list eI (List.length (cI c1)) fun(i x:Nat)=>dI (List.getD (cI c1) i (0:Int)),Enc.list eI (List.length (cI c2)) fun(i x:Nat)=>dI (List.getD (cI c2) i (0:Int))]<0)then(-1:Int)else(1:Int))*M.rdet (3:Nat) [Enc.list eI (List.length (cI c0)) (putF (2:Nat) (0:Nat) (1:Nat) [D.int IntKind.i64 a0] fun(i x:Nat)=>dI (List.getD (cI c0) i (0:Int))),Enc.list eI (List.length (cI c1)) (putF (2:Nat) (0:Nat) (1:Nat) [D.int IntKind.i64 a1] fun(i x:Nat)=>dI (List.getD (cI c1) i (0:Int))),Enc.list eI (List.length (cI c2)) (putF (2:Nat) (0:Nat) (1:Nat) [D.int IntKind.i64 a2] fun(i x:Nat)=>dI (List.getD (cI c2) i (0:Int)))]))] (i*1+j) D.nilp)],Ar.c (D.bool true)])))))))))
theorem t88_3(q:Bool)(c0 c1 c2:List Int)(a0 a1 a2:Int):runFnX Try.prog G0 (lookS [v71r,v184 3]) (fun f=>match f with|156=>[(3000006,[],none),(3000008,[],none),(3000010,[],none),(1000011,[],none),(3000020,[],none),(1000021,[],none)]|88=>[(5000017,[.slot 5 (.int .i64)],none),(3000006,[],none),(3000023,[],none),(3000025,[],none),(1000026,[],none)]|_=>[]) [156] 1 60 6 88 Try.f88 [.c (.sl q 3 2 (eSd.F [⟨c0,a0⟩,⟨c1,a1⟩,⟨c2,a2⟩]))] =
  tr88_3 q c0 c1 c2 a0 a1 a2:=by kernel_rfl
theorem w88_3(q:Bool)(c0 c1 c2:List Int)(a0 a1 a2:Int)(h0:c0.length=3)(h1:c1.length=3)(h2:c2.length=3):(tr88_3 q c0 c1 c2 a0 a1 a2).wp (fun rs=>rsEqv rs (res88 (M.rcorner 3 [⟨c0,a0⟩,⟨c1,a1⟩,⟨c2,a2⟩]))):=by
 unfold tr88_3
 simp only[Enc.list_F,listD]
 have p00:=putD (l:=c0) (k:=0) (v:=a0) (by omega)
 have p01:=putD (l:=c0) (k:=1) (v:=a0) (by omega)
 have p02:=putD (l:=c0) (k:=2) (v:=a0) (by omega)
 have p10:=putD (l:=c1) (k:=0) (v:=a1) (by omega)
 have p11:=putD (l:=c1) (k:=1) (v:=a1) (by omega)
 have p12:=putD (l:=c1) (k:=2) (v:=a1) (by omega)
 have p20:=putD (l:=c2) (k:=0) (v:=a2) (by omega)
 have p21:=putD (l:=c2) (k:=1) (v:=a2) (by omega)
 have p22:=putD (l:=c2) (k:=2) (v:=a2) (by omega)
 simp only[p00.eq,p01.eq,p02.eq,p10.eq,p11.eq,p12.eq,p20.eq,p21.eq,p22.eq]
 have e0:M.rdet 3 (M.rmat 3 [⟨c0,a0⟩,⟨c1,a1⟩,⟨c2,a2⟩])=M.rdet 3 [c0,c1,c2]:=rfl
 have n0:M.rnum 3 [⟨c0,a0⟩,⟨c1,a1⟩,⟨c2,a2⟩] 0=IntKind.i64.wrap ((cond (decide (M.rdet 3 [c0,c1,c2]<0)) (-1) 1)*M.rdet 3 [c0.set 0 a0,c1.set 0 a1,c2.set 0 a2]):=rfl
 have n1:M.rnum 3 [⟨c0,a0⟩,⟨c1,a1⟩,⟨c2,a2⟩] 1=IntKind.i64.wrap ((cond (decide (M.rdet 3 [c0,c1,c2]<0)) (-1) 1)*M.rdet 3 [c0.set 1 a0,c1.set 1 a1,c2.set 1 a2]):=rfl
 have n2:M.rnum 3 [⟨c0,a0⟩,⟨c1,a1⟩,⟨c2,a2⟩] 2=IntKind.i64.wrap ((cond (decide (M.rdet 3 [c0,c1,c2]<0)) (-1) 1)*M.rdet 3 [c0.set 2 a0,c1.set 2 a1,c2.set 2 a2]):=rfl
 have ea:((List.range 3).any fun k=>decide (M.rnum 3 [⟨c0,a0⟩,⟨c1,a1⟩,⟨c2,a2⟩] k<0))=(decide (M.rnum 3 [⟨c0,a0⟩,⟨c1,a1⟩,⟨c2,a2⟩] 0<0)||decide (M.rnum 3 [⟨c0,a0⟩,⟨c1,a1⟩,⟨c2,a2⟩] 1<0)||decide (M.rnum 3 [⟨c0,a0⟩,⟨c1,a1⟩,⟨c2,a2⟩] 2<0)):=by simp[List.range_succ,Bool.or_assoc]
 repeat (refine⟨(by first|exact Enc.is_F _ _ _|exact Nat.le_refl _|exact Int.le_refl _|assumption|exact(rowIs_dI _).is|exact p00.is|exact p01.is|exact p02.is|exact p10.is|exact p11.is|exact p12.is|exact p20.is|exact p21.is|exact p22.is|omega|decide),?_⟩)
 refine⟨fun hb=>?_,fun hb=>?_⟩
 ·unfold M.rcorner;rw[e0,hb];exact nil88
 ·repeat (refine⟨(by first|exact Enc.is_F _ _ _|exact Nat.le_refl _|exact Int.le_refl _|assumption|exact(rowIs_dI _).is|exact p00.is|exact p01.is|exact p02.is|exact p10.is|exact p11.is|exact p12.is|exact p20.is|exact p21.is|exact p22.is|omega|decide),?_⟩)
  refine⟨fun hb0=>?_,fun hb0=>?_⟩
  ·unfold M.rcorner;rw[e0,hb,ea,n0,n1,n2];simp only[hb0,Bool.true_or,Bool.or_true,Bool.false_or,cond_true,cond_false];exact nil88
  repeat (refine⟨(by first|exact Enc.is_F _ _ _|exact Nat.le_refl _|exact Int.le_refl _|assumption|exact(rowIs_dI _).is|exact p00.is|exact p01.is|exact p02.is|exact p10.is|exact p11.is|exact p12.is|exact p20.is|exact p21.is|exact p22.is|omega|decide),?_⟩)
  refine⟨fun hb1=>?_,fun hb1=>?_⟩
  ·unfold M.rcorner;rw[e0,hb,ea,n0,n1,n2];simp only[hb0,hb1,Bool.true_or,Bool.or_true,Bool.false_or,cond_true,cond_false];exact nil88
  repeat (refine⟨(by first|exact Enc.is_F _ _ _|exact Nat.le_refl _|exact Int.le_refl _|assumption|exact(rowIs_dI _).is|exact p00.is|exact p01.is|exact p02.is|exact p10.is|exact p11.is|exact p12.is|exact p20.is|exact p21.is|exact p22.is|omega|decide),?_⟩)
  refine⟨fun hb2=>?_,fun hb2=>?_⟩
  ·unfold M.rcorner;rw[e0,hb,ea,n0,n1,n2];simp only[hb0,hb1,hb2,Bool.true_or,Bool.or_true,Bool.false_or,cond_true,cond_false];exact nil88
  repeat (refine⟨(by first|exact Enc.is_F _ _ _|exact Nat.le_refl _|exact Int.le_refl _|assumption|exact(rowIs_dI _).is|exact p00.is|exact p01.is|exact p02.is|exact p10.is|exact p11.is|exact p12.is|exact p20.is|exact p21.is|exact p22.is|omega|decide),?_⟩)
  unfold M.rcorner
  rw[e0,hb,ea,n0,n1,n2]
  simp only[hb0,hb1,hb2,Bool.false_or,cond_false]
  refine⟨⟨rfl,sl_lit (l:=(List.range 3).map (M.rnum 3 [⟨c0,a0⟩,⟨c1,a1⟩,⟨c2,a2⟩])) (fun i hi=>?_),trivial⟩,rfl,trivial⟩
  have hi:i<3:=by simpa using hi
  match i,hi with
  |0,_=>rfl
  |1,_=>rfl
  |2,_=>rfl
def dom88:DomF
 |[.c (.sl _ n st F)]=>(match Nat.beq st 2 with
  |true=>some ([eSd.Is n F,1≤n∧n≤3,∀s,s∈eSd.list n F→s.co.length=n],res88 (M.rcorner n (eSd.list n F)))
  |_=>none)
 |_=>none
def v88:Nat×Sm:=(88,fokSm dom88)
theorem C88:FOK Try.prog G0 gw 88 dom88:=by
 intro ags p r hd hp κ w xs hw hl hG hx
 unfold dom88 at hd
 split at hd
 ·rename_i q n st F
  split at hd
  ·rename_i hst
   have hst:=Nat.eq_of_beq_eq_true hst
   subst hst
   simp only[Option.some.injEq,Prod.mk.injEq]at hd
   obtain⟨rfl,rfl⟩:=hd
   obtain⟨hI,⟨hn1,hn3⟩,hco,_⟩:=hp
   have heq:agsEqv [.c (.sl q n 2 F)] [.c (.sl q (eSd.list n F).length 2 (eSd.F (eSd.list n F)))]:=⟨eSd.to id hI,trivial⟩
   have hl':(eSd.list n F).length=n:=Enc.list_len eSd
   rw[hl']at heq
   generalize eSd.list n F=R at *
   obtain rfl|rfl|rfl:n=1∨n=2∨n=3:=by omega
   ·obtain⟨c0,a0,rfl⟩:∃c0 a0,R=[⟨c0,a0⟩]:=by match R,hl' with|[s0],_=>exact⟨s0.co,s0.am,rfl⟩
    exact fokX_fin mixed gw_stable (sl:=[v71r,v184 1]) ⟨S71r,S184_1,trivial⟩ Try.func88 hw hl hG hx heq rfl (t88_1 q c0 a0) (w88_1 q c0 a0 (hco ⟨c0,a0⟩ (by simp)))
   ·obtain⟨c0,a0,c1,a1,rfl⟩:∃c0 a0 c1 a1,R=[⟨c0,a0⟩,⟨c1,a1⟩]:=by match R,hl' with|[s0,s1],_=>exact⟨s0.co,s0.am,s1.co,s1.am,rfl⟩
    exact fokX_fin mixed gw_stable (sl:=[v71r,v184 2]) ⟨S71r,S184_2,trivial⟩ Try.func88 hw hl hG hx heq rfl (t88_2 q c0 c1 a0 a1) (w88_2 q c0 c1 a0 a1 (hco ⟨c0,a0⟩ (by simp)) (hco ⟨c1,a1⟩ (by simp)))
   ·obtain⟨c0,a0,c1,a1,c2,a2,rfl⟩:∃c0 a0 c1 a1 c2 a2,R=[⟨c0,a0⟩,⟨c1,a1⟩,⟨c2,a2⟩]:=by match R,hl' with|[s0,s1,s2],_=>exact⟨s0.co,s0.am,s1.co,s1.am,s2.co,s2.am,rfl⟩
    exact fokX_fin mixed gw_stable (sl:=[v71r,v184 3]) ⟨S71r,S184_3,trivial⟩ Try.func88 hw hl hG hx heq rfl (t88_3 q c0 c1 c2 a0 a1 a2) (w88_3 q c0 c1 c2 a0 a1 a2 (hco ⟨c0,a0⟩ (by simp)) (hco ⟨c1,a1⟩ (by simp)) (hco ⟨c2,a2⟩ (by simp)))
  ·cases hd
 ·cases hd
theorem S88:SumOK Try.prog G0 gw 88 (fokSm dom88):=fok_sum Try.func88 rfl C88
end Go.Pl
end
section
set_option maxRecDepth 100000
namespace Go.Pl
open Go.V Go.Proofs
theorem floor_eq{n d:Int}(hd:0<d):(n.tmod d<0→n.tdiv d-1=n/d)∧(¬n.tmod d<0→n.tdiv d=n/d):=by
 have h1:=Int.emod_nonneg n (show d≠0 by omega)
 have h2:=Int.emod_lt_of_pos n hd
 have e1:=Int.tdiv_eq_ediv (a:=n) (b:=d)
 have e2:=Int.tmod_eq_emod (a:=n) (b:=d)
 by_cases h:0≤n∨d∣n
 ·rw[if_pos h]at e1 e2
  constructor <;>intro <;>omega
 ·rw[if_neg h]at e1 e2
  rw[Int.sign_eq_one_of_pos hd]at e1
  constructor <;>intro <;>omega
theorem ediv_ok{n d:Int}(h:i64ok n):(n/d).natAbs<9223372036854775808:=Nat.lt_of_le_of_lt (Int.natAbs_ediv_le_natAbs n d) h
theorem floorW_big{n b:Int}(hn:i64ok n)(hb:0<b):M.floorW n b=n/b:=by
 have h:=floor_eq (n:=n) hb
 have h2:=ediv_ok (d:=b) hn
 have h3:(n.tdiv b).natAbs≤n.natAbs:=Int.natAbs_tdiv_le_natAbs n b
 unfold i64ok at hn
 unfold M.floorW
 by_cases hm:n.tmod b<0
 ·rw[decide_eq_true hm,cond_true,wrap_id (n:=n.tdiv b) (by omega) (by omega),h.1 hm,wrap_id (by omega) (by omega)]
 ·rw[decide_eq_false hm,cond_false,wrap_id (n:=n.tdiv b) (by omega) (by omega),h.2 hm]
def dom148f:DomF
 |[.c (.int .i64 n),.c (.int .i64 b)]=>some ([0<b,i64ok n],[rI (n/b)])
 |_=>none
def v148f:Nat×Sm:=(148,fokSm dom148f)
theorem C148f:FOK Try.prog G0 gw 148 dom148f:=by
 intro ags p r hd hp κ w xs hw hl hG hx
 unfold dom148f at hd
 split at hd
 ·rename_i n b
  simp only[Option.some.injEq,Prod.mk.injEq]at hd
  obtain⟨rfl,rfl⟩:=hd
  have:=C148 [.c (.int .i64 n),.c (.int .i64 b)] [b≠0] [rI (M.floorW n b)] rfl ⟨by have:=hp.1;omega,trivial⟩ κ w xs hw hl hG hx
  rw[floorW_big hp.2.1 hp.1]at this
  exact this
 ·cases hd
theorem S148f:SumOK Try.prog G0 gw 148 (fokSm dom148f):=fok_sum Try.func148 rfl C148f
namespace M
def cmpX(n d m k:Int):Int:=if n*k<m*d then -1 else if n*k=m*d then 0 else 1
end M
end Go.Pl
end
section
set_option maxRecDepth 100000
namespace Go.Pl
open Go.V Go.Proofs
def tr79(n d m k:Int):T (List Ar):=
  T.loop (Int×Int×Int×Int×PUnit) (n,d,m,k,PUnit.unit) fun(x:Int×Int×Int×Int×PUnit)=>T.needs [(0:Int)<x.2.1,i64ok x.1,(0:Int)<x.2.2.2.1,i64ok x.2.2.1] (T.br (decide (x.1/x.2.1<x.2.2.1/x.2.2.2.1)) (T.ret (Sum.inr [Ar.c (D.int IntKind.i64 (-1:Int))])) (T.br (decide (x.1/x.2.1>x.2.2.1/x.2.2.2.1)) (T.ret (Sum.inr [Ar.c (D.int IntKind.i64 (1:Int))])) (T.br (IntKind.i64.wrap (x.1-IntKind.i64.wrap (x.1/x.2.1*x.2.1))==0) (T.br (IntKind.i64.wrap (x.2.2.1-IntKind.i64.wrap (x.2.2.1/x.2.2.2.1*x.2.2.2.1))==0) (T.ret (Sum.inr [Ar.c (D.int IntKind.i64 (0:Int))])) (T.br (IntKind.i64.wrap (x.1-IntKind.i64.wrap (x.1/x.2.1*x.2.1))==0) (T.ret (Sum.inr [Ar.c (D.int IntKind.i64 (-1:Int))])) (T.br (IntKind.i64.wrap (x.2.2.1-IntKind.i64.wrap (x.2.2.1/x.2.2.2.1*x.2.2.2.1))==0) (T.ret (Sum.inr [Ar.c (D.int IntKind.i64 (1:Int))])) (T.ret (Sum.inl (x.2.2.2.1,IntKind.i64.wrap (x.2.2.1-IntKind.i64.wrap (x.2.2.1/x.2.2.2.1*x.2.2.2.1)),x.2.1,IntKind.i64.wrap (x.1-IntKind.i64.wrap (x.1/x.2.1*x.2.1)),PUnit.unit)))))) (T.br (IntKind.i64.wrap (x.1-IntKind.i64.wrap (x.1/x.2.1*x.2.1))==0) (T.ret (Sum.inr [Ar.c (D.int IntKind.i64 (-1:Int))])) (T.br (IntKind.i64.wrap (x.2.2.1-IntKind.i64.wrap (x.2.2.1/x.2.2.2.1*x.2.2.2.1))==0) (T.ret (Sum.inr [Ar.c (D.int IntKind.i64 (1:Int))])) (T.ret (Sum.inl (x.2.2.2.1,IntKind.i64.wrap (x.2.2.1-IntKind.i64.wrap (x.2.2.1/x.2.2.2.1*x.2.2.2.1)),x.2.1,IntKind.i64.wrap (x.1-IntKind.i64.wrap (x.1/x.2.1*x.2.1)),PUnit.unit))))))))
theorem t79(n d m k:Int):runFnX Try.prog G0 (lookS [v148f]) (fun _=>[(1,[.slot 0 (.int .i64),.slot 1 (.int .i64),.slot 2 (.int .i64),.slot 3 (.int .i64)],none)]) [] 1 20 3 79 Try.f79 [.c (dI n),.c (dI d),.c (dI m),.c (dI k)] =
  tr79 n d m k:=by kernel_rfl
theorem wrap_emod{n d:Int}(hd:0<d)(h:i64ok d):IntKind.i64.wrap (n-IntKind.i64.wrap (n/d*d))=n%d:=by
 have h0:=Int.emod_nonneg n (show d≠0 by omega)
 have h1:=Int.emod_lt_of_pos n hd
 have h2:=Int.mul_ediv_add_emod n d
 rw[Int.mul_comm]at h2
 have e:IntKind.i64.wrap (n-IntKind.i64.wrap (n/d*d))=IntKind.i64.wrap (n-n/d*d):=by simp only[IntKind.wrap_i64];omega
 rw[e,show n-n/d*d=n%d by omega]
 unfold i64ok at h
 exact wrap_id (by omega) (by omega)
theorem cmpX_lt{n d m k:Int}(hd:0<d)(hk:0<k)(h:n/d<m/k):M.cmpX n d m k= -1:=by
 have h1:=Int.mul_ediv_add_emod n d
 have h2:=Int.mul_ediv_add_emod m k
 have r1:=Int.emod_lt_of_pos n hd
 have r2:=Int.emod_nonneg m (show k≠0 by omega)
 have a1:d*(n/d+1)≤d*(m/k):=Int.mul_le_mul_of_nonneg_left (by omega) (by omega)
 rw[Int.mul_add,Int.mul_one]at a1
 have a2:n<d*(m/k):=by omega
 have a3:n*k<d*(m/k)*k:=Int.mul_lt_mul_of_pos_right a2 hk
 have a4:(k*(m/k))*d≤m*d:=Int.mul_le_mul_of_nonneg_right (by omega) (by omega)
 have a5:d*(m/k)*k=(k*(m/k))*d:=by rw[Int.mul_comm k,Int.mul_comm d,Int.mul_assoc,Int.mul_assoc,Int.mul_comm d k]
 unfold M.cmpX
 rw[if_pos (by omega)]
theorem cmpX_swap(n d m k:Int):M.cmpX m k n d= - M.cmpX n d m k:=by
 unfold M.cmpX
 by_cases h1:n*k<m*d
 ·rw[if_pos h1,if_neg (by omega),if_neg (by omega)]
  rfl
 ·rw[if_neg h1]
  by_cases h2:n*k=m*d
  ·rw[if_pos h2,if_neg (by omega),if_pos h2.symm];rfl
  ·rw[if_neg h2,if_pos (by omega)]
theorem cmpX_rest{n d m k:Int}(h:n/d=m/k):M.cmpX n d m k=M.cmpX (n%d) d (m%k) k:=by
 have h1:=Int.mul_ediv_add_emod n d
 have h2:=Int.mul_ediv_add_emod m k
 have e1:n*k=d*(n/d)*k+n%d*k:=by rw[←Int.add_mul,h1]
 have e2:m*d=d*(n/d)*k+m%k*d:=by
  rw[h]
  have:d*(m/k)*k=k*(m/k)*d:=by rw[Int.mul_comm k,Int.mul_comm d,Int.mul_assoc,Int.mul_assoc,Int.mul_comm d k]
  rw[this,←Int.add_mul,h2]
 unfold M.cmpX
 rw[e1,e2]
 by_cases h1:n%d*k<m%k*d
 ·rw[if_pos h1,if_pos (by omega)]
 ·rw[if_neg h1,if_neg (by omega)]
  by_cases h2:n%d*k=m%k*d
  ·rw[if_pos h2,if_pos (by omega)]
  ·rw[if_neg h2,if_neg (by omega)]
theorem cmpX_turn(r d t k:Int):M.cmpX k t d r=M.cmpX r d t k:=by
 unfold M.cmpX
 rw[Int.mul_comm k r,Int.mul_comm d t]
theorem w79{n d m k:Int}(hd:0<d)(hk:0<k)(h1:i64ok n)(h2:i64ok d)(h3:i64ok m)(h4:i64ok k):(tr79 n d m k).wp (fun rs=>rsEqv rs [rI (M.cmpX n d m k)]):=by
 unfold tr79
 refine⟨fun x=>0<x.2.1∧0<x.2.2.2.1∧i64ok x.1∧i64ok x.2.1∧i64ok x.2.2.1∧i64ok x.2.2.2.1∧M.cmpX x.1 x.2.1 x.2.2.1 x.2.2.2.1=M.cmpX n d m k,fun x=>(x.2.1+x.2.2.2.1).toNat,⟨hd,hk,h1,h2,h3,h4,rfl⟩,?_⟩
 rintro ⟨a,b,c,e,u⟩ ⟨g1,g2,g3,g4,g5,g6,g7⟩
 simp only at g1 g2 g3 g4 g5 g6 g7
 have ra0:=Int.emod_nonneg a (show b≠0 by omega)
 have ra1:=Int.emod_lt_of_pos a g1
 have rc0:=Int.emod_nonneg c (show e≠0 by omega)
 have rc1:=Int.emod_lt_of_pos c g2
 have hwa:IntKind.i64.wrap (a-IntKind.i64.wrap (a/b*b))=a%b:=wrap_emod g1 g4
 have hwc:IntKind.i64.wrap (c-IntKind.i64.wrap (c/e*e))=c%e:=wrap_emod g2 g6
 simp only[hwa,hwc]
 refine⟨g1,g3,g2,g5,fun hb=>?_,fun hb=>?_⟩
 ·have hb:=of_decide_eq_true hb
  rw[←g7,cmpX_lt g1 g2 hb];exact rsEqv_refl _
 have hb:=of_decide_eq_false hb
 refine⟨fun hc=>?_,fun hc=>?_⟩
 ·have hc:=of_decide_eq_true hc
  rw[←g7,cmpX_swap c e a b,cmpX_lt g2 g1 hc];exact rsEqv_refl _
 have hc:=of_decide_eq_false hc
 have hr:=cmpX_rest (show a/b=c/e by omega)
 have zero:a%b=0→c%e≠0→M.cmpX n d m k= -1:=by
  intro e1 e2
  have:=Int.mul_pos (show 0<c%e by omega) g1
  rw[←g7,hr,e1];unfold M.cmpX;rw[Int.zero_mul,if_pos this]
 have one:c%e=0→a%b≠0→M.cmpX n d m k=1:=by
  intro e1 e2
  have:=Int.mul_pos (show 0<a%b by omega) g2
  rw[←g7,hr,e1];unfold M.cmpX;rw[Int.zero_mul,if_neg (by omega),if_neg (by omega)]
 have nxt:a%b≠0→c%e≠0→(0<c%e∧0<a%b∧i64ok e∧i64ok (c%e)∧i64ok b∧i64ok (a%b)∧M.cmpX e (c%e) b (a%b)=M.cmpX n d m k)∧(c%e+a%b).toNat<(b+e).toNat:=by
  intro e1 e2
  refine⟨⟨by omega,by omega,g6,by unfold i64ok at *;omega,g4,by unfold i64ok at *;omega,?_⟩,by omega⟩
  rw[cmpX_turn,←hr,g7]
 refine⟨fun hx=>?_,fun hx=>?_⟩
 ·have hx:=eq_of_beq hx
  refine⟨fun hy=>?_,fun hy=>?_⟩
  ·have hy:=eq_of_beq hy
   have:M.cmpX n d m k=0:=by rw[←g7,hr,hx,hy];unfold M.cmpX;rw[Int.zero_mul,Int.zero_mul];rfl
   rw[this];exact rsEqv_refl _
  ·have hy:c%e≠0:=by intro e9;rw[e9]at hy;exact absurd hy (by decide)
   refine⟨fun hz=>?_,fun hz=>?_⟩
   ·rw[zero hx hy];exact rsEqv_refl _
   ·rw[hx]at hz;exact absurd hz (by decide)
 ·have hx:a%b≠0:=by intro e9;rw[e9]at hx;exact absurd hx (by decide)
  refine⟨fun hz=>absurd (eq_of_beq hz) hx,fun hz=>⟨fun hy=>?_,fun hy=>?_⟩⟩
  ·rw[one (eq_of_beq hy) hx];exact rsEqv_refl _
  ·have hy:c%e≠0:=by intro e9;rw[e9]at hy;exact absurd hy (by decide)
   exact nxt hx hy
def dom79:DomF
 |[.c (.int .i64 n),.c (.int .i64 d),.c (.int .i64 m),.c (.int .i64 k)]=>some ([0<d,0<k,i64ok n,i64ok d,i64ok m,i64ok k],[rI (M.cmpX n d m k)])
 |_=>none
def v79:Nat×Sm:=(79,fokSm dom79)
theorem C79:FOK Try.prog G0 gw 79 dom79:=by
 intro ags p r hd hp κ w xs hw hl hG hx
 unfold dom79 at hd
 split at hd
 ·rename_i n d m k
  simp only[Option.some.injEq,Prod.mk.injEq]at hd
  obtain⟨rfl,rfl⟩:=hd
  have heq:agsEqv [.c (.int .i64 n),.c (.int .i64 d),.c (.int .i64 m),.c (.int .i64 k)] [.c (.int .i64 n),.c (.int .i64 d),.c (.int .i64 m),.c (.int .i64 k)]:=⟨Ag.eqv_refl _,Ag.eqv_refl _,Ag.eqv_refl _,Ag.eqv_refl _,trivial⟩
  exact fokX_fin mixed gw_stable (sl:=[v148f]) ⟨S148f,trivial⟩ Try.func79 hw hl hG hx heq rfl (t79 n d m k) (w79 hp.1 hp.2.1 hp.2.2.1 hp.2.2.2.1 hp.2.2.2.2.1 hp.2.2.2.2.2.1)
 ·cases hd
theorem S79:SumOK Try.prog G0 gw 79 (fokSm dom79):=fok_sum Try.func79 rfl C79
end Go.Pl
end
section
set_option maxRecDepth 100000
namespace Go.Pl
open Go.V Go.Proofs
namespace M
def nxt(c:List Int):Nat:=cond (decide (0<c.length)) ((c.getD (c.length-1) 0).toNat+1) 0
def ord(L:Nat):Nat→List Int→List (List Int)
 |0,c=>[c]
 |k+1,c=>((List.range (L-nxt c)).reverse).flatMap fun i=>ord L k (c++ [((nxt c+i:Nat):Int)])
def pickS(S:List Side)(c:List Int):List Side:=c.map fun i=>S.getD i.toNat dfSd
abbrev Gr:=Int×Int×Bool
def betterG(S:List Side)(mo ga:List Int)(de:List Dem)(a:Gr)(c:List Int):Gr:=
 cond (!(rcorner c.length (pickS S c)).2.2) a
  (cond (allowE mo de (rcorner c.length (pickS S c)).1 (rcorner c.length (pickS S c)).2.1 != 0) a
   (cond (!a.2.2) (dot ga (rcorner c.length (pickS S c)).2.1,(rcorner c.length (pickS S c)).1,true)
    (cond (decide (cmpX (dot ga (rcorner c.length (pickS S c)).2.1) (rcorner c.length (pickS S c)).1 a.1 a.2.1>0)) (dot ga (rcorner c.length (pickS S c)).2.1,(rcorner c.length (pickS S c)).1,true) a)))
def greatG(mo ga:List Int)(de:List Dem):Gr:=(ord (sides mo de).length mo.length []).foldl (betterG (sides mo de) mo ga de) (0,1,false)
end M
def GoodC(n L:Nat)(c:List Int):Prop:=c.length≤n∧∀v,v∈c→0≤v∧v<(L:Int)
def wtC(n L:Nat)(st:List (List Int)):Nat:=(st.map fun c=>(L+1)^(n+1-c.length)).sum
theorem wtC_app{n L:Nat}{a b:List (List Int)}:wtC n L (a++b)=wtC n L a+wtC n L b:=by simp[wtC]
theorem wtC_one{n L:Nat}{c:List Int}:wtC n L [c]=(L+1)^(n+1-c.length):=by simp[wtC]
theorem len_wtC{n L:Nat}:∀{st:List (List Int)},st.length≤wtC n L st
 |[]=>Nat.le_refl _
 |c::st=>by
  have ih:=len_wtC (n:=n) (L:=L) (st:=st)
  have:0<(L+1)^(n+1-c.length):=Nat.pow_pos (by omega)
  simp only[wtC,List.map_cons,List.sum_cons,List.length_cons]at ih ⊢
  omega
theorem sum_const{α:Type}{f:α→Nat}{p:Nat}:∀{l:List α},(∀x,x∈l→f x=p)→(l.map f).sum=l.length*p
 |[],_=>by simp
 |x::l,h=>by
  rw[List.map_cons,List.sum_cons,sum_const fun y hy=>h y (List.mem_cons_of_mem _ hy),h x (by simp),List.length_cons,Nat.add_mul];omega
theorem wtC_push{n L:Nat}{c:List Int}(h:c.length<n)(j:Nat):wtC n L ((List.range (L-j)).map fun i=>c++ [((j+i:Nat):Int)])<(L+1)^(n+1-c.length):=by
 have e:wtC n L ((List.range (L-j)).map fun i=>c++ [((j+i:Nat):Int)])=(L-j)*(L+1)^(n-c.length):=by
  unfold wtC
  rw[List.map_map,sum_const (p:=(L+1)^(n-c.length)),List.length_range]
  intro i _
  simp only[Function.comp,List.length_append,List.length_singleton]
  congr 1;omega
 rw[e,show n+1-c.length=(n-c.length)+1 by omega,Nat.pow_succ]
 have hp:0<(L+1)^(n-c.length):=Nat.pow_pos (by omega)
 have h1:(L-j)*(L+1)^(n-c.length)≤L*(L+1)^(n-c.length):=Nat.mul_le_mul_right _ (by omega)
 have h2:(L+1)^(n-c.length)*(L+1)=L*(L+1)^(n-c.length)+(L+1)^(n-c.length):=by rw[Nat.mul_comm,Nat.add_mul,Nat.one_mul]
 omega
theorem list_cut{α:Type}{E:Enc α}{a b:List α}:E.list a.length (E.F (a++b))=a:=by
 apply List.ext_getElem
 ·simp[Enc.list]
 ·intro i h1 h2
  simp[Enc.list,Enc.F,E.law,h2,List.getElem?_append_left h2]
def ordS(n L:Nat)(st:List (List Int)):List (List Int):=st.reverse.flatMap fun c=>M.ord L (n-c.length) c
theorem ordS_push{n L:Nat}{st:List (List Int)}{c:List Int}(h:c.length<n):ordS n L (st++(List.range (L-M.nxt c)).map fun i=>c++ [((M.nxt c+i:Nat):Int)])=ordS n L (st++ [c]):=by
 unfold ordS
 rw[List.reverse_append,List.reverse_append,List.flatMap_append,List.flatMap_append]
 congr 1
 obtain⟨k,hk⟩:∃k,n-c.length=k+1:=⟨n-c.length-1,by omega⟩
 rw[List.reverse_singleton,List.flatMap_singleton,hk,M.ord,←List.map_reverse,List.flatMap_map]
 congr 1
 funext i
 simp only[List.length_append,List.length_singleton]
 rw[show n-(c.length+1)=k by omega]
theorem ordS_full{n L:Nat}{st:List (List Int)}{c:List Int}(h:c.length=n):ordS n L (st++ [c])=c::ordS n L st:=by
 unfold ordS
 rw[List.reverse_append,List.flatMap_append,List.reverse_singleton,List.flatMap_singleton,h,Nat.sub_self]
 rfl
theorem goodC_push{n L:Nat}{c:List Int}(h:c.length<n)(hc:GoodC n L c){d:List Int}(hd:d∈(List.range (L-M.nxt c)).map fun i=>c++ [((M.nxt c+i:Nat):Int)]):GoodC n L d:=by
 obtain⟨i,hi,rfl⟩:=List.mem_map.1 hd
 rw[List.mem_range]at hi
 refine⟨by simp;omega,fun v hv=>?_⟩
 rcases List.mem_append.1 hv with hv|hv
 ·exact hc.2 v hv
 ·rw[List.mem_singleton]at hv;subst hv;omega
theorem row_one(v:Int):RowIs eI 1 (fun(i j:Nat)=>List.getD [dI v] (i*1+j) D.nilp) [v]:=by
 refine⟨fun i j hi hj=>?_,rfl⟩
 have hj:j<1:=hj
 obtain rfl:i=0:=by omega
 obtain rfl:j=0:=by omega
 exact D.eqv_refl _
theorem row_oneR{len:Nat}{F:Nat→Nat→D}{l:List Int}(h:RowIs eI len F l):RowIs eR 1 (fun(i j:Nat)=>List.getD [D.sl true len 1 F] (i*1+j) D.nilp) [l]:=by
 refine⟨fun i j hi hj=>?_,?_⟩
 ·have hj:j<1:=hj
  obtain rfl:i=0:=by omega
  obtain rfl:j=0:=by omega
  exact eI.to (fun e=>by cases e) h.is
 ·show[eI.list len F]=[l]
  rw[h.eq]
theorem row_nil:RowIs eR 1 (fun(i j:Nat)=>List.getD [D.sl true 0 0 fun(_ _:Nat)=>D.nilp] (i*1+j) D.nilp) [[]]:=by
 refine⟨fun i j hi hj=>?_,rfl⟩
 have hj:j<1:=hj
 obtain rfl:i=0:=by omega
 obtain rfl:j=0:=by omega
 exact⟨(fun e=>by cases e),rfl,(fun h=>absurd h (Nat.lt_irrefl 0)),fun i j hi=>absurd hi (Nat.not_lt_zero i)⟩
end Go.Pl
end
section
set_option maxRecDepth 100000
namespace Go.Pl
open Go.V Go.Proofs
abbrev GX:Type:=List (List Int)×Int×Int×Bool×PUnit
def lsx(x:GX):Int:=IntKind.i64.wrap ((x.1.length:Int)-1)
def tpx(x:GX):Nat:=Int.toNat (lsx x)
def topx(x:GX):List Int:=List.getD x.1 (tpx x) []
def butx(x:GX):List (List Int):=Enc.list eR (tpx x) (Enc.F eR x.1)
abbrev sdx(mo:List Int)(de:List Dem):List Side:=M.sides (cI mo) (cD de)
abbrev cny(y:Int×List Side×PUnit):Int×List Int×Bool:=M.rcorner (List.length (Prod.fst (Prod.snd y))) (Enc.list eSd (List.length (Prod.fst (Prod.snd y))) (Enc.F eSd (Prod.fst (Prod.snd y))))
def pushB(L:Nat)(top:List Int)(x:GX)(x_1:Int×List (List Int)×PUnit):T ((Int×List (List Int)×PUnit) ⊕ (GX ⊕ List Ar)):=
  T.br (decide (x_1.1<(Nat.cast (R:=Int) (L)))) (T.needs [Enc.Is eI top.length (Enc.F eI top),top.length≤1000000,List.length (cI top)+1≤1000000,List.length (cI top)≤List.length (cI top),List.length (cI top)+1≤List.length (cI top)+1,x_1.2.1.length+1≤1000000,x_1.2.1.length≤x_1.2.1.length,(Enc.Is eR (x_1.2.1.length+1) (joinF x_1.2.1.length (Enc.F eR x_1.2.1) fun(i j:Nat)=>List.getD [D.sl true (List.length (cI top)+1) (1:Nat) (joinF (List.length (cI top)) (fun(i x_2:Nat)=>dI (List.getD (cI top) i (0:Int))) fun(i j:Nat)=>List.getD [D.int IntKind.i64 x_1.1] (i*1+j) D.nilp)] (i*1+j) D.nilp)),x_1.2.1.length+1≤x_1.2.1.length+1] (T.ret (Sum.inl (IntKind.i64.wrap (x_1.1+1),Enc.list eR (x_1.2.1.length+1) (joinF x_1.2.1.length (Enc.F eR x_1.2.1) fun(i j:Nat)=>List.getD [D.sl true (List.length (cI top)+1) (1:Nat) (joinF (List.length (cI top)) (fun(i x_2:Nat)=>dI (List.getD (cI top) i (0:Int))) fun(i j:Nat)=>List.getD [D.int IntKind.i64 x_1.1] (i*1+j) D.nilp)] (i*1+j) D.nilp),PUnit.unit)))) (T.need (Enc.Is eR x_1.2.1.length (Enc.F eR x_1.2.1)) (T.need (x_1.2.1.length≤x_1.2.1.length) (T.ret (Sum.inr (Sum.inl (Enc.list eR x_1.2.1.length (Enc.F eR x_1.2.1),x.2.1,x.2.2.1,x.2.2.2.1,PUnit.unit))))))
def tryA(mo:List Int)(de:List Dem)(top:List Int)(x_1:Int×PUnit×PUnit):T (((Int×PUnit×PUnit) ⊕ (Int×List Side×PUnit)) ⊕ (GX ⊕ List Ar)):=
  T.br (decide (x_1.1<(top.length:Int))) (T.needs [(0:Int)≤x_1.1,x_1.1<(top.length:Int),(0:Int)≤top.getD x_1.1.toNat (0:Int),top.getD x_1.1.toNat (0:Int)<((sdx mo de).length:Int),(1:Nat)≤1000000,(Enc.Is eSd (1:Nat) (joinF (0:Nat) (fun(_ _:Nat)=>D.nilp) fun(i j:Nat)=>List.getD [D.sl false (List.length (Side.co (List.getD (sdx mo de) (Int.toNat (top.getD x_1.1.toNat (0:Int))) dfSd))) (1:Nat) (Enc.F eI (Side.co (List.getD (sdx mo de) (Int.toNat (top.getD x_1.1.toNat (0:Int))) dfSd))),D.int IntKind.i64 (Side.am (List.getD (sdx mo de) (Int.toNat (top.getD x_1.1.toNat (0:Int))) dfSd))] (i*2+j) D.nilp)),(1:Nat)≤1] (T.ret (Sum.inl (Sum.inr (IntKind.i64.wrap (x_1.1+1),Enc.list eSd (1:Nat) (joinF (0:Nat) (fun(_ _:Nat)=>D.nilp) fun(i j:Nat)=>List.getD [D.sl false (List.length (Side.co (List.getD (sdx mo de) (Int.toNat (top.getD x_1.1.toNat (0:Int))) dfSd))) (1:Nat) (Enc.F eI (Side.co (List.getD (sdx mo de) (Int.toNat (top.getD x_1.1.toNat (0:Int))) dfSd))),D.int IntKind.i64 (Side.am (List.getD (sdx mo de) (Int.toNat (top.getD x_1.1.toNat (0:Int))) dfSd))] (i*2+j) D.nilp),PUnit.unit))))) T.fail
def tryB(mo ga:List Int)(de:List Dem)(top:List Int)(x:GX)(y:Int×List Side×PUnit):T (((Int×PUnit×PUnit) ⊕ (Int×List Side×PUnit)) ⊕ (GX ⊕ List Ar)):=
  T.br (decide (y.1<(top.length:Int))) (T.needs [(0:Int)≤y.1,y.1<(top.length:Int),(0:Int)≤top.getD y.1.toNat (0:Int),top.getD y.1.toNat (0:Int)<((sdx mo de).length:Int),y.2.1.length+1≤1000000,y.2.1.length≤y.2.1.length,(Enc.Is eSd (y.2.1.length+1) (joinF y.2.1.length (Enc.F eSd y.2.1) fun(i j:Nat)=>List.getD [D.sl false (List.length (Side.co (List.getD (sdx mo de) (Int.toNat (top.getD y.1.toNat (0:Int))) dfSd))) (1:Nat) (Enc.F eI (Side.co (List.getD (sdx mo de) (Int.toNat (top.getD y.1.toNat (0:Int))) dfSd))),D.int IntKind.i64 (Side.am (List.getD (sdx mo de) (Int.toNat (top.getD y.1.toNat (0:Int))) dfSd))] (i*2+j) D.nilp)),y.2.1.length+1≤y.2.1.length+1] (T.ret (Sum.inl (Sum.inr (IntKind.i64.wrap (y.1+1),Enc.list eSd (y.2.1.length+1) (joinF y.2.1.length (Enc.F eSd y.2.1) fun(i j:Nat)=>List.getD [D.sl false (List.length (Side.co (List.getD (sdx mo de) (Int.toNat (top.getD y.1.toNat (0:Int))) dfSd))) (1:Nat) (Enc.F eI (Side.co (List.getD (sdx mo de) (Int.toNat (top.getD y.1.toNat (0:Int))) dfSd))),D.int IntKind.i64 (Side.am (List.getD (sdx mo de) (Int.toNat (top.getD y.1.toNat (0:Int))) dfSd))] (i*2+j) D.nilp),PUnit.unit))))) (T.needs [y.2.1.length≤y.2.1.length,Enc.Is eSd y.2.1.length (Enc.F eSd y.2.1),((1:Nat)≤y.2.1.length∧y.2.1.length≤3),(∀(s:Side),s∈Enc.list eSd y.2.1.length (Enc.F eSd y.2.1)→List.length (Side.co s)=y.2.1.length)] (T.br (!Prod.snd (Prod.snd (cny y))) (T.need (Enc.Is eR (tpx x) (Enc.F eR x.1)) (T.need (tpx x≤x.1.length) (T.ret (Sum.inr (Sum.inl ((butx x),x.2.1,x.2.2.1,x.2.2.2.1,PUnit.unit)))))) (T.needs [Enc.Is eI mo.length (Enc.F eI mo),Enc.Is eI ga.length (Enc.F eI ga),Enc.Is eDm de.length (Enc.F eDm de),Enc.Is eI (List.length (Prod.fst (Prod.snd (cny y)))) (Enc.F eI (Prod.fst (Prod.snd (cny y)))),List.length (cI mo)≤1000000,List.length (cD de)≤1000000,List.length (cI mo)≤List.length (cI (Prod.fst (Prod.snd (cny y)))),(∀(d:Dem),d∈(cD de)→List.length (Dem.co d)≤1000000∧List.length (Dem.co d)≤List.length (cI (Prod.fst (Prod.snd (cny y)))))] (T.br (M.allowE (cI mo) (cD de) (Prod.fst (cny y)) (cI (Prod.fst (Prod.snd (cny y)))) != (0:Int)) (T.need (Enc.Is eR (tpx x) (Enc.F eR x.1)) (T.need (tpx x≤x.1.length) (T.ret (Sum.inr (Sum.inl ((butx x),x.2.1,x.2.2.1,x.2.2.2.1,PUnit.unit)))))) (T.needs [Enc.Is eI ga.length (Enc.F eI ga),Enc.Is eI (List.length (Prod.fst (Prod.snd (cny y)))) (Enc.F eI (Prod.fst (Prod.snd (cny y)))),List.length (cI ga)≤1000000,List.length (cI ga)≤List.length (cI (Prod.fst (Prod.snd (cny y))))] (T.br (!x.2.2.2.1) (T.need (Enc.Is eR (tpx x) (Enc.F eR x.1)) (T.need (tpx x≤x.1.length) (T.ret (Sum.inr (Sum.inl ((butx x),M.dot (cI ga) (cI (Prod.fst (Prod.snd (cny y)))),Prod.fst (cny y),true,PUnit.unit)))))) (T.needs [(0:Int)<Prod.fst (cny y),(0:Int)<x.2.2.1,i64ok (M.dot (cI ga) (cI (Prod.fst (Prod.snd (cny y))))),i64ok (Prod.fst (cny y)),i64ok x.2.1,i64ok x.2.2.1] (T.br (decide (M.cmpX (M.dot (cI ga) (cI (Prod.fst (Prod.snd (cny y))))) (Prod.fst (cny y)) x.2.1 x.2.2.1>(0:Int))) (T.need (Enc.Is eR (tpx x) (Enc.F eR x.1)) (T.need (tpx x≤x.1.length) (T.ret (Sum.inr (Sum.inl ((butx x),M.dot (cI ga) (cI (Prod.fst (Prod.snd (cny y)))),Prod.fst (cny y),true,PUnit.unit)))))) (T.need (Enc.Is eR (tpx x) (Enc.F eR x.1)) (T.need (tpx x≤x.1.length) (T.ret (Sum.inr (Sum.inl ((butx x),x.2.1,x.2.2.1,x.2.2.2.1,PUnit.unit))))))))))))))
def vNoRest:Nat×Sm:=(2,fokSm fun _=>none)
def tr20(q_mo:Bool)(mo:List Int)(q_ga:Bool)(ga:List Int)(q_de:Bool)(de:List Dem):T (List Ar):=
  T.needs [Enc.Is eI mo.length (Enc.F eI mo),Enc.Is eI ga.length (Enc.F eI ga),Enc.Is eDm de.length (Enc.F eDm de),List.length (cI mo)≤1000,List.length (cD de)≤1000,(0:Nat)<List.length (cI mo),(Enc.Is eR (1:Nat) fun(i j:Nat)=>List.getD [D.sl true (0:Nat) (0:Nat) fun(_ _:Nat)=>D.nilp] (i*1+j) D.nilp)] (T.loop (List (List Int)×Int×Int×Bool×PUnit) (Enc.list eR (1:Nat) fun(i j:Nat)=>List.getD [D.sl true (0:Nat) (0:Nat) fun(_ _:Nat)=>D.nilp] (i*1+j) D.nilp,(0:Int),(1:Int),false,PUnit.unit) fun(x:List (List Int)×Int×Int×Bool×PUnit)=>T.br (decide ((x.1.length:Int)>(0:Int))) (T.needs [(0:Int)≤lsx x,lsx x<(x.1.length:Int),tpx x<x.1.length,(0:Int)≤lsx x,lsx x≤(x.1.length:Int)] (T.br (decide (((topx x).length:Int)<(mo.length:Int))) (T.br (decide (((topx x).length:Int)>(0:Int))) (T.needs [(0:Int)≤IntKind.i64.wrap (((topx x).length:Int)-1),IntKind.i64.wrap (((topx x).length:Int)-1)<((topx x).length:Int),Enc.Is eR (tpx x) (Enc.F eR x.1),tpx x≤x.1.length] (T.loop (Int×List (List Int)×PUnit) (IntKind.i64.wrap (List.getD (topx x) (Int.toNat (IntKind.i64.wrap (((topx x).length:Int)-1))) (0:Int)+1),(butx x),PUnit.unit) (pushB (List.length (sdx mo de)) (topx x) x))) (T.need (Enc.Is eR (tpx x) (Enc.F eR x.1)) (T.need (tpx x≤x.1.length) (T.loop (Int×List (List Int)×PUnit) ((0:Int),(butx x),PUnit.unit) (pushB (List.length (sdx mo de)) (topx x) x))))) (T.loop2 (Int×PUnit×PUnit) (Int×List Side×PUnit) (Sum.inl ((0:Int),PUnit.unit,PUnit.unit)) (tryA mo de (topx x)) (tryB mo ga de (topx x) x)))) (T.ret (Sum.inr [Ar.c (D.int IntKind.i64 x.2.1),Ar.c (D.int IntKind.i64 x.2.2.1),Ar.c (D.bool x.2.2.2.1)])))
theorem t20(q_mo:Bool)(mo:List Int)(q_ga:Bool)(ga:List Int)(q_de:Bool)(de:List Dem):runFnX Try.prog G0 (lookS [vNoRest,v87,v71r,v88,v89,v90,v79]) (fun _=>[(4,[.slot 9 (.rowE 22 eR),.slot 6 (.int .i64),.slot 7 (.int .i64),.slot 8 .bool],none),(12,[.slot 12 (.int .i64),.slot 9 (.rowE 22 eR)],none),(17,[.slot 14 (.int .i64),.slot 13 .nsl],some [.slot 14 (.int .i64),.slot 13 (.rowE 146 eSd)])]) [] 1 60 4 20 Try.f20 [.agg [.sl q_mo mo.length 1 (eI.F mo),.sl q_ga ga.length 1 (eI.F ga),.sl q_de de.length 3 (eDm.F de)]] =
  tr20 q_mo mo q_ga ga q_de de:=by kernel_rfl
theorem lsx_lit{st:List (List Int)}{c:List Int}{r:Int×Int×Bool×PUnit}(h:st.length<1000000):lsx (st++ [c],r)=(st.length:Int):=by
 unfold lsx
 rw[List.length_append,List.length_singleton,wrap_id (by omega) (by omega)];omega
theorem tpx_lit{st:List (List Int)}{c:List Int}{r:Int×Int×Bool×PUnit}(h:st.length<1000000):tpx (st++ [c],r)=st.length:=by
 unfold tpx;rw[lsx_lit h];rfl
theorem topx_lit{st:List (List Int)}{c:List Int}{r:Int×Int×Bool×PUnit}(h:st.length<1000000):topx (st++ [c],r)=c:=by
 unfold topx;rw[tpx_lit h];simp
theorem butx_lit{st:List (List Int)}{c:List Int}{r:Int×Int×Bool×PUnit}(h:st.length<1000000):butx (st++ [c],r)=st:=by
 unfold butx;rw[tpx_lit h];exact list_cut
theorem push_wp{L j:Nat}{top:List Int}{x:GX}{st:List (List Int)}{Q:GX ⊕ List Ar→Prop}(hj:j≤L)(hL:L≤1000)(ht:top.length≤1000)(hs:st.length≤990000)
  (hQ:Q (Sum.inl (st++(List.range (L-j)).map (fun i=>top++ [((j+i:Nat):Int)]),x.2.1,x.2.2.1,x.2.2.2.1,PUnit.unit))) :
  (T.loop (Int×List (List Int)×PUnit) ((j:Int),st,PUnit.unit) (pushB L top x)).wp Q:=by
 refine⟨fun z=>∃i:Nat,i≤L-j∧z.1=((j+i:Nat):Int)∧z.2.1=st++(List.range i).map (fun i=>top++ [((j+i:Nat):Int)]),fun z=>L+1-z.1.toNat,⟨0,Nat.zero_le _,rfl,by simp⟩,?_⟩
 rintro ⟨z,acc,u⟩ ⟨i,hi,hz,ha⟩
 simp only at hz ha
 subst hz
 have hal:acc.length≤991000:=by rw[ha];simp only[List.length_append,List.length_map,List.length_range];omega
 have hw:IntKind.i64.wrap (((j+i:Nat):Int)+1)=((j+i+1:Nat):Int):=wrap_succ (by omega)
 have o:=(rowIs_F (E:=eR) acc).app (row_oneR ((rowIs_dI top).app (row_one ((j+i:Nat):Int))))
 unfold pushB
 refine⟨fun hb=>?_,fun hb=>?_⟩
 ·have hlt:=lt_of_dec hb
  simp only[cI,Enc.list_F,hw]
  repeat (refine⟨(by first|exact Enc.is_F _ _ _|exact Nat.le_refl _|exact o.is|omega),?_⟩)
  refine⟨⟨i+1,by omega,rfl,o.eq.trans ?_⟩,?_⟩
  ·rw[ha,List.range_succ,List.map_append,List.append_assoc];rfl
  ·show L+1-((j+i+1:Nat):Int).toNat<L+1-((j+i:Nat):Int).toNat
   omega
 ·have hge:=ge_of_dec hb
  obtain rfl:i=L-j:=by omega
  simp only[Enc.list_F]
  refine⟨Enc.is_F _ _ _,Nat.le_refl _,?_⟩
  rw[ha]
  exact hQ
structure GrOk(mo ga:List Int)(de:List Dem):Prop where
 n1:1≤mo.length
 n3:mo.length≤3
 lg:ga.length=mo.length
 ld:∀d,d∈de→d.co.length=mo.length
 lS:(M.sides mo de).length≤30
 lD:de.length≤1000
 hS:∀s,s∈M.sides mo de→s.co.length=mo.length
 hR:∀R,R.length=mo.length→(∀s,s∈R→s∈M.sides mo de)→(M.rcorner mo.length R).2.2=true→0<(M.rcorner mo.length R).1∧i64ok (M.rcorner mo.length R).1∧i64ok (M.dot ga (M.rcorner mo.length R).2.1)∧(M.rcorner mo.length R).2.1.length=mo.length
theorem pickS_take{S:List Side}{c:List Int}{i:Nat}(h:i<c.length):M.pickS S (c.take (i+1))=M.pickS S (c.take i)++ [S.getD (c.getD i 0).toNat dfSd]:=by
 unfold M.pickS
 rw[List.take_succ_eq_append_getElem h,List.map_append]
 simp[h]
theorem mem_pickS{S:List Side}{n:Nat}{c:List Int}(h:∀v,v∈c→0≤v∧v<(S.length:Int)){s:Side}(hs:s∈M.pickS S c):s∈S:=by
 obtain⟨v,hv,rfl⟩:=List.mem_map.1 hs
 have:=h v hv
 have hl:v.toNat<S.length:=by omega
 simp[hl]
theorem try_wp{mo ga:List Int}{de:List Dem}(hG:GrOk mo ga de){st:List (List Int)}{c:List Int}{nu dn:Int}{so:Bool}{Q:GX ⊕ List Ar→Prop}(hc:c.length=mo.length)(hg:∀v,v∈c→0≤v∧v<((M.sides mo de).length:Int))(hd:0<dn)(hi1:i64ok nu)(hi2:i64ok dn)(hl:st.length≤990000)
  (hQ:Q (Sum.inl (st,(M.betterG (M.sides mo de) mo ga de (nu,dn,so) c).1,(M.betterG (M.sides mo de) mo ga de (nu,dn,so) c).2.1,(M.betterG (M.sides mo de) mo ga de (nu,dn,so) c).2.2,PUnit.unit))) :
  (T.loop2 (Int×PUnit×PUnit) (Int×List Side×PUnit) (Sum.inl ((0:Int),PUnit.unit,PUnit.unit)) (tryA mo de c) (tryB mo ga de c (st++ [c],nu,dn,so,PUnit.unit))).wp Q:=by
 have n1:=hG.n1
 have n3:=hG.n3
 have vb:∀i,i<c.length→0≤c.getD i 0∧c.getD i 0<((M.sides mo de).length:Int):=fun i hi=>hg _ (by rw[List.getD_eq_getElem?_getD,List.getElem?_eq_getElem hi];exact List.getElem_mem hi)
 refine⟨fun z=>match z with|.inl x=>x.1=((0:Nat):Int)|.inr y=>∃i:Nat,i≤c.length∧y.1=(i:Int)∧y.2.1=M.pickS (M.sides mo de) (c.take i),fun z=>match z with|.inl _=>c.length+1|.inr y=>c.length-y.1.toNat,rfl,?_,?_⟩
 ·rintro ⟨y,u1,u2⟩ hy
  have hy:y=((0:Nat):Int):=hy
  subst hy
  unfold tryA
  have hw:IntKind.i64.wrap (((0:Nat):Int)+1)=((0+1:Nat):Int):=wrap_succ (by omega)
  simp only[sdx,cI,cD,Enc.list_F,Int.toNat_natCast,hw]
  have vb0:=vb 0 (by omega)
  have o:=(RowIs.mk (E:=eSd) (d:=0) (F:=fun _ _=>D.nilp) (set:=[]) (fun i j hi=>absurd hi (Nat.not_lt_zero i)) rfl).app (oneG_row ((M.sides mo de).getD (c.getD 0 0).toNat dfSd).co ((M.sides mo de).getD (c.getD 0 0).toNat dfSd).am)
  refine⟨fun hb=>?_,fun hb=>?_⟩
  ·repeat (refine⟨(by first|exact o.is|exact vb0.1|exact vb0.2|omega),?_⟩)
   refine⟨⟨0+1,by omega,rfl,o.eq.trans ?_⟩,?_⟩
   ·rw[pickS_take (by omega)];rfl
   ·show c.length-((0+1:Nat):Int).toNat<c.length+1
    omega
  ·have hge:=ge_of_dec hb
   omega
 ·rintro ⟨y,acc,u⟩ ⟨i,hi,hy,ha⟩
  simp only at hy ha
  subst hy
  unfold tryB
  have hw:IntKind.i64.wrap ((i:Int)+1)=((i+1:Nat):Int):=wrap_succ (by omega)
  have hal:acc.length=i:=by rw[ha];unfold M.pickS;rw[List.length_map,List.length_take];omega
  simp only[sdx,cny,cI,cD,Enc.list_F,Int.toNat_natCast,hw,lsx_lit (show st.length<1000000 by omega),tpx_lit (show st.length<1000000 by omega),butx_lit (show st.length<1000000 by omega)]
  refine⟨fun hb=>?_,fun hb=>?_⟩
  ·have hlt:=lt_of_dec hb
   have vbi:=vb i hlt
   have o:=(rowIs_F (E:=eSd) acc).app (oneG_row ((M.sides mo de).getD (c.getD i 0).toNat dfSd).co ((M.sides mo de).getD (c.getD i 0).toNat dfSd).am)
   repeat (refine⟨(by first|exact o.is|exact vbi.1|exact vbi.2|exact Nat.le_refl _|omega),?_⟩)
   refine⟨⟨i+1,by omega,rfl,o.eq.trans ?_⟩,?_⟩
   ·rw[pickS_take hlt,ha]
   ·show c.length-((i+1:Nat):Int).toNat<c.length-((i:Nat):Int).toNat
    omega
  ·have hge:=ge_of_dec hb
   obtain rfl:i=c.length:=by omega
   rw[List.take_length]at ha
   have hm:∀s,s∈acc→s∈M.sides mo de:=fun s hs=>mem_pickS (n:=0) hg (ha ▸ hs)
   have hbt:M.betterG (M.sides mo de) mo ga de (nu,dn,so) c=cond (!(M.rcorner mo.length acc).2.2) (nu,dn,so)
     (cond (M.allowE mo de (M.rcorner mo.length acc).1 (M.rcorner mo.length acc).2.1 != 0) (nu,dn,so)
      (cond (!so) (M.dot ga (M.rcorner mo.length acc).2.1,(M.rcorner mo.length acc).1,true)
       (cond (decide (M.cmpX (M.dot ga (M.rcorner mo.length acc).2.1) (M.rcorner mo.length acc).1 nu dn>0)) (M.dot ga (M.rcorner mo.length acc).2.1,(M.rcorner mo.length acc).1,true) (nu,dn,so)))):=by
    unfold M.betterG;rw[←ha,hc]
   rw[hbt]at hQ
   have hal':acc.length=mo.length:=by omega
   rw[hal']
   have hrr:=hG.hR acc hal' hm
   generalize M.rcorner mo.length acc=r at *
   refine⟨Nat.le_refl _,Enc.is_F _ _ _,⟨n1,n3⟩,fun s hs=>hG.hS s (hm s hs),fun h1=>?_,fun h1=>?_⟩
   ·rw[h1]at hQ
    exact⟨Enc.is_F _ _ _,by simp,hQ⟩
   ·have hr:=hrr (by simpa using h1)
    obtain⟨r1,r2,r3,r4⟩:=hr
    have lD:=hG.lD
    rw[h1]at hQ
    refine⟨Enc.is_F _ _ _,Enc.is_F _ _ _,Enc.is_F _ _ _,Enc.is_F _ _ _,by omega,by omega,by omega,fun d hd=>?_,fun h2=>?_,fun h2=>?_⟩
    ·have:=hG.ld d hd
     omega
    ·rw[h2]at hQ
     exact⟨Enc.is_F _ _ _,by simp,hQ⟩
    ·rw[h2]at hQ
     have lg:=hG.lg
     refine⟨Enc.is_F _ _ _,Enc.is_F _ _ _,by omega,by omega,fun h3=>?_,fun h3=>?_⟩
     ·rw[h3]at hQ
      exact⟨Enc.is_F _ _ _,by simp,hQ⟩
     ·rw[h3]at hQ
      refine⟨r1,hd,r3,r2,hi1,hi2,fun h4=>?_,fun h4=>?_⟩
      ·rw[h4]at hQ
       exact⟨Enc.is_F _ _ _,by simp,hQ⟩
      ·rw[h4]at hQ
       exact⟨Enc.is_F _ _ _,by simp,hQ⟩
def res20(x:M.Gr):List Ar:=[rI x.1,rI x.2.1,rB x.2.2]
theorem SNoRest:SumOK Try.prog G0 gw 2 (fokSm fun _=>none):=fok_sum Try.func2 rfl (by intro ags p r hd;cases hd)
def grI(mo ga:List Int)(de:List Dem)(x:GX):Prop:=(∀c,c∈x.1→GoodC mo.length (M.sides mo de).length c)∧wtC mo.length (M.sides mo de).length x.1≤923521∧0<x.2.2.1∧i64ok x.2.1∧i64ok x.2.2.1∧(ordS mo.length (M.sides mo de).length x.1).foldl (M.betterG (M.sides mo de) mo ga de) (x.2.1,x.2.2.1,x.2.2.2.1)=M.greatG mo ga de
def grM(mo:List Int)(de:List Dem)(x:GX):Nat:=wtC mo.length (M.sides mo de).length x.1
theorem nxt_le{n L:Nat}{c:List Int}(h:GoodC n L c):M.nxt c≤L:=by
 unfold M.nxt
 by_cases hc:0<c.length
 ·rw[decide_eq_true hc]
  have:=h.2 (c.getD (c.length-1) 0) (by rw[List.getD_eq_getElem?_getD,List.getElem?_eq_getElem (by omega)];exact List.getElem_mem _)
  show _+1≤_
  omega
 ·rw[decide_eq_false hc];exact Nat.zero_le _
theorem gr_push{mo ga:List Int}{de:List Dem}{st:List (List Int)}{c:List Int}{nu dn:Int}{so:Bool}{Q:List Ar→Prop}(h:grI mo ga de (st++ [c],nu,dn,so,PUnit.unit))(hc:c.length<mo.length) :
  LoopP (grI mo ga de) (grM mo de) (grM mo de (st++ [c],nu,dn,so,PUnit.unit)) Q (Sum.inl (st++(List.range ((M.sides mo de).length-M.nxt c)).map (fun i=>c++ [((M.nxt c+i:Nat):Int)]),nu,dn,so,PUnit.unit)):=by
 obtain⟨g1,g2,g3,g4,g5,g6⟩:=h
 have hw:=wtC_push (L:=(M.sides mo de).length) hc (M.nxt c)
 simp only[wtC_app,wtC_one]at g2
 refine⟨⟨fun d hd=>?_,?_,g3,g4,g5,?_⟩,?_⟩
 ·rcases List.mem_append.1 hd with hd|hd
  ·exact g1 d (List.mem_append_left _ hd)
  ·exact goodC_push hc (g1 c (by simp)) hd
 ·simp only[wtC_app];omega
 ·simp only[ordS_push hc];exact g6
 ·unfold grM;simp only[wtC_app,wtC_one];omega
theorem gr_try{mo ga:List Int}{de:List Dem}(hG:GrOk mo ga de){st:List (List Int)}{c:List Int}{nu dn:Int}{so:Bool}{Q:List Ar→Prop}(h:grI mo ga de (st++ [c],nu,dn,so,PUnit.unit))(hc:c.length=mo.length) :
  LoopP (grI mo ga de) (grM mo de) (grM mo de (st++ [c],nu,dn,so,PUnit.unit)) Q (Sum.inl (st,(M.betterG (M.sides mo de) mo ga de (nu,dn,so) c).1,(M.betterG (M.sides mo de) mo ga de (nu,dn,so) c).2.1,(M.betterG (M.sides mo de) mo ga de (nu,dn,so) c).2.2,PUnit.unit)):=by
 obtain⟨g1,g2,g3,g4,g5,g6⟩:=h
 simp only[wtC_app,wtC_one]at g2
 have hp:0<((M.sides mo de).length+1)^(mo.length+1-c.length):=Nat.pow_pos (by omega)
 have hb:0<(M.betterG (M.sides mo de) mo ga de (nu,dn,so) c).2.1∧i64ok (M.betterG (M.sides mo de) mo ga de (nu,dn,so) c).1∧i64ok (M.betterG (M.sides mo de) mo ga de (nu,dn,so) c).2.1:=by
  have hal:(M.pickS (M.sides mo de) c).length=mo.length:=by unfold M.pickS;rw[List.length_map,hc]
  have hrr:=hG.hR (M.pickS (M.sides mo de) c) hal (fun s hs=>mem_pickS (n:=0) (g1 c (by simp)).2 hs)
  unfold M.betterG
  rw[hc]
  generalize M.rcorner mo.length (M.pickS (M.sides mo de) c)=r at *
  cases h1:r.2.2 with
  |false=>exact⟨g3,g4,g5⟩
  |true=>
   obtain⟨r1,r2,r3,r4⟩:=hrr h1
   cases h2:(M.allowE mo de r.1 r.2.1 != 0)with
   |true=>exact⟨g3,g4,g5⟩
   |false=>
    cases so with
    |false=>exact⟨r1,r3,r2⟩
    |true=>
     cases h4:decide (M.cmpX (M.dot ga r.2.1) r.1 nu dn>0)with
     |true=>exact⟨r1,r3,r2⟩
     |false=>exact⟨g3,g4,g5⟩
 refine⟨⟨fun d hd=>g1 d (List.mem_append_left _ hd),?_,hb.1,hb.2.1,hb.2.2,?_⟩,?_⟩
 ·show wtC _ _ st≤_
  omega
 ·rw[←g6]
  simp only[ordS_full hc,List.foldl_cons]
 ·unfold grM;simp only[wtC_app,wtC_one];omega
theorem w20(q_mo:Bool)(mo:List Int)(q_ga:Bool)(ga:List Int)(q_de:Bool)(de:List Dem)(hG:GrOk mo ga de):(tr20 q_mo mo q_ga ga q_de de).wp (fun rs=>rsEqv rs (res20 (M.greatG mo ga de))):=by
 have n1:=hG.n1
 have n3:=hG.n3
 have lS:=hG.lS
 have lD:=hG.lD
 have hw0:((M.sides mo de).length+1)^(mo.length+1)≤923521:=
  Nat.le_trans (Nat.pow_le_pow_left (show _≤31 by omega) _) (show 31^(mo.length+1)≤31^4 from Nat.pow_le_pow_right (by decide) (by omega))
 unfold tr20
 simp only[sdx,cI,cD,Enc.list_F,row_nil.eq]
 refine⟨Enc.is_F _ _ _,Enc.is_F _ _ _,Enc.is_F _ _ _,by omega,by omega,by omega,row_nil.is,?_⟩
 refine⟨grI mo ga de,grM mo de,⟨fun c hc=>?_,?_,Int.one_pos,by decide,by decide,?_⟩,?_⟩
 ·rw[List.mem_singleton]at hc;subst hc;exact⟨Nat.zero_le _,fun v hv=>by cases hv⟩
 ·show wtC _ _ [[]]≤_
  rw[wtC_one];exact hw0
 ·show(ordS _ _ ([]++ [[]])).foldl _ _=_
  unfold ordS M.greatG
  simp
 ·rintro ⟨st',nu,dn,so,u⟩ hI
  cases u
  have g2:=hI.2.1
  have hsl:=len_wtC (n:=mo.length) (L:=(M.sides mo de).length) (st:=st')
  simp only at g2
  refine⟨fun hb=>?_,fun hb=>?_⟩
  ·rcases List.eq_nil_or_concat st' with rfl|⟨st,c,rfl⟩
   ·simp at hb
   ·rw[List.concat_eq_append]at *
    simp only[List.length_append,List.length_singleton]at hsl
    have hst:st.length<1000000:=by omega
    have hcl:c∈st++ [c]:=by simp
    have hgc:=hI.1 c hcl
    have hcn:=hgc.1
    simp only[lsx_lit hst,tpx_lit hst,topx_lit hst,butx_lit hst,List.length_append,List.length_singleton]
    refine⟨by omega,by omega,by omega,by omega,by omega,fun h1=>?_,fun h1=>?_⟩
    ·have hlt:=lt_of_dec h1
     refine⟨fun h2=>?_,fun h2=>?_⟩
     ·have h0:0<c.length:=by simpa using h2
      have e1:IntKind.wrap IntKind.i64 ((c.length:Int)-1)=((c.length-1:Nat):Int):=by rw[wrap_id (by omega) (by omega)];omega
      have hv:=hgc.2 (c.getD (c.length-1) 0) (by rw[List.getD_eq_getElem?_getD,List.getElem?_eq_getElem (by omega)];exact List.getElem_mem _)
      have e2:IntKind.wrap IntKind.i64 (c.getD (c.length-1) 0+1)=((M.nxt c:Nat):Int):=by
       unfold M.nxt
       rw[decide_eq_true h0,wrap_id (by omega) (by omega)]
       show _=(((c.getD (c.length-1) 0).toNat+1:Nat):Int)
       omega
      simp only[e1,Int.toNat_natCast,e2]
      refine⟨by omega,by omega,Enc.is_F _ _ _,by omega,?_⟩
      exact push_wp (nxt_le hgc) (by omega) (by omega) (by omega) (gr_push hI hlt)
     ·have h0:c.length=0:=by
       have:¬(0<c.length):=by simpa using h2
       omega
      obtain rfl:c=[]:=List.length_eq_zero_iff.1 h0
      refine⟨Enc.is_F _ _ _,by omega,?_⟩
      exact push_wp (j:=0) (Nat.zero_le _) (by omega) (by simp) (by omega) (gr_push hI hlt)
    ·have hge:=ge_of_dec h1
     have hcc:c.length=mo.length:=by omega
     exact try_wp hG hcc hgc.2 hI.2.2.1 hI.2.2.2.1 hI.2.2.2.2.1 (by omega) (gr_try hG hI hcc)
  ·obtain rfl:st'=[]:=by
    have:¬(0<st'.length):=by simpa using hb
    exact List.length_eq_zero_iff.1 (by omega)
   have hf:=hI.2.2.2.2.2
   have hf:(nu,dn,so)=M.greatG mo ga de:=hf
   rw[←hf]
   exact⟨rfl,rfl,rfl,trivial⟩
def dom20:DomF
 |[.agg [.sl _ n_mo st_mo F_mo,.sl _ n_ga st_ga F_ga,.sl _ n_de st_de F_de]]=>(match (Nat.beq st_mo 1||Nat.beq n_mo 0)&&(Nat.beq st_ga 1||Nat.beq n_ga 0)&&(Nat.beq st_de 3||Nat.beq n_de 0)with
  |true=>some ([eI.Is n_mo F_mo,eI.Is n_ga F_ga,eDm.Is n_de F_de,GrOk (eI.list n_mo F_mo) (eI.list n_ga F_ga) (eDm.list n_de F_de)],res20 (M.greatG (eI.list n_mo F_mo) (eI.list n_ga F_ga) (eDm.list n_de F_de)))
  |_=>none)
 |_=>none
def v20:Nat×Sm:=(20,fokSm dom20)
theorem C20:FOK Try.prog G0 gw 20 dom20:=by
 intro ags p r hd hp κ w xs hw hl hG hx
 unfold dom20 at hd
 split at hd
 ·rename_i q_mo n_mo st_mo F_mo q_ga n_ga st_ga F_ga q_de n_de st_de F_de
  split at hd
  ·rename_i hst
   simp only[Bool.and_eq_true]at hst
   obtain⟨⟨g1,g2⟩,g3⟩:=hst
   simp only[Option.some.injEq,Prod.mk.injEq]at hd
   obtain⟨rfl,rfl⟩:=hd
   obtain⟨hI_mo,hI_ga,hI_de,hp⟩:=hp
   have heq:agsEqv [.agg [.sl q_mo n_mo st_mo F_mo,.sl q_ga n_ga st_ga F_ga,.sl q_de n_de st_de F_de]] [.agg [.sl q_mo (eI.list n_mo F_mo).length 1 (eI.F (eI.list n_mo F_mo)),.sl q_ga (eI.list n_ga F_ga).length 1 (eI.F (eI.list n_ga F_ga)),.sl q_de (eDm.list n_de F_de).length 3 (eDm.F (eDm.list n_de F_de))]]:=⟨⟨eI.toz g1 hI_mo,eI.toz g2 hI_ga,eDm.toz g3 hI_de,trivial⟩,trivial⟩
   have len_mo:(eI.list n_mo F_mo).length=n_mo:=eI.list_len
   have len_ga:(eI.list n_ga F_ga).length=n_ga:=eI.list_len
   have len_de:(eDm.list n_de F_de).length=n_de:=eDm.list_len
   generalize eI.list n_mo F_mo=mo at *
   generalize eI.list n_ga F_ga=ga at *
   generalize eDm.list n_de F_de=de at *
   subst len_mo len_ga len_de
   exact fokX_fin mixed gw_stable (sl:=[vNoRest,v87,v71r,v88,v89,v90,v79]) ⟨SNoRest,S87,S71r,S88,S89,S90,S79,trivial⟩ Try.func20 hw hl hG hx heq rfl (t20 _ _ _ _ _ _) (w20 _ _ _ _ _ _ hp.1)
  ·cases hd
 ·cases hd
theorem S20:SumOK Try.prog G0 gw 20 (fokSm dom20):=fok_sum Try.func20 rfl C20
end Go.Pl
end
section
set_option maxRecDepth 100000
namespace Go.Pl
open Go.V Go.Proofs Go.Lp
theorem sm_one{v:Rat}{c:Nat}:∀{n:Nat},sm (fun i=>if c=i then v else 0) (List.range n)=if c<n then v else 0:=by
 intro n
 induction n with
 |zero=>rfl
 |succ n ih=>
  rw[List.range_succ,sm_append,ih]
  simp only[sm]
  by_cases h1:c<n
  ·rw[if_pos h1,if_neg (by omega),if_pos (by omega)];grind
  ·by_cases h2:c=n
   ·rw[if_neg h1,if_pos h2,if_pos (by omega)];grind
   ·rw[if_neg h1,if_neg h2,if_neg (by omega)];grind
section
variable {mo : List Int} {de : List Dem} {more : List Int}
theorem start_lp{K:Nat}(h4:mo.length+more.length≤4){asked:List Int}(ha:Ask (mo.length+more.length) K asked)(hx:∀i,mo.length≤i→asked.getD i 0≤0) :
  ∃B:List Nat,B.length=mo.length+more.length∧(∀i,i∈B→i<(M.planes mo de more).length)∧D (pR (M.planes mo de more)) B (List.range (mo.length+more.length))≠0 ∧
   Dual (pR (M.planes mo de more)) (pW asked) (List.range (mo.length+more.length)) [] B:=by
 obtain⟨n,hn⟩:∃n,n=mo.length+more.length:=⟨_,rfl⟩
 obtain⟨all,hall⟩:∃all,all=M.planes mo de more:=⟨_,rfl⟩
 obtain⟨s,hs⟩:∃s:Nat→Bool,s=fun i=>decide (0≤asked.getD i 0∧i<mo.length):=⟨_,rfl⟩
 rw[←hn]at h4 ha ⊢
 rw[←hall]
 have hlen:all.length=de.length+(mo.length+n):=by rw[hall,planes_len,hn]
 have row:∀i,i<n→∀c,pR all (stI de.length mo.length s i) c=if c=i then(if s i=true then(1:Rat)else -1)else 0:=by
  intro i hi c
  unfold pR stI
  cases hsi:s i with
  |true=>
   have him:i<mo.length:=by
    rw[hs]at hsi
    exact(of_decide_eq_true hsi).2
   rw[cond_true,hall,planes_mo him]
   show((en (M.unitL (mo.length+more.length) i 1) c:Int):Rat)=_
   rw[unit_en (by omega)]
   split <;>simp
  |false=>
   rw[cond_false,hall,planes_nn (by omega)]
   show((en (M.unitL (mo.length+more.length) i (-1)) c:Int):Rat)=_
   rw[unit_en (by omega)]
   split <;>simp
 refine⟨(List.range n).map (stI de.length mo.length s),by simp,fun i hi=>?_,?_,?_⟩
 ·obtain⟨k,hk,rfl⟩:=List.mem_map.1 hi
  have hk:=List.mem_range.1 hk
  rw[hlen]
  unfold stI
  cases hsk:s k with
  |true=>
   have him:k<mo.length:=by
    rw[hs]at hsk
    exact(of_decide_eq_true hsk).2
   rw[cond_true];omega
  |false=>rw[cond_false];omega
 ·obtain⟨b,hb,hbs⟩:=bits_of s n h4
  have hne:=diag_ne n h4 b (Nat.lt_of_lt_of_le hb (by
   calc 2^n≤2^4:=Nat.pow_le_pow_right (by decide) h4
    _=16:=rfl))
  rw[←D_ne]at hne
  rw[D_map,List.map_map]
  rw[D_map]at hne
  rw[List.map_congr_left (g:=fun i=>fun c=>(((if c=i then(if b.testBit i then(1:Int)else -1)else 0:Int)):Rat)) (fun i hi=>by
   funext c
   have hi:=List.mem_range.1 hi
   show pR all (stI de.length mo.length s i) c=_
   rw[row i hi c,hbs i hi]
   split
   ·split <;>simp
   ·simp)]
  exact hne
 ·obtain⟨yy,hyy⟩:∃yy:Nat→Rat,yy=fun i=> - (((asked.getD i 0).natAbs:Int):Rat):=⟨_,rfl⟩
  refine⟨fun a=>if a<de.length+mo.length then yy (a-de.length)else yy (a-de.length-mo.length),fun a _=>?_,fun c hc=>?_⟩
  ·have key:∀i,yy i≤0:=by
    intro i
    rw[hyy]
    have:(0:Rat)≤(((asked.getD i 0).natAbs:Int):Rat):=Rat.intCast_nonneg.2 (by omega)
    show-_≤(0:Rat)
    grind
   show(if _ then _ else _)≤(0:Rat)
   split <;>exact key _
  ·have hc:=List.mem_range.1 hc
   rw[List.nil_append,sm_map,sm_congr (h:=fun i=>if c=i then pW asked c else 0) (fun i hi=>?_),sm_one,if_pos hc]
   have hi:=List.mem_range.1 hi
   show(if stI de.length mo.length s i<de.length+mo.length then yy (stI de.length mo.length s i-de.length)else yy (stI de.length mo.length s i-de.length-mo.length))*pR all (stI de.length mo.length s i) c=_
   rw[row i hi c]
   by_cases hci:c=i
   ·subst hci
    rw[if_pos rfl,if_pos rfl]
    cases hsi:s c with
    |true=>
     rw[hs]at hsi
     obtain⟨h1,h2⟩:=of_decide_eq_true hsi
     have e:stI de.length mo.length s c=de.length+c:=by unfold stI;rw[hs];simp only[];rw[decide_eq_true ⟨h1,h2⟩];rfl
     rw[e,if_pos (by omega),Nat.add_sub_cancel_left,if_pos rfl,hyy]
     unfold pW en
     show-(((asked.getD c 0).natAbs:Int):Rat)*1=_
     rw[show((asked.getD c 0).natAbs:Int)=asked.getD c 0 by omega]
     grind
    |false=>
     have hf:=hsi
     rw[hs]at hsi
     have h1:=of_decide_eq_false hsi
     have h0:asked.getD c 0≤0:=by
      by_cases hcm:c<mo.length
      ·by_cases h2:0≤asked.getD c 0
       ·exact absurd ⟨h2,hcm⟩ h1
       ·omega
      ·exact hx c (by omega)
     have e:stI de.length mo.length s c=de.length+(mo.length+c):=by unfold stI;rw[hf];rfl
     rw[e,if_neg (by omega),show de.length+(mo.length+c)-de.length-mo.length=c by omega,if_neg (by decide),hyy]
     unfold pW en
     show-(((asked.getD c 0).natAbs:Int):Rat)*(-1)=_
     rw[show((asked.getD c 0).natAbs:Int)= - asked.getD c 0 by omega,Rat.intCast_neg]
     grind
   ·rw[if_neg hci,if_neg hci];grind
end
def PtOK(n:Nat)(all:List Plane)(x:List Int)(d:Int):Prop:=0<d∧∀p,p∈all→dl n p.co x≤p.am*d
theorem pt_has{n:Nat}{all:List Plane}{x:List Int}{d:Int}(h:PtOK n all x d):HasPoint n all:=by
 have hd:((d:Int):Rat)≠0:=fun e=>by have:=Rat.intCast_inj.1 (show((d:Int):Rat)=((0:Int):Rat) by rw[e];rfl);have:=h.1;omega
 have hp:(0:Rat)<((d:Int):Rat):=Rat.intCast_pos.2 h.1
 refine⟨fun c=>((en x c:Int):Rat)/((d:Int):Rat),fun p hp'=>?_⟩
 have:=Rat.intCast_le_intCast.2 (h.2 p hp')
 unfold dl at this
 rw[smI_cast,Rat.intCast_mul]at this
 rw[sm_congr (h:=fun c=>(1/((d:Int):Rat))*(((en p.co c*en x c:Int)):Rat)) (fun c _=>by
  show _*(_/_)=_
  rw[Rat.intCast_mul,Rat.div_def,Rat.div_def];grind),sm_smul]
 have h1:(0:Rat)≤1/((d:Int):Rat):=by
  rw[Rat.div_def]
  have:=Rat.le_of_lt (Rat.inv_pos.2 hp)
  grind
 have h2:=Rat.mul_le_mul_of_nonneg_left this h1
 have h3:(1/((d:Int):Rat))*(((p.am:Int):Rat)*((d:Int):Rat))=((p.am:Int):Rat):=by
  rw[Rat.div_def]
  have:=Rat.mul_inv_cancel _ hd
  grind
 rw[h3]at h2
 exact h2
section
variable {n : Nat} {all : List Plane}
theorem cor_pt{t:List Plane}{x:List Int}{d:Int}(h:Cor n all t x d):PtOK n all x d:=⟨h.sol.pos,h.all⟩
theorem one_of(h:SmallP n all){asked:List Int}{K nd nm:Nat}(hK:1≤K)(hK1:K≤100)(ha:Ask n K asked)(hst:∃B:List Nat,B.length=n∧(∀i,i∈B→i<all.length)∧D (pR all) B (List.range n)≠0∧Dual (pR all) (pW asked) (List.range n) [] B) :
  (¬HasPoint n all∧M.possible all n=false∧M.best asked all n=M.bs0) ∨
  (M.possible all n=true∧∃t v u,t∈M.subs all n∧Wt n K t asked v (M.weights asked all nd nm).od∧(M.weights asked all nd nm).wd=(M.putW t v t.length (List.replicate nd 0,List.replicate nm 0)).1∧(M.weights asked all nd nm).wt=(M.putW t v t.length (List.replicate nd 0,List.replicate nm 0)).2 ∧
   u∈M.subs all n∧Cor n all u (M.best asked all n).pa (M.best asked all n).ad∧(M.best asked all n).gd=(M.best asked all n).ad∧(M.best asked all n).num=dl n asked (M.best asked all n).pa ∧
   (M.best asked all n).num*(M.weights asked all nd nm).od=wsum n t v*(M.best asked all n).ad ∧
   (∀x d,PtOK n all x d→dl n asked x*(M.best asked all n).ad≤(M.best asked all n).num*d)):=by
 obtain⟨B,hBl,hB,hD,hdual⟩:=hst
 have ha100:Ask n 100 asked:=⟨ha.len,fun x hx=>by have:=ha.b x hx;omega⟩
 rcases lp h hK (by omega) ha.len ha.at hBl hB hD hdual with hno|⟨t,ht,hc,v,e,hw⟩
 ·refine .inl ⟨hno,?_,?_⟩
  ·rw[←Bool.not_eq_true,possible_iff]
   rintro ⟨t,ht,hc⟩
   exact hno (pt_has (cor_pt (corner_yes h ht hc)))
  ·rcases best_spec h ha100 with⟨h1,_⟩|⟨t,h1,h2,h3,_⟩
   ·exact h1
   ·exact absurd (pt_has (cor_pt h3)) hno
 ·refine .inr ⟨possible_iff.2 ⟨t,ht,hc⟩,?_⟩
  obtain⟨hm,hl⟩:=sub_mem ht
  have cor:=corner_yes h ht hc
  rcases best_spec h ha100 with⟨h1,h2⟩|⟨u,hu,hu2,b3,b4,b5,b6⟩
  ·rw[h2 t ht]at hc;cases hc
  rcases light_spec (nd:=nd) (nm:=nm) h hK (by omega) ha with⟨h1,h2⟩|⟨t',v',l1,l2,l3,l4,l5,l6,l7⟩
  ·exact absurd hw (h2 t ht v e)
  obtain⟨hm',hl'⟩:=sub_mem l1
  have weak:=weak_P h hm' hl' l2 b3.all
  have tight:=tight_P h hm hl hw cor
  have le1:=l7 t ht v e hw
  have le2:=b6 t ht _ _ cor
  rw[l4]at le1
  rw[←b5]at weak
  have p1:=b3.sol.pos
  have p2:=l2.sol.pos
  have p3:=hw.sol.pos
  have p4:=cor.sol.pos
  -- best ≤ weights' bound ≤ t's bound = t's worth ≤ best
  have key:(M.best asked all n).num*(M.weights asked all nd nm).od=wsum n t' v'*(M.best asked all n).ad:=by
   refine Int.le_antisymm weak ?_
   generalize (M.best asked all n).num=bn at *
   generalize (M.best asked all n).ad=bd at *
   generalize (M.weights asked all nd nm).od=wd at *
   generalize wsum n t' v'=wn at *
   generalize wsum n t v=tn at *
   generalize dl n asked (M.sols t).1=cn at *
   generalize (M.sols t).2.1=cd at *
   -- wn*e ≤ tn*wd ; cn*e = tn*cd ; cn*bd ≤ bn*cd ⊢ wn*bd ≤ bn*wd
   refine Int.le_of_mul_le_mul_right (a:=e*cd) ?_ (Int.mul_pos p3 p4)
   calc wn*bd*(e*cd)=wn*e*(bd*cd):=by grind
    _≤tn*wd*(bd*cd):=Int.mul_le_mul_of_nonneg_right le1 (Int.le_of_lt (Int.mul_pos p1 p4))
    _=tn*cd*(wd*bd):=by grind
    _=cn*e*(wd*bd):=by rw[tight]
    _=cn*bd*(e*wd):=by grind
    _≤bn*cd*(e*wd):=Int.mul_le_mul_of_nonneg_right le2 (Int.le_of_lt (Int.mul_pos p3 p2))
    _=bn*wd*(e*cd):=by grind
  refine⟨t',v',u,l1,l2,l5,l6,hu,b3,b4,b5,key,fun x d hx=>?_⟩
  have w2:=weak_P h hm' hl' l2 hx.2
  have hd:=hx.1
  generalize (M.best asked all n).num=bn at *
  generalize (M.best asked all n).ad=bd at *
  generalize (M.weights asked all nd nm).od=wd at *
  generalize wsum n t' v'=wn at *
  refine Int.le_of_mul_le_mul_right (a:=wd) ?_ p2
  calc dl n asked x*bd*wd=dl n asked x*wd*bd:=by grind
   _≤wn*d*bd:=Int.mul_le_mul_of_nonneg_right w2 (Int.le_of_lt p1)
   _=wn*bd*d:=by grind
   _=bn*wd*d:=by rw[key]
   _=bn*d*wd:=by grind
end
end Go.Pl
end
section
set_option maxRecDepth 100000
namespace Go.Pl
open Go.V Go.Proofs
theorem detRow_congr{f g:Nat→Int}:∀{l:List Int} {k:Nat} {out s:Int},(∀i,i<l.length→f (k+i)=g (k+i))→M.detRow f l k out s=M.detRow g l k out s
 |[],_,_,_,_=>rfl
 |a::l,k,out,s,h=>by
  have h0:=h 0 (by simp)
  rw[Nat.add_zero]at h0
  unfold M.detRow
  rw[h0]
  exact detRow_congr fun i hi=>by
   have:=h (i+1) (by simpa using hi)
   rw[show k+1+i=k+(i+1) by omega];exact this
theorem rdet_eq:∀(n:Nat) (m:List (List Int)),m.length=n+1→(∀r,r∈m→r.length=n+1)→(∀r,r∈m→∀x,x∈r→i64ok x)→M.rdet (n+1) m=M.det (n+1) m:=by
 intro n
 induction n with
 |zero=>
  intro m hl hr hx
  match m,hl with
  |[r],_=>
   have h1:=hr r (by simp)
   match r,h1 with
   |[a],_=>
    have ha:=hx [a] (by simp) a (by simp)
    show a=cond (a != 0) (IntKind.i64.wrap (0+IntKind.i64.wrap (IntKind.i64.wrap (1*a)*1))) 0
    by_cases h0:a=0
    ·subst h0;rfl
    ·rw[show(a != 0)=true by simpa using h0,cond_true,Int.one_mul,wrap_ok ha,Int.mul_one,wrap_ok ha,Int.zero_add,wrap_ok ha]
 |succ n ih=>
  intro m hl hr hx
  show M.detRow (fun k=>M.rdet (n+1) (M.minorM m k)) (m.getD 0 []) 0 0 1=M.detRow (fun k=>M.det (n+1) (M.minorM m k)) (m.getD 0 []) 0 0 1
  have hm0:m.getD 0 []∈m:=getD_mem (by omega)
  refine detRow_congr fun i hi=>?_
  rw[hr _ hm0]at hi
  rw[Nat.zero_add]
  refine ih _ ?_ ?_ ?_
  ·unfold M.minorM;rw[List.length_map,List.length_drop];omega
  ·intro r h
   obtain⟨q,hq,rfl⟩:=List.mem_map.1 h
   have:=hr q (List.mem_of_mem_drop hq)
   rw[List.length_append,List.length_take,List.length_drop];omega
  ·intro r h x hxr
   obtain⟨q,hq,rfl⟩:=List.mem_map.1 h
   refine hx q (List.mem_of_mem_drop hq) x ?_
   rcases List.mem_append.1 hxr with h|h
   ·exact List.mem_of_mem_take h
   ·exact List.mem_of_mem_drop h
theorem rmat_eq{n:Nat}{R:List Side}(h:R.length=n):M.rmat n R=R.map Side.co:=by
 unfold M.rmat
 subst h
 rw[show(fun i=>(R.getD i dfSd).co)=Side.co∘(fun i=>R.getD i dfSd)from rfl,←List.map_map,range_getD]
theorem side_co(R:List Side)(i:Nat):(R.map Side.co).getD i []=(R.getD i dfSd).co:=by
 simp only[List.getD_eq_getElem?_getD,List.getElem?_map]
 cases R[i]? <;>rfl
theorem side_am(R:List Side)(i:Nat):(R.map Side.am).getD i 0=(R.getD i dfSd).am:=by
 simp only[List.getD_eq_getElem?_getD,List.getElem?_map]
 cases R[i]? <;>rfl
theorem rmatC_eq{n k:Nat}{R:List Side}(h:R.length=n):M.rmatC n R k=M.setCol (R.map Side.co) k (R.map Side.am):=by
 unfold M.rmatC M.setCol
 rw[List.length_map,h]
 exact List.map_congr_left fun i _=>by rw[side_co,side_am]
def anyNeg(x:List Int):Bool:=x.any fun v=>decide (v<0)
theorem rcorner_solve{n:Nat}{R:List Side}(h1:1≤n)(hl:R.length=n)(hS:Sq n (R.map Side.co))(ha:∀i,((R.map Side.am).getD i 0).natAbs≤1000000) :
  M.rcorner n R=cond (M.solve (R.map Side.co) (R.map Side.am)).2.2 (cond (anyNeg (M.solve (R.map Side.co) (R.map Side.am)).1) (0,[],false) ((M.solve (R.map Side.co) (R.map Side.am)).2.1,(M.solve (R.map Side.co) (R.map Side.am)).1,true)) (0,[],false):=by
 obtain⟨k,rfl⟩:∃k,n=k+1:=⟨n-1,by omega⟩
 have hdet:M.rdet (k+1) (M.rmat (k+1) R)=M.det (k+1) (R.map Side.co):=by
  rw[rmat_eq hl]
  refine rdet_eq k _ hS.len hS.row fun r hr x hx=>?_
  obtain⟨i,hi,rfl⟩:=mem_getD hx
  have:=hS.ent r hr i
  unfold en at this
  unfold i64ok;omega
 have hset:∀q,q<k+1→M.rdet (k+1) (M.rmatC (k+1) R q)=M.det (k+1) (M.setCol (R.map Side.co) q (R.map Side.am)):=by
  intro q hq
  rw[rmatC_eq hl]
  refine rdet_eq k _ (by rw[setCol_len];exact hS.len) ?_ ?_
  ·intro x hx
   unfold M.setCol at hx
   obtain⟨i,hi,rfl⟩:=List.mem_map.1 hx
   rw[List.length_set]
   exact hS.row _ (getD_mem (List.mem_range.1 hi))
  ·intro r hr x hx
   unfold M.setCol at hr
   obtain⟨i,hi,rfl⟩:=List.mem_map.1 hr
   have hm:=getD_mem (d:=([]:List Int)) (List.mem_range.1 hi)
   obtain⟨c,hc,rfl⟩:=mem_getD hx
   have e:=en_set (r:=(R.map Side.co).getD i []) (k:=q) (c:=c) (v:=(R.map Side.am).getD i 0) (by rw[hS.row _ hm];exact hq)
   unfold en at e
   rw[e]
   have h2:=hS.ent _ hm c
   have h3:=ha i
   unfold en at h2
   unfold i64ok
   split <;>omega
 have hb:=hS.det_b
 rw[←hS.det]at hb
 unfold M.rcorner M.solve
 rw[hdet,hS.len]
 cases hz:(M.det (k+1) (R.map Side.co)==0)with
 |true=>rfl
 |false=>
  have hsg:M.rsign (k+1) R=cond (decide (M.det (k+1) (R.map Side.co)<0)) (-1) 1:=by unfold M.rsign;rw[hdet]
  have hnum:∀q,q<k+1→M.rnum (k+1) R q=cond (decide (M.det (k+1) (R.map Side.co)<0)) (M.neg (M.det (k+1) (M.setCol (R.map Side.co) q (R.map Side.am)))) (M.det (k+1) (M.setCol (R.map Side.co) q (R.map Side.am))):=by
   intro q hq
   obtain⟨e1,e2⟩:=hS.set (B:=1000000) (by decide) (by decide) ha hq
   rw[←e1]at e2
   unfold M.rnum
   rw[hset q hq,hsg]
   cases decide (M.det (k+1) (R.map Side.co)<0)with
   |true=>rw[cond_true,cond_true,neg_ok (by omega),wrap64 (by omega)];omega
   |false=>rw[cond_false,cond_false,wrap64 (by omega)];omega
  have hden:M.rden (k+1) R=cond (decide (M.det (k+1) (R.map Side.co)<0)) (M.neg (M.det (k+1) (R.map Side.co))) (M.det (k+1) (R.map Side.co)):=by
   unfold M.rden
   rw[hdet,hsg]
   cases decide (M.det (k+1) (R.map Side.co)<0)with
   |true=>rw[cond_true,cond_true,neg_ok (by omega),wrap64 (by omega)];omega
   |false=>rw[cond_false,cond_false,wrap64 (by omega)];omega
  have hmap:(List.range (k+1)).map (M.rnum (k+1) R)=(List.range (k+1)).map fun q=>cond (decide (M.det (k+1) (R.map Side.co)<0)) (M.neg (M.det (k+1) (M.setCol (R.map Side.co) q (R.map Side.am)))) (M.det (k+1) (M.setCol (R.map Side.co) q (R.map Side.am))):=
   List.map_congr_left fun q hq=>hnum q (List.mem_range.1 hq)
  have hany:((List.range (k+1)).any fun q=>decide (M.rnum (k+1) R q<0))=anyNeg ((List.range (k+1)).map (M.rnum (k+1) R)):=by
   unfold anyNeg;rw[List.any_map];rfl
  rw[hany,hmap,hden]
  rfl
end Go.Pl
end
