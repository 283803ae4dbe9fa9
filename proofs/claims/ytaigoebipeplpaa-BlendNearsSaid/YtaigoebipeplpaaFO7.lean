/- The parts of the engines, of their contracts and of the plain laws that the claim rests on: C9, C7_5, C10, C12, C11, C13, L12, C16, L13, C17, C23, C24, C20, U32, C21, C22, C1_5, C2_5, C3_5, C25, C26, C18, C27, C28, R0, RG. -/
import Derived.Test.YtaigoebipeplpaaFO6
import Derived.ChangeSame
import Derived.ChangeVars
import Derived.ProofKit
import Derived.LaidMore
import Derived.OpenShut
import Derived.Carry
import Derived.ChangeArms
set_option linter.unusedVariables false
set_option linter.unusedSimpArgs false
section
set_option maxRecDepth 100000
namespace Go.Bl
open Go.V Go.Proofs
theorem rowT2_wp{α:Type}{d:Nat}{rows:List Rw}{ch:List Int}{K:XA→T (XA ⊕ α)}{Q:α→Prop}(hcd:ch.length=d)(h0:0<rows.length)(hc:ch.length≤1000)(hi:∀v,v∈ch→0≤v∧v<(rows.length:Int))
  (hK:∀x:XA,x.2.1=M.rmat rows ch→x.2.2.1=M.rright rows ch→(K x).wp (Out Q)):(rowT2 d rows ch K).wp Q:=by
 subst hcd
 have o1:=rowR_one false (rows.getD (Int.toNat 0) eRw.dflt).1
 have o2:=int_one (rows.getD (Int.toNat 0) eRw.dflt).2
 refine⟨Int.le_refl _,by omega,Int.le_refl _,by omega,o1.1,o2.1,?_⟩
 refine⟨fun x=>∃k:Nat,k≤ch.length∧x.1=(k:Int)∧x.2.1=M.rmat rows (ch.take k)∧x.2.2.1=M.rright rows (ch.take k),fun x=>ch.length-x.1.toNat,⟨0,Nat.zero_le _,rfl,o1.2,o2.2⟩,?_⟩
 rintro ⟨x,a,b,u⟩ ⟨k,hk,hx,ha,hb'⟩
 simp only at hx ha hb'
 subst hx ha hb'
 have hla:(M.rmat rows (ch.take k)).length=k+1:=by simp[M.rmat,Nat.min_eq_left hk]
 have hlb:(M.rright rows (ch.take k)).length=k+1:=by simp[M.rright,Nat.min_eq_left hk]
 refine⟨fun hb=>?_,fun hb=>?_⟩
 ·have hlt:=lt_of_dec hb
  have hm:=hi _ (getD_in (d:=0) hlt)
  have p1:=rowR_push (M.rmat rows (ch.take k)) false (rows.getD (ch.getD k 0).toNat eRw.dflt).1
  have p2:=one_push (M.rright rows (ch.take k)) (rows.getD (ch.getD k 0).toNat eRw.dflt).2
  refine⟨by show(0:Int)≤k;omega,by show(k:Int)<ch.length;omega,hlt,hm.1,hm.2,by show(M.rmat rows (ch.take k)).length+1≤1000000;omega,Nat.le_refl _,by show(0:Int)≤k;omega,by show(k:Int)<ch.length;omega,hlt,hm.1,hm.2,by show(M.rright rows (ch.take k)).length+1≤1000000;omega,Nat.le_refl _,
   p1.1,Nat.le_refl _,p2.1,Nat.le_refl _,⟨k+1,by omega,w64_succ (by omega),?_,?_⟩,?_⟩
  ·rw[take_push (d:=0) hlt]
   refine p1.2.trans ?_
   unfold M.rmat
   rw[List.map_append];rfl
  ·rw[take_push (d:=0) hlt]
   refine p2.2.trans ?_
   unfold M.rright
   rw[List.map_append];rfl
  ·show ch.length-(w64 ((k:Int)+1)).toNat<ch.length-(k:Int).toNat
   rw[w64_succ (by omega)];omega
 ·have hge:=ge_of_dec hb
  obtain rfl:k=ch.length:=by omega
  rw[List.take_length]
  exact Out.loop (hK _ rfl rfl)
theorem holdT2_wp{α:Type}{rows:List Rw}{v:List Int}{den:Int}{no:T ((Int×Int×PUnit) ⊕ (XZ ⊕ α))}{K:XZ→T (XZ ⊕ α)}{Q:α→Prop}(hr:rows.length≤1000)(hv:v.length≤1000)(hl:∀r,r∈rows→v.length≤r.co.length)
  (h0:M.rkeeps v den rows=false→no.wp (Out (Out Q))) (hK:M.rkeeps v den rows=true→∀x:XZ,(K x).wp (Out Q)):(holdT2 rows v den no K).wp Q:=by
 refine⟨fun i j hi=>absurd hi (Nat.not_lt_zero i),fun i j hi=>absurd hi (Nat.not_lt_zero i),fun x=>∃k:Nat,k≤rows.length∧x.1=(k:Int)∧M.rkeeps v den rows=M.rkeeps v den (rows.drop k),fun x=>rows.length-x.1.toNat,⟨0,Nat.zero_le _,rfl,by simp⟩,?_⟩
 rintro ⟨x,st⟩ ⟨k,hk,hx,ha⟩
 simp only at hx ha
 subst hx
 refine⟨fun hb=>?_,fun hb=>?_⟩
 ·have hlt:=lt_of_dec hb
  have hmem:=getD_in (d:=eRw.dflt) hlt
  have hc:M.rkeeps v den rows=cond (decide (M.dot (rows.getD k eRw.dflt).co v 0<w64 ((rows.getD k eRw.dflt).le*den))) false (M.rkeeps v den (rows.drop (k+1))):=by
   rw[ha,getD_drop (d:=eRw.dflt) hlt];rfl
  refine dotT_wp hlt hv (hl _ hmem) fun y hy=>?_
  refine⟨by show(0:Int)≤k;omega,by show(k:Int)<rows.length;omega,fun h1=>?_,fun h1=>?_⟩
  ·have h1:decide (y.2.1<w64 ((rows.getD k eRw.dflt).le*den))=true:=h1
   rw[hy]at h1
   rw[h1]at hc
   refine T.wp_mono ?_ (h0 hc)
   intro r hr'
   match r,hr' with
   |.inr (.inr a),ha=>exact ha
  ·have h1:decide (y.2.1<w64 ((rows.getD k eRw.dflt).le*den))=false:=h1
   rw[hy]at h1
   rw[h1]at hc
   refine⟨Enc.is_F _ _ _,Enc.is_F _ _ _,⟨k+1,by omega,w64_succ (by omega),hc⟩,?_⟩
   show rows.length-(w64 ((k:Int)+1)).toNat<rows.length-(k:Int).toNat
   rw[w64_succ (by omega)];omega
 ·have hge:=ge_of_dec hb
  obtain rfl:k=rows.length:=by omega
  refine Out.loop (hK ?_ _)
  rw[ha,List.drop_of_length_le (Nat.le_refl _)];rfl
theorem wtT2_wp{α:Type}{d:Nat}{L:Nat}{ch v:List Int}{x0:XZ}{p:List Int}{pd wd:Int}{no:T (XW ⊕ α)}{yes:XW→T (XW ⊕ α)}{Q:α→Prop}(hcd:ch.length=d)(hL0:0<L)(hL:L≤1000)(hv:v.length=ch.length+1)(hc:ch.length≤1000)(hi:∀v,v∈ch→0≤v∧v<(L:Int))
  (h0:M.rnn v ch.length=false→no.wp (Out Q)) (h1:M.rnn v ch.length=true→∀x:XW,x.2.1=p→x.2.2.1=pd→x.2.2.2.1=M.rwts L ch v→x.2.2.2.2.1=wd→(yes x).wp (Out Q)):(wtT2 d (L:Int) ch v x0 p pd wd no yes).wp Q:=by
 subst hcd
 have z:=zeros_put L (v.getD 0 0) hL0
 refine⟨by omega,by omega,by omega,by omega,by omega,by omega,by simp;omega,by simp;omega,Enc.is_F _ _ _,by rw[Int.toNat_natCast];exact z.1,Nat.le_refl _,Enc.is_F _ _ _,Enc.is_F _ _ _,?_⟩
 refine⟨fun x=>∃k:Nat,k≤ch.length∧x.1=(k:Int)∧x.2.1=p∧x.2.2.1=pd∧x.2.2.2.1=M.rwtsK L ch v k∧x.2.2.2.2.1=wd∧M.rnn v k=true,fun x=>ch.length-x.1.toNat,⟨0,Nat.zero_le _,rfl,Enc.list_F _ _,rfl,by rw[Int.toNat_natCast];exact z.2,rfl,rfl⟩,?_⟩
 rintro ⟨x,a,b,c,d,st⟩ ⟨k,hk,hx,ha,hb',hc',hd,hn⟩
 simp only at hx ha hb' hc' hd
 subst hx ha hb' hc' hd
 have hlc:=rwtsK_len (L:=L) (ch:=ch) (y:=v) k
 have e2:w64 ((k:Int)+1)=((k+1:Nat):Int):=w64_succ (by omega)
 refine⟨fun hb=>?_,fun hb=>?_⟩
 ·have hlt:=lt_of_dec hb
  have hm:=hi _ (getD_in (d:=0) hlt)
  simp only[e2,Int.toNat_natCast]
  refine⟨by omega,by omega,fun g=>?_,fun g=>?_⟩
  ·have g:decide (v.getD (k+1) 0<0)=true:=g
   have g:=of_decide_eq_true g
   refine Out.loop (h0 ?_)
   rw[Bool.eq_false_iff]
   intro hf
   have:=rnn_le (show k+1≤ch.length by omega) hf
   rw[rnn_succ,Bool.and_eq_true]at this
   have:=of_decide_eq_true this.2
   omega
  ·have g:decide (v.getD (k+1) 0<0)=false:=g
   have g:=of_decide_eq_false g
   have pi:=put_int (l:=M.rwtsK L ch v k) (i:=(ch.getD k 0).toNat) (b:=v.getD (k+1) 0) (by omega)
   refine⟨by omega,by omega,hlt,by omega,by omega,hm.1,by omega,by omega,Enc.is_F _ _ _,pi.1,Nat.le_refl _,Enc.is_F _ _ _,Enc.is_F _ _ _,⟨k+1,by omega,rfl,Enc.list_F _ _,rfl,?_,rfl,?_⟩,?_⟩
   ·refine pi.2.trans ?_
    unfold M.rwtsK
    rw[foldl_succ]
   ·rw[rnn_succ,hn,Bool.true_and]
    exact decide_eq_true (by omega)
   ·show ch.length-((k+1:Nat):Int).toNat<ch.length-(k:Int).toNat
    omega
 ·have hge:=ge_of_dec hb
  obtain rfl:k=ch.length:=by omega
  exact⟨Nat.le_refl _,Out.loop (h1 hn _ rfl rfl rfl rfl)⟩
theorem nd3_all{d k:Nat}(h:k<d):All (nd3 d k):=⟨by omega,by omega,h,trivial⟩
theorem put_isl{d j:Nat}{v:Int}{F:Nat→Nat→D}{l:List Int}(h1:eI.Is d F)(h2:eI.list d F=l)(hj:j<d):eI.Is d (putF j 0 1 [dI v] F)∧eI.list d (putF j 0 1 [dI v] F)=l.set j v:=by
 have key:∀k,k≠j→putF j 0 1 [dI v] F k=F k:=by
  intro k hk
  funext q
  unfold putF
  have:Nat.beq k j=false:=by rw[←Bool.not_eq_true,Nat.beq_eq];exact hk
  rw[this,Bool.false_and]
 have key2:putF j 0 1 [dI v] F j 0=dI v:=by
  unfold putF
  have:(Nat.beq j j&&(Nat.ble 0 0&&Nat.blt 0 (0+1)))=true:=by simp
  rw[this];rfl
 constructor
 ·intro i q hi hq
  by_cases e:i=j
  ·subst e
   obtain rfl:q=0:=Nat.lt_one_iff.1 hq
   have e2:eI.rd (putF i 0 1 [dI v] F i)=v:=by show rdI (putF i 0 1 [dI v] F i) 0=v;unfold rdI;rw[key2]
   rw[e2,key2]
   exact D.eqv_refl _
  ·rw[key i e];exact h1 i q hi hq
 ·subst h2
  refine List.ext_getElem (by simp[Enc.list]) fun i g1 g2=>?_
  have hi:i<d:=by simpa[Enc.list]using g1
  rw[List.getElem_set]
  simp only[Enc.list,List.getElem_map,List.getElem_range]
  by_cases e:i=j
  ·subst e
   rw[if_pos rfl]
   show rdI (putF i 0 1 [dI v] F i) 0=v
   unfold rdI;rw[key2]
  ·rw[if_neg (Ne.symm e),key i e]
theorem get_set{l:List Int}{i j:Nat}{v:Int}(hj:j<l.length):(l.set j v).getD i 0=if i=j then v else l.getD i 0:=by
 rw[List.getD_eq_getElem?_getD,List.getElem?_set]
 by_cases h:i=j
 ·subst h;simp[hj]
 ·rw[if_neg h,if_neg (Ne.symm h),←List.getD_eq_getElem?_getD]
theorem putT_wp{γ:Type}{d:Nat}{x:GX}{f:GX ⊕ List Ar→γ}{R:γ→Prop}{c:List Int}(hR:∀y:GX,y.1=c→R (f (.inl y)))(hc:c.length=d):∀(r j:Nat) (v:Int) (F:Nat→Nat→D) (l:List Int),eI.Is d F→eI.list d F=l→j+r=d→1≤j→0≤v→v≤100000-(r:Int) →
  (∀i,i<j→l.getD i 0=c.getD i 0)→(∀i,j≤i→i<d→c.getD i 0=v+1+((i-j:Nat):Int))→(putT d x f r j v F).wp R:=by
 intro r
 induction r with
 |zero=>
  intro j v F l hF hl hj _ _ _ h1 _
  have hld:l.length=d:=by rw[←hl];exact Enc.list_len _
  have e:l=c:=List.ext_getElem (by omega) fun i g1 g2=>by
   have:=h1 i (by omega)
   simpa[g1,g2]using this
  exact⟨hF,Nat.le_refl _,Enc.is_F _ _ _,Enc.is_F _ _ _,hR _ (hl.trans e)⟩
 |succ r ih=>
  intro j v F l hF hl hj j1 v0 v1 h1 h2
  have hld:l.length=d:=by rw[←hl];exact Enc.list_len _
  have hw:w64 (v+1)=v+1:=wrap_id (by omega) (by omega)
  have hjl:j<l.length:=by omega
  refine T.needs_wp (All.append.2 ⟨nd3_all (by omega),nd3_all (by omega)⟩) ?_
  rw[hw]
  have pi:=put_isl (v:=v+1) hF hl (show j<d by omega)
  refine ih (j+1) (v+1) _ _ pi.1 pi.2 (by omega) (by omega) (by omega) (by omega) (fun i hi=>?_) (fun i g1 g2=>?_)
  ·rw[get_set hjl]
   by_cases e:i=j
   ·subst e
    rw[if_pos rfl,h2 i (Nat.le_refl _) (by omega)];omega
   ·rw[if_neg e];exact h1 i (by omega)
  ·rw[h2 i (by omega) g2];omega
theorem nextT_wp{γ:Type}{d L:Nat}{x:GX}{f:GX ⊕ List Ar→γ}{R:γ→Prop}(hL:L≤1000)(hv:Val d (L:Int) x.1)(hd:d≤L)(hn:M.nextC d (L:Int) x.1=none→R (f (.inr zR)))(hs:∀c,M.nextC d (L:Int) x.1=some c→∀y:GX,y.1=c→R (f (.inl y))) :
  ∀n,n≤d→M.lastK d (L:Int) x.1 n=M.lastK d (L:Int) x.1 d→(nextT d (L:Int) x f n).wp R:=by
 have hw:w64 ((L:Int)-d)=(L:Int)-d:=wrap_id (by omega) (by omega)
 intro n
 induction n with
 |zero=>
  intro _ h
  refine hn ?_
  unfold M.nextC
  rw[←h];rfl
 |succ n ih=>
  intro hnd h
  have hw2:w64 ((L:Int)-d+n)=(L:Int)-d+n:=wrap_id (by omega) (by omega)
  refine T.needs_wp (nd3_all (by omega)) ⟨fun hb=>?_,fun hb=>?_⟩
  ·rw[hw,hw2]at hb
   refine ih (by omega) ?_
   rw[←h]
   show _=cond (x.1.getD n 0==(L:Int)-d+n) _ _
   rw[hb];rfl
  ·rw[hw,hw2]at hb
   have hk:M.nextC d (L:Int) x.1=some (M.bump d n x.1):=by
    unfold M.nextC
    rw[←h]
    show Option.map _ (cond (x.1.getD n 0==(L:Int)-d+n) _ _)=_
    rw[hb];rfl
   have hne:x.1.getD n 0≠(L:Int)-d+n:=by intro e;rw[e,beq_self_eq_true]at hb;cases hb
   have hlo:=hv.lo n (by omega)
   have hhi:=hv.hi n (by omega)
   have hw3:w64 (x.1.getD n 0+1)=x.1.getD n 0+1:=wrap_id (by omega) (by omega)
   refine T.needs_wp (All.append.2 ⟨nd3_all (by omega),nd3_all (by omega)⟩) ?_
   rw[hw3]
   have hlen:=hv.len
   have hF:eI.Is d (eI.F x.1)∧eI.list d (eI.F x.1)=x.1:=by rw[←hlen];exact⟨Enc.is_F _ _ _,Enc.list_F _ _⟩
   have pi:=put_isl (v:=x.1.getD n 0+1) hF.1 hF.2 (show n<d by omega)
   refine putT_wp (hs _ hk) (bump_len hlen (by omega)) (d-(n+1)) (n+1) _ _ _ pi.1 pi.2 (by omega) (by omega) (by omega) (by omega) (fun i hi=>?_) (fun i g1 g2=>?_)
   ·rw[get_set (by omega)]
    by_cases e:i=n
    ·subst e
     rw[if_pos rfl,bump_ge hlen (by omega) (Nat.le_refl _) (by omega)];simp
    ·rw[if_neg e,bump_lt hlen (by omega) (by omega)]
   ·rw[bump_ge hlen (by omega) (by omega) g2];omega
structure BOK(B:Nat)(rows:List Rw)(costs:List Int):Prop where
 n1:1≤costs.length
 nB:costs.length≤B
 n5:costs.length≤5
 rn:costs.length≤rows.length
 rL:rows.length≤1000
 rc:∀r,r∈rows→r.co.length=costs.length
 tu:∀ch:List Int,ch.length+1=costs.length→(∀v,v∈ch→0≤v∧v<(rows.length:Int))→M.rdn (M.rmat rows ch) (M.rright rows ch)≠0→(M.rsl (M.turned (M.rmat rows ch)) costs).length=costs.length
theorem BOK.at{B:Nat}{rows:List Rw}{costs:List Int}(h:BOK B rows costs){c:List Int}(hc:Val (costs.length-1) (rows.length:Int) c):AtOK B rows costs c:=by
 have h1:=h.n1
 have hl:=hc.len
 have hi:∀v,v∈c→0≤v∧v<(rows.length:Int):=by
  intro v hv
  obtain⟨i,hi,rfl⟩:=List.getElem_of_mem hv
  have:=hc.ent i (by omega)
  simpa[hi]using this
 exact⟨by omega,h.nB,h.n5,by have:=h.rn;omega,h.rL,h.rc,hi,h.tu c (by omega) hi⟩
theorem w70{B d:Nat}{rows:List Rw}{costs:List Int}(h:BOK B rows costs)(hd:costs.length=d+1){pre:List Prop}{F0:Nat→Nat→D}(hp:All pre)(hF:eI.Is d F0)(hF2:eI.list d F0=M.initC d):(tr70 B d rows costs pre F0).wp (fun rs=>rsEqv rs (resRC (M.rbest rows costs))):=by
 have hdd:costs.length-1=d:=by omega
 have hrL:=h.rL
 have hrn:=h.rn
 have hnB:=h.nB
 have hn5:=h.n5
 have hL:(0:Int)<(rows.length:Int):=by omega
 refine T.needs_wp hp ⟨hF,Nat.le_refl _,(fun i j hi=>absurd hi (Nat.not_lt_zero i)),(fun i j hi=>absurd hi (Nat.not_lt_zero i)),?_⟩
 refine⟨fun x=>Val d (rows.length:Int) x.1∧∃f,mC d (rows.length:Int) x.1<f∧M.rgo rows costs f x.1=M.rbest rows costs,fun x=>mC d (rows.length:Int) x.1,⟨?_,?_⟩,?_⟩
 ·show Val d _ (eI.list d F0)
  rw[hF2];exact initC_val (by omega)
 ·refine⟨rows.length^(costs.length-1)+1,?_,?_⟩
  ·show mC d _ (eI.list d F0)<_
   rw[hF2,←hdd];exact mC_fuel hrn h.n1
  ·show M.rgo _ _ _ (eI.list d F0)=_
   rw[hF2,←hdd];rfl
 rintro x ⟨hv,f,hf,hg⟩
 have hat:=h.at (by rw[hdd];exact hv)
 obtain⟨hl,hr,hb⟩:=rmat_len hat
 have hcl:=hv.len
 have hci:=hat.ci
 have hno:∀{γ:Type} (g:GX ⊕ List Ar→γ) (R:γ→Prop),(∀o,LoopP (fun x:GX=>Val d (rows.length:Int) x.1∧∃f,mC d (rows.length:Int) x.1<f∧M.rgo rows costs f x.1=M.rbest rows costs) (fun x=>mC d (rows.length:Int) x.1) (mC d (rows.length:Int) x.1) (fun rs=>rsEqv rs (resRC (M.rbest rows costs))) o→R (g o))→M.rat rows costs x.1=none→(nextT d (rows.length:Int) x g d).wp R:=by
  intro γ g R hR hn
  obtain⟨f',rfl⟩:∃f',f=f'+1:=⟨f-1,by omega⟩
  simp only[M.rgo]at hg
  rw[hn]at hg
  simp only[hdd]at hg
  refine nextT_wp hrL hv (by omega) (fun he=>hR _ ?_) (fun c hc y hy=>hR _ ?_) d (Nat.le_refl _) rfl
  ·rw[he]at hg
   show rsEqv zR _
   rw[←hg]
   exact zR_none
  ·rw[hc]at hg
   obtain⟨v1,v2⟩:=hv.next hc
   have:=mC_lt hL hv v1 v2
   refine⟨⟨by rw[hy];exact v1,f',by rw[hy];omega,by rw[hy];exact hg⟩,by show mC d _ y.1<_;rw[hy];exact this⟩
 have hyes:∀{v:RC},M.rat rows costs x.1=some v→M.rbest rows costs=some v:=by
  intro v hx
  obtain⟨f',rfl⟩:∃f',f=f'+1:=⟨f-1,by omega⟩
  simp only[M.rgo]at hg
  rw[hx]at hg
  exact hg.symm
 refine rowT2_wp hcl (by omega) (by omega) hci fun z hz1 hz2=>?_
 rw[hz1,hz2]
 simp only[Enc.list_F]
 refine⟨Nat.le_refl _,Nat.le_refl _,Enc.is_F _ _ _,Enc.is_F _ _ _,by omega,by omega,by omega,fun r hr'=>by rw[hr r hr',hl],fun hq=>?_,fun hq=>?_⟩
 ·refine hno _ _ ?_ ?_
  ·exact fun o ho=>ho
  unfold M.rat;rw[hq];rfl
 have hd0:M.rdn (M.rmat rows x.1) (M.rright rows x.1)≠0:=by intro e;rw[e]at hq;exact absurd hq (by decide)
 have hsl:=rsl_len hd0
 have htu:=hat.tu hd0
 refine holdT2_wp hrL (by omega) (fun r hr'=>by rw[h.rc r hr'];omega) (fun hk=>?_) (fun hk w=>?_)
 ·refine hno _ _ ?_ ?_
  ·exact fun o ho=>ho
  unfold M.rat;rw[hq,hk];rfl
 refine turnT_wp (by omega) (by omega) (fun r hr'=>by rw[hr r hr'];omega) fun y hy=>?_
 obtain⟨tl1,tl2⟩:=turned_len (m:=M.rmat rows x.1)
 have hcF:eI.Is (d+1) (eI.F costs)∧eI.list (d+1) (eI.F costs)=costs:=by rw[←hd];exact⟨Enc.is_F _ _ _,Enc.list_F _ _⟩
 rw[hy,hcF.2]
 refine⟨Nat.le_refl _,Enc.is_F _ _ _,hcF.1,by omega,by omega,by omega,fun r hr'=>by rw[tl2 r hr',tl1],?_⟩
 refine wtT2_wp hcl (by omega) hrL (by omega) (by omega) hci (fun hw=>?_) (fun hw v h1 h2 h3 h4=>?_)
 ·refine hno _ _ ?_ ?_
  ·exact fun o ho=>ho
  unfold M.rat;rw[hq,hk,hw];rfl
 ·have hs:M.rat rows costs x.1=some ⟨M.rsl (M.rmat rows x.1) (M.rright rows x.1),M.rdn (M.rmat rows x.1) (M.rright rows x.1),M.rwts rows.length x.1 (M.rsl (M.turned (M.rmat rows x.1)) costs),M.rdn (M.turned (M.rmat rows x.1)) costs⟩:=by unfold M.rat;rw[hq,hk,hw];rfl
  show rsEqv (endW v) _
  rw[hyes hs]
  unfold endW
  rw[h1,h2,h3,h4]
  exact⟨⟨D.eqv_refl _,rfl,⟨(fun e=>by cases e),rfl,fun _=>rfl,fun _ _ _ _=>D.eqv_refl _⟩,rfl,trivial⟩,rfl,trivial⟩
end Go.Bl
end
section
set_option maxRecDepth 100000
namespace Go.Bl
open Go.V Go.Proofs
theorem t70_5(B:Nat)(q q2:Bool)(rows:List Rw)(r0 r1 r2 r3 r4:Int):runFnX Try.prog G0 (lookS [v143g B]) (fun f=>match Nat.beq f 120 with|true=>[(3,[.slot 10 (.int .i64),.slot 8 (.rowE 31 eR),.slot 9 (.rowE 3 eI)],none),(10,[.slot 13 (.int .i64),.blk 6 [.imE eI,.int .i64,.imE eI,.int .i64]],none),(14,[.slot 15 (.int .i64),.slot 14 (.int .i64)],none),(21,[.slot 17 (.int .i64),.slot 16 .nsl],some [.slot 17 (.int .i64),.slot 16 (.rowE 31 eR)]),(25,[.slot 19 (.int .i64),.slot 18 .nsl],some [.slot 19 (.int .i64),.slot 18 (.rowE 3 eI)]),(33,[.slot 23 (.int .i64),.blk 22 [.imE eI,.int .i64,.rowE 3 eI,.int .i64],.blk 6 [.imE eI,.int .i64,.imE eI,.int .i64]],none),(8000021,[],none),(8000025,[],none)]|false=>[(1000015,[],none),(1000035,[],none),(1000053,[],none),(1000068,[],none),(3000014,[],none),(3000017,[],none),(3000033,[],none),(3000051,[],none),(3000067,[],none),(3000064,[],none),(3000070,[],none),(3000075,[],none),(6,[.slot 6 (.rowN 3 eI 4),.blk 4 [.imE eI,.int .i64,.imE eI,.int .i64]],none)]) [120] 1 60 6 70 Try.f70 [.c (.sl q rows.length 2 (eRw.F rows)),.c (.sl q2 5 1 (eI.F [r0,r1,r2,r3,r4]))] =
  tr70 B 4 rows [r0,r1,r2,r3,r4] (pre70 4) (initF 4):=by kernel_rfl
end Go.Bl
end
section
set_option maxRecDepth 100000
namespace Go.Bl
open Go.V Go.Proofs
def tr70_1(B:Nat)(rows:List Rw)(costs:List Int):T (List Ar):=
 T.needs [eI.Is 0 nF,eI.Is 0 nF] (.loop (PUnit×List Int×Int×List Int×Int×PUnit) (PUnit.unit,eI.list 0 nF,0,eI.list 0 nF,0,PUnit.unit) fun _=>
  T.needs [eRw.Is rows.length (eRw.F rows),eI.Is 1 (eI.F costs),eI.Is 0 nF,AtOK B (eRw.list rows.length (eRw.F rows)) (eI.list 1 (eI.F costs)) (eI.list 0 nF)]
   (.br (M.rat (eRw.list rows.length (eRw.F rows)) (eI.list 1 (eI.F costs)) (eI.list 0 nF)).isSome
    (.ret (.inr [(resRC (M.rat (eRw.list rows.length (eRw.F rows)) (eI.list 1 (eI.F costs)) (eI.list 0 nF))).headD (rB true),rB true])) (.ret (.inr zR))))
theorem t70_1(B:Nat)(q q2:Bool)(rows:List Rw)(r0:Int):runFnX Try.prog G0 (lookS [v120z B]) (fun _=>[(1000015,[],none),(1000035,[],none),(1000053,[],none),(1000068,[],none),(3000014,[],none),(3000017,[],none),(3000033,[],none),(3000051,[],none),(3000067,[],none),(3000064,[],none),(3000070,[],none),(3000075,[],none),(6,[.slot 6 .nsl,.blk 4 [.imE eI,.int .i64,.imE eI,.int .i64]],none)]) [] 1 60 6 70 Try.f70 [.c (.sl q rows.length 2 (eRw.F rows)),.c (.sl q2 1 1 (eI.F [r0]))] =
  tr70_1 B rows [r0]:=by kernel_rfl
theorem w70_1{B:Nat}{rows:List Rw}{costs:List Int}(h:BOK B rows costs)(hd:costs.length=1):(tr70_1 B rows costs).wp (fun rs=>rsEqv rs (resRC (M.rbest rows costs))):=by
 have hv:Val (costs.length-1) (rows.length:Int) []:=by
  rw[hd]
  exact⟨rfl,fun k hk=>absurd hk (Nat.not_lt_zero k),fun k hk=>absurd hk (Nat.not_lt_zero k),fun k hk=>absurd hk (Nat.not_lt_zero _)⟩
 have hat:=h.at hv
 have e1:eI.list 1 (eI.F costs)=costs:=by rw[←hd];exact Enc.list_F _ _
 have e2:eI.Is 1 (eI.F costs):=by rw[←hd];exact Enc.is_F _ _ _
 have e0:eI.list 0 nF=[]:=rfl
 have hb:M.rbest rows costs=M.rat rows costs []:=by
  unfold M.rbest
  rw[hd]
  show M.rgo rows costs (rows.length^0+1) []=_
  rw[Nat.pow_zero]
  unfold M.rgo
  cases hr:M.rat rows costs []with
  |some x=>rfl
  |none=>
   rw[hd]
   rfl
 unfold tr70_1
 simp only[Enc.list_F,e1,e0]
 refine⟨(fun i j hi=>absurd hi (Nat.not_lt_zero i)),(fun i j hi=>absurd hi (Nat.not_lt_zero i)),fun _=>True,fun _=>0,trivial,fun _ _=>?_⟩
 refine⟨Enc.is_F _ _ _,e2,(fun i j hi=>absurd hi (Nat.not_lt_zero i)),hat,fun hs=>?_,fun hs=>?_⟩
 ·show rsEqv _ _
  rw[hb]
  cases hr:M.rat rows costs []with
  |none=>rw[hr]at hs;cases hs
  |some x=>exact rsEqv_refl _
 ·show rsEqv zR _
  rw[hb]
  cases hr:M.rat rows costs []with
  |none=>exact zR_none
  |some x=>rw[hr]at hs;cases hs
theorem pre70_all:∀k,k≤4→All (pre70 k)
 |0,_=>trivial
 |1,_=>⟨by decide,trivial⟩
 |2,_=>⟨by decide,by decide,by decide,trivial⟩
 |3,_=>⟨by decide,by decide,by decide,by decide,by decide,trivial⟩
 |4,_=>⟨by decide,by decide,by decide,by decide,by decide,by decide,by decide,trivial⟩
 |n+5,h=>absurd h (by omega)
theorem initF_spec:∀k,eI.Is k (initF k)∧eI.list k (initF k)=M.initC k:=by
 intro k
 induction k with
 |zero=>exact⟨fun i j hi=>absurd hi (Nat.not_lt_zero i),rfl⟩
 |succ k ih=>
  have hl:∀i,i<k→initF (k+1) i=initF k i:=by
   intro i hi
   funext j
   show joinF k (initF k) (oneF ((k+1:Nat):Int)) i j=_
   unfold joinF
   rw[show Nat.blt i k=true from by rw[Nat.blt_eq];exact hi]
  have hk:initF (k+1) k 0=dI ((k:Int)+1):=by
   show joinF k (initF k) (oneF ((k+1:Nat):Int)) k 0=_
   unfold joinF
   rw[show Nat.blt k k=false from by rw[←Bool.not_eq_true,Nat.blt_eq];omega,Nat.sub_self]
   rfl
  constructor
  ·intro i j hi hj
   obtain rfl:j=0:=Nat.lt_one_iff.1 hj
   by_cases e:i=k
   ·subst e
    have:eI.rd (initF (i+1) i)=(i:Int)+1:=by show rdI (initF (i+1) i) 0=_;unfold rdI;rw[hk]
    rw[this,hk]
    exact D.eqv_refl _
   ·rw[hl i (by omega)]
    exact ih.1 i 0 (by omega) hj
  ·unfold Enc.list M.initC
   rw[List.range_succ,List.map_append,List.map_append]
   congr 1
   ·rw[show(List.range k).map (fun i=>eI.rd (initF (k+1) i))=(List.range k).map (fun i=>eI.rd (initF k i))from List.map_congr_left fun i hi=>by rw[hl i (List.mem_range.1 hi)]]
    exact ih.2
   ·show[rdI (initF (k+1) k) 0]=_
    unfold rdI;rw[hk];rfl
def dom70z(B:Nat):DomF
 |[.c (.sl _ n_rows st_rows F_rows),.c (.sl _ n_costs st_costs F_costs)]=>(match Nat.beq st_rows 2&&Nat.beq st_costs 1 with
  |true=>some ([eRw.Is n_rows F_rows,eI.Is n_costs F_costs,BOK B (eRw.list n_rows F_rows) (eI.list n_costs F_costs)],resRC (M.rbest (eRw.list n_rows F_rows) (eI.list n_costs F_costs)))
  |_=>none)
 |_=>none
def v70z(B:Nat):Nat×Sm:=(70,fokSm (dom70z B))
theorem C70z{B:Nat}(hS:SumOK Try.prog G0 gw 143 (fokSm (dom143g B))):FOK Try.prog G0 gw 70 (dom70z B):=by
 intro ags p r hd hp κ w xs hw hl hG hx
 unfold dom70z at hd
 split at hd
 ·rename_i q_rows n_rows st_rows F_rows q_costs n_costs st_costs F_costs
  split at hd
  ·rename_i hst
   rw[Bool.and_eq_true]at hst
   obtain⟨g1,g2⟩:=hst
   have g1:=Nat.eq_of_beq_eq_true g1
   have g2:=Nat.eq_of_beq_eq_true g2
   subst g1 g2
   simp only[Option.some.injEq,Prod.mk.injEq]at hd
   obtain⟨rfl,rfl⟩:=hd
   obtain⟨hI_rows,hI_costs,hp⟩:=hp
   have heq:agsEqv [.c (.sl q_rows n_rows 2 F_rows),.c (.sl q_costs n_costs 1 F_costs)] [.c (.sl q_rows (eRw.list n_rows F_rows).length 2 (eRw.F (eRw.list n_rows F_rows))),.c (.sl q_costs (eI.list n_costs F_costs).length 1 (eI.F (eI.list n_costs F_costs)))]:=⟨eRw.to id hI_rows,eI.to id hI_costs,trivial⟩
   have len_rows:(eRw.list n_rows F_rows).length=n_rows:=eRw.list_len
   have len_costs:(eI.list n_costs F_costs).length=n_costs:=eI.list_len
   generalize eRw.list n_rows F_rows=rows at *
   generalize eI.list n_costs F_costs=costs at *
   subst len_rows len_costs
   have hb:=hp.1
   match costs,hb.n1,hb.n5 with
   |[r0],_,_=>exact fokX_fin mixed gw_stable (sl:=[v120z B]) ⟨S120z hS,trivial⟩ Try.func70 hw hl hG hx heq rfl (t70_1 B _ _ rows r0) (w70_1 hb rfl)
   |[r0,r1],_,_=>exact fokX_fin mixed gw_stable (sl:=[v143g B]) ⟨hS,trivial⟩ Try.func70 hw hl hG hx heq rfl (t70_2 B _ _ rows r0 r1) (w70 hb rfl (pre70_all 1 (by decide)) (initF_spec 1).1 (initF_spec 1).2)
   |[r0,r1,r2],_,_=>exact fokX_fin mixed gw_stable (sl:=[v143g B]) ⟨hS,trivial⟩ Try.func70 hw hl hG hx heq rfl (t70_3 B _ _ rows r0 r1 r2) (w70 hb rfl (pre70_all 2 (by decide)) (initF_spec 2).1 (initF_spec 2).2)
   |[r0,r1,r2,r3],_,_=>exact fokX_fin mixed gw_stable (sl:=[v143g B]) ⟨hS,trivial⟩ Try.func70 hw hl hG hx heq rfl (t70_4 B _ _ rows r0 r1 r2 r3) (w70 hb rfl (pre70_all 3 (by decide)) (initF_spec 3).1 (initF_spec 3).2)
   |[r0,r1,r2,r3,r4],_,_=>exact fokX_fin mixed gw_stable (sl:=[v143g B]) ⟨hS,trivial⟩ Try.func70 hw hl hG hx heq rfl (t70_5 B _ _ rows r0 r1 r2 r3 r4) (w70 hb rfl (pre70_all 4 (by decide)) (initF_spec 4).1 (initF_spec 4).2)
   |r0::r1::r2::r3::r4::r5::l,_,h5=>exact absurd h5 (by simp only[List.length_cons];omega)
  ·cases hd
 ·cases hd
theorem S70z{B:Nat}(hS:SumOK Try.prog G0 gw 143 (fokSm (dom143g B))):SumOK Try.prog G0 gw 70 (fokSm (dom70z B)):=fok_sum Try.func70 rfl (C70z hS)
end Go.Bl
end
section
set_option maxRecDepth 100000
namespace Go.Bl
open Go.V Go.Proofs Go.Lp
def bits(n u:Nat):List Bool:=(List.range n).map u.testBit
theorem bits_get{n u k:Nat}(h:k<n):(bits n u).getD k false=u.testBit k:=by
 unfold bits;rw[map_getD h]
theorem bits_set:∀n,n≤5→∀u,u<32→∀k,k<n→(bits n u).set k true=bits n (u |||2^k):=by decide +kernel
theorem bits_zero(n:Nat):bits n 0=List.replicate n false:=by
 refine List.ext_getElem (by simp[bits]) fun i h1 h2=>?_
 simp[bits]
theorem ro_row{n:Nat}{r:List Int}{u:Nat}{rec:Int→Int}{sub:List Bool→Int}{a:Nat→Nat→Int}{i:Nat}(hn:n≤5)(hu:u<32)(hr:r.length=n)(ha:∀k,k<n→a i k=r.getD k 0)
  (hs:∀k,k<n→u.testBit k=false→sub (bits n (u |||2^k))=rec (M.use u k)) :
  ∀(d k:Nat) (acc sg:Int),k+d=n→(sg=1∨sg= -1)→M.roV a sub i (bits n u) (List.range' k d) acc sg=M.minorRow rec u (r.drop k) k acc sg:=by
 intro d
 induction d with
 |zero=>
  intro k acc sg hk _
  rw[List.drop_of_length_le (by omega)];rfl
 |succ d ih=>
  intro k acc sg hk hsg
  have hkn:k<n:=by omega
  rw[drop_cons (d:=0) (by omega:k<r.length)]
  show(match (bits n u).getD k false with|true=>_|false=>_)=_
  simp only[M.minorRow]
  rw[isUsed_eq u hu k (by omega),bits_get hkn]
  have hcast:((k:Nat):Int)+1=((k+1:Nat):Int):=by omega
  rw[hcast]
  cases hb:u.testBit k with
  |true=>exact ih (k+1) acc sg (by omega) hsg
  |false=>
   have hneg:IntKind.i64.wrap (0-sg)= -sg:=by rcases hsg with rfl|rfl <;>decide
   rw[hneg,cond_false,bits_set n hn u hu k hkn,hs k hkn hb,ha k hkn]
   exact ih (k+1) _ _ (by omega) (by rcases hsg with rfl|rfl <;>simp)
theorem mi_minor{n:Nat}{m:List (List Int)}(hn:n≤5)(hl:m.length=n)(hrow:∀r,r∈m→r.length=n):∀(d i u:Nat),i+d=n→u<32→M.miV n (fun i j=>(m.getD i []).getD j 0) d i (bits n u)=M.minor m d i u:=by
 intro d
 induction d with
 |zero=>intro i u _ _;rfl
 |succ d ih=>
  intro i u hi hu
  have hmem:m.getD i []∈m:=getD_mem (by omega)
  simp only[M.minor,M.miV]
  rw[show((i:Nat):Int).toNat=i by omega,show((i:Nat):Int)+1=((i+1:Nat):Int) by omega]
  have key:=ro_row (n:=n) (r:=m.getD i []) (u:=u) (rec:=fun u=>M.minor m d ((i+1:Nat):Int) u) (sub:=M.miV n (fun i j=>(m.getD i []).getD j 0) d (i+1)) (a:=fun i j=>(m.getD i []).getD j 0) (i:=i) hn hu (hrow _ hmem) (fun k hk=>rfl) (fun k hk hb=>by
   rw[use_eq u hu k (by omega)]
   exact ih (i+1) _ (by omega) (or_lt u hu k (by omega))) n 0 0 1 (by omega) (.inl rfl)
  rw[List.drop_zero,←List.range_eq_range']at key
  exact key
theorem rdet_det{n:Nat}{m:List (List Int)}(hn:n≤5)(hl:m.length=n)(hrow:∀r,r∈m→r.length=n):M.rdet n m=M.det m:=by
 unfold M.rdet M.det
 rw[←bits_zero,hl]
 exact mi_minor hn hl hrow n 0 0 (by omega) (by decide)
theorem setCol_row{n k:Nat}{m:List (List Int)}{r:List Int}(hl:m.length=n)(hrow:∀x,x∈m→x.length=n):∀x,x∈M.setCol m k r→x.length=n:=by
 intro x hx
 unfold M.setCol at hx
 obtain⟨i,hi,rfl⟩:=List.mem_map.1 hx
 rw[List.length_set]
 exact hrow _ (getD_mem (List.mem_range.1 hi))
theorem neg_neg_cond{x:Int}(h:x.natAbs<9223372036854775808):cond (decide (x<0)) (M.neg x) x=(x.natAbs:Int):=by
 rw[neg_ok h]
 by_cases hx:x<0
 ·rw[decide_eq_true hx];show -x=_;omega
 ·rw[decide_eq_false hx];show x=_;omega
theorem rsolve_eq{n:Nat}{m:List (List Int)}{r:List Int}(h:Sq n m)(hr:∀i,(r.getD i 0).natAbs≤10000):M.rsl m r=M.sol m r∧M.rdn m r=M.den m r:=by
 have hd:=rdet_det h.n5 h.len h.row
 have hs:∀k,k<n→M.rdet n (M.setCol m k r)=M.det (M.setCol m k r):=fun k hk=>rdet_det h.n5 (by rw[setCol_len];exact h.len) (setCol_row h.len h.row)
 have hdi:=h.det
 unfold M.rsl M.rdn M.rsol M.rden M.rsolve
 rw[h.len,hd]
 cases hz:M.det m==0
 ·simp only[cond_false]
  have hne:DI en m (List.range n)≠0:=by rw[←hdi];intro e;rw[e]at hz;exact absurd hz (by decide)
  obtain⟨e1,e2,e3⟩:=solve_exact h hr hne
  constructor
  ·unfold M.sol M.solve
   rw[hz,h.len]
   show List.map _ _=List.map _ _
   exact List.map_congr_left fun k hk=>by rw[hs k (List.mem_range.1 hk)]
  ·rw[e1,neg_neg_cond (by rw[hdi];exact h.det_b),hdi]
 ·simp only[cond_true]
  unfold M.sol M.den M.solve
  rw[hz]
  exact⟨rfl,rfl⟩
theorem altI_smul(k:Int){f:Nat→List Nat→Int}:∀{l:List Nat},altI (fun c cs=>k*f c cs) l=k*altI f l:=by
 intro l
 induction l generalizing f with
 |nil=>simp[altI]
 |cons c l ih=>
  simp only[altI]
  rw[ih]
  grind
theorem DI_scale{f:Nat→Nat→Int}{σ:Nat→Int}:∀{rows:List Nat} {cols:List Nat},DI (fun r c=>σ r*f r c) rows cols=(rows.foldr (fun r p=>σ r*p) 1)*DI f rows cols:=by
 intro rows
 induction rows with
 |nil=>intro cols;simp[DI]
 |cons r rows ih=>
  intro cols
  simp only[DI,List.foldr_cons]
  rw[←altI_smul]
  refine altI_congr_mem fun c cs _ _=>?_
  rw[ih]
  grind
end Go.Bl
end
section
set_option maxRecDepth 100000
namespace Go.Bl
open Go.V Go.Proofs
namespace M
end M
def litI(l:List Int):Nat→Nat→D:=fun i j=>List.getD (l.map fun x=>D.int .i64 x) (i*1+j) .nilp
def rwD(r:Rw):List D:=[.sl true r.co.length 1 (litI r.co),dI r.le]
def lit2(rs:List Rw):Nat→Nat→D:=fun i j=>List.getD (rs.flatMap rwD) (i*2+j) .nilp
def joinAll:Nat→(Nat→Nat→D)→List (List Rw)→(Nat→Nat→D)
 |_,F,[]=>F
 |k,F,r::l=>joinAll (k+r.length) (joinF k F (lit2 r)) l
def nd2(i n:Nat):List Prop:=[(0:Int)≤(i:Int),(i:Int)<(n:Int)]
def le2(a b:Nat):List Prop:=[a≤1000000,b≤b]
theorem all_flat{α:Type}{f:α→List Prop}:∀{l:List α},(∀x,x∈l→All (f x))→All (l.flatMap f):=by
 intro l
 induction l with
 |nil=>intro _;trivial
 |cons x l ih=>
  intro h
  rw[List.flatMap_cons]
  exact All.append.2 ⟨h x (List.mem_cons_self ..),ih fun y hy=>h y (List.mem_cons_of_mem _ hy)⟩
theorem nd2_all{i n:Nat}(h:i<n):All (nd2 i n):=⟨by omega,by omega,trivial⟩
theorem le2_all{a b:Nat}(h:a≤1000000):All (le2 a b):=⟨h,Nat.le_refl _,trivial⟩
theorem litI_eqv(q q':Bool)(hq:q'=true→q=true)(l:List Int):(D.sl q l.length 1 (litI l)).eqv (.sl q' l.length 1 (eI.F l)):=by
 refine⟨hq,rfl,fun _=>rfl,fun i j hi hj=>?_⟩
 obtain rfl:j=0:=Nat.lt_one_iff.1 hj
 unfold litI
 rw[Nat.mul_one,Nat.add_zero,List.getD_eq_getElem?_getD,List.getElem?_map,List.getElem?_eq_getElem hi]
 show(dI l[i]).eqv (dI (l.getD i 0))
 rw[List.getD_eq_getElem?_getD,List.getElem?_eq_getElem hi]
 exact D.eqv_refl _
def IsRw(k:Nat)(F:Nat→Nat→D)(rs:List Rw):Prop:=rs.length=k∧∀i j,i<k→j<2→(F i j).eqv (eRw.F rs i j)
theorem lit2_is(rs:List Rw):IsRw rs.length (lit2 rs) rs:=by
 refine⟨rfl,?_⟩
 induction rs with
 |nil=>intro i j hi;exact absurd hi (Nat.not_lt_zero i)
 |cons r rs ih=>
  intro i j hi hj
  cases i with
  |zero=>
   match j,hj with
   |0,_=>exact litI_eqv true false (fun e=>by cases e) r.co
   |1,_=>exact D.eqv_refl _
  |succ i=>
   have:=ih i j (by simpa using hi) hj
   have e:lit2 (r::rs) (i+1) j=lit2 rs i j:=by
    unfold lit2
    rw[List.flatMap_cons]
    have hl:(rwD r).length=2:=rfl
    rw[List.getD_eq_getElem?_getD,List.getElem?_append_right (by rw[hl];omega),hl,show(i+1)*2+j-2=i*2+j by omega,←List.getD_eq_getElem?_getD]
   rw[e]
   exact this
theorem IsRw.join{k:Nat}{F:Nat→Nat→D}{a b:List Rw}(h:IsRw k F a):IsRw (k+b.length) (joinF k F (lit2 b)) (a++b):=by
 refine⟨by rw[List.length_append,h.1],fun i j hi hj=>?_⟩
 unfold joinF
 by_cases hk:i<k
 ·rw[show Nat.blt i k=true from by rw[Nat.blt_eq];exact hk]
  have:=h.2 i j hk hj
  have e:eRw.F (a++b) i=eRw.F a i:=by
   unfold Enc.F
   rw[List.getD_eq_getElem?_getD,List.getElem?_append_left (by rw[h.1];exact hk),←List.getD_eq_getElem?_getD]
  rw[e];exact this
 ·rw[show Nat.blt i k=false from by rw[←Bool.not_eq_true,Nat.blt_eq];exact hk]
  have:=(lit2_is b).2 (i-k) j (by omega) hj
  have e:eRw.F (a++b) i=eRw.F b (i-k):=by
   unfold Enc.F
   rw[List.getD_eq_getElem?_getD,List.getElem?_append_right (by rw[h.1];omega),h.1,←List.getD_eq_getElem?_getD]
  rw[e];exact this
theorem joinAll_is:∀{L:List (List Rw)} {k:Nat} {F:Nat→Nat→D} {a:List Rw},IsRw k F a→IsRw (k+L.flatten.length) (joinAll k F L) (a++L.flatten):=by
 intro L
 induction L with
 |nil=>
  intro k F a h
  show IsRw (k+0) F (a++ [])
  rw[List.append_nil];exact h
 |cons r L ih=>
  intro k F a h
  have:=ih (h.join (b:=r))
  simp only[List.flatten_cons,List.length_append]at this ⊢
  rw[List.append_assoc,Nat.add_assoc]at this
  exact this
theorem lenC1{l:List Cask}(h:l.length=1):∃a,l=[a]:=by match l,h with|[a],_=>exact⟨_,rfl⟩
theorem lenC2{l:List Cask}(h:l.length=2):∃a b,l=[a,b]:=by match l,h with|[a,b],_=>exact⟨_,_,rfl⟩
theorem lenC3{l:List Cask}(h:l.length=3):∃a b c,l=[a,b,c]:=by match l,h with|[a,b,c],_=>exact⟨_,_,_,rfl⟩
theorem lenC4{l:List Cask}(h:l.length=4):∃a b c d,l=[a,b,c,d]:=by match l,h with|[a,b,c,d],_=>exact⟨_,_,_,_,rfl⟩
end Go.Bl
end
section
set_option maxRecDepth 100000
namespace Go.Bl
open Go.V Go.Proofs Go.Lp
def negC(c:Cond):Rw:=⟨c.coefs.map fun x=> -x, -c.limit⟩
def rowsN(sh:List Int)(sum:Int)(cs:List Cond):List Rw:=⟨sh,sum⟩::cs.map negC
def tOf(cs:List Cond)(ch:List Int):List Cond:=ch.map fun i=>cs.getD (i.toNat-1) dK
def Big(n:Nat)(sh:List Int)(sum:Int)(cs:List Cond):Prop:=∀set:List Cond,set.length+1=n→(∀c,c∈set→c∈cs)→DI en (M.mat sh set) (List.range n)≠0→∀c,c∈cs →
  (dl n c.coefs (M.sol (M.mat sh set) (M.right sum set))).natAbs<9223372036854775808∧(c.limit*M.den (M.mat sh set) (M.right sum set)).natAbs<9223372036854775808
theorem dot_wrap:∀(p q:List Int) (acc:Int),p.length=q.length→M.dot p q (IntKind.i64.wrap acc)=IntKind.i64.wrap (acc+dl p.length p q):=by
 intro p
 induction p with
 |nil=>intro q acc h;cases q with
  |nil=>simp[M.dot,dl,smI]
  |cons b q=>simp at h
 |cons a p ih=>
  intro q acc h
  cases q with
  |nil=>simp at h
  |cons b q=>
   show M.dot p q (IntKind.i64.wrap (IntKind.i64.wrap acc+IntKind.i64.wrap (a*b)))=_
   have e:IntKind.i64.wrap (IntKind.i64.wrap acc+IntKind.i64.wrap (a*b))=IntKind.i64.wrap (acc+a*b):=by
    rw[wrap_add_wrap,Int.add_comm,wrap_add_wrap,Int.add_comm]
   rw[e,ih q _ (by simpa using h),List.length_cons,dl_cons]
   congr 1;omega
theorem dot_wrap0{p q:List Int}(h:p.length=q.length):M.dot p q 0=IntKind.i64.wrap (dl p.length p q):=by
 have:=dot_wrap p q 0 h
 rw[show IntKind.i64.wrap 0=0 from rfl,Int.zero_add]at this
 exact this
theorem en_neg(l:List Int)(j:Nat):en (l.map fun x=> -x) j= - en l j:=by
 unfold en
 rw[List.getD_eq_getElem?_getD,List.getD_eq_getElem?_getD,List.getElem?_map]
 cases l[j]? <;>rfl
theorem dl_neg(n:Nat)(a b:List Int):dl n (a.map fun x=> -x) b= - dl n a b:=by
 unfold dl
 rw[←smI_neg]
 exact smI_congr fun c _=>by rw[en_neg,Int.neg_mul]
theorem rkeeps_iff{x:List Int}{den:Int}:∀{rows:List Rw},M.rkeeps x den rows=true↔∀r,r∈rows→¬M.dot r.co x 0<w64 (r.le*den):=by
 intro rows
 induction rows with
 |nil=>simp[M.rkeeps]
 |cons r l ih=>
  unfold M.rkeeps
  by_cases h:M.dot r.co x 0<w64 (r.le*den)
  ·rw[decide_eq_true h]
   constructor
   ·intro e;cases e
   ·intro e;exact absurd h (e r (List.mem_cons_self ..))
  ·rw[decide_eq_false h]
   show M.rkeeps x den l=true↔_
   rw[ih]
   constructor
   ·intro e d hd
    rcases List.mem_cons.1 hd with rfl|hd
    ·exact h
    ·exact e d hd
   ·intro e d hd;exact e d (List.mem_cons_of_mem _ hd)
def sgn(i:Nat):Int:=if i=0 then 1 else -1
theorem sgn_prod:∀l:List Nat,l.foldr (fun r p=>sgn r*p) 1=1∨l.foldr (fun r p=>sgn r*p) 1= -1:=by
 intro l
 induction l with
 |nil=>exact .inl rfl
 |cons a l ih=>
  rw[List.foldr_cons]
  unfold sgn at ih ⊢
  rcases ih with h|h <;>rw[h] <;>split <;>simp
section
variable {n : Nat} {sh wo : List Int} {sum : Int} {cs : List Cond} {ch : List Int}
theorem val_idx(hv:Val (n-1) ((cs.length:Int)+1) ch):∀v,v∈ch→1≤v∧v.toNat-1<cs.length:=by
 intro v hm
 obtain⟨i,hi,rfl⟩:=List.getElem_of_mem hm
 have hl:=hv.len
 have h1:=hv.lo i (by omega)
 have h2:=hv.hi i (by omega)
 have e:ch.getD i 0=ch[i]:=by simp[hi]
 rw[e]at h1 h2
 omega
theorem rrow_succ{v:Int}(h1:1≤v)(h2:v.toNat-1<cs.length):M.rrow (rowsN sh sum cs) v=negC (cs.getD (v.toNat-1) dK):=by
 unfold M.rrow rowsN
 obtain⟨q,hq⟩:∃q,v.toNat=q+1:=⟨v.toNat-1,by omega⟩
 rw[hq]at h2 ⊢
 rw[Nat.add_sub_cancel]at h2 ⊢
 rw[List.getD_cons_succ,List.getD_eq_getElem?_getD,List.getElem?_map,List.getD_eq_getElem?_getD,List.getElem?_eq_getElem h2]
 rfl
theorem rmat_t(hv:Val (n-1) ((cs.length:Int)+1) ch):M.rmat (rowsN sh sum cs) ch=sh::(tOf cs ch).map fun c=>c.coefs.map fun x=> -x:=by
 unfold M.rmat tOf
 rw[List.map_map]
 congr 1
 exact List.map_congr_left fun v hm=>by
  obtain⟨h1,h2⟩:=val_idx hv v hm
  rw[rrow_succ h1 h2];rfl
theorem rright_t(hv:Val (n-1) ((cs.length:Int)+1) ch):M.rright (rowsN sh sum cs) ch=sum::(tOf cs ch).map fun c=> -c.limit:=by
 unfold M.rright tOf
 rw[List.map_map]
 congr 1
 exact List.map_congr_left fun v hm=>by
  obtain⟨h1,h2⟩:=val_idx hv v hm
  rw[rrow_succ h1 h2];rfl
theorem tOf_mem(hv:Val (n-1) ((cs.length:Int)+1) ch):∀c,c∈tOf cs ch→c∈cs:=by
 intro c hc
 obtain⟨v,hm,rfl⟩:=List.mem_map.1 hc
 exact getD_mem (val_idx hv v hm).2
theorem tOf_len(hv:Val (n-1) ((cs.length:Int)+1) ch)(hn:1≤n):(tOf cs ch).length+1=n:=by
 have:=hv.len
 simp[tOf];omega
theorem rmat_en(hv:Val (n-1) ((cs.length:Int)+1) ch)(i c:Nat):en ((M.rmat (rowsN sh sum cs) ch).getD i []) c=sgn i*en ((M.mat sh (tOf cs ch)).getD i []) c:=by
 rw[rmat_t hv]
 cases i with
 |zero=>show en sh c=1*en sh c;rw[Int.one_mul]
 |succ q=>
  rw[matS,List.getD_cons_succ,List.getD_eq_getElem?_getD,List.getElem?_map,List.getD_eq_getElem?_getD]
  show _= -1*_
  cases (tOf cs ch)[q]? with
  |none=>show en [] c= -1*en [] c;unfold en;simp
  |some d=>show en (d.coefs.map _) c= -1*en d.coefs c;rw[en_neg];omega
theorem rright_get(hv:Val (n-1) ((cs.length:Int)+1) ch)(i:Nat):(M.rright (rowsN sh sum cs) ch).getD i 0=sgn i*(M.right sum (tOf cs ch)).getD i 0:=by
 rw[rright_t hv]
 cases i with
 |zero=>show sum=1*sum;rw[Int.one_mul]
 |succ q=>
  rw[rightS,List.getD_cons_succ,List.getD_eq_getElem?_getD,List.getElem?_map,List.getD_eq_getElem?_getD]
  show _= -1*_
  cases (tOf cs ch)[q]? with
  |none=>rfl
  |some d=>show -d.limit= -1*d.limit;omega
theorem rmat_sq(h:Small n sh wo sum cs)(hv:Val (n-1) ((cs.length:Int)+1) ch):Sq n (M.rmat (rowsN sh sum cs) ch):=by
 have hq:=h.sq (tOf_len hv h.n1) (tOf_mem hv)
 have hl:(M.rmat (rowsN sh sum cs) ch).length=n:=by rw[rmat_t hv];have:=tOf_len hv h.n1;simp;omega
 refine⟨h.n5,hl,fun r hr=>?_,fun r hr c=>?_⟩
 ·rw[rmat_t hv]at hr
  rcases List.mem_cons.1 hr with rfl|hr
  ·exact h.sl
  ·obtain⟨d,hd,rfl⟩:=List.mem_map.1 hr
   rw[List.length_map]
   exact h.cl d (tOf_mem hv d hd)
 ·obtain⟨i,hi,rfl⟩:=List.getElem_of_mem hr
  have e:(M.rmat (rowsN sh sum cs) ch).getD i []=(M.rmat (rowsN sh sum cs) ch)[i]:=by simp[hi]
  rw[←e,rmat_en hv,Int.natAbs_mul]
  have h1:(sgn i).natAbs=1:=by unfold sgn;split <;>rfl
  rw[h1,Nat.one_mul]
  exact hq.ent _ (getD_mem (by rw[hq.len];omega)) c
theorem rright_small(h:Small n sh wo sum cs)(hv:Val (n-1) ((cs.length:Int)+1) ch)(i:Nat):((M.rright (rowsN sh sum cs) ch).getD i 0).natAbs≤10000:=by
 rw[rright_get hv,Int.natAbs_mul]
 have h1:(sgn i).natAbs=1:=by unfold sgn;split <;>rfl
 rw[h1,Nat.one_mul]
 exact h.rs (tOf_mem hv) i
theorem rmat_DI(h:Small n sh wo sum cs)(hv:Val (n-1) ((cs.length:Int)+1) ch):(DI en (M.rmat (rowsN sh sum cs) ch) (List.range n)).natAbs=(DI en (M.mat sh (tOf cs ch)) (List.range n)).natAbs:=by
 rw[DI_idx (rmat_sq h hv).len,DI_idx (h.sq (tOf_len hv h.n1) (tOf_mem hv)).len]
 rw[DI_congr (g:=fun i c=>sgn i*en ((M.mat sh (tOf cs ch)).getD i []) c) (fun i _ c _=>rmat_en hv i c),DI_scale,Int.natAbs_mul]
 rcases sgn_prod (List.range n)with e|e <;>rw[e] <;>simp
theorem nat_ne{a b:Int}(h:a.natAbs=b.natAbs)(hb:b≠0):a≠0:=by omega
theorem list_en{a b:List Int}(hl:a.length=b.length)(h:∀k,k<a.length→a.getD k 0=b.getD k 0):a=b:=by
 refine List.ext_getElem hl fun i h1 h2=>?_
 have:=h i h1
 simpa[h1,h2]using this
theorem sol_same(h:Small n sh wo sum cs)(hv:Val (n-1) ((cs.length:Int)+1) ch)(hd:DI en (M.mat sh (tOf cs ch)) (List.range n)≠0) :
  M.sol (M.rmat (rowsN sh sum cs) ch) (M.rright (rowsN sh sum cs) ch)=M.sol (M.mat sh (tOf cs ch)) (M.right sum (tOf cs ch))∧M.den (M.rmat (rowsN sh sum cs) ch) (M.rright (rowsN sh sum cs) ch)=M.den (M.mat sh (tOf cs ch)) (M.right sum (tOf cs ch)):=by
 have hq:=h.sq (tOf_len hv h.n1) (tOf_mem hv)
 have hr:=h.rs (set:=tOf cs ch) (tOf_mem hv)
 have hq2:=rmat_sq h hv
 have hr2:=rright_small h hv
 have hd2:=nat_ne (rmat_DI h hv) hd
 obtain⟨e1,e2,e3⟩:=solve_exact hq hr hd
 obtain⟨f1,f2,f3⟩:=solve_exact hq2 hr2 hd2
 have hden:M.den (M.rmat (rowsN sh sum cs) ch) (M.rright (rowsN sh sum cs) ch)=M.den (M.mat sh (tOf cs ch)) (M.right sum (tOf cs ch)):=by rw[e1,f1,rmat_DI h hv]
 refine⟨list_en (by rw[e2,f2]) fun k hk=>?_,hden⟩
 rw[f2]at hk
 obtain⟨x,hx⟩:=sol_ex (M.right sum (tOf cs ch)) hq.len hd
 apply Rat.intCast_inj.1
 rw[sol_spec hq hr hd hx k hk,←hden]
 refine sol_spec hq2 hr2 hd2 (x:=x) (fun i hi=>?_) k hk
 rw[rright_get hv,Rat.intCast_mul,←hx i hi,←sm_smul]
 refine sm_congr fun c _=>?_
 rw[rmat_en hv,Rat.intCast_mul];grind
theorem turned_same(h:Small n sh wo sum cs)(hv:Val (n-1) ((cs.length:Int)+1) ch)(hd:DI en (M.mat sh (tOf cs ch)) (List.range n)≠0) :
  (M.sol (M.turned (M.rmat (rowsN sh sum cs) ch)) wo).length=n∧M.den (M.turned (M.rmat (rowsN sh sum cs) ch)) wo≠0∧∀k,k<n→(M.sol (M.turned (M.rmat (rowsN sh sum cs) ch)) wo).getD k 0=sgn k*(M.sol (M.turned (M.mat sh (tOf cs ch))) wo).getD k 0:=by
 have hq:=h.sq (tOf_len hv h.n1) (tOf_mem hv)
 have hq2:=rmat_sq h hv
 have hw:=h.ws
 have hd2:=nat_ne (rmat_DI h hv) hd
 have hqT:=hq.turned
 have hqT2:=hq2.turned
 have hdT:=turned_ne hq hd
 have hdT2:=turned_ne hq2 hd2
 obtain⟨e1,e2,e3⟩:=solve_exact hqT hw hdT
 obtain⟨f1,f2,f3⟩:=solve_exact hqT2 hw hdT2
 have hden:M.den (M.turned (M.rmat (rowsN sh sum cs) ch)) wo=M.den (M.turned (M.mat sh (tOf cs ch))) wo:=by rw[e1,f1,turned_DI hq.len,turned_DI hq2.len,rmat_DI h hv]
 have hp:=den_pos hqT2 hw hdT2
 refine⟨f2,by omega,fun k hk=>?_⟩
 obtain⟨x,hx⟩:=sol_ex wo hqT.len hdT
 apply Rat.intCast_inj.1
 rw[Rat.intCast_mul,sol_spec hqT hw hdT hx k hk,←hden]
 have:=sol_spec hqT2 hw hdT2 (x:=fun i=>((sgn i:Int):Rat)*x i) (fun j hj=>?_) k hk
 ·rw[this];grind
 ·rw[←hx j hj]
  refine sm_congr fun i hi=>?_
  have hi:=List.mem_range.1 hi
  rw[turned_at hq2 hj hi,turned_at hq hj hi,rmat_en hv,Rat.intCast_mul]
  have hs:sgn i*sgn i=1:=by unfold sgn;split <;>rfl
  have:((sgn i:Int):Rat)*((sgn i:Int):Rat)=1:=by rw[←Rat.intCast_mul,hs];rfl
  grind
theorem rat_corner(h:Small n sh wo sum cs)(hB:Big n sh sum cs)(hv:Val (n-1) ((cs.length:Int)+1) ch) :
  (M.rat (rowsN sh sum cs) wo ch=none∧M.corner sh sum wo cs (tOf cs ch)=none)∨∃v y,M.rat (rowsN sh sum cs) wo ch=some v∧M.corner sh sum wo cs (tOf cs ch)=some y∧y.pt=v.pt∧y.den=v.pd:=by
 have hq:=h.sq (tOf_len hv h.n1) (tOf_mem hv)
 have hr:=h.rs (set:=tOf cs ch) (tOf_mem hv)
 have hq2:=rmat_sq h hv
 have hr2:=rright_small h hv
 have hw:=h.ws
 have htl:=tOf_len hv h.n1
 have htm:=tOf_mem hv
 obtain⟨r1,r2⟩:=rsolve_eq hq2 hr2
 obtain⟨t1,t2⟩:=rsolve_eq hq2.turned hw
 unfold M.rat M.corner
 rw[r1,r2,t1,t2]
 by_cases hd:DI en (M.mat sh (tOf cs ch)) (List.range n)=0
 ·have hd2:DI en (M.rmat (rowsN sh sum cs) ch) (List.range n)=0:=by have:=rmat_DI h hv;omega
  rw[solve_den hq hd,solve_den hq2 hd2]
  exact .inl ⟨rfl,rfl⟩
 have hpos:=den_pos hq hr hd
 obtain⟨e1,e2,e3⟩:=solve_exact hq hr hd
 obtain⟨s1,s2⟩:=sol_same h hv hd
 obtain⟨w1,w2,w3⟩:=turned_same h hv hd
 rw[s1,s2]
 have hne:(M.den (M.mat sh (tOf cs ch)) (M.right sum (tOf cs ch))==0)=false:=by
  rw[Bool.eq_false_iff];intro e;have:=eq_of_beq e;omega
 rw[hne]
 have hkeep:M.rkeeps (M.sol (M.mat sh (tOf cs ch)) (M.right sum (tOf cs ch))) (M.den (M.mat sh (tOf cs ch)) (M.right sum (tOf cs ch))) (rowsN sh sum cs)=M.keeps cs (M.sol (M.mat sh (tOf cs ch)) (M.right sum (tOf cs ch))) (M.den (M.mat sh (tOf cs ch)) (M.right sum (tOf cs ch))):=by
  have hk:=keeps_iff (cs:=cs) (pt:=M.sol (M.mat sh (tOf cs ch)) (M.right sum (tOf cs ch))) (den:=M.den (M.mat sh (tOf cs ch)) (M.right sum (tOf cs ch))) (by rw[e2];exact h.keep _ htl htm hd)
  rw[e2]at hk
  have hrows:=sol_rows hq hr hd
  have key:∀c,c∈cs→(¬M.dot (negC c).co (M.sol (M.mat sh (tOf cs ch)) (M.right sum (tOf cs ch))) 0<w64 ((negC c).le*M.den (M.mat sh (tOf cs ch)) (M.right sum (tOf cs ch)))↔dl n c.coefs (M.sol (M.mat sh (tOf cs ch)) (M.right sum (tOf cs ch)))≤c.limit*M.den (M.mat sh (tOf cs ch)) (M.right sum (tOf cs ch))):=by
   intro c hc
   obtain⟨b1,b2⟩:=hB _ htl htm hd c hc
   have hcl:=h.cl c hc
   have hl:(negC c).co.length=n:=by show(c.coefs.map _).length=n;rw[List.length_map];exact hcl
   rw[dot_wrap0 (by rw[hl,e2]),hl]
   show ¬IntKind.i64.wrap (dl n (c.coefs.map fun x=> -x) _)<IntKind.i64.wrap (-c.limit*_)↔_
   rw[dl_neg,Int.neg_mul,wrap_id (by omega) (by omega),wrap_id (by omega) (by omega)]
   omega
  have key0:¬M.dot sh (M.sol (M.mat sh (tOf cs ch)) (M.right sum (tOf cs ch))) 0<w64 (sum*M.den (M.mat sh (tOf cs ch)) (M.right sum (tOf cs ch))):=by
   have:=hrows 0 h.n1
   rw[mat0,right0]at this
   rw[dot_wrap0 (by rw[h.sl,e2]),h.sl,this]
   exact Int.lt_irrefl _
  have hiff:M.rkeeps (M.sol (M.mat sh (tOf cs ch)) (M.right sum (tOf cs ch))) (M.den (M.mat sh (tOf cs ch)) (M.right sum (tOf cs ch))) (rowsN sh sum cs)=true↔M.keeps cs (M.sol (M.mat sh (tOf cs ch)) (M.right sum (tOf cs ch))) (M.den (M.mat sh (tOf cs ch)) (M.right sum (tOf cs ch)))=true:=by
   rw[rkeeps_iff,hk]
   constructor
   ·intro g c hc
    exact(key c hc).1 (g _ (List.mem_cons_of_mem _ (List.mem_map_of_mem hc)))
   ·intro g r hr'
    rcases List.mem_cons.1 hr' with rfl|hr'
    ·exact key0
    ·obtain⟨c,hc,rfl⟩:=List.mem_map.1 hr'
     exact(key c hc).2 (g c hc)
  exact Bool.eq_iff_iff.2 hiff
 rw[hkeep]
 have hnn:M.rnn (M.sol (M.turned (M.rmat (rowsN sh sum cs) ch)) wo) ch.length=M.nonpos (M.sol (M.turned (M.mat sh (tOf cs ch))) wo).tail:=by
  have hdT:=turned_ne hq hd
  obtain⟨t1,t2,t3⟩:=solve_exact hq.turned hw hdT
  have hcl:ch.length+1=n:=by have:=hv.len;have:=h.n1;omega
  refine Bool.eq_iff_iff.2 ?_
  rw[nonpos_iff]
  unfold M.rnn
  rw[List.all_eq_true]
  have htl2:∀q,(M.sol (M.turned (M.mat sh (tOf cs ch))) wo).tail.getD q 0=(M.sol (M.turned (M.mat sh (tOf cs ch))) wo).getD (q+1) 0:=by
   intro q;cases M.sol (M.turned (M.mat sh (tOf cs ch))) wo <;>rfl
  have hlt:(M.sol (M.turned (M.mat sh (tOf cs ch))) wo).tail.length=ch.length:=by rw[List.length_tail,t2];omega
  constructor
  ·intro g x hx
   obtain⟨q,hq',rfl⟩:=List.getElem_of_mem hx
   have hql:q<ch.length:=by omega
   have:=of_decide_eq_true (g q (List.mem_range.2 hql))
   rw[w3 (q+1) (by omega),←htl2 q]at this
   have e:(M.sol (M.turned (M.mat sh (tOf cs ch))) wo).tail.getD q 0=(M.sol (M.turned (M.mat sh (tOf cs ch))) wo).tail[q]:=by simp only[List.getD_eq_getElem?_getD,List.getElem?_eq_getElem hq'];rfl
   rw[e]at this
   have hs:sgn (q+1)= -1:=rfl
   rw[hs]at this
   omega
  ·intro g q hq'
   have hql:=List.mem_range.1 hq'
   refine decide_eq_true ?_
   rw[w3 (q+1) (by omega),←htl2 q]
   have:=g ((M.sol (M.turned (M.mat sh (tOf cs ch))) wo).tail.getD q 0) (getD_mem (by omega))
   have hs:sgn (q+1)= -1:=rfl
   rw[hs]
   omega
 rw[hnn]
 cases M.keeps cs (M.sol (M.mat sh (tOf cs ch)) (M.right sum (tOf cs ch))) (M.den (M.mat sh (tOf cs ch)) (M.right sum (tOf cs ch)))with
 |false=>exact .inl ⟨rfl,rfl⟩
 |true=>
  cases M.nonpos (M.sol (M.turned (M.mat sh (tOf cs ch))) wo).tail with
  |false=>exact .inl ⟨rfl,rfl⟩
  |true=>exact .inr ⟨_,_,rfl,rfl,rfl,rfl⟩
end
end Go.Bl
end
section
set_option maxRecDepth 100000
namespace Go.Bl
open Go.V Go.Proofs Go.Lp
namespace M
end M
theorem within_yes{n lo hi:Int}(h:lo≤n∧n≤hi):M.within n lo hi=true:=by
 unfold M.within
 simp[h.1,h.2]
section
variable {l : List Cask} {s : Sample} {w : Wts}
end
end Go.Bl
end
section
set_option maxRecDepth 100000
namespace Go.Bl
open Go.V Go.Proofs Go.Lp
section
variable {n : Nat} {sh wo : List Int} {sum : Int} {cs : List Cond} {x : M.Corner}
theorem dual_sum(ho:Opt n sh sum wo cs x)(p:List Int):x.wd*dl n wo p=x.each*dl n sh p-smI (fun q=>en x.by_ q*dl n (x.tight.getD q dK).coefs p) (List.range x.tight.length):=by
 have h1:smI (fun j=>(x.each*en sh j-smI (fun q=>en x.by_ q*en (x.tight.getD q dK).coefs j) (List.range x.tight.length))*en p j) (List.range n)=smI (fun j=>x.wd*(en wo j*en p j)) (List.range n):=
  smI_congr fun j hj=>by rw[ho.dual j (List.mem_range.1 hj),Int.mul_comm (en wo j),Int.mul_assoc]
 rw[smI_smul]at h1
 have h2:smI (fun j=>(x.each*en sh j-smI (fun q=>en x.by_ q*en (x.tight.getD q dK).coefs j) (List.range x.tight.length))*en p j) (List.range n)=x.each*dl n sh p-smI (fun q=>en x.by_ q*dl n (x.tight.getD q dK).coefs p) (List.range x.tight.length):=by
  unfold dl
  rw[←smI_smul]
  rw[smI_congr (l:=List.range x.tight.length) (h:=fun q=>smI (fun j=>en x.by_ q*(en (x.tight.getD q dK).coefs j*en p j)) (List.range n)) (fun q _=>by rw[smI_smul]),smI_comm]
  rw[Int.sub_eq_add_neg,←smI_neg,←smI_add]
  refine smI_congr fun j _=>?_
  rw[Int.sub_mul,←Int.sub_eq_add_neg,Int.mul_assoc,Int.mul_comm (smI _ _) (en p j),←smI_smul]
  congr 1
  refine smI_congr fun q _=>?_
  rw[Int.mul_left_comm,Int.mul_comm (en p j)]
 rw[←h2,h1];rfl
theorem opt_le(ho:Opt n sh sum wo cs x){p:List Int}{d:Int}(hs:dl n sh p=sum*d)(ha:∀c,c∈cs→dl n c.coefs p≤c.limit*d)(hd:0<d):dl n wo x.pt*d≤dl n wo p*x.den:=by
 have hst:=opt_strong ho
 have hp:=dual_sum ho p
 have hle:smI (fun q=>en x.by_ q*dl n (x.tight.getD q dK).coefs p) (List.range x.tight.length)≤smI (fun q=>d*(en x.by_ q*(x.tight.getD q dK).limit)) (List.range x.tight.length):=by
  refine smI_le fun q hq=>?_
  have hq:=List.mem_range.1 hq
  have h1:=ha _ (ho.sub.subset (getD_mem (d:=dK) hq))
  have h2:=Int.mul_le_mul_of_nonneg_left h1 (ho.nn q hq)
  rw[←Int.mul_assoc,Int.mul_comm _ d]at h2
  exact h2
 rw[smI_smul]at hle
 obtain⟨B,hB⟩:∃B,B=smI (fun q=>en x.by_ q*(x.tight.getD q dK).limit) (List.range x.tight.length):=⟨_,rfl⟩
 rw[←hB]at hst hle
 rw[hs]at hp
 have hw:=ho.wd
 have hden:=ho.den
 have key:(x.each*sum-B)*d≤x.wd*dl n wo p:=by
  rw[hp,Int.sub_mul,Int.mul_assoc,Int.mul_comm B d]
  omega
 have k2:=Int.mul_le_mul_of_nonneg_right key (Int.le_of_lt hden)
 rw[Int.mul_right_comm,hst]at k2
 rw[Int.mul_assoc,Int.mul_assoc]at k2
 exact Int.le_of_mul_le_mul_left k2 hw
theorem opt_same{cs':List Cond}{y:M.Corner}(ho:Opt n sh sum wo cs x)(ho':Opt n sh sum wo cs' y)(hm:∀c,c∈cs↔c∈cs'):dl n wo x.pt*y.den=dl n wo y.pt*x.den:=
 Int.le_antisymm (opt_le ho ho'.sum (fun c hc=>ho'.all c ((hm c).1 hc)) ho'.den) (opt_le ho' ho.sum (fun c hc=>ho.all c ((hm c).2 hc)) ho.den)
theorem Small.mem(h:Small n sh wo sum cs){cs':List Cond}(hm:∀c,c∈cs'→c∈cs):Small n sh wo sum cs':=
 ⟨h.n1,h.n5,h.sl,h.wl,h.she,h.woe,h.sume,fun c hc=>h.cl c (hm c hc),fun c hc=>h.ce c (hm c hc),fun c hc=>h.le c (hm c hc),fun set hs hc hd c hcc=>h.keep set hs (fun d hd=>hm d (hc d hd)) hd c (hm c hcc)⟩
theorem Big.mem(h:Big n sh sum cs){cs':List Cond}(hm:∀c,c∈cs'→c∈cs):Big n sh sum cs':=
 fun set hs hc hd c hcc=>h set hs (fun d hd=>hm d (hc d hd)) hd c (hm c hcc)
theorem sub_idx{t:List Cond}(h:t.Sublist cs):∃ch:List Int,ch.length=t.length∧tOf cs ch=t∧(∀k,k<ch.length→1≤ch.getD k 0∧ch.getD k 0≤cs.length)∧∀k,k+1<ch.length→ch.getD k 0<ch.getD (k+1) 0:=by
 obtain⟨ix,h1,h2⟩:=List.sublist_eq_map_getElem h
 refine⟨ix.map fun i=>((i.val+1:Nat):Int),by rw[h1];simp,?_,fun k hk=>?_,fun k hk=>?_⟩
 ·rw[h1]
  unfold tOf
  rw[List.map_map]
  refine List.map_congr_left fun i _=>?_
  show cs.getD (((i.val+1:Nat):Int).toNat-1) dK=cs[i]
  rw[Int.toNat_natCast,Nat.add_sub_cancel]
  simp
 ·have hk':k<ix.length:=by simpa using hk
  have e:(ix.map fun i=>((i.val+1:Nat):Int)).getD k 0=((ix[k].val+1:Nat):Int):=by simp[hk']
  rw[e]
  have:=ix[k].isLt
  omega
 ·have hk':k+1<ix.length:=by simpa using hk
  have e1:(ix.map fun i=>((i.val+1:Nat):Int)).getD k 0=((ix[k].val+1:Nat):Int):=by simp[show k<ix.length by omega]
  have e2:(ix.map fun i=>((i.val+1:Nat):Int)).getD (k+1) 0=((ix[k+1].val+1:Nat):Int):=by simp[hk']
  rw[e1,e2]
  have:=List.pairwise_iff_getElem.1 h2 k (k+1) (by omega) hk' (by omega)
  have:ix[k].val<ix[k+1].val:=this
  omega
theorem grow_le{ch:List Int}(hg:∀k,k+1<ch.length→ch.getD k 0<ch.getD (k+1) 0){i:Nat}:∀{j:Nat},i≤j→j<ch.length→ch.getD i 0+((j-i:Nat):Int)≤ch.getD j 0:=by
 intro j
 induction j with
 |zero=>
  intro h1 h2
  obtain rfl:i=0:=by omega
  simp
 |succ j ih=>
  intro h1 h2
  by_cases e:i=j+1
  ·subst e;simp
  ·have:=ih (by omega) (by omega)
   have:=hg j h2
   omega
theorem idx_val{d:Nat}{L:Int}{ch:List Int}(hl:ch.length=d)(hb:∀k,k<ch.length→1≤ch.getD k 0∧ch.getD k 0≤L-1)(hg:∀k,k+1<ch.length→ch.getD k 0<ch.getD (k+1) 0):Val d L ch:=by
 refine⟨hl,fun k hk=>?_,fun k hk=>?_,fun k hk=>hg k (by omega)⟩
 ·have h1:=(hb 0 (by omega)).1
  have:=grow_le hg (i:=0) (j:=k) (by omega) (by omega)
  omega
 ·have h1:=(hb (d-1) (by omega)).2
  have:=grow_le hg (i:=k) (j:=d-1) (by omega) (by omega)
  omega
theorem dl_castR(a p:List Int)(d:Int)(hd:((d:Int):Rat)≠0):sm (fun c=>((en a c:Int):Rat)*(((en p c:Int):Rat)/((d:Int):Rat))) (List.range n)*((d:Int):Rat)=((dl n a p:Int):Rat):=by
 unfold dl
 rw[smI_cast,Rat.mul_comm,←sm_smul]
 refine sm_congr fun c _=>?_
 rw[Rat.intCast_mul]
 have:((en p c:Int):Rat)/((d:Int):Rat)*((d:Int):Rat)=((en p c:Int):Rat):=Rat.div_mul_cancel hd
 rw[Rat.mul_comm,Rat.mul_assoc,this]
theorem opt_psolve{cs':List Cond}(h:Small n sh wo sum cs')(ho:Opt n sh sum wo cs x)(hm:∀c,c∈cs↔c∈cs'):M.psolve sh sum wo cs'≠none:=by
 intro hn
 have hd0:((x.den:Int):Rat)≠0:=by
  intro e1
  have:=Rat.intCast_inj.1 (show((x.den:Int):Rat)=((0:Int):Rat)from e1)
  have:=ho.den;omega
 have hdp:(0:Rat)<((x.den:Int):Rat):=Rat.intCast_lt_intCast.2 ho.den
 have hwp:(0:Rat)<((x.wd:Int):Rat):=Rat.intCast_lt_intCast.2 ho.wd
 have hw0:((x.wd:Int):Rat)≠0:=by
  intro e1
  have:=Rat.intCast_inj.1 (show((x.wd:Int):Rat)=((0:Int):Rat)from e1)
  have:=ho.wd;omega
 have hix:∀q,∃a:Nat,q<x.tight.length→a<cs'.length∧cs'.getD a dK=x.tight.getD q dK:=by
  intro q
  by_cases hq:q<x.tight.length
  ·obtain⟨a,ha,e⟩:=List.getElem_of_mem ((hm _).1 (ho.sub.subset (getD_mem (d:=dK) hq)))
   exact⟨a,fun _=>⟨ha,by rw[←e];simp[ha]⟩⟩
  ·exact⟨0,fun h=>absurd h hq⟩
 obtain⟨ix,hix⟩:=Classical.axiomOfChoice hix
 obtain⟨B,hBd⟩:∃B:List Nat,B=(List.range x.tight.length).map fun q=>ix q+1:=⟨_,rfl⟩
 have hBl:B.length=x.tight.length:=by rw[hBd];simp
 have htl:=ho.tl
 have hrow0:∀c,rowF sh cs' 0 c=((en sh c:Int):Rat):=fun c=>by unfold rowF;rw[mat0]
 have hrow:∀q c,q<x.tight.length→rowF sh cs' (ix q+1) c=((en (x.tight.getD q dK).coefs c:Int):Rat):=by
  intro q c hq
  unfold rowF
  rw[matS,(hix q hq).2]
 have hD:D (rowF sh cs') ([0]++B) (List.range n)≠0:=by
  refine(D_ne (f:=fun a c=>en ((M.mat sh cs').getD a []) c)).2 ?_
  have hne:DI en (M.mat sh x.tight) (List.range n)≠0:=by
   have:=ho.denE;have:=ho.den;omega
  rw[DI_idx (by simp[M.mat];omega)]at hne
  have e:[0]++B=(List.range n).map (fun i=>if i=0 then 0 else ix (i-1)+1):=by
   rw[←htl,List.range_succ_eq_map,List.map_cons,List.map_map,hBd]
   rfl
  rw[e,DI_map]
  rw[DI_congr (g:=fun i c=>en ((M.mat sh x.tight).getD i []) c) (fun i hi c _=>?_)]
  ·exact hne
  ·have hi:=List.mem_range.1 hi
   cases i with
   |zero=>rfl
   |succ q=>
    show en ((M.mat sh cs').getD (ix q+1) []) c=en ((M.mat sh x.tight).getD (q+1) []) c
    rw[matS,matS,(hix q (by omega)).2]
 have hnd:B.Nodup:=Df_nodup (A:=[0]) hD
 have hfind:∀q,q<x.tight.length→B.idxOf (ix q+1)=q:=by
  intro q hq
  have hql:q<B.length:=by omega
  have e:B[q]=ix q+1:=by simp[hBd]
  rw[←e]
  exact List.Nodup.idxOf_getElem hnd q hql
 refine psolve_none h hn (B:=B) (by omega) (fun a ha=>?_) hD ⟨fun a=>if a=0 then((x.each:Int):Rat)/((x.wd:Int):Rat)else-(((en x.by_ (B.idxOf a):Int):Rat)/((x.wd:Int):Rat)),fun a ha=>?_,fun c hc=>?_⟩
  (fun c=>((en x.pt c:Int):Rat)/((x.den:Int):Rat)) ?_ fun c hc=>?_
 ·rw[hBd]at ha
  obtain⟨q,hq,rfl⟩:=List.mem_map.1 ha
  have:=(hix q (List.mem_range.1 hq)).1
  omega
 ·rw[hBd]at ha
  obtain⟨q,hq,rfl⟩:=List.mem_map.1 ha
  have hq:=List.mem_range.1 hq
  show(if ix q+1=0 then _ else _)≤(0:Rat)
  rw[if_neg (by omega),hfind q hq]
  have h1:(0:Rat)≤((en x.by_ q:Int):Rat):=Rat.intCast_nonneg.2 (ho.nn q hq)
  have h3:((en x.by_ q:Int):Rat)/((x.wd:Int):Rat)*((x.wd:Int):Rat)=((en x.by_ q:Int):Rat):=Rat.div_mul_cancel hw0
  have h2:(0:Rat)≤((en x.by_ q:Int):Rat)/((x.wd:Int):Rat):=Rat.le_of_mul_le_mul_right (by rw[h3,Rat.zero_mul];exact h1) hwp
  grind
 ·have hc:=List.mem_range.1 hc
  have hdu:=ho.dual c hc
  have e:((en wo c:Int):Rat)*((x.wd:Int):Rat)=((x.each:Int):Rat)*((en sh c:Int):Rat)-sm (fun q=>((en x.by_ q:Int):Rat)*((en (x.tight.getD q dK).coefs c:Int):Rat)) (List.range x.tight.length):=by
   rw[←Rat.intCast_mul,←hdu,Rat.intCast_sub,Rat.intCast_mul,smI_cast]
   congr 1
   exact sm_congr fun q _=>Rat.intCast_mul _ _
  unfold woF
  rw[hBd,List.singleton_append]
  simp only[sm,sm_map]
  rw[hrow0,if_pos trivial]
  rw[sm_congr (h:=fun q=>(- (1/((x.wd:Int):Rat)))*(((en x.by_ q:Int):Rat)*((en (x.tight.getD q dK).coefs c:Int):Rat))) (fun q hq=>by
   have hq:=List.mem_range.1 hq
   rw[←hBd,if_neg (by omega),hfind q hq,hrow q c hq]
   rw[Rat.div_def,Rat.div_def];grind),sm_smul]
  have e2:((en wo c:Int):Rat)=(((en wo c:Int):Rat)*((x.wd:Int):Rat))/((x.wd:Int):Rat):=(Rat.mul_div_cancel hw0).symm
  rw[e2,e,Rat.div_def,Rat.div_def,Rat.div_def]
  grind
 ·have:=dl_castR (n:=n) sh x.pt x.den hd0
  rw[ho.sum,Rat.intCast_mul]at this
  exact rat_cancel hd0 this
 ·have:=dl_castR (n:=n) c.coefs x.pt x.den hd0
  have hle:=ho.all c ((hm c).2 hc)
  have hle:=Rat.intCast_le_intCast.2 hle
  rw[←this,Rat.intCast_mul]at hle
  exact Rat.le_of_mul_le_mul_right hle hdp
end
end Go.Bl
end
section
set_option maxRecDepth 100000
namespace Go.Bl
open Go.V Go.Proofs Go.Lp
section
variable {l : List Cask} {s : Sample} {w : Wts} {x : M.Corner}
theorem partFrom_ok{den:Int}{ps:List Int}:∀(n i:Nat),(∀j,i≤j→j<i+n→M.partAt l den ps j=0)→M.partFrom l den ps n i=0
 |0,_,_=>rfl
 |n+1,i,h=>by
  unfold M.partFrom
  rw[h i (Nat.le_refl _) (by omega)]
  exact partFrom_ok n (i+1) fun j h1 h2=>h j (by omega) (by omega)
theorem openErr_of(ht:M.taskErr l s=0){pt:List Int}{den far:Int}(hb:Blend l s pt den far)(hd:den≤200000000000)(hl:pt.length=l.length):M.openErr l s den pt=0:=by
 have h:=task_right ht
 have hp:=hb.parts h hd hl
 have hdp:=hb.dp
 have e1:M.partErr l den pt=0:=by
  have e2:M.partHead l den pt=0:=by
   unfold M.partHead
   rw[within_yes hp.den,beq_of_eq (show(pt.length:Int)=(l.length:Int) by rw[hl])];rfl
  unfold M.partErr
  rw[e2]
  refine partFrom_ok _ _ fun j _ hj=>?_
  have hj:j<l.length:=by omega
  have hv:=(h.rc j hj).vol
  have h0:0≤pt.getD j 0:=hb.p0 j hj
  have h1:pt.getD j 0≤(l.getD j dfC).vol*den:=hb.p1 j hj
  have b1:(l.getD j dfC).vol*den≤10000*200000000000:=Int.mul_le_mul hv.2 hd (by omega) (by omega)
  have b0:0≤(l.getD j dfC).vol*den:=Int.mul_nonneg hv.1 (by omega)
  unfold M.partAt
  rw[Int.mul_comm den,wrap_id (by omega) (by omega),decide_eq_true h0,decide_eq_true h1];rfl
 unfold M.openErr
 rw[ht,e1]
 have hv:=(sample_right (s:=s) (by
  have:=ht
  unfold M.taskErr at this
  exact first_nil _ this _ (by simp))).1
 have b1:s.vol*den≤10000*200000000000:=Int.mul_le_mul hv.2 hd (by omega) (by omega)
 have b0:0≤s.vol*den:=Int.mul_nonneg (by omega) (by omega)
 show M.unl (M.sumP (fun _=>1) l pt==IntKind.i64.wrap (den*s.vol)) 14=0
 rw[sum_vol h hp,hb.sum,Int.mul_comm den,wrap_id (by omega) (by omega),beq_of_eq rfl];rfl
end
end Go.Bl
end
section
set_option maxRecDepth 100000
namespace Go.Bl
open Go.V Go.Proofs Go.Lp
namespace M
def rconds(l:List Cask)(s:Sample)(e:Nat):List Cond:=
 ((List.range 4).flatMap fun(k:Nat)=>[(⟨3,k,by_ l (l.length+e) fun c=>IntKind.i64.wrap ((rg s k).lo-val c k),0⟩:Cond),⟨2,k,by_ l (l.length+e) fun c=>IntKind.i64.wrap (val c k-(rg s k).hi),0⟩]) ++
 (((List.range l.length).map fun(i:Nat)=>(⟨1,i,only (l.length+e) i 1,(l.getD i dfC).vol⟩:Cond))++((List.range (l.length+e)).map fun(i:Nat)=>(⟨0,i,only (l.length+e) i (-1),0⟩:Cond)))
end M
section
variable {l : List Cask} {s : Sample} {e : Nat}
theorem rconds_mem(c:Cond):c∈M.limits l s e↔c∈M.rconds l s e:=by
 unfold M.limits M.rconds
 simp only[List.mem_append,List.mem_flatMap,List.mem_map,List.mem_cons,List.not_mem_nil,or_false]
 constructor
 ·rintro ((h|h)|⟨k,hk,h|h⟩)
  ·exact .inr (.inr h)
  ·exact .inr (.inl h)
  ·exact .inl ⟨k,hk,.inr h⟩
  ·exact .inl ⟨k,hk,.inl h⟩
 ·rintro (⟨k,hk,h|h⟩|h|h)
  ·exact .inr ⟨k,hk,.inr h⟩
  ·exact .inr ⟨k,hk,.inl h⟩
  ·exact .inl (.inr h)
  ·exact .inl (.inl h)
theorem rconds_len:(M.rconds l s e).length=8+(l.length+(l.length+e)):=by
 unfold M.rconds
 rw[List.length_append,List.length_append,List.length_map,List.length_map,List.length_range,List.length_range]
 rfl
theorem only_neg(n a:Nat)(x:Int):(M.only n a x).map (fun x=> -x)=M.only n a (-x):=by
 unfold M.only
 rw[List.map_map]
 refine List.map_congr_left fun i _=>?_
 show-cond _ x 0=cond _ (-x) 0
 cases Nat.beq i a <;>rfl
theorem flat_one{f:Nat→Rw}:∀{L:List Nat},(L.map fun i=>[f i]).flatten=L.map f:=by
 intro L
 induction L with
 |nil=>rfl
 |cons x L ih=>rw[List.map_cons,List.flatten_cons,ih];rfl
theorem sol_small(h:RightL l s)(he:e≤1){set:List Cond}(hs:set.length+1=l.length+e)(hm:∀c,c∈set→c∈M.limits l s e)(hd:DI en (M.mat (M.shares l e) set) (List.range (l.length+e))≠0){k:Nat}(hk:k<l.length+e) :
  Kb l.length k*(en (M.sol (M.mat (M.shares l e) set) (M.right s.vol set)) k).natAbs≤1000000000000000000:=by
 obtain⟨a1,a2,a3,a4,a5⟩:=limits_small h he
 have hv:s.vol.natAbs≤10000:=by have:=h.v;omega
 have n5:l.length+e≤5:=by have:=h.n4;omega
 have hq:=sq_mat n5 a1 a2 a3 a4 hs hm
 have hr:=right_small (set:=set) hv a5 hm
 obtain⟨e1,e2,e3⟩:=solve_exact hq hr hd
 have hb:(en (M.sol (M.mat (M.shares l e) set) (M.right s.vol set)) k).natAbs≤bnd (fun c=>if c=k then 10000 else S0 l.length c) (fun c=>if c=k then 10000 else Kb l.length c) (List.range (l.length+e)):=by
  show((M.sol (M.mat (M.shares l e) set) (M.right s.vol set)).getD k 0).natAbs≤_
  rw[e3 k hk,if_neg_abs,setCol_DI hq.len hq.row hk]
  refine DI_bnd_idx (by omega) (fun j hj=>?_) (fun i h1 hi j hj=>?_)
  ·by_cases ej:j=k
   ·rw[if_pos ej,if_pos ej,right0];exact hv
   ·rw[if_neg ej,if_neg ej];exact mat_ent0 j
  ·by_cases ej:j=k
   ·rw[if_pos ej,if_pos ej];exact hr i
   ·rw[if_neg ej,if_neg ej];exact mat_ent h he hm i h1 (by omega) j hj
 exact Nat.le_trans (Nat.mul_le_mul_left _ hb) (num_sol _ h.n4 e he k (by omega))
theorem sum_const_le{f:Nat→Int}{B:Nat}:∀n,(∀k,k<n→(f k).natAbs≤B)→(smI f (List.range n)).natAbs≤n*B:=by
 intro n
 induction n with
 |zero=>intro _;simp[smI]
 |succ n ih=>
  intro h
  rw[smI_succ]
  have:=ih fun k hk=>h k (by omega)
  have:=h n (by omega)
  rw[Nat.succ_mul]
  omega
theorem big_of(h:RightL l s)(he:e≤1):Big (l.length+e) (M.shares l e) s.vol (M.limits l s e):=by
 intro set hs hm hd c hc
 obtain⟨a1,a2,a3,a4,a5⟩:=limits_small h he
 have hv:s.vol.natAbs≤10000:=by have:=h.v;omega
 have n5:l.length+e≤5:=by have:=h.n4;omega
 have hq:=sq_mat n5 a1 a2 a3 a4 hs hm
 have hr:=right_small (set:=set) hv a5 hm
 obtain⟨e1,e2,e3⟩:=solve_exact hq hr hd
 constructor
 ·have:=sum_const_le (f:=fun k=>en c.coefs k*en (M.sol (M.mat (M.shares l e) set) (M.right s.vol set)) k) (B:=1000000000000000000) (l.length+e) (fun k hk=>by
   rw[Int.natAbs_mul]
   exact Nat.le_trans (Nat.mul_le_mul_right _ ((limits_ent h he hc).2.1 k hk)) (sol_small h he hs hm hd hk))
  have h5:(l.length+e)*1000000000000000000≤5*1000000000000000000:=Nat.mul_le_mul_right _ n5
  exact Nat.lt_of_le_of_lt (Nat.le_trans this h5) (by decide)
 ·have h1:=mat_den h he hs hm
  have h2:=(limits_ent h he hc).2.2
  rw[e1,Int.natAbs_mul]
  have:c.limit.natAbs*(DI en (M.mat (M.shares l e) set) (List.range (l.length+e))).natAbs≤10000*200000000000:=Nat.mul_le_mul (by omega) h1
  rw[Int.natAbs_natCast]
  omega
end
end Go.Bl
end
section
set_option maxRecDepth 100000
namespace Go.Bl
open Go.V Go.Proofs
namespace M
def lowV(l:List Cask)(s:Sample)(k i:Nat):Int:=w64 (val (l.getD i eC.dflt) k-(rg s k).lo)
def highV(l:List Cask)(s:Sample)(k i:Nat):Int:=w64 ((rg s k).hi-val (l.getD i eC.dflt) k)
def pairR(l:List Cask)(s:Sample)(k:Nat):List Rw:=[⟨(List.range l.length).map (lowV l s k)++ [1],0⟩,⟨(List.range l.length).map (highV l s k)++ [1],0⟩]
def restR(l:List Cask):List (List Rw):=
 ((List.range l.length).map fun i=>[(⟨only (l.length+1) i (-1),w64 (0-(l.getD i eC.dflt).vol)⟩:Rw)])++((List.range (l.length+1)).map fun i=>[(⟨only (l.length+1) i 1,0⟩:Rw)])
def allR(l:List Cask)(s:Sample):Rw:=⟨(l.map fun _=>1)++ [0],s.vol⟩
def rrowsF(l:List Cask)(s:Sample):List Rw:=(((([allR l s]++pairR l s 0)++pairR l s 1)++pairR l s 2)++pairR l s 3)++(restR l).flatten
end M
def zF(N:Nat):Nat→Nat→D:=litI (List.replicate N 0)
def loT{α:Type}(l:List Cask)(s:Sample)(n k:Nat)(K:XZ→T (XZ ⊕ α)):T α:=
 T.needs [eI.Is (n+1) (zF (n+1)),eI.Is (n+1) (zF (n+1))] (.loop XZ (0,eI.list (n+1) (zF (n+1)),0,eI.list (n+1) (zF (n+1)),0,PUnit.unit) fun x=>.br (decide (x.1<(n:Int)))
  (T.needs [0≤x.1,x.1<(n:Int),(0:Int)≤(k:Int),(k:Int)<((4:Nat):Int),0≤x.1,x.1<(n:Int),(0:Int)≤(k:Int),(k:Int)<((4:Nat):Int),0≤x.1,x.1<(x.2.1.length:Int),x.1.toNat<x.2.1.length,0≤x.1,x.1<(x.2.2.2.1.length:Int),x.1.toNat<x.2.2.2.1.length,
    eI.Is x.2.1.length (putF x.1.toNat 0 1 [dI (M.lowV l s k x.1.toNat)] (eI.F x.2.1)),x.2.1.length≤x.2.1.length,eI.Is x.2.2.2.1.length (putF x.1.toNat 0 1 [dI (M.highV l s k x.1.toNat)] (eI.F x.2.2.2.1)),x.2.2.2.1.length≤x.2.2.2.1.length]
   (.ret (.inl (w64 (x.1+1),eI.list x.2.1.length (putF x.1.toNat 0 1 [dI (M.lowV l s k x.1.toNat)] (eI.F x.2.1)),x.2.2.1,eI.list x.2.2.2.1.length (putF x.1.toNat 0 1 [dI (M.highV l s k x.1.toNat)] (eI.F x.2.2.2.1)),x.2.2.2.2.1,PUnit.unit))))
  (T.needs [(0:Int)≤(n:Int),(n:Int)<(x.2.1.length:Int),n<x.2.1.length,(0:Int)≤(n:Int),(n:Int)<(x.2.2.2.1.length:Int),n<x.2.2.2.1.length,x.2.1.length≤x.2.1.length,x.2.2.2.1.length≤x.2.2.2.1.length] (K x)))
def pairF(n:Nat)(x:XZ):Nat→Nat→D:=fun i j=>List.getD [.sl true x.2.1.length 1 (putF n 0 1 [dI 1] (eI.F x.2.1)),dI x.2.2.1,.sl true x.2.2.2.1.length 1 (putF n 0 1 [dI 1] (eI.F x.2.2.2.1)),dI x.2.2.2.2.1] (i*2+j) .nilp
def preT(n:Nat):List Prop:=((List.range n).flatMap fun i=>nd2 i n++le2 (10+i) (9+i))++(((List.range (n+1)).flatMap fun i=>le2 (10+n+i) (9+n+i))++ [10+n+n≤10+n+n])
def tr71t(l:List Cask)(s:Sample)(n:Nat):T (List Ar):=
 loT l s n 0 fun x0=>T.needs [(3:Nat)≤1000000] (loT l s n 1 fun x1=>T.needs (le2 5 3) (loT l s n 2 fun x2=>T.needs (le2 7 5) (loT l s n 3 fun x3=>T.needs (le2 9 7) (T.needs (preT n)
  (.ret (.inr (.inr (.inr (.inr [.c (.sl true (10+n+n) 2 (joinAll 9 (joinF 7 (joinF 5 (joinF 3 (joinF 1 (lit2 [M.allR l s]) (pairF n x0)) (pairF n x1)) (pairF n x2)) (pairF n x3)) (M.restR l)))])))))))))
theorem t71t_1(q:Bool)(c0:Cask)(sv l0 h0 l1 h1 l2 h2 l3 h3:Int):runFnX Try.prog G0 (lookS []) (fun _=>[(1000021,[],none),(1000032,[],none),(1000042,[],none),(1000091,[],none),(1000110,[],none),(1000132,[],none),(3000020,[],none),(3000023,[],none),(3000031,[],none),(3000034,[],none),(3000044,[],none),(3000109,[],none),(3000112,[],none),(3000134,[],none),(15,[.slot 14 (.int .i64),.blk 12 [.rowE 3 eI,.int .i64],.blk 13 [.rowE 3 eI,.int .i64]],none)]) [] 1 60 4 71 Try.f71 [.c (.sl q 1 7 (eC.F [c0])),.agg [dI sv,dI l0,dI h0,dI l1,dI h1,dI l2,dI h2,dI l3,dI h3],.c (.bool true)] =
  tr71t [c0] ⟨sv,⟨l0,h0⟩,⟨l1,h1⟩,⟨l2,h2⟩,⟨l3,h3⟩⟩ 1:=by kernel_rfl
theorem t71t_2(q:Bool)(c0 c1:Cask)(sv l0 h0 l1 h1 l2 h2 l3 h3:Int):runFnX Try.prog G0 (lookS []) (fun _=>[(1000021,[],none),(1000032,[],none),(1000042,[],none),(1000091,[],none),(1000110,[],none),(1000132,[],none),(3000020,[],none),(3000023,[],none),(3000031,[],none),(3000034,[],none),(3000044,[],none),(3000109,[],none),(3000112,[],none),(3000134,[],none),(15,[.slot 14 (.int .i64),.blk 12 [.rowE 3 eI,.int .i64],.blk 13 [.rowE 3 eI,.int .i64]],none)]) [] 1 60 4 71 Try.f71 [.c (.sl q 2 7 (eC.F [c0,c1])),.agg [dI sv,dI l0,dI h0,dI l1,dI h1,dI l2,dI h2,dI l3,dI h3],.c (.bool true)] =
  tr71t [c0,c1] ⟨sv,⟨l0,h0⟩,⟨l1,h1⟩,⟨l2,h2⟩,⟨l3,h3⟩⟩ 2:=by kernel_rfl
theorem t71t_3(q:Bool)(c0 c1 c2:Cask)(sv l0 h0 l1 h1 l2 h2 l3 h3:Int):runFnX Try.prog G0 (lookS []) (fun _=>[(1000021,[],none),(1000032,[],none),(1000042,[],none),(1000091,[],none),(1000110,[],none),(1000132,[],none),(3000020,[],none),(3000023,[],none),(3000031,[],none),(3000034,[],none),(3000044,[],none),(3000109,[],none),(3000112,[],none),(3000134,[],none),(15,[.slot 14 (.int .i64),.blk 12 [.rowE 3 eI,.int .i64],.blk 13 [.rowE 3 eI,.int .i64]],none)]) [] 1 60 4 71 Try.f71 [.c (.sl q 3 7 (eC.F [c0,c1,c2])),.agg [dI sv,dI l0,dI h0,dI l1,dI h1,dI l2,dI h2,dI l3,dI h3],.c (.bool true)] =
  tr71t [c0,c1,c2] ⟨sv,⟨l0,h0⟩,⟨l1,h1⟩,⟨l2,h2⟩,⟨l3,h3⟩⟩ 3:=by kernel_rfl
theorem t71t_4(q:Bool)(c0 c1 c2 c3:Cask)(sv l0 h0 l1 h1 l2 h2 l3 h3:Int):runFnX Try.prog G0 (lookS []) (fun _=>[(1000021,[],none),(1000032,[],none),(1000042,[],none),(1000091,[],none),(1000110,[],none),(1000132,[],none),(3000020,[],none),(3000023,[],none),(3000031,[],none),(3000034,[],none),(3000044,[],none),(3000109,[],none),(3000112,[],none),(3000134,[],none),(15,[.slot 14 (.int .i64),.blk 12 [.rowE 3 eI,.int .i64],.blk 13 [.rowE 3 eI,.int .i64]],none)]) [] 1 60 4 71 Try.f71 [.c (.sl q 4 7 (eC.F [c0,c1,c2,c3])),.agg [dI sv,dI l0,dI h0,dI l1,dI h1,dI l2,dI h2,dI l3,dI h3],.c (.bool true)] =
  tr71t [c0,c1,c2,c3] ⟨sv,⟨l0,h0⟩,⟨l1,h1⟩,⟨l2,h2⟩,⟨l3,h3⟩⟩ 4:=by kernel_rfl
end Go.Bl
end
section
set_option maxRecDepth 100000
namespace Go.Bl
open Go.V Go.Proofs
def fillP(f:Nat→Int)(n i:Nat):List Int:=(List.range i).map f++List.replicate (n+1-i) 0
theorem fillP_len{f:Nat→Int}{n i:Nat}(h:i≤n):(fillP f n i).length=n+1:=by simp[fillP];omega
theorem fillP_set{f:Nat→Int}{n i:Nat}(h:i≤n):(fillP f n i).set i (f i)=fillP f n (i+1):=by
 unfold fillP
 rw[show n+1-i=(n+1-(i+1))+1 by omega,List.replicate_succ,List.range_succ,List.map_append,List.append_assoc]
 rw[List.set_append_right _ _ (by simp)]
 simp
theorem fillP_end{f:Nat→Int}{n:Nat}{v:Int}:(fillP f n n).set n v=(List.range n).map f++ [v]:=by
 unfold fillP
 rw[show n+1-n=1 by omega,List.set_append_right _ _ (by simp)]
 simp
theorem litI_is(l:List Int):eI.Is l.length (litI l)∧eI.list l.length (litI l)=l:=by
 have key:∀k,k<l.length→litI l k 0=dI (l.getD k 0):=fun k hk=>by
  unfold litI
  rw[Nat.mul_one,Nat.add_zero,List.getD_eq_getElem?_getD,List.getElem?_map,List.getElem?_eq_getElem hk,List.getD_eq_getElem?_getD,List.getElem?_eq_getElem hk];rfl
 refine Enc.is_of eI rfl (fun k j hk hj=>?_) (fun k hk=>?_)
 ·obtain rfl:j=0:=Nat.lt_one_iff.1 hj
  exact key k hk
 ·show rdI (litI l k) 0=_
  unfold rdI;rw[key k hk];rfl
theorem zF_is(N:Nat):eI.Is N (zF N)∧eI.list N (zF N)=List.replicate N 0:=by
 have:=litI_is (List.replicate N 0)
 rw[List.length_replicate]at this
 exact this
theorem loT_wp{α:Type}{l:List Cask}{s:Sample}{n k:Nat}{K:XZ→T (XZ ⊕ α)}{Q:α→Prop}(hk:k<4)(hn:n≤100)
  (hK:∀x:XZ,x.2.1=fillP (M.lowV l s k) n n→x.2.2.1=0→x.2.2.2.1=fillP (M.highV l s k) n n→x.2.2.2.2.1=0→(K x).wp (Out Q)):(loT l s n k K).wp Q:=by
 obtain⟨z1,z2⟩:=zF_is (n+1)
 refine⟨z1,z1,fun x=>∃i:Nat,i≤n∧x.1=(i:Int)∧x.2.1=fillP (M.lowV l s k) n i∧x.2.2.1=0∧x.2.2.2.1=fillP (M.highV l s k) n i∧x.2.2.2.2.1=0,fun x=>n-x.1.toNat,⟨0,Nat.zero_le _,rfl,?_,rfl,?_,rfl⟩,?_⟩
 ·show eI.list (n+1) (zF (n+1))=_
  rw[z2];rfl
 ·show eI.list (n+1) (zF (n+1))=_
  rw[z2];rfl
 rintro ⟨x,a,b,c,d,u⟩ ⟨i,hi,hx,ha,hb',hc,hd⟩
 simp only at hx ha hb' hc hd
 subst hx ha hb' hc hd
 have la:=fillP_len (f:=M.lowV l s k) hi
 have lc:=fillP_len (f:=M.highV l s k) hi
 refine⟨fun hb=>?_,fun hb=>?_⟩
 ·have hlt:=lt_of_dec hb
  have p1:=put_int (l:=fillP (M.lowV l s k) n i) (i:=i) (b:=M.lowV l s k i) (by omega)
  have p2:=put_int (l:=fillP (M.highV l s k) n i) (i:=i) (b:=M.highV l s k i) (by omega)
  refine⟨by show(0:Int)≤i;omega,by show(i:Int)<n;omega,by omega,by omega,by show(0:Int)≤i;omega,by show(i:Int)<n;omega,by omega,by omega,by show(0:Int)≤i;omega,by show(i:Int)<((fillP (M.lowV l s k) n i).length:Int);omega,by show i<(fillP (M.lowV l s k) n i).length;omega,
   by show(0:Int)≤i;omega,by show(i:Int)<((fillP (M.highV l s k) n i).length:Int);omega,by show i<(fillP (M.highV l s k) n i).length;omega,p1.1,Nat.le_refl _,p2.1,Nat.le_refl _,⟨i+1,by omega,w64_succ (by omega),?_,rfl,?_,rfl⟩,?_⟩
  ·exact p1.2.trans (fillP_set hi)
  ·exact p2.2.trans (fillP_set hi)
  ·show n-(w64 ((i:Int)+1)).toNat<n-(i:Int).toNat
   rw[w64_succ (by omega)];omega
 ·have hge:=ge_of_dec hb
  obtain rfl:i=n:=by omega
  refine⟨by omega,by show(i:Int)<((fillP (M.lowV l s k) i i).length:Int);omega,by show i<(fillP (M.lowV l s k) i i).length;omega,by omega,by show(i:Int)<((fillP (M.highV l s k) i i).length:Int);omega,by show i<(fillP (M.highV l s k) i i).length;omega,Nat.le_refl _,Nat.le_refl _,Out.loop (hK _ rfl rfl rfl rfl)⟩
theorem IsRw.joinG{k m:Nat}{F G:Nat→Nat→D}{a b:List Rw}(h:IsRw k F a)(g:IsRw m G b):IsRw (k+m) (joinF k F G) (a++b):=by
 refine⟨by rw[List.length_append,h.1,g.1],fun i j hi hj=>?_⟩
 unfold joinF
 by_cases hk:i<k
 ·rw[show Nat.blt i k=true from by rw[Nat.blt_eq];exact hk]
  have:=h.2 i j hk hj
  have e:eRw.F (a++b) i=eRw.F a i:=by
   unfold Enc.F
   rw[List.getD_eq_getElem?_getD,List.getElem?_append_left (by rw[h.1];exact hk),←List.getD_eq_getElem?_getD]
  rw[e];exact this
 ·rw[show Nat.blt i k=false from by rw[←Bool.not_eq_true,Nat.blt_eq];exact hk]
  have:=g.2 (i-k) j (by omega) hj
  have e:eRw.F (a++b) i=eRw.F b (i-k):=by
   unfold Enc.F
   rw[List.getD_eq_getElem?_getD,List.getElem?_append_right (by rw[h.1];omega),h.1,←List.getD_eq_getElem?_getD]
  rw[e];exact this
theorem putEnd{l:List Int}{n:Nat}{v:Int}{r:List Int}(hn:n<l.length)(hr:l.set n v=r):(D.sl true l.length 1 (putF n 0 1 [dI v] (eI.F l))).eqv (.sl false r.length 1 (eI.F r)):=by
 have p:=put_int (l:=l) (i:=n) (b:=v) hn
 have:=eI.to (q:=true) (q':=false) (fun e=>by cases e) p.1
 rw[p.2,hr]at this
 exact this
theorem pairF_is{l:List Cask}{s:Sample}{k:Nat}{x:XZ}(h1:x.2.1=fillP (M.lowV l s k) l.length l.length)(h2:x.2.2.1=0)(h3:x.2.2.2.1=fillP (M.highV l s k) l.length l.length)(h4:x.2.2.2.2.1=0):IsRw 2 (pairF l.length x) (M.pairR l s k):=by
 refine⟨rfl,fun i j hi hj=>?_⟩
 have la:=fillP_len (f:=M.lowV l s k) (Nat.le_refl l.length)
 have lc:=fillP_len (f:=M.highV l s k) (Nat.le_refl l.length)
 unfold pairF
 rw[h1,h2,h3,h4]
 match i,j,hi,hj with
 |0,0,_,_=>exact putEnd (by omega) fillP_end
 |0,1,_,_=>exact D.eqv_refl _
 |1,0,_,_=>exact putEnd (by omega) fillP_end
 |1,1,_,_=>exact D.eqv_refl _
def res71t(l:List Cask)(s:Sample):List Ar:=[.c (.sl false (M.rrowsF l s).length 2 (eRw.F (M.rrowsF l s)))]
theorem restR_len(l:List Cask):(M.restR l).flatten.length=l.length+(l.length+1):=by
 unfold M.restR
 rw[List.flatten_append,flat_one,flat_one,List.length_append,List.length_map,List.length_map,List.length_range,List.length_range]
theorem rrowsF_len(l:List Cask)(s:Sample):(M.rrowsF l s).length=10+l.length+l.length:=by
 unfold M.rrowsF
 rw[List.length_append,restR_len]
 show 9+_=_
 omega
theorem w71t{l:List Cask}{s:Sample}{n:Nat}(hl:l.length=n)(hn:n≤4):(tr71t l s n).wp (fun rs=>rsEqv rs (res71t l s)):=by
 subst hl
 refine loT_wp (by decide) (by omega) fun x0 a1 a2 a3 a4=>⟨by decide,?_⟩
 refine loT_wp (by decide) (by omega) fun x1 b1 b2 b3 b4=>T.needs_wp (le2_all (by decide)) ?_
 refine loT_wp (by decide) (by omega) fun x2 c1 c2 c3 c4=>T.needs_wp (le2_all (by decide)) ?_
 refine loT_wp (by decide) (by omega) fun x3 d1 d2 d3 d4=>T.needs_wp (le2_all (by decide)) ?_
 refine T.needs_wp (All.append.2 ⟨all_flat fun i hi=>?_,All.append.2 ⟨all_flat fun i hi=>?_,Nat.le_refl _,trivial⟩⟩) ?_
 ·have hi:=List.mem_range.1 hi
  exact All.append.2 ⟨nd2_all hi,le2_all (by omega)⟩
 ·have hi:=List.mem_range.1 hi
  exact le2_all (by omega)
 ·have h0:IsRw 1 (lit2 [M.allR l s]) [M.allR l s]:=lit2_is _
  have h:=joinAll_is (L:=M.restR l) ((((h0.joinG (pairF_is a1 a2 a3 a4)).joinG (pairF_is b1 b2 b3 b4)).joinG (pairF_is c1 c2 c3 c4)).joinG (pairF_is d1 d2 d3 d4))
  rw[restR_len]at h
  have hlen:=rrowsF_len l s
  exact⟨⟨(fun e=>by cases e),by omega,fun _=>rfl,fun i j h1 h2=>h.2 i j (by omega) h2⟩,trivial⟩
def dom71t:DomF
 |[.c (.sl _ n st F),.agg [.int .i64 sv,.int .i64 l0,.int .i64 h0,.int .i64 l1,.int .i64 h1,.int .i64 l2,.int .i64 h2,.int .i64 l3,.int .i64 h3],.c (.bool true)]=>(match Nat.beq st 7 with
  |true=>some ([eC.Is n F,1≤n,n≤4],res71t (eC.list n F) ⟨sv,⟨l0,h0⟩,⟨l1,h1⟩,⟨l2,h2⟩,⟨l3,h3⟩⟩)
  |_=>none)
 |_=>none
def v71t:Nat×Sm:=(71,fokSm dom71t)
theorem C71t:FOK Try.prog G0 gw 71 dom71t:=by
 intro ags p r hd hp κ w xs hw hl hG hx
 unfold dom71t at hd
 split at hd
 ·rename_i q n st F sv l0 h0 l1 h1 l2 h2 l3 h3
  split at hd
  ·rename_i hst
   have g1:=Nat.eq_of_beq_eq_true hst
   subst g1
   simp only[Option.some.injEq,Prod.mk.injEq]at hd
   obtain⟨rfl,rfl⟩:=hd
   obtain⟨hI,hn1,hn4,_⟩:=hp
   have heq:agsEqv [.c (.sl q n 7 F),.agg [.int .i64 sv,.int .i64 l0,.int .i64 h0,.int .i64 l1,.int .i64 h1,.int .i64 l2,.int .i64 h2,.int .i64 l3,.int .i64 h3],.c (.bool true)] [.c (.sl q (eC.list n F).length 7 (eC.F (eC.list n F))),.agg [.int .i64 sv,.int .i64 l0,.int .i64 h0,.int .i64 l1,.int .i64 h1,.int .i64 l2,.int .i64 h2,.int .i64 l3,.int .i64 h3],.c (.bool true)]:=⟨eC.to id hI,Ag.eqv_refl _,Ag.eqv_refl _,trivial⟩
   have hlen:(eC.list n F).length=n:=eC.list_len
   generalize eC.list n F=l at *
   match n,hn1,hn4 with
   |1,_,_=>
    obtain⟨c0,rfl⟩:=lenC1 hlen
    exact fokX_fin mixed gw_stable (sl:=[]) trivial Try.func71 hw hl hG hx heq rfl (t71t_1 q c0 sv l0 h0 l1 h1 l2 h2 l3 h3) (w71t rfl (by decide))
   |2,_,_=>
    obtain⟨c0,c1,rfl⟩:=lenC2 hlen
    exact fokX_fin mixed gw_stable (sl:=[]) trivial Try.func71 hw hl hG hx heq rfl (t71t_2 q c0 c1 sv l0 h0 l1 h1 l2 h2 l3 h3) (w71t rfl (by decide))
   |3,_,_=>
    obtain⟨c0,c1,c2,rfl⟩:=lenC3 hlen
    exact fokX_fin mixed gw_stable (sl:=[]) trivial Try.func71 hw hl hG hx heq rfl (t71t_3 q c0 c1 c2 sv l0 h0 l1 h1 l2 h2 l3 h3) (w71t rfl (by decide))
   |4,_,_=>
    obtain⟨c0,c1,c2,c3,rfl⟩:=lenC4 hlen
    exact fokX_fin mixed gw_stable (sl:=[]) trivial Try.func71 hw hl hG hx heq rfl (t71t_4 q c0 c1 c2 c3 sv l0 h0 l1 h1 l2 h2 l3 h3) (w71t rfl (by decide))
  ·cases hd
 ·cases hd
theorem S71t:SumOK Try.prog G0 gw 71 (fokSm dom71t):=fok_sum Try.func71 rfl C71t
end Go.Bl
end
section
set_option maxRecDepth 100000
namespace Go.Bl
open Go.V Go.Proofs
def litsB:List C→Option (List Bool)
 |[]=>some []
 |.lit b::l=>(match litsB l with|some k=>some (b::k)|none=>none)
 |_=>none
def intO:C→Option Int
 |.num .i64 n=>some n
 |.int .i64 n=>some n
 |_=>none
def cnt:List Bool→Nat
 |[]=>0
 |true::l=>cnt l+1
 |false::l=>cnt l
def hp1(b:Blk):Nat→Option Blk
 |0=>some b
 |_=>none
def fk(n:Nat)(d:D)(a:Nat→Nat→Int)(i:Nat):Run:=fun _ wk c s=>
 match s.tm 0,s.tm 1,s.tm 2,s.hp 0 with
 |some (.a (.c (.im d'))),some (.a (.c x)),some (.a (.c (.sl m off len cap))),some (.known e cs)=>
  (match intO x,litsB cs with
   |some v,some u=>(match v==(i:Int)&&(Nat.beq m 0&&(Nat.beq off 0&&(Nat.beq len n&&(Nat.beq cap n&&(Nat.beq c 1&&(Nat.beq e 4&&(Nat.beq u.length n&&Nat.beq (cnt u) i)))))))with
    |true=>.need (d'=d) (.ret (.ret,1,{s with tm:=upd (fun _=>none) 6 (some (.a (.c (.int .i64 (M.miV n a (n-i) i u))))),hp:=hp1 (.known e cs)}))
    |false=>.fail)
   |_,_=>.fail)
 |_,_,_,_=>.fail
def inlL(fn:Func)(n:Nat)(d:D)(a:Nat→Nat→Int)(i:Nat):FuncId→Option (Func×Run):=fun g=>
 match Nat.beq g 151 with
 |true=>some (fn,fk n d a i)
 |false=>none
def sL(n:Nat)(d:D)(i:Nat)(u:List Bool)(st:Nat→Option Ex):S:=
 {tm:=fun t=>match t with|0=>some (.a (.c (.im d)))|1=>some (.a (.c (.int .i64 (i:Int))))|2=>some (.a (.c (.sl 0 0 n n)))|_=>none,hp:=hp1 (.known 4 (u.map C.lit)),st:=st}
def runL(P:Program)(fn:Func)(n:Nat)(d:D)(a:Nat→Nat→Int)(i:Nat)(u:List Bool)(st:Nat→Option Ex):T (Nat×V×Blk):=
 match fn.body with
 |some code=>(exec G0 fn.ntmps (an151 151) 0 (rxD (an151 151) P G0 fn.ntmps (lookS []) 60 (fun _=>none) (inlL fn n d a (i+1))) rf0 60 code (fun _=>true) 1 (sL n d i u st)).bind fun r=>(match r with
  |(.ret,c',s')=>(match s'.tm 6,s'.hp 0 with|some v,some b=>.ret (c',v,b)|_,_=>.fail)
  |_=>.fail)
 |none=>.fail
def lvT(n:Nat)(d:D)(a:Nat→Nat→Int)(i:Nat)(u:List Bool):T (Nat×V×Blk):=
 match n-i with
 |0=>.ret (1,.a (.c (.num .i64 1)),.known 4 (u.map C.lit))
 |k+1=>roT n a (fun u kt=>.need (d=d) (kt (M.miV n a k (i+1) u))) i u (List.range n) 0 1 fun v=>.ret (1,.a (.c (.int .i64 v)),.known 4 (u.map C.lit))
def dM(q:Bool)(n:Nat)(a:Nat→Nat→Int):D:=.sl q n 1 (eR.F (mat n a))
end Go.Bl
end
section
namespace Go.V
open Go.RowKit (Below)
section
variable {P : Program} {G : GT} {N : Nat} {sg : FuncId → Option Sm} {inl : FuncId → Option (Func × Run)} {gw : World → Prop} {w0 : World} {an : An}
def KI(P:Program)(G:GT)(gw:World→Prop)(w0:World)(ρ:Ren):Prop:=Amb P G gw ρ∧LpOK w0 ρ∧∀k l r,ρ.lp k=some (l,r)→k<0
theorem KI.up{ρ ρ':Ren}{cz:Nat}(h:KI P G gw w0 ρ)(hle:ρ.up cz ρ'):KI P G gw w0 ρ':=⟨h.1.up hle,h.2.1.up hle,lv_up h.2.2 hle⟩
theorem KI.fxs{ρ:Ren}(fx':Nat→Option Obj)(h:KI P G gw w0 ρ)(hL:LpOK w0 {ρ with fx:=fx'}):KI P G gw w0 {ρ with fx:=fx'}:=⟨h.1.fxs,hL,h.2.2⟩
theorem xokI(E:Env P G sg gw)(hgw0:gw w0){fuel cz:Nat}(hinl:InlOK P w0 0 (KI P G gw w0) cz inl)(hik:∀g fn ex,inl g=some (fn,ex)→RKeep ex) :
  XOK P G N gw 0 cz w0 none (KI P G gw w0) (rxD an P G N sg fuel (fun _=>none) inl) rf0 where
 kA:=fun h=>h.1
 kL:=fun h=>h.2.2
 kU:=fun h hle=>h.up hle
 xk:=rxD_keep (fun k h e=>by cases e) hik
 fk:=rf0_keep
 xs:=by
  intro id ops draw wk c s R ρ a w hrel hKρ hcz h
  unfold rxD at h
  split at h
  ·split at h
   ·exact rtree_sound E hgw0 hrel hKρ.1 h
   ·split at h
    ·rename_i hM
     refine wpIn_region_any E.mixed ?_
     exact segT_sound (rr:=none) (LV:=0) (K:=KI P G gw w0) (cz:=cz) E.stable hgw0 E.sums (fun h=>h.1) (fun h=>h.2.1) (fun fx' h hL=>h.fxs fx' hL) (fun h hle=>h.up hle) (fun k h e=>by cases e)
      hinl (fun k h e=>by cases e) hik hM hKρ _ _ _ _ _ _ _ _ ρ (Lst.start _ _) (fun i _ _=>start_not _ _) hrel.drew hcz (Ren.up_refl _) h
    ·exact h.elim
  ·refine wpIn_region ?_
   have:=goX_sound (rr:=none) (LV:=0) (K:=KI P G gw w0) (cz:=cz) E.stable hgw0 E.sums (fun h=>h.1) (fun h=>h.2.1) (fun fx' h hL=>h.fxs fx' hL) (fun h hle=>h.up hle) (fun k h e=>by cases e)
    (inl:=inl) hinl (fun k h e=>by cases e) hik (ρ0:=ρ) (R:=R) ops.toList 0 rfl hrel hKρ hcz (Ren.up_refl _) h
   rw[List.range_eq_range']
   exact this
 fs:=fun _ _ _ h=>h.elim
def Ren.res(ρ:Ren):Ren:={ρ with nm:=fun m=>match m with|0=>ρ.nm 0|_=>none}
theorem Rel.res{ρ:Ren}{s s':S}{a:Act}{w:World}{b:Blk}(h:Rel w0 N ρ s a w)(ht:∀t v,s'.tm t=some v→(∃v0,s.tm t=some v0∧∀ρ x,V.rel ρ v0 x→V.rel ρ v x)∧∀m,m∈v.all→m=0)
  (hb:s.hp 0=some b) (hbr:∀ρ ρ':Ren,ρ.κ=ρ'.κ→∀bb,b.rel ρ bb w→b.rel ρ' bb w) (hh0:s'.hp 0=some b) (hh:∀m,s'.hp (m+1)=none) (hlp:∀k p,ρ.lp k=some p→False):Rel w0 N ρ.res s' a w where
 sz:=h.sz
 bel:=h.bel
 df:=h.df
 tm:=fun t v hv=>by
  obtain⟨⟨v0,h1,h2⟩,h3⟩:=ht t v hv
  obtain⟨g1,g2⟩:=h.tm t v0 h1
  refine⟨g1,V.rel_ren (ρ:=ρ) (ρ':=ρ.res) (fun _ _ _ h=>h) ⟨rfl,fun k p e=>e⟩ (fun m hm b e=>?_) (h2 ρ _ g2)⟩
  have:=h3 m hm
  subst this
  exact e
 dom:=fun m hm=>by
  cases m with
  |zero=>rw[hh0]at hm;cases hm
  |succ m=>rfl
 hp:=fun m k hm=>by
  cases m with
  |zero=>
   rw[hh0]at hm;cases hm
   obtain⟨bb,e1,e2,e3,e4⟩:=h.hp 0 b hb
   exact⟨bb,e1,e2,hbr ρ ρ.res rfl bb e3,e4⟩
  |succ m=>rw[hh m]at hm;cases hm
 inj:=fun m m' k k' b b' hm hm' _ _ _ _ hne=>by
  cases m with
  |zero=>cases m' with
   |zero=>exact absurd rfl hne
   |succ m'=>rw[hh m']at hm';cases hm'
  |succ m=>rw[hh m]at hm;cases hm
 im:=h.im
 dis:=fun m k bb o hm ho e=>by
  cases m with
  |zero=>
   rw[hh0]at hm;cases hm
   exact h.dis 0 b bb o hb ho e
  |succ m=>rw[hh m]at hm;cases hm
 old:=h.old
 fx:=h.fx
 lp:=fun k l r e=>(hlp k _ e).elim
 dfx:=h.dfx
end
end Go.V
end
section
set_option maxRecDepth 100000
namespace Go.Bl
open Go.V Go.Proofs
open Go.RowKit (Below)
theorem litsB_spec:∀{cs:List C} {u:List Bool},litsB cs=some u→cs=u.map C.lit:=by
 intro cs
 induction cs with
 |nil=>intro u h;cases h;rfl
 |cons c cs ih=>
  intro u h
  cases c <;>try (cases h;done)
  rename_i b
  simp only[litsB]at h
  split at h
  ·rename_i k hk
   cases h
   rw[ih hk];rfl
  ·cases h
theorem intO_spec{x:C}{v:Int}(h:intO x=some v):(∀ρ y,x.rel ρ y→C.rel ρ (.int .i64 v) y)∧x.names=[]:=by
 unfold intO at h
 split at h
 ·cases h;exact⟨fun ρ y h=>h,rfl⟩
 ·cases h;exact⟨fun ρ y h=>h,rfl⟩
 ·cases h
theorem cnt_le:∀u:List Bool,cnt u≤u.length
 |[]=>Nat.le_refl _
 |true::l=>by have:=cnt_le l;simp only[cnt,List.length_cons];omega
 |false::l=>by have:=cnt_le l;simp only[cnt,List.length_cons];omega
theorem known_rel{P:Prop}{e:TypeId}{u:List Bool}{w:World}{ρ ρ':Ren}{bb:Nat×Nat}(h:(Blk.known e (u.map C.lit)).rel ρ bb w):(Blk.known e (u.map C.lit)).rel ρ' bb w:=by
 obtain⟨xs,hf,hh⟩:=h
 refine⟨xs,?_,hh⟩
 clear hh
 induction u generalizing xs with
 |nil=>cases hf;exact .nil
 |cons b u ih=>
  cases hf with
  |cons h1 h2=>exact .cons h1 (ih _ h2)
section
variable {P : Program} {fn : Func} {n : Nat} {d : D} {a : Nat → Nat → Int} {gw : World → Prop} {w0 : World} {sg : FuncId → Option Sm}
theorem fk_keep{i:Nat}:RKeep (fk n d a i):=by
 intro code wk c s
 unfold fk
 split
 ·rename_i d' x m off len cap e cs h0 h1 h2 h3
  split
  ·rename_i v u hv hu
   split
   ·rename_i hck
    simp only[Bool.and_eq_true]at hck
    have hc:=Nat.eq_of_beq_eq_true hck.2.2.2.2.2.1
    subst hc
    refine⟨Nat.le_refl _,fun m hm _=>?_⟩
    obtain rfl:m=0:=by omega
    exact h3.symm
   ·trivial
  ·trivial
 ·trivial
theorem lvT_wp{i:Nat}{u:List Bool}(hi:i≤n):(lvT n d a i u).wp (fun z=>z.1=1∧(∀ρ x,V.rel ρ z.2.1 x→V.rel ρ (.a (.c (.int .i64 (M.miV n a (n-i) i u)))) x)∧z.2.1.all=[]∧z.2.2=.known 4 (u.map C.lit)):=by
 unfold lvT
 cases hk:n-i with
 |zero=>exact⟨rfl,fun ρ x h=>h,rfl,rfl⟩
 |succ k=>
  refine roT_wp (sv:=M.miV n a k (i+1)) (fun u kt hkt=>?_) (by omega) _ 0 1 (fun j hj=>List.mem_range.1 hj) ?_
  ·exact⟨rfl,hkt⟩
  ·exact⟨rfl,fun ρ x h=>h,rfl,rfl⟩
theorem ki_res{ρ:Ren}(h:KI P G0 gw w0 ρ):KI P G0 gw w0 ρ.res:=⟨⟨fun g n F e=>(by cases e),h.1.cl⟩,⟨h.2.1.fx,h.2.1.base,h.2.1.inj⟩,h.2.2⟩
theorem fk_ok(E:Env P G0 (lookS []) gw)(hgw0:gw w0){i cz:Nat}(hi:i≤n)(hL:∀u:List Bool,u.length=n→cnt u=i→∀st,runL P fn n d a i u st=lvT n d a i u)
  (hinl:InlOK P w0 0 (KI P G0 gw w0) 1 (inlL fn n d a (i+1))) :
  ∀(code:Code),fn.body=some code→∀{wk:Nat→Bool} {c:Nat} {s:S} {R:St3→Prop} {ρ:Ren} {ac:Act} {w:World},Rel w0 fn.ntmps ρ s ac w→KI P G0 gw w0 ρ→cz≤c→(fk n d a i code wk c s).wp R→code.wpIn (V.Fd none) 0 P (CP c w0 fn.ntmps ρ R) ac w:=by
 intro code hb wk c s R ρ ac w hrel hK _ h
 unfold fk at h
 split at h
 case h_2=>exact h.elim
 rename_i d' x m off len cap e cs h0 h1 h2 h3
 split at h
 case h_2=>exact h.elim
 rename_i v u hv hu
 split at h
 case h_2=>exact h.elim
 rename_i hck
 simp only[Bool.and_eq_true]at hck
 obtain⟨k0,k1,k2,k3,k4,k5,k6,k7,k8⟩:=hck
 have k0:=eq_of_beq k0
 have k1:=Nat.eq_of_beq_eq_true k1
 have k2:=Nat.eq_of_beq_eq_true k2
 have k3:=Nat.eq_of_beq_eq_true k3
 have k4:=Nat.eq_of_beq_eq_true k4
 have k5:=Nat.eq_of_beq_eq_true k5
 have k6:=Nat.eq_of_beq_eq_true k6
 have k7:=Nat.eq_of_beq_eq_true k7
 have k8:=Nat.eq_of_beq_eq_true k8
 have hcs:=litsB_spec hu
 subst k0 k1 k2 k5 k6 hcs
 obtain⟨rfl,hR⟩:=h
 have hR:R (.ret,1,{s with tm:=upd (fun _=>none) 6 (some (.a (.c (.int .i64 (M.miV n a (n-i) i u))))),hp:=hp1 (.known 4 (u.map C.lit))}):=hR
 have hlp:∀k p,ρ.lp k=some p→False:=fun k p e=>by
  obtain⟨l,r⟩:=p
  exact absurd (hK.2.2 k l r e) (Nat.not_lt_zero k)
 obtain⟨i1,i2⟩:=intO_spec hv
 have hrel0:Rel w0 fn.ntmps ρ.res (sL n d' i u s.st) ac w:=by
  refine hrel.res (b:=.known 4 (u.map C.lit)) (fun t v' ht=>?_) h3 (fun ρ ρ' _ bb hbb=>known_rel (P:=True) hbb) rfl (fun m=>rfl) hlp
  simp only[sL]at ht
  split at ht
  ·cases ht;exact⟨⟨_,h0,fun ρ x h=>h⟩,fun m hm=>by cases hm⟩
  ·cases ht;exact⟨⟨_,h1,fun ρ y h=>i1 ρ y h⟩,fun m hm=>by cases hm⟩
  ·cases ht
   refine⟨⟨_,h2,fun ρ x h=>?_⟩,fun m hm=>by simpa[V.all,C.names]using hm⟩
   rw[k3,k4]at h;exact h
  ·cases ht
 have hrun:=hL u k7 k8 s.st
 unfold runL at hrun
 rw[hb]at hrun
 have hwp:=lvT_wp (d:=d') (a:=a) (u:=u) hi
 rw[←hrun]at hwp
 have hex:=exec_sound (xokI (an:=an151 151) (N:=fn.ntmps) (fuel:=60) E hgw0 hinl (fun g fn' ex he=>by
  unfold inlL at he
  split at he
  ·cases he;exact fk_keep
  ·cases he)) 60 code hrel0 (ki_res hK) (Nat.le_refl 1) (T.wp_bind hwp)
 refine wpIn_mono hex ?_
 intro ex ac' w' hc
 cases ex <;>simp only[CP]at hc ⊢
 case normal=>obtain⟨_,_,_,hf,_⟩:=hc;exact hf.elim
 case exit id=>obtain⟨_,_,_,hf,_⟩:=hc;exact hf.elim
 case ret=>
  obtain⟨c1,s1,ρ1,hf,hr1,hup⟩:=hc
  split at hf
  case h_2=>exact hf.elim
  rename_i v1 b1 hv1 hb1
  obtain⟨q1,q2,q3,q4⟩:=hf
  dsimp only at q1 q2 q3 q4
  subst q1 q4
  have hlp1:∀k p,ρ1.lp k=some p→False:=fun k p e=>by rw[hup.lp]at e;exact hlp k p e
  refine⟨1,_,ρ1.res,hR,?_,⟨hup.κ,hup.cl,hup.k0,hup.fx,hup.lp,fun m b hm e=>?_⟩⟩
  ·refine hr1.res (b:=.known 4 (u.map C.lit)) (fun t v' ht=>?_) hb1 (fun ρ ρ' _ bb hbb=>known_rel (P:=True) hbb) rfl (fun m=>rfl) hlp1
   have ht:upd (fun _=>none) 6 (some (V.a (A.c (C.int .i64 (M.miV n a (n-i) i u))))) t=some v':=ht
   by_cases et:t=6
   ·subst et
    rw[upd_same]at ht
    cases ht
    exact⟨⟨v1,hv1,q2⟩,fun m hm=>by cases hm⟩
   ·rw[upd_ne _ _ et]at ht;cases ht
  ·obtain rfl:m=0:=by omega
   exact hup.nm 0 b (by omega) e
theorem inlL_ok(E:Env P G0 (lookS []) gw)(hgw0:gw w0)(hf:P.funcs[151]? = some fn)(hgo:isGo fn=true)(hL:∀i,i≤n→∀u:List Bool,u.length=n→cnt u=i→∀st,runL P fn n d a i u st=lvT n d a i u) :
  ∀k,k≤n+1→∀cz,InlOK P w0 0 (KI P G0 gw w0) cz (inlL fn n d a (n+1-k)):=by
 intro k
 induction k with
 |zero=>
  intro _ cz g fn' ex he
  unfold inlL at he
  split at he
  ·rename_i hg
   cases he
   have hg:=Nat.eq_of_beq_eq_true hg
   subst hg
   refine⟨hf,hgo,fun code hb {wk c s R ρ ac w} hrel hK _ h=>?_⟩
   unfold fk at h
   split at h
   case h_2=>exact h.elim
   split at h
   case h_2=>exact h.elim
   rename_i v u hv hu
   split at h
   case h_2=>exact h.elim
   rename_i hck
   simp only[Bool.and_eq_true]at hck
   have k7:=Nat.eq_of_beq_eq_true hck.2.2.2.2.2.2.2.1
   have k8:=Nat.eq_of_beq_eq_true hck.2.2.2.2.2.2.2.2
   have:=cnt_le u
   omega
  ·cases he
 |succ k ih=>
  intro hk cz g fn' ex he
  unfold inlL at he
  split at he
  ·rename_i hg
   cases he
   have hg:=Nat.eq_of_beq_eq_true hg
   subst hg
   refine⟨hf,hgo,fun code hb {wk c s R ρ ac w} hrel hK hcz h=>?_⟩
   have hi:=ih (by omega) 1
   rw[show n+1-k=n+1-(k+1)+1 by omega]at hi
   exact fk_ok E hgw0 (by omega) (hL _ (by omega)) hi code hb hrel hK hcz h
  ·cases he
end
end Go.Bl
end
section
set_option maxRecDepth 100000
namespace Go.Bl
open Go.V Go.Proofs
def runTop(P:Program)(fn fnM:Func)(n:Nat)(d:D)(a:Nat→Nat→Int):T (List Ar):=
 match fn.body with
 |some code=>(exec G0 fn.ntmps (an151 150) 0 (rxD (an151 150) P G0 fn.ntmps (lookS []) 60 (fun _=>none) (inlL fnM n d a 0)) rf0 60 code (fun _=>true) 0 (args0 [.c d])).bind fun r=>(match r with
  |(.exit _,_,_)=>.fail
  |(_,_,s)=>(match resL P s fn.results.toList with
   |some ps=>(match finAs P s ps with|some (rs,p)=>T.needs p (.ret rs)|none=>.fail)
   |none=>.fail))
 |none=>.fail
def LevOK(n:Nat):Prop:=∀(q:Bool) (a:Nat→Nat→Int) (i:Nat),i≤n→∀u:List Bool,u.length=n→cnt u=i→∀st,runL Try.prog Try.f151 n (dM q n a) a i u st=lvT n (dM q n a) a i u
def TopOK(n:Nat):Prop:=∀(q:Bool) (a:Nat→Nat→Int),runTop Try.prog Try.f150 Try.f151 n (dM q n a) a=.need (dM q n a=dM q n a) (.ret [rI (M.miV n a n 0 (List.replicate n false))])
theorem C150_lev{N:Nat}(hL:LevOK N)(hT:TopOK N):FOK Try.prog G0 gw 150 (dom150 N):=by
 intro ags p r hd hp κ w xs hw hl hG hx
 unfold dom150 at hd
 split at hd
 ·rename_i q n st F
  split at hd
  ·rename_i m hst hm
   split at hd
   ·rename_i hsq
    simp only[Bool.and_eq_true]at hst
    obtain⟨h1,h4⟩:=hst
    have h1:=Nat.eq_of_beq_eq_true h1
    have h4:=Nat.eq_of_beq_eq_true h4
    subst h1 h4
    simp only[Option.some.injEq,Prod.mk.injEq]at hd
    obtain⟨rfl,rfl⟩:=hd
    have g1:=(rowsL_spec hm).1
    have hmat:=mat_eq g1 (sqB_spec hsq)
    obtain⟨a,ha⟩:∃a:Nat→Nat→Int,a=fun i j=>(m.getD i []).getD j 0:=⟨_,rfl⟩
    have heq:agsEqv [.c (.sl q n 1 F)] [.c (dM q n a)]:=by
     unfold dM
     rw[ha,hmat]
     have:=rows_eqv (q:=q) (q':=q) id hm
     rw[g1]at this
     exact⟨this,trivial⟩
    have hx:=agsEqv_rel heq hx
    have E:Env Try.prog G0 (lookS []) gw:=⟨mixed,fun f σ hs=>(by cases hs),gw_stable⟩
    have ht:=hT q a
    unfold runTop at ht
    cases hb:Try.f150.body with
    |none=>rw[hb]at ht;cases ht
    |some code=>
     rw[hb]at ht
     have hwp:(T.need (dM q n a=dM q n a) (.ret [rI (M.miV n a n 0 (List.replicate n false))]):T (List Ar)).wp (fun rs=>rsEqv rs [rI (M.rdet n m)]):=⟨rfl,by rw[ha];exact rsEqv_refl _⟩
     rw[←ht]at hwp
     dsimp only at hwp
     refine fnE_sound (gw:=gw) Try.func150 hb hl hG hx rfl (fun {R ρ ac} hrel hamb hlp0 hR=>?_) hwp
     have hin:=inlL_ok (d:=dM q n a) (a:=a) E hw Try.func151 rfl (hL q a) (n+1) (Nat.le_refl _) 0
     rw[Nat.sub_self]at hin
     exact exec_sound (xokI (an:=an151 150) (N:=Try.f150.ntmps) (fuel:=60) E hw hin (fun g fn' ex he=>by
      unfold inlL at he
      split at he
      ·cases he;exact fk_keep
      ·cases he)) 60 code hrel ⟨hamb,⟨fun k l r hk=>(by rw[hlp0]at hk;cases hk),fun k l r hk=>(by rw[hlp0]at hk;cases hk),fun k j l r q hk=>(by rw[hlp0]at hk;cases hk)⟩,fun k l r hk=>(by rw[hlp0]at hk;cases hk)⟩ (Nat.le_refl _) hR
   ·cases hd
  ·cases hd
 ·cases hd
end Go.Bl
end
section
set_option maxRecDepth 100000
namespace Go.Bl
open Go.V Go.Proofs
theorem x5_00000(q:Bool)(a:Nat→Nat→Int)(st:Nat→Option Ex):runL Try.prog Try.f151 5 (dM q 5 a) a 0 [false,false,false,false,false] st=lvT 5 (dM q 5 a) a 0 [false,false,false,false,false]:=by kernel_rfl
theorem x5_00001(q:Bool)(a:Nat→Nat→Int)(st:Nat→Option Ex):runL Try.prog Try.f151 5 (dM q 5 a) a 1 [false,false,false,false,true] st=lvT 5 (dM q 5 a) a 1 [false,false,false,false,true]:=by kernel_rfl
theorem x5_00010(q:Bool)(a:Nat→Nat→Int)(st:Nat→Option Ex):runL Try.prog Try.f151 5 (dM q 5 a) a 1 [false,false,false,true,false] st=lvT 5 (dM q 5 a) a 1 [false,false,false,true,false]:=by kernel_rfl
theorem x5_00011(q:Bool)(a:Nat→Nat→Int)(st:Nat→Option Ex):runL Try.prog Try.f151 5 (dM q 5 a) a 2 [false,false,false,true,true] st=lvT 5 (dM q 5 a) a 2 [false,false,false,true,true]:=by kernel_rfl
theorem x5_00100(q:Bool)(a:Nat→Nat→Int)(st:Nat→Option Ex):runL Try.prog Try.f151 5 (dM q 5 a) a 1 [false,false,true,false,false] st=lvT 5 (dM q 5 a) a 1 [false,false,true,false,false]:=by kernel_rfl
theorem x5_00101(q:Bool)(a:Nat→Nat→Int)(st:Nat→Option Ex):runL Try.prog Try.f151 5 (dM q 5 a) a 2 [false,false,true,false,true] st=lvT 5 (dM q 5 a) a 2 [false,false,true,false,true]:=by kernel_rfl
theorem x5_00110(q:Bool)(a:Nat→Nat→Int)(st:Nat→Option Ex):runL Try.prog Try.f151 5 (dM q 5 a) a 2 [false,false,true,true,false] st=lvT 5 (dM q 5 a) a 2 [false,false,true,true,false]:=by kernel_rfl
theorem x5_00111(q:Bool)(a:Nat→Nat→Int)(st:Nat→Option Ex):runL Try.prog Try.f151 5 (dM q 5 a) a 3 [false,false,true,true,true] st=lvT 5 (dM q 5 a) a 3 [false,false,true,true,true]:=by kernel_rfl
theorem x5_01000(q:Bool)(a:Nat→Nat→Int)(st:Nat→Option Ex):runL Try.prog Try.f151 5 (dM q 5 a) a 1 [false,true,false,false,false] st=lvT 5 (dM q 5 a) a 1 [false,true,false,false,false]:=by kernel_rfl
theorem x5_01001(q:Bool)(a:Nat→Nat→Int)(st:Nat→Option Ex):runL Try.prog Try.f151 5 (dM q 5 a) a 2 [false,true,false,false,true] st=lvT 5 (dM q 5 a) a 2 [false,true,false,false,true]:=by kernel_rfl
theorem x5_01010(q:Bool)(a:Nat→Nat→Int)(st:Nat→Option Ex):runL Try.prog Try.f151 5 (dM q 5 a) a 2 [false,true,false,true,false] st=lvT 5 (dM q 5 a) a 2 [false,true,false,true,false]:=by kernel_rfl
theorem x5_01011(q:Bool)(a:Nat→Nat→Int)(st:Nat→Option Ex):runL Try.prog Try.f151 5 (dM q 5 a) a 3 [false,true,false,true,true] st=lvT 5 (dM q 5 a) a 3 [false,true,false,true,true]:=by kernel_rfl
theorem x5_01100(q:Bool)(a:Nat→Nat→Int)(st:Nat→Option Ex):runL Try.prog Try.f151 5 (dM q 5 a) a 2 [false,true,true,false,false] st=lvT 5 (dM q 5 a) a 2 [false,true,true,false,false]:=by kernel_rfl
theorem x5_01101(q:Bool)(a:Nat→Nat→Int)(st:Nat→Option Ex):runL Try.prog Try.f151 5 (dM q 5 a) a 3 [false,true,true,false,true] st=lvT 5 (dM q 5 a) a 3 [false,true,true,false,true]:=by kernel_rfl
theorem x5_01110(q:Bool)(a:Nat→Nat→Int)(st:Nat→Option Ex):runL Try.prog Try.f151 5 (dM q 5 a) a 3 [false,true,true,true,false] st=lvT 5 (dM q 5 a) a 3 [false,true,true,true,false]:=by kernel_rfl
theorem x5_01111(q:Bool)(a:Nat→Nat→Int)(st:Nat→Option Ex):runL Try.prog Try.f151 5 (dM q 5 a) a 4 [false,true,true,true,true] st=lvT 5 (dM q 5 a) a 4 [false,true,true,true,true]:=by kernel_rfl
theorem x5_10000(q:Bool)(a:Nat→Nat→Int)(st:Nat→Option Ex):runL Try.prog Try.f151 5 (dM q 5 a) a 1 [true,false,false,false,false] st=lvT 5 (dM q 5 a) a 1 [true,false,false,false,false]:=by kernel_rfl
theorem x5_10001(q:Bool)(a:Nat→Nat→Int)(st:Nat→Option Ex):runL Try.prog Try.f151 5 (dM q 5 a) a 2 [true,false,false,false,true] st=lvT 5 (dM q 5 a) a 2 [true,false,false,false,true]:=by kernel_rfl
theorem x5_10010(q:Bool)(a:Nat→Nat→Int)(st:Nat→Option Ex):runL Try.prog Try.f151 5 (dM q 5 a) a 2 [true,false,false,true,false] st=lvT 5 (dM q 5 a) a 2 [true,false,false,true,false]:=by kernel_rfl
theorem x5_10011(q:Bool)(a:Nat→Nat→Int)(st:Nat→Option Ex):runL Try.prog Try.f151 5 (dM q 5 a) a 3 [true,false,false,true,true] st=lvT 5 (dM q 5 a) a 3 [true,false,false,true,true]:=by kernel_rfl
theorem x5_10100(q:Bool)(a:Nat→Nat→Int)(st:Nat→Option Ex):runL Try.prog Try.f151 5 (dM q 5 a) a 2 [true,false,true,false,false] st=lvT 5 (dM q 5 a) a 2 [true,false,true,false,false]:=by kernel_rfl
theorem x5_10101(q:Bool)(a:Nat→Nat→Int)(st:Nat→Option Ex):runL Try.prog Try.f151 5 (dM q 5 a) a 3 [true,false,true,false,true] st=lvT 5 (dM q 5 a) a 3 [true,false,true,false,true]:=by kernel_rfl
theorem x5_10110(q:Bool)(a:Nat→Nat→Int)(st:Nat→Option Ex):runL Try.prog Try.f151 5 (dM q 5 a) a 3 [true,false,true,true,false] st=lvT 5 (dM q 5 a) a 3 [true,false,true,true,false]:=by kernel_rfl
theorem x5_10111(q:Bool)(a:Nat→Nat→Int)(st:Nat→Option Ex):runL Try.prog Try.f151 5 (dM q 5 a) a 4 [true,false,true,true,true] st=lvT 5 (dM q 5 a) a 4 [true,false,true,true,true]:=by kernel_rfl
theorem x5_11000(q:Bool)(a:Nat→Nat→Int)(st:Nat→Option Ex):runL Try.prog Try.f151 5 (dM q 5 a) a 2 [true,true,false,false,false] st=lvT 5 (dM q 5 a) a 2 [true,true,false,false,false]:=by kernel_rfl
theorem x5_11001(q:Bool)(a:Nat→Nat→Int)(st:Nat→Option Ex):runL Try.prog Try.f151 5 (dM q 5 a) a 3 [true,true,false,false,true] st=lvT 5 (dM q 5 a) a 3 [true,true,false,false,true]:=by kernel_rfl
theorem x5_11010(q:Bool)(a:Nat→Nat→Int)(st:Nat→Option Ex):runL Try.prog Try.f151 5 (dM q 5 a) a 3 [true,true,false,true,false] st=lvT 5 (dM q 5 a) a 3 [true,true,false,true,false]:=by kernel_rfl
theorem x5_11011(q:Bool)(a:Nat→Nat→Int)(st:Nat→Option Ex):runL Try.prog Try.f151 5 (dM q 5 a) a 4 [true,true,false,true,true] st=lvT 5 (dM q 5 a) a 4 [true,true,false,true,true]:=by kernel_rfl
theorem x5_11100(q:Bool)(a:Nat→Nat→Int)(st:Nat→Option Ex):runL Try.prog Try.f151 5 (dM q 5 a) a 3 [true,true,true,false,false] st=lvT 5 (dM q 5 a) a 3 [true,true,true,false,false]:=by kernel_rfl
theorem x5_11101(q:Bool)(a:Nat→Nat→Int)(st:Nat→Option Ex):runL Try.prog Try.f151 5 (dM q 5 a) a 4 [true,true,true,false,true] st=lvT 5 (dM q 5 a) a 4 [true,true,true,false,true]:=by kernel_rfl
theorem x5_11110(q:Bool)(a:Nat→Nat→Int)(st:Nat→Option Ex):runL Try.prog Try.f151 5 (dM q 5 a) a 4 [true,true,true,true,false] st=lvT 5 (dM q 5 a) a 4 [true,true,true,true,false]:=by kernel_rfl
theorem x5_11111(q:Bool)(a:Nat→Nat→Int)(st:Nat→Option Ex):runL Try.prog Try.f151 5 (dM q 5 a) a 5 [true,true,true,true,true] st=lvT 5 (dM q 5 a) a 5 [true,true,true,true,true]:=by kernel_rfl
theorem top_5:TopOK 5:=fun q a=>by kernel_rfl
theorem lev_5:LevOK 5:=by
 intro q a i _ u hu hc st
 subst hc
 match u,hu with
 |[false,false,false,false,false],_=>exact x5_00000 q a st
 |[false,false,false,false,true],_=>exact x5_00001 q a st
 |[false,false,false,true,false],_=>exact x5_00010 q a st
 |[false,false,false,true,true],_=>exact x5_00011 q a st
 |[false,false,true,false,false],_=>exact x5_00100 q a st
 |[false,false,true,false,true],_=>exact x5_00101 q a st
 |[false,false,true,true,false],_=>exact x5_00110 q a st
 |[false,false,true,true,true],_=>exact x5_00111 q a st
 |[false,true,false,false,false],_=>exact x5_01000 q a st
 |[false,true,false,false,true],_=>exact x5_01001 q a st
 |[false,true,false,true,false],_=>exact x5_01010 q a st
 |[false,true,false,true,true],_=>exact x5_01011 q a st
 |[false,true,true,false,false],_=>exact x5_01100 q a st
 |[false,true,true,false,true],_=>exact x5_01101 q a st
 |[false,true,true,true,false],_=>exact x5_01110 q a st
 |[false,true,true,true,true],_=>exact x5_01111 q a st
 |[true,false,false,false,false],_=>exact x5_10000 q a st
 |[true,false,false,false,true],_=>exact x5_10001 q a st
 |[true,false,false,true,false],_=>exact x5_10010 q a st
 |[true,false,false,true,true],_=>exact x5_10011 q a st
 |[true,false,true,false,false],_=>exact x5_10100 q a st
 |[true,false,true,false,true],_=>exact x5_10101 q a st
 |[true,false,true,true,false],_=>exact x5_10110 q a st
 |[true,false,true,true,true],_=>exact x5_10111 q a st
 |[true,true,false,false,false],_=>exact x5_11000 q a st
 |[true,true,false,false,true],_=>exact x5_11001 q a st
 |[true,true,false,true,false],_=>exact x5_11010 q a st
 |[true,true,false,true,true],_=>exact x5_11011 q a st
 |[true,true,true,false,false],_=>exact x5_11100 q a st
 |[true,true,true,false,true],_=>exact x5_11101 q a st
 |[true,true,true,true,false],_=>exact x5_11110 q a st
 |[true,true,true,true,true],_=>exact x5_11111 q a st
theorem S150_5:SumOK Try.prog G0 gw 150 (fokSm (dom150 5)):=fok_sum Try.func150 rfl (C150_lev lev_5 top_5)
end Go.Bl
end
section
set_option maxRecDepth 100000
namespace Go.Bl
open Go.V Go.Proofs
theorem t143_5(q q2:Bool)(a00 a01 a02 a03 a04 a10 a11 a12 a13 a14 a20 a21 a22 a23 a24 a30 a31 a32 a33 a34 a40 a41 a42 a43 a44 r0 r1 r2 r3 r4:Int):runFnX Try.prog G0 (lookS [v150 5]) (fun f=>if f=143 then[(1000020,[],none),(1000026,[],none),(1000055,[],none),(3000022,[],none),(3000028,[],none),(3000057,[],none)]else[]) [41] 1 60 12 143 Try.f143 [.c (.sl q 5 1 (eR.F [[a00,a01,a02,a03,a04],[a10,a11,a12,a13,a14],[a20,a21,a22,a23,a24],[a30,a31,a32,a33,a34],[a40,a41,a42,a43,a44]])),.c (.sl q2 5 1 (eI.F [r0,r1,r2,r3,r4]))] =
  T.br (M.rdet (5:Nat) [[a00,a01,a02,a03,a04],[a10,a11,a12,a13,a14],[a20,a21,a22,a23,a24],[a30,a31,a32,a33,a34],[a40,a41,a42,a43,a44]]==0) (T.ret [Ar.c (D.sl false (0:Nat) (0:Nat) fun(x x_1:Nat)=>D.nilp),Ar.c (D.int IntKind.i64 (0:Int))]) (T.needs [(0:Int)≤0,(0:Int)<5,(5:Nat)≤1000000,(0:Int)≤0,(0:Int)<5,(0:Int)≤0,(0:Int)<(Nat.cast (R:=Int) (5:Nat)),(0:Nat)<5,(5:Nat)≤5,(1:Nat)≤1000000,(0:Int)≤1,(1:Int)<5,(5:Nat)≤1000000,(0:Int)≤1,(1:Int)<5,(0:Int)≤0,(0:Int)<(Nat.cast (R:=Int) (5:Nat)),(0:Nat)<5,(5:Nat)≤5,(2:Nat)≤1000000,(1:Nat)≤1,(0:Int)≤2,(2:Int)<5,(5:Nat)≤1000000,(0:Int)≤2,(2:Int)<5,(0:Int)≤0,(0:Int)<(Nat.cast (R:=Int) (5:Nat)),(0:Nat)<5,(5:Nat)≤5,(3:Nat)≤1000000,(2:Nat)≤2,(0:Int)≤3,(3:Int)<5,(5:Nat)≤1000000,(0:Int)≤3,(3:Int)<5,(0:Int)≤0,(0:Int)<(Nat.cast (R:=Int) (5:Nat)),(0:Nat)<5,(5:Nat)≤5,(4:Nat)≤1000000,(3:Nat)≤3,(0:Int)≤4,(4:Int)<5,(5:Nat)≤1000000,(0:Int)≤4,(4:Int)<5,(0:Int)≤0,(0:Int)<(Nat.cast (R:=Int) (5:Nat)),(0:Nat)<5,(5:Nat)≤5,(5:Nat)≤1000000,(4:Nat)≤4,(5:Nat)≤5,(1:Nat)≤1000000,(0:Int)≤0,(0:Int)<5,(5:Nat)≤1000000,(0:Int)≤0,(0:Int)<5,(0:Int)≤1,(1:Int)<(Nat.cast (R:=Int) (5:Nat)),(1:Nat)<5,(5:Nat)≤5,(1:Nat)≤1000000,(0:Int)≤1,(1:Int)<5,(5:Nat)≤1000000,(0:Int)≤1,(1:Int)<5,(0:Int)≤1,(1:Int)<(Nat.cast (R:=Int) (5:Nat)),(1:Nat)<5,(5:Nat)≤5,(2:Nat)≤1000000,(1:Nat)≤1,(0:Int)≤2,(2:Int)<5,(5:Nat)≤1000000,(0:Int)≤2,(2:Int)<5,(0:Int)≤1,(1:Int)<(Nat.cast (R:=Int) (5:Nat)),(1:Nat)<5,(5:Nat)≤5,(3:Nat)≤1000000,(2:Nat)≤2,(0:Int)≤3,(3:Int)<5,(5:Nat)≤1000000,(0:Int)≤3,(3:Int)<5,(0:Int)≤1,(1:Int)<(Nat.cast (R:=Int) (5:Nat)),(1:Nat)<5,(5:Nat)≤5,(4:Nat)≤1000000,(3:Nat)≤3,(0:Int)≤4,(4:Int)<5,(5:Nat)≤1000000,(0:Int)≤4,(4:Int)<5,(0:Int)≤1,(1:Int)<(Nat.cast (R:=Int) (5:Nat)),(1:Nat)<5,(5:Nat)≤5,(5:Nat)≤1000000,(4:Nat)≤4,(5:Nat)≤5,(2:Nat)≤1000000,(1:Nat)≤1,(0:Int)≤0,(0:Int)<5,(5:Nat)≤1000000,(0:Int)≤0,(0:Int)<5,(0:Int)≤2,(2:Int)<(Nat.cast (R:=Int) (5:Nat)),(2:Nat)<5,(5:Nat)≤5,(1:Nat)≤1000000,(0:Int)≤1,(1:Int)<5,(5:Nat)≤1000000,(0:Int)≤1,(1:Int)<5,(0:Int)≤2,(2:Int)<(Nat.cast (R:=Int) (5:Nat)),(2:Nat)<5,(5:Nat)≤5,(2:Nat)≤1000000,(1:Nat)≤1,(0:Int)≤2,(2:Int)<5,(5:Nat)≤1000000,(0:Int)≤2,(2:Int)<5,(0:Int)≤2,(2:Int)<(Nat.cast (R:=Int) (5:Nat)),(2:Nat)<5,(5:Nat)≤5,(3:Nat)≤1000000,(2:Nat)≤2,(0:Int)≤3,(3:Int)<5,(5:Nat)≤1000000,(0:Int)≤3,(3:Int)<5,(0:Int)≤2,(2:Int)<(Nat.cast (R:=Int) (5:Nat)),(2:Nat)<5,(5:Nat)≤5,(4:Nat)≤1000000,(3:Nat)≤3,(0:Int)≤4,(4:Int)<5,(5:Nat)≤1000000,(0:Int)≤4,(4:Int)<5,(0:Int)≤2,(2:Int)<(Nat.cast (R:=Int) (5:Nat)),(2:Nat)<5,(5:Nat)≤5,(5:Nat)≤1000000,(4:Nat)≤4,(5:Nat)≤5,(3:Nat)≤1000000,(2:Nat)≤2,(0:Int)≤0,(0:Int)<5,(5:Nat)≤1000000,(0:Int)≤0,(0:Int)<5,(0:Int)≤3,(3:Int)<(Nat.cast (R:=Int) (5:Nat)),(3:Nat)<5,(5:Nat)≤5,(1:Nat)≤1000000,(0:Int)≤1,(1:Int)<5,(5:Nat)≤1000000,(0:Int)≤1,(1:Int)<5,(0:Int)≤3,(3:Int)<(Nat.cast (R:=Int) (5:Nat)),(3:Nat)<5,(5:Nat)≤5,(2:Nat)≤1000000,(1:Nat)≤1,(0:Int)≤2,(2:Int)<5,(5:Nat)≤1000000,(0:Int)≤2,(2:Int)<5,(0:Int)≤3,(3:Int)<(Nat.cast (R:=Int) (5:Nat)),(3:Nat)<5,(5:Nat)≤5,(3:Nat)≤1000000,(2:Nat)≤2,(0:Int)≤3,(3:Int)<5,(5:Nat)≤1000000,(0:Int)≤3,(3:Int)<5,(0:Int)≤3,(3:Int)<(Nat.cast (R:=Int) (5:Nat)),(3:Nat)<5,(5:Nat)≤5,(4:Nat)≤1000000,(3:Nat)≤3,(0:Int)≤4,(4:Int)<5,(5:Nat)≤1000000,(0:Int)≤4,(4:Int)<5,(0:Int)≤3,(3:Int)<(Nat.cast (R:=Int) (5:Nat)),(3:Nat)<5,(5:Nat)≤5,(5:Nat)≤1000000,(4:Nat)≤4,(5:Nat)≤5,(4:Nat)≤1000000,(3:Nat)≤3,(0:Int)≤0,(0:Int)<5,(5:Nat)≤1000000,(0:Int)≤0,(0:Int)<5,(0:Int)≤4,(4:Int)<(Nat.cast (R:=Int) (5:Nat)),(4:Nat)<5,(5:Nat)≤5,(1:Nat)≤1000000,(0:Int)≤1,(1:Int)<5,(5:Nat)≤1000000,(0:Int)≤1,(1:Int)<5,(0:Int)≤4,(4:Int)<(Nat.cast (R:=Int) (5:Nat)),(4:Nat)<5,(5:Nat)≤5,(2:Nat)≤1000000,(1:Nat)≤1,(0:Int)≤2,(2:Int)<5,(5:Nat)≤1000000,(0:Int)≤2,(2:Int)<5,(0:Int)≤4,(4:Int)<(Nat.cast (R:=Int) (5:Nat)),(4:Nat)<5,(5:Nat)≤5,(3:Nat)≤1000000,(2:Nat)≤2,(0:Int)≤3,(3:Int)<5,(5:Nat)≤1000000,(0:Int)≤3,(3:Int)<5,(0:Int)≤4,(4:Int)<(Nat.cast (R:=Int) (5:Nat)),(4:Nat)<5,(5:Nat)≤5,(4:Nat)≤1000000,(3:Nat)≤3,(0:Int)≤4,(4:Int)<5,(5:Nat)≤1000000,(0:Int)≤4,(4:Int)<5,(0:Int)≤4,(4:Int)<(Nat.cast (R:=Int) (5:Nat)),(4:Nat)<5,(5:Nat)≤5,(5:Nat)≤1000000,(4:Nat)≤4,(5:Nat)≤5,(5:Nat)≤1000000,(4:Nat)≤4] (T.br (decide (M.rdet (5:Nat) [[a00,a01,a02,a03,a04],[a10,a11,a12,a13,a14],[a20,a21,a22,a23,a24],[a30,a31,a32,a33,a34],[a40,a41,a42,a43,a44]]<0)) (T.needs [(0:Int)≤0,(0:Int)<5,(0:Nat)<5,(0:Int)≤0,(0:Int)<5,(0:Nat)<5,(0:Int)≤1,(1:Int)<5,(1:Nat)<5,(0:Int)≤1,(1:Int)<5,(1:Nat)<5,(0:Int)≤2,(2:Int)<5,(2:Nat)<5,(0:Int)≤2,(2:Int)<5,(2:Nat)<5,(0:Int)≤3,(3:Int)<5,(3:Nat)<5,(0:Int)≤3,(3:Int)<5,(3:Nat)<5,(0:Int)≤4,(4:Int)<5,(4:Nat)<5,(0:Int)≤4,(4:Int)<5,(4:Nat)<5,(5:Nat)≤5] (T.ret [Ar.c (D.sl true (5:Nat) (1:Nat) (putF (4:Nat) (0:Nat) (List.length [C.int IntKind.i64 (IntKind.i64.wrap ((0:Int)-M.rdet (5:Nat) [[a00,a01,a02,a03,r0],[a10,a11,a12,a13,r1],[a20,a21,a22,a23,r2],[a30,a31,a32,a33,r3],[a40,a41,a42,a43,r4]]))]) [D.int IntKind.i64 (IntKind.i64.wrap ((0:Int)-M.rdet (5:Nat) [[a00,a01,a02,a03,r0],[a10,a11,a12,a13,r1],[a20,a21,a22,a23,r2],[a30,a31,a32,a33,r3],[a40,a41,a42,a43,r4]]))] (putF (3:Nat) (0:Nat) (List.length [C.int IntKind.i64 (IntKind.i64.wrap ((0:Int)-M.rdet (5:Nat) [[a00,a01,a02,r0,a04],[a10,a11,a12,r1,a14],[a20,a21,a22,r2,a24],[a30,a31,a32,r3,a34],[a40,a41,a42,r4,a44]]))]) [D.int IntKind.i64 (IntKind.i64.wrap ((0:Int)-M.rdet (5:Nat) [[a00,a01,a02,r0,a04],[a10,a11,a12,r1,a14],[a20,a21,a22,r2,a24],[a30,a31,a32,r3,a34],[a40,a41,a42,r4,a44]]))] (putF (2:Nat) (0:Nat) (List.length [C.int IntKind.i64 (IntKind.i64.wrap ((0:Int)-M.rdet (5:Nat) [[a00,a01,r0,a03,a04],[a10,a11,r1,a13,a14],[a20,a21,r2,a23,a24],[a30,a31,r3,a33,a34],[a40,a41,r4,a43,a44]]))]) [D.int IntKind.i64 (IntKind.i64.wrap ((0:Int)-M.rdet (5:Nat) [[a00,a01,r0,a03,a04],[a10,a11,r1,a13,a14],[a20,a21,r2,a23,a24],[a30,a31,r3,a33,a34],[a40,a41,r4,a43,a44]]))] (putF (1:Nat) (0:Nat) (List.length [C.int IntKind.i64 (IntKind.i64.wrap ((0:Int)-M.rdet (5:Nat) [[a00,r0,a02,a03,a04],[a10,r1,a12,a13,a14],[a20,r2,a22,a23,a24],[a30,r3,a32,a33,a34],[a40,r4,a42,a43,a44]]))]) [D.int IntKind.i64 (IntKind.i64.wrap ((0:Int)-M.rdet (5:Nat) [[a00,r0,a02,a03,a04],[a10,r1,a12,a13,a14],[a20,r2,a22,a23,a24],[a30,r3,a32,a33,a34],[a40,r4,a42,a43,a44]]))] (putF (0:Nat) (0:Nat) (List.length [C.int IntKind.i64 (IntKind.i64.wrap ((0:Int)-M.rdet (5:Nat) [[r0,a01,a02,a03,a04],[r1,a11,a12,a13,a14],[r2,a21,a22,a23,a24],[r3,a31,a32,a33,a34],[r4,a41,a42,a43,a44]]))]) [D.int IntKind.i64 (IntKind.i64.wrap ((0:Int)-M.rdet (5:Nat) [[r0,a01,a02,a03,a04],[r1,a11,a12,a13,a14],[r2,a21,a22,a23,a24],[r3,a31,a32,a33,a34],[r4,a41,a42,a43,a44]]))] (joinF (4:Nat) (joinF (3:Nat) (joinF (2:Nat) (joinF (1:Nat) (joinF (0:Nat) (fun(x x_1:Nat)=>D.nilp) fun(i j:Nat)=>List.getD [D.int IntKind.i64 (M.rdet (5:Nat) [[r0,a01,a02,a03,a04],[r1,a11,a12,a13,a14],[r2,a21,a22,a23,a24],[r3,a31,a32,a33,a34],[r4,a41,a42,a43,a44]])] (i*1+j) D.nilp) fun(i j:Nat)=>List.getD [D.int IntKind.i64 (M.rdet (5:Nat) [[a00,r0,a02,a03,a04],[a10,r1,a12,a13,a14],[a20,r2,a22,a23,a24],[a30,r3,a32,a33,a34],[a40,r4,a42,a43,a44]])] (i*1+j) D.nilp) fun(i j:Nat)=>List.getD [D.int IntKind.i64 (M.rdet (5:Nat) [[a00,a01,r0,a03,a04],[a10,a11,r1,a13,a14],[a20,a21,r2,a23,a24],[a30,a31,r3,a33,a34],[a40,a41,r4,a43,a44]])] (i*1+j) D.nilp) fun(i j:Nat)=>List.getD [D.int IntKind.i64 (M.rdet (5:Nat) [[a00,a01,a02,r0,a04],[a10,a11,a12,r1,a14],[a20,a21,a22,r2,a24],[a30,a31,a32,r3,a34],[a40,a41,a42,r4,a44]])] (i*1+j) D.nilp) fun(i j:Nat)=>List.getD [D.int IntKind.i64 (M.rdet (5:Nat) [[a00,a01,a02,a03,r0],[a10,a11,a12,a13,r1],[a20,a21,a22,a23,r2],[a30,a31,a32,a33,r3],[a40,a41,a42,a43,r4]])] (i*1+j) D.nilp))))))),Ar.c (D.int IntKind.i64 (IntKind.i64.wrap ((0:Int)-M.rdet (5:Nat) [[a00,a01,a02,a03,a04],[a10,a11,a12,a13,a14],[a20,a21,a22,a23,a24],[a30,a31,a32,a33,a34],[a40,a41,a42,a43,a44]])))])) (T.need ((5:Nat)≤5) (T.ret [Ar.c (D.sl true (5:Nat) (1:Nat) (joinF (4:Nat) (joinF (3:Nat) (joinF (2:Nat) (joinF (1:Nat) (joinF (0:Nat) (fun(x x_1:Nat)=>D.nilp) fun(i j:Nat)=>List.getD [D.int IntKind.i64 (M.rdet (5:Nat) [[r0,a01,a02,a03,a04],[r1,a11,a12,a13,a14],[r2,a21,a22,a23,a24],[r3,a31,a32,a33,a34],[r4,a41,a42,a43,a44]])] (i*1+j) D.nilp) fun(i j:Nat)=>List.getD [D.int IntKind.i64 (M.rdet (5:Nat) [[a00,r0,a02,a03,a04],[a10,r1,a12,a13,a14],[a20,r2,a22,a23,a24],[a30,r3,a32,a33,a34],[a40,r4,a42,a43,a44]])] (i*1+j) D.nilp) fun(i j:Nat)=>List.getD [D.int IntKind.i64 (M.rdet (5:Nat) [[a00,a01,r0,a03,a04],[a10,a11,r1,a13,a14],[a20,a21,r2,a23,a24],[a30,a31,r3,a33,a34],[a40,a41,r4,a43,a44]])] (i*1+j) D.nilp) fun(i j:Nat)=>List.getD [D.int IntKind.i64 (M.rdet (5:Nat) [[a00,a01,a02,r0,a04],[a10,a11,a12,r1,a14],[a20,a21,a22,r2,a24],[a30,a31,a32,r3,a34],[a40,a41,a42,r4,a44]])] (i*1+j) D.nilp) fun(i j:Nat)=>List.getD [D.int IntKind.i64 (M.rdet (5:Nat) [[a00,a01,a02,a03,r0],[a10,a11,a12,a13,r1],[a20,a21,a22,a23,r2],[a30,a31,a32,a33,r3],[a40,a41,a42,a43,r4]])] (i*1+j) D.nilp)),Ar.c (D.int IntKind.i64 (M.rdet (5:Nat) [[a00,a01,a02,a03,a04],[a10,a11,a12,a13,a14],[a20,a21,a22,a23,a24],[a30,a31,a32,a33,a34],[a40,a41,a42,a43,a44]]))])))):=by kernel_rfl
end Go.Bl
end
section
set_option maxRecDepth 100000
namespace Go.Bl
open Go.V Go.Proofs
theorem C143g5:FOK Try.prog G0 gw 143 (dom143g 5):=by
 intro ags p r hd hp κ w xs hw hl hG hx
 unfold dom143g at hd
 split at hd
 ·rename_i q n st F q2 k st' G
  split at hd
  ·rename_i hst
   simp only[Bool.and_eq_true]at hst
   obtain⟨h1,h2⟩:=hst
   have h1:=Nat.eq_of_beq_eq_true h1
   have h2:=Nat.eq_of_beq_eq_true h2
   subst h1 h2
   simp only[Option.some.injEq,Prod.mk.injEq]at hd
   obtain⟨rfl,rfl⟩:=hd
   obtain⟨hI,hI',hn1,hn5,hk,hs,_⟩:=hp
   subst hk
   have heq:agsEqv [.c (.sl q k 1 F),.c (.sl q2 k 1 G)] [.c (.sl q (eR.list k F).length 1 (eR.F (eR.list k F))),.c (.sl q2 (eI.list k G).length 1 (eI.F (eI.list k G)))]:=⟨eR.to id hI,eI.to id hI',trivial⟩
   have l1:(eR.list k F).length=k:=eR.list_len
   have l2:(eI.list k G).length=k:=eI.list_len
   generalize eR.list k F=m at *
   generalize eI.list k G=rr at *
   match k,hn1,hn5 with
   |1,_,_=>
    obtain⟨w0,rfl⟩:=len1 l1
    obtain⟨a00,rfl⟩:=len1 (hs _ (by simp):w0.length=1)
    obtain⟨r0,rfl⟩:=len1 l2
    refine fokX_fin mixed gw_stable (sl:=[v150 1]) ⟨S150_1,trivial⟩ Try.func143 hw hl hG hx heq rfl (t143_1 q q2 a00 r0) ?_
    refine⟨fun hb=>?_,fun hb=>?_⟩
    ·simp only[M.rsl,M.rdn,List.length_cons,List.length_nil,Nat.zero_add,Nat.reduceAdd,M.rsol,M.rden,M.rsolve,hb,cond_true]
     exact⟨⟨(fun e=>by cases e),rfl,fun h=>absurd h (Nat.lt_irrefl 0),fun i j hi=>absurd hi (Nat.not_lt_zero i)⟩,rfl,trivial⟩
    ·repeat (refine⟨by decide,?_⟩)
     refine⟨fun hc=>?_,fun hc=>?_⟩
     ·repeat (refine⟨by decide,?_⟩)
      simp only[M.rsl,M.rdn,List.length_cons,List.length_nil,Nat.zero_add,Nat.reduceAdd,M.rsol,M.rden,M.rsolve,hb,hc,cond_true,cond_false]
      refine⟨⟨(fun e=>by cases e),rfl,fun _=>rfl,fun i j hi hj=>?_⟩,rfl,trivial⟩
      obtain rfl:j=0:=Nat.lt_one_iff.1 hj
      match i,hi with
      |0,_=>exact D.eqv_refl _
      |i+1,hi=>exact absurd hi (Nat.not_lt.2 (Nat.le_add_left _ _))
     ·repeat (refine⟨by decide,?_⟩)
      simp only[M.rsl,M.rdn,List.length_cons,List.length_nil,Nat.zero_add,Nat.reduceAdd,M.rsol,M.rden,M.rsolve,hb,hc,cond_true,cond_false]
      refine⟨⟨(fun e=>by cases e),rfl,fun _=>rfl,fun i j hi hj=>?_⟩,rfl,trivial⟩
      obtain rfl:j=0:=Nat.lt_one_iff.1 hj
      match i,hi with
      |0,_=>exact D.eqv_refl _
      |i+1,hi=>exact absurd hi (Nat.not_lt.2 (Nat.le_add_left _ _))
   |2,_,_=>
    obtain⟨w0,w1,rfl⟩:=len2 l1
    obtain⟨a00,a01,rfl⟩:=len2 (hs _ (by simp):w0.length=2)
    obtain⟨a10,a11,rfl⟩:=len2 (hs _ (by simp):w1.length=2)
    obtain⟨r0,r1,rfl⟩:=len2 l2
    refine fokX_fin mixed gw_stable (sl:=[v150 2]) ⟨S150_2,trivial⟩ Try.func143 hw hl hG hx heq rfl (t143_2 q q2 a00 a01 a10 a11 r0 r1) ?_
    refine⟨fun hb=>?_,fun hb=>?_⟩
    ·simp only[M.rsl,M.rdn,List.length_cons,List.length_nil,Nat.zero_add,Nat.reduceAdd,M.rsol,M.rden,M.rsolve,hb,cond_true]
     exact⟨⟨(fun e=>by cases e),rfl,fun h=>absurd h (Nat.lt_irrefl 0),fun i j hi=>absurd hi (Nat.not_lt_zero i)⟩,rfl,trivial⟩
    ·repeat (refine⟨by decide,?_⟩)
     refine⟨fun hc=>?_,fun hc=>?_⟩
     ·repeat (refine⟨by decide,?_⟩)
      simp only[M.rsl,M.rdn,List.length_cons,List.length_nil,Nat.zero_add,Nat.reduceAdd,M.rsol,M.rden,M.rsolve,hb,hc,cond_true,cond_false]
      refine⟨⟨(fun e=>by cases e),rfl,fun _=>rfl,fun i j hi hj=>?_⟩,rfl,trivial⟩
      obtain rfl:j=0:=Nat.lt_one_iff.1 hj
      match i,hi with
      |0,_=>exact D.eqv_refl _
      |1,_=>exact D.eqv_refl _
      |i+2,hi=>exact absurd hi (Nat.not_lt.2 (Nat.le_add_left _ _))
     ·repeat (refine⟨by decide,?_⟩)
      simp only[M.rsl,M.rdn,List.length_cons,List.length_nil,Nat.zero_add,Nat.reduceAdd,M.rsol,M.rden,M.rsolve,hb,hc,cond_true,cond_false]
      refine⟨⟨(fun e=>by cases e),rfl,fun _=>rfl,fun i j hi hj=>?_⟩,rfl,trivial⟩
      obtain rfl:j=0:=Nat.lt_one_iff.1 hj
      match i,hi with
      |0,_=>exact D.eqv_refl _
      |1,_=>exact D.eqv_refl _
      |i+2,hi=>exact absurd hi (Nat.not_lt.2 (Nat.le_add_left _ _))
   |3,_,_=>
    obtain⟨w0,w1,w2,rfl⟩:=len3 l1
    obtain⟨a00,a01,a02,rfl⟩:=len3 (hs _ (by simp):w0.length=3)
    obtain⟨a10,a11,a12,rfl⟩:=len3 (hs _ (by simp):w1.length=3)
    obtain⟨a20,a21,a22,rfl⟩:=len3 (hs _ (by simp):w2.length=3)
    obtain⟨r0,r1,r2,rfl⟩:=len3 l2
    refine fokX_fin mixed gw_stable (sl:=[v150 3]) ⟨S150_3,trivial⟩ Try.func143 hw hl hG hx heq rfl (t143_3 q q2 a00 a01 a02 a10 a11 a12 a20 a21 a22 r0 r1 r2) ?_
    refine⟨fun hb=>?_,fun hb=>?_⟩
    ·simp only[M.rsl,M.rdn,List.length_cons,List.length_nil,Nat.zero_add,Nat.reduceAdd,M.rsol,M.rden,M.rsolve,hb,cond_true]
     exact⟨⟨(fun e=>by cases e),rfl,fun h=>absurd h (Nat.lt_irrefl 0),fun i j hi=>absurd hi (Nat.not_lt_zero i)⟩,rfl,trivial⟩
    ·repeat (refine⟨by decide,?_⟩)
     refine⟨fun hc=>?_,fun hc=>?_⟩
     ·repeat (refine⟨by decide,?_⟩)
      simp only[M.rsl,M.rdn,List.length_cons,List.length_nil,Nat.zero_add,Nat.reduceAdd,M.rsol,M.rden,M.rsolve,hb,hc,cond_true,cond_false]
      refine⟨⟨(fun e=>by cases e),rfl,fun _=>rfl,fun i j hi hj=>?_⟩,rfl,trivial⟩
      obtain rfl:j=0:=Nat.lt_one_iff.1 hj
      match i,hi with
      |0,_=>exact D.eqv_refl _
      |1,_=>exact D.eqv_refl _
      |2,_=>exact D.eqv_refl _
      |i+3,hi=>exact absurd hi (Nat.not_lt.2 (Nat.le_add_left _ _))
     ·repeat (refine⟨by decide,?_⟩)
      simp only[M.rsl,M.rdn,List.length_cons,List.length_nil,Nat.zero_add,Nat.reduceAdd,M.rsol,M.rden,M.rsolve,hb,hc,cond_true,cond_false]
      refine⟨⟨(fun e=>by cases e),rfl,fun _=>rfl,fun i j hi hj=>?_⟩,rfl,trivial⟩
      obtain rfl:j=0:=Nat.lt_one_iff.1 hj
      match i,hi with
      |0,_=>exact D.eqv_refl _
      |1,_=>exact D.eqv_refl _
      |2,_=>exact D.eqv_refl _
      |i+3,hi=>exact absurd hi (Nat.not_lt.2 (Nat.le_add_left _ _))
   |4,_,_=>
    obtain⟨w0,w1,w2,w3,rfl⟩:=len4 l1
    obtain⟨a00,a01,a02,a03,rfl⟩:=len4 (hs _ (by simp):w0.length=4)
    obtain⟨a10,a11,a12,a13,rfl⟩:=len4 (hs _ (by simp):w1.length=4)
    obtain⟨a20,a21,a22,a23,rfl⟩:=len4 (hs _ (by simp):w2.length=4)
    obtain⟨a30,a31,a32,a33,rfl⟩:=len4 (hs _ (by simp):w3.length=4)
    obtain⟨r0,r1,r2,r3,rfl⟩:=len4 l2
    refine fokX_fin mixed gw_stable (sl:=[v150 4]) ⟨S150_4,trivial⟩ Try.func143 hw hl hG hx heq rfl (t143_4 q q2 a00 a01 a02 a03 a10 a11 a12 a13 a20 a21 a22 a23 a30 a31 a32 a33 r0 r1 r2 r3) ?_
    refine⟨fun hb=>?_,fun hb=>?_⟩
    ·simp only[M.rsl,M.rdn,List.length_cons,List.length_nil,Nat.zero_add,Nat.reduceAdd,M.rsol,M.rden,M.rsolve,hb,cond_true]
     exact⟨⟨(fun e=>by cases e),rfl,fun h=>absurd h (Nat.lt_irrefl 0),fun i j hi=>absurd hi (Nat.not_lt_zero i)⟩,rfl,trivial⟩
    ·repeat (refine⟨by decide,?_⟩)
     refine⟨fun hc=>?_,fun hc=>?_⟩
     ·repeat (refine⟨by decide,?_⟩)
      simp only[M.rsl,M.rdn,List.length_cons,List.length_nil,Nat.zero_add,Nat.reduceAdd,M.rsol,M.rden,M.rsolve,hb,hc,cond_true,cond_false]
      refine⟨⟨(fun e=>by cases e),rfl,fun _=>rfl,fun i j hi hj=>?_⟩,rfl,trivial⟩
      obtain rfl:j=0:=Nat.lt_one_iff.1 hj
      match i,hi with
      |0,_=>exact D.eqv_refl _
      |1,_=>exact D.eqv_refl _
      |2,_=>exact D.eqv_refl _
      |3,_=>exact D.eqv_refl _
      |i+4,hi=>exact absurd hi (Nat.not_lt.2 (Nat.le_add_left _ _))
     ·repeat (refine⟨by decide,?_⟩)
      simp only[M.rsl,M.rdn,List.length_cons,List.length_nil,Nat.zero_add,Nat.reduceAdd,M.rsol,M.rden,M.rsolve,hb,hc,cond_true,cond_false]
      refine⟨⟨(fun e=>by cases e),rfl,fun _=>rfl,fun i j hi hj=>?_⟩,rfl,trivial⟩
      obtain rfl:j=0:=Nat.lt_one_iff.1 hj
      match i,hi with
      |0,_=>exact D.eqv_refl _
      |1,_=>exact D.eqv_refl _
      |2,_=>exact D.eqv_refl _
      |3,_=>exact D.eqv_refl _
      |i+4,hi=>exact absurd hi (Nat.not_lt.2 (Nat.le_add_left _ _))
   |5,_,_=>
    obtain⟨w0,w1,w2,w3,w4,rfl⟩:=len5 l1
    obtain⟨a00,a01,a02,a03,a04,rfl⟩:=len5 (hs _ (by simp):w0.length=5)
    obtain⟨a10,a11,a12,a13,a14,rfl⟩:=len5 (hs _ (by simp):w1.length=5)
    obtain⟨a20,a21,a22,a23,a24,rfl⟩:=len5 (hs _ (by simp):w2.length=5)
    obtain⟨a30,a31,a32,a33,a34,rfl⟩:=len5 (hs _ (by simp):w3.length=5)
    obtain⟨a40,a41,a42,a43,a44,rfl⟩:=len5 (hs _ (by simp):w4.length=5)
    obtain⟨r0,r1,r2,r3,r4,rfl⟩:=len5 l2
    refine fokX_fin mixed gw_stable (sl:=[v150 5]) ⟨S150_5,trivial⟩ Try.func143 hw hl hG hx heq rfl (t143_5 q q2 a00 a01 a02 a03 a04 a10 a11 a12 a13 a14 a20 a21 a22 a23 a24 a30 a31 a32 a33 a34 a40 a41 a42 a43 a44 r0 r1 r2 r3 r4) ?_
    refine⟨fun hb=>?_,fun hb=>?_⟩
    ·simp only[M.rsl,M.rdn,List.length_cons,List.length_nil,Nat.zero_add,Nat.reduceAdd,M.rsol,M.rden,M.rsolve,hb,cond_true]
     exact⟨⟨(fun e=>by cases e),rfl,fun h=>absurd h (Nat.lt_irrefl 0),fun i j hi=>absurd hi (Nat.not_lt_zero i)⟩,rfl,trivial⟩
    ·repeat (refine⟨by decide,?_⟩)
     refine⟨fun hc=>?_,fun hc=>?_⟩
     ·repeat (refine⟨by decide,?_⟩)
      simp only[M.rsl,M.rdn,List.length_cons,List.length_nil,Nat.zero_add,Nat.reduceAdd,M.rsol,M.rden,M.rsolve,hb,hc,cond_true,cond_false]
      refine⟨⟨(fun e=>by cases e),rfl,fun _=>rfl,fun i j hi hj=>?_⟩,rfl,trivial⟩
      obtain rfl:j=0:=Nat.lt_one_iff.1 hj
      match i,hi with
      |0,_=>exact D.eqv_refl _
      |1,_=>exact D.eqv_refl _
      |2,_=>exact D.eqv_refl _
      |3,_=>exact D.eqv_refl _
      |4,_=>exact D.eqv_refl _
      |i+5,hi=>exact absurd hi (Nat.not_lt.2 (Nat.le_add_left _ _))
     ·repeat (refine⟨by decide,?_⟩)
      simp only[M.rsl,M.rdn,List.length_cons,List.length_nil,Nat.zero_add,Nat.reduceAdd,M.rsol,M.rden,M.rsolve,hb,hc,cond_true,cond_false]
      refine⟨⟨(fun e=>by cases e),rfl,fun _=>rfl,fun i j hi hj=>?_⟩,rfl,trivial⟩
      obtain rfl:j=0:=Nat.lt_one_iff.1 hj
      match i,hi with
      |0,_=>exact D.eqv_refl _
      |1,_=>exact D.eqv_refl _
      |2,_=>exact D.eqv_refl _
      |3,_=>exact D.eqv_refl _
      |4,_=>exact D.eqv_refl _
      |i+5,hi=>exact absurd hi (Nat.not_lt.2 (Nat.le_add_left _ _))
  ·cases hd
 ·cases hd
theorem S143g5:SumOK Try.prog G0 gw 143 (fokSm (dom143g 5)):=fok_sum Try.func143 rfl C143g5
end Go.Bl
end
section
set_option maxRecDepth 100000
namespace Go.Bl
open Go.V Go.Proofs
def tr86(l:List Cask):T (List Ar):=
 .loop (Int×Int×PUnit) (0,0,PUnit.unit) fun x=>.br (decide (x.1<(l.length:Int))) (T.needs [0≤x.1,x.1<(l.length:Int)] (.ret (.inl (w64 (x.1+1),w64 (x.2.1+(l.getD x.1.toNat eC.dflt).vol),PUnit.unit)))) (.ret (.inr [.c (.int .i64 x.2.1)]))
theorem t86(q_l:Bool)(l:List Cask):runFnX Try.prog G0 (lookS []) (fun _=>[(3,[.slot 4 (.int .i64),.slot 3 (.int .i64)],none)]) [] 1 60 4 86 Try.f86 [.c (.sl q_l l.length 7 (eC.F l))] =
  tr86 l:=by kernel_rfl
theorem w86{l:List Cask}(hl:l.length≤1000000):(tr86 l).wp (fun rs=>rsEqv rs [rI (M.volumes l)]):=by
 refine⟨fun x=>∃k:Nat,k≤l.length∧x.1=(k:Int)∧x.2.1=(List.range k).foldl (fun a i=>IntKind.i64.wrap (a+(l.getD i dfC).vol)) 0,fun x=>l.length-x.1.toNat,⟨0,Nat.zero_le _,rfl,rfl⟩,?_⟩
 rintro ⟨x,a,u⟩ ⟨k,hk,hx,ha⟩
 simp only at hx ha
 subst hx ha
 refine⟨fun hb=>?_,fun hb=>?_⟩
 ·have hlt:=lt_of_dec hb
  refine⟨by show(0:Int)≤k;omega,by show(k:Int)<l.length;omega,⟨k+1,by omega,w64_succ (by omega),?_⟩,?_⟩
  ·rw[foldl_succ];rfl
  ·show l.length-(w64 ((k:Int)+1)).toNat<l.length-(k:Int).toNat
   rw[w64_succ (by omega)];omega
 ·have hge:=ge_of_dec hb
  obtain rfl:k=l.length:=by omega
  exact rsEqv_refl _
def dom86z:DomF
 |[.c (.sl _ n_l st_l F_l)]=>(match Nat.beq st_l 7 with
  |true=>some ([eC.Is n_l F_l,(eC.list n_l F_l).length≤1000000],[rI (M.volumes (eC.list n_l F_l))])
  |_=>none)
 |_=>none
def v86z:Nat×Sm:=(86,fokSm dom86z)
theorem C86z:FOK Try.prog G0 gw 86 dom86z:=by
 intro ags p r hd hp κ w xs hw hl hG hx
 unfold dom86z at hd
 split at hd
 ·rename_i q_l n_l st_l F_l
  split at hd
  ·rename_i hst
   have g1:=hst
   have g1:=Nat.eq_of_beq_eq_true g1
   subst g1
   simp only[Option.some.injEq,Prod.mk.injEq]at hd
   obtain⟨rfl,rfl⟩:=hd
   obtain⟨hI_l,hp⟩:=hp
   have heq:agsEqv [.c (.sl q_l n_l 7 F_l)] [.c (.sl q_l (eC.list n_l F_l).length 7 (eC.F (eC.list n_l F_l)))]:=⟨eC.to id hI_l,trivial⟩
   have len_l:(eC.list n_l F_l).length=n_l:=eC.list_len
   generalize eC.list n_l F_l=l at *
   subst len_l
   exact fokX_fin mixed gw_stable (sl:=[]) trivial Try.func86 hw hl hG hx heq rfl (t86 _ _) (w86 hp.1)
  ·cases hd
 ·cases hd
theorem S86z:SumOK Try.prog G0 gw 86 (fokSm dom86z):=fok_sum Try.func86 rfl C86z
namespace M
def rnear(l:List Cask)(s:Sample):Option RC:=rbest (rrowsF l s) (far l)
end M
def farF(n:Nat):Nat→Nat→D:=putF n 0 1 [dI 1] fun _ j=>List.getD [dI 0] j .nilp
def resRK(v:RC):List Ar:=[.agg [.sl false v.pt.length 1 (eI.F v.pt),dI v.pd,.sl false v.wt.length 1 (eI.F v.wt),dI v.wd]]
def tr87(l:List Cask)(s:Sample):T (List Ar):=
 T.needs [0≤w64 ((l.length:Int)+1),w64 ((l.length:Int)+1)≤w64 ((l.length:Int)+1),w64 ((l.length:Int)+1)≤1000000,(0:Int)≤(l.length:Int),(l.length:Int)<((w64 ((l.length:Int)+1)).toNat:Int),(l.length:Int).toNat<(w64 ((l.length:Int)+1)).toNat,
   eC.Is l.length (eC.F l),1≤l.length,l.length≤4,(w64 ((l.length:Int)+1)).toNat≤(w64 ((l.length:Int)+1)).toNat,eRw.Is (M.rrowsF (eC.list l.length (eC.F l)) s).length (eRw.F (M.rrowsF (eC.list l.length (eC.F l)) s)),
   eI.Is (w64 ((l.length:Int)+1)).toNat (farF (l.length:Int).toNat),BOK 5 (eRw.list (M.rrowsF (eC.list l.length (eC.F l)) s).length (eRw.F (M.rrowsF (eC.list l.length (eC.F l)) s))) (eI.list (w64 ((l.length:Int)+1)).toNat (farF (l.length:Int).toNat))]
  (.ret (resRK (rcOf (M.rbest (eRw.list (M.rrowsF (eC.list l.length (eC.F l)) s).length (eRw.F (M.rrowsF (eC.list l.length (eC.F l)) s))) (eI.list (w64 ((l.length:Int)+1)).toNat (farF (l.length:Int).toNat))))))
theorem t87(q_l:Bool)(l:List Cask)(sv l0 h0 l1 h1 l2 h2 l3 h3:Int):runFnX Try.prog G0 (lookS [v71t,v70z 5]) (fun _=>[]) [] 1 60 4 87 Try.f87 [.c (.sl q_l l.length 7 (eC.F l)),.agg [dI sv,dI l0,dI h0,dI l1,dI h1,dI l2,dI h2,dI l3,dI h3]] =
  tr87 l (⟨sv,⟨l0,h0⟩,⟨l1,h1⟩,⟨l2,h2⟩,⟨l3,h3⟩⟩:Sample):=by kernel_rfl
theorem farF_is(l:List Cask):eI.Is (l.length+1) (farF l.length)∧eI.list (l.length+1) (farF l.length)=M.far l:=by
 obtain⟨z1,z2⟩:=zeros_int (l.length+1)
 have p:=put_isl (v:=1) z1 z2 (show l.length<l.length+1 by omega)
 refine⟨p.1,p.2.trans ?_⟩
 rw[List.replicate_succ',List.set_append_right _ _ (by simp)]
 unfold M.far
 rw[List.map_const']
 simp
theorem w87{l:List Cask}{s:Sample}(h1:1≤l.length)(h4:l.length≤4)(hB:BOK 5 (M.rrowsF l s) (M.far l)):(tr87 l s).wp (fun rs=>rsEqv rs (resRK (rcOf (M.rnear l s)))):=by
 have e1:w64 ((l.length:Int)+1)=((l.length+1:Nat):Int):=w64_succ (by omega)
 obtain⟨f1,f2⟩:=farF_is l
 unfold tr87
 simp only[Enc.list_F,e1,Int.toNat_natCast,f2]
 exact⟨by omega,Int.le_refl _,by omega,by omega,by omega,by omega,Enc.is_F _ _ _,h1,h4,Nat.le_refl _,Enc.is_F _ _ _,f1,hB,rsEqv_refl _⟩
def dom87z:DomF
 |[.c (.sl _ n_l st_l F_l),.agg [.int .i64 sv,.int .i64 l0,.int .i64 h0,.int .i64 l1,.int .i64 h1,.int .i64 l2,.int .i64 h2,.int .i64 l3,.int .i64 h3]]=>(match Nat.beq st_l 7 with
  |true=>some ([eC.Is n_l F_l,1≤(eC.list n_l F_l).length,(eC.list n_l F_l).length≤4,BOK 5 (M.rrowsF (eC.list n_l F_l) (⟨sv,⟨l0,h0⟩,⟨l1,h1⟩,⟨l2,h2⟩,⟨l3,h3⟩⟩:Sample)) (M.far (eC.list n_l F_l))],resRK (rcOf (M.rnear (eC.list n_l F_l) (⟨sv,⟨l0,h0⟩,⟨l1,h1⟩,⟨l2,h2⟩,⟨l3,h3⟩⟩:Sample))))
  |_=>none)
 |_=>none
def v87z:Nat×Sm:=(87,fokSm dom87z)
theorem C87z:FOK Try.prog G0 gw 87 dom87z:=by
 intro ags p r hd hp κ w xs hw hl hG hx
 unfold dom87z at hd
 split at hd
 ·rename_i q_l n_l st_l F_l sv l0 h0 l1 h1 l2 h2 l3 h3
  split at hd
  ·rename_i hst
   have g1:=hst
   have g1:=Nat.eq_of_beq_eq_true g1
   subst g1
   simp only[Option.some.injEq,Prod.mk.injEq]at hd
   obtain⟨rfl,rfl⟩:=hd
   obtain⟨hI_l,hp⟩:=hp
   have heq:agsEqv [.c (.sl q_l n_l 7 F_l),.agg [.int .i64 sv,.int .i64 l0,.int .i64 h0,.int .i64 l1,.int .i64 h1,.int .i64 l2,.int .i64 h2,.int .i64 l3,.int .i64 h3]] [.c (.sl q_l (eC.list n_l F_l).length 7 (eC.F (eC.list n_l F_l))),.agg [.int .i64 sv,.int .i64 l0,.int .i64 h0,.int .i64 l1,.int .i64 h1,.int .i64 l2,.int .i64 h2,.int .i64 l3,.int .i64 h3]]:=⟨eC.to id hI_l,Ag.eqv_refl _,trivial⟩
   have len_l:(eC.list n_l F_l).length=n_l:=eC.list_len
   generalize eC.list n_l F_l=l at *
   subst len_l
   exact fokX_fin mixed gw_stable (sl:=[v71t,v70z 5]) ⟨S71t,S70z S143g5,trivial⟩ Try.func87 hw hl hG hx heq rfl (t87 _ _ _ _ _ _ _ _ _ _ _) (w87 hp.1 hp.2.1 hp.2.2.1)
  ·cases hd
 ·cases hd
theorem S87z:SumOK Try.prog G0 gw 87 (fokSm dom87z):=fok_sum Try.func87 rfl C87z
end Go.Bl
end
section
set_option maxRecDepth 100000
namespace Go.Bl
open Go.V Go.Proofs
namespace M
def rNearC(l:List Cask)(s:Sample)(v:RC):NearR:=⟨v.pd,v.pt.take l.length,told1 (v.pt.getD l.length 0) (w64 (v.pd*s.vol)),told2 (v.pt.getD l.length 0) (w64 (v.pd*s.vol)),0⟩
def rNear(l:List Cask)(s:Sample):NearR:=cond (decide (volumes l<s.vol)) ⟨0,[],0,0,24⟩ (rNearC l s (rcOf (rnear l s)))
end M
def zN:List Ar:=[.agg [dI 0,.sl false 0 0 nF],.agg [dI 0,dI 0],rI 24]
def endN(l:List Cask)(sv:Int)(v:RC):T (List Ar):=
 T.needs [(0:Int)≤(l.length:Int),(l.length:Int)=(l.length:Int),(l.length:Int)≤(v.pt.length:Int),(0:Int)≤(l.length:Int),(l.length:Int)<(v.pt.length:Int),w64 (v.pd*sv)≠0,i64ok (v.pt.getD (l.length:Int).toNat 0),i64ok (w64 (v.pd*sv))]
  (.ret [.agg [dI v.pd,.sl false (l.length:Int).toNat 1 (eI.F v.pt)],.agg [dI (M.told1 (v.pt.getD (l.length:Int).toNat 0) (w64 (v.pd*sv))),dI (M.told2 (v.pt.getD (l.length:Int).toNat 0) (w64 (v.pd*sv)))],rI 0])
def tr27(l:List Cask)(s:Sample):T (List Ar):=
 T.needs [eC.Is l.length (eC.F l),(eC.list l.length (eC.F l)).length≤1000000] (.br (decide (M.volumes (eC.list l.length (eC.F l))<s.vol)) (.ret zN)
  (T.needs [eC.Is l.length (eC.F l),1≤(eC.list l.length (eC.F l)).length,(eC.list l.length (eC.F l)).length≤4,BOK 5 (M.rrowsF (eC.list l.length (eC.F l)) s) (M.far (eC.list l.length (eC.F l)))]
   (endN l s.vol (rcOf (M.rnear (eC.list l.length (eC.F l)) s)))))
theorem t27(q_l:Bool)(l:List Cask)(sv l0 h0 l1 h1 l2 h2 l3 h3:Int):runFnX Try.prog G0 (lookS [v86z,v87z,v78]) (fun _=>[]) [] 1 60 4 27 Try.f27 [.c (.sl q_l l.length 7 (eC.F l)),.agg [dI sv,dI l0,dI h0,dI l1,dI h1,dI l2,dI h2,dI l3,dI h3]] =
  tr27 l (⟨sv,⟨l0,h0⟩,⟨l1,h1⟩,⟨l2,h2⟩,⟨l3,h3⟩⟩:Sample):=by kernel_rfl
structure RNOK(l:List Cask)(s:Sample):Prop where
 n1:1≤l.length
 n4:l.length≤4
 ok:¬M.volumes l<s.vol→BOK 5 (M.rrowsF l s) (M.far l)∧l.length<(rcOf (M.rnear l s)).pt.length∧w64 ((rcOf (M.rnear l s)).pd*s.vol)≠0∧i64ok ((rcOf (M.rnear l s)).pt.getD l.length 0)∧i64ok (w64 ((rcOf (M.rnear l s)).pd*s.vol))
theorem w27{l:List Cask}{s:Sample}(h:RNOK l s):(tr27 l s).wp (fun rs=>rsEqv rs (resN (M.rNear l s))):=by
 have n1:=h.n1
 have n4:=h.n4
 unfold tr27
 simp only[Enc.list_F]
 refine⟨Enc.is_F _ _ _,by omega,fun hb=>?_,fun hb=>?_⟩
 ·unfold M.rNear
  rw[hb]
  exact⟨⟨rfl,⟨(fun e=>by cases e),rfl,(fun h=>absurd h (Nat.lt_irrefl 0)),fun i j hi=>absurd hi (Nat.not_lt_zero i)⟩,trivial⟩,⟨rfl,rfl,trivial⟩,rfl,trivial⟩
 ·obtain⟨o1,o2,o3,o4,o5⟩:=h.ok (of_decide_eq_false hb)
  unfold M.rNear
  rw[hb]
  refine⟨Enc.is_F _ _ _,n1,n4,o1,?_⟩
  unfold endN
  simp only[Int.toNat_natCast]
  exact⟨by omega,trivial,by omega,by omega,by omega,o3,o4,o5,⟨rfl,take_eqv (by omega),trivial⟩,⟨rfl,rfl,trivial⟩,rfl,trivial⟩
def dom27z:DomF
 |[.c (.sl _ n_l st_l F_l),.agg [.int .i64 sv,.int .i64 l0,.int .i64 h0,.int .i64 l1,.int .i64 h1,.int .i64 l2,.int .i64 h2,.int .i64 l3,.int .i64 h3]]=>(match Nat.beq st_l 7 with
  |true=>some ([eC.Is n_l F_l,RNOK (eC.list n_l F_l) (⟨sv,⟨l0,h0⟩,⟨l1,h1⟩,⟨l2,h2⟩,⟨l3,h3⟩⟩:Sample)],resN (M.rNear (eC.list n_l F_l) (⟨sv,⟨l0,h0⟩,⟨l1,h1⟩,⟨l2,h2⟩,⟨l3,h3⟩⟩:Sample)))
  |_=>none)
 |_=>none
def v27z:Nat×Sm:=(27,fokSm dom27z)
theorem C27z:FOK Try.prog G0 gw 27 dom27z:=by
 intro ags p r hd hp κ w xs hw hl hG hx
 unfold dom27z at hd
 split at hd
 ·rename_i q_l n_l st_l F_l sv l0 h0 l1 h1 l2 h2 l3 h3
  split at hd
  ·rename_i hst
   have g1:=hst
   have g1:=Nat.eq_of_beq_eq_true g1
   subst g1
   simp only[Option.some.injEq,Prod.mk.injEq]at hd
   obtain⟨rfl,rfl⟩:=hd
   obtain⟨hI_l,hp⟩:=hp
   have heq:agsEqv [.c (.sl q_l n_l 7 F_l),.agg [.int .i64 sv,.int .i64 l0,.int .i64 h0,.int .i64 l1,.int .i64 h1,.int .i64 l2,.int .i64 h2,.int .i64 l3,.int .i64 h3]] [.c (.sl q_l (eC.list n_l F_l).length 7 (eC.F (eC.list n_l F_l))),.agg [.int .i64 sv,.int .i64 l0,.int .i64 h0,.int .i64 l1,.int .i64 h1,.int .i64 l2,.int .i64 h2,.int .i64 l3,.int .i64 h3]]:=⟨eC.to id hI_l,Ag.eqv_refl _,trivial⟩
   have len_l:(eC.list n_l F_l).length=n_l:=eC.list_len
   generalize eC.list n_l F_l=l at *
   subst len_l
   exact fokX_fin mixed gw_stable (sl:=[v86z,v87z,v78]) ⟨S86z,S87z,S78,trivial⟩ Try.func27 hw hl hG hx heq rfl (t27 _ _ _ _ _ _ _ _ _ _ _) (w27 hp.1)
  ·cases hd
 ·cases hd
theorem S27z:SumOK Try.prog G0 gw 27 (fokSm dom27z):=fok_sum Try.func27 rfl C27z
end Go.Bl
end
section
set_option maxRecDepth 100000
namespace Go.Bl
open Go.V Go.Proofs Go.Lp
theorem tOf_sub{cs:List Cond}{d:Nat}{ch:List Int}(hv:Val d ((cs.length:Int)+1) ch):(tOf cs ch).Sublist cs:=by
 have hb:∀k,k<ch.length→ch.getD k 0=ch.getD k 0∧1≤ch.getD k 0∧(ch.getD k 0).toNat-1<cs.length:=fun k hk=>by
  have hl:=hv.len
  have h1:=hv.lo k (by omega)
  have h2:=hv.hi k (by omega)
  exact⟨rfl,by omega,by omega⟩
 obtain⟨ix,hix⟩:∃ix:List (Fin cs.length),ix=List.ofFn (fun k:Fin ch.length=>(⟨(ch.getD k.val 0).toNat-1,(hb k.val k.isLt).2.2⟩:Fin cs.length)):=⟨_,rfl⟩
 have hp:ix.Pairwise (· < ·):=by
  rw[hix,List.pairwise_iff_getElem]
  intro i j hi hj hij
  simp only[List.length_ofFn]at hi hj
  simp only[List.getElem_ofFn]
  show(ch.getD i 0).toNat-1<(ch.getD j 0).toNat-1
  have hl:=hv.len
  have h1:=hb i hi
  have:=hv.grow (k:=i) (j:=j) (by omega) (by omega)
  omega
 have e:tOf cs ch=ix.map (fun i=>cs[i]):=by
  unfold tOf
  rw[hix]
  refine List.ext_getElem (by simp) fun i h1 h2=>?_
  have hi:i<ch.length:=by simpa using h1
  simp only[List.getElem_map,List.getElem_ofFn]
  have e2:ch.getD i 0=ch[i]:=by simp[hi]
  have h3:=(hb i hi).2.2
  rw[e2]at h3
  rw[List.getD_eq_getElem?_getD,List.getElem?_eq_getElem h3]
  simp[hi]
 rw[e]
 exact List.map_getElem_sublist hp
section
variable {n : Nat} {sh wo : List Int} {sum : Int} {cs : List Cond}
theorem rbest_ne(h:Small n sh wo sum cs)(hB:Big n sh sum cs)(hn:n≤cs.length+1){cs0:List Cond}{x:M.Corner}(ho:Opt n sh sum wo cs0 x)(hm:∀c,c∈cs0↔c∈cs):M.rbest (rowsN sh sum cs) wo≠none:=by
 intro hv
 have hl:(rowsN sh sum cs).length=cs.length+1:=by simp[rowsN]
 have hw:=h.wl
 have hall:=rbest_none (by rw[hl,hw];exact hn) (by rw[hw];exact h.n1) hv
 cases hp:M.psolve sh sum wo cs with
 |none=>exact opt_psolve h ho hm hp
 |some y=>
  unfold M.psolve at hp
  obtain⟨t,h1,h2,h3⟩:=pick_some hp
  rw[List.nil_append]at h3
  obtain⟨ch,g1,g2,g3,g4⟩:=sub_idx h1
  have hsl:=h.sl
  have hval:Val (n-1) ((cs.length:Int)+1) ch:=idx_val (by omega) (fun k hk=>⟨(g3 k hk).1,by have:=(g3 k hk).2;omega⟩) g4
  have hr:=hall ch (by rw[hw,hl];exact hval)
  rcases rat_corner h hB hval with⟨_,q2⟩|⟨v',y',q1,_⟩
  ·rw[g2]at q2;rw[q2]at h3;cases h3
  ·rw[q1]at hr;cases hr
theorem sq_any{rows:List Rw}(n5:n≤5)(hl:∀r,r∈rows→r.co.length=n)(he:∀r,r∈rows→∀c,(en r.co c).natAbs≤1000)(h0:0<rows.length){ch:List Int}(hc:ch.length+1=n)(hi:∀v,v∈ch→0≤v∧v<(rows.length:Int)):Sq n (M.rmat rows ch):=by
 have hr:∀r,r∈M.rmat rows ch→∃q,q∈rows∧r=q.co:=by
  intro r hr
  rcases List.mem_cons.1 hr with rfl|hr
  ·exact⟨_,getD_mem (by omega),rfl⟩
  ·obtain⟨v,hv,rfl⟩:=List.mem_map.1 hr
   have:=hi v hv
   exact⟨_,getD_mem (by omega),rfl⟩
 refine⟨n5,by simp[M.rmat];omega,fun r h=>?_,fun r h c=>?_⟩
 ·obtain⟨q,h1,rfl⟩:=hr r h
  exact hl q h1
 ·obtain⟨q,h1,rfl⟩:=hr r h
  exact he q h1 c
theorem any_right{rows:List Rw}(hb:∀r,r∈rows→r.le.natAbs≤10000)(h0:0<rows.length){ch:List Int}(hi:∀v,v∈ch→0≤v∧v<(rows.length:Int))(i:Nat):((M.rright rows ch).getD i 0).natAbs≤10000:=by
 refine getD_small (l:=M.rright rows ch) (fun x hx=>?_) i
 rcases List.mem_cons.1 hx with rfl|hx
 ·exact hb _ (getD_mem (by omega))
 ·obtain⟨v,hv,rfl⟩:=List.mem_map.1 hx
  have:=hi v hv
  exact hb _ (getD_mem (by omega))
theorem rowsN_mem{r:Rw}(h:Small n sh wo sum cs)(hr:r∈rowsN sh sum cs):r.co.length=n∧(∀c,(en r.co c).natAbs≤1000)∧r.le.natAbs≤10000:=by
 rcases List.mem_cons.1 hr with rfl|hr
 ·exact⟨h.sl,fun c=>getD_small h.she c,h.sume⟩
 ·obtain⟨c,hc,rfl⟩:=List.mem_map.1 hr
  refine⟨by show(c.coefs.map _).length=n;rw[List.length_map];exact h.cl c hc,fun j=>?_,?_⟩
  ·show(en (c.coefs.map _) j).natAbs≤_
   rw[en_neg,Int.natAbs_neg]
   exact getD_small (h.ce c hc) j
  ·show(-c.limit).natAbs≤_
   rw[Int.natAbs_neg]
   exact h.le c hc
theorem bok_of(h:Small n sh wo sum cs){B:Nat}(hB:n≤B)(hn:n≤cs.length+1)(hL:cs.length+1≤1000):BOK B (rowsN sh sum cs) wo:=by
 have hw:=h.wl
 have hl:(rowsN sh sum cs).length=cs.length+1:=by simp[rowsN]
 refine⟨by rw[hw];exact h.n1,by omega,by have:=h.n5;omega,by omega,by omega,fun r hr=>by rw[hw];exact(rowsN_mem h hr).1,fun ch hc hi hd=>?_⟩
 have hq:=sq_any (n:=n) h.n5 (fun r hr=>(rowsN_mem h hr).1) (fun r hr=>(rowsN_mem h hr).2.1) (by omega) (ch:=ch) (by omega) hi
 have hr:=any_right (fun r hr=>(rowsN_mem h hr).2.2) (by omega) hi
 obtain⟨_,r2⟩:=rsolve_eq hq hr
 obtain⟨t1,_⟩:=rsolve_eq hq.turned h.ws
 rw[r2]at hd
 have hne:DI en (M.rmat (rowsN sh sum cs) ch) (List.range n)≠0:=fun e=>hd (solve_den hq e)
 rw[t1,(solve_exact hq.turned h.ws (turned_ne hq hne)).2.1,hw]
end
section
variable {l : List Cask} {s : Sample}
end
end Go.Bl
end
section
set_option maxRecDepth 100000
namespace Go.Bl
open Go.V Go.Proofs Go.Lp
section
variable {l : List Cask} {s : Sample}
theorem by_negF{f:Cask→Int}:(M.by_ l (l.length+1) f).map (fun x=> -x)=(List.range l.length).map (fun i=> - f (l.getD i dfC))++ [1]:=by
 unfold M.by_
 rw[List.map_map,List.range_succ,List.map_append]
 congr 1
 ·refine List.map_congr_left fun i hi=>?_
  have hi:=List.mem_range.1 hi
  show-cond (Nat.beq i l.length) (-1) (f (l.getD i _))=_
  rw[show Nat.beq i l.length=false from by rw[Bool.eq_false_iff];intro e;have:=Nat.eq_of_beq_eq_true e;omega]
  rfl
 ·show[- cond (Nat.beq l.length l.length) (-1) _]=[1]
  rw[Nat.beq_refl];rfl
theorem pair_neg(h:RightL l s){k:Nat}(hk:k<4):M.pairR l s k=[negC ⟨3,k,M.by_ l (l.length+1) fun c=>IntKind.i64.wrap ((M.rg s k).lo-M.val c k),0⟩,negC ⟨2,k,M.by_ l (l.length+1) fun c=>IntKind.i64.wrap (M.val c k-(M.rg s k).hi),0⟩]:=by
 unfold M.pairR negC
 dsimp only
 rw[by_negF,by_negF]
 have e1:(List.range l.length).map (M.lowV l s k)=(List.range l.length).map (fun i=> - IntKind.i64.wrap ((M.rg s k).lo-M.val (l.getD i dfC) k)):=by
  refine List.map_congr_left fun i hi=>?_
  have hi:=List.mem_range.1 hi
  have:=h.loF hi hk
  rw[this.1]
  show IntKind.wrap IntKind.i64 (M.val (l.getD i dfC) k-(M.rg s k).lo)=_
  rw[wrap_id (by omega) (by omega)];omega
 have e2:(List.range l.length).map (M.highV l s k)=(List.range l.length).map (fun i=> - IntKind.i64.wrap (M.val (l.getD i dfC) k-(M.rg s k).hi)):=by
  refine List.map_congr_left fun i hi=>?_
  have hi:=List.mem_range.1 hi
  have:=h.hiF hi hk
  rw[this.1]
  show IntKind.wrap IntKind.i64 ((M.rg s k).hi-M.val (l.getD i dfC) k)=_
  rw[wrap_id (by omega) (by omega)];omega
 rw[e1,e2]
 rfl
theorem rest_neg(h:RightL l s):(M.restR l).flatten=(((List.range l.length).map fun(i:Nat)=>(⟨1,i,M.only (l.length+1) i 1,(l.getD i dfC).vol⟩:Cond))++((List.range (l.length+1)).map fun(i:Nat)=>(⟨0,i,M.only (l.length+1) i (-1),0⟩:Cond))).map negC:=by
 unfold M.restR
 rw[List.flatten_append,flat_one,flat_one,List.map_append,List.map_map,List.map_map]
 congr 1
 ·refine List.map_congr_left fun i hi=>?_
  have hi:=List.mem_range.1 hi
  have:=(h.rc i hi).vol
  show _=negC _
  unfold negC
  dsimp only
  rw[only_neg]
  congr 1
  show IntKind.wrap IntKind.i64 (0-(l.getD i dfC).vol)=_
  rw[wrap_id (by omega) (by omega)];omega
 ·refine List.map_congr_left fun i hi=>?_
  show _=negC _
  unfold negC
  dsimp only
  rw[only_neg]
  rfl
theorem rrowsF_neg(h:RightL l s):M.rrowsF l s=rowsN (M.shares l 1) s.vol (M.rconds l s 1):=by
 unfold M.rrowsF rowsN M.rconds
 rw[rest_neg h,pair_neg h (k:=0) (by decide),pair_neg h (k:=1) (by decide),pair_neg h (k:=2) (by decide),pair_neg h (k:=3) (by decide)]
 rw[show List.range 4=[0,1,2,3]from rfl]
 simp only[List.flatMap_cons,List.flatMap_nil,List.append_nil,List.map_append,List.map_cons,List.map_nil,List.append_assoc,List.cons_append,List.nil_append]
 rfl
theorem nb_small(h:RightL l s):Small (l.length+1) (M.shares l 1) (M.far l) s.vol (M.rconds l s 1):=
 (small_of h (e:=1) (by decide) (far_len l) (ent_of (far_len l) fun j hj=>Nat.le_trans (far_small (l:=l) j hj) (by split <;>decide))).mem fun c hc=>(rconds_mem c).2 hc
theorem nb_big(h:RightL l s):Big (l.length+1) (M.shares l 1) s.vol (M.rconds l s 1):=(big_of h (e:=1) (by decide)).mem fun c hc=>(rconds_mem c).2 hc
theorem dl_far(p:List Int):dl (l.length+1) (M.far l) p=en p l.length:=by
 unfold dl
 rw[smI_succ,smI_congr (h:=fun _=>0) (fun j hj=>by
  have hj:=List.mem_range.1 hj
  rw[far_en (by omega),if_neg (by omega),Int.zero_mul]),smI_zero,far_en (by omega),if_pos rfl]
 omega
theorem corner_pt{sh wo:List Int}{sum:Int}{cs set:List Cond}{x:M.Corner}(hc:M.corner sh sum wo cs set=some x):x.pt=M.sol (M.mat sh x.tight) (M.right sum x.tight):=by
 unfold M.corner at hc
 cases h1:M.den (M.mat sh set) (M.right sum set)==0
 case true=>rw[h1]at hc;cases hc
 rw[h1]at hc
 cases h2:M.keeps cs (M.sol (M.mat sh set) (M.right sum set)) (M.den (M.mat sh set) (M.right sum set))
 ·rw[h2]at hc;cases hc
 rw[h2]at hc
 cases h3:M.nonpos (M.sol (M.turned (M.mat sh set)) wo).tail
 ·rw[h3]at hc;cases hc
 rw[h3]at hc
 simp only[cond_true,cond_false,Option.some.injEq]at hc
 subst hc
 rfl
theorem rbest_opt2{n:Nat}{sh wo:List Int}{sum:Int}{cs:List Cond}(h:Small n sh wo sum cs)(hB:Big n sh sum cs)(hn:n≤cs.length+1){v:RC}(hv:M.rbest (rowsN sh sum cs) wo=some v) :
  ∃y,Opt n sh sum wo cs y∧y.pt=v.pt∧y.den=v.pd∧y.pt=M.sol (M.mat sh y.tight) (M.right sum y.tight):=by
 have hl:(rowsN sh sum cs).length=cs.length+1:=by simp[rowsN]
 have hw:=h.wl
 obtain⟨e,h1,h2⟩:=rbest_some (by rw[hl,hw];exact hn) (by rw[hw];exact h.n1) hv
 rw[hw,hl]at h1
 have h1:Val (n-1) ((cs.length:Int)+1) e:=h1
 rcases rat_corner h hB h1 with⟨g1,_⟩|⟨v',y,g1,g2,g3,g4⟩
 ·rw[g1]at h2;cases h2
 ·rw[g1]at h2
  cases h2
  exact⟨y,corner_opt h (tOf_len h1 h.n1) (tOf_sub h1) g2,g3,g4,corner_pt g2⟩
theorem rnear_spec(h:RightL l s)(hv:s.vol≤vols l):∃x v,NearS l s x∧M.rnear l s=some v∧v.pt.length=l.length+1∧0<v.pd∧v.pd≤200000000000∧en x.pt l.length*v.pd=en v.pt l.length*x.den∧(en v.pt l.length).natAbs<9223372036854775808∧M.psolve (M.shares l 1) s.vol (M.far l) (M.limits l s 1)=some x:=by
 have hlen:=rconds_len (l:=l) (s:=s) (e:=1)
 obtain⟨x,hx⟩:=near_ex h hv
 have hn:=near_corner h hx
 have ho:=psolve_some (small_of h (e:=1) (by decide) (far_len l) (ent_of (far_len l) fun j hj=>Nat.le_trans (far_small (l:=l) j hj) (by split <;>decide))) hx
 have hne:=rbest_ne (nb_small h) (nb_big h) (by omega) ho rconds_mem
 rw[←rrowsF_neg h]at hne
 cases hr:M.rbest (M.rrowsF l s) (M.far l)with
 |none=>exact absurd hr hne
 |some v=>
  rw[rrowsF_neg h]at hr
  obtain⟨y,hy,h1,h2,hpt⟩:=rbest_opt2 (nb_small h) (nb_big h) (by omega) hr
  have hsame:=opt_same ho hy rconds_mem
  rw[dl_far,dl_far,h1,h2]at hsame
  have hd:=mat_den h (e:=1) (by decide) hy.tl (fun c hc=>(rconds_mem c).2 (hy.sub.subset hc))
  have hE:=hy.denE
  have hx1:=near_pos h hn
  refine⟨x,v,hn,by unfold M.rnear;rw[rrowsF_neg h];exact hr,by rw[←h1,hy.pl],by rw[←h2];exact hy.den,by rw[←h2];omega,hsame,?_,hx⟩
  have hall:=hy.all
  obtain⟨b1,b2⟩:=conds_blend h (e:=1) (by decide) hy.den hy.sum (fun c hc=>hy.all c ((rconds_mem c).1 hc))
  have hb:=sol_small h (e:=1) (by decide) hy.tl (fun c hc=>(rconds_mem c).2 (hy.sub.subset hc)) (by have:=hy.denE;have:=hy.den;omega) (k:=l.length) (by omega)
  have hK:Kb l.length l.length=1:=by unfold Kb;rw[if_neg (Nat.lt_irrefl _)]
  rw[hK,Nat.one_mul]at hb
  rw[←h1,hpt]
  omega
end
end Go.Bl
end
section
set_option maxRecDepth 100000
namespace Go.Bl
open Go.V Go.Proofs Go.Lp
def noN(b:NearR)(d:Int):T (List Ar):=
 (.br (b.e==d) (.br (b.d0==0&&(b.d1==0&&true)) (.br (b.den==0) (.ret [rB ((b.pt.length:Int)==0)]) (.ret [rB false])) (.ret [rB false])) (.ret [rB false]))
def yesN(l:List Cask)(s:Sample)(b:NearR)(c0 c1:Int):T (List Ar):=
 .br (b.e != 0) (.ret [rB false]) (.br (!(b.d0==c0&&(b.d1==c1&&true))) (.ret [rB false]) (.br ((b.pt.length:Int) != (l.length:Int)) (.ret [rB false])
  (T.needs [eC.Is l.length (eC.F l),eI.Is b.pt.length (eI.F b.pt),∀c,c∈eC.list l.length (eC.F l)→c.nm.size≤1000000,(eI.list b.pt.length (eI.F b.pt)).length≤1000]
   (chkN b (M.distR (eC.list l.length (eC.F l)) s b.den (eI.list b.pt.length (eI.F b.pt)))))))
where chkN (b:NearR) (r:Int×Int×Int):T (List Ar):=
 (.br (r.2.2==0) (.ret [rB (r.1==b.d0&&(r.2.1==b.d1&&true))]) (.ret [rB false]))
def tr4(l:List Cask)(s:Sample):T (List Ar):=
 .br (!true) (.ret [rB false]) (T.needs [eC.Is l.length (eC.F l)] (.br (!M.someN 4 (eC.list l.length (eC.F l))) (.ret [rB true])
  (T.needs [eC.Is l.length (eC.F l),(eC.list l.length (eC.F l)).length≤1000000,eC.Is l.length (eC.F (eC.list l.length (eC.F l))),∀c,c∈eC.list l.length (eC.F (eC.list l.length (eC.F l)))→c.nm.size≤1000000,(eC.list l.length (eC.F (eC.list l.length (eC.F l)))).length≤1000000,eC.Is l.length (eC.F l),∀c,c∈eC.list l.length (eC.F l)→c.nm.size≤1000000]
   (lawN l s (M.near (eC.list l.length (eC.F (eC.list l.length (eC.F l)))) s) (M.taskErr (eC.list l.length (eC.F l)) s) (M.rNear (eC.list l.length (eC.F l)) s)))))
where lawN (l:List Cask) (s:Sample) (b:NearR) (d:Int) (w:NearR):T (List Ar):=
 (.br (d==0) (T.needs [eC.Is l.length (eC.F l),RNOK (eC.list l.length (eC.F l)) s] (.br (w.e != 0) (noN b w.e) (yesN l s b w.d0 w.d1))) (.br (d != 0) (noN b d) (yesN l s b 0 0)))
theorem t4(q_l:Bool)(l:List Cask)(sv l0 h0 l1 h1 l2 h2 l3 h3:Int):runFnX Try.prog G0 (lookS [v18,v19,v21,v22,v26f,v27z,v28]) (fun _=>[]) [] 1 60 4 4 Try.f4 [.c (.sl q_l l.length 7 (eC.F l)),.agg [dI sv,dI l0,dI h0,dI l1,dI h1,dI l2,dI h2,dI l3,dI h3]] =
  tr4 l (⟨sv,⟨l0,h0⟩,⟨l1,h1⟩,⟨l2,h2⟩,⟨l3,h3⟩⟩:Sample):=by kernel_rfl
section
variable {l : List Cask} {s : Sample}
theorem pdvol(h:RightL l s){a:Int}(h0:0<a)(h1:a≤200000000000):w64 (a*s.vol)=a*s.vol∧0<a*s.vol∧a*s.vol≤2000000000000000:=by
 have hv:=h.v
 have b1:a*s.vol≤200000000000*10000:=Int.mul_le_mul h1 hv.2 (by omega) (by omega)
 have b0:0<a*s.vol:=Int.mul_pos h0 (by omega)
 exact⟨wrap_id (by omega) (by omega),b0,by omega⟩
theorem rnok(h:RightL l s):RNOK l s:=by
 have hlen:=rconds_len (l:=l) (s:=s) (e:=1)
 have h4:=h.n4
 refine⟨h.n1,h.n4,fun hv=>?_⟩
 rw[vols_eq h]at hv
 obtain⟨x,v,hx,e,hl,h0,h1,_,hb,_⟩:=rnear_spec h (by omega)
 obtain⟨p1,p2,p3⟩:=pdvol h h0 h1
 rw[e]
 refine⟨?_,by show l.length<v.pt.length;omega,?_,hb,?_⟩
 ·rw[rrowsF_neg h]
  exact bok_of (nb_small h) (by omega) (by omega) (by omega)
 ·show w64 (v.pd*s.vol)≠0
  omega
 ·show(w64 (v.pd*s.vol)).natAbs<9223372036854775808
  omega
theorem dist_near(ht:M.taskErr l s=0){x:M.Corner}(hx:NearS l s x):M.distR l s x.den (x.pt.take l.length)=(M.told1 (en x.pt l.length) (s.vol*x.den),M.told2 (en x.pt l.length) (s.vol*x.den),0):=by
 have h:=task_right ht
 have htl:(x.pt.take l.length).length=l.length:=by rw[List.length_take,hx.pl];omega
 obtain⟨ho,hb⟩:=near_take h hx
 unfold M.distR
 rw[openErr_of ht hb hx.d htl,near_away h hx,sum_vol h ho.parts,hb.sum]
 rfl
theorem rnear_law(ht:M.taskErr l s=0):(M.near l s=⟨0,[],0,0,24⟩∧M.rNear l s=⟨0,[],0,0,24⟩) ∨
  ∃x,NearS l s x∧M.near l s=⟨x.den,x.pt.take l.length,M.told1 (en x.pt l.length) (s.vol*x.den),M.told2 (en x.pt l.length) (s.vol*x.den),0⟩ ∧
   (M.rNear l s).e=0∧(M.rNear l s).d0=M.told1 (en x.pt l.length) (s.vol*x.den)∧(M.rNear l s).d1=M.told2 (en x.pt l.length) (s.vol*x.den):=by
 have h:=task_right ht
 rcases near_cases ht with⟨hv,e⟩|⟨hv,_⟩
 ·refine .inl ⟨e,?_⟩
  unfold M.rNear
  rw[vols_eq h,decide_eq_true hv];rfl
 ·obtain⟨x,v,hx,e',hl,h0,h1,hs,hb,hp⟩:=rnear_spec h hv
  have e:=near_is ht hv
  have ep:M.pNear l s=x:=by unfold M.pNear;rw[hp];rfl
  rw[ep]at e
  refine .inr ⟨x,hx,e,?_⟩
  unfold M.rNear
  rw[vols_eq h,decide_eq_false (by omega)]
  obtain⟨p1,p2,p3⟩:=pdvol h h0 h1
  have hvl:=h.v
  obtain⟨t1,t2⟩:=told_congr (n:=en v.pt l.length) (d:=v.pd*s.vol) (n':=en x.pt l.length) (d':=s.vol*x.den) p2 (Int.mul_pos (by omega) hx.b.dp) (by
   rw[Int.mul_comm s.vol x.den,←Int.mul_assoc,←hs,Int.mul_assoc])
  rw[e']
  refine⟨rfl,?_,?_⟩
  ·show M.told1 (en v.pt l.length) (w64 (v.pd*s.vol))=_
   rw[p1];exact t1
  ·show M.told2 (en v.pt l.length) (w64 (v.pd*s.vol))=_
   rw[p1];exact t2
end
theorem near_terr{l:List Cask}{s:Sample}(ht:M.taskErr l s≠0):M.near l s=⟨0,[],0,0,M.taskErr l s⟩:=by
 have e:M.nearErr l s=M.taskErr l s:=by
  have e1:M.taskErr l s=if M.casksErr l=0 then(if M.checkSample s=0 then 0 else M.checkSample s)else M.casksErr l:=by
   unfold M.taskErr
   rw[first_cons,first_cons];rfl
  have e2:M.nearErr l s=if M.casksErr l=0 then(if M.checkSample s=0 then M.first [M.unl (decide (M.volumes l≥s.vol)) 24]else M.checkSample s)else M.casksErr l:=by
   unfold M.nearErr
   rw[first_cons,first_cons]
  rw[e1]at ht ⊢
  rw[e2]
  by_cases h1:M.casksErr l=0
  ·rw[if_pos h1]at ht
   rw[if_pos h1,if_pos h1]
   by_cases h2:M.checkSample s=0
   ·rw[if_pos h2]at ht;exact absurd rfl ht
   ·rw[if_neg h2,if_neg h2]
  ·rw[if_neg h1,if_neg h1]
 unfold M.near
 rw[e,show(M.taskErr l s != 0)=true from by simpa using ht];rfl
theorem noN_wp{d:Int}:(noN ⟨0,[],0,0,d⟩ d).wp (fun rs=>rsEqv rs [rB true]):=by
 unfold noN
 refine⟨fun _=>?_,fun h=>?_⟩
 ·repeat' (first|exact rsEqv_refl _|refine⟨fun _=>?_,fun h=>by have h:true=false:=h;cases h⟩)
 ·rw[show((⟨0,[],0,0,d⟩:NearR).e==d)=true from beq_self_eq_true d]at h
  cases h
theorem w4(l:List Cask)(s:Sample):(tr4 l s).wp (fun rs=>rsEqv rs [rB true]):=by
 unfold tr4
 simp only[Enc.list_F]
 refine⟨fun hb=>absurd hb (by decide),fun _=>⟨Enc.is_F _ _ _,fun _=>rsEqv_refl _,fun hb=>?_⟩⟩
 have hs:M.someN 4 l=true:=by simpa using hb
 obtain⟨hl,hn⟩:=someN_small hs
 have hn':∀c,c∈l→c.nm.size≤1000000:=fun c hc=>Nat.le_trans (hn c hc) (by decide)
 have hl':l.length≤1000000:=by omega
 refine⟨Enc.is_F _ _ _,hl',Enc.is_F _ _ _,hn',hl',Enc.is_F _ _ _,hn',?_⟩
 unfold tr4.lawN
 simp only[Enc.list_F]
 by_cases ht:M.taskErr l s=0
 ·refine⟨fun _=>?_,fun h=>by rw[ht]at h;cases h⟩
  have h:=task_right ht
  refine⟨Enc.is_F _ _ _,rnok h,?_⟩
  rcases rnear_law ht with⟨e1,e2⟩|⟨x,hx,e1,e2,t1,t2⟩
  ·rw[e1,e2]
   refine⟨fun _=>noN_wp,fun h=>absurd h (by show ¬((24:Int) != 0)=false;decide)⟩
  ·rw[e1,e2,t1,t2]
   refine⟨fun h=>absurd h (by show ¬((0:Int) != 0)=true;decide),fun _=>?_⟩
   unfold yesN
   simp only[Enc.list_F]
   have htl:(x.pt.take l.length).length=l.length:=by rw[List.length_take,hx.pl];omega
   have b1:=dist_near ht hx
   refine⟨fun h=>absurd h (by show ¬((0:Int) != 0)=true;decide),fun _=>⟨fun h=>?_,fun _=>⟨fun h=>?_,fun _=>?_⟩⟩⟩
   ·simp at h
   ·have k:(((x.pt.take l.length).length:Int) != (l.length:Int))=true:=h
    rw[htl]at k
    simp at k
   ·refine⟨Enc.is_F _ _ _,Enc.is_F _ _ _,hn',by show(x.pt.take l.length).length≤1000;have:=h.n4;omega,?_⟩
    show(yesN.chkN _ (M.distR l s x.den (x.pt.take l.length))).wp _
    rw[b1]
    unfold yesN.chkN
    simp only[beq_self_eq_true,Bool.and_self]
    exact⟨fun _=>rsEqv_refl _,fun h=>by cases h⟩
 ·refine⟨fun h=>absurd (eq_of_beq h) ht,fun _=>⟨fun _=>?_,fun h=>?_⟩⟩
  ·rw[near_terr ht]
   exact noN_wp
  ·exact absurd (by simpa using h) ht
def dom4z:DomF
 |[.c (.sl _ n_l st_l F_l),.agg [.int .i64 sv,.int .i64 l0,.int .i64 h0,.int .i64 l1,.int .i64 h1,.int .i64 l2,.int .i64 h2,.int .i64 l3,.int .i64 h3]]=>(match Nat.beq st_l 7 with
  |true=>some ([eC.Is n_l F_l],[rB true])
  |_=>none)
 |_=>none
theorem C4z:FOK Try.prog G0 gw 4 dom4z:=by
 intro ags p r hd hp κ w xs hw hl hG hx
 unfold dom4z at hd
 split at hd
 ·rename_i q_l n_l st_l F_l sv l0 h0 l1 h1 l2 h2 l3 h3
  split at hd
  ·rename_i hst
   have g1:=hst
   have g1:=Nat.eq_of_beq_eq_true g1
   subst g1
   simp only[Option.some.injEq,Prod.mk.injEq]at hd
   obtain⟨rfl,rfl⟩:=hd
   obtain⟨hI_l,hp⟩:=hp
   have heq:agsEqv [.c (.sl q_l n_l 7 F_l),.agg [.int .i64 sv,.int .i64 l0,.int .i64 h0,.int .i64 l1,.int .i64 h1,.int .i64 l2,.int .i64 h2,.int .i64 l3,.int .i64 h3]] [.c (.sl q_l (eC.list n_l F_l).length 7 (eC.F (eC.list n_l F_l))),.agg [.int .i64 sv,.int .i64 l0,.int .i64 h0,.int .i64 l1,.int .i64 h1,.int .i64 l2,.int .i64 h2,.int .i64 l3,.int .i64 h3]]:=⟨eC.to id hI_l,Ag.eqv_refl _,trivial⟩
   have len_l:(eC.list n_l F_l).length=n_l:=eC.list_len
   generalize eC.list n_l F_l=l at *
   subst len_l
   exact fokX_fin mixed gw_stable (sl:=[v18,v19,v21,v22,v26f,v27z,v28]) ⟨S18,S19,S21,S22,S26f,S27z,S28,trivial⟩ Try.func4 hw hl hG hx heq rfl (t4 _ _ _ _ _ _ _ _ _ _ _) (w4 _ _)
  ·cases hd
 ·cases hd
end Go.Bl
end
section
namespace Go.Rw
open Go Go.ChangeShapes Go.WideShapes Go.RowKit Go.ChangeAt
open Go.V (F2 D fullK fullK_cell f2_append f2_len f2_get)
section
variable {H : Type} {enc : TypeId × Value → H} {P : Program} {w : World} {base : Nat} {sp : Nat → Bool} {hd : Bool}
theorem trodAll_below(hl:laidOutB P=true){W W':World}(hb:Below W.heap.size W W'):∀{ts:List TypeId} {vs:List Value} {ds:List (DataW H)} {ps:List MemPlace},
  (∀t∈ts,P.readableRec t=true∧t<P.types.size)→DataW.TrodAll enc P W 0 (fun _=>true) true ts vs ds ps→(∀x∈ps,x.block<W.heap.size) →
  DataW.TrodAll enc P W' 0 (fun b=>decide (b<W.heap.size)) true ts vs ds ps
 |[],_,_,_,_,h,_=>by
  obtain⟨rfl,rfl,rfl⟩:=trodAll_nil h
  exact trodAll_mk0
 |t::ts,_,_,_,hr,h,hlt=>by
  obtain⟨v,vs1,d,ds1,a,b,rfl,rfl,rfl,h1,h2⟩:=trodAll_cons h
  refine⟨a,b,?_,trodAll_below hl hb (fun u hu=>hr u (List.mem_cons_of_mem _ hu)) h2 fun x hx=>hlt x (List.mem_append_right _ hx),rfl⟩
  have ht:=hr t (List.mem_cons_self ..)
  exact Below.trod hl ht.1 ht.2 h1 hb fun x hx=>hlt x (List.mem_append_left _ hx)
theorem law_post{fn:Func}{s:ChangeSpec}{apart fresh handsOn:Bool}{W W':World}{args:Array Value}{ds gs:List (DataW H)}{before:List MemPlace}{tb:TypeId}(hl:laidOutB P=true)
  (hr:∀t∈fn.params.toList,P.readableRec t=true∧t<P.types.size) (hv:s.vars=[]) (hrt:fn.resultTypes= #[tb]) (hbool:P.underlying tb=some .bool)
  (hfn:s.fn H ds={results:=[.lit (.bool true)],args:=ds})
  (hW:DataW.Whole enc P fn.params.toList s.vars apart W args.toList ds gs before) (hb:Below W.heap.size W W'):s.post enc P fn apart fresh handsOn false W args (.bool true) W':=by
 have hW':=hW
 obtain⟨p,q,hA,hV,rfl,_,_⟩:=hW'
 have hlt:∀x∈p++q,x.block<W.heap.size:=fun x hx=>hW.lt x hx
 rw[hv]at hV
 have hgs:gs=[]∧q=[]:=by
  cases gs with
  |nil=>exact⟨rfl,hV⟩
  |cons g r=>exact absurd hV (by intro h;cases h)
 obtain⟨rfl,rfl⟩:=hgs
 have e:s.fn H (ds++ [])={results:=[.lit (.bool true)],args:=ds}:=by rw[List.append_nil];exact hfn
 refine⟨ds,[],_,[],p,[],hW,?_,?_,?_,hb.frame _,fun h=>by cases h⟩
 ·rw[e,hrt]
  exact trodAll_mk1 (shut_bool hbool true)
 ·rw[e]
  exact trodAll_below hl hb hr hA fun x hx=>hlt x (List.mem_append_left _ hx)
 ·rw[e,hv]
  rfl
end
end Go.Rw
end
section
namespace Go.Rw
open Go Go.ChangeShapes Go.WideShapes Go.RowKit Go.ChangeAt
open Go.V (F2 D fullK fullK_cell f2_append f2_len f2_get)
inductive SK where
 |i
 |s
 |sl (sh:List SK)
inductive DG:SK→D→Prop where
 |i (n:Int):DG .i (.int .i64 n)
 |s (t:ByteArray):DG .s (.str t)
 |sl (sh:List SK) (len:Nat) (F:Nat→Nat→D) (h:∀i j k,i<len→sh[j]? = some k→DG k (F i j)):DG (.sl sh) (.sl false len sh.length F)
def MG(w:World)(k:SK)(v:Value):Prop:=∃d,DG k d∧D.rel (fullK w) d v
def sgFs(P:Program)(g:TypeId→Option (List SK)):List Field→Nat→Nat→Option (List SK)
 |[],o,c=>(match Nat.beq o c with|true=>some []|false=>none)
 |f::fs,o,c=>(match Nat.beq f.offset o,g f.type,sgFs P g fs (o+P.cellsOf f.type) c with
  |true,some a,some b=>some (a++b)
  |_,_,_=>none)
def sgArr(l:List SK):Nat→List SK
 |0=>[]
 |n+1=>l++sgArr l n
def sg(P:Program):Nat→TypeId→Option (List SK)
 |0,_=>none
 |k+1,t=>match P.underlying t with
  |some (.int .i64)=>some [.i]
  |some .string=>some [.s]
  |some (.struct fs)=>sgFs P (sg P k) fs.toList 0 (P.cellsOf t)
  |some (.array n e)=>(match sg P k e,Nat.beq (P.cellsOf t) (n*P.cellsOf e)with|some l,true=>some (sgArr l n)|_,_=>none)
  |some (.slice e)=>(match sg P k e with|some sh=>(match Nat.beq (P.cellsOf e) sh.length&&Nat.blt 0 sh.length with|true=>some [.sl sh]|false=>none)|none=>none)
  |_=>none
section
variable {H : Type} {enc : TypeId × Value → H} {P : Program} {w : World} {base : Nat} {sp : Nat → Bool} {hd : Bool}
theorem sgFs_spec{R:SK→Value→Prop}{g:TypeId→Option (List SK)}:∀(fs:List Field) (o c:Nat) (cs:List Value) {l:List SK},sgFs P g fs o c=some l→cs.length=c →
  (∀f∈fs,∀l',g f.type=some l'→F2 R l' ((cs.drop f.offset).take (P.cellsOf f.type)))→F2 R l (cs.drop o)
 |[],o,c,cs,l,h,hl,_=>by
  unfold sgFs at h
  split at h
  ·rename_i hb
   have:o=c:=Nat.eq_of_beq_eq_true hb
   simp only[Option.some.injEq]at h
   subst h
   rw[this,←hl,List.drop_length]
   exact .nil
  ·cases h
 |f::fs,o,c,cs,l,h,hl,hf=>by
  simp only[sgFs]at h
  split at h
  ·rename_i a b hb ha hrest
   have ho:f.offset=o:=Nat.eq_of_beq_eq_true hb
   simp only[Option.some.injEq]at h
   subst h
   have h1:=hf f (List.mem_cons_self ..) a ha
   have h2:=sgFs_spec fs _ c cs hrest hl fun g hg=>hf g (List.mem_cons_of_mem _ hg)
   rw[ho]at h1
   have e:cs.drop o=(cs.drop o).take (P.cellsOf f.type)++(cs.drop o).drop (P.cellsOf f.type):=(List.take_append_drop _ _).symm
   rw[e,List.drop_drop]
   exact f2_append h1 h2
  ·cases h
theorem sgArr_spec{R:SK→Value→Prop}{l:List SK}{c:Nat}:∀(n:Nat) (cs:List Value),cs.length=n*c→(∀i,i<n→F2 R l ((cs.drop (i*c)).take c))→F2 R (sgArr l n) cs
 |0,cs,h,_=>by
  have:cs=[]:=List.length_eq_zero_iff.1 (by simpa using h)
  subst this
  exact .nil
 |n+1,cs,h,hf=>by
  have h0:=hf 0 (by omega)
  rw[Nat.zero_mul,List.drop_zero]at h0
  have hr:=sgArr_spec (c:=c) n (cs.drop c) (by rw[List.length_drop,h,Nat.succ_mul];omega) fun i hi=>by
   have:=hf (i+1) (by omega)
   rw[List.drop_drop,show c+i*c=(i+1)*c by rw[Nat.succ_mul];omega]
   exact this
  rw[←List.take_append_drop c cs]
  exact f2_append h0 hr
theorem trod_sg:∀(k fuel:Nat) (t:TypeId) (cs:List Value) (x:DataW H×List MemPlace) {l:List SK},sg P k t=some l→DataW.trod enc P w base sp hd fuel t cs=some x→F2 (MG w) l cs
 |0,_,_,_,_,_,h,_=>by cases h
 |k+1,fuel,t,cs,x,l,h,hx=>by
  unfold sg at h
  split at h
  ·rename_i ht
   simp only[Option.some.injEq]at h
   subst h
   obtain⟨n,rfl,rfl,_⟩:=DataW.trod_int ht hx
   exact .cons ⟨.int .i64 n,.i n,rfl⟩ .nil
  ·rename_i ht
   simp only[Option.some.injEq]at h
   subst h
   obtain⟨s,rfl,rfl,_⟩:=DataW.trod_string ht hx
   exact .cons ⟨.str s,.s s,rfl⟩ .nil
  ·rename_i fs ht
   obtain⟨xs,n,_,rfl,hl,hlen,hf⟩:=DataW.trod_struct ht hx
   have:=sgFs_spec (P:=P) (R:=MG w) fs.toList 0 (P.cellsOf t) cs h hl (by
    intro f hm l' hl'
    obtain⟨i,hi,hi'⟩:=List.getElem_of_mem hm
    have hgi:fs[i]? = some f:=by rw[←Array.getElem?_toList,List.getElem?_eq_getElem hi,hi']
    have hlt:i<xs.length:=by rw[hlen];exact(Array.getElem?_eq_some_iff.1 hgi).1
    have hy:xs[i]? = some xs[i]:=List.getElem?_eq_getElem hlt
    have:=hf i f hgi
    rw[hy]at this
    exact trod_sg k n f.type _ _ hl' this)
   simpa using this
  ·rename_i n e ht
   split at h
   ·rename_i l' hl' hcb
    simp only[Option.some.injEq]at h
    subst h
    obtain⟨xs,m,_,ex,hlen,hl,hel⟩:=DataW.trod_array ht hx
    have hcz:P.cellsOf t=n*P.cellsOf e:=Nat.eq_of_beq_eq_true hcb
    refine sgArr_spec (c:=P.cellsOf e) n cs (by rw[←hcz];exact hlen) fun i hi=>?_
    have hlt:i<xs.length:=by omega
    have hy:xs[i]? = some xs[i]:=List.getElem?_eq_getElem hlt
    have:=hel i hi
    rw[hy]at this
    exact trod_sg k m e _ _ hl' this
   ·cases h
  ·rename_i e ht
   split at h
   ·rename_i sh hsh
    split at h
    ·rename_i hc
     simp only[Option.some.injEq]at h
     subst h
     rw[Bool.and_eq_true]at hc
     have hn:P.cellsOf e=sh.length:=Nat.eq_of_beq_eq_true hc.1
     have hn0:0<sh.length:=Nat.le_of_ble_eq_true hc.2
     rcases DataW.trod_slice ht hx with⟨h1,_⟩|⟨a,len0,cap0,elems,rest,n',_,h1,_,_,hlc,_,hel,hget,_⟩
     ·rw[h1]
      exact .cons ⟨.sl false 0 sh.length (fun _ _=>.nilp),.sl sh 0 _ (fun i j k hi=>by omega),.inl ⟨rfl,rfl,rfl⟩⟩ .nil
     ·rw[h1]
      rw[hn]at hget
      have each:∀i,i<len0→∀j,j<sh.length→∃d,(∀k',sh[j]? = some k'→DG k' d)∧∃y,w.cell? ((a.add (i*sh.length)).add j)=some y∧D.rel (fullK w) d y:=by
       intro i hi j hj
       have hg:=hget i hi
       have hlt:i<elems.length:=by omega
       rw[List.getElem?_eq_getElem hlt]at hg
       simp only[Option.bind_eq_some_iff]at hg
       obtain⟨cs,hcs,hx⟩:=hg
       have hF:=trod_sg k n' e cs _ hsh hx
       obtain⟨_,hl,hcell⟩:=World.cells?_some hcs
       obtain⟨y,hy,hm⟩:=f2_get hF (i:=j) (List.getElem?_eq_getElem hj)
       obtain⟨d,hd1,hd2⟩:=hm
       have hcj:=hcell j hj
       exact⟨d,fun k' hk'=>by rw[List.getElem?_eq_getElem hj]at hk';cases hk';exact hd1,y,by rw[hcj,hy],hd2⟩
      have spot0:0<len0→a.spot=none:=by
       intro hp
       obtain⟨_,_,y,hy,_⟩:=each 0 hp 0 hn0
       have:=World.cell?_spot hy
       simpa[Addr.add]using this
      refine .cons ⟨.sl false len0 sh.length (fun i j=>if h:i<len0∧j<sh.length then Classical.choose (each i h.1 j h.2)else .nilp),.sl sh len0 _ (fun i j k' hi hk'=>?_),.inr ⟨a,cap0,rfl,hlc,spot0,fun i j hi hj=>?_⟩⟩ .nil
      ·have hj:j<sh.length:=(List.getElem?_eq_some_iff.1 hk').1
       simp only[dif_pos (And.intro hi hj)]
       exact(Classical.choose_spec (each i hi j hj)).1 k' hk'
      ·obtain⟨_,y,hy,hr⟩:=Classical.choose_spec (each i hi j hj)
       have hp:a.spot=none:=spot0 (by omega)
       have e1:(a.add (i*sh.length)).add j=⟨a.block,a.off+i*sh.length+j,none⟩:=by
        obtain⟨b,off,spot⟩:=a
        simp only at hp
        subst hp
        rw[Go.WideShapes.add_plain,Go.WideShapes.add_plain]
       rw[e1]at hy
       refine⟨_,fullK_cell hy,?_⟩
       simp only[dif_pos (And.intro hi hj)]
       exact hr
    ·cases h
   ·cases h
  ·cases h
theorem open_sl{r:Reach}{b0:Nat}{t e:TypeId}{v:Value}{d:DataW H}{p:List MemPlace}(k:Nat){sh:List SK}(ht:P.underlying t=some (.slice e))(ha:sg P k t=some [.sl sh])
  (hv:Value.okWide P w r b0 t v) (h:DataW.Trod enc P w base sp hd t v d p):MG w (.sl sh) v:=by
 obtain⟨a0,len0,cap0,rfl⟩:=okWide_slice ht hv
 obtain⟨fuel,hf⟩:=h
 have hc:(Value.slice a0 len0 cap0).cells.toList=[Value.slice a0 len0 cap0]:=rfl
 rw[hc]at hf
 have:=trod_sg k fuel t _ _ ha hf
 cases this with
 |cons h _=>exact h
theorem open_st{r:Reach}{b0:Nat}{t:TypeId}{fs:Array Field}{v:Value}{d:DataW H}{p:List MemPlace}(k:Nat){l:List SK}(ht:P.underlying t=some (.struct fs))(ha:sg P k t=some l)
  (hv:Value.okWide P w r b0 t v) (h:DataW.Trod enc P w base sp hd t v d p):∃cs:List Value,F2 (MG w) l cs∧v=.agg cs.toArray:=by
 obtain⟨cs,rfl,hsz⟩:=okWide_struct ht hv
 obtain⟨fuel,hf⟩:=h
 have hF:F2 (MG w) l cs.toList:=trod_sg k fuel t _ _ ha hf
 exact⟨cs.toList,hF,by rw[Array.toArray_toList]⟩
theorem mg_i{v:Value}(h:MG w .i v):∃n,v=.int .i64 n:=by
 obtain⟨d,hd,hr⟩:=h
 cases hd with
 |i n=>exact⟨n,hr⟩
theorem mg_sl{sh:List SK}{v:Value}(h:MG w (.sl sh) v):∃(len:Nat) (F:Nat→Nat→D),(D.sl false len sh.length F).rel (fullK w) v∧∀i j k,i<len→sh[j]? = some k→DG k (F i j):=by
 obtain⟨d,hd,hr⟩:=h
 cases hd with
 |sl _ len F hF=>exact⟨len,F,hr,hF⟩
theorem dg_i{d:D}(h:DG .i d):∃n,d=.int .i64 n:=by cases h with|i n=>exact⟨n,rfl⟩
theorem dg_s{d:D}(h:DG .s d):∃n,d=.str n:=by cases h with|s n=>exact⟨n,rfl⟩
end
end Go.Rw
end
