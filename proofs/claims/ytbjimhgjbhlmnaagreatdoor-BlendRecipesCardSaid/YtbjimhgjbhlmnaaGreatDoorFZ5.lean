/- The parts of the engines, of their contracts and of the plain laws that the claim rests on: B16, B17, B10, B18, B19, B7, B8, B9, B20, B23, B11_66_1, B11_66_2, B11_66_3, B11_66_4, B11_82_1, B11_82_2, B11_82_3, B11_82_4, B21, B22, B24, B25, B26, B27, B28. -/
import Derived.Test.YtbjimhgjbhlmnaaGreatDoorFZ4
set_option linter.unusedVariables false
set_option linter.unusedSimpArgs false
section
set_option maxRecDepth 100000
namespace Go.Bl
open Go.Gd
open Go.V Go.Proofs Go.Lp
def en(r:List Int)(c:Nat):Int:=r.getD c 0
theorem isUsed_eq:∀u,u<32→∀k,k<5→M.isUsed (u:Nat) (k:Nat)=u.testBit k:=by decide +kernel
theorem use_eq:∀u,u<32→∀k,k<5→M.use (u:Nat) (k:Nat)=((u |||2^k:Nat):Int):=by decide +kernel
theorem or_lt:∀u,u<32→∀k,k<5→(u |||2^k)<32:=by decide +kernel
def unlt(u k:Nat):List Nat:=(List.range k).filter fun j=> !u.testBit j
def unge(n u k:Nat):List Nat:=(List.range' k (n-k)).filter fun j=> !u.testBit j
def un(n u:Nat):List Nat:=(List.range n).filter fun j=> !u.testBit j
theorem un_ge(n u:Nat):unge n u 0=un n u:=by unfold unge un;rw[List.range_eq_range'];rfl
theorem un_or:∀n,n≤5→∀u,u<32→∀k,k<n→u.testBit k=false→un n (u |||2^k)=unlt u k++unge n u (k+1):=by decide +kernel
theorem unlt_succ(u k:Nat):unlt u (k+1)=unlt u k++(if u.testBit k then[]else[k]):=by
 unfold unlt
 rw[List.range_succ,List.filter_append]
 congr 1
 by_cases h:u.testBit k <;>simp[h]
theorem unge_cons{n u k:Nat}(h:k<n):unge n u k=(if u.testBit k then[]else[k])++unge n u (k+1):=by
 unfold unge
 obtain⟨d,hd⟩:∃d,n-k=d+1:=⟨n-k-1,by omega⟩
 rw[hd,show n-(k+1)=d by omega,List.range'_succ,List.filter_cons]
 by_cases h:u.testBit k <;>simp[h]
theorem wrap64{n:Int}(h:n.natAbs<9223372036854775808):IntKind.wrap IntKind.i64 n=n:=wrap_id (by omega) (by omega)
theorem drop_cons{α:Type}{l:List α}{d:α}{k:Nat}(h:k<l.length):l.drop k=l.getD k d::l.drop (k+1):=getD_drop h
theorem row_eq{n:Nat}{r:List Int}{u:Nat}{rec:Int→Int}{F:List Nat→Int}{T:Nat}(hn:n≤5)(hu:u<32)(hr:r.length=n)
  (hrec:∀k,k<n→u.testBit k=false→rec (M.use u k)=F (un n (u |||2^k)))
  (hT:∀k,k<n→u.testBit k=false→(en r k*F (un n (u |||2^k))).natAbs≤T)
  (hbig:(un n u).length*T<9223372036854775808) (hent:∀k,k<n→u.testBit k=false→(en r k).natAbs<9223372036854775808) :
  ∀(d k:Nat) (out sign:Int),k+d=n→(sign=1∨sign= -1)→out.natAbs≤(unlt u k).length*T →
   M.minorRow rec u (r.drop k) k out sign=out+sign*altI (fun c cs=>en r c*F (unlt u k++cs)) (unge n u k):=by
 have hlen:∀k,k≤n→(unlt u k).length+(unge n u k).length=(un n u).length:=by
  intro k hk
  unfold unlt unge un
  rw[←List.length_append,←List.filter_append]
  congr 2
  rw[List.range_eq_range',List.range_eq_range']
  have:=List.range'_append_1 (s:=0) (m:=k) (n:=n-k)
  rw[Nat.zero_add]at this
  rw[this,Nat.add_sub_cancel' hk]
 intro d
 induction d with
 |zero=>
  intro k out sign hk _ _
  have h1:r.drop k=[]:=List.drop_of_length_le (by omega)
  have h2:unge n u k=[]:=by unfold unge;rw[show n-k=0 by omega];rfl
  rw[h1,h2]
  simp[M.minorRow,altI]
 |succ d ih=>
  intro k out sign hk hs ho
  have hkn:k<n:=by omega
  rw[drop_cons (d:=0) (by omega:k<r.length)]
  simp only[M.minorRow]
  rw[isUsed_eq u hu k (by omega)]
  have hcast:((k:Nat):Int)+1=((k+1:Nat):Int):=by omega
  rw[hcast]
  have hl:=hlen k (by omega)
  by_cases hb:u.testBit k=true
  ·rw[hb,cond_true,ih (k+1) out sign (by omega) hs (by rw[unlt_succ,hb];simpa using ho)]
   rw[unlt_succ,unge_cons hkn,hb]
   simp
  ·have hb:u.testBit k=false:=by simpa using hb
   rw[hb,cond_false]
   have ht:=hT k hkn hb
   have he:=hent k hkn hb
   have hre:=hrec k hkn hb
   have hun:=un_or n hn u hu k hkn hb
   have hge:unge n u k=k::unge n u (k+1):=by rw[unge_cons hkn,hb];rfl
   have hltk:unlt u (k+1)=unlt u k++ [k]:=by rw[unlt_succ,hb];rfl
   have hl1:(unlt u k).length+1≤(un n u).length:=by rw[hge]at hl;simp at hl;omega
   have hout2:((unlt u k).length+1)*T<9223372036854775808:=Nat.lt_of_le_of_lt (Nat.mul_le_mul_right _ hl1) hbig
   rw[Nat.succ_mul]at hout2
   obtain⟨t,htt⟩:∃t,t=en r k*F (un n (u |||2^k)):=⟨_,rfl⟩
   rw[←htt]at ht
   have hn':IntKind.i64.wrap (sign*r.getD k 0)=sign*en r k:=by
    refine wrap64 ?_
    rcases hs with rfl|rfl
    ·show(1*en r k).natAbs<_;omega
    ·show(-1*en r k).natAbs<_;omega
   have hp:sign*en r k*rec (M.use u k)=sign*t:=by rw[hre,htt,Int.mul_assoc]
   have hst:(sign*t).natAbs≤T:=by rcases hs with rfl|rfl <;>omega
   have hterm:(cond (r.getD k 0 != 0) (IntKind.i64.wrap (out+IntKind.i64.wrap (IntKind.i64.wrap (sign*r.getD k 0)*rec (M.use u k)))) out)=out+sign*t:=by
    by_cases hz:r.getD k 0=0
    ·rw[hz]
     have:t=0:=by rw[htt];show r.getD k 0*_=0;rw[hz];simp
     rw[this];simp
    ·have hnz:(r.getD k 0 != 0)=true:=by simpa using hz
     rw[hnz,cond_true,hn',hp,wrap64 (n:=sign*t) (by omega),wrap64 (by omega)]
   rw[hterm]
   have hneg:IntKind.i64.wrap (0-sign)= -sign:=by rcases hs with rfl|rfl <;>decide
   rw[hneg,ih (k+1) (out+sign*t) (-sign) (by omega) (by rcases hs with rfl|rfl <;>simp) (by rw[hltk];simp only[List.length_append,List.length_singleton];rw[Nat.succ_mul];omega)]
   rw[hge,hltk]
   simp only[altI,List.append_assoc,List.singleton_append]
   rw[←hun,←htt]
   grind
theorem pK_pos{K:Nat→Nat}(hK:∀c,1≤K c):∀l:List Nat,1≤pK K l:=by
 intro l
 induction l with
 |nil=>exact Nat.le_refl _
 |cons c l ih=>exact Nat.mul_pos (hK c) ih
theorem fact_pos:∀n,1≤fact n:=by
 intro n
 induction n with
 |zero=>exact Nat.le_refl _
 |succ n ih=>exact Nat.mul_pos (Nat.succ_pos n) ih
theorem un_perm{n u k:Nat}(hn:n≤5)(hu:u<32)(hk:k<n)(hb:u.testBit k=false):(k::un n (u |||2^k)).Perm (un n u):=by
 rw[un_or n hn u hu k hk hb,←un_ge n u]
 have h:∀j,j≤n→unge n u 0=unlt u j++unge n u j:=by
  intro j hj
  unfold unge unlt
  rw[←List.filter_append,List.range_eq_range']
  congr 1
  have:=List.range'_append_1 (s:=0) (m:=j) (n:=n-j)
  rw[Nat.zero_add]at this
  rw[this,Nat.add_sub_cancel' hj,Nat.sub_zero]
 rw[h k (by omega),unge_cons hk,hb]
 simp only[Bool.false_eq_true,if_false,List.singleton_append]
 exact List.perm_middle.symm
theorem minor_eq{n:Nat}{m:List (List Int)}{K:Nat→Nat}(hn:n≤5)(hK:∀c,1≤K c)(hrow:∀r,r∈m→r.length=n)(hent:∀r,r∈m→∀c,c<n→(en r c).natAbs≤K c) :
  ∀(d i u:Nat),i+d=m.length→u<32→(un n u).length=d→fact d*pK K (un n u)<9223372036854775808→M.minor m d i u=DI en (m.drop i) (un n u):=by
 intro d
 induction d with
 |zero=>
  intro i u hi hu hl _
  have h1:m.drop i=[]:=List.drop_of_length_le (by omega)
  rw[h1]
  rfl
 |succ d ih=>
  intro i u hi hu hl hb
  have him:i<m.length:=by omega
  rw[drop_cons (d:=[]) him]
  simp only[M.minor,DI]
  have hmem:m.getD i []∈m:=by rw[List.getD_eq_getElem?_getD,List.getElem?_eq_getElem him];exact List.getElem_mem him
  have hcast:((i:Nat):Int)+1=((i+1:Nat):Int):=by omega
  rw[hcast,show((i:Nat):Int).toNat=i by omega]
  have hperm:∀k,k<n→u.testBit k=false→(k::un n (u |||2^k)).Perm (un n u):=fun k hk hbit=>un_perm hn hu hk hbit
  have hlen:∀k,k<n→u.testBit k=false→(un n (u |||2^k)).length=d:=by
   intro k hk hbit
   have:=(hperm k hk hbit).length_eq
   simp at this;omega
  have hpk:∀k,k<n→u.testBit k=false→K k*pK K (un n (u |||2^k))=pK K (un n u):=fun k hk hbit=>pK_perm (K:=K) (hperm k hk hbit)
  have hinner:∀k,k<n→u.testBit k=false→M.minor m d ((i+1:Nat):Int) (M.use u k)=DI en (m.drop (i+1)) (un n (u |||2^k)):=by
   intro k hk hbit
   rw[use_eq u hu k (by omega)]
   refine ih (i+1) _ (by omega) (or_lt u hu k (by omega)) (hlen k hk hbit) ?_
   refine Nat.lt_of_le_of_lt ?_ hb
   rw[←hpk k hk hbit]
   have:fact d≤fact (d+1):=by simp only[fact];rw[Nat.succ_mul];omega
   calc fact d*pK K (un n (u |||2^k))≤fact (d+1)*pK K (un n (u |||2^k)):=Nat.mul_le_mul_right _ this
    _≤fact (d+1)*(K k*pK K (un n (u |||2^k))):=Nat.mul_le_mul_left _ (Nat.le_mul_of_pos_left _ (hK k))
  have key:=row_eq (n:=n) (r:=m.getD i []) (u:=u) (rec:=fun u=>M.minor m d ((i+1:Nat):Int) u) (F:=fun cs=>DI en (m.drop (i+1)) cs) (T:=fact d*pK K (un n u)) hn hu (hrow _ hmem) hinner
   (fun k hk hbit=>by
    have h1:=hent _ hmem k hk
    have h2:=DI_bound (f:=en) (K:=K) (rows:=m.drop (i+1)) (cols:=un n (u |||2^k)) (by rw[hlen k hk hbit];simp;omega) (fun r hr c hc=>hent r (List.mem_of_mem_drop hr) c (by
     have:c∈un n (u |||2^k):=hc
     unfold un at this
     exact List.mem_range.1 (List.mem_filter.1 this).1))
    rw[hlen k hk hbit]at h2
    rw[Int.natAbs_mul,←hpk k hk hbit]
    calc (en (m.getD i []) k).natAbs*(DI en (m.drop (i+1)) (un n (u |||2^k))).natAbs≤K k*(fact d*pK K (un n (u |||2^k))):=Nat.mul_le_mul h1 h2
     _=fact d*(K k*pK K (un n (u |||2^k))):=Nat.mul_left_comm _ _ _)
   (by rw[hl,←Nat.mul_assoc];exact hb)
   (fun k hk hbit=>Nat.lt_of_le_of_lt (hent _ hmem k hk) (by
    refine Nat.lt_of_le_of_lt ?_ hb
    rw[←hpk k hk hbit]
    calc K k≤K k*pK K (un n (u |||2^k)):=Nat.le_mul_of_pos_right _ (pK_pos hK _)
     _≤fact (d+1)*(K k*pK K (un n (u |||2^k))):=Nat.le_mul_of_pos_left _ (fact_pos _)))
   n 0 0 1 (by omega) (.inl rfl) (by simp)
  rw[List.drop_zero,un_ge]at key
  rw[show((0:Nat):Int)=0 from rfl]at key
  rw[key]
  simp only[Int.zero_add,Int.one_mul]
  rfl
theorem det_eq{n:Nat}{m:List (List Int)}{K:Nat→Nat}(hn:n≤5)(hK:∀c,1≤K c)(hl:m.length=n)(hrow:∀r,r∈m→r.length=n)(hent:∀r,r∈m→∀c,c<n→(en r c).natAbs≤K c)
  (hb:fact n*pK K (List.range n)<9223372036854775808):M.det m=DI en m (List.range n):=by
 have h0:un n 0=List.range n:=by unfold un;simp
 have:=minor_eq hn hK hrow hent n 0 0 (by omega) (by decide) (by rw[h0];simp) (by rw[h0];exact hb)
 rw[h0,List.drop_zero]at this
 unfold M.det
 rw[hl]
 exact this
end Go.Bl
end
section
set_option maxRecDepth 100000
namespace Go.Bl
open Go.Gd
open Go.V Go.Proofs Go.Lp
section
variable {α β γ : Type}
theorem altI_congr_mem{f g:β→List β→Int}:∀{l:List β},(∀c cs,c∈l→(∀d,d∈cs→d∈l)→f c cs=g c cs)→altI f l=altI g l:=by
 intro l
 induction l generalizing f g with
 |nil=>intro _;rfl
 |cons c cs ih=>
  intro e
  simp only[altI]
  rw[e c cs (List.mem_cons_self ..) (fun d hd=>List.mem_cons_of_mem _ hd),ih (f:=fun d ds=>f d (c::ds)) (g:=fun d ds=>g d (c::ds)) fun d ds hd hds=>e d (c::ds) (List.mem_cons_of_mem _ hd) (fun x hx=>by
   rcases List.mem_cons.1 hx with rfl|hx
   ·exact List.mem_cons_self ..
   ·exact List.mem_cons_of_mem _ (hds x hx))]
theorem DI_congr{f g:α→β→Int}:∀{rows:List α} {cols:List β},(∀r,r∈rows→∀c,c∈cols→f r c=g r c)→DI f rows cols=DI g rows cols:=by
 intro rows
 induction rows with
 |nil=>intro cols _;rfl
 |cons r rs ih=>
  intro cols h
  simp only[DI]
  exact altI_congr_mem fun c cs hc hcs=>by rw[h r (List.mem_cons_self ..) c hc,ih fun q hq d hd=>h q (List.mem_cons_of_mem _ hq) d (hcs d hd)]
theorem DI_map{f:α→β→Int}{g:γ→α}:∀{rows:List γ} {cols:List β},DI f (rows.map g) cols=DI (fun r c=>f (g r) c) rows cols:=by
 intro rows
 induction rows with
 |nil=>intro cols;rfl
 |cons r rs ih=>intro cols;simp only[List.map_cons,DI];exact altI_congr fun c cs _=>by rw[ih]
theorem altI_map{g:γ→β}:∀{l:List γ} {f:β→List β→Int},altI f (l.map g)=altI (fun c cs=>f (g c) (cs.map g)) l:=by
 intro l
 induction l with
 |nil=>intro f;rfl
 |cons c cs ih=>intro f;simp only[List.map_cons,altI];rw[ih]
theorem DI_mapc{f:α→β→Int}{g:γ→β}:∀{rows:List α} {cols:List γ},DI f rows (cols.map g)=DI (fun r c=>f r (g c)) rows cols:=by
 intro rows
 induction rows with
 |nil=>intro cols;rfl
 |cons r rs ih=>intro cols;simp only[DI];rw[altI_map];exact altI_congr fun c cs _=>by rw[ih]
theorem DI_turn{f:α→β→Int}{rows:List α}{cols:List β}(h:rows.length=cols.length):DI f rows cols=DI (fun b a=>f a b) cols rows:=by
 apply Rat.intCast_inj.1
 rw[D_cast,D_cast,D_turn h]
end
theorem range_getD{α:Type}{l:List α}{d:α}:(List.range l.length).map (fun i=>l.getD i d)=l:=by
 apply List.ext_getElem
 ·simp
 ·intro i h1 h2;simp[h2]
theorem turned_DI{n:Nat}{m:List (List Int)}(hl:m.length=n):DI en (M.turned m) (List.range n)=DI en m (List.range n):=by
 rw[DI_turn (f:=en) (rows:=m) (by simp[hl])]
 conv=>rhs;rw[←range_getD (l:=m) (d:=[]),hl,DI_mapc]
 unfold M.turned
 rw[hl,DI_map]
 refine DI_congr fun k hk i hi=>?_
 have hi:=List.mem_range.1 hi
 have hk:=List.mem_range.1 hk
 simp only[en]
 rw[List.getD_eq_getElem?_getD,List.getElem?_map,List.getElem?_range hi]
 rfl
theorem det_small{n:Nat}{m:List (List Int)}(hn:n≤5)(hl:m.length=n)(hrow:∀r,r∈m→r.length=n)(hent:∀r,r∈m→∀c,(en r c).natAbs≤1000):M.det m=DI en m (List.range n):=by
 refine det_eq (K:=fun _=>1000) hn (fun _=>by decide) hl hrow (fun r hr c _=>hent r hr c) ?_
 match n,hn with
 |0,_=>decide
 |1,_=>decide
 |2,_=>decide
 |3,_=>decide
 |4,_=>decide
 |5,_=>decide
theorem getD_small{l:List Int}{K:Nat}(h:∀x,x∈l→x.natAbs≤K)(c:Nat):(en l c).natAbs≤K:=by
 unfold en
 rw[List.getD_eq_getElem?_getD]
 cases hg:l[c]? with
 |none=>simp
 |some x=>exact h x (List.mem_of_getElem? hg)
theorem turnOK{sh:List Int}{cs:List Cond}(hn:sh.length≤5)(hs:∀x,x∈sh→x.natAbs≤1000)(hc:∀c,c∈cs→c.coefs.length=sh.length∧∀x,x∈c.coefs→x.natAbs≤1000):TurnOK sh cs:=by
 intro set hset hmem hd
 have hl:(M.mat sh set).length=sh.length:=by simp[M.mat];omega
 have hrow:∀r,r∈M.mat sh set→r.length=sh.length:=by
  intro r hr
  rcases List.mem_cons.1 hr with rfl|hr
  ·rfl
  ·obtain⟨c,hcm,rfl⟩:=List.mem_map.1 hr
   exact(hc c (hmem c hcm)).1
 have hent:∀r,r∈M.mat sh set→∀c,(en r c).natAbs≤1000:=by
  intro r hr c
  rcases List.mem_cons.1 hr with rfl|hr
  ·exact getD_small hs c
  ·obtain⟨d,hcm,rfl⟩:=List.mem_map.1 hr
   exact getD_small (hc d (hmem d hcm)).2 c
 rw[det_small hn hl hrow hent]at hd
 rw[det_small hn (turned_len.1.trans hl) (fun r hr=>(turned_len.2 r hr).trans hl) ?_,turned_DI hl]
 ·exact hd
 ·intro r hr c
  refine getD_small (fun x hx=>?_) c
  unfold M.turned at hr
  obtain⟨k,_,rfl⟩:=List.mem_map.1 hr
  obtain⟨i,hi,rfl⟩:=List.mem_map.1 hx
  have hi:=List.mem_range.1 hi
  have:(M.mat sh set).getD i []∈M.mat sh set:=by rw[List.getD_eq_getElem?_getD,List.getElem?_eq_getElem hi];exact List.getElem_mem hi
  exact hent _ this k
end Go.Bl
end
section
set_option maxRecDepth 100000
namespace Go.Bl
open Go.Gd
open Go.V Go.Proofs
namespace M
def val(c:Cask):Nat→Int
 |0=>c.k0
 |1=>c.k1
 |2=>c.k2
 |_=>c.k3
def rg(s:Sample):Nat→Rg
 |0=>s.r0
 |1=>s.r1
 |2=>s.r2
 |_=>s.r3
def only(n at_:Nat)(x:Int):List Int:=(List.range n).map fun k=>cond (Nat.beq k at_) x 0
def by_(l:List Cask)(n:Nat)(f:Cask→Int):List Int:=(List.range n).map fun i=>cond (Nat.beq i l.length) (-1) (f (l.getD i ⟨.empty,0,0,0,0,0,0⟩))
def limits(l:List Cask)(s:Sample)(extra:Nat):List Cond:=
 ((List.range (l.length+extra)).map fun(i:Nat)=>(⟨0,i,only (l.length+extra) i (-1),0⟩:Cond)) ++
 ((List.range l.length).map fun(i:Nat)=>(⟨1,i,only (l.length+extra) i 1,(l.getD i ⟨.empty,0,0,0,0,0,0⟩).vol⟩:Cond)) ++
 ((List.range 4).flatMap fun(k:Nat)=>[(⟨2,k,by_ l (l.length+extra) fun c=>IntKind.i64.wrap (val c k-(rg s k).hi),0⟩:Cond),⟨3,k,by_ l (l.length+extra) fun c=>IntKind.i64.wrap ((rg s k).lo-val c k),0⟩])
def shares(l:List Cask)(extra:Nat):List Int:=(l.map fun _=>1)++List.replicate extra 0
def costs(l:List Cask):List Int:=l.map fun c=>c.cost
def far(l:List Cask):List Int:=(l.map fun _=>0)++ [1]
end M
abbrev dC(l:List Cond):D:=.sl false l.length 4 (eK.F l)
def res66(l:List Cask)(s:Sample):List Ar:=[.agg [.sl false (M.shares l 0).length 1 (eI.F (M.shares l 0)),dI s.vol,.sl false (M.costs l).length 1 (eI.F (M.costs l)),dC (M.limits l s 0)]]
def res82(l:List Cask)(s:Sample):List Ar:=[.agg [.sl false (M.shares l 1).length 1 (eI.F (M.shares l 1)),dI s.vol,.sl false (M.far l).length 1 (eI.F (M.far l)),dC (M.limits l s 1)]]
def dom66:DomF
 |[.c (.sl _ n st F),.agg [.int .i64 sv,.int .i64 l0,.int .i64 h0,.int .i64 l1,.int .i64 h1,.int .i64 l2,.int .i64 h2,.int .i64 l3,.int .i64 h3]]=>(match Nat.beq st 7 with
  |true=>some ([eC.Is n F,1≤n,n≤4],res66 (eC.list n F) ⟨sv,⟨l0,h0⟩,⟨l1,h1⟩,⟨l2,h2⟩,⟨l3,h3⟩⟩)
  |_=>none)
 |_=>none
def v66:Nat×Sm:=(64,fokSm dom66)
def dom82:DomF
 |[.c (.sl _ n st F),.agg [.int .i64 sv,.int .i64 l0,.int .i64 h0,.int .i64 l1,.int .i64 h1,.int .i64 l2,.int .i64 h2,.int .i64 l3,.int .i64 h3]]=>(match Nat.beq st 7 with
  |true=>some ([eC.Is n F,1≤n,n≤4],res82 (eC.list n F) ⟨sv,⟨l0,h0⟩,⟨l1,h1⟩,⟨l2,h2⟩,⟨l3,h3⟩⟩)
  |_=>none)
 |_=>none
def v82:Nat×Sm:=(69,fokSm dom82)
end Go.Bl
end
section
set_option maxRecDepth 100000
namespace Go.Bl
open Go.Gd
open Go.V Go.Proofs
theorem range_wp{S α:Type}{n:Nat}{s0:S}{body:Int×S→T ((Int×S) ⊕ α)}{Q:α→Prop}(I:Nat→S→Prop)(h0:I 0 s0)
  (h:∀(k:Nat) s,k≤n→I k s→(body ((k:Int),s)).wp (fun r=>match r with|.inl y=>k<n∧y.1=((k+1:Nat):Int)∧I (k+1) y.2|.inr a=>Q a)) :
  (T.loop (Int×S) ((0:Int),s0) body).wp Q:=by
 refine⟨fun x=>∃k:Nat,k≤n∧x.1=k∧I k x.2,fun x=>n-x.1.toNat,⟨0,Nat.zero_le _,rfl,h0⟩,?_⟩
 rintro ⟨x,s⟩ ⟨k,hk,hx,hI⟩
 simp only at hx hI
 subst hx
 refine T.wp_mono ?_ (h k s hk hI)
 intro r hr
 cases r with
 |inl y=>
  obtain⟨y1,y2⟩:=y
  obtain⟨h1,h2,h3⟩:=hr
  simp only at h2 h3
  refine⟨⟨k+1,by omega,h2,h3⟩,?_⟩
  simp only[h2]
  omega
 |inr a=>exact hr
theorem wp_br{α:Type}{b:Bool}{t e:T α}{Q:α→Prop}(h1:b=true→t.wp Q)(h2:b=false→e.wp Q):(T.br b t e).wp Q:=⟨h1,h2⟩
theorem foldl_succ{σ:Type}{f:σ→Nat→σ}{a:σ}{k:Nat}:(List.range (k+1)).foldl f a=f ((List.range k).foldl f a) k:=by
 rw[List.range_succ,List.foldl_append];rfl
theorem wrap_succ{k:Nat}(h:k<1000000000):IntKind.wrap IntKind.i64 ((k:Int)+1)=((k+1:Nat):Int):=by rw[wrap_id (by omega) (by omega)];omega
theorem lt_of_dec{k n:Nat}(h:decide ((k:Int)<(n:Int))=true):k<n:=by simpa using h
theorem ge_of_dec{k n:Nat}(h:decide ((k:Int)<(n:Int))=false):n≤k:=by simpa using h
abbrev i64ok(n:Int):Prop:=n.natAbs<9223372036854775808
theorem wrap_ok{n:Int}(h:i64ok n):IntKind.wrap IntKind.i64 n=n:=wrap_id (by unfold i64ok at h;omega) (by unfold i64ok at h;omega)
namespace M
def told1(n d:Int):Int:=n.tdiv (Int.gcd n d)
def told2(n d:Int):Int:=d.tdiv (Int.gcd n d)
end M
theorem t83(n d:Int):runFnX Tryz.prog G0 (lookS []) (fun _=>[(2,[.slot 5 (.int .i64),.slot 6 (.int .i64)],none)]) [] 1 40 3 70 Tryz.f70 [.c (dI n),.c (dI d)] =
  T.loop (Int×Int×PUnit) (n,d,PUnit.unit) fun(x:Int×Int×PUnit)=>T.br (Prod.fst (Prod.snd x) != (0:Int)) (T.need (Prod.fst (Prod.snd x)≠(0:Int)) (T.ret (Sum.inl (Prod.fst (Prod.snd x),Int.tmod (Prod.fst x) (Prod.fst (Prod.snd x)),PUnit.unit)))) (T.need ((if IntKind.wrap IntKind.i64 ((0:Int)-Prod.fst x)>Prod.fst x then IntKind.wrap IntKind.i64 ((0:Int)-Prod.fst x)else Prod.fst x)≠(0:Int)) (T.need ((if IntKind.wrap IntKind.i64 ((0:Int)-Prod.fst x)>Prod.fst x then IntKind.wrap IntKind.i64 ((0:Int)-Prod.fst x)else Prod.fst x)≠(0:Int)) (T.ret (Sum.inr [Ar.agg [D.int IntKind.i64 (IntKind.wrap IntKind.i64 (Int.tdiv n (if IntKind.wrap IntKind.i64 ((0:Int)-Prod.fst x)>Prod.fst x then IntKind.wrap IntKind.i64 ((0:Int)-Prod.fst x)else Prod.fst x))),D.int IntKind.i64 (IntKind.wrap IntKind.i64 (Int.tdiv d (if IntKind.wrap IntKind.i64 ((0:Int)-Prod.fst x)>Prod.fst x then IntKind.wrap IntKind.i64 ((0:Int)-Prod.fst x)else Prod.fst x)))]])))):=by kernel_rfl
theorem abs_if{x:Int}(h:i64ok x):(if IntKind.wrap IntKind.i64 (0-x)>x then IntKind.wrap IntKind.i64 (0-x)else x)=(x.natAbs:Int):=by
 unfold i64ok at h
 rw[wrap_id (by omega) (by omega)]
 split <;>omega
theorem tdiv_ok{n:Int}{g:Nat}(h:i64ok n):IntKind.wrap IntKind.i64 (n.tdiv (g:Int))=n.tdiv (g:Int):=by
 refine wrap_ok ?_
 unfold i64ok at *
 rw[Int.natAbs_tdiv]
 exact Nat.lt_of_le_of_lt (Nat.div_le_self _ _) h
theorem gcd_step(x y:Int):Int.gcd y (x.tmod y)=Int.gcd x y:=by
 unfold Int.gcd
 rw[Int.natAbs_tmod,Nat.gcd_comm,←Nat.gcd_rec,Nat.gcd_comm]
theorem w83{n d:Int}(hd:d≠0)(h1:i64ok n)(h2:i64ok d){Q:List Ar→Prop}(hQ:Q [.agg [dI (M.told1 n d),dI (M.told2 n d)]]) :
  (T.loop (Int×Int×PUnit) (n,d,PUnit.unit) fun(x:Int×Int×PUnit)=>T.br (Prod.fst (Prod.snd x) != (0:Int)) (T.need (Prod.fst (Prod.snd x)≠(0:Int)) (T.ret (Sum.inl (Prod.fst (Prod.snd x),Int.tmod (Prod.fst x) (Prod.fst (Prod.snd x)),PUnit.unit)))) (T.need ((if IntKind.wrap IntKind.i64 ((0:Int)-Prod.fst x)>Prod.fst x then IntKind.wrap IntKind.i64 ((0:Int)-Prod.fst x)else Prod.fst x)≠(0:Int)) (T.need ((if IntKind.wrap IntKind.i64 ((0:Int)-Prod.fst x)>Prod.fst x then IntKind.wrap IntKind.i64 ((0:Int)-Prod.fst x)else Prod.fst x)≠(0:Int)) (T.ret (Sum.inr [Ar.agg [D.int IntKind.i64 (IntKind.wrap IntKind.i64 (Int.tdiv n (if IntKind.wrap IntKind.i64 ((0:Int)-Prod.fst x)>Prod.fst x then IntKind.wrap IntKind.i64 ((0:Int)-Prod.fst x)else Prod.fst x))),D.int IntKind.i64 (IntKind.wrap IntKind.i64 (Int.tdiv d (if IntKind.wrap IntKind.i64 ((0:Int)-Prod.fst x)>Prod.fst x then IntKind.wrap IntKind.i64 ((0:Int)-Prod.fst x)else Prod.fst x)))]]))))).wp Q:=by
 refine⟨fun x=>Int.gcd x.1 x.2.1=Int.gcd n d∧i64ok x.1∧i64ok x.2.1,fun x=>x.2.1.natAbs,⟨rfl,h1,h2⟩,?_⟩
 rintro ⟨x,y,u⟩ ⟨g1,g2,g3⟩
 simp only at g1 g2 g3
 refine⟨fun hb=>?_,fun hb=>?_⟩
 ·have hy:y≠0:=by simpa using hb
  have hm:(x.tmod y).natAbs<y.natAbs:=by rw[Int.natAbs_tmod];exact Nat.mod_lt _ (by omega)
  refine⟨hy,⟨(gcd_step x y).trans g1,g3,?_⟩,hm⟩
  show(x.tmod y).natAbs<_
  unfold i64ok at g3
  omega
 ·have hy:y=0:=by simpa using hb
  subst hy
  rw[Int.gcd_zero_right]at g1
  have hg:(x.natAbs:Int)≠0:=by
   rw[g1]
   intro e
   have:Int.gcd n d=0:=by omega
   exact hd (Int.gcd_eq_zero_iff.1 this).2
  simp only[abs_if g2]
  refine⟨hg,hg,?_⟩
  rw[tdiv_ok h1,tdiv_ok h2,g1]
  exact hQ
def dom83:DomF
 |[.c (.int .i64 n),.c (.int .i64 d)]=>some ([d≠0,i64ok n,i64ok d],[.agg [dI (M.told1 n d),dI (M.told2 n d)]])
 |_=>none
def v83:Nat×Sm:=(70,fokSm dom83)
theorem C83:FOK Tryz.prog G0 gw 70 dom83:=by
 intro ags p r hd hp κ w xs hw hl hG hx
 unfold dom83 at hd
 split at hd
 ·rename_i n d
  simp only[Option.some.injEq,Prod.mk.injEq]at hd
  obtain⟨rfl,rfl⟩:=hd
  obtain⟨h0,h1,h2,_⟩:=hp
  exact fokX_fin mixed gw_stable (sl:=[]) trivial Tryz.func70 hw hl hG hx (agsEqv_refl _) rfl (t83 n d) (w83 h0 h1 h2 (rsEqv_refl _))
 ·cases hd
theorem S83:SumOK Tryz.prog G0 gw 70 (fokSm dom83):=fok_sum Tryz.func70 rfl C83
def dfC:Cask:=⟨.empty,0,0,0,0,0,0⟩
namespace M
def sumP(of:Cask→Int)(l:List Cask)(ps:List Int):Int:=(List.range ps.length).foldl (fun a i=>IntKind.i64.wrap (a+IntKind.i64.wrap (ps.getD i 0*of (l.getD i dfC)))) 0
end M
def trSum{α:Type}(of:Cask→Int)(l:List Cask)(ps:List Int)(fin:Int→T ((Int×Int×PUnit) ⊕ α)):T α:=
 .loop (Int×Int×PUnit) ((0:Int),(0:Int),PUnit.unit) fun x=>.br (decide (x.1<(ps.length:Int))) (.need (0≤x.1) (.need (x.1<(ps.length:Int)) (.need (0≤x.1) (.need (x.1<(l.length:Int)) (.ret (.inl (IntKind.i64.wrap (x.1+1),IntKind.i64.wrap (x.2.1+IntKind.i64.wrap (ps.getD x.1.toNat 0*of (l.getD x.1.toNat dfC))),PUnit.unit))))))) (fin x.2.1)
theorem wSum{α:Type}{of:Cask→Int}{l:List Cask}{ps:List Int}{fin:Int→T ((Int×Int×PUnit) ⊕ α)}{Q:α→Prop}(h1:ps.length≤l.length)(h2:ps.length≤1000000)
  (hf:(fin (M.sumP of l ps)).wp (fun r=>match r with|.inl _=>False|.inr a=>Q a)):(trSum of l ps fin).wp Q:=by
 refine range_wp (n:=ps.length) (fun k s=>s.1=(List.range k).foldl (fun a i=>IntKind.i64.wrap (a+IntKind.i64.wrap (ps.getD i 0*of (l.getD i dfC)))) 0) rfl ?_
 rintro k ⟨a,u⟩ hk hI
 simp only at hI
 refine⟨fun hb=>?_,fun hb=>?_⟩
 ·have hlt:=lt_of_dec hb
  refine⟨by show(0:Int)≤k;omega,by show(k:Int)<ps.length;omega,by show(0:Int)≤k;omega,by show(k:Int)<l.length;omega,hlt,wrap_succ (by omega),?_⟩
  rw[foldl_succ,←hI]
  rfl
 ·have hge:=ge_of_dec hb
  obtain rfl:k=ps.length:=by omega
  have e:a=M.sumP of l ps:=hI
  simp only
  rw[e]
  refine T.wp_mono ?_ hf
  intro r hr
  cases r with
  |inl y=>exact hr.elim
  |inr x=>exact hr
theorem t85(q q2:Bool)(l:List Cask)(den:Int)(ps:List Int):runFnX Tryz.prog G0 (lookS []) (fun f=>match Nat.beq f 121 with|true=>[(3,[.slot 12 (.int .i64),.slot 5 (.int .i64)],none)]|_=>[(3000004,[],none)]) [121,123] 1 40 5 72 Tryz.f72 [.agg [.sl q l.length 7 (eC.F l),dI den,.sl q2 ps.length 1 (eI.F ps)]] =
  trSum (fun _=>1) l ps (fun a=>.ret (.inr [rI a])):=by kernel_rfl
theorem t97_0(q q2:Bool)(l:List Cask)(den:Int)(ps:List Int):runFnX Tryz.prog G0 (lookS []) (fun f=>match Nat.beq f 121 with|true=>[(3,[.slot 12 (.int .i64),.slot 5 (.int .i64)],none)]|_=>[(3000004,[],none)]) [121,128] 1 40 5 78 Tryz.f78 [.agg [.sl q l.length 7 (eC.F l),dI den,.sl q2 ps.length 1 (eI.F ps)],.c (dI 0)] =
  trSum (fun c=>c.k0) l ps (fun a=>.ret (.inr [rI a])):=by kernel_rfl
theorem t97_1(q q2:Bool)(l:List Cask)(den:Int)(ps:List Int):runFnX Tryz.prog G0 (lookS []) (fun f=>match Nat.beq f 121 with|true=>[(3,[.slot 12 (.int .i64),.slot 5 (.int .i64)],none)]|_=>[(3000004,[],none)]) [121,128] 1 40 5 78 Tryz.f78 [.agg [.sl q l.length 7 (eC.F l),dI den,.sl q2 ps.length 1 (eI.F ps)],.c (dI 1)] =
  trSum (fun c=>c.k1) l ps (fun a=>.ret (.inr [rI a])):=by kernel_rfl
theorem t97_2(q q2:Bool)(l:List Cask)(den:Int)(ps:List Int):runFnX Tryz.prog G0 (lookS []) (fun f=>match Nat.beq f 121 with|true=>[(3,[.slot 12 (.int .i64),.slot 5 (.int .i64)],none)]|_=>[(3000004,[],none)]) [121,128] 1 40 5 78 Tryz.f78 [.agg [.sl q l.length 7 (eC.F l),dI den,.sl q2 ps.length 1 (eI.F ps)],.c (dI 2)] =
  trSum (fun c=>c.k2) l ps (fun a=>.ret (.inr [rI a])):=by kernel_rfl
theorem t97_3(q q2:Bool)(l:List Cask)(den:Int)(ps:List Int):runFnX Tryz.prog G0 (lookS []) (fun f=>match Nat.beq f 121 with|true=>[(3,[.slot 12 (.int .i64),.slot 5 (.int .i64)],none)]|_=>[(3000004,[],none)]) [121,128] 1 40 5 78 Tryz.f78 [.agg [.sl q l.length 7 (eC.F l),dI den,.sl q2 ps.length 1 (eI.F ps)],.c (dI 3)] =
  trSum (fun c=>c.k3) l ps (fun a=>.ret (.inr [rI a])):=by kernel_rfl
theorem t68(q q2:Bool)(l:List Cask)(den:Int)(ps:List Int):runFnX Tryz.prog G0 (lookS [v83]) (fun f=>match Nat.beq f 121 with|true=>[(3,[.slot 12 (.int .i64),.slot 5 (.int .i64)],none)]|_=>[]) [121,122] 1 40 5 66 Tryz.f66 [.agg [.sl q l.length 7 (eC.F l),dI den,.sl q2 ps.length 1 (eI.F ps)]] =
  trSum (fun c=>c.cost) l ps (fun a=>.need (den≠0) (.need (i64ok a) (.need (i64ok den) (.ret (.inr [.agg [dI (M.told1 a den),dI (M.told2 a den)]]))))):=by kernel_rfl
namespace M
def kOf(k:Int)(c:Cask):Int:=match k with|.ofNat 0=>c.k0|.ofNat 1=>c.k1|.ofNat 2=>c.k2|_=>c.k3
end M
def isKind(k:Int):Bool:=match k with|.ofNat n=>Nat.ble n 3|_=>false
theorem isKind_spec{k:Int}(h:isKind k=true):k=0∨k=1∨k=2∨k=3:=by
 cases k with
 |ofNat n=>
  have:=Nat.le_of_ble_eq_true h
  have:n=0∨n=1∨n=2∨n=3:=by omega
  rcases this with rfl|rfl|rfl|rfl <;>simp
 |negSucc n=>cases h
def dom85:DomF
 |[.agg [.sl _ n st F,.int .i64 den,.sl _ k st2 G]]=>(match Nat.beq st 7&&Nat.beq st2 1 with
  |true=>some ([eC.Is n F,eI.Is k G,k≤n,k≤1000],[rI (M.sumP (fun _=>1) (eC.list n F) (eI.list k G))])
  |_=>none)
 |_=>none
def v85:Nat×Sm:=(72,fokSm dom85)
theorem C85:FOK Tryz.prog G0 gw 72 dom85:=by
 intro ags p r hd hp κ w xs hw hl hG hx
 unfold dom85 at hd
 split at hd
 ·rename_i q n st F den q2 k st2 G
  split at hd
  ·rename_i hst
   simp only[Bool.and_eq_true]at hst
   obtain⟨g1,g2⟩:=hst
   have g1:=Nat.eq_of_beq_eq_true g1
   have g2:=Nat.eq_of_beq_eq_true g2
   subst g1 g2
   simp only[Option.some.injEq,Prod.mk.injEq]at hd
   obtain⟨rfl,rfl⟩:=hd
   obtain⟨hC,hI,hkn,hk,hp⟩:=hp
   have heq:agsEqv [.agg [.sl q n 7 F,.int .i64 den,.sl q2 k 1 G]] [.agg [.sl q (eC.list n F).length 7 (eC.F (eC.list n F)),.int .i64 den,.sl q2 (eI.list k G).length 1 (eI.F (eI.list k G))]]:=
    ⟨⟨eC.to id hC,rfl,eI.to id hI,trivial⟩,trivial⟩
   have l1:(eC.list n F).length=n:=eC.list_len
   have l2:(eI.list k G).length=k:=eI.list_len
   generalize eC.list n F=l at *
   generalize eI.list k G=ps at *
   subst l1 l2
   exact fokX_fin mixed gw_stable (sl:=[]) trivial Tryz.func72 hw hl hG hx heq rfl (t85 q q2 l den ps) (wSum hkn (by omega) (rsEqv_refl _))
  ·cases hd
 ·cases hd
theorem S85:SumOK Tryz.prog G0 gw 72 (fokSm dom85):=fok_sum Tryz.func72 rfl C85
def dom97:DomF
 |[.agg [.sl _ n st F,.int .i64 den,.sl _ k st2 G],.c (.int .i64 kk)]=>(match Nat.beq st 7&&Nat.beq st2 1&&isKind kk with
  |true=>some ([eC.Is n F,eI.Is k G,k≤n,k≤1000],[rI (M.sumP (M.kOf kk) (eC.list n F) (eI.list k G))])
  |_=>none)
 |_=>none
def v97:Nat×Sm:=(78,fokSm dom97)
theorem C97:FOK Tryz.prog G0 gw 78 dom97:=by
 intro ags p r hd hp κ w xs hw hl hG hx
 unfold dom97 at hd
 split at hd
 ·rename_i q n st F den q2 k st2 G kk
  split at hd
  ·rename_i hst
   simp only[Bool.and_eq_true]at hst
   obtain⟨⟨g1,g2⟩,g3⟩:=hst
   have g1:=Nat.eq_of_beq_eq_true g1
   have g2:=Nat.eq_of_beq_eq_true g2
   subst g1 g2
   simp only[Option.some.injEq,Prod.mk.injEq]at hd
   obtain⟨rfl,rfl⟩:=hd
   obtain⟨hC,hI,hkn,hk,hp⟩:=hp
   have heq:agsEqv [.agg [.sl q n 7 F,.int .i64 den,.sl q2 k 1 G],.c (.int .i64 kk)] [.agg [.sl q (eC.list n F).length 7 (eC.F (eC.list n F)),.int .i64 den,.sl q2 (eI.list k G).length 1 (eI.F (eI.list k G))],.c (.int .i64 kk)]:=
    ⟨⟨eC.to id hC,rfl,eI.to id hI,trivial⟩,Ag.eqv_refl _,trivial⟩
   have l1:(eC.list n F).length=n:=eC.list_len
   have l2:(eI.list k G).length=k:=eI.list_len
   generalize eC.list n F=l at *
   generalize eI.list k G=ps at *
   subst l1 l2
   rcases isKind_spec g3 with rfl|rfl|rfl|rfl
   ·exact fokX_fin mixed gw_stable (sl:=[]) trivial Tryz.func78 hw hl hG hx heq rfl (t97_0 q q2 l den ps) (wSum hkn (by omega) (rsEqv_refl _))
   ·exact fokX_fin mixed gw_stable (sl:=[]) trivial Tryz.func78 hw hl hG hx heq rfl (t97_1 q q2 l den ps) (wSum hkn (by omega) (rsEqv_refl _))
   ·exact fokX_fin mixed gw_stable (sl:=[]) trivial Tryz.func78 hw hl hG hx heq rfl (t97_2 q q2 l den ps) (wSum hkn (by omega) (rsEqv_refl _))
   ·exact fokX_fin mixed gw_stable (sl:=[]) trivial Tryz.func78 hw hl hG hx heq rfl (t97_3 q q2 l den ps) (wSum hkn (by omega) (rsEqv_refl _))
  ·cases hd
 ·cases hd
theorem S97:SumOK Tryz.prog G0 gw 78 (fokSm dom97):=fok_sum Tryz.func78 rfl C97
def dom68:DomF
 |[.agg [.sl _ n st F,.int .i64 den,.sl _ k st2 G]]=>(match Nat.beq st 7&&Nat.beq st2 1 with
  |true=>some ([eC.Is n F,eI.Is k G,k≤n,k≤1000,den≠0,i64ok den,i64ok (M.sumP Cask.cost (eC.list n F) (eI.list k G))],[.agg [dI (M.told1 (M.sumP Cask.cost (eC.list n F) (eI.list k G)) den),dI (M.told2 (M.sumP Cask.cost (eC.list n F) (eI.list k G)) den)]])
  |_=>none)
 |_=>none
def v68:Nat×Sm:=(66,fokSm dom68)
theorem C68:FOK Tryz.prog G0 gw 66 dom68:=by
 intro ags p r hd hp κ w xs hw hl hG hx
 unfold dom68 at hd
 split at hd
 ·rename_i q n st F den q2 k st2 G
  split at hd
  ·rename_i hst
   simp only[Bool.and_eq_true]at hst
   obtain⟨g1,g2⟩:=hst
   have g1:=Nat.eq_of_beq_eq_true g1
   have g2:=Nat.eq_of_beq_eq_true g2
   subst g1 g2
   simp only[Option.some.injEq,Prod.mk.injEq]at hd
   obtain⟨rfl,rfl⟩:=hd
   obtain⟨hC,hI,hkn,hk,hp⟩:=hp
   have heq:agsEqv [.agg [.sl q n 7 F,.int .i64 den,.sl q2 k 1 G]] [.agg [.sl q (eC.list n F).length 7 (eC.F (eC.list n F)),.int .i64 den,.sl q2 (eI.list k G).length 1 (eI.F (eI.list k G))]]:=
    ⟨⟨eC.to id hC,rfl,eI.to id hI,trivial⟩,trivial⟩
   have l1:(eC.list n F).length=n:=eC.list_len
   have l2:(eI.list k G).length=k:=eI.list_len
   generalize eC.list n F=l at *
   generalize eI.list k G=ps at *
   subst l1 l2
   obtain⟨p1,p2,p3,_⟩:=hp
   exact fokX_fin mixed gw_stable (sl:=[v83]) ⟨S83,trivial⟩ Tryz.func66 hw hl hG hx heq rfl (t68 q q2 l den ps) (wSum hkn (by omega) ⟨p1,p3,p2,rsEqv_refl _⟩)
  ·cases hd
 ·cases hd
theorem S68:SumOK Tryz.prog G0 gw 66 (fokSm dom68):=fok_sum Tryz.func66 rfl C68
end Go.Bl
end
section
set_option maxRecDepth 100000
namespace Go.Bl
open Go.Gd
open Go.V Go.Proofs
namespace M
def OkB(k:Nat)(b:Int):Prop:=(97≤b∧b≤122)∨(65≤b∧b≤90)∨(k≠0∧(b=45∨(48≤b∧b≤57)))
instance (k:Nat) (b:Int):Decidable (OkB k b):=by unfold OkB;infer_instance
def isName(s:ByteArray):Bool:=decide (1≤s.size∧s.size≤12∧∀k,k<s.size→OkB k (byteAt s k))
end M
theorem name_no{s:ByteArray}(h:¬(1≤s.size∧s.size≤12∧∀k,k<s.size→M.OkB k (byteAt s k))):rsEqv [rB false] [rB (M.isName s)]:=by
 have:M.isName s=false:=decide_eq_false h
 rw[this];exact rsEqv_refl _
theorem name_yes{s:ByteArray}(h:1≤s.size∧s.size≤12∧∀k,k<s.size→M.OkB k (byteAt s k)):rsEqv [rB true] [rB (M.isName s)]:=by
 have:M.isName s=true:=decide_eq_true h
 rw[this];exact rsEqv_refl _
theorem ba_loop(bs:ByteArray):∀(d i:Nat) (r:List UInt8),bs.size-i=d→ByteArray.toList.loop bs i r=r.reverse++bs.data.toList.drop i:=by
 intro d
 induction d with
 |zero=>
  intro i r h
  rw[ByteArray.toList.loop]
  have hs:bs.size=bs.data.toList.length:=rfl
  rw[if_neg (by omega),List.drop_of_length_le (by omega),List.append_nil]
 |succ d ih=>
  intro i r h
  rw[ByteArray.toList.loop]
  have hs:bs.size=bs.data.toList.length:=rfl
  rw[if_pos (by omega),ih (i+1) _ (by omega)]
  have hi:i<bs.data.toList.length:=by omega
  rw[List.drop_eq_getElem_cons hi,List.reverse_cons,List.append_assoc]
  congr 2
  have hi':i<bs.data.size:=hi
  simp only[List.singleton_append]
  congr 1
  show bs.data[i]! = _
  rw[getElem!_pos bs.data i hi']
  simp
theorem ba_toList(bs:ByteArray):bs.toList=bs.data.toList:=by
 unfold ByteArray.toList
 rw[ba_loop bs _ 0 [] rfl]
 simp
theorem ba_size(s:ByteArray):s.size=s.data.toList.length:=rfl
theorem ba_ne(s:ByteArray):(!s.toList==ByteArray.toList {data:={toList:=[]}})=decide (s.size≠0):=by
 rw[ba_toList,ba_toList,ba_size]
 cases s.data.toList <;>rfl
def tr104(s:ByteArray):T (List Ar):=
  T.loop (Int×PUnit) ((0:Int),PUnit.unit) fun(x:Int×PUnit)=>T.br (decide (Prod.fst x<(Nat.cast (R:=Int) (ByteArray.size s)))) (T.need ((0:Int)≤Prod.fst x) (T.need (Prod.fst x<(Nat.cast (R:=Int) (ByteArray.size s))) (T.br (decide ((byteAt s (Nat.cast (R:=Int) (Int.toNat (Prod.fst x))))≥(97:Int))) (T.br (decide ((byteAt s (Nat.cast (R:=Int) (Int.toNat (Prod.fst x))))≤(122:Int))) (T.ret (Sum.inl (IntKind.wrap IntKind.i64 (Prod.fst x+(1:Int)),PUnit.unit))) (T.br (decide ((byteAt s (Nat.cast (R:=Int) (Int.toNat (Prod.fst x))))≥(65:Int))) (T.br (!decide ((byteAt s (Nat.cast (R:=Int) (Int.toNat (Prod.fst x))))≤(90:Int))) (T.br (Prod.fst x==(0:Int)) (T.ret (Sum.inr [Ar.c (D.bool false)])) (T.br ((byteAt s (Nat.cast (R:=Int) (Int.toNat (Prod.fst x)))) != (45:Int)) (T.br (decide ((byteAt s (Nat.cast (R:=Int) (Int.toNat (Prod.fst x))))<(48:Int))) (T.ret (Sum.inr [Ar.c (D.bool false)])) (T.br (decide ((byteAt s (Nat.cast (R:=Int) (Int.toNat (Prod.fst x))))>(57:Int))) (T.ret (Sum.inr [Ar.c (D.bool false)])) (T.ret (Sum.inl (IntKind.wrap IntKind.i64 (Prod.fst x+(1:Int)),PUnit.unit))))) (T.ret (Sum.inl (IntKind.wrap IntKind.i64 (Prod.fst x+(1:Int)),PUnit.unit))))) (T.ret (Sum.inl (IntKind.wrap IntKind.i64 (Prod.fst x+(1:Int)),PUnit.unit)))) (T.br (Prod.fst x==(0:Int)) (T.ret (Sum.inr [Ar.c (D.bool false)])) (T.br ((byteAt s (Nat.cast (R:=Int) (Int.toNat (Prod.fst x)))) != (45:Int)) (T.br (decide ((byteAt s (Nat.cast (R:=Int) (Int.toNat (Prod.fst x))))<(48:Int))) (T.ret (Sum.inr [Ar.c (D.bool false)])) (T.br (decide ((byteAt s (Nat.cast (R:=Int) (Int.toNat (Prod.fst x))))>(57:Int))) (T.ret (Sum.inr [Ar.c (D.bool false)])) (T.ret (Sum.inl (IntKind.wrap IntKind.i64 (Prod.fst x+(1:Int)),PUnit.unit))))) (T.ret (Sum.inl (IntKind.wrap IntKind.i64 (Prod.fst x+(1:Int)),PUnit.unit))))))) (T.br (decide ((byteAt s (Nat.cast (R:=Int) (Int.toNat (Prod.fst x))))≥(65:Int))) (T.br (!decide ((byteAt s (Nat.cast (R:=Int) (Int.toNat (Prod.fst x))))≤(90:Int))) (T.br (Prod.fst x==(0:Int)) (T.ret (Sum.inr [Ar.c (D.bool false)])) (T.br ((byteAt s (Nat.cast (R:=Int) (Int.toNat (Prod.fst x)))) != (45:Int)) (T.br (decide ((byteAt s (Nat.cast (R:=Int) (Int.toNat (Prod.fst x))))<(48:Int))) (T.ret (Sum.inr [Ar.c (D.bool false)])) (T.br (decide ((byteAt s (Nat.cast (R:=Int) (Int.toNat (Prod.fst x))))>(57:Int))) (T.ret (Sum.inr [Ar.c (D.bool false)])) (T.ret (Sum.inl (IntKind.wrap IntKind.i64 (Prod.fst x+(1:Int)),PUnit.unit))))) (T.ret (Sum.inl (IntKind.wrap IntKind.i64 (Prod.fst x+(1:Int)),PUnit.unit))))) (T.ret (Sum.inl (IntKind.wrap IntKind.i64 (Prod.fst x+(1:Int)),PUnit.unit)))) (T.br (Prod.fst x==(0:Int)) (T.ret (Sum.inr [Ar.c (D.bool false)])) (T.br ((byteAt s (Nat.cast (R:=Int) (Int.toNat (Prod.fst x)))) != (45:Int)) (T.br (decide ((byteAt s (Nat.cast (R:=Int) (Int.toNat (Prod.fst x))))<(48:Int))) (T.ret (Sum.inr [Ar.c (D.bool false)])) (T.br (decide ((byteAt s (Nat.cast (R:=Int) (Int.toNat (Prod.fst x))))>(57:Int))) (T.ret (Sum.inr [Ar.c (D.bool false)])) (T.ret (Sum.inl (IntKind.wrap IntKind.i64 (Prod.fst x+(1:Int)),PUnit.unit))))) (T.ret (Sum.inl (IntKind.wrap IntKind.i64 (Prod.fst x+(1:Int)),PUnit.unit))))))))) (T.br (!ByteArray.toList s==ByteArray.toList {data:={toList:=[]}}) (T.ret (Sum.inr [Ar.c (D.bool (decide ((Nat.cast (R:=Int) (ByteArray.size s))≤(12:Int))))])) (T.ret (Sum.inr [Ar.c (D.bool false)])))
theorem t104(s:ByteArray):runFnX Tryz.prog G0 (lookS []) (fun _=>[(2,[.slot 9 (.int .i64)],none)]) [] 1 40 3 41 Tryz.f41 [.c (.str s)] =
  tr104 s:=by kernel_rfl
def tr105(s:ByteArray):T (List Ar):=
  T.br (decide ((Nat.cast (R:=Int) (ByteArray.size s))<(1:Int))) (T.ret [Ar.c (D.bool false)]) (T.br (decide ((Nat.cast (R:=Int) (ByteArray.size s))>(12:Int))) (T.ret [Ar.c (D.bool false)]) (T.loop (Int×PUnit) ((0:Int),PUnit.unit) fun(x:Int×PUnit)=>T.br (decide (Prod.fst x<(Nat.cast (R:=Int) (ByteArray.size s)))) (T.need ((0:Int)≤Prod.fst x) (T.need (Prod.fst x<(Nat.cast (R:=Int) (ByteArray.size s))) (T.br (decide ((byteAt s (Prod.fst x))≥(97:Int))) (T.br (decide ((byteAt s (Prod.fst x))≤(122:Int))) (T.ret (Sum.inl (IntKind.wrap IntKind.i64 (Prod.fst x+(1:Int)),PUnit.unit))) (T.br (decide ((byteAt s (Prod.fst x))≥(65:Int))) (T.br (!decide ((byteAt s (Prod.fst x))≤(90:Int))) (T.br (Prod.fst x==(0:Int)) (T.ret (Sum.inr [Ar.c (D.bool false)])) (T.br ((byteAt s (Prod.fst x)) != (45:Int)) (T.br (decide ((byteAt s (Prod.fst x))<(48:Int))) (T.ret (Sum.inr [Ar.c (D.bool false)])) (T.br (decide ((byteAt s (Prod.fst x))>(57:Int))) (T.ret (Sum.inr [Ar.c (D.bool false)])) (T.ret (Sum.inl (IntKind.wrap IntKind.i64 (Prod.fst x+(1:Int)),PUnit.unit))))) (T.ret (Sum.inl (IntKind.wrap IntKind.i64 (Prod.fst x+(1:Int)),PUnit.unit))))) (T.ret (Sum.inl (IntKind.wrap IntKind.i64 (Prod.fst x+(1:Int)),PUnit.unit)))) (T.br (Prod.fst x==(0:Int)) (T.ret (Sum.inr [Ar.c (D.bool false)])) (T.br ((byteAt s (Prod.fst x)) != (45:Int)) (T.br (decide ((byteAt s (Prod.fst x))<(48:Int))) (T.ret (Sum.inr [Ar.c (D.bool false)])) (T.br (decide ((byteAt s (Prod.fst x))>(57:Int))) (T.ret (Sum.inr [Ar.c (D.bool false)])) (T.ret (Sum.inl (IntKind.wrap IntKind.i64 (Prod.fst x+(1:Int)),PUnit.unit))))) (T.ret (Sum.inl (IntKind.wrap IntKind.i64 (Prod.fst x+(1:Int)),PUnit.unit))))))) (T.br (decide ((byteAt s (Prod.fst x))≥(65:Int))) (T.br (!decide ((byteAt s (Prod.fst x))≤(90:Int))) (T.br (Prod.fst x==(0:Int)) (T.ret (Sum.inr [Ar.c (D.bool false)])) (T.br ((byteAt s (Prod.fst x)) != (45:Int)) (T.br (decide ((byteAt s (Prod.fst x))<(48:Int))) (T.ret (Sum.inr [Ar.c (D.bool false)])) (T.br (decide ((byteAt s (Prod.fst x))>(57:Int))) (T.ret (Sum.inr [Ar.c (D.bool false)])) (T.ret (Sum.inl (IntKind.wrap IntKind.i64 (Prod.fst x+(1:Int)),PUnit.unit))))) (T.ret (Sum.inl (IntKind.wrap IntKind.i64 (Prod.fst x+(1:Int)),PUnit.unit))))) (T.ret (Sum.inl (IntKind.wrap IntKind.i64 (Prod.fst x+(1:Int)),PUnit.unit)))) (T.br (Prod.fst x==(0:Int)) (T.ret (Sum.inr [Ar.c (D.bool false)])) (T.br ((byteAt s (Prod.fst x)) != (45:Int)) (T.br (decide ((byteAt s (Prod.fst x))<(48:Int))) (T.ret (Sum.inr [Ar.c (D.bool false)])) (T.br (decide ((byteAt s (Prod.fst x))>(57:Int))) (T.ret (Sum.inr [Ar.c (D.bool false)])) (T.ret (Sum.inl (IntKind.wrap IntKind.i64 (Prod.fst x+(1:Int)),PUnit.unit))))) (T.ret (Sum.inl (IntKind.wrap IntKind.i64 (Prod.fst x+(1:Int)),PUnit.unit))))))))) (T.ret (Sum.inr [Ar.c (D.bool true)]))))
theorem t105(s:ByteArray):runFnX Tryz.prog G0 (lookS []) (fun _=>[(4,[.slot 3 (.int .i64)],none)]) [] 1 40 3 49 Tryz.f49 [.c (.str s)] =
  tr105 s:=by kernel_rfl
theorem loop_name{s:ByteArray}(h12:s.size≤1000000){k:Nat}(hlt:k<s.size)(hI:∀j,j<k→M.OkB j (byteAt s j)){b:Int}(hb:byteAt s k=b)(hok:M.OkB k b):k<s.size∧IntKind.i64.wrap ((k:Int)+1)=((k+1:Nat):Int)∧∀j,j<k+1→M.OkB j (byteAt s j):=by
 refine⟨hlt,wrap_succ (by omega),fun j hj=>?_⟩
 rcases Nat.lt_or_ge j k with h|h
 ·exact hI j h
 ·obtain rfl:j=k:=by omega
  rw[hb];exact hok
theorem w104(s:ByteArray)(h:s.size≤1000000):(tr104 s).wp (fun rs=>rsEqv rs [rB (M.isName s)]):=by
 unfold tr104
 refine range_wp (n:=s.size) (fun k _=>∀j,j<k→M.OkB j (byteAt s j)) (fun j hj=>by omega) ?_
 rintro k u hk hI
 simp only[Int.toNat_natCast,ba_ne]
 refine⟨fun hb=>?_,fun hb=>?_⟩
 ·have hlt:=lt_of_dec hb
  refine⟨by omega,by omega,?_⟩
  clear hb
  obtain⟨b,hbb⟩:∃b,byteAt s k=b:=⟨_,rfl⟩
  simp only[hbb]
  repeat' (refine wp_br (fun hh=>?_) (fun hh=>?_))
  all_goals(simp only[decide_eq_true_eq,decide_eq_false_iff_not,bne_iff_ne,ne_eq,beq_iff_eq,Bool.not_eq_true',bne_eq_false_iff_eq,beq_eq_false_iff_ne,Bool.not_eq_false',Int.natCast_eq_zero]at *)
  all_goals first
   |exact loop_name h hlt hI hbb (by unfold M.OkB;omega)
   |exact name_no (fun⟨_,_,g⟩=>by have:=g k hlt;rw[hbb]at this;unfold M.OkB at this;omega)
 ·have hge:=ge_of_dec hb
  obtain rfl:k=s.size:=by omega
  clear hb
  refine⟨fun h1=>?_,fun h1=>?_⟩
  ·have h1:s.size≠0:=of_decide_eq_true h1
   by_cases h2:s.size≤12
   ·have e:decide ((s.size:Int)≤12)=true:=by simpa using(by omega:(s.size:Int)≤12)
    show rsEqv [rB (decide ((s.size:Int)≤12))] _
    rw[e]
    exact name_yes ⟨by omega,h2,hI⟩
   ·have e:decide ((s.size:Int)≤12)=false:=by simpa using(by omega:¬(s.size:Int)≤12)
    show rsEqv [rB (decide ((s.size:Int)≤12))] _
    rw[e]
    exact name_no (fun⟨_,g,_⟩=>h2 g)
  ·have h1:s.size=0:=Decidable.not_not.1 (of_decide_eq_false h1)
   exact name_no (fun⟨g,_,_⟩=>by omega)
def dom104:DomF
 |[.c (.str s)]=>some ([s.size≤1000000],[rB (M.isName s)])
 |_=>none
def v104:Nat×Sm:=(41,fokSm dom104)
theorem C104:FOK Tryz.prog G0 gw 41 dom104:=by
 intro ags p r hd hp κ w xs hw hl hG hx
 unfold dom104 at hd
 split at hd
 ·rename_i s
  simp only[Option.some.injEq,Prod.mk.injEq]at hd
  obtain⟨rfl,rfl⟩:=hd
  exact fokX_fin mixed gw_stable (sl:=[]) trivial Tryz.func41 hw hl hG hx (agsEqv_refl _) rfl (t104 s) (w104 s hp.1)
 ·cases hd
theorem S104:SumOK Tryz.prog G0 gw 41 (fokSm dom104):=fok_sum Tryz.func41 rfl C104
theorem w105(s:ByteArray)(h:s.size≤1000000):(tr105 s).wp (fun rs=>rsEqv rs [rB (M.isName s)]):=by
 unfold tr105
 refine⟨fun h1=>?_,fun h1=>?_⟩
 ·have h1:(s.size:Int)<1:=by simpa using h1
  exact name_no (fun⟨g,_,_⟩=>by omega)
 have h1:¬(s.size:Int)<1:=by simpa using h1
 refine⟨fun h2=>?_,fun h2=>?_⟩
 ·have h2:(s.size:Int)>12:=by simpa using h2
  exact name_no (fun⟨_,g,_⟩=>by omega)
 have h2:¬(s.size:Int)>12:=by simpa using h2
 refine range_wp (n:=s.size) (fun k _=>∀j,j<k→M.OkB j (byteAt s j)) (fun j hj=>by omega) ?_
 rintro k u hk hI
 refine⟨fun hb=>?_,fun hb=>?_⟩
 ·have hlt:=lt_of_dec hb
  refine⟨by omega,by omega,?_⟩
  clear hb
  obtain⟨b,hbb⟩:∃b,byteAt s k=b:=⟨_,rfl⟩
  simp only[hbb]
  repeat' (refine wp_br (fun hh=>?_) (fun hh=>?_))
  all_goals(simp only[decide_eq_true_eq,decide_eq_false_iff_not,bne_iff_ne,ne_eq,beq_iff_eq,Bool.not_eq_true',bne_eq_false_iff_eq,beq_eq_false_iff_ne,Bool.not_eq_false',Int.natCast_eq_zero]at *)
  all_goals first
   |exact loop_name h hlt hI hbb (by unfold M.OkB;omega)
   |exact name_no (fun⟨_,_,g⟩=>by have:=g k hlt;rw[hbb]at this;unfold M.OkB at this;omega)
 ·have hge:=ge_of_dec hb
  obtain rfl:k=s.size:=by omega
  exact name_yes ⟨by omega,by omega,hI⟩
def dom105:DomF
 |[.c (.str s)]=>some ([s.size≤1000000],[rB (M.isName s)])
 |_=>none
theorem C105:FOK Tryz.prog G0 gw 49 dom105:=by
 intro ags p r hd hp κ w xs hw hl hG hx
 unfold dom105 at hd
 split at hd
 ·rename_i s
  simp only[Option.some.injEq,Prod.mk.injEq]at hd
  obtain⟨rfl,rfl⟩:=hd
  exact fokX_fin mixed gw_stable (sl:=[]) trivial Tryz.func49 hw hl hG hx (agsEqv_refl _) rfl (t105 s) (w105 s hp.1)
 ·cases hd
theorem S105:SumOK Tryz.prog G0 gw 49 (fokSm dom105):=fok_sum Tryz.func49 rfl C105
end Go.Bl
end
section
set_option maxRecDepth 100000
namespace Go.Bl
open Go.Gd
open Go.V Go.Proofs
theorem t64(q:Bool)(l:List Int):runFnX Tryz.prog G0 (lookS []) (fun _=>[(2,[.slot 7 (.int .i64)],none)]) [] 1 40 3 42 Tryz.f42 [.c (.sl q l.length 1 (eI.F l))] =
  T.loop (Int×PUnit) ((0:Int),PUnit.unit) fun(x:Int×PUnit)=>T.br (decide (Prod.fst x<(Nat.cast (R:=Int) (List.length l)))) (T.need ((0:Int)≤Prod.fst x) (T.need (Prod.fst x<(Nat.cast (R:=Int) (List.length l))) (T.br (List.getD l (Int.toNat (Prod.fst x)) (0:Int) != (0:Int)) (T.ret (Sum.inr [Ar.c (D.int IntKind.i64 (List.getD l (Int.toNat (Prod.fst x)) (0:Int)))])) (T.ret (Sum.inl (IntKind.wrap IntKind.i64 (Prod.fst x+(1:Int)),PUnit.unit)))))) (T.ret (Sum.inr [Ar.c (D.int IntKind.i64 (0:Int))])):=by kernel_rfl
theorem C64:FOK Tryz.prog G0 gw 42 dom64:=by
 intro ags p r hd hp κ w xs hw hl hG hx
 unfold dom64 at hd
 split at hd
 ·rename_i q len st F
  split at hd
  ·rename_i l hst hls
   simp only[Bool.and_eq_true]at hst
   have h1:=Nat.eq_of_beq_eq_true hst.1
   have h2:=Nat.le_of_ble_eq_true hst.2
   subst h1
   obtain⟨hlen,hF⟩:=intsL_spec hls
   simp only[Option.some.injEq,Prod.mk.injEq]at hd
   obtain⟨rfl,rfl⟩:=hd
   subst hlen
   refine fokX_fin mixed gw_stable (sl:=[]) trivial Tryz.func42 hw hl hG hx (ags':=[.c (.sl q l.length 1 (eI.F l))]) ⟨⟨id,rfl,fun _=>rfl,fun i j hi hj=>?_⟩,trivial⟩ rfl (t64 q l) ?_
   ·obtain rfl:j=0:=by omega
    rw[hF i hi];exact D.eqv_refl _
   ·refine⟨fun x=>0≤x.1∧x.1≤l.length∧M.first l=M.first (l.drop x.1.toNat),fun x=>l.length-x.1.toNat,⟨Int.le_refl _,by simp,by simp⟩,fun x ⟨g1,g2,g3⟩=>?_⟩
    obtain⟨k,u⟩:=x
    simp only at g1 g2 g3
    simp only[T.wp,LoopP,decide_eq_true_eq,decide_eq_false_iff_not,bne_iff_ne,ne_eq,bne_eq_false_iff_eq]
    refine⟨fun hlt=>⟨g1,hlt,fun hne=>?_,fun heq=>?_⟩,fun hge=>?_⟩
    ·have hk:k.toNat<l.length:=by omega
     rw[g3,getD_drop (d:=0) hk]
     have:(l.getD k.toNat 0 != 0)=true:=by simpa using hne
     simp only[M.first,this,cond_true]
     exact rsEqv_refl _
    ·have hk:k.toNat<l.length:=by omega
     rw[wrap_id (by omega) (by omega)]
     refine⟨⟨by omega,by omega,?_⟩,by omega⟩
     rw[g3,getD_drop (d:=0) hk,show(k+1).toNat=k.toNat+1 by omega]
     simp only[M.first]
     rw[heq];rfl
    ·have hk:l.length≤k.toNat:=by omega
     rw[g3,List.drop_of_length_le hk]
     exact rsEqv_refl _
  ·cases hd
 ·cases hd
theorem S64:SumOK Tryz.prog G0 gw 42 (fokSm dom64):=fok_sum Tryz.func42 rfl C64
theorem t80(b:Bool)(e:Int):runFnX Tryz.prog G0 (lookS []) (fun _=>[]) [] 1 40 3 43 Tryz.f43 [.c (.bool b),.c (dI e)] =
  T.br b (T.ret [Ar.c (D.int IntKind.i64 (0:Int))]) (T.ret [Ar.c (D.int IntKind.i64 e)]):=by kernel_rfl
theorem C80:FOK Tryz.prog G0 gw 43 dom80:=by
 intro ags p r hd hp κ w xs hw hl hG hx
 unfold dom80 at hd
 split at hd
 ·rename_i b e
  simp only[Option.some.injEq,Prod.mk.injEq]at hd
  obtain⟨rfl,rfl⟩:=hd
  refine fokX_fin mixed gw_stable (sl:=[]) trivial Tryz.func43 hw hl hG hx (agsEqv_refl _) rfl (t80 b e) ?_
  exact⟨fun h=>by subst h;exact rsEqv_refl _,fun h=>by subst h;exact rsEqv_refl _⟩
 ·cases hd
theorem S80:SumOK Tryz.prog G0 gw 43 (fokSm dom80):=fok_sum Tryz.func43 rfl C80
theorem t102(n lo hi:Int):runFnX Tryz.prog G0 (lookS []) (fun _=>[]) [] 1 40 3 93 Tryz.f93 [.c (dI n),.c (dI lo),.c (dI hi)] =
  T.br (decide (lo≤n)) (T.ret [Ar.c (D.bool (decide (n≤hi)))]) (T.ret [Ar.c (D.bool false)]):=by kernel_rfl
theorem C102:FOK Tryz.prog G0 gw 93 dom102:=by
 intro ags p r hd hp κ w xs hw hl hG hx
 unfold dom102 at hd
 split at hd
 ·rename_i n lo hi
  simp only[Option.some.injEq,Prod.mk.injEq]at hd
  obtain⟨rfl,rfl⟩:=hd
  refine fokX_fin mixed gw_stable (sl:=[]) trivial Tryz.func93 hw hl hG hx (agsEqv_refl _) rfl (t102 n lo hi) ?_
  exact⟨fun h=>by unfold M.within;rw[h];exact rsEqv_refl _,fun h=>by unfold M.within;rw[h];exact rsEqv_refl _⟩
 ·cases hd
theorem S102:SumOK Tryz.prog G0 gw 93 (fokSm dom102):=fok_sum Tryz.func93 rfl C102
end Go.Bl
end
section
set_option maxRecDepth 100000
namespace Go.Bl
open Go.Gd
open Go.V Go.Proofs
def dom95:DomF
 |[.c (.int .i64 n)]=>some ([],[rB (M.within n 0 1000)])
 |_=>none
def v95:Nat×Sm:=(115,fokSm dom95)
def dom101:DomF
 |[.c (.int .i64 n)]=>some ([],[rB (M.within n 0 10000)])
 |_=>none
def v101:Nat×Sm:=(44,fokSm dom101)
namespace M
def allB(is:Int→Bool):List Int→Bool
 |[]=>true
 |n::l=>cond (is n) (allB is l) false
def isValue(n:Int):Bool:=within n 0 1000
end M
def dom103(f:Nat)(is:Int→Bool):DomF
 |[.c (.sl _ len st F),.c (.op (.func (.func g) a b))]=>(match Nat.beq st 1&&Nat.beq g f,a.toList,b.toList with
  |true,[],[]=>some ([eI.Is len F,len≤1000000],[rB (M.allB is (eI.list len F))])
  |_,_,_=>none)
 |_=>none
def v103:Nat×Sm:=(126,fokSm (dom103 115 M.isValue))
end Go.Bl
end
section
set_option maxRecDepth 100000
namespace Go.Bl
open Go.Gd
open Go.V Go.Proofs
theorem t95(n:Int):runFnX Tryz.prog G0 (lookS [v102]) (fun _=>[]) [] 1 40 3 115 Tryz.f115 [.c (dI n)] =
  T.ret [Ar.c (D.bool (M.within n (0:Int) (1000:Int)))]:=by kernel_rfl
theorem C95:FOK Tryz.prog G0 gw 115 dom95:=by
 intro ags p r hd hp κ w xs hw hl hG hx
 unfold dom95 at hd
 split at hd
 ·rename_i n
  simp only[Option.some.injEq,Prod.mk.injEq]at hd
  obtain⟨rfl,rfl⟩:=hd
  refine fokX_fin mixed gw_stable (sl:=[v102]) ⟨S102,trivial⟩ Tryz.func115 hw hl hG hx (agsEqv_refl _) rfl (t95 n) ?_
  exact rsEqv_refl _
 ·cases hd
theorem S95:SumOK Tryz.prog G0 gw 115 (fokSm dom95):=fok_sum Tryz.func115 rfl C95
theorem t101(n:Int):runFnX Tryz.prog G0 (lookS [v102]) (fun _=>[]) [] 1 40 3 44 Tryz.f44 [.c (dI n)] =
  T.ret [Ar.c (D.bool (M.within n (0:Int) (10000:Int)))]:=by kernel_rfl
theorem C101:FOK Tryz.prog G0 gw 44 dom101:=by
 intro ags p r hd hp κ w xs hw hl hG hx
 unfold dom101 at hd
 split at hd
 ·rename_i n
  simp only[Option.some.injEq,Prod.mk.injEq]at hd
  obtain⟨rfl,rfl⟩:=hd
  refine fokX_fin mixed gw_stable (sl:=[v102]) ⟨S102,trivial⟩ Tryz.func44 hw hl hG hx (agsEqv_refl _) rfl (t101 n) ?_
  exact rsEqv_refl _
 ·cases hd
theorem S101:SumOK Tryz.prog G0 gw 44 (fokSm dom101):=fok_sum Tryz.func44 rfl C101
theorem t103(q:Bool)(l:List Int):runFnX Tryz.prog G0 (lookS [v95]) (fun _=>[(2,[.slot 8 (.int .i64)],none)]) [152,196,165] 1 40 6 126 Tryz.f126 [.c (.sl q l.length 1 (eI.F l)),.c (.op (.func (.func 115) #[] #[]))] =
  T.loop (Int×PUnit) ((0:Int),PUnit.unit) fun(x:Int×PUnit)=>T.br (decide (Prod.fst x<(Nat.cast (R:=Int) (List.length l)))) (T.need ((0:Int)≤Prod.fst x) (T.need (Prod.fst x<(Nat.cast (R:=Int) (List.length l))) (T.br (!M.within (List.getD l (Int.toNat (Prod.fst x)) (0:Int)) (0:Int) (1000:Int)) (T.ret (Sum.inr [Ar.c (D.bool !decide (Prod.fst x≥(0:Int)))])) (T.ret (Sum.inl (IntKind.wrap IntKind.i64 (Prod.fst x+(1:Int)),PUnit.unit)))))) (T.ret (Sum.inr [Ar.c (D.bool !decide ((-1:Int)≥(0:Int)))])):=by kernel_rfl
theorem C103:FOK Tryz.prog G0 gw 126 (dom103 115 M.isValue):=by
 intro ags p r hd hp κ w xs hw hl hG hx
 unfold dom103 at hd
 split at hd
 ·rename_i q len st F g a b
  split at hd
  ·rename_i hst ha hb
   simp only[Bool.and_eq_true]at hst
   have h1:=Nat.eq_of_beq_eq_true hst.1
   have h2:=Nat.eq_of_beq_eq_true hst.2
   have ea:a= #[]:=by apply Array.ext';simpa using ha
   have eb:b= #[]:=by apply Array.ext';simpa using hb
   subst h1 h2 ea eb
   simp only[Option.some.injEq,Prod.mk.injEq]at hd
   obtain⟨rfl,rfl⟩:=hd
   obtain⟨hIs,hn,_⟩:=hp
   obtain⟨l,hll⟩:∃l,l=eI.list len F:=⟨_,rfl⟩
   have hlen:len=l.length:=by rw[hll,Enc.list_len]
   have heq:agsEqv [.c (.sl q len 1 F),.c (.op (.func (.func 115) #[] #[]))] [.c (.sl q l.length 1 (eI.F l)),.c (.op (.func (.func 115) #[] #[]))]:=by
    refine⟨?_,Ag.eqv_refl _,trivial⟩
    rw[hll];exact eI.to id hIs
   rw[←hll]
   refine fokX_fin mixed gw_stable (sl:=[v95]) ⟨S95,trivial⟩ Tryz.func126 hw hl hG hx heq rfl (t103 q l) ?_
   clear heq hx hIs hll hl hG
   subst hlen
   refine⟨fun x=>0≤x.1∧x.1≤l.length∧M.allB M.isValue l=M.allB M.isValue (l.drop x.1.toNat),fun x=>l.length-x.1.toNat,⟨Int.le_refl _,by simp,by simp⟩,?_⟩
   rintro ⟨k,u⟩ ⟨g1,g2,g3⟩
   simp only at g1 g2 g3
   refine⟨fun hlt=>?_,fun hge=>?_⟩
   ·have hlt:k<l.length:=by simpa using hlt
    have hk:k.toNat<l.length:=by omega
    have hdrop:M.allB M.isValue l=cond (M.within (l.getD k.toNat 0) 0 1000) (M.allB M.isValue (l.drop (k.toNat+1))) false:=by
     rw[g3,getD_drop (d:=0) hk];rfl
    refine⟨g1,hlt,fun hb=>?_,fun hb=>?_⟩
    ·have hb:M.within (l.getD k.toNat 0) 0 1000=false:=by simpa using hb
     rw[hdrop,hb]
     have hk0:(!decide (k≥0))=false:=by simp[g1]
     show rsEqv [Ar.c (D.bool (!decide (k≥0)))] _
     rw[hk0]
     exact rsEqv_refl _
    ·have hb:M.within (l.getD k.toNat 0) 0 1000=true:=by simpa using hb
     show _∧_
     have e2:IntKind.wrap IntKind.i64 (k+1)=k+1:=wrap_id (by omega) (by omega)
     simp only[e2]
     refine⟨⟨by omega,by omega,?_⟩,by omega⟩
     rw[hdrop,hb,show(k+1).toNat=k.toNat+1 by omega]
     rfl
   ·have hge:¬k<l.length:=by simpa using hge
    rw[g3,List.drop_of_length_le (l:=l) (by omega)]
    exact rsEqv_refl _
  ·cases hd
 ·cases hd
theorem S103:SumOK Tryz.prog G0 gw 126 (fokSm (dom103 115 M.isValue)):=fok_sum Tryz.func126 rfl C103
end Go.Bl
end
section
set_option maxRecDepth 100000
namespace Go.Bl
open Go.Gd
open Go.V Go.Proofs
def cAt(l:List Cask)(x:Int):Cask:=l.getD x.toNat dfC
theorem cAt_nat(l:List Cask)(k:Nat):cAt l (k:Int)=l.getD k dfC:=rfl
def kF(c:Cask):Nat→Nat→D:=fun i j=>List.getD [D.str c.nm,dI c.vol,dI c.cost,dI c.k0,dI c.k1,dI c.k2,dI c.k3] (3+(i+j)) .nilp
namespace M
def same(a b:Cask):Bool:=a.nm.data.toList==b.nm.data.toList
def dup(l:List Cask)(i:Nat):Bool:=(List.range i).any fun j=>same (l.getD j dfC) (l.getD i dfC)
def kindsOk(c:Cask):Bool:=allB isValue [c.k0,c.k1,c.k2,c.k3]
def rightC(c:Cask):Bool:=cond (within c.vol 0 10000) (cond (within c.cost 0 1000) (kindsOk c) false) false
def caskErr(l:List Cask)(i:Nat):Int:=first [unl (isName (l.getD i dfC).nm) 4,unl (!dup l i) 5,unl (rightC (l.getD i dfC)) 2]
def casksFrom(l:List Cask):Nat→Nat→Int×Int
 |0,_=>(0,0)
 |n+1,i=>cond (caskErr l i != 0) ((i:Int),caskErr l i) (casksFrom l n (i+1))
def checkCasks(l:List Cask):Int×Int:=cond (decide (l.length=0)) (0,10) (cond (decide (10<l.length)) (0,8) (casksFrom l l.length 0))
end M
theorem same_eq(a b:Cask):(a.nm.toList==b.nm.toList)=M.same a b:=by unfold M.same;rw[ba_toList,ba_toList]
theorem dup_yes{l:List Cask}{i j:Nat}(hj:j<i)(h:M.same (l.getD j dfC) (l.getD i dfC)=true):M.dup l i=true:=List.any_eq_true.2 ⟨j,List.mem_range.2 hj,h⟩
theorem dup_no{l:List Cask}{i:Nat}(h:∀j,j<i→M.same (l.getD j dfC) (l.getD i dfC)=false):M.dup l i=false:=by
 apply Bool.eq_false_iff.2
 intro e
 obtain⟨j,hj,h'⟩:=List.any_eq_true.1 e
 rw[h j (List.mem_range.1 hj)]at h'
 cases h'
theorem caskErr_eq{l:List Cask}{k:Nat}{a b c:Bool}(h1:M.isName (l.getD k dfC).nm=a)(h2:M.dup l k=b)(h3:M.rightC (l.getD k dfC)=c):M.caskErr l k=M.first [M.unl a 4,M.unl (!b) 5,M.unl c 2]:=by
 unfold M.caskErr;rw[h1,h2,h3]
theorem from_hit{l:List Cask}{n k:Nat}(hk:k<n)(h:M.caskErr l k≠0):M.casksFrom l (n-k) k=((k:Int),M.caskErr l k):=by
 obtain⟨m,hm⟩:∃m,n-k=m+1:=⟨n-k-1,by omega⟩
 rw[hm]
 have:(M.caskErr l k != 0)=true:=bne_iff_ne.2 h
 simp only[M.casksFrom,this,cond_true]
theorem from_next{l:List Cask}{n k:Nat}(hk:k<n)(h:M.caskErr l k=0):M.casksFrom l (n-k) k=M.casksFrom l (n-(k+1)) (k+1):=by
 obtain⟨m,hm⟩:∃m,n-k=m+1:=⟨n-k-1,by omega⟩
 rw[hm,show n-(k+1)=m by omega]
 have:(M.caskErr l k != 0)=false:=by rw[h];rfl
 simp only[M.casksFrom,this,cond_false]
def tr47(l:List Cask):T (List Ar):=
  T.br (M.first [M.unl (decide ((Nat.cast (R:=Int) (List.length l))>(0:Int))) (10:Int),M.unl (decide ((Nat.cast (R:=Int) (List.length l))≤(10:Int))) (8:Int)] != (0:Int)) (T.ret [Ar.c (D.int IntKind.i64 (0:Int)),Ar.c (D.int IntKind.i64 (M.first [M.unl (decide ((Nat.cast (R:=Int) (List.length l))>(0:Int))) (10:Int),M.unl (decide ((Nat.cast (R:=Int) (List.length l))≤(10:Int))) (8:Int)]))]) (T.loop (Int×PUnit) ((0:Int),PUnit.unit) fun(x:Int×PUnit)=>T.br (decide (Prod.fst x<(Nat.cast (R:=Int) (List.length l)))) (T.need ((0:Int)≤Prod.fst x) (T.need (Prod.fst x<(Nat.cast (R:=Int) (List.length l))) (T.need ((0:Int)≤(0:Int)) (T.need ((0:Int)≤Prod.fst x) (T.need (Prod.fst x≤(Nat.cast (R:=Int) (List.length l))) (T.loop (Int×PUnit) ((0:Int),PUnit.unit) fun(x_1:Int×PUnit)=>T.br (decide (Prod.fst x_1<(Nat.cast (R:=Int) (Int.toNat (Prod.fst x-(0:Int)))))) (T.need ((0:Int)≤Prod.fst x_1) (T.need (Prod.fst x_1<(Nat.cast (R:=Int) (Int.toNat (Prod.fst x-(0:Int))))) (T.br (ByteArray.toList (List.getD l (0+Int.toNat (Prod.fst x_1)) dfC).1==ByteArray.toList (cAt l (Prod.fst x)).1) (T.br (M.within (cAt l (Prod.fst x)).2 (0:Int) (10000:Int)) (T.br (M.within (cAt l (Prod.fst x)).3 (0:Int) (1000:Int)) (T.need (Enc.Is eI (4:Nat) (kF (cAt l (Prod.fst x)))) (T.need ((4:Nat)≤(1000000:Nat)) (T.need (ByteArray.size (cAt l (Prod.fst x)).1≤(1000000:Nat)) (T.br (M.first [M.unl (M.isName (cAt l (Prod.fst x)).1) (4:Int),M.unl (!decide (Prod.fst x_1≥(0:Int))) (5:Int),M.unl (M.allB M.isValue (Enc.list eI (4:Nat) (kF (cAt l (Prod.fst x))))) (2:Int)] != (0:Int)) (T.ret (Sum.inr (Sum.inr [Ar.c (D.int IntKind.i64 (Prod.fst x)),Ar.c (D.int IntKind.i64 (M.first [M.unl (M.isName (cAt l (Prod.fst x)).1) (4:Int),M.unl (!decide (Prod.fst x_1≥(0:Int))) (5:Int),M.unl (M.allB M.isValue (Enc.list eI (4:Nat) (kF (cAt l (Prod.fst x))))) (2:Int)]))]))) (T.ret (Sum.inr (Sum.inl (IntKind.wrap IntKind.i64 (Prod.fst x+(1:Int)),PUnit.unit)))))))) (T.need (ByteArray.size (cAt l (Prod.fst x)).1≤(1000000:Nat)) (T.br (M.first [M.unl (M.isName (cAt l (Prod.fst x)).1) (4:Int),M.unl (!decide (Prod.fst x_1≥(0:Int))) (5:Int),(2:Int)] != (0:Int)) (T.ret (Sum.inr (Sum.inr [Ar.c (D.int IntKind.i64 (Prod.fst x)),Ar.c (D.int IntKind.i64 (M.first [M.unl (M.isName (cAt l (Prod.fst x)).1) (4:Int),M.unl (!decide (Prod.fst x_1≥(0:Int))) (5:Int),(2:Int)]))]))) (T.ret (Sum.inr (Sum.inl (IntKind.wrap IntKind.i64 (Prod.fst x+(1:Int)),PUnit.unit))))))) (T.need (ByteArray.size (cAt l (Prod.fst x)).1≤(1000000:Nat)) (T.br (M.first [M.unl (M.isName (cAt l (Prod.fst x)).1) (4:Int),M.unl (!decide (Prod.fst x_1≥(0:Int))) (5:Int),(2:Int)] != (0:Int)) (T.ret (Sum.inr (Sum.inr [Ar.c (D.int IntKind.i64 (Prod.fst x)),Ar.c (D.int IntKind.i64 (M.first [M.unl (M.isName (cAt l (Prod.fst x)).1) (4:Int),M.unl (!decide (Prod.fst x_1≥(0:Int))) (5:Int),(2:Int)]))]))) (T.ret (Sum.inr (Sum.inl (IntKind.wrap IntKind.i64 (Prod.fst x+(1:Int)),PUnit.unit))))))) (T.ret (Sum.inl (IntKind.wrap IntKind.i64 (Prod.fst x_1+(1:Int)),PUnit.unit)))))) (T.br (M.within (cAt l (Prod.fst x)).2 (0:Int) (10000:Int)) (T.br (M.within (cAt l (Prod.fst x)).3 (0:Int) (1000:Int)) (T.need (Enc.Is eI (4:Nat) (kF (cAt l (Prod.fst x)))) (T.need ((4:Nat)≤(1000000:Nat)) (T.need (ByteArray.size (cAt l (Prod.fst x)).1≤(1000000:Nat)) (T.br (M.first [M.unl (M.isName (cAt l (Prod.fst x)).1) (4:Int),(0:Int),M.unl (M.allB M.isValue (Enc.list eI (4:Nat) (kF (cAt l (Prod.fst x))))) (2:Int)] != (0:Int)) (T.ret (Sum.inr (Sum.inr [Ar.c (D.int IntKind.i64 (Prod.fst x)),Ar.c (D.int IntKind.i64 (M.first [M.unl (M.isName (cAt l (Prod.fst x)).1) (4:Int),(0:Int),M.unl (M.allB M.isValue (Enc.list eI (4:Nat) (kF (cAt l (Prod.fst x))))) (2:Int)]))]))) (T.ret (Sum.inr (Sum.inl (IntKind.wrap IntKind.i64 (Prod.fst x+(1:Int)),PUnit.unit)))))))) (T.need (ByteArray.size (cAt l (Prod.fst x)).1≤(1000000:Nat)) (T.br (M.first [M.unl (M.isName (cAt l (Prod.fst x)).1) (4:Int),(0:Int),(2:Int)] != (0:Int)) (T.ret (Sum.inr (Sum.inr [Ar.c (D.int IntKind.i64 (Prod.fst x)),Ar.c (D.int IntKind.i64 (M.first [M.unl (M.isName (cAt l (Prod.fst x)).1) (4:Int),(0:Int),(2:Int)]))]))) (T.ret (Sum.inr (Sum.inl (IntKind.wrap IntKind.i64 (Prod.fst x+(1:Int)),PUnit.unit))))))) (T.need (ByteArray.size (cAt l (Prod.fst x)).1≤(1000000:Nat)) (T.br (M.first [M.unl (M.isName (cAt l (Prod.fst x)).1) (4:Int),(0:Int),(2:Int)] != (0:Int)) (T.ret (Sum.inr (Sum.inr [Ar.c (D.int IntKind.i64 (Prod.fst x)),Ar.c (D.int IntKind.i64 (M.first [M.unl (M.isName (cAt l (Prod.fst x)).1) (4:Int),(0:Int),(2:Int)]))]))) (T.ret (Sum.inr (Sum.inl (IntKind.wrap IntKind.i64 (Prod.fst x+(1:Int)),PUnit.unit))))))))))))) (T.ret (Sum.inr [Ar.c (D.int IntKind.i64 (0:Int)),Ar.c (D.int IntKind.i64 (0:Int))])))
theorem t47(q:Bool)(l:List Cask):runFnX Tryz.prog G0 (lookS [v64,v80,v101,v102,v103,v104]) (fun f=>match Nat.beq f 73,Nat.beq f 164 with|true,_=>[(5,[.slot 25 (.int .i64)],none)]|_,true=>[(2,[.slot 8 (.int .i64)],none)]|_,_=>[]) [124,164,125] 1 40 6 73 Tryz.f73 [.c (.sl q l.length 7 (eC.F l))] =
  tr47 l:=by kernel_rfl
abbrev resP(x:Int×Int):List Ar:=[rI x.1,rI x.2]
theorem rest47{l:List Cask}{k:Nat}(hk:k<l.length)(hn:∀c,c∈l→c.nm.size≤1000000){b:Bool}(hdup:M.dup l k=b){α:Type}{Q:α→Prop}{yes:Int→α}{no:α}
  (hyes:M.caskErr l k≠0→Q (yes (M.caskErr l k))) (hno:M.caskErr l k=0→Q no) :
  (T.br (M.within (cAt l k).vol 0 10000) (T.br (M.within (cAt l k).cost 0 1000) (T.need (Enc.Is eI 4 (kF (cAt l k))) (T.need ((4:Nat)≤1000000) (T.need ((cAt l k).nm.size≤1000000)
    (T.br (M.first [M.unl (M.isName (cAt l k).nm) 4,M.unl (!b) 5,M.unl (M.allB M.isValue (eI.list 4 (kF (cAt l k)))) 2] != 0) (.ret (yes (M.first [M.unl (M.isName (cAt l k).nm) 4,M.unl (!b) 5,M.unl (M.allB M.isValue (eI.list 4 (kF (cAt l k)))) 2]))) (.ret no)))))
   (T.need ((cAt l k).nm.size≤1000000) (T.br (M.first [M.unl (M.isName (cAt l k).nm) 4,M.unl (!b) 5,2] != 0) (.ret (yes (M.first [M.unl (M.isName (cAt l k).nm) 4,M.unl (!b) 5,2]))) (.ret no))))
   (T.need ((cAt l k).nm.size≤1000000) (T.br (M.first [M.unl (M.isName (cAt l k).nm) 4,M.unl (!b) 5,2] != 0) (.ret (yes (M.first [M.unl (M.isName (cAt l k).nm) 4,M.unl (!b) 5,2]))) (.ret no)))).wp Q:=by
 have hs:(cAt l k).nm.size≤1000000:=hn _ (by rw[cAt_nat,List.getD_eq_getElem?_getD,List.getElem?_eq_getElem hk];exact List.getElem_mem hk)
 have fin:∀e:Int,M.caskErr l k=e→(T.br (e != 0) (.ret (yes e)) (.ret no):T α).wp Q:=by
  intro e he
  refine wp_br (fun h=>?_) (fun h=>?_)
  ·rw[←he]at h ⊢;exact hyes (bne_iff_ne.1 h)
  ·rw[←he]at h;exact hno (by simpa using h)
 refine wp_br (fun h1=>wp_br (fun h2=>⟨?_,by decide,hs,?_⟩) (fun h2=>⟨hs,?_⟩)) (fun h1=>⟨hs,?_⟩)
 ·intro i j hi hj
  obtain rfl:j=0:=Nat.lt_one_iff.1 hj
  match i,hi with
  |0,_=>exact D.eqv_refl _
  |1,_=>exact D.eqv_refl _
  |2,_=>exact D.eqv_refl _
  |3,_=>exact D.eqv_refl _
 ·refine fin _ (caskErr_eq rfl hdup ?_)
  unfold M.rightC
  rw[cAt_nat]at h1 h2
  rw[h1,h2];rfl
 ·refine fin _ (caskErr_eq (c:=false) rfl hdup ?_)
  unfold M.rightC
  rw[cAt_nat]at h1 h2
  rw[h1,h2];rfl
 ·refine fin _ (caskErr_eq (c:=false) rfl hdup ?_)
  unfold M.rightC
  rw[cAt_nat]at h1
  rw[h1];rfl
theorem w47(l:List Cask)(hn:∀c,c∈l→c.nm.size≤1000000):(tr47 l).wp (fun rs=>rsEqv rs (resP (M.checkCasks l))):=by
 unfold tr47
 refine wp_br (fun hb=>?_) (fun hb=>?_)
 ·have:M.checkCasks l=(0,M.first [M.unl (decide ((l.length:Int)>0)) 10,M.unl (decide ((l.length:Int)≤10)) 8]):=by
   unfold M.checkCasks
   by_cases h0:l.length=0
   ·rw[h0];rfl
   ·by_cases h1:10<l.length
    ·rw[decide_eq_false h0,decide_eq_true h1,decide_eq_true (by omega:(l.length:Int)>0),decide_eq_false (by omega:¬(l.length:Int)≤10)];rfl
    ·rw[decide_eq_true (by omega:(l.length:Int)>0),decide_eq_true (by omega:(l.length:Int)≤10)]at hb
     cases hb
  rw[this];exact rsEqv_refl _
 ·have h0:¬l.length=0:=by
   intro h0
   rw[h0]at hb;cases hb
  have h10:¬10<l.length:=by
   intro h1
   rw[decide_eq_true (by omega:(l.length:Int)>0),decide_eq_false (by omega:¬(l.length:Int)≤10)]at hb
   cases hb
  have hchk:M.checkCasks l=M.casksFrom l (l.length-0) 0:=by
   unfold M.checkCasks
   rw[decide_eq_false h0,decide_eq_false h10];rfl
  rw[hchk]
  refine range_wp (n:=l.length) (fun k _=>M.casksFrom l (l.length-0) 0=M.casksFrom l (l.length-k) k) rfl ?_
  rintro k u hk hI
  refine wp_br (fun hb=>?_) (fun hb=>?_)
  ·have hlt:=lt_of_dec hb
   refine⟨by show(0:Int)≤k;omega,by show(k:Int)<l.length;omega,Int.le_refl _,by show(0:Int)≤k;omega,by show(k:Int)≤l.length;omega,?_⟩
   have hyes:∀(b:Bool),M.caskErr l k≠0→rsEqv [Ar.c (dI k),Ar.c (dI (M.caskErr l k))] (resP (M.casksFrom l (l.length-0) 0)):=by
    intro _ h
    rw[hI,from_hit hlt h]
    exact rsEqv_refl _
   have hno:M.caskErr l k=0→k<l.length∧IntKind.i64.wrap ((k:Int)+1)=((k+1:Nat):Int)∧M.casksFrom l (l.length-0) 0=M.casksFrom l (l.length-(k+1)) (k+1):=fun h=>⟨hlt,wrap_succ (by omega),hI.trans (from_next hlt h)⟩
   refine range_wp (n:=k) (fun j _=>∀i,i<j→M.same (l.getD i dfC) (l.getD k dfC)=false) (fun i hi=>by omega) ?_
   rintro j u hj hJ
   have hkk:(Int.toNat ((k:Int)-0))=k:=by omega
   simp only[hkk]
   refine wp_br (fun hb=>?_) (fun hb=>?_)
   ·have hjlt:=lt_of_dec hb
    refine⟨by omega,by omega,?_⟩
    refine wp_br (fun hs=>?_) (fun hs=>?_)
    ·have hs:M.same (l.getD j dfC) (l.getD k dfC)=true:=by rw[Nat.zero_add]at hs;rw[←same_eq];exact hs
     have e:(!decide ((j:Int)≥0))= !true:=by rw[decide_eq_true (by omega)]
     simp only[e]
     exact rest47 (yes:=fun e=>Sum.inr (Sum.inr [Ar.c (dI k),Ar.c (dI e)])) hlt hn (dup_yes hjlt hs) (fun h=>hyes true h) hno
    ·have hs:M.same (l.getD j dfC) (l.getD k dfC)=false:=by rw[Nat.zero_add]at hs;rw[←same_eq];exact hs
     refine⟨hjlt,wrap_succ (by omega),fun i hi=>?_⟩
     rcases Nat.lt_or_ge i j with h|h
     ·exact hJ i h
     ·obtain rfl:i=j:=by omega
      exact hs
   ·have hge:=ge_of_dec hb
    obtain rfl:j=k:=by omega
    exact rest47 (b:=decide ((-1:Int)≥0)) (yes:=fun e=>Sum.inr (Sum.inr [Ar.c (dI j),Ar.c (dI e)])) hlt hn (dup_no hJ) (fun h=>hyes true h) hno
  ·have hge:=ge_of_dec hb
   obtain rfl:k=l.length:=by omega
   show rsEqv _ _
   rw[hI,Nat.sub_self]
   exact rsEqv_refl _
def dom47:DomF
 |[.c (.sl _ n st F)]=>(match Nat.beq st 7 with
  |true=>some ([eC.Is n F,∀c,c∈eC.list n F→c.nm.size≤1000000],resP (M.checkCasks (eC.list n F)))
  |_=>none)
 |_=>none
def v47:Nat×Sm:=(73,fokSm dom47)
theorem C47:FOK Tryz.prog G0 gw 73 dom47:=by
 intro ags p r hd hp κ w xs hw hl hG hx
 unfold dom47 at hd
 split at hd
 ·rename_i q n st F
  split at hd
  ·rename_i hst
   have g1:=Nat.eq_of_beq_eq_true hst
   subst g1
   simp only[Option.some.injEq,Prod.mk.injEq]at hd
   obtain⟨rfl,rfl⟩:=hd
   obtain⟨hC,hn,_⟩:=hp
   have heq:agsEqv [.c (.sl q n 7 F)] [.c (.sl q (eC.list n F).length 7 (eC.F (eC.list n F)))]:=⟨eC.to id hC,trivial⟩
   exact fokX_fin mixed gw_stable (sl:=[v64,v80,v101,v102,v103,v104]) ⟨S64,S80,S101,S102,S103,S104,trivial⟩ Tryz.func73 hw hl hG hx heq rfl (t47 q _) (w47 _ hn)
  ·cases hd
 ·cases hd
theorem S47:SumOK Tryz.prog G0 gw 73 (fokSm dom47):=fok_sum Tryz.func73 rfl C47
end Go.Bl
end
section
set_option maxRecDepth 100000
namespace Go.Bl
open Go.Gd
open Go.V Go.Proofs
structure Wts where
 den:Int
 each:Int
 x0:Int
 x1:Int
 x2:Int
 x3:Int
 y0:Int
 y1:Int
 y2:Int
 y3:Int
 casks:List Int
namespace M
def wStep(w:Wts)(c:Cond)(b:Int):Wts:=
 cond (c.kind==1) {w with casks:=w.casks.set c.which.toNat b}
  (cond (c.kind==2) {w with x0:=if c.which.toNat=0 then b else w.x0,x1:=if c.which.toNat=1 then b else w.x1,x2:=if c.which.toNat=2 then b else w.x2,x3:=if c.which.toNat=3 then b else w.x3}
   (cond (c.kind==3) {w with y0:=if c.which.toNat=0 then b else w.y0,y1:=if c.which.toNat=1 then b else w.y1,y2:=if c.which.toNat=2 then b else w.y2,y3:=if c.which.toNat=3 then b else w.y3} w))
def weights(wd each:Int)(ti:List Cond)(by_:List Int)(n:Nat):Wts:=
 (List.range ti.length).foldl (fun w i=>wStep w (ti.getD i ⟨0,0,[],0⟩) (by_.getD i 0)) ⟨wd,each,0,0,0,0,0,0,0,0,List.replicate n 0⟩
end M
def resW(w:Wts):Ar:=.agg [dI w.den,dI w.each,dI w.x0,dI w.x1,dI w.x2,dI w.x3,dI w.y0,dI w.y1,dI w.y2,dI w.y3,dL w.casks]
abbrev WS:=Int×Int×Int×Int×Int×Int×Int×Int×Int×Int×List Int×PUnit
def wS(w:Wts):WS:=(w.den,w.each,w.x0,w.x1,w.x2,w.x3,w.y0,w.y1,w.y2,w.y3,w.casks,PUnit.unit)
theorem put_int{l:List Int}{i:Nat}{b:Int}(hi:i<l.length):eI.Is l.length (putF i 0 1 [dI b] (eI.F l))∧eI.list l.length (putF i 0 1 [dI b] (eI.F l))=l.set i b:=by
 have key:∀k,putF i 0 1 [dI b] (eI.F l) k 0=dI ((l.set i b).getD k 0):=by
  intro k
  unfold putF
  by_cases h:k=i
  ·subst h
   have:(Nat.beq k k&&(Nat.ble 0 0&&Nat.blt 0 (0+1)))=true:=by simp
   rw[this]
   simp[hi]
  ·have:Nat.beq k i=false:=by rw[←Bool.not_eq_true,Nat.beq_eq];exact h
   rw[this,Bool.false_and]
   show dI (l.getD k 0)=_
   simp only[List.getD_eq_getElem?_getD,List.getElem?_set_ne (Ne.symm h)]
 refine Enc.is_of eI (by simp) (fun k j hk hj=>?_) (fun k hk=>?_)
 ·obtain rfl:j=0:=Nat.lt_one_iff.1 hj
  exact key k
 ·show rdI (putF i 0 1 [dI b] (eI.F l) k) 0=_
  unfold rdI
  rw[key k]
  rfl
theorem zeros_int(n:Nat):eI.Is n (fun(x j:Nat)=>List.getD [D.int IntKind.i64 (0:Int)] j D.nilp)∧eI.list n (fun(x j:Nat)=>List.getD [D.int IntKind.i64 (0:Int)] j D.nilp)=List.replicate n 0:=by
 refine Enc.is_of eI (by simp) (fun k j hk hj=>?_) (fun k hk=>?_)
 ·obtain rfl:j=0:=Nat.lt_one_iff.1 hj
  show dI 0=dI ((List.replicate n (0:Int)).getD k 0)
  simp[hk]
 ·show(0:Int)=(List.replicate n (0:Int)).getD k 0
  simp[hk]
def tiAt(ti:List Cond)(x:Int):Cond:=List.getD ti x.toNat ⟨0,0,[],0⟩
def tr69(den wd each n:Int)(pt by_:List Int)(ti:List Cond):T (List Ar):=
  T.need ((0:Int)≤n) (T.need (n≤n) (T.need (n≤(1000000:Int)) (T.need (Enc.Is eI (Int.toNat n) fun(x j:Nat)=>List.getD [D.int IntKind.i64 (0:Int)] j D.nilp) (T.need (Int.toNat n≤Int.toNat n) (T.loop (Int×Int×Int×Int×Int×Int×Int×Int×Int×Int×Int×List Int×PUnit) ((0:Int),wd,each,(0:Int),(0:Int),(0:Int),(0:Int),(0:Int),(0:Int),(0:Int),(0:Int),Enc.list eI (Int.toNat n) fun(x j:Nat)=>List.getD [D.int IntKind.i64 (0:Int)] j D.nilp,PUnit.unit) fun(x:Int×Int×Int×Int×Int×Int×Int×Int×Int×Int×Int×List Int×PUnit)=>T.br (decide (Prod.fst x<(Nat.cast (R:=Int) (List.length ti)))) (T.need ((0:Int)≤Prod.fst x) (T.need (Prod.fst x<(Nat.cast (R:=Int) (List.length ti))) (T.br ((tiAt ti (Prod.fst x)).1==(1:Int)) (T.need ((0:Int)≤Prod.fst x) (T.need (Prod.fst x<(Nat.cast (R:=Int) (List.length by_))) (T.need ((0:Int)≤(tiAt ti (Prod.fst x)).2) (T.need ((tiAt ti (Prod.fst x)).2<(Nat.cast (R:=Int) (List.length (Prod.fst (Prod.snd (Prod.snd (Prod.snd (Prod.snd (Prod.snd (Prod.snd (Prod.snd (Prod.snd (Prod.snd (Prod.snd (Prod.snd x))))))))))))))) (T.need (Int.toNat (tiAt ti (Prod.fst x)).2<List.length (Prod.fst (Prod.snd (Prod.snd (Prod.snd (Prod.snd (Prod.snd (Prod.snd (Prod.snd (Prod.snd (Prod.snd (Prod.snd (Prod.snd x))))))))))))) (T.need (Enc.Is eI (List.length (Prod.fst (Prod.snd (Prod.snd (Prod.snd (Prod.snd (Prod.snd (Prod.snd (Prod.snd (Prod.snd (Prod.snd (Prod.snd (Prod.snd x))))))))))))) (putF (Int.toNat (tiAt ti (Prod.fst x)).2) (0:Nat) (1:Nat) [D.int IntKind.i64 (List.getD by_ (Int.toNat (Prod.fst x)) (0:Int))] (Enc.F eI (Prod.fst (Prod.snd (Prod.snd (Prod.snd (Prod.snd (Prod.snd (Prod.snd (Prod.snd (Prod.snd (Prod.snd (Prod.snd (Prod.snd x))))))))))))))) (T.need (List.length (Prod.fst (Prod.snd (Prod.snd (Prod.snd (Prod.snd (Prod.snd (Prod.snd (Prod.snd (Prod.snd (Prod.snd (Prod.snd (Prod.snd x))))))))))))≤List.length (Prod.fst (Prod.snd (Prod.snd (Prod.snd (Prod.snd (Prod.snd (Prod.snd (Prod.snd (Prod.snd (Prod.snd (Prod.snd (Prod.snd x))))))))))))) (T.ret (Sum.inl (IntKind.wrap IntKind.i64 (Prod.fst x+(1:Int)),Prod.fst (Prod.snd x),Prod.fst (Prod.snd (Prod.snd x)),Prod.fst (Prod.snd (Prod.snd (Prod.snd x))),Prod.fst (Prod.snd (Prod.snd (Prod.snd (Prod.snd x)))),Prod.fst (Prod.snd (Prod.snd (Prod.snd (Prod.snd (Prod.snd x))))),Prod.fst (Prod.snd (Prod.snd (Prod.snd (Prod.snd (Prod.snd (Prod.snd x)))))),Prod.fst (Prod.snd (Prod.snd (Prod.snd (Prod.snd (Prod.snd (Prod.snd (Prod.snd x))))))),Prod.fst (Prod.snd (Prod.snd (Prod.snd (Prod.snd (Prod.snd (Prod.snd (Prod.snd (Prod.snd x)))))))),Prod.fst (Prod.snd (Prod.snd (Prod.snd (Prod.snd (Prod.snd (Prod.snd (Prod.snd (Prod.snd (Prod.snd x))))))))),Prod.fst (Prod.snd (Prod.snd (Prod.snd (Prod.snd (Prod.snd (Prod.snd (Prod.snd (Prod.snd (Prod.snd (Prod.snd x)))))))))),Enc.list eI (List.length (Prod.fst (Prod.snd (Prod.snd (Prod.snd (Prod.snd (Prod.snd (Prod.snd (Prod.snd (Prod.snd (Prod.snd (Prod.snd (Prod.snd x))))))))))))) (putF (Int.toNat (tiAt ti (Prod.fst x)).2) (0:Nat) (1:Nat) [D.int IntKind.i64 (List.getD by_ (Int.toNat (Prod.fst x)) (0:Int))] (Enc.F eI (Prod.fst (Prod.snd (Prod.snd (Prod.snd (Prod.snd (Prod.snd (Prod.snd (Prod.snd (Prod.snd (Prod.snd (Prod.snd (Prod.snd x)))))))))))))),PUnit.unit)))))))))) (T.br ((tiAt ti (Prod.fst x)).1==(2:Int)) (T.need ((0:Int)≤Prod.fst x) (T.need (Prod.fst x<(Nat.cast (R:=Int) (List.length by_))) (T.need ((0:Int)≤(tiAt ti (Prod.fst x)).2) (T.need ((tiAt ti (Prod.fst x)).2<(4:Int)) (T.need (Int.toNat (tiAt ti (Prod.fst x)).2≠(8:Nat)) (T.need (Int.toNat (tiAt ti (Prod.fst x)).2<(9:Nat)) (T.need (Enc.Is eI (List.length (Prod.fst (Prod.snd (Prod.snd (Prod.snd (Prod.snd (Prod.snd (Prod.snd (Prod.snd (Prod.snd (Prod.snd (Prod.snd (Prod.snd x))))))))))))) (Enc.F eI (Prod.fst (Prod.snd (Prod.snd (Prod.snd (Prod.snd (Prod.snd (Prod.snd (Prod.snd (Prod.snd (Prod.snd (Prod.snd (Prod.snd x)))))))))))))) (T.need (List.length (Prod.fst (Prod.snd (Prod.snd (Prod.snd (Prod.snd (Prod.snd (Prod.snd (Prod.snd (Prod.snd (Prod.snd (Prod.snd (Prod.snd x))))))))))))≤List.length (Prod.fst (Prod.snd (Prod.snd (Prod.snd (Prod.snd (Prod.snd (Prod.snd (Prod.snd (Prod.snd (Prod.snd (Prod.snd (Prod.snd x))))))))))))) (T.ret (Sum.inl (IntKind.wrap IntKind.i64 (Prod.fst x+(1:Int)),Prod.fst (Prod.snd x),Prod.fst (Prod.snd (Prod.snd x)),if Int.toNat (tiAt ti (Prod.fst x)).2=(0:Nat)then List.getD by_ (Int.toNat (Prod.fst x)) (0:Int)else Prod.fst (Prod.snd (Prod.snd (Prod.snd x))),if Int.toNat (tiAt ti (Prod.fst x)).2=(1:Nat)then List.getD by_ (Int.toNat (Prod.fst x)) (0:Int)else Prod.fst (Prod.snd (Prod.snd (Prod.snd (Prod.snd x)))),if Int.toNat (tiAt ti (Prod.fst x)).2=(2:Nat)then List.getD by_ (Int.toNat (Prod.fst x)) (0:Int)else Prod.fst (Prod.snd (Prod.snd (Prod.snd (Prod.snd (Prod.snd x))))),if Int.toNat (tiAt ti (Prod.fst x)).2=(3:Nat)then List.getD by_ (Int.toNat (Prod.fst x)) (0:Int)else Prod.fst (Prod.snd (Prod.snd (Prod.snd (Prod.snd (Prod.snd (Prod.snd x)))))),if Int.toNat (tiAt ti (Prod.fst x)).2=(4:Nat)then List.getD by_ (Int.toNat (Prod.fst x)) (0:Int)else Prod.fst (Prod.snd (Prod.snd (Prod.snd (Prod.snd (Prod.snd (Prod.snd (Prod.snd x))))))),if Int.toNat (tiAt ti (Prod.fst x)).2=(5:Nat)then List.getD by_ (Int.toNat (Prod.fst x)) (0:Int)else Prod.fst (Prod.snd (Prod.snd (Prod.snd (Prod.snd (Prod.snd (Prod.snd (Prod.snd (Prod.snd x)))))))),if Int.toNat (tiAt ti (Prod.fst x)).2=(6:Nat)then List.getD by_ (Int.toNat (Prod.fst x)) (0:Int)else Prod.fst (Prod.snd (Prod.snd (Prod.snd (Prod.snd (Prod.snd (Prod.snd (Prod.snd (Prod.snd (Prod.snd x))))))))),if Int.toNat (tiAt ti (Prod.fst x)).2=(7:Nat)then List.getD by_ (Int.toNat (Prod.fst x)) (0:Int)else Prod.fst (Prod.snd (Prod.snd (Prod.snd (Prod.snd (Prod.snd (Prod.snd (Prod.snd (Prod.snd (Prod.snd (Prod.snd x)))))))))),Enc.list eI (List.length (Prod.fst (Prod.snd (Prod.snd (Prod.snd (Prod.snd (Prod.snd (Prod.snd (Prod.snd (Prod.snd (Prod.snd (Prod.snd (Prod.snd x))))))))))))) (Enc.F eI (Prod.fst (Prod.snd (Prod.snd (Prod.snd (Prod.snd (Prod.snd (Prod.snd (Prod.snd (Prod.snd (Prod.snd (Prod.snd (Prod.snd x))))))))))))),PUnit.unit))))))))))) (T.br ((tiAt ti (Prod.fst x)).1==(3:Int)) (T.need ((0:Int)≤Prod.fst x) (T.need (Prod.fst x<(Nat.cast (R:=Int) (List.length by_))) (T.need ((0:Int)≤(tiAt ti (Prod.fst x)).2) (T.need ((tiAt ti (Prod.fst x)).2<(4:Int)) (T.need (Int.toNat (tiAt ti (Prod.fst x)).2≠(4:Nat)) (T.need (Int.toNat (tiAt ti (Prod.fst x)).2<(5:Nat)) (T.need (Enc.Is eI (List.length (Prod.fst (Prod.snd (Prod.snd (Prod.snd (Prod.snd (Prod.snd (Prod.snd (Prod.snd (Prod.snd (Prod.snd (Prod.snd (Prod.snd x))))))))))))) (Enc.F eI (Prod.fst (Prod.snd (Prod.snd (Prod.snd (Prod.snd (Prod.snd (Prod.snd (Prod.snd (Prod.snd (Prod.snd (Prod.snd (Prod.snd x)))))))))))))) (T.need (List.length (Prod.fst (Prod.snd (Prod.snd (Prod.snd (Prod.snd (Prod.snd (Prod.snd (Prod.snd (Prod.snd (Prod.snd (Prod.snd (Prod.snd x))))))))))))≤List.length (Prod.fst (Prod.snd (Prod.snd (Prod.snd (Prod.snd (Prod.snd (Prod.snd (Prod.snd (Prod.snd (Prod.snd (Prod.snd (Prod.snd x))))))))))))) (T.ret (Sum.inl (IntKind.wrap IntKind.i64 (Prod.fst x+(1:Int)),Prod.fst (Prod.snd x),Prod.fst (Prod.snd (Prod.snd x)),Prod.fst (Prod.snd (Prod.snd (Prod.snd x))),Prod.fst (Prod.snd (Prod.snd (Prod.snd (Prod.snd x)))),Prod.fst (Prod.snd (Prod.snd (Prod.snd (Prod.snd (Prod.snd x))))),Prod.fst (Prod.snd (Prod.snd (Prod.snd (Prod.snd (Prod.snd (Prod.snd x)))))),if Int.toNat (tiAt ti (Prod.fst x)).2=(0:Nat)then List.getD by_ (Int.toNat (Prod.fst x)) (0:Int)else Prod.fst (Prod.snd (Prod.snd (Prod.snd (Prod.snd (Prod.snd (Prod.snd (Prod.snd x))))))),if Int.toNat (tiAt ti (Prod.fst x)).2=(1:Nat)then List.getD by_ (Int.toNat (Prod.fst x)) (0:Int)else Prod.fst (Prod.snd (Prod.snd (Prod.snd (Prod.snd (Prod.snd (Prod.snd (Prod.snd (Prod.snd x)))))))),if Int.toNat (tiAt ti (Prod.fst x)).2=(2:Nat)then List.getD by_ (Int.toNat (Prod.fst x)) (0:Int)else Prod.fst (Prod.snd (Prod.snd (Prod.snd (Prod.snd (Prod.snd (Prod.snd (Prod.snd (Prod.snd (Prod.snd x))))))))),if Int.toNat (tiAt ti (Prod.fst x)).2=(3:Nat)then List.getD by_ (Int.toNat (Prod.fst x)) (0:Int)else Prod.fst (Prod.snd (Prod.snd (Prod.snd (Prod.snd (Prod.snd (Prod.snd (Prod.snd (Prod.snd (Prod.snd (Prod.snd x)))))))))),Enc.list eI (List.length (Prod.fst (Prod.snd (Prod.snd (Prod.snd (Prod.snd (Prod.snd (Prod.snd (Prod.snd (Prod.snd (Prod.snd (Prod.snd (Prod.snd x))))))))))))) (Enc.F eI (Prod.fst (Prod.snd (Prod.snd (Prod.snd (Prod.snd (Prod.snd (Prod.snd (Prod.snd (Prod.snd (Prod.snd (Prod.snd (Prod.snd x))))))))))))),PUnit.unit))))))))))) (T.need (Enc.Is eI (List.length (Prod.fst (Prod.snd (Prod.snd (Prod.snd (Prod.snd (Prod.snd (Prod.snd (Prod.snd (Prod.snd (Prod.snd (Prod.snd (Prod.snd x))))))))))))) (Enc.F eI (Prod.fst (Prod.snd (Prod.snd (Prod.snd (Prod.snd (Prod.snd (Prod.snd (Prod.snd (Prod.snd (Prod.snd (Prod.snd (Prod.snd x)))))))))))))) (T.need (List.length (Prod.fst (Prod.snd (Prod.snd (Prod.snd (Prod.snd (Prod.snd (Prod.snd (Prod.snd (Prod.snd (Prod.snd (Prod.snd (Prod.snd x))))))))))))≤List.length (Prod.fst (Prod.snd (Prod.snd (Prod.snd (Prod.snd (Prod.snd (Prod.snd (Prod.snd (Prod.snd (Prod.snd (Prod.snd (Prod.snd x))))))))))))) (T.ret (Sum.inl (IntKind.wrap IntKind.i64 (Prod.fst x+(1:Int)),Prod.fst (Prod.snd x),Prod.fst (Prod.snd (Prod.snd x)),Prod.fst (Prod.snd (Prod.snd (Prod.snd x))),Prod.fst (Prod.snd (Prod.snd (Prod.snd (Prod.snd x)))),Prod.fst (Prod.snd (Prod.snd (Prod.snd (Prod.snd (Prod.snd x))))),Prod.fst (Prod.snd (Prod.snd (Prod.snd (Prod.snd (Prod.snd (Prod.snd x)))))),Prod.fst (Prod.snd (Prod.snd (Prod.snd (Prod.snd (Prod.snd (Prod.snd (Prod.snd x))))))),Prod.fst (Prod.snd (Prod.snd (Prod.snd (Prod.snd (Prod.snd (Prod.snd (Prod.snd (Prod.snd x)))))))),Prod.fst (Prod.snd (Prod.snd (Prod.snd (Prod.snd (Prod.snd (Prod.snd (Prod.snd (Prod.snd (Prod.snd x))))))))),Prod.fst (Prod.snd (Prod.snd (Prod.snd (Prod.snd (Prod.snd (Prod.snd (Prod.snd (Prod.snd (Prod.snd (Prod.snd x)))))))))),Enc.list eI (List.length (Prod.fst (Prod.snd (Prod.snd (Prod.snd (Prod.snd (Prod.snd (Prod.snd (Prod.snd (Prod.snd (Prod.snd (Prod.snd (Prod.snd x))))))))))))) (Enc.F eI (Prod.fst (Prod.snd (Prod.snd (Prod.snd (Prod.snd (Prod.snd (Prod.snd (Prod.snd (Prod.snd (Prod.snd (Prod.snd (Prod.snd x))))))))))))),PUnit.unit)))))))))) (T.need (List.length (Prod.fst (Prod.snd (Prod.snd (Prod.snd (Prod.snd (Prod.snd (Prod.snd (Prod.snd (Prod.snd (Prod.snd (Prod.snd (Prod.snd x))))))))))))≤List.length (Prod.fst (Prod.snd (Prod.snd (Prod.snd (Prod.snd (Prod.snd (Prod.snd (Prod.snd (Prod.snd (Prod.snd (Prod.snd (Prod.snd x))))))))))))) (T.ret (Sum.inr [Ar.agg [D.int IntKind.i64 (Prod.fst (Prod.snd x)),D.int IntKind.i64 (Prod.fst (Prod.snd (Prod.snd x))),D.int IntKind.i64 (Prod.fst (Prod.snd (Prod.snd (Prod.snd x)))),D.int IntKind.i64 (Prod.fst (Prod.snd (Prod.snd (Prod.snd (Prod.snd x))))),D.int IntKind.i64 (Prod.fst (Prod.snd (Prod.snd (Prod.snd (Prod.snd (Prod.snd x)))))),D.int IntKind.i64 (Prod.fst (Prod.snd (Prod.snd (Prod.snd (Prod.snd (Prod.snd (Prod.snd x))))))),D.int IntKind.i64 (Prod.fst (Prod.snd (Prod.snd (Prod.snd (Prod.snd (Prod.snd (Prod.snd (Prod.snd x)))))))),D.int IntKind.i64 (Prod.fst (Prod.snd (Prod.snd (Prod.snd (Prod.snd (Prod.snd (Prod.snd (Prod.snd (Prod.snd x))))))))),D.int IntKind.i64 (Prod.fst (Prod.snd (Prod.snd (Prod.snd (Prod.snd (Prod.snd (Prod.snd (Prod.snd (Prod.snd (Prod.snd x)))))))))),D.int IntKind.i64 (Prod.fst (Prod.snd (Prod.snd (Prod.snd (Prod.snd (Prod.snd (Prod.snd (Prod.snd (Prod.snd (Prod.snd (Prod.snd x))))))))))),D.sl true (List.length (Prod.fst (Prod.snd (Prod.snd (Prod.snd (Prod.snd (Prod.snd (Prod.snd (Prod.snd (Prod.snd (Prod.snd (Prod.snd (Prod.snd x))))))))))))) (1:Nat) (Enc.F eI (Prod.fst (Prod.snd (Prod.snd (Prod.snd (Prod.snd (Prod.snd (Prod.snd (Prod.snd (Prod.snd (Prod.snd (Prod.snd (Prod.snd x)))))))))))))]]))))))))
theorem t69(q0 q1 q2:Bool)(den wd each n:Int)(k0 s0:Nat)(F0:Nat→Nat→D)(by_:List Int)(ti:List Cond):runFnX Tryz.prog G0 (lookS []) (fun _=>[(3,[.slot 18 (.int .i64),.blk 5 [.int .i64,.int .i64,.int .i64,.int .i64,.int .i64,.int .i64,.int .i64,.int .i64,.int .i64,.int .i64,.rowE 3 eI]],none)]) [] 1 40 3 67 Tryz.f67 [.agg [dI den,dI wd,.sl q0 k0 s0 F0,dI each,.sl q1 ti.length 4 (eK.F ti),.sl q2 by_.length 1 (eI.F by_)],.c (dI n)] =
  tr69 den wd each n [] by_ ti:=by kernel_rfl
def WhichOK(n:Int)(ti:List Cond):Prop:=∀c,c∈ti→0≤c.which∧(c.kind=1→c.which<n)∧(c.kind≠1→c.kind≠0→c.which<4)
theorem w_len(n:Nat)(ti:List Cond)(by_:List Int)(wd each:Int):∀k,((List.range k).foldl (fun w i=>M.wStep w (ti.getD i ⟨0,0,[],0⟩) (by_.getD i 0)) ⟨wd,each,0,0,0,0,0,0,0,0,List.replicate n 0⟩).casks.length=n:=by
 intro k
 induction k with
 |zero=>simp
 |succ k ih=>
  rw[foldl_succ]
  generalize (List.range k).foldl (fun w i=>M.wStep w (ti.getD i ⟨0,0,[],0⟩) (by_.getD i 0)) ⟨wd,each,0,0,0,0,0,0,0,0,List.replicate n 0⟩=w at *
  unfold M.wStep
  cases (ti.getD k ⟨0,0,[],0⟩).kind==1 <;>cases (ti.getD k ⟨0,0,[],0⟩).kind==2 <;>cases (ti.getD k ⟨0,0,[],0⟩).kind==3 <;>simp[ih]
theorem w69(den wd each n:Int)(pt by_:List Int)(ti:List Cond)(hn0:0≤n)(hn:n≤1000)(hl:ti.length≤by_.length)(h1:ti.length≤1000)(hw:WhichOK n ti):(tr69 den wd each n pt by_ ti).wp (fun rs=>rsEqv rs [resW (M.weights wd each ti by_ n.toNat)]):=by
 unfold tr69
 obtain⟨z1,z2⟩:=zeros_int n.toNat
 refine⟨hn0,Int.le_refl _,by omega,z1,Nat.le_refl _,?_⟩
 refine range_wp (S:=WS) (n:=ti.length) (fun k s=>s=wS ((List.range k).foldl (fun w i=>M.wStep w (ti.getD i ⟨0,0,[],0⟩) (by_.getD i 0)) ⟨wd,each,0,0,0,0,0,0,0,0,List.replicate n.toNat 0⟩)) (by rw[z2];rfl) ?_
 rintro k s hk rfl
 have hwl:=w_len n.toNat ti by_ wd each k
 have hsucc:=foldl_succ (f:=fun w i=>M.wStep w (ti.getD i ⟨0,0,[],0⟩) (by_.getD i 0)) (a:=(⟨wd,each,0,0,0,0,0,0,0,0,List.replicate n.toNat 0⟩:Wts)) (k:=k)
 have hfin:M.weights wd each ti by_ n.toNat=(List.range ti.length).foldl (fun w i=>M.wStep w (ti.getD i ⟨0,0,[],0⟩) (by_.getD i 0)) ⟨wd,each,0,0,0,0,0,0,0,0,List.replicate n.toNat 0⟩:=rfl
 rw[hsucc]
 refine wp_br (fun hb=>?_) (fun hb=>?_)
 ·have hlt:=lt_of_dec hb
  have hc:ti.getD k ⟨0,0,[],0⟩∈ti:=mem_getD hlt
  obtain⟨c,hcc⟩:∃c,c=ti.getD k ⟨0,0,[],0⟩:=⟨_,rfl⟩
  have hti:tiAt ti (k:Int)=c:=by rw[hcc];rfl
  rw[←hcc]at hc ⊢
  obtain⟨q0,q1,q2⟩:=hw c hc
  clear hsucc hfin
  generalize (List.range k).foldl (fun w i=>M.wStep w (ti.getD i ⟨0,0,[],0⟩) (by_.getD i 0)) ⟨wd,each,0,0,0,0,0,0,0,0,List.replicate n.toNat 0⟩=w at *
  obtain⟨w1,w2,x0,x1,x2,x3,y0,y1,y2,y3,cl⟩:=w
  simp only at hwl
  obtain⟨b,hbb⟩:∃b,b=by_.getD k 0:=⟨_,rfl⟩
  have g1:(0:Int)≤(k:Int):=by omega
  have g2:(k:Int)<(ti.length:Int):=by omega
  have g3:(k:Int)<(by_.length:Int):=by omega
  refine⟨g1,g2,?_⟩
  simp only[hti]
  refine wp_br (fun k1=>?_) (fun k1=>wp_br (fun k2=>?_) (fun k2=>wp_br (fun k3=>?_) (fun k3=>?_)))
  ·have k1':c.kind=1:=by simpa using k1
   have hwn:=q1 k1'
   have hcl:c.which.toNat<cl.length:=by omega
   obtain⟨p1,p2⟩:=put_int (l:=cl) (i:=c.which.toNat) (b:=b) hcl
   rw[hbb]at p1 p2
   refine⟨g1,g3,q0,by show c.which<(cl.length:Int);omega,hcl,p1,Nat.le_refl _,hlt,wrap_succ (by omega),?_⟩
   show(_:WS)=_
   unfold M.wStep wS
   rw[k1]
   simp only[cond_true]
   refine congrArg (fun z=>(w1,w2,x0,x1,x2,x3,y0,y1,y2,y3,z,PUnit.unit)) ?_
   exact p2
  ·have k1':¬c.kind=1:=by simpa using k1
   have k2':c.kind=2:=by simpa using k2
   have hwn:=q2 k1' (by omega)
   refine⟨g1,g3,q0,hwn,by omega,by omega,Enc.is_F _ _ _,Nat.le_refl _,hlt,wrap_succ (by omega),?_⟩
   show(_:WS)=_
   have n4:¬c.which.toNat=4:=by omega
   have n5:¬c.which.toNat=5:=by omega
   have n6:¬c.which.toNat=6:=by omega
   have n7:¬c.which.toNat=7:=by omega
   simp only[wS,if_neg n4,if_neg n5,if_neg n6,if_neg n7,Enc.list_F]
   unfold M.wStep
   rw[k1,k2]
   rfl
  ·have k1':¬c.kind=1:=by simpa using k1
   have k3':c.kind=3:=by simpa using k3
   have hwn:=q2 k1' (by omega)
   refine⟨g1,g3,q0,hwn,by omega,by omega,Enc.is_F _ _ _,Nat.le_refl _,hlt,wrap_succ (by omega),?_⟩
   show(_:WS)=_
   simp only[wS,Enc.list_F]
   unfold M.wStep
   rw[k1,k2,k3]
   rfl
  ·refine⟨Enc.is_F _ _ _,Nat.le_refl _,hlt,wrap_succ (by omega),?_⟩
   show(_:WS)=_
   simp only[wS,Enc.list_F]
   unfold M.wStep
   rw[k1,k2,k3]
   rfl
 ·have hge:=ge_of_dec hb
  obtain rfl:k=ti.length:=by omega
  rw[←hfin]
  refine⟨Nat.le_refl _,?_⟩
  exact⟨⟨rfl,rfl,rfl,rfl,rfl,rfl,rfl,rfl,rfl,rfl,⟨(fun e=>by cases e),rfl,fun _=>rfl,fun i j _ _=>D.eqv_refl _⟩,trivial⟩,trivial⟩
def dom69:DomF
 |[.agg [.int .i64 den,.int .i64 wd,.sl _ k0 s0 F0,.int .i64 each,.sl _ k1 s1 F1,.sl _ k2 s2 F2],.c (.int .i64 n)]=>(match Nat.beq s1 4&&Nat.beq s2 1 with
  |true=>some ([eK.Is k1 F1,eI.Is k2 F2,0≤n,n≤1000,k1≤k2,k1≤1000,WhichOK n (eK.list k1 F1)],[resW (M.weights wd each (eK.list k1 F1) (eI.list k2 F2) n.toNat)])
  |_=>none)
 |_=>none
def v69:Nat×Sm:=(67,fokSm dom69)
theorem C69:FOK Tryz.prog G0 gw 67 dom69:=by
 intro ags p r hd hp κ w xs hw hl hG hx
 unfold dom69 at hd
 split at hd
 ·rename_i den wd q0 k0 s0 F0 each q1 k1 s1 F1 q2 k2 s2 F2 n
  split at hd
  ·rename_i hst
   simp only[Bool.and_eq_true]at hst
   obtain⟨g1,g2⟩:=hst
   have g1:=Nat.eq_of_beq_eq_true g1
   have g2:=Nat.eq_of_beq_eq_true g2
   subst g1 g2
   simp only[Option.some.injEq,Prod.mk.injEq]at hd
   obtain⟨rfl,rfl⟩:=hd
   obtain⟨hK,hI,h0,h1,h2,h3,h4,_⟩:=hp
   have heq:agsEqv [.agg [.int .i64 den,.int .i64 wd,.sl q0 k0 s0 F0,.int .i64 each,.sl q1 k1 4 F1,.sl q2 k2 1 F2],.c (.int .i64 n)] [.agg [.int .i64 den,.int .i64 wd,.sl q0 k0 s0 F0,.int .i64 each,.sl q1 (eK.list k1 F1).length 4 (eK.F (eK.list k1 F1)),.sl q2 (eI.list k2 F2).length 1 (eI.F (eI.list k2 F2))],.c (.int .i64 n)]:=
    ⟨⟨rfl,rfl,D.eqv_refl _,rfl,eK.to id hK,eI.to id hI,trivial⟩,Ag.eqv_refl _,trivial⟩
   have l1:(eK.list k1 F1).length=k1:=eK.list_len
   have l2:(eI.list k2 F2).length=k2:=eI.list_len
   generalize eK.list k1 F1=ti at *
   generalize eI.list k2 F2=by_ at *
   subst l1 l2
   exact fokX_fin mixed gw_stable (sl:=[]) trivial Tryz.func67 hw hl hG hx heq rfl (t69 q0 q1 q2 den wd each n k0 s0 F0 by_ ti) (w69 den wd each n [] by_ ti h0 h1 h2 h3 h4)
  ·cases hd
 ·cases hd
theorem S69:SumOK Tryz.prog G0 gw 67 (fokSm dom69):=fok_sum Tryz.func67 rfl C69
end Go.Bl
end
section
set_option maxRecDepth 100000
namespace Go.Bl
open Go.Gd
open Go.V Go.Proofs
def tr66_1(c0:Cask)(sv l0 h0 l1 h1 l2 h2 l3 h3:Int):T (List Ar):=
  T.need ((1:Nat)≤(1000000:Nat)) (T.need ((0:Int)≤(0:Int)) (T.need ((0:Int)<(1:Int)) (T.need ((2:Nat)≤(1000000:Nat)) (T.need ((1:Nat)≤(1:Nat)) (T.need ((0:Int)≤(0:Int)) (T.need ((0:Int)<(1:Int)) (T.need ((0:Int)≤(0:Int)) (T.need ((0:Int)<(4:Int)) (T.need ((3:Nat)≤(1000000:Nat)) (T.need ((2:Nat)≤(2:Nat)) (T.need ((0:Int)≤(0:Int)) (T.need ((0:Int)<(1:Int)) (T.need ((0:Int)≤(0:Int)) (T.need ((0:Int)<(4:Int)) (T.need ((4:Nat)≤(1000000:Nat)) (T.need ((3:Nat)≤(3:Nat)) (T.need ((0:Int)≤(0:Int)) (T.need ((0:Int)<(1:Int)) (T.need ((0:Int)≤(1:Int)) (T.need ((1:Int)<(4:Int)) (T.need ((5:Nat)≤(1000000:Nat)) (T.need ((4:Nat)≤(4:Nat)) (T.need ((0:Int)≤(0:Int)) (T.need ((0:Int)<(1:Int)) (T.need ((0:Int)≤(1:Int)) (T.need ((1:Int)<(4:Int)) (T.need ((6:Nat)≤(1000000:Nat)) (T.need ((5:Nat)≤(5:Nat)) (T.need ((0:Int)≤(0:Int)) (T.need ((0:Int)<(1:Int)) (T.need ((0:Int)≤(2:Int)) (T.need ((2:Int)<(4:Int)) (T.need ((7:Nat)≤(1000000:Nat)) (T.need ((6:Nat)≤(6:Nat)) (T.need ((0:Int)≤(0:Int)) (T.need ((0:Int)<(1:Int)) (T.need ((0:Int)≤(2:Int)) (T.need ((2:Int)<(4:Int)) (T.need ((8:Nat)≤(1000000:Nat)) (T.need ((7:Nat)≤(7:Nat)) (T.need ((0:Int)≤(0:Int)) (T.need ((0:Int)<(1:Int)) (T.need ((0:Int)≤(3:Int)) (T.need ((3:Int)<(4:Int)) (T.need ((9:Nat)≤(1000000:Nat)) (T.need ((8:Nat)≤(8:Nat)) (T.need ((0:Int)≤(0:Int)) (T.need ((0:Int)<(1:Int)) (T.need ((0:Int)≤(3:Int)) (T.need ((3:Int)<(4:Int)) (T.need ((10:Nat)≤(1000000:Nat)) (T.need ((9:Nat)≤(9:Nat)) (T.need ((0:Int)≤(0:Int)) (T.need ((0:Int)<(1:Int)) (T.need ((10:Nat)≤(10:Nat)) (T.ret [Ar.agg [D.sl true (1:Nat) (1:Nat) fun(i' j:Nat)=>List.getD [D.int IntKind.i64 (1:Int)] (i'*(1:Nat)+j) D.nilp,D.int IntKind.i64 sv,D.sl true (1:Nat) (1:Nat) fun(i' j:Nat)=>List.getD [D.int IntKind.i64 (List.getD [c0] (Int.toNat (0:Int)) (Enc.dflt eC)).3] (i'*(1:Nat)+j) D.nilp,D.sl true (10:Nat) (4:Nat) (joinF (9:Nat) (joinF (8:Nat) (joinF (7:Nat) (joinF (6:Nat) (joinF (5:Nat) (joinF (4:Nat) (joinF (3:Nat) (joinF (2:Nat) (joinF (1:Nat) (joinF (0:Nat) (fun(x x_1:Nat)=>D.nilp) fun(i j:Nat)=>List.getD [D.int IntKind.i64 (0:Int),D.int IntKind.i64 (0:Int),D.sl true (1:Nat) (1:Nat) fun(i j:Nat)=>List.getD [D.int IntKind.i64 (-1:Int)] (i*(1:Nat)+j) D.nilp,D.int IntKind.i64 (0:Int)] (i*(4:Nat)+j) D.nilp) fun(i j:Nat)=>List.getD [D.int IntKind.i64 (1:Int),D.int IntKind.i64 (0:Int),D.sl true (1:Nat) (1:Nat) fun(i j:Nat)=>List.getD [D.int IntKind.i64 (1:Int)] (i*(1:Nat)+j) D.nilp,D.int IntKind.i64 (List.getD [c0] (Int.toNat (0:Int)) (Enc.dflt eC)).2] (i*(4:Nat)+j) D.nilp) fun(i j:Nat)=>List.getD [D.int IntKind.i64 (2:Int),D.int IntKind.i64 (0:Int),D.sl true (1:Nat) (1:Nat) fun(i j:Nat)=>List.getD [D.int IntKind.i64 (IntKind.wrap IntKind.i64 ((List.getD [c0] (Int.toNat (0:Int)) (Enc.dflt eC)).4-h0))] (i*(1:Nat)+j) D.nilp,D.int IntKind.i64 (0:Int)] (i*(4:Nat)+j) D.nilp) fun(i j:Nat)=>List.getD [D.int IntKind.i64 (3:Int),D.int IntKind.i64 (0:Int),D.sl true (1:Nat) (1:Nat) fun(i j:Nat)=>List.getD [D.int IntKind.i64 (IntKind.wrap IntKind.i64 (l0-(List.getD [c0] (Int.toNat (0:Int)) (Enc.dflt eC)).4))] (i*(1:Nat)+j) D.nilp,D.int IntKind.i64 (0:Int)] (i*(4:Nat)+j) D.nilp) fun(i j:Nat)=>List.getD [D.int IntKind.i64 (2:Int),D.int IntKind.i64 (1:Int),D.sl true (1:Nat) (1:Nat) fun(i j:Nat)=>List.getD [D.int IntKind.i64 (IntKind.wrap IntKind.i64 ((List.getD [c0] (Int.toNat (0:Int)) (Enc.dflt eC)).5-h1))] (i*(1:Nat)+j) D.nilp,D.int IntKind.i64 (0:Int)] (i*(4:Nat)+j) D.nilp) fun(i j:Nat)=>List.getD [D.int IntKind.i64 (3:Int),D.int IntKind.i64 (1:Int),D.sl true (1:Nat) (1:Nat) fun(i j:Nat)=>List.getD [D.int IntKind.i64 (IntKind.wrap IntKind.i64 (l1-(List.getD [c0] (Int.toNat (0:Int)) (Enc.dflt eC)).5))] (i*(1:Nat)+j) D.nilp,D.int IntKind.i64 (0:Int)] (i*(4:Nat)+j) D.nilp) fun(i j:Nat)=>List.getD [D.int IntKind.i64 (2:Int),D.int IntKind.i64 (2:Int),D.sl true (1:Nat) (1:Nat) fun(i j:Nat)=>List.getD [D.int IntKind.i64 (IntKind.wrap IntKind.i64 ((List.getD [c0] (Int.toNat (0:Int)) (Enc.dflt eC)).6-h2))] (i*(1:Nat)+j) D.nilp,D.int IntKind.i64 (0:Int)] (i*(4:Nat)+j) D.nilp) fun(i j:Nat)=>List.getD [D.int IntKind.i64 (3:Int),D.int IntKind.i64 (2:Int),D.sl true (1:Nat) (1:Nat) fun(i j:Nat)=>List.getD [D.int IntKind.i64 (IntKind.wrap IntKind.i64 (l2-(List.getD [c0] (Int.toNat (0:Int)) (Enc.dflt eC)).6))] (i*(1:Nat)+j) D.nilp,D.int IntKind.i64 (0:Int)] (i*(4:Nat)+j) D.nilp) fun(i j:Nat)=>List.getD [D.int IntKind.i64 (2:Int),D.int IntKind.i64 (3:Int),D.sl true (1:Nat) (1:Nat) fun(i j:Nat)=>List.getD [D.int IntKind.i64 (IntKind.wrap IntKind.i64 ((List.getD [c0] (Int.toNat (0:Int)) (Enc.dflt eC)).7-h3))] (i*(1:Nat)+j) D.nilp,D.int IntKind.i64 (0:Int)] (i*(4:Nat)+j) D.nilp) fun(i j:Nat)=>List.getD [D.int IntKind.i64 (3:Int),D.int IntKind.i64 (3:Int),D.sl true (1:Nat) (1:Nat) fun(i j:Nat)=>List.getD [D.int IntKind.i64 (IntKind.wrap IntKind.i64 (l3-(List.getD [c0] (Int.toNat (0:Int)) (Enc.dflt eC)).7))] (i*(1:Nat)+j) D.nilp,D.int IntKind.i64 (0:Int)] (i*(4:Nat)+j) D.nilp)]]))))))))))))))))))))))))))))))))))))))))))))))))))))))))
theorem t66_1(q:Bool)(c0:Cask)(sv l0 h0 l1 h1 l2 h2 l3 h3:Int):runFnX Tryz.prog G0 (lookS []) (fun _=>[(999999,[],none)]) [116,154,155,156,157,158,159,160] 1 60 6 64 Tryz.f64 [.c (.sl q 1 7 (eC.F [c0])),.agg [dI sv,dI l0,dI h0,dI l1,dI h1,dI l2,dI h2,dI l3,dI h3]] =
  tr66_1 c0 sv l0 h0 l1 h1 l2 h2 l3 h3:=by kernel_rfl
theorem w66_1(c0:Cask)(sv l0 h0 l1 h1 l2 h2 l3 h3:Int):(tr66_1 c0 sv l0 h0 l1 h1 l2 h2 l3 h3).wp (fun rs=>rsEqv rs (res66 [c0] ⟨sv,⟨l0,h0⟩,⟨l1,h1⟩,⟨l2,h2⟩,⟨l3,h3⟩⟩)):=by
 unfold tr66_1
 repeat (refine⟨by decide,?_⟩)
 refine⟨⟨?_,rfl,?_,?_,trivial⟩,trivial⟩
 ·refine sl_ints (q':=false) (l:=M.shares [c0] 0) (fun e=>nomatch e) ?_
  kernel_rfl
 ·refine sl_ints (q':=false) (l:=M.costs [c0]) (fun e=>nomatch e) ?_
  kernel_rfl
 ·refine conds_eqv (q':=false) (m:=M.limits [c0] ⟨sv,⟨l0,h0⟩,⟨l1,h1⟩,⟨l2,h2⟩,⟨l3,h3⟩⟩ 0) (fun e=>nomatch e) ?_
  kernel_rfl
end Go.Bl
end
section
set_option maxRecDepth 100000
namespace Go.Bl
open Go.Gd
open Go.V Go.Proofs
def tr66_2(c0 c1:Cask)(sv l0 h0 l1 h1 l2 h2 l3 h3:Int):T (List Ar):=
  T.need ((1:Nat)≤(1000000:Nat)) (T.need ((2:Nat)≤(1000000:Nat)) (T.need ((1:Nat)≤(1:Nat)) (T.need ((0:Int)≤(0:Int)) (T.need ((0:Int)<(2:Int)) (T.need ((3:Nat)≤(1000000:Nat)) (T.need ((2:Nat)≤(2:Nat)) (T.need ((0:Int)≤(1:Int)) (T.need ((1:Int)<(2:Int)) (T.need ((4:Nat)≤(1000000:Nat)) (T.need ((3:Nat)≤(3:Nat)) (T.need ((0:Int)≤(0:Int)) (T.need ((0:Int)<(2:Int)) (T.need ((0:Int)≤(0:Int)) (T.need ((0:Int)<(4:Int)) (T.need ((0:Int)≤(1:Int)) (T.need ((1:Int)<(2:Int)) (T.need ((0:Int)≤(0:Int)) (T.need ((0:Int)<(4:Int)) (T.need ((5:Nat)≤(1000000:Nat)) (T.need ((4:Nat)≤(4:Nat)) (T.need ((0:Int)≤(0:Int)) (T.need ((0:Int)<(2:Int)) (T.need ((0:Int)≤(0:Int)) (T.need ((0:Int)<(4:Int)) (T.need ((0:Int)≤(1:Int)) (T.need ((1:Int)<(2:Int)) (T.need ((0:Int)≤(0:Int)) (T.need ((0:Int)<(4:Int)) (T.need ((6:Nat)≤(1000000:Nat)) (T.need ((5:Nat)≤(5:Nat)) (T.need ((0:Int)≤(0:Int)) (T.need ((0:Int)<(2:Int)) (T.need ((0:Int)≤(1:Int)) (T.need ((1:Int)<(4:Int)) (T.need ((0:Int)≤(1:Int)) (T.need ((1:Int)<(2:Int)) (T.need ((0:Int)≤(1:Int)) (T.need ((1:Int)<(4:Int)) (T.need ((7:Nat)≤(1000000:Nat)) (T.need ((6:Nat)≤(6:Nat)) (T.need ((0:Int)≤(0:Int)) (T.need ((0:Int)<(2:Int)) (T.need ((0:Int)≤(1:Int)) (T.need ((1:Int)<(4:Int)) (T.need ((0:Int)≤(1:Int)) (T.need ((1:Int)<(2:Int)) (T.need ((0:Int)≤(1:Int)) (T.need ((1:Int)<(4:Int)) (T.need ((8:Nat)≤(1000000:Nat)) (T.need ((7:Nat)≤(7:Nat)) (T.need ((0:Int)≤(0:Int)) (T.need ((0:Int)<(2:Int)) (T.need ((0:Int)≤(2:Int)) (T.need ((2:Int)<(4:Int)) (T.need ((0:Int)≤(1:Int)) (T.need ((1:Int)<(2:Int)) (T.need ((0:Int)≤(2:Int)) (T.need ((2:Int)<(4:Int)) (T.need ((9:Nat)≤(1000000:Nat)) (T.need ((8:Nat)≤(8:Nat)) (T.need ((0:Int)≤(0:Int)) (T.need ((0:Int)<(2:Int)) (T.need ((0:Int)≤(2:Int)) (T.need ((2:Int)<(4:Int)) (T.need ((0:Int)≤(1:Int)) (T.need ((1:Int)<(2:Int)) (T.need ((0:Int)≤(2:Int)) (T.need ((2:Int)<(4:Int)) (T.need ((10:Nat)≤(1000000:Nat)) (T.need ((9:Nat)≤(9:Nat)) (T.need ((0:Int)≤(0:Int)) (T.need ((0:Int)<(2:Int)) (T.need ((0:Int)≤(3:Int)) (T.need ((3:Int)<(4:Int)) (T.need ((0:Int)≤(1:Int)) (T.need ((1:Int)<(2:Int)) (T.need ((0:Int)≤(3:Int)) (T.need ((3:Int)<(4:Int)) (T.need ((11:Nat)≤(1000000:Nat)) (T.need ((10:Nat)≤(10:Nat)) (T.need ((0:Int)≤(0:Int)) (T.need ((0:Int)<(2:Int)) (T.need ((0:Int)≤(3:Int)) (T.need ((3:Int)<(4:Int)) (T.need ((0:Int)≤(1:Int)) (T.need ((1:Int)<(2:Int)) (T.need ((0:Int)≤(3:Int)) (T.need ((3:Int)<(4:Int)) (T.need ((12:Nat)≤(1000000:Nat)) (T.need ((11:Nat)≤(11:Nat)) (T.need ((0:Int)≤(0:Int)) (T.need ((0:Int)<(2:Int)) (T.need ((0:Int)≤(1:Int)) (T.need ((1:Int)<(2:Int)) (T.need ((12:Nat)≤(12:Nat)) (T.ret [Ar.agg [D.sl true (2:Nat) (1:Nat) fun(i' j:Nat)=>List.getD [D.int IntKind.i64 (1:Int),D.int IntKind.i64 (1:Int)] (i'*(1:Nat)+j) D.nilp,D.int IntKind.i64 sv,D.sl true (2:Nat) (1:Nat) fun(i' j:Nat)=>List.getD [D.int IntKind.i64 (List.getD [c0,c1] (Int.toNat (0:Int)) (Enc.dflt eC)).3,D.int IntKind.i64 (List.getD [c0,c1] (Int.toNat (IntKind.wrap IntKind.i64 ((0:Int)+(1:Int)))) (Enc.dflt eC)).3] (i'*(1:Nat)+j) D.nilp,D.sl true (12:Nat) (4:Nat) (joinF (11:Nat) (joinF (10:Nat) (joinF (9:Nat) (joinF (8:Nat) (joinF (7:Nat) (joinF (6:Nat) (joinF (5:Nat) (joinF (4:Nat) (joinF (3:Nat) (joinF (2:Nat) (joinF (1:Nat) (joinF (0:Nat) (fun(x x_1:Nat)=>D.nilp) fun(i j:Nat)=>List.getD [D.int IntKind.i64 (0:Int),D.int IntKind.i64 (0:Int),D.sl true (2:Nat) (1:Nat) fun(i j:Nat)=>List.getD [D.int IntKind.i64 (-1:Int),D.int IntKind.i64 (0:Int)] (i*(1:Nat)+j) D.nilp,D.int IntKind.i64 (0:Int)] (i*(4:Nat)+j) D.nilp) fun(i j:Nat)=>List.getD [D.int IntKind.i64 (0:Int),D.int IntKind.i64 (1:Int),D.sl true (2:Nat) (1:Nat) fun(i j:Nat)=>List.getD [D.int IntKind.i64 (0:Int),D.int IntKind.i64 (-1:Int)] (i*(1:Nat)+j) D.nilp,D.int IntKind.i64 (0:Int)] (i*(4:Nat)+j) D.nilp) fun(i j:Nat)=>List.getD [D.int IntKind.i64 (1:Int),D.int IntKind.i64 (0:Int),D.sl true (2:Nat) (1:Nat) fun(i j:Nat)=>List.getD [D.int IntKind.i64 (1:Int),D.int IntKind.i64 (0:Int)] (i*(1:Nat)+j) D.nilp,D.int IntKind.i64 (List.getD [c0,c1] (Int.toNat (0:Int)) (Enc.dflt eC)).2] (i*(4:Nat)+j) D.nilp) fun(i j:Nat)=>List.getD [D.int IntKind.i64 (1:Int),D.int IntKind.i64 (1:Int),D.sl true (2:Nat) (1:Nat) fun(i j:Nat)=>List.getD [D.int IntKind.i64 (0:Int),D.int IntKind.i64 (1:Int)] (i*(1:Nat)+j) D.nilp,D.int IntKind.i64 (List.getD [c0,c1] (Int.toNat (IntKind.wrap IntKind.i64 ((0:Int)+(1:Int)))) (Enc.dflt eC)).2] (i*(4:Nat)+j) D.nilp) fun(i j:Nat)=>List.getD [D.int IntKind.i64 (2:Int),D.int IntKind.i64 (0:Int),D.sl true (2:Nat) (1:Nat) fun(i j:Nat)=>List.getD [D.int IntKind.i64 (IntKind.wrap IntKind.i64 ((List.getD [c0,c1] (Int.toNat (0:Int)) (Enc.dflt eC)).4-h0)),D.int IntKind.i64 (IntKind.wrap IntKind.i64 ((List.getD [c0,c1] (Int.toNat (IntKind.wrap IntKind.i64 ((0:Int)+(1:Int)))) (Enc.dflt eC)).4-h0))] (i*(1:Nat)+j) D.nilp,D.int IntKind.i64 (0:Int)] (i*(4:Nat)+j) D.nilp) fun(i j:Nat)=>List.getD [D.int IntKind.i64 (3:Int),D.int IntKind.i64 (0:Int),D.sl true (2:Nat) (1:Nat) fun(i j:Nat)=>List.getD [D.int IntKind.i64 (IntKind.wrap IntKind.i64 (l0-(List.getD [c0,c1] (Int.toNat (0:Int)) (Enc.dflt eC)).4)),D.int IntKind.i64 (IntKind.wrap IntKind.i64 (l0-(List.getD [c0,c1] (Int.toNat (IntKind.wrap IntKind.i64 ((0:Int)+(1:Int)))) (Enc.dflt eC)).4))] (i*(1:Nat)+j) D.nilp,D.int IntKind.i64 (0:Int)] (i*(4:Nat)+j) D.nilp) fun(i j:Nat)=>List.getD [D.int IntKind.i64 (2:Int),D.int IntKind.i64 (1:Int),D.sl true (2:Nat) (1:Nat) fun(i j:Nat)=>List.getD [D.int IntKind.i64 (IntKind.wrap IntKind.i64 ((List.getD [c0,c1] (Int.toNat (0:Int)) (Enc.dflt eC)).5-h1)),D.int IntKind.i64 (IntKind.wrap IntKind.i64 ((List.getD [c0,c1] (Int.toNat (IntKind.wrap IntKind.i64 ((0:Int)+(1:Int)))) (Enc.dflt eC)).5-h1))] (i*(1:Nat)+j) D.nilp,D.int IntKind.i64 (0:Int)] (i*(4:Nat)+j) D.nilp) fun(i j:Nat)=>List.getD [D.int IntKind.i64 (3:Int),D.int IntKind.i64 (1:Int),D.sl true (2:Nat) (1:Nat) fun(i j:Nat)=>List.getD [D.int IntKind.i64 (IntKind.wrap IntKind.i64 (l1-(List.getD [c0,c1] (Int.toNat (0:Int)) (Enc.dflt eC)).5)),D.int IntKind.i64 (IntKind.wrap IntKind.i64 (l1-(List.getD [c0,c1] (Int.toNat (IntKind.wrap IntKind.i64 ((0:Int)+(1:Int)))) (Enc.dflt eC)).5))] (i*(1:Nat)+j) D.nilp,D.int IntKind.i64 (0:Int)] (i*(4:Nat)+j) D.nilp) fun(i j:Nat)=>List.getD [D.int IntKind.i64 (2:Int),D.int IntKind.i64 (2:Int),D.sl true (2:Nat) (1:Nat) fun(i j:Nat)=>List.getD [D.int IntKind.i64 (IntKind.wrap IntKind.i64 ((List.getD [c0,c1] (Int.toNat (0:Int)) (Enc.dflt eC)).6-h2)),D.int IntKind.i64 (IntKind.wrap IntKind.i64 ((List.getD [c0,c1] (Int.toNat (IntKind.wrap IntKind.i64 ((0:Int)+(1:Int)))) (Enc.dflt eC)).6-h2))] (i*(1:Nat)+j) D.nilp,D.int IntKind.i64 (0:Int)] (i*(4:Nat)+j) D.nilp) fun(i j:Nat)=>List.getD [D.int IntKind.i64 (3:Int),D.int IntKind.i64 (2:Int),D.sl true (2:Nat) (1:Nat) fun(i j:Nat)=>List.getD [D.int IntKind.i64 (IntKind.wrap IntKind.i64 (l2-(List.getD [c0,c1] (Int.toNat (0:Int)) (Enc.dflt eC)).6)),D.int IntKind.i64 (IntKind.wrap IntKind.i64 (l2-(List.getD [c0,c1] (Int.toNat (IntKind.wrap IntKind.i64 ((0:Int)+(1:Int)))) (Enc.dflt eC)).6))] (i*(1:Nat)+j) D.nilp,D.int IntKind.i64 (0:Int)] (i*(4:Nat)+j) D.nilp) fun(i j:Nat)=>List.getD [D.int IntKind.i64 (2:Int),D.int IntKind.i64 (3:Int),D.sl true (2:Nat) (1:Nat) fun(i j:Nat)=>List.getD [D.int IntKind.i64 (IntKind.wrap IntKind.i64 ((List.getD [c0,c1] (Int.toNat (0:Int)) (Enc.dflt eC)).7-h3)),D.int IntKind.i64 (IntKind.wrap IntKind.i64 ((List.getD [c0,c1] (Int.toNat (IntKind.wrap IntKind.i64 ((0:Int)+(1:Int)))) (Enc.dflt eC)).7-h3))] (i*(1:Nat)+j) D.nilp,D.int IntKind.i64 (0:Int)] (i*(4:Nat)+j) D.nilp) fun(i j:Nat)=>List.getD [D.int IntKind.i64 (3:Int),D.int IntKind.i64 (3:Int),D.sl true (2:Nat) (1:Nat) fun(i j:Nat)=>List.getD [D.int IntKind.i64 (IntKind.wrap IntKind.i64 (l3-(List.getD [c0,c1] (Int.toNat (0:Int)) (Enc.dflt eC)).7)),D.int IntKind.i64 (IntKind.wrap IntKind.i64 (l3-(List.getD [c0,c1] (Int.toNat (IntKind.wrap IntKind.i64 ((0:Int)+(1:Int)))) (Enc.dflt eC)).7))] (i*(1:Nat)+j) D.nilp,D.int IntKind.i64 (0:Int)] (i*(4:Nat)+j) D.nilp)]]))))))))))))))))))))))))))))))))))))))))))))))))))))))))))))))))))))))))))))))))))))))))))))))))
theorem t66_2(q:Bool)(c0 c1:Cask)(sv l0 h0 l1 h1 l2 h2 l3 h3:Int):runFnX Tryz.prog G0 (lookS []) (fun _=>[(999999,[],none)]) [116,154,155,156,157,158,159,160] 1 60 6 64 Tryz.f64 [.c (.sl q 2 7 (eC.F [c0,c1])),.agg [dI sv,dI l0,dI h0,dI l1,dI h1,dI l2,dI h2,dI l3,dI h3]] =
  tr66_2 c0 c1 sv l0 h0 l1 h1 l2 h2 l3 h3:=by kernel_rfl
theorem w66_2(c0 c1:Cask)(sv l0 h0 l1 h1 l2 h2 l3 h3:Int):(tr66_2 c0 c1 sv l0 h0 l1 h1 l2 h2 l3 h3).wp (fun rs=>rsEqv rs (res66 [c0,c1] ⟨sv,⟨l0,h0⟩,⟨l1,h1⟩,⟨l2,h2⟩,⟨l3,h3⟩⟩)):=by
 unfold tr66_2
 repeat (refine⟨by decide,?_⟩)
 refine⟨⟨?_,rfl,?_,?_,trivial⟩,trivial⟩
 ·refine sl_ints (q':=false) (l:=M.shares [c0,c1] 0) (fun e=>nomatch e) ?_
  kernel_rfl
 ·refine sl_ints (q':=false) (l:=M.costs [c0,c1]) (fun e=>nomatch e) ?_
  kernel_rfl
 ·refine conds_eqv (q':=false) (m:=M.limits [c0,c1] ⟨sv,⟨l0,h0⟩,⟨l1,h1⟩,⟨l2,h2⟩,⟨l3,h3⟩⟩ 0) (fun e=>nomatch e) ?_
  kernel_rfl
end Go.Bl
end
section
set_option maxRecDepth 100000
namespace Go.Bl
open Go.Gd
open Go.V Go.Proofs
def tr66_3(c0 c1 c2:Cask)(sv l0 h0 l1 h1 l2 h2 l3 h3:Int):T (List Ar):=
  T.need ((1:Nat)≤(1000000:Nat)) (T.need ((2:Nat)≤(1000000:Nat)) (T.need ((1:Nat)≤(1:Nat)) (T.need ((3:Nat)≤(1000000:Nat)) (T.need ((2:Nat)≤(2:Nat)) (T.need ((0:Int)≤(0:Int)) (T.need ((0:Int)<(3:Int)) (T.need ((4:Nat)≤(1000000:Nat)) (T.need ((3:Nat)≤(3:Nat)) (T.need ((0:Int)≤(1:Int)) (T.need ((1:Int)<(3:Int)) (T.need ((5:Nat)≤(1000000:Nat)) (T.need ((4:Nat)≤(4:Nat)) (T.need ((0:Int)≤(2:Int)) (T.need ((2:Int)<(3:Int)) (T.need ((6:Nat)≤(1000000:Nat)) (T.need ((5:Nat)≤(5:Nat)) (T.need ((0:Int)≤(0:Int)) (T.need ((0:Int)<(3:Int)) (T.need ((0:Int)≤(0:Int)) (T.need ((0:Int)<(4:Int)) (T.need ((0:Int)≤(1:Int)) (T.need ((1:Int)<(3:Int)) (T.need ((0:Int)≤(0:Int)) (T.need ((0:Int)<(4:Int)) (T.need ((0:Int)≤(2:Int)) (T.need ((2:Int)<(3:Int)) (T.need ((0:Int)≤(0:Int)) (T.need ((0:Int)<(4:Int)) (T.need ((7:Nat)≤(1000000:Nat)) (T.need ((6:Nat)≤(6:Nat)) (T.need ((0:Int)≤(0:Int)) (T.need ((0:Int)<(3:Int)) (T.need ((0:Int)≤(0:Int)) (T.need ((0:Int)<(4:Int)) (T.need ((0:Int)≤(1:Int)) (T.need ((1:Int)<(3:Int)) (T.need ((0:Int)≤(0:Int)) (T.need ((0:Int)<(4:Int)) (T.need ((0:Int)≤(2:Int)) (T.need ((2:Int)<(3:Int)) (T.need ((0:Int)≤(0:Int)) (T.need ((0:Int)<(4:Int)) (T.need ((8:Nat)≤(1000000:Nat)) (T.need ((7:Nat)≤(7:Nat)) (T.need ((0:Int)≤(0:Int)) (T.need ((0:Int)<(3:Int)) (T.need ((0:Int)≤(1:Int)) (T.need ((1:Int)<(4:Int)) (T.need ((0:Int)≤(1:Int)) (T.need ((1:Int)<(3:Int)) (T.need ((0:Int)≤(1:Int)) (T.need ((1:Int)<(4:Int)) (T.need ((0:Int)≤(2:Int)) (T.need ((2:Int)<(3:Int)) (T.need ((0:Int)≤(1:Int)) (T.need ((1:Int)<(4:Int)) (T.need ((9:Nat)≤(1000000:Nat)) (T.need ((8:Nat)≤(8:Nat)) (T.need ((0:Int)≤(0:Int)) (T.need ((0:Int)<(3:Int)) (T.need ((0:Int)≤(1:Int)) (T.need ((1:Int)<(4:Int)) (T.need ((0:Int)≤(1:Int)) (T.need ((1:Int)<(3:Int)) (T.need ((0:Int)≤(1:Int)) (T.need ((1:Int)<(4:Int)) (T.need ((0:Int)≤(2:Int)) (T.need ((2:Int)<(3:Int)) (T.need ((0:Int)≤(1:Int)) (T.need ((1:Int)<(4:Int)) (T.need ((10:Nat)≤(1000000:Nat)) (T.need ((9:Nat)≤(9:Nat)) (T.need ((0:Int)≤(0:Int)) (T.need ((0:Int)<(3:Int)) (T.need ((0:Int)≤(2:Int)) (T.need ((2:Int)<(4:Int)) (T.need ((0:Int)≤(1:Int)) (T.need ((1:Int)<(3:Int)) (T.need ((0:Int)≤(2:Int)) (T.need ((2:Int)<(4:Int)) (T.need ((0:Int)≤(2:Int)) (T.need ((2:Int)<(3:Int)) (T.need ((0:Int)≤(2:Int)) (T.need ((2:Int)<(4:Int)) (T.need ((11:Nat)≤(1000000:Nat)) (T.need ((10:Nat)≤(10:Nat)) (T.need ((0:Int)≤(0:Int)) (T.need ((0:Int)<(3:Int)) (T.need ((0:Int)≤(2:Int)) (T.need ((2:Int)<(4:Int)) (T.need ((0:Int)≤(1:Int)) (T.need ((1:Int)<(3:Int)) (T.need ((0:Int)≤(2:Int)) (T.need ((2:Int)<(4:Int)) (T.need ((0:Int)≤(2:Int)) (T.need ((2:Int)<(3:Int)) (T.need ((0:Int)≤(2:Int)) (T.need ((2:Int)<(4:Int)) (T.need ((12:Nat)≤(1000000:Nat)) (T.need ((11:Nat)≤(11:Nat)) (T.need ((0:Int)≤(0:Int)) (T.need ((0:Int)<(3:Int)) (T.need ((0:Int)≤(3:Int)) (T.need ((3:Int)<(4:Int)) (T.need ((0:Int)≤(1:Int)) (T.need ((1:Int)<(3:Int)) (T.need ((0:Int)≤(3:Int)) (T.need ((3:Int)<(4:Int)) (T.need ((0:Int)≤(2:Int)) (T.need ((2:Int)<(3:Int)) (T.need ((0:Int)≤(3:Int)) (T.need ((3:Int)<(4:Int)) (T.need ((13:Nat)≤(1000000:Nat)) (T.need ((12:Nat)≤(12:Nat)) (T.need ((0:Int)≤(0:Int)) (T.need ((0:Int)<(3:Int)) (T.need ((0:Int)≤(3:Int)) (T.need ((3:Int)<(4:Int)) (T.need ((0:Int)≤(1:Int)) (T.need ((1:Int)<(3:Int)) (T.need ((0:Int)≤(3:Int)) (T.need ((3:Int)<(4:Int)) (T.need ((0:Int)≤(2:Int)) (T.need ((2:Int)<(3:Int)) (T.need ((0:Int)≤(3:Int)) (T.need ((3:Int)<(4:Int)) (T.need ((14:Nat)≤(1000000:Nat)) (T.need ((13:Nat)≤(13:Nat)) (T.need ((0:Int)≤(0:Int)) (T.need ((0:Int)<(3:Int)) (T.need ((0:Int)≤(1:Int)) (T.need ((1:Int)<(3:Int)) (T.need ((0:Int)≤(2:Int)) (T.need ((2:Int)<(3:Int)) (T.need ((14:Nat)≤(14:Nat)) (T.ret [Ar.agg [D.sl true (3:Nat) (1:Nat) fun(i' j:Nat)=>List.getD [D.int IntKind.i64 (1:Int),D.int IntKind.i64 (1:Int),D.int IntKind.i64 (1:Int)] (i'*(1:Nat)+j) D.nilp,D.int IntKind.i64 sv,D.sl true (3:Nat) (1:Nat) fun(i' j:Nat)=>List.getD [D.int IntKind.i64 (List.getD [c0,c1,c2] (Int.toNat (0:Int)) (Enc.dflt eC)).3,D.int IntKind.i64 (List.getD [c0,c1,c2] (Int.toNat (IntKind.wrap IntKind.i64 ((0:Int)+(1:Int)))) (Enc.dflt eC)).3,D.int IntKind.i64 (List.getD [c0,c1,c2] (Int.toNat (IntKind.wrap IntKind.i64 (IntKind.wrap IntKind.i64 ((0:Int)+(1:Int))+(1:Int)))) (Enc.dflt eC)).3] (i'*(1:Nat)+j) D.nilp,D.sl true (14:Nat) (4:Nat) (joinF (13:Nat) (joinF (12:Nat) (joinF (11:Nat) (joinF (10:Nat) (joinF (9:Nat) (joinF (8:Nat) (joinF (7:Nat) (joinF (6:Nat) (joinF (5:Nat) (joinF (4:Nat) (joinF (3:Nat) (joinF (2:Nat) (joinF (1:Nat) (joinF (0:Nat) (fun(x x_1:Nat)=>D.nilp) fun(i j:Nat)=>List.getD [D.int IntKind.i64 (0:Int),D.int IntKind.i64 (0:Int),D.sl true (3:Nat) (1:Nat) fun(i j:Nat)=>List.getD [D.int IntKind.i64 (-1:Int),D.int IntKind.i64 (0:Int),D.int IntKind.i64 (0:Int)] (i*(1:Nat)+j) D.nilp,D.int IntKind.i64 (0:Int)] (i*(4:Nat)+j) D.nilp) fun(i j:Nat)=>List.getD [D.int IntKind.i64 (0:Int),D.int IntKind.i64 (1:Int),D.sl true (3:Nat) (1:Nat) fun(i j:Nat)=>List.getD [D.int IntKind.i64 (0:Int),D.int IntKind.i64 (-1:Int),D.int IntKind.i64 (0:Int)] (i*(1:Nat)+j) D.nilp,D.int IntKind.i64 (0:Int)] (i*(4:Nat)+j) D.nilp) fun(i j:Nat)=>List.getD [D.int IntKind.i64 (0:Int),D.int IntKind.i64 (2:Int),D.sl true (3:Nat) (1:Nat) fun(i j:Nat)=>List.getD [D.int IntKind.i64 (0:Int),D.int IntKind.i64 (0:Int),D.int IntKind.i64 (-1:Int)] (i*(1:Nat)+j) D.nilp,D.int IntKind.i64 (0:Int)] (i*(4:Nat)+j) D.nilp) fun(i j:Nat)=>List.getD [D.int IntKind.i64 (1:Int),D.int IntKind.i64 (0:Int),D.sl true (3:Nat) (1:Nat) fun(i j:Nat)=>List.getD [D.int IntKind.i64 (1:Int),D.int IntKind.i64 (0:Int),D.int IntKind.i64 (0:Int)] (i*(1:Nat)+j) D.nilp,D.int IntKind.i64 (List.getD [c0,c1,c2] (Int.toNat (0:Int)) (Enc.dflt eC)).2] (i*(4:Nat)+j) D.nilp) fun(i j:Nat)=>List.getD [D.int IntKind.i64 (1:Int),D.int IntKind.i64 (1:Int),D.sl true (3:Nat) (1:Nat) fun(i j:Nat)=>List.getD [D.int IntKind.i64 (0:Int),D.int IntKind.i64 (1:Int),D.int IntKind.i64 (0:Int)] (i*(1:Nat)+j) D.nilp,D.int IntKind.i64 (List.getD [c0,c1,c2] (Int.toNat (IntKind.wrap IntKind.i64 ((0:Int)+(1:Int)))) (Enc.dflt eC)).2] (i*(4:Nat)+j) D.nilp) fun(i j:Nat)=>List.getD [D.int IntKind.i64 (1:Int),D.int IntKind.i64 (2:Int),D.sl true (3:Nat) (1:Nat) fun(i j:Nat)=>List.getD [D.int IntKind.i64 (0:Int),D.int IntKind.i64 (0:Int),D.int IntKind.i64 (1:Int)] (i*(1:Nat)+j) D.nilp,D.int IntKind.i64 (List.getD [c0,c1,c2] (Int.toNat (IntKind.wrap IntKind.i64 (IntKind.wrap IntKind.i64 ((0:Int)+(1:Int))+(1:Int)))) (Enc.dflt eC)).2] (i*(4:Nat)+j) D.nilp) fun(i j:Nat)=>List.getD [D.int IntKind.i64 (2:Int),D.int IntKind.i64 (0:Int),D.sl true (3:Nat) (1:Nat) fun(i j:Nat)=>List.getD [D.int IntKind.i64 (IntKind.wrap IntKind.i64 ((List.getD [c0,c1,c2] (Int.toNat (0:Int)) (Enc.dflt eC)).4-h0)),D.int IntKind.i64 (IntKind.wrap IntKind.i64 ((List.getD [c0,c1,c2] (Int.toNat (IntKind.wrap IntKind.i64 ((0:Int)+(1:Int)))) (Enc.dflt eC)).4-h0)),D.int IntKind.i64 (IntKind.wrap IntKind.i64 ((List.getD [c0,c1,c2] (Int.toNat (IntKind.wrap IntKind.i64 (IntKind.wrap IntKind.i64 ((0:Int)+(1:Int))+(1:Int)))) (Enc.dflt eC)).4-h0))] (i*(1:Nat)+j) D.nilp,D.int IntKind.i64 (0:Int)] (i*(4:Nat)+j) D.nilp) fun(i j:Nat)=>List.getD [D.int IntKind.i64 (3:Int),D.int IntKind.i64 (0:Int),D.sl true (3:Nat) (1:Nat) fun(i j:Nat)=>List.getD [D.int IntKind.i64 (IntKind.wrap IntKind.i64 (l0-(List.getD [c0,c1,c2] (Int.toNat (0:Int)) (Enc.dflt eC)).4)),D.int IntKind.i64 (IntKind.wrap IntKind.i64 (l0-(List.getD [c0,c1,c2] (Int.toNat (IntKind.wrap IntKind.i64 ((0:Int)+(1:Int)))) (Enc.dflt eC)).4)),D.int IntKind.i64 (IntKind.wrap IntKind.i64 (l0-(List.getD [c0,c1,c2] (Int.toNat (IntKind.wrap IntKind.i64 (IntKind.wrap IntKind.i64 ((0:Int)+(1:Int))+(1:Int)))) (Enc.dflt eC)).4))] (i*(1:Nat)+j) D.nilp,D.int IntKind.i64 (0:Int)] (i*(4:Nat)+j) D.nilp) fun(i j:Nat)=>List.getD [D.int IntKind.i64 (2:Int),D.int IntKind.i64 (1:Int),D.sl true (3:Nat) (1:Nat) fun(i j:Nat)=>List.getD [D.int IntKind.i64 (IntKind.wrap IntKind.i64 ((List.getD [c0,c1,c2] (Int.toNat (0:Int)) (Enc.dflt eC)).5-h1)),D.int IntKind.i64 (IntKind.wrap IntKind.i64 ((List.getD [c0,c1,c2] (Int.toNat (IntKind.wrap IntKind.i64 ((0:Int)+(1:Int)))) (Enc.dflt eC)).5-h1)),D.int IntKind.i64 (IntKind.wrap IntKind.i64 ((List.getD [c0,c1,c2] (Int.toNat (IntKind.wrap IntKind.i64 (IntKind.wrap IntKind.i64 ((0:Int)+(1:Int))+(1:Int)))) (Enc.dflt eC)).5-h1))] (i*(1:Nat)+j) D.nilp,D.int IntKind.i64 (0:Int)] (i*(4:Nat)+j) D.nilp) fun(i j:Nat)=>List.getD [D.int IntKind.i64 (3:Int),D.int IntKind.i64 (1:Int),D.sl true (3:Nat) (1:Nat) fun(i j:Nat)=>List.getD [D.int IntKind.i64 (IntKind.wrap IntKind.i64 (l1-(List.getD [c0,c1,c2] (Int.toNat (0:Int)) (Enc.dflt eC)).5)),D.int IntKind.i64 (IntKind.wrap IntKind.i64 (l1-(List.getD [c0,c1,c2] (Int.toNat (IntKind.wrap IntKind.i64 ((0:Int)+(1:Int)))) (Enc.dflt eC)).5)),D.int IntKind.i64 (IntKind.wrap IntKind.i64 (l1-(List.getD [c0,c1,c2] (Int.toNat (IntKind.wrap IntKind.i64 (IntKind.wrap IntKind.i64 ((0:Int)+(1:Int))+(1:Int)))) (Enc.dflt eC)).5))] (i*(1:Nat)+j) D.nilp,D.int IntKind.i64 (0:Int)] (i*(4:Nat)+j) D.nilp) fun(i j:Nat)=>List.getD [D.int IntKind.i64 (2:Int),D.int IntKind.i64 (2:Int),D.sl true (3:Nat) (1:Nat) fun(i j:Nat)=>List.getD [D.int IntKind.i64 (IntKind.wrap IntKind.i64 ((List.getD [c0,c1,c2] (Int.toNat (0:Int)) (Enc.dflt eC)).6-h2)),D.int IntKind.i64 (IntKind.wrap IntKind.i64 ((List.getD [c0,c1,c2] (Int.toNat (IntKind.wrap IntKind.i64 ((0:Int)+(1:Int)))) (Enc.dflt eC)).6-h2)),D.int IntKind.i64 (IntKind.wrap IntKind.i64 ((List.getD [c0,c1,c2] (Int.toNat (IntKind.wrap IntKind.i64 (IntKind.wrap IntKind.i64 ((0:Int)+(1:Int))+(1:Int)))) (Enc.dflt eC)).6-h2))] (i*(1:Nat)+j) D.nilp,D.int IntKind.i64 (0:Int)] (i*(4:Nat)+j) D.nilp) fun(i j:Nat)=>List.getD [D.int IntKind.i64 (3:Int),D.int IntKind.i64 (2:Int),D.sl true (3:Nat) (1:Nat) fun(i j:Nat)=>List.getD [D.int IntKind.i64 (IntKind.wrap IntKind.i64 (l2-(List.getD [c0,c1,c2] (Int.toNat (0:Int)) (Enc.dflt eC)).6)),D.int IntKind.i64 (IntKind.wrap IntKind.i64 (l2-(List.getD [c0,c1,c2] (Int.toNat (IntKind.wrap IntKind.i64 ((0:Int)+(1:Int)))) (Enc.dflt eC)).6)),D.int IntKind.i64 (IntKind.wrap IntKind.i64 (l2-(List.getD [c0,c1,c2] (Int.toNat (IntKind.wrap IntKind.i64 (IntKind.wrap IntKind.i64 ((0:Int)+(1:Int))+(1:Int)))) (Enc.dflt eC)).6))] (i*(1:Nat)+j) D.nilp,D.int IntKind.i64 (0:Int)] (i*(4:Nat)+j) D.nilp) fun(i j:Nat)=>List.getD [D.int IntKind.i64 (2:Int),D.int IntKind.i64 (3:Int),D.sl true (3:Nat) (1:Nat) fun(i j:Nat)=>List.getD [D.int IntKind.i64 (IntKind.wrap IntKind.i64 ((List.getD [c0,c1,c2] (Int.toNat (0:Int)) (Enc.dflt eC)).7-h3)),D.int IntKind.i64 (IntKind.wrap IntKind.i64 ((List.getD [c0,c1,c2] (Int.toNat (IntKind.wrap IntKind.i64 ((0:Int)+(1:Int)))) (Enc.dflt eC)).7-h3)),D.int IntKind.i64 (IntKind.wrap IntKind.i64 ((List.getD [c0,c1,c2] (Int.toNat (IntKind.wrap IntKind.i64 (IntKind.wrap IntKind.i64 ((0:Int)+(1:Int))+(1:Int)))) (Enc.dflt eC)).7-h3))] (i*(1:Nat)+j) D.nilp,D.int IntKind.i64 (0:Int)] (i*(4:Nat)+j) D.nilp) fun(i j:Nat)=>List.getD [D.int IntKind.i64 (3:Int),D.int IntKind.i64 (3:Int),D.sl true (3:Nat) (1:Nat) fun(i j:Nat)=>List.getD [D.int IntKind.i64 (IntKind.wrap IntKind.i64 (l3-(List.getD [c0,c1,c2] (Int.toNat (0:Int)) (Enc.dflt eC)).7)),D.int IntKind.i64 (IntKind.wrap IntKind.i64 (l3-(List.getD [c0,c1,c2] (Int.toNat (IntKind.wrap IntKind.i64 ((0:Int)+(1:Int)))) (Enc.dflt eC)).7)),D.int IntKind.i64 (IntKind.wrap IntKind.i64 (l3-(List.getD [c0,c1,c2] (Int.toNat (IntKind.wrap IntKind.i64 (IntKind.wrap IntKind.i64 ((0:Int)+(1:Int))+(1:Int)))) (Enc.dflt eC)).7))] (i*(1:Nat)+j) D.nilp,D.int IntKind.i64 (0:Int)] (i*(4:Nat)+j) D.nilp)]]))))))))))))))))))))))))))))))))))))))))))))))))))))))))))))))))))))))))))))))))))))))))))))))))))))))))))))))))))))))))))))))))))))))))
theorem t66_3(q:Bool)(c0 c1 c2:Cask)(sv l0 h0 l1 h1 l2 h2 l3 h3:Int):runFnX Tryz.prog G0 (lookS []) (fun _=>[(999999,[],none)]) [116,154,155,156,157,158,159,160] 1 60 6 64 Tryz.f64 [.c (.sl q 3 7 (eC.F [c0,c1,c2])),.agg [dI sv,dI l0,dI h0,dI l1,dI h1,dI l2,dI h2,dI l3,dI h3]] =
  tr66_3 c0 c1 c2 sv l0 h0 l1 h1 l2 h2 l3 h3:=by kernel_rfl
theorem w66_3(c0 c1 c2:Cask)(sv l0 h0 l1 h1 l2 h2 l3 h3:Int):(tr66_3 c0 c1 c2 sv l0 h0 l1 h1 l2 h2 l3 h3).wp (fun rs=>rsEqv rs (res66 [c0,c1,c2] ⟨sv,⟨l0,h0⟩,⟨l1,h1⟩,⟨l2,h2⟩,⟨l3,h3⟩⟩)):=by
 unfold tr66_3
 repeat (refine⟨by decide,?_⟩)
 refine⟨⟨?_,rfl,?_,?_,trivial⟩,trivial⟩
 ·refine sl_ints (q':=false) (l:=M.shares [c0,c1,c2] 0) (fun e=>nomatch e) ?_
  kernel_rfl
 ·refine sl_ints (q':=false) (l:=M.costs [c0,c1,c2]) (fun e=>nomatch e) ?_
  kernel_rfl
 ·refine conds_eqv (q':=false) (m:=M.limits [c0,c1,c2] ⟨sv,⟨l0,h0⟩,⟨l1,h1⟩,⟨l2,h2⟩,⟨l3,h3⟩⟩ 0) (fun e=>nomatch e) ?_
  kernel_rfl
end Go.Bl
end
section
set_option maxRecDepth 100000
namespace Go.Bl
open Go.Gd
open Go.V Go.Proofs
def tr66_4(c0 c1 c2 c3:Cask)(sv l0 h0 l1 h1 l2 h2 l3 h3:Int):T (List Ar):=
  T.need ((1:Nat)≤(1000000:Nat)) (T.need ((2:Nat)≤(1000000:Nat)) (T.need ((1:Nat)≤(1:Nat)) (T.need ((3:Nat)≤(1000000:Nat)) (T.need ((2:Nat)≤(2:Nat)) (T.need ((4:Nat)≤(1000000:Nat)) (T.need ((3:Nat)≤(3:Nat)) (T.need ((0:Int)≤(0:Int)) (T.need ((0:Int)<(4:Int)) (T.need ((5:Nat)≤(1000000:Nat)) (T.need ((4:Nat)≤(4:Nat)) (T.need ((0:Int)≤(1:Int)) (T.need ((1:Int)<(4:Int)) (T.need ((6:Nat)≤(1000000:Nat)) (T.need ((5:Nat)≤(5:Nat)) (T.need ((0:Int)≤(2:Int)) (T.need ((2:Int)<(4:Int)) (T.need ((7:Nat)≤(1000000:Nat)) (T.need ((6:Nat)≤(6:Nat)) (T.need ((0:Int)≤(3:Int)) (T.need ((3:Int)<(4:Int)) (T.need ((8:Nat)≤(1000000:Nat)) (T.need ((7:Nat)≤(7:Nat)) (T.need ((0:Int)≤(0:Int)) (T.need ((0:Int)<(4:Int)) (T.need ((0:Int)≤(0:Int)) (T.need ((0:Int)<(4:Int)) (T.need ((0:Int)≤(1:Int)) (T.need ((1:Int)<(4:Int)) (T.need ((0:Int)≤(0:Int)) (T.need ((0:Int)<(4:Int)) (T.need ((0:Int)≤(2:Int)) (T.need ((2:Int)<(4:Int)) (T.need ((0:Int)≤(0:Int)) (T.need ((0:Int)<(4:Int)) (T.need ((0:Int)≤(3:Int)) (T.need ((3:Int)<(4:Int)) (T.need ((0:Int)≤(0:Int)) (T.need ((0:Int)<(4:Int)) (T.need ((9:Nat)≤(1000000:Nat)) (T.need ((8:Nat)≤(8:Nat)) (T.need ((0:Int)≤(0:Int)) (T.need ((0:Int)<(4:Int)) (T.need ((0:Int)≤(0:Int)) (T.need ((0:Int)<(4:Int)) (T.need ((0:Int)≤(1:Int)) (T.need ((1:Int)<(4:Int)) (T.need ((0:Int)≤(0:Int)) (T.need ((0:Int)<(4:Int)) (T.need ((0:Int)≤(2:Int)) (T.need ((2:Int)<(4:Int)) (T.need ((0:Int)≤(0:Int)) (T.need ((0:Int)<(4:Int)) (T.need ((0:Int)≤(3:Int)) (T.need ((3:Int)<(4:Int)) (T.need ((0:Int)≤(0:Int)) (T.need ((0:Int)<(4:Int)) (T.need ((10:Nat)≤(1000000:Nat)) (T.need ((9:Nat)≤(9:Nat)) (T.need ((0:Int)≤(0:Int)) (T.need ((0:Int)<(4:Int)) (T.need ((0:Int)≤(1:Int)) (T.need ((1:Int)<(4:Int)) (T.need ((0:Int)≤(1:Int)) (T.need ((1:Int)<(4:Int)) (T.need ((0:Int)≤(1:Int)) (T.need ((1:Int)<(4:Int)) (T.need ((0:Int)≤(2:Int)) (T.need ((2:Int)<(4:Int)) (T.need ((0:Int)≤(1:Int)) (T.need ((1:Int)<(4:Int)) (T.need ((0:Int)≤(3:Int)) (T.need ((3:Int)<(4:Int)) (T.need ((0:Int)≤(1:Int)) (T.need ((1:Int)<(4:Int)) (T.need ((11:Nat)≤(1000000:Nat)) (T.need ((10:Nat)≤(10:Nat)) (T.need ((0:Int)≤(0:Int)) (T.need ((0:Int)<(4:Int)) (T.need ((0:Int)≤(1:Int)) (T.need ((1:Int)<(4:Int)) (T.need ((0:Int)≤(1:Int)) (T.need ((1:Int)<(4:Int)) (T.need ((0:Int)≤(1:Int)) (T.need ((1:Int)<(4:Int)) (T.need ((0:Int)≤(2:Int)) (T.need ((2:Int)<(4:Int)) (T.need ((0:Int)≤(1:Int)) (T.need ((1:Int)<(4:Int)) (T.need ((0:Int)≤(3:Int)) (T.need ((3:Int)<(4:Int)) (T.need ((0:Int)≤(1:Int)) (T.need ((1:Int)<(4:Int)) (T.need ((12:Nat)≤(1000000:Nat)) (T.need ((11:Nat)≤(11:Nat)) (T.need ((0:Int)≤(0:Int)) (T.need ((0:Int)<(4:Int)) (T.need ((0:Int)≤(2:Int)) (T.need ((2:Int)<(4:Int)) (T.need ((0:Int)≤(1:Int)) (T.need ((1:Int)<(4:Int)) (T.need ((0:Int)≤(2:Int)) (T.need ((2:Int)<(4:Int)) (T.need ((0:Int)≤(2:Int)) (T.need ((2:Int)<(4:Int)) (T.need ((0:Int)≤(2:Int)) (T.need ((2:Int)<(4:Int)) (T.need ((0:Int)≤(3:Int)) (T.need ((3:Int)<(4:Int)) (T.need ((0:Int)≤(2:Int)) (T.need ((2:Int)<(4:Int)) (T.need ((13:Nat)≤(1000000:Nat)) (T.need ((12:Nat)≤(12:Nat)) (T.need ((0:Int)≤(0:Int)) (T.need ((0:Int)<(4:Int)) (T.need ((0:Int)≤(2:Int)) (T.need ((2:Int)<(4:Int)) (T.need ((0:Int)≤(1:Int)) (T.need ((1:Int)<(4:Int)) (T.need ((0:Int)≤(2:Int)) (T.need ((2:Int)<(4:Int)) (T.need ((0:Int)≤(2:Int)) (T.need ((2:Int)<(4:Int)) (T.need ((0:Int)≤(2:Int)) (T.need ((2:Int)<(4:Int)) (T.need ((0:Int)≤(3:Int)) (T.need ((3:Int)<(4:Int)) (T.need ((0:Int)≤(2:Int)) (T.need ((2:Int)<(4:Int)) (T.need ((14:Nat)≤(1000000:Nat)) (T.need ((13:Nat)≤(13:Nat)) (T.need ((0:Int)≤(0:Int)) (T.need ((0:Int)<(4:Int)) (T.need ((0:Int)≤(3:Int)) (T.need ((3:Int)<(4:Int)) (T.need ((0:Int)≤(1:Int)) (T.need ((1:Int)<(4:Int)) (T.need ((0:Int)≤(3:Int)) (T.need ((3:Int)<(4:Int)) (T.need ((0:Int)≤(2:Int)) (T.need ((2:Int)<(4:Int)) (T.need ((0:Int)≤(3:Int)) (T.need ((3:Int)<(4:Int)) (T.need ((0:Int)≤(3:Int)) (T.need ((3:Int)<(4:Int)) (T.need ((0:Int)≤(3:Int)) (T.need ((3:Int)<(4:Int)) (T.need ((15:Nat)≤(1000000:Nat)) (T.need ((14:Nat)≤(14:Nat)) (T.need ((0:Int)≤(0:Int)) (T.need ((0:Int)<(4:Int)) (T.need ((0:Int)≤(3:Int)) (T.need ((3:Int)<(4:Int)) (T.need ((0:Int)≤(1:Int)) (T.need ((1:Int)<(4:Int)) (T.need ((0:Int)≤(3:Int)) (T.need ((3:Int)<(4:Int)) (T.need ((0:Int)≤(2:Int)) (T.need ((2:Int)<(4:Int)) (T.need ((0:Int)≤(3:Int)) (T.need ((3:Int)<(4:Int)) (T.need ((0:Int)≤(3:Int)) (T.need ((3:Int)<(4:Int)) (T.need ((0:Int)≤(3:Int)) (T.need ((3:Int)<(4:Int)) (T.need ((16:Nat)≤(1000000:Nat)) (T.need ((15:Nat)≤(15:Nat)) (T.need ((0:Int)≤(0:Int)) (T.need ((0:Int)<(4:Int)) (T.need ((0:Int)≤(1:Int)) (T.need ((1:Int)<(4:Int)) (T.need ((0:Int)≤(2:Int)) (T.need ((2:Int)<(4:Int)) (T.need ((0:Int)≤(3:Int)) (T.need ((3:Int)<(4:Int)) (T.need ((16:Nat)≤(16:Nat)) (T.ret [Ar.agg [D.sl true (4:Nat) (1:Nat) fun(i' j:Nat)=>List.getD [D.int IntKind.i64 (1:Int),D.int IntKind.i64 (1:Int),D.int IntKind.i64 (1:Int),D.int IntKind.i64 (1:Int)] (i'*(1:Nat)+j) D.nilp,D.int IntKind.i64 sv,D.sl true (4:Nat) (1:Nat) fun(i' j:Nat)=>List.getD [D.int IntKind.i64 (List.getD [c0,c1,c2,c3] (Int.toNat (0:Int)) (Enc.dflt eC)).3,D.int IntKind.i64 (List.getD [c0,c1,c2,c3] (Int.toNat (IntKind.wrap IntKind.i64 ((0:Int)+(1:Int)))) (Enc.dflt eC)).3,D.int IntKind.i64 (List.getD [c0,c1,c2,c3] (Int.toNat (IntKind.wrap IntKind.i64 (IntKind.wrap IntKind.i64 ((0:Int)+(1:Int))+(1:Int)))) (Enc.dflt eC)).3,D.int IntKind.i64 (List.getD [c0,c1,c2,c3] (Int.toNat (IntKind.wrap IntKind.i64 (IntKind.wrap IntKind.i64 (IntKind.wrap IntKind.i64 ((0:Int)+(1:Int))+(1:Int))+(1:Int)))) (Enc.dflt eC)).3] (i'*(1:Nat)+j) D.nilp,D.sl true (16:Nat) (4:Nat) (joinF (15:Nat) (joinF (14:Nat) (joinF (13:Nat) (joinF (12:Nat) (joinF (11:Nat) (joinF (10:Nat) (joinF (9:Nat) (joinF (8:Nat) (joinF (7:Nat) (joinF (6:Nat) (joinF (5:Nat) (joinF (4:Nat) (joinF (3:Nat) (joinF (2:Nat) (joinF (1:Nat) (joinF (0:Nat) (fun(x x_1:Nat)=>D.nilp) fun(i j:Nat)=>List.getD [D.int IntKind.i64 (0:Int),D.int IntKind.i64 (0:Int),D.sl true (4:Nat) (1:Nat) fun(i j:Nat)=>List.getD [D.int IntKind.i64 (-1:Int),D.int IntKind.i64 (0:Int),D.int IntKind.i64 (0:Int),D.int IntKind.i64 (0:Int)] (i*(1:Nat)+j) D.nilp,D.int IntKind.i64 (0:Int)] (i*(4:Nat)+j) D.nilp) fun(i j:Nat)=>List.getD [D.int IntKind.i64 (0:Int),D.int IntKind.i64 (1:Int),D.sl true (4:Nat) (1:Nat) fun(i j:Nat)=>List.getD [D.int IntKind.i64 (0:Int),D.int IntKind.i64 (-1:Int),D.int IntKind.i64 (0:Int),D.int IntKind.i64 (0:Int)] (i*(1:Nat)+j) D.nilp,D.int IntKind.i64 (0:Int)] (i*(4:Nat)+j) D.nilp) fun(i j:Nat)=>List.getD [D.int IntKind.i64 (0:Int),D.int IntKind.i64 (2:Int),D.sl true (4:Nat) (1:Nat) fun(i j:Nat)=>List.getD [D.int IntKind.i64 (0:Int),D.int IntKind.i64 (0:Int),D.int IntKind.i64 (-1:Int),D.int IntKind.i64 (0:Int)] (i*(1:Nat)+j) D.nilp,D.int IntKind.i64 (0:Int)] (i*(4:Nat)+j) D.nilp) fun(i j:Nat)=>List.getD [D.int IntKind.i64 (0:Int),D.int IntKind.i64 (3:Int),D.sl true (4:Nat) (1:Nat) fun(i j:Nat)=>List.getD [D.int IntKind.i64 (0:Int),D.int IntKind.i64 (0:Int),D.int IntKind.i64 (0:Int),D.int IntKind.i64 (-1:Int)] (i*(1:Nat)+j) D.nilp,D.int IntKind.i64 (0:Int)] (i*(4:Nat)+j) D.nilp) fun(i j:Nat)=>List.getD [D.int IntKind.i64 (1:Int),D.int IntKind.i64 (0:Int),D.sl true (4:Nat) (1:Nat) fun(i j:Nat)=>List.getD [D.int IntKind.i64 (1:Int),D.int IntKind.i64 (0:Int),D.int IntKind.i64 (0:Int),D.int IntKind.i64 (0:Int)] (i*(1:Nat)+j) D.nilp,D.int IntKind.i64 (List.getD [c0,c1,c2,c3] (Int.toNat (0:Int)) (Enc.dflt eC)).2] (i*(4:Nat)+j) D.nilp) fun(i j:Nat)=>List.getD [D.int IntKind.i64 (1:Int),D.int IntKind.i64 (1:Int),D.sl true (4:Nat) (1:Nat) fun(i j:Nat)=>List.getD [D.int IntKind.i64 (0:Int),D.int IntKind.i64 (1:Int),D.int IntKind.i64 (0:Int),D.int IntKind.i64 (0:Int)] (i*(1:Nat)+j) D.nilp,D.int IntKind.i64 (List.getD [c0,c1,c2,c3] (Int.toNat (IntKind.wrap IntKind.i64 ((0:Int)+(1:Int)))) (Enc.dflt eC)).2] (i*(4:Nat)+j) D.nilp) fun(i j:Nat)=>List.getD [D.int IntKind.i64 (1:Int),D.int IntKind.i64 (2:Int),D.sl true (4:Nat) (1:Nat) fun(i j:Nat)=>List.getD [D.int IntKind.i64 (0:Int),D.int IntKind.i64 (0:Int),D.int IntKind.i64 (1:Int),D.int IntKind.i64 (0:Int)] (i*(1:Nat)+j) D.nilp,D.int IntKind.i64 (List.getD [c0,c1,c2,c3] (Int.toNat (IntKind.wrap IntKind.i64 (IntKind.wrap IntKind.i64 ((0:Int)+(1:Int))+(1:Int)))) (Enc.dflt eC)).2] (i*(4:Nat)+j) D.nilp) fun(i j:Nat)=>List.getD [D.int IntKind.i64 (1:Int),D.int IntKind.i64 (3:Int),D.sl true (4:Nat) (1:Nat) fun(i j:Nat)=>List.getD [D.int IntKind.i64 (0:Int),D.int IntKind.i64 (0:Int),D.int IntKind.i64 (0:Int),D.int IntKind.i64 (1:Int)] (i*(1:Nat)+j) D.nilp,D.int IntKind.i64 (List.getD [c0,c1,c2,c3] (Int.toNat (IntKind.wrap IntKind.i64 (IntKind.wrap IntKind.i64 (IntKind.wrap IntKind.i64 ((0:Int)+(1:Int))+(1:Int))+(1:Int)))) (Enc.dflt eC)).2] (i*(4:Nat)+j) D.nilp) fun(i j:Nat)=>List.getD [D.int IntKind.i64 (2:Int),D.int IntKind.i64 (0:Int),D.sl true (4:Nat) (1:Nat) fun(i j:Nat)=>List.getD [D.int IntKind.i64 (IntKind.wrap IntKind.i64 ((List.getD [c0,c1,c2,c3] (Int.toNat (0:Int)) (Enc.dflt eC)).4-h0)),D.int IntKind.i64 (IntKind.wrap IntKind.i64 ((List.getD [c0,c1,c2,c3] (Int.toNat (IntKind.wrap IntKind.i64 ((0:Int)+(1:Int)))) (Enc.dflt eC)).4-h0)),D.int IntKind.i64 (IntKind.wrap IntKind.i64 ((List.getD [c0,c1,c2,c3] (Int.toNat (IntKind.wrap IntKind.i64 (IntKind.wrap IntKind.i64 ((0:Int)+(1:Int))+(1:Int)))) (Enc.dflt eC)).4-h0)),D.int IntKind.i64 (IntKind.wrap IntKind.i64 ((List.getD [c0,c1,c2,c3] (Int.toNat (IntKind.wrap IntKind.i64 (IntKind.wrap IntKind.i64 (IntKind.wrap IntKind.i64 ((0:Int)+(1:Int))+(1:Int))+(1:Int)))) (Enc.dflt eC)).4-h0))] (i*(1:Nat)+j) D.nilp,D.int IntKind.i64 (0:Int)] (i*(4:Nat)+j) D.nilp) fun(i j:Nat)=>List.getD [D.int IntKind.i64 (3:Int),D.int IntKind.i64 (0:Int),D.sl true (4:Nat) (1:Nat) fun(i j:Nat)=>List.getD [D.int IntKind.i64 (IntKind.wrap IntKind.i64 (l0-(List.getD [c0,c1,c2,c3] (Int.toNat (0:Int)) (Enc.dflt eC)).4)),D.int IntKind.i64 (IntKind.wrap IntKind.i64 (l0-(List.getD [c0,c1,c2,c3] (Int.toNat (IntKind.wrap IntKind.i64 ((0:Int)+(1:Int)))) (Enc.dflt eC)).4)),D.int IntKind.i64 (IntKind.wrap IntKind.i64 (l0-(List.getD [c0,c1,c2,c3] (Int.toNat (IntKind.wrap IntKind.i64 (IntKind.wrap IntKind.i64 ((0:Int)+(1:Int))+(1:Int)))) (Enc.dflt eC)).4)),D.int IntKind.i64 (IntKind.wrap IntKind.i64 (l0-(List.getD [c0,c1,c2,c3] (Int.toNat (IntKind.wrap IntKind.i64 (IntKind.wrap IntKind.i64 (IntKind.wrap IntKind.i64 ((0:Int)+(1:Int))+(1:Int))+(1:Int)))) (Enc.dflt eC)).4))] (i*(1:Nat)+j) D.nilp,D.int IntKind.i64 (0:Int)] (i*(4:Nat)+j) D.nilp) fun(i j:Nat)=>List.getD [D.int IntKind.i64 (2:Int),D.int IntKind.i64 (1:Int),D.sl true (4:Nat) (1:Nat) fun(i j:Nat)=>List.getD [D.int IntKind.i64 (IntKind.wrap IntKind.i64 ((List.getD [c0,c1,c2,c3] (Int.toNat (0:Int)) (Enc.dflt eC)).5-h1)),D.int IntKind.i64 (IntKind.wrap IntKind.i64 ((List.getD [c0,c1,c2,c3] (Int.toNat (IntKind.wrap IntKind.i64 ((0:Int)+(1:Int)))) (Enc.dflt eC)).5-h1)),D.int IntKind.i64 (IntKind.wrap IntKind.i64 ((List.getD [c0,c1,c2,c3] (Int.toNat (IntKind.wrap IntKind.i64 (IntKind.wrap IntKind.i64 ((0:Int)+(1:Int))+(1:Int)))) (Enc.dflt eC)).5-h1)),D.int IntKind.i64 (IntKind.wrap IntKind.i64 ((List.getD [c0,c1,c2,c3] (Int.toNat (IntKind.wrap IntKind.i64 (IntKind.wrap IntKind.i64 (IntKind.wrap IntKind.i64 ((0:Int)+(1:Int))+(1:Int))+(1:Int)))) (Enc.dflt eC)).5-h1))] (i*(1:Nat)+j) D.nilp,D.int IntKind.i64 (0:Int)] (i*(4:Nat)+j) D.nilp) fun(i j:Nat)=>List.getD [D.int IntKind.i64 (3:Int),D.int IntKind.i64 (1:Int),D.sl true (4:Nat) (1:Nat) fun(i j:Nat)=>List.getD [D.int IntKind.i64 (IntKind.wrap IntKind.i64 (l1-(List.getD [c0,c1,c2,c3] (Int.toNat (0:Int)) (Enc.dflt eC)).5)),D.int IntKind.i64 (IntKind.wrap IntKind.i64 (l1-(List.getD [c0,c1,c2,c3] (Int.toNat (IntKind.wrap IntKind.i64 ((0:Int)+(1:Int)))) (Enc.dflt eC)).5)),D.int IntKind.i64 (IntKind.wrap IntKind.i64 (l1-(List.getD [c0,c1,c2,c3] (Int.toNat (IntKind.wrap IntKind.i64 (IntKind.wrap IntKind.i64 ((0:Int)+(1:Int))+(1:Int)))) (Enc.dflt eC)).5)),D.int IntKind.i64 (IntKind.wrap IntKind.i64 (l1-(List.getD [c0,c1,c2,c3] (Int.toNat (IntKind.wrap IntKind.i64 (IntKind.wrap IntKind.i64 (IntKind.wrap IntKind.i64 ((0:Int)+(1:Int))+(1:Int))+(1:Int)))) (Enc.dflt eC)).5))] (i*(1:Nat)+j) D.nilp,D.int IntKind.i64 (0:Int)] (i*(4:Nat)+j) D.nilp) fun(i j:Nat)=>List.getD [D.int IntKind.i64 (2:Int),D.int IntKind.i64 (2:Int),D.sl true (4:Nat) (1:Nat) fun(i j:Nat)=>List.getD [D.int IntKind.i64 (IntKind.wrap IntKind.i64 ((List.getD [c0,c1,c2,c3] (Int.toNat (0:Int)) (Enc.dflt eC)).6-h2)),D.int IntKind.i64 (IntKind.wrap IntKind.i64 ((List.getD [c0,c1,c2,c3] (Int.toNat (IntKind.wrap IntKind.i64 ((0:Int)+(1:Int)))) (Enc.dflt eC)).6-h2)),D.int IntKind.i64 (IntKind.wrap IntKind.i64 ((List.getD [c0,c1,c2,c3] (Int.toNat (IntKind.wrap IntKind.i64 (IntKind.wrap IntKind.i64 ((0:Int)+(1:Int))+(1:Int)))) (Enc.dflt eC)).6-h2)),D.int IntKind.i64 (IntKind.wrap IntKind.i64 ((List.getD [c0,c1,c2,c3] (Int.toNat (IntKind.wrap IntKind.i64 (IntKind.wrap IntKind.i64 (IntKind.wrap IntKind.i64 ((0:Int)+(1:Int))+(1:Int))+(1:Int)))) (Enc.dflt eC)).6-h2))] (i*(1:Nat)+j) D.nilp,D.int IntKind.i64 (0:Int)] (i*(4:Nat)+j) D.nilp) fun(i j:Nat)=>List.getD [D.int IntKind.i64 (3:Int),D.int IntKind.i64 (2:Int),D.sl true (4:Nat) (1:Nat) fun(i j:Nat)=>List.getD [D.int IntKind.i64 (IntKind.wrap IntKind.i64 (l2-(List.getD [c0,c1,c2,c3] (Int.toNat (0:Int)) (Enc.dflt eC)).6)),D.int IntKind.i64 (IntKind.wrap IntKind.i64 (l2-(List.getD [c0,c1,c2,c3] (Int.toNat (IntKind.wrap IntKind.i64 ((0:Int)+(1:Int)))) (Enc.dflt eC)).6)),D.int IntKind.i64 (IntKind.wrap IntKind.i64 (l2-(List.getD [c0,c1,c2,c3] (Int.toNat (IntKind.wrap IntKind.i64 (IntKind.wrap IntKind.i64 ((0:Int)+(1:Int))+(1:Int)))) (Enc.dflt eC)).6)),D.int IntKind.i64 (IntKind.wrap IntKind.i64 (l2-(List.getD [c0,c1,c2,c3] (Int.toNat (IntKind.wrap IntKind.i64 (IntKind.wrap IntKind.i64 (IntKind.wrap IntKind.i64 ((0:Int)+(1:Int))+(1:Int))+(1:Int)))) (Enc.dflt eC)).6))] (i*(1:Nat)+j) D.nilp,D.int IntKind.i64 (0:Int)] (i*(4:Nat)+j) D.nilp) fun(i j:Nat)=>List.getD [D.int IntKind.i64 (2:Int),D.int IntKind.i64 (3:Int),D.sl true (4:Nat) (1:Nat) fun(i j:Nat)=>List.getD [D.int IntKind.i64 (IntKind.wrap IntKind.i64 ((List.getD [c0,c1,c2,c3] (Int.toNat (0:Int)) (Enc.dflt eC)).7-h3)),D.int IntKind.i64 (IntKind.wrap IntKind.i64 ((List.getD [c0,c1,c2,c3] (Int.toNat (IntKind.wrap IntKind.i64 ((0:Int)+(1:Int)))) (Enc.dflt eC)).7-h3)),D.int IntKind.i64 (IntKind.wrap IntKind.i64 ((List.getD [c0,c1,c2,c3] (Int.toNat (IntKind.wrap IntKind.i64 (IntKind.wrap IntKind.i64 ((0:Int)+(1:Int))+(1:Int)))) (Enc.dflt eC)).7-h3)),D.int IntKind.i64 (IntKind.wrap IntKind.i64 ((List.getD [c0,c1,c2,c3] (Int.toNat (IntKind.wrap IntKind.i64 (IntKind.wrap IntKind.i64 (IntKind.wrap IntKind.i64 ((0:Int)+(1:Int))+(1:Int))+(1:Int)))) (Enc.dflt eC)).7-h3))] (i*(1:Nat)+j) D.nilp,D.int IntKind.i64 (0:Int)] (i*(4:Nat)+j) D.nilp) fun(i j:Nat)=>List.getD [D.int IntKind.i64 (3:Int),D.int IntKind.i64 (3:Int),D.sl true (4:Nat) (1:Nat) fun(i j:Nat)=>List.getD [D.int IntKind.i64 (IntKind.wrap IntKind.i64 (l3-(List.getD [c0,c1,c2,c3] (Int.toNat (0:Int)) (Enc.dflt eC)).7)),D.int IntKind.i64 (IntKind.wrap IntKind.i64 (l3-(List.getD [c0,c1,c2,c3] (Int.toNat (IntKind.wrap IntKind.i64 ((0:Int)+(1:Int)))) (Enc.dflt eC)).7)),D.int IntKind.i64 (IntKind.wrap IntKind.i64 (l3-(List.getD [c0,c1,c2,c3] (Int.toNat (IntKind.wrap IntKind.i64 (IntKind.wrap IntKind.i64 ((0:Int)+(1:Int))+(1:Int)))) (Enc.dflt eC)).7)),D.int IntKind.i64 (IntKind.wrap IntKind.i64 (l3-(List.getD [c0,c1,c2,c3] (Int.toNat (IntKind.wrap IntKind.i64 (IntKind.wrap IntKind.i64 (IntKind.wrap IntKind.i64 ((0:Int)+(1:Int))+(1:Int))+(1:Int)))) (Enc.dflt eC)).7))] (i*(1:Nat)+j) D.nilp,D.int IntKind.i64 (0:Int)] (i*(4:Nat)+j) D.nilp)]]))))))))))))))))))))))))))))))))))))))))))))))))))))))))))))))))))))))))))))))))))))))))))))))))))))))))))))))))))))))))))))))))))))))))))))))))))))))))))))))))))))))))))))))))
theorem t66_4(q:Bool)(c0 c1 c2 c3:Cask)(sv l0 h0 l1 h1 l2 h2 l3 h3:Int):runFnX Tryz.prog G0 (lookS []) (fun _=>[(999999,[],none)]) [116,154,155,156,157,158,159,160] 1 60 6 64 Tryz.f64 [.c (.sl q 4 7 (eC.F [c0,c1,c2,c3])),.agg [dI sv,dI l0,dI h0,dI l1,dI h1,dI l2,dI h2,dI l3,dI h3]] =
  tr66_4 c0 c1 c2 c3 sv l0 h0 l1 h1 l2 h2 l3 h3:=by kernel_rfl
theorem w66_4(c0 c1 c2 c3:Cask)(sv l0 h0 l1 h1 l2 h2 l3 h3:Int):(tr66_4 c0 c1 c2 c3 sv l0 h0 l1 h1 l2 h2 l3 h3).wp (fun rs=>rsEqv rs (res66 [c0,c1,c2,c3] ⟨sv,⟨l0,h0⟩,⟨l1,h1⟩,⟨l2,h2⟩,⟨l3,h3⟩⟩)):=by
 unfold tr66_4
 repeat (refine⟨by decide,?_⟩)
 refine⟨⟨?_,rfl,?_,?_,trivial⟩,trivial⟩
 ·refine sl_ints (q':=false) (l:=M.shares [c0,c1,c2,c3] 0) (fun e=>nomatch e) ?_
  kernel_rfl
 ·refine sl_ints (q':=false) (l:=M.costs [c0,c1,c2,c3]) (fun e=>nomatch e) ?_
  kernel_rfl
 ·refine conds_eqv (q':=false) (m:=M.limits [c0,c1,c2,c3] ⟨sv,⟨l0,h0⟩,⟨l1,h1⟩,⟨l2,h2⟩,⟨l3,h3⟩⟩ 0) (fun e=>nomatch e) ?_
  kernel_rfl
end Go.Bl
end
section
set_option maxRecDepth 100000
namespace Go.Bl
open Go.Gd
open Go.V Go.Proofs
def tr82_1(c0:Cask)(sv l0 h0 l1 h1 l2 h2 l3 h3:Int):T (List Ar):=
  T.need ((1:Nat)≤(1000000:Nat)) (T.need ((2:Nat)≤(1000000:Nat)) (T.need ((1:Nat)≤(1:Nat)) (T.need ((0:Int)≤(0:Int)) (T.need ((0:Int)<(1:Int)) (T.need ((3:Nat)≤(1000000:Nat)) (T.need ((2:Nat)≤(2:Nat)) (T.need ((0:Int)≤(0:Int)) (T.need ((0:Int)<(1:Int)) (T.need ((0:Int)≤(0:Int)) (T.need ((0:Int)<(4:Int)) (T.need ((4:Nat)≤(1000000:Nat)) (T.need ((3:Nat)≤(3:Nat)) (T.need ((0:Int)≤(0:Int)) (T.need ((0:Int)<(1:Int)) (T.need ((0:Int)≤(0:Int)) (T.need ((0:Int)<(4:Int)) (T.need ((5:Nat)≤(1000000:Nat)) (T.need ((4:Nat)≤(4:Nat)) (T.need ((0:Int)≤(0:Int)) (T.need ((0:Int)<(1:Int)) (T.need ((0:Int)≤(1:Int)) (T.need ((1:Int)<(4:Int)) (T.need ((6:Nat)≤(1000000:Nat)) (T.need ((5:Nat)≤(5:Nat)) (T.need ((0:Int)≤(0:Int)) (T.need ((0:Int)<(1:Int)) (T.need ((0:Int)≤(1:Int)) (T.need ((1:Int)<(4:Int)) (T.need ((7:Nat)≤(1000000:Nat)) (T.need ((6:Nat)≤(6:Nat)) (T.need ((0:Int)≤(0:Int)) (T.need ((0:Int)<(1:Int)) (T.need ((0:Int)≤(2:Int)) (T.need ((2:Int)<(4:Int)) (T.need ((8:Nat)≤(1000000:Nat)) (T.need ((7:Nat)≤(7:Nat)) (T.need ((0:Int)≤(0:Int)) (T.need ((0:Int)<(1:Int)) (T.need ((0:Int)≤(2:Int)) (T.need ((2:Int)<(4:Int)) (T.need ((9:Nat)≤(1000000:Nat)) (T.need ((8:Nat)≤(8:Nat)) (T.need ((0:Int)≤(0:Int)) (T.need ((0:Int)<(1:Int)) (T.need ((0:Int)≤(3:Int)) (T.need ((3:Int)<(4:Int)) (T.need ((10:Nat)≤(1000000:Nat)) (T.need ((9:Nat)≤(9:Nat)) (T.need ((0:Int)≤(0:Int)) (T.need ((0:Int)<(1:Int)) (T.need ((0:Int)≤(3:Int)) (T.need ((3:Int)<(4:Int)) (T.need ((11:Nat)≤(1000000:Nat)) (T.need ((10:Nat)≤(10:Nat)) (T.need ((11:Nat)≤(11:Nat)) (T.ret [Ar.agg [D.sl true (2:Nat) (1:Nat) fun(i' j:Nat)=>List.getD [D.int IntKind.i64 (1:Int),D.int IntKind.i64 (0:Int)] (i'*(1:Nat)+j) D.nilp,D.int IntKind.i64 sv,D.sl true (2:Nat) (1:Nat) fun(i' j:Nat)=>List.getD [D.int IntKind.i64 (0:Int),D.int IntKind.i64 (1:Int)] (i'*(1:Nat)+j) D.nilp,D.sl true (11:Nat) (4:Nat) (joinF (10:Nat) (joinF (9:Nat) (joinF (8:Nat) (joinF (7:Nat) (joinF (6:Nat) (joinF (5:Nat) (joinF (4:Nat) (joinF (3:Nat) (joinF (2:Nat) (joinF (1:Nat) (joinF (0:Nat) (fun(x x_1:Nat)=>D.nilp) fun(i j:Nat)=>List.getD [D.int IntKind.i64 (0:Int),D.int IntKind.i64 (0:Int),D.sl true (2:Nat) (1:Nat) fun(i j:Nat)=>List.getD [D.int IntKind.i64 (-1:Int),D.int IntKind.i64 (0:Int)] (i*(1:Nat)+j) D.nilp,D.int IntKind.i64 (0:Int)] (i*(4:Nat)+j) D.nilp) fun(i j:Nat)=>List.getD [D.int IntKind.i64 (0:Int),D.int IntKind.i64 (1:Int),D.sl true (2:Nat) (1:Nat) fun(i j:Nat)=>List.getD [D.int IntKind.i64 (0:Int),D.int IntKind.i64 (-1:Int)] (i*(1:Nat)+j) D.nilp,D.int IntKind.i64 (0:Int)] (i*(4:Nat)+j) D.nilp) fun(i j:Nat)=>List.getD [D.int IntKind.i64 (1:Int),D.int IntKind.i64 (0:Int),D.sl true (2:Nat) (1:Nat) fun(i j:Nat)=>List.getD [D.int IntKind.i64 (1:Int),D.int IntKind.i64 (0:Int)] (i*(1:Nat)+j) D.nilp,D.int IntKind.i64 (List.getD [c0] (Int.toNat (0:Int)) (Enc.dflt eC)).2] (i*(4:Nat)+j) D.nilp) fun(i j:Nat)=>List.getD [D.int IntKind.i64 (2:Int),D.int IntKind.i64 (0:Int),D.sl true (2:Nat) (1:Nat) fun(i j:Nat)=>List.getD [D.int IntKind.i64 (IntKind.wrap IntKind.i64 ((List.getD [c0] (Int.toNat (0:Int)) (Enc.dflt eC)).4-h0)),D.int IntKind.i64 (-1:Int)] (i*(1:Nat)+j) D.nilp,D.int IntKind.i64 (0:Int)] (i*(4:Nat)+j) D.nilp) fun(i j:Nat)=>List.getD [D.int IntKind.i64 (3:Int),D.int IntKind.i64 (0:Int),D.sl true (2:Nat) (1:Nat) fun(i j:Nat)=>List.getD [D.int IntKind.i64 (IntKind.wrap IntKind.i64 (l0-(List.getD [c0] (Int.toNat (0:Int)) (Enc.dflt eC)).4)),D.int IntKind.i64 (-1:Int)] (i*(1:Nat)+j) D.nilp,D.int IntKind.i64 (0:Int)] (i*(4:Nat)+j) D.nilp) fun(i j:Nat)=>List.getD [D.int IntKind.i64 (2:Int),D.int IntKind.i64 (1:Int),D.sl true (2:Nat) (1:Nat) fun(i j:Nat)=>List.getD [D.int IntKind.i64 (IntKind.wrap IntKind.i64 ((List.getD [c0] (Int.toNat (0:Int)) (Enc.dflt eC)).5-h1)),D.int IntKind.i64 (-1:Int)] (i*(1:Nat)+j) D.nilp,D.int IntKind.i64 (0:Int)] (i*(4:Nat)+j) D.nilp) fun(i j:Nat)=>List.getD [D.int IntKind.i64 (3:Int),D.int IntKind.i64 (1:Int),D.sl true (2:Nat) (1:Nat) fun(i j:Nat)=>List.getD [D.int IntKind.i64 (IntKind.wrap IntKind.i64 (l1-(List.getD [c0] (Int.toNat (0:Int)) (Enc.dflt eC)).5)),D.int IntKind.i64 (-1:Int)] (i*(1:Nat)+j) D.nilp,D.int IntKind.i64 (0:Int)] (i*(4:Nat)+j) D.nilp) fun(i j:Nat)=>List.getD [D.int IntKind.i64 (2:Int),D.int IntKind.i64 (2:Int),D.sl true (2:Nat) (1:Nat) fun(i j:Nat)=>List.getD [D.int IntKind.i64 (IntKind.wrap IntKind.i64 ((List.getD [c0] (Int.toNat (0:Int)) (Enc.dflt eC)).6-h2)),D.int IntKind.i64 (-1:Int)] (i*(1:Nat)+j) D.nilp,D.int IntKind.i64 (0:Int)] (i*(4:Nat)+j) D.nilp) fun(i j:Nat)=>List.getD [D.int IntKind.i64 (3:Int),D.int IntKind.i64 (2:Int),D.sl true (2:Nat) (1:Nat) fun(i j:Nat)=>List.getD [D.int IntKind.i64 (IntKind.wrap IntKind.i64 (l2-(List.getD [c0] (Int.toNat (0:Int)) (Enc.dflt eC)).6)),D.int IntKind.i64 (-1:Int)] (i*(1:Nat)+j) D.nilp,D.int IntKind.i64 (0:Int)] (i*(4:Nat)+j) D.nilp) fun(i j:Nat)=>List.getD [D.int IntKind.i64 (2:Int),D.int IntKind.i64 (3:Int),D.sl true (2:Nat) (1:Nat) fun(i j:Nat)=>List.getD [D.int IntKind.i64 (IntKind.wrap IntKind.i64 ((List.getD [c0] (Int.toNat (0:Int)) (Enc.dflt eC)).7-h3)),D.int IntKind.i64 (-1:Int)] (i*(1:Nat)+j) D.nilp,D.int IntKind.i64 (0:Int)] (i*(4:Nat)+j) D.nilp) fun(i j:Nat)=>List.getD [D.int IntKind.i64 (3:Int),D.int IntKind.i64 (3:Int),D.sl true (2:Nat) (1:Nat) fun(i j:Nat)=>List.getD [D.int IntKind.i64 (IntKind.wrap IntKind.i64 (l3-(List.getD [c0] (Int.toNat (0:Int)) (Enc.dflt eC)).7)),D.int IntKind.i64 (-1:Int)] (i*(1:Nat)+j) D.nilp,D.int IntKind.i64 (0:Int)] (i*(4:Nat)+j) D.nilp)]]))))))))))))))))))))))))))))))))))))))))))))))))))))))))
theorem t82_1(q:Bool)(c0:Cask)(sv l0 h0 l1 h1 l2 h2 l3 h3:Int):runFnX Tryz.prog G0 (lookS []) (fun _=>[(999999,[],none)]) [116,154,155,156,157,158,159,160] 1 60 6 69 Tryz.f69 [.c (.sl q 1 7 (eC.F [c0])),.agg [dI sv,dI l0,dI h0,dI l1,dI h1,dI l2,dI h2,dI l3,dI h3]] =
  tr82_1 c0 sv l0 h0 l1 h1 l2 h2 l3 h3:=by kernel_rfl
theorem w82_1(c0:Cask)(sv l0 h0 l1 h1 l2 h2 l3 h3:Int):(tr82_1 c0 sv l0 h0 l1 h1 l2 h2 l3 h3).wp (fun rs=>rsEqv rs (res82 [c0] ⟨sv,⟨l0,h0⟩,⟨l1,h1⟩,⟨l2,h2⟩,⟨l3,h3⟩⟩)):=by
 unfold tr82_1
 repeat (refine⟨by decide,?_⟩)
 refine⟨⟨?_,rfl,?_,?_,trivial⟩,trivial⟩
 ·refine sl_ints (q':=false) (l:=M.shares [c0] 1) (fun e=>nomatch e) ?_
  kernel_rfl
 ·refine sl_ints (q':=false) (l:=M.far [c0]) (fun e=>nomatch e) ?_
  kernel_rfl
 ·refine conds_eqv (q':=false) (m:=M.limits [c0] ⟨sv,⟨l0,h0⟩,⟨l1,h1⟩,⟨l2,h2⟩,⟨l3,h3⟩⟩ 1) (fun e=>nomatch e) ?_
  kernel_rfl
end Go.Bl
end
section
set_option maxRecDepth 100000
namespace Go.Bl
open Go.Gd
open Go.V Go.Proofs
def tr82_2(c0 c1:Cask)(sv l0 h0 l1 h1 l2 h2 l3 h3:Int):T (List Ar):=
  T.need ((1:Nat)≤(1000000:Nat)) (T.need ((2:Nat)≤(1000000:Nat)) (T.need ((1:Nat)≤(1:Nat)) (T.need ((3:Nat)≤(1000000:Nat)) (T.need ((2:Nat)≤(2:Nat)) (T.need ((0:Int)≤(0:Int)) (T.need ((0:Int)<(2:Int)) (T.need ((4:Nat)≤(1000000:Nat)) (T.need ((3:Nat)≤(3:Nat)) (T.need ((0:Int)≤(1:Int)) (T.need ((1:Int)<(2:Int)) (T.need ((5:Nat)≤(1000000:Nat)) (T.need ((4:Nat)≤(4:Nat)) (T.need ((0:Int)≤(0:Int)) (T.need ((0:Int)<(2:Int)) (T.need ((0:Int)≤(0:Int)) (T.need ((0:Int)<(4:Int)) (T.need ((0:Int)≤(1:Int)) (T.need ((1:Int)<(2:Int)) (T.need ((0:Int)≤(0:Int)) (T.need ((0:Int)<(4:Int)) (T.need ((6:Nat)≤(1000000:Nat)) (T.need ((5:Nat)≤(5:Nat)) (T.need ((0:Int)≤(0:Int)) (T.need ((0:Int)<(2:Int)) (T.need ((0:Int)≤(0:Int)) (T.need ((0:Int)<(4:Int)) (T.need ((0:Int)≤(1:Int)) (T.need ((1:Int)<(2:Int)) (T.need ((0:Int)≤(0:Int)) (T.need ((0:Int)<(4:Int)) (T.need ((7:Nat)≤(1000000:Nat)) (T.need ((6:Nat)≤(6:Nat)) (T.need ((0:Int)≤(0:Int)) (T.need ((0:Int)<(2:Int)) (T.need ((0:Int)≤(1:Int)) (T.need ((1:Int)<(4:Int)) (T.need ((0:Int)≤(1:Int)) (T.need ((1:Int)<(2:Int)) (T.need ((0:Int)≤(1:Int)) (T.need ((1:Int)<(4:Int)) (T.need ((8:Nat)≤(1000000:Nat)) (T.need ((7:Nat)≤(7:Nat)) (T.need ((0:Int)≤(0:Int)) (T.need ((0:Int)<(2:Int)) (T.need ((0:Int)≤(1:Int)) (T.need ((1:Int)<(4:Int)) (T.need ((0:Int)≤(1:Int)) (T.need ((1:Int)<(2:Int)) (T.need ((0:Int)≤(1:Int)) (T.need ((1:Int)<(4:Int)) (T.need ((9:Nat)≤(1000000:Nat)) (T.need ((8:Nat)≤(8:Nat)) (T.need ((0:Int)≤(0:Int)) (T.need ((0:Int)<(2:Int)) (T.need ((0:Int)≤(2:Int)) (T.need ((2:Int)<(4:Int)) (T.need ((0:Int)≤(1:Int)) (T.need ((1:Int)<(2:Int)) (T.need ((0:Int)≤(2:Int)) (T.need ((2:Int)<(4:Int)) (T.need ((10:Nat)≤(1000000:Nat)) (T.need ((9:Nat)≤(9:Nat)) (T.need ((0:Int)≤(0:Int)) (T.need ((0:Int)<(2:Int)) (T.need ((0:Int)≤(2:Int)) (T.need ((2:Int)<(4:Int)) (T.need ((0:Int)≤(1:Int)) (T.need ((1:Int)<(2:Int)) (T.need ((0:Int)≤(2:Int)) (T.need ((2:Int)<(4:Int)) (T.need ((11:Nat)≤(1000000:Nat)) (T.need ((10:Nat)≤(10:Nat)) (T.need ((0:Int)≤(0:Int)) (T.need ((0:Int)<(2:Int)) (T.need ((0:Int)≤(3:Int)) (T.need ((3:Int)<(4:Int)) (T.need ((0:Int)≤(1:Int)) (T.need ((1:Int)<(2:Int)) (T.need ((0:Int)≤(3:Int)) (T.need ((3:Int)<(4:Int)) (T.need ((12:Nat)≤(1000000:Nat)) (T.need ((11:Nat)≤(11:Nat)) (T.need ((0:Int)≤(0:Int)) (T.need ((0:Int)<(2:Int)) (T.need ((0:Int)≤(3:Int)) (T.need ((3:Int)<(4:Int)) (T.need ((0:Int)≤(1:Int)) (T.need ((1:Int)<(2:Int)) (T.need ((0:Int)≤(3:Int)) (T.need ((3:Int)<(4:Int)) (T.need ((13:Nat)≤(1000000:Nat)) (T.need ((12:Nat)≤(12:Nat)) (T.need ((13:Nat)≤(13:Nat)) (T.ret [Ar.agg [D.sl true (3:Nat) (1:Nat) fun(i' j:Nat)=>List.getD [D.int IntKind.i64 (1:Int),D.int IntKind.i64 (1:Int),D.int IntKind.i64 (0:Int)] (i'*(1:Nat)+j) D.nilp,D.int IntKind.i64 sv,D.sl true (3:Nat) (1:Nat) fun(i' j:Nat)=>List.getD [D.int IntKind.i64 (0:Int),D.int IntKind.i64 (0:Int),D.int IntKind.i64 (1:Int)] (i'*(1:Nat)+j) D.nilp,D.sl true (13:Nat) (4:Nat) (joinF (12:Nat) (joinF (11:Nat) (joinF (10:Nat) (joinF (9:Nat) (joinF (8:Nat) (joinF (7:Nat) (joinF (6:Nat) (joinF (5:Nat) (joinF (4:Nat) (joinF (3:Nat) (joinF (2:Nat) (joinF (1:Nat) (joinF (0:Nat) (fun(x x_1:Nat)=>D.nilp) fun(i j:Nat)=>List.getD [D.int IntKind.i64 (0:Int),D.int IntKind.i64 (0:Int),D.sl true (3:Nat) (1:Nat) fun(i j:Nat)=>List.getD [D.int IntKind.i64 (-1:Int),D.int IntKind.i64 (0:Int),D.int IntKind.i64 (0:Int)] (i*(1:Nat)+j) D.nilp,D.int IntKind.i64 (0:Int)] (i*(4:Nat)+j) D.nilp) fun(i j:Nat)=>List.getD [D.int IntKind.i64 (0:Int),D.int IntKind.i64 (1:Int),D.sl true (3:Nat) (1:Nat) fun(i j:Nat)=>List.getD [D.int IntKind.i64 (0:Int),D.int IntKind.i64 (-1:Int),D.int IntKind.i64 (0:Int)] (i*(1:Nat)+j) D.nilp,D.int IntKind.i64 (0:Int)] (i*(4:Nat)+j) D.nilp) fun(i j:Nat)=>List.getD [D.int IntKind.i64 (0:Int),D.int IntKind.i64 (2:Int),D.sl true (3:Nat) (1:Nat) fun(i j:Nat)=>List.getD [D.int IntKind.i64 (0:Int),D.int IntKind.i64 (0:Int),D.int IntKind.i64 (-1:Int)] (i*(1:Nat)+j) D.nilp,D.int IntKind.i64 (0:Int)] (i*(4:Nat)+j) D.nilp) fun(i j:Nat)=>List.getD [D.int IntKind.i64 (1:Int),D.int IntKind.i64 (0:Int),D.sl true (3:Nat) (1:Nat) fun(i j:Nat)=>List.getD [D.int IntKind.i64 (1:Int),D.int IntKind.i64 (0:Int),D.int IntKind.i64 (0:Int)] (i*(1:Nat)+j) D.nilp,D.int IntKind.i64 (List.getD [c0,c1] (Int.toNat (0:Int)) (Enc.dflt eC)).2] (i*(4:Nat)+j) D.nilp) fun(i j:Nat)=>List.getD [D.int IntKind.i64 (1:Int),D.int IntKind.i64 (1:Int),D.sl true (3:Nat) (1:Nat) fun(i j:Nat)=>List.getD [D.int IntKind.i64 (0:Int),D.int IntKind.i64 (1:Int),D.int IntKind.i64 (0:Int)] (i*(1:Nat)+j) D.nilp,D.int IntKind.i64 (List.getD [c0,c1] (Int.toNat (IntKind.wrap IntKind.i64 ((0:Int)+(1:Int)))) (Enc.dflt eC)).2] (i*(4:Nat)+j) D.nilp) fun(i j:Nat)=>List.getD [D.int IntKind.i64 (2:Int),D.int IntKind.i64 (0:Int),D.sl true (3:Nat) (1:Nat) fun(i j:Nat)=>List.getD [D.int IntKind.i64 (IntKind.wrap IntKind.i64 ((List.getD [c0,c1] (Int.toNat (0:Int)) (Enc.dflt eC)).4-h0)),D.int IntKind.i64 (IntKind.wrap IntKind.i64 ((List.getD [c0,c1] (Int.toNat (IntKind.wrap IntKind.i64 ((0:Int)+(1:Int)))) (Enc.dflt eC)).4-h0)),D.int IntKind.i64 (-1:Int)] (i*(1:Nat)+j) D.nilp,D.int IntKind.i64 (0:Int)] (i*(4:Nat)+j) D.nilp) fun(i j:Nat)=>List.getD [D.int IntKind.i64 (3:Int),D.int IntKind.i64 (0:Int),D.sl true (3:Nat) (1:Nat) fun(i j:Nat)=>List.getD [D.int IntKind.i64 (IntKind.wrap IntKind.i64 (l0-(List.getD [c0,c1] (Int.toNat (0:Int)) (Enc.dflt eC)).4)),D.int IntKind.i64 (IntKind.wrap IntKind.i64 (l0-(List.getD [c0,c1] (Int.toNat (IntKind.wrap IntKind.i64 ((0:Int)+(1:Int)))) (Enc.dflt eC)).4)),D.int IntKind.i64 (-1:Int)] (i*(1:Nat)+j) D.nilp,D.int IntKind.i64 (0:Int)] (i*(4:Nat)+j) D.nilp) fun(i j:Nat)=>List.getD [D.int IntKind.i64 (2:Int),D.int IntKind.i64 (1:Int),D.sl true (3:Nat) (1:Nat) fun(i j:Nat)=>List.getD [D.int IntKind.i64 (IntKind.wrap IntKind.i64 ((List.getD [c0,c1] (Int.toNat (0:Int)) (Enc.dflt eC)).5-h1)),D.int IntKind.i64 (IntKind.wrap IntKind.i64 ((List.getD [c0,c1] (Int.toNat (IntKind.wrap IntKind.i64 ((0:Int)+(1:Int)))) (Enc.dflt eC)).5-h1)),D.int IntKind.i64 (-1:Int)] (i*(1:Nat)+j) D.nilp,D.int IntKind.i64 (0:Int)] (i*(4:Nat)+j) D.nilp) fun(i j:Nat)=>List.getD [D.int IntKind.i64 (3:Int),D.int IntKind.i64 (1:Int),D.sl true (3:Nat) (1:Nat) fun(i j:Nat)=>List.getD [D.int IntKind.i64 (IntKind.wrap IntKind.i64 (l1-(List.getD [c0,c1] (Int.toNat (0:Int)) (Enc.dflt eC)).5)),D.int IntKind.i64 (IntKind.wrap IntKind.i64 (l1-(List.getD [c0,c1] (Int.toNat (IntKind.wrap IntKind.i64 ((0:Int)+(1:Int)))) (Enc.dflt eC)).5)),D.int IntKind.i64 (-1:Int)] (i*(1:Nat)+j) D.nilp,D.int IntKind.i64 (0:Int)] (i*(4:Nat)+j) D.nilp) fun(i j:Nat)=>List.getD [D.int IntKind.i64 (2:Int),D.int IntKind.i64 (2:Int),D.sl true (3:Nat) (1:Nat) fun(i j:Nat)=>List.getD [D.int IntKind.i64 (IntKind.wrap IntKind.i64 ((List.getD [c0,c1] (Int.toNat (0:Int)) (Enc.dflt eC)).6-h2)),D.int IntKind.i64 (IntKind.wrap IntKind.i64 ((List.getD [c0,c1] (Int.toNat (IntKind.wrap IntKind.i64 ((0:Int)+(1:Int)))) (Enc.dflt eC)).6-h2)),D.int IntKind.i64 (-1:Int)] (i*(1:Nat)+j) D.nilp,D.int IntKind.i64 (0:Int)] (i*(4:Nat)+j) D.nilp) fun(i j:Nat)=>List.getD [D.int IntKind.i64 (3:Int),D.int IntKind.i64 (2:Int),D.sl true (3:Nat) (1:Nat) fun(i j:Nat)=>List.getD [D.int IntKind.i64 (IntKind.wrap IntKind.i64 (l2-(List.getD [c0,c1] (Int.toNat (0:Int)) (Enc.dflt eC)).6)),D.int IntKind.i64 (IntKind.wrap IntKind.i64 (l2-(List.getD [c0,c1] (Int.toNat (IntKind.wrap IntKind.i64 ((0:Int)+(1:Int)))) (Enc.dflt eC)).6)),D.int IntKind.i64 (-1:Int)] (i*(1:Nat)+j) D.nilp,D.int IntKind.i64 (0:Int)] (i*(4:Nat)+j) D.nilp) fun(i j:Nat)=>List.getD [D.int IntKind.i64 (2:Int),D.int IntKind.i64 (3:Int),D.sl true (3:Nat) (1:Nat) fun(i j:Nat)=>List.getD [D.int IntKind.i64 (IntKind.wrap IntKind.i64 ((List.getD [c0,c1] (Int.toNat (0:Int)) (Enc.dflt eC)).7-h3)),D.int IntKind.i64 (IntKind.wrap IntKind.i64 ((List.getD [c0,c1] (Int.toNat (IntKind.wrap IntKind.i64 ((0:Int)+(1:Int)))) (Enc.dflt eC)).7-h3)),D.int IntKind.i64 (-1:Int)] (i*(1:Nat)+j) D.nilp,D.int IntKind.i64 (0:Int)] (i*(4:Nat)+j) D.nilp) fun(i j:Nat)=>List.getD [D.int IntKind.i64 (3:Int),D.int IntKind.i64 (3:Int),D.sl true (3:Nat) (1:Nat) fun(i j:Nat)=>List.getD [D.int IntKind.i64 (IntKind.wrap IntKind.i64 (l3-(List.getD [c0,c1] (Int.toNat (0:Int)) (Enc.dflt eC)).7)),D.int IntKind.i64 (IntKind.wrap IntKind.i64 (l3-(List.getD [c0,c1] (Int.toNat (IntKind.wrap IntKind.i64 ((0:Int)+(1:Int)))) (Enc.dflt eC)).7)),D.int IntKind.i64 (-1:Int)] (i*(1:Nat)+j) D.nilp,D.int IntKind.i64 (0:Int)] (i*(4:Nat)+j) D.nilp)]]))))))))))))))))))))))))))))))))))))))))))))))))))))))))))))))))))))))))))))))))))))))))))))))
theorem t82_2(q:Bool)(c0 c1:Cask)(sv l0 h0 l1 h1 l2 h2 l3 h3:Int):runFnX Tryz.prog G0 (lookS []) (fun _=>[(999999,[],none)]) [116,154,155,156,157,158,159,160] 1 60 6 69 Tryz.f69 [.c (.sl q 2 7 (eC.F [c0,c1])),.agg [dI sv,dI l0,dI h0,dI l1,dI h1,dI l2,dI h2,dI l3,dI h3]] =
  tr82_2 c0 c1 sv l0 h0 l1 h1 l2 h2 l3 h3:=by kernel_rfl
theorem w82_2(c0 c1:Cask)(sv l0 h0 l1 h1 l2 h2 l3 h3:Int):(tr82_2 c0 c1 sv l0 h0 l1 h1 l2 h2 l3 h3).wp (fun rs=>rsEqv rs (res82 [c0,c1] ⟨sv,⟨l0,h0⟩,⟨l1,h1⟩,⟨l2,h2⟩,⟨l3,h3⟩⟩)):=by
 unfold tr82_2
 repeat (refine⟨by decide,?_⟩)
 refine⟨⟨?_,rfl,?_,?_,trivial⟩,trivial⟩
 ·refine sl_ints (q':=false) (l:=M.shares [c0,c1] 1) (fun e=>nomatch e) ?_
  kernel_rfl
 ·refine sl_ints (q':=false) (l:=M.far [c0,c1]) (fun e=>nomatch e) ?_
  kernel_rfl
 ·refine conds_eqv (q':=false) (m:=M.limits [c0,c1] ⟨sv,⟨l0,h0⟩,⟨l1,h1⟩,⟨l2,h2⟩,⟨l3,h3⟩⟩ 1) (fun e=>nomatch e) ?_
  kernel_rfl
end Go.Bl
end
section
set_option maxRecDepth 100000
namespace Go.Bl
open Go.Gd
open Go.V Go.Proofs
def tr82_3(c0 c1 c2:Cask)(sv l0 h0 l1 h1 l2 h2 l3 h3:Int):T (List Ar):=
  T.need ((1:Nat)≤(1000000:Nat)) (T.need ((2:Nat)≤(1000000:Nat)) (T.need ((1:Nat)≤(1:Nat)) (T.need ((3:Nat)≤(1000000:Nat)) (T.need ((2:Nat)≤(2:Nat)) (T.need ((4:Nat)≤(1000000:Nat)) (T.need ((3:Nat)≤(3:Nat)) (T.need ((0:Int)≤(0:Int)) (T.need ((0:Int)<(3:Int)) (T.need ((5:Nat)≤(1000000:Nat)) (T.need ((4:Nat)≤(4:Nat)) (T.need ((0:Int)≤(1:Int)) (T.need ((1:Int)<(3:Int)) (T.need ((6:Nat)≤(1000000:Nat)) (T.need ((5:Nat)≤(5:Nat)) (T.need ((0:Int)≤(2:Int)) (T.need ((2:Int)<(3:Int)) (T.need ((7:Nat)≤(1000000:Nat)) (T.need ((6:Nat)≤(6:Nat)) (T.need ((0:Int)≤(0:Int)) (T.need ((0:Int)<(3:Int)) (T.need ((0:Int)≤(0:Int)) (T.need ((0:Int)<(4:Int)) (T.need ((0:Int)≤(1:Int)) (T.need ((1:Int)<(3:Int)) (T.need ((0:Int)≤(0:Int)) (T.need ((0:Int)<(4:Int)) (T.need ((0:Int)≤(2:Int)) (T.need ((2:Int)<(3:Int)) (T.need ((0:Int)≤(0:Int)) (T.need ((0:Int)<(4:Int)) (T.need ((8:Nat)≤(1000000:Nat)) (T.need ((7:Nat)≤(7:Nat)) (T.need ((0:Int)≤(0:Int)) (T.need ((0:Int)<(3:Int)) (T.need ((0:Int)≤(0:Int)) (T.need ((0:Int)<(4:Int)) (T.need ((0:Int)≤(1:Int)) (T.need ((1:Int)<(3:Int)) (T.need ((0:Int)≤(0:Int)) (T.need ((0:Int)<(4:Int)) (T.need ((0:Int)≤(2:Int)) (T.need ((2:Int)<(3:Int)) (T.need ((0:Int)≤(0:Int)) (T.need ((0:Int)<(4:Int)) (T.need ((9:Nat)≤(1000000:Nat)) (T.need ((8:Nat)≤(8:Nat)) (T.need ((0:Int)≤(0:Int)) (T.need ((0:Int)<(3:Int)) (T.need ((0:Int)≤(1:Int)) (T.need ((1:Int)<(4:Int)) (T.need ((0:Int)≤(1:Int)) (T.need ((1:Int)<(3:Int)) (T.need ((0:Int)≤(1:Int)) (T.need ((1:Int)<(4:Int)) (T.need ((0:Int)≤(2:Int)) (T.need ((2:Int)<(3:Int)) (T.need ((0:Int)≤(1:Int)) (T.need ((1:Int)<(4:Int)) (T.need ((10:Nat)≤(1000000:Nat)) (T.need ((9:Nat)≤(9:Nat)) (T.need ((0:Int)≤(0:Int)) (T.need ((0:Int)<(3:Int)) (T.need ((0:Int)≤(1:Int)) (T.need ((1:Int)<(4:Int)) (T.need ((0:Int)≤(1:Int)) (T.need ((1:Int)<(3:Int)) (T.need ((0:Int)≤(1:Int)) (T.need ((1:Int)<(4:Int)) (T.need ((0:Int)≤(2:Int)) (T.need ((2:Int)<(3:Int)) (T.need ((0:Int)≤(1:Int)) (T.need ((1:Int)<(4:Int)) (T.need ((11:Nat)≤(1000000:Nat)) (T.need ((10:Nat)≤(10:Nat)) (T.need ((0:Int)≤(0:Int)) (T.need ((0:Int)<(3:Int)) (T.need ((0:Int)≤(2:Int)) (T.need ((2:Int)<(4:Int)) (T.need ((0:Int)≤(1:Int)) (T.need ((1:Int)<(3:Int)) (T.need ((0:Int)≤(2:Int)) (T.need ((2:Int)<(4:Int)) (T.need ((0:Int)≤(2:Int)) (T.need ((2:Int)<(3:Int)) (T.need ((0:Int)≤(2:Int)) (T.need ((2:Int)<(4:Int)) (T.need ((12:Nat)≤(1000000:Nat)) (T.need ((11:Nat)≤(11:Nat)) (T.need ((0:Int)≤(0:Int)) (T.need ((0:Int)<(3:Int)) (T.need ((0:Int)≤(2:Int)) (T.need ((2:Int)<(4:Int)) (T.need ((0:Int)≤(1:Int)) (T.need ((1:Int)<(3:Int)) (T.need ((0:Int)≤(2:Int)) (T.need ((2:Int)<(4:Int)) (T.need ((0:Int)≤(2:Int)) (T.need ((2:Int)<(3:Int)) (T.need ((0:Int)≤(2:Int)) (T.need ((2:Int)<(4:Int)) (T.need ((13:Nat)≤(1000000:Nat)) (T.need ((12:Nat)≤(12:Nat)) (T.need ((0:Int)≤(0:Int)) (T.need ((0:Int)<(3:Int)) (T.need ((0:Int)≤(3:Int)) (T.need ((3:Int)<(4:Int)) (T.need ((0:Int)≤(1:Int)) (T.need ((1:Int)<(3:Int)) (T.need ((0:Int)≤(3:Int)) (T.need ((3:Int)<(4:Int)) (T.need ((0:Int)≤(2:Int)) (T.need ((2:Int)<(3:Int)) (T.need ((0:Int)≤(3:Int)) (T.need ((3:Int)<(4:Int)) (T.need ((14:Nat)≤(1000000:Nat)) (T.need ((13:Nat)≤(13:Nat)) (T.need ((0:Int)≤(0:Int)) (T.need ((0:Int)<(3:Int)) (T.need ((0:Int)≤(3:Int)) (T.need ((3:Int)<(4:Int)) (T.need ((0:Int)≤(1:Int)) (T.need ((1:Int)<(3:Int)) (T.need ((0:Int)≤(3:Int)) (T.need ((3:Int)<(4:Int)) (T.need ((0:Int)≤(2:Int)) (T.need ((2:Int)<(3:Int)) (T.need ((0:Int)≤(3:Int)) (T.need ((3:Int)<(4:Int)) (T.need ((15:Nat)≤(1000000:Nat)) (T.need ((14:Nat)≤(14:Nat)) (T.need ((15:Nat)≤(15:Nat)) (T.ret [Ar.agg [D.sl true (4:Nat) (1:Nat) fun(i' j:Nat)=>List.getD [D.int IntKind.i64 (1:Int),D.int IntKind.i64 (1:Int),D.int IntKind.i64 (1:Int),D.int IntKind.i64 (0:Int)] (i'*(1:Nat)+j) D.nilp,D.int IntKind.i64 sv,D.sl true (4:Nat) (1:Nat) fun(i' j:Nat)=>List.getD [D.int IntKind.i64 (0:Int),D.int IntKind.i64 (0:Int),D.int IntKind.i64 (0:Int),D.int IntKind.i64 (1:Int)] (i'*(1:Nat)+j) D.nilp,D.sl true (15:Nat) (4:Nat) (joinF (14:Nat) (joinF (13:Nat) (joinF (12:Nat) (joinF (11:Nat) (joinF (10:Nat) (joinF (9:Nat) (joinF (8:Nat) (joinF (7:Nat) (joinF (6:Nat) (joinF (5:Nat) (joinF (4:Nat) (joinF (3:Nat) (joinF (2:Nat) (joinF (1:Nat) (joinF (0:Nat) (fun(x x_1:Nat)=>D.nilp) fun(i j:Nat)=>List.getD [D.int IntKind.i64 (0:Int),D.int IntKind.i64 (0:Int),D.sl true (4:Nat) (1:Nat) fun(i j:Nat)=>List.getD [D.int IntKind.i64 (-1:Int),D.int IntKind.i64 (0:Int),D.int IntKind.i64 (0:Int),D.int IntKind.i64 (0:Int)] (i*(1:Nat)+j) D.nilp,D.int IntKind.i64 (0:Int)] (i*(4:Nat)+j) D.nilp) fun(i j:Nat)=>List.getD [D.int IntKind.i64 (0:Int),D.int IntKind.i64 (1:Int),D.sl true (4:Nat) (1:Nat) fun(i j:Nat)=>List.getD [D.int IntKind.i64 (0:Int),D.int IntKind.i64 (-1:Int),D.int IntKind.i64 (0:Int),D.int IntKind.i64 (0:Int)] (i*(1:Nat)+j) D.nilp,D.int IntKind.i64 (0:Int)] (i*(4:Nat)+j) D.nilp) fun(i j:Nat)=>List.getD [D.int IntKind.i64 (0:Int),D.int IntKind.i64 (2:Int),D.sl true (4:Nat) (1:Nat) fun(i j:Nat)=>List.getD [D.int IntKind.i64 (0:Int),D.int IntKind.i64 (0:Int),D.int IntKind.i64 (-1:Int),D.int IntKind.i64 (0:Int)] (i*(1:Nat)+j) D.nilp,D.int IntKind.i64 (0:Int)] (i*(4:Nat)+j) D.nilp) fun(i j:Nat)=>List.getD [D.int IntKind.i64 (0:Int),D.int IntKind.i64 (3:Int),D.sl true (4:Nat) (1:Nat) fun(i j:Nat)=>List.getD [D.int IntKind.i64 (0:Int),D.int IntKind.i64 (0:Int),D.int IntKind.i64 (0:Int),D.int IntKind.i64 (-1:Int)] (i*(1:Nat)+j) D.nilp,D.int IntKind.i64 (0:Int)] (i*(4:Nat)+j) D.nilp) fun(i j:Nat)=>List.getD [D.int IntKind.i64 (1:Int),D.int IntKind.i64 (0:Int),D.sl true (4:Nat) (1:Nat) fun(i j:Nat)=>List.getD [D.int IntKind.i64 (1:Int),D.int IntKind.i64 (0:Int),D.int IntKind.i64 (0:Int),D.int IntKind.i64 (0:Int)] (i*(1:Nat)+j) D.nilp,D.int IntKind.i64 (List.getD [c0,c1,c2] (Int.toNat (0:Int)) (Enc.dflt eC)).2] (i*(4:Nat)+j) D.nilp) fun(i j:Nat)=>List.getD [D.int IntKind.i64 (1:Int),D.int IntKind.i64 (1:Int),D.sl true (4:Nat) (1:Nat) fun(i j:Nat)=>List.getD [D.int IntKind.i64 (0:Int),D.int IntKind.i64 (1:Int),D.int IntKind.i64 (0:Int),D.int IntKind.i64 (0:Int)] (i*(1:Nat)+j) D.nilp,D.int IntKind.i64 (List.getD [c0,c1,c2] (Int.toNat (IntKind.wrap IntKind.i64 ((0:Int)+(1:Int)))) (Enc.dflt eC)).2] (i*(4:Nat)+j) D.nilp) fun(i j:Nat)=>List.getD [D.int IntKind.i64 (1:Int),D.int IntKind.i64 (2:Int),D.sl true (4:Nat) (1:Nat) fun(i j:Nat)=>List.getD [D.int IntKind.i64 (0:Int),D.int IntKind.i64 (0:Int),D.int IntKind.i64 (1:Int),D.int IntKind.i64 (0:Int)] (i*(1:Nat)+j) D.nilp,D.int IntKind.i64 (List.getD [c0,c1,c2] (Int.toNat (IntKind.wrap IntKind.i64 (IntKind.wrap IntKind.i64 ((0:Int)+(1:Int))+(1:Int)))) (Enc.dflt eC)).2] (i*(4:Nat)+j) D.nilp) fun(i j:Nat)=>List.getD [D.int IntKind.i64 (2:Int),D.int IntKind.i64 (0:Int),D.sl true (4:Nat) (1:Nat) fun(i j:Nat)=>List.getD [D.int IntKind.i64 (IntKind.wrap IntKind.i64 ((List.getD [c0,c1,c2] (Int.toNat (0:Int)) (Enc.dflt eC)).4-h0)),D.int IntKind.i64 (IntKind.wrap IntKind.i64 ((List.getD [c0,c1,c2] (Int.toNat (IntKind.wrap IntKind.i64 ((0:Int)+(1:Int)))) (Enc.dflt eC)).4-h0)),D.int IntKind.i64 (IntKind.wrap IntKind.i64 ((List.getD [c0,c1,c2] (Int.toNat (IntKind.wrap IntKind.i64 (IntKind.wrap IntKind.i64 ((0:Int)+(1:Int))+(1:Int)))) (Enc.dflt eC)).4-h0)),D.int IntKind.i64 (-1:Int)] (i*(1:Nat)+j) D.nilp,D.int IntKind.i64 (0:Int)] (i*(4:Nat)+j) D.nilp) fun(i j:Nat)=>List.getD [D.int IntKind.i64 (3:Int),D.int IntKind.i64 (0:Int),D.sl true (4:Nat) (1:Nat) fun(i j:Nat)=>List.getD [D.int IntKind.i64 (IntKind.wrap IntKind.i64 (l0-(List.getD [c0,c1,c2] (Int.toNat (0:Int)) (Enc.dflt eC)).4)),D.int IntKind.i64 (IntKind.wrap IntKind.i64 (l0-(List.getD [c0,c1,c2] (Int.toNat (IntKind.wrap IntKind.i64 ((0:Int)+(1:Int)))) (Enc.dflt eC)).4)),D.int IntKind.i64 (IntKind.wrap IntKind.i64 (l0-(List.getD [c0,c1,c2] (Int.toNat (IntKind.wrap IntKind.i64 (IntKind.wrap IntKind.i64 ((0:Int)+(1:Int))+(1:Int)))) (Enc.dflt eC)).4)),D.int IntKind.i64 (-1:Int)] (i*(1:Nat)+j) D.nilp,D.int IntKind.i64 (0:Int)] (i*(4:Nat)+j) D.nilp) fun(i j:Nat)=>List.getD [D.int IntKind.i64 (2:Int),D.int IntKind.i64 (1:Int),D.sl true (4:Nat) (1:Nat) fun(i j:Nat)=>List.getD [D.int IntKind.i64 (IntKind.wrap IntKind.i64 ((List.getD [c0,c1,c2] (Int.toNat (0:Int)) (Enc.dflt eC)).5-h1)),D.int IntKind.i64 (IntKind.wrap IntKind.i64 ((List.getD [c0,c1,c2] (Int.toNat (IntKind.wrap IntKind.i64 ((0:Int)+(1:Int)))) (Enc.dflt eC)).5-h1)),D.int IntKind.i64 (IntKind.wrap IntKind.i64 ((List.getD [c0,c1,c2] (Int.toNat (IntKind.wrap IntKind.i64 (IntKind.wrap IntKind.i64 ((0:Int)+(1:Int))+(1:Int)))) (Enc.dflt eC)).5-h1)),D.int IntKind.i64 (-1:Int)] (i*(1:Nat)+j) D.nilp,D.int IntKind.i64 (0:Int)] (i*(4:Nat)+j) D.nilp) fun(i j:Nat)=>List.getD [D.int IntKind.i64 (3:Int),D.int IntKind.i64 (1:Int),D.sl true (4:Nat) (1:Nat) fun(i j:Nat)=>List.getD [D.int IntKind.i64 (IntKind.wrap IntKind.i64 (l1-(List.getD [c0,c1,c2] (Int.toNat (0:Int)) (Enc.dflt eC)).5)),D.int IntKind.i64 (IntKind.wrap IntKind.i64 (l1-(List.getD [c0,c1,c2] (Int.toNat (IntKind.wrap IntKind.i64 ((0:Int)+(1:Int)))) (Enc.dflt eC)).5)),D.int IntKind.i64 (IntKind.wrap IntKind.i64 (l1-(List.getD [c0,c1,c2] (Int.toNat (IntKind.wrap IntKind.i64 (IntKind.wrap IntKind.i64 ((0:Int)+(1:Int))+(1:Int)))) (Enc.dflt eC)).5)),D.int IntKind.i64 (-1:Int)] (i*(1:Nat)+j) D.nilp,D.int IntKind.i64 (0:Int)] (i*(4:Nat)+j) D.nilp) fun(i j:Nat)=>List.getD [D.int IntKind.i64 (2:Int),D.int IntKind.i64 (2:Int),D.sl true (4:Nat) (1:Nat) fun(i j:Nat)=>List.getD [D.int IntKind.i64 (IntKind.wrap IntKind.i64 ((List.getD [c0,c1,c2] (Int.toNat (0:Int)) (Enc.dflt eC)).6-h2)),D.int IntKind.i64 (IntKind.wrap IntKind.i64 ((List.getD [c0,c1,c2] (Int.toNat (IntKind.wrap IntKind.i64 ((0:Int)+(1:Int)))) (Enc.dflt eC)).6-h2)),D.int IntKind.i64 (IntKind.wrap IntKind.i64 ((List.getD [c0,c1,c2] (Int.toNat (IntKind.wrap IntKind.i64 (IntKind.wrap IntKind.i64 ((0:Int)+(1:Int))+(1:Int)))) (Enc.dflt eC)).6-h2)),D.int IntKind.i64 (-1:Int)] (i*(1:Nat)+j) D.nilp,D.int IntKind.i64 (0:Int)] (i*(4:Nat)+j) D.nilp) fun(i j:Nat)=>List.getD [D.int IntKind.i64 (3:Int),D.int IntKind.i64 (2:Int),D.sl true (4:Nat) (1:Nat) fun(i j:Nat)=>List.getD [D.int IntKind.i64 (IntKind.wrap IntKind.i64 (l2-(List.getD [c0,c1,c2] (Int.toNat (0:Int)) (Enc.dflt eC)).6)),D.int IntKind.i64 (IntKind.wrap IntKind.i64 (l2-(List.getD [c0,c1,c2] (Int.toNat (IntKind.wrap IntKind.i64 ((0:Int)+(1:Int)))) (Enc.dflt eC)).6)),D.int IntKind.i64 (IntKind.wrap IntKind.i64 (l2-(List.getD [c0,c1,c2] (Int.toNat (IntKind.wrap IntKind.i64 (IntKind.wrap IntKind.i64 ((0:Int)+(1:Int))+(1:Int)))) (Enc.dflt eC)).6)),D.int IntKind.i64 (-1:Int)] (i*(1:Nat)+j) D.nilp,D.int IntKind.i64 (0:Int)] (i*(4:Nat)+j) D.nilp) fun(i j:Nat)=>List.getD [D.int IntKind.i64 (2:Int),D.int IntKind.i64 (3:Int),D.sl true (4:Nat) (1:Nat) fun(i j:Nat)=>List.getD [D.int IntKind.i64 (IntKind.wrap IntKind.i64 ((List.getD [c0,c1,c2] (Int.toNat (0:Int)) (Enc.dflt eC)).7-h3)),D.int IntKind.i64 (IntKind.wrap IntKind.i64 ((List.getD [c0,c1,c2] (Int.toNat (IntKind.wrap IntKind.i64 ((0:Int)+(1:Int)))) (Enc.dflt eC)).7-h3)),D.int IntKind.i64 (IntKind.wrap IntKind.i64 ((List.getD [c0,c1,c2] (Int.toNat (IntKind.wrap IntKind.i64 (IntKind.wrap IntKind.i64 ((0:Int)+(1:Int))+(1:Int)))) (Enc.dflt eC)).7-h3)),D.int IntKind.i64 (-1:Int)] (i*(1:Nat)+j) D.nilp,D.int IntKind.i64 (0:Int)] (i*(4:Nat)+j) D.nilp) fun(i j:Nat)=>List.getD [D.int IntKind.i64 (3:Int),D.int IntKind.i64 (3:Int),D.sl true (4:Nat) (1:Nat) fun(i j:Nat)=>List.getD [D.int IntKind.i64 (IntKind.wrap IntKind.i64 (l3-(List.getD [c0,c1,c2] (Int.toNat (0:Int)) (Enc.dflt eC)).7)),D.int IntKind.i64 (IntKind.wrap IntKind.i64 (l3-(List.getD [c0,c1,c2] (Int.toNat (IntKind.wrap IntKind.i64 ((0:Int)+(1:Int)))) (Enc.dflt eC)).7)),D.int IntKind.i64 (IntKind.wrap IntKind.i64 (l3-(List.getD [c0,c1,c2] (Int.toNat (IntKind.wrap IntKind.i64 (IntKind.wrap IntKind.i64 ((0:Int)+(1:Int))+(1:Int)))) (Enc.dflt eC)).7)),D.int IntKind.i64 (-1:Int)] (i*(1:Nat)+j) D.nilp,D.int IntKind.i64 (0:Int)] (i*(4:Nat)+j) D.nilp)]]))))))))))))))))))))))))))))))))))))))))))))))))))))))))))))))))))))))))))))))))))))))))))))))))))))))))))))))))))))))))))))))))))))
theorem t82_3(q:Bool)(c0 c1 c2:Cask)(sv l0 h0 l1 h1 l2 h2 l3 h3:Int):runFnX Tryz.prog G0 (lookS []) (fun _=>[(999999,[],none)]) [116,154,155,156,157,158,159,160] 1 60 6 69 Tryz.f69 [.c (.sl q 3 7 (eC.F [c0,c1,c2])),.agg [dI sv,dI l0,dI h0,dI l1,dI h1,dI l2,dI h2,dI l3,dI h3]] =
  tr82_3 c0 c1 c2 sv l0 h0 l1 h1 l2 h2 l3 h3:=by kernel_rfl
theorem w82_3(c0 c1 c2:Cask)(sv l0 h0 l1 h1 l2 h2 l3 h3:Int):(tr82_3 c0 c1 c2 sv l0 h0 l1 h1 l2 h2 l3 h3).wp (fun rs=>rsEqv rs (res82 [c0,c1,c2] ⟨sv,⟨l0,h0⟩,⟨l1,h1⟩,⟨l2,h2⟩,⟨l3,h3⟩⟩)):=by
 unfold tr82_3
 repeat (refine⟨by decide,?_⟩)
 refine⟨⟨?_,rfl,?_,?_,trivial⟩,trivial⟩
 ·refine sl_ints (q':=false) (l:=M.shares [c0,c1,c2] 1) (fun e=>nomatch e) ?_
  kernel_rfl
 ·refine sl_ints (q':=false) (l:=M.far [c0,c1,c2]) (fun e=>nomatch e) ?_
  kernel_rfl
 ·refine conds_eqv (q':=false) (m:=M.limits [c0,c1,c2] ⟨sv,⟨l0,h0⟩,⟨l1,h1⟩,⟨l2,h2⟩,⟨l3,h3⟩⟩ 1) (fun e=>nomatch e) ?_
  kernel_rfl
end Go.Bl
end
section
set_option maxRecDepth 100000
namespace Go.Bl
open Go.Gd
open Go.V Go.Proofs
def tr82_4(c0 c1 c2 c3:Cask)(sv l0 h0 l1 h1 l2 h2 l3 h3:Int):T (List Ar):=
  T.need ((1:Nat)≤(1000000:Nat)) (T.need ((2:Nat)≤(1000000:Nat)) (T.need ((1:Nat)≤(1:Nat)) (T.need ((3:Nat)≤(1000000:Nat)) (T.need ((2:Nat)≤(2:Nat)) (T.need ((4:Nat)≤(1000000:Nat)) (T.need ((3:Nat)≤(3:Nat)) (T.need ((5:Nat)≤(1000000:Nat)) (T.need ((4:Nat)≤(4:Nat)) (T.need ((0:Int)≤(0:Int)) (T.need ((0:Int)<(4:Int)) (T.need ((6:Nat)≤(1000000:Nat)) (T.need ((5:Nat)≤(5:Nat)) (T.need ((0:Int)≤(1:Int)) (T.need ((1:Int)<(4:Int)) (T.need ((7:Nat)≤(1000000:Nat)) (T.need ((6:Nat)≤(6:Nat)) (T.need ((0:Int)≤(2:Int)) (T.need ((2:Int)<(4:Int)) (T.need ((8:Nat)≤(1000000:Nat)) (T.need ((7:Nat)≤(7:Nat)) (T.need ((0:Int)≤(3:Int)) (T.need ((3:Int)<(4:Int)) (T.need ((9:Nat)≤(1000000:Nat)) (T.need ((8:Nat)≤(8:Nat)) (T.need ((0:Int)≤(0:Int)) (T.need ((0:Int)<(4:Int)) (T.need ((0:Int)≤(0:Int)) (T.need ((0:Int)<(4:Int)) (T.need ((0:Int)≤(1:Int)) (T.need ((1:Int)<(4:Int)) (T.need ((0:Int)≤(0:Int)) (T.need ((0:Int)<(4:Int)) (T.need ((0:Int)≤(2:Int)) (T.need ((2:Int)<(4:Int)) (T.need ((0:Int)≤(0:Int)) (T.need ((0:Int)<(4:Int)) (T.need ((0:Int)≤(3:Int)) (T.need ((3:Int)<(4:Int)) (T.need ((0:Int)≤(0:Int)) (T.need ((0:Int)<(4:Int)) (T.need ((10:Nat)≤(1000000:Nat)) (T.need ((9:Nat)≤(9:Nat)) (T.need ((0:Int)≤(0:Int)) (T.need ((0:Int)<(4:Int)) (T.need ((0:Int)≤(0:Int)) (T.need ((0:Int)<(4:Int)) (T.need ((0:Int)≤(1:Int)) (T.need ((1:Int)<(4:Int)) (T.need ((0:Int)≤(0:Int)) (T.need ((0:Int)<(4:Int)) (T.need ((0:Int)≤(2:Int)) (T.need ((2:Int)<(4:Int)) (T.need ((0:Int)≤(0:Int)) (T.need ((0:Int)<(4:Int)) (T.need ((0:Int)≤(3:Int)) (T.need ((3:Int)<(4:Int)) (T.need ((0:Int)≤(0:Int)) (T.need ((0:Int)<(4:Int)) (T.need ((11:Nat)≤(1000000:Nat)) (T.need ((10:Nat)≤(10:Nat)) (T.need ((0:Int)≤(0:Int)) (T.need ((0:Int)<(4:Int)) (T.need ((0:Int)≤(1:Int)) (T.need ((1:Int)<(4:Int)) (T.need ((0:Int)≤(1:Int)) (T.need ((1:Int)<(4:Int)) (T.need ((0:Int)≤(1:Int)) (T.need ((1:Int)<(4:Int)) (T.need ((0:Int)≤(2:Int)) (T.need ((2:Int)<(4:Int)) (T.need ((0:Int)≤(1:Int)) (T.need ((1:Int)<(4:Int)) (T.need ((0:Int)≤(3:Int)) (T.need ((3:Int)<(4:Int)) (T.need ((0:Int)≤(1:Int)) (T.need ((1:Int)<(4:Int)) (T.need ((12:Nat)≤(1000000:Nat)) (T.need ((11:Nat)≤(11:Nat)) (T.need ((0:Int)≤(0:Int)) (T.need ((0:Int)<(4:Int)) (T.need ((0:Int)≤(1:Int)) (T.need ((1:Int)<(4:Int)) (T.need ((0:Int)≤(1:Int)) (T.need ((1:Int)<(4:Int)) (T.need ((0:Int)≤(1:Int)) (T.need ((1:Int)<(4:Int)) (T.need ((0:Int)≤(2:Int)) (T.need ((2:Int)<(4:Int)) (T.need ((0:Int)≤(1:Int)) (T.need ((1:Int)<(4:Int)) (T.need ((0:Int)≤(3:Int)) (T.need ((3:Int)<(4:Int)) (T.need ((0:Int)≤(1:Int)) (T.need ((1:Int)<(4:Int)) (T.need ((13:Nat)≤(1000000:Nat)) (T.need ((12:Nat)≤(12:Nat)) (T.need ((0:Int)≤(0:Int)) (T.need ((0:Int)<(4:Int)) (T.need ((0:Int)≤(2:Int)) (T.need ((2:Int)<(4:Int)) (T.need ((0:Int)≤(1:Int)) (T.need ((1:Int)<(4:Int)) (T.need ((0:Int)≤(2:Int)) (T.need ((2:Int)<(4:Int)) (T.need ((0:Int)≤(2:Int)) (T.need ((2:Int)<(4:Int)) (T.need ((0:Int)≤(2:Int)) (T.need ((2:Int)<(4:Int)) (T.need ((0:Int)≤(3:Int)) (T.need ((3:Int)<(4:Int)) (T.need ((0:Int)≤(2:Int)) (T.need ((2:Int)<(4:Int)) (T.need ((14:Nat)≤(1000000:Nat)) (T.need ((13:Nat)≤(13:Nat)) (T.need ((0:Int)≤(0:Int)) (T.need ((0:Int)<(4:Int)) (T.need ((0:Int)≤(2:Int)) (T.need ((2:Int)<(4:Int)) (T.need ((0:Int)≤(1:Int)) (T.need ((1:Int)<(4:Int)) (T.need ((0:Int)≤(2:Int)) (T.need ((2:Int)<(4:Int)) (T.need ((0:Int)≤(2:Int)) (T.need ((2:Int)<(4:Int)) (T.need ((0:Int)≤(2:Int)) (T.need ((2:Int)<(4:Int)) (T.need ((0:Int)≤(3:Int)) (T.need ((3:Int)<(4:Int)) (T.need ((0:Int)≤(2:Int)) (T.need ((2:Int)<(4:Int)) (T.need ((15:Nat)≤(1000000:Nat)) (T.need ((14:Nat)≤(14:Nat)) (T.need ((0:Int)≤(0:Int)) (T.need ((0:Int)<(4:Int)) (T.need ((0:Int)≤(3:Int)) (T.need ((3:Int)<(4:Int)) (T.need ((0:Int)≤(1:Int)) (T.need ((1:Int)<(4:Int)) (T.need ((0:Int)≤(3:Int)) (T.need ((3:Int)<(4:Int)) (T.need ((0:Int)≤(2:Int)) (T.need ((2:Int)<(4:Int)) (T.need ((0:Int)≤(3:Int)) (T.need ((3:Int)<(4:Int)) (T.need ((0:Int)≤(3:Int)) (T.need ((3:Int)<(4:Int)) (T.need ((0:Int)≤(3:Int)) (T.need ((3:Int)<(4:Int)) (T.need ((16:Nat)≤(1000000:Nat)) (T.need ((15:Nat)≤(15:Nat)) (T.need ((0:Int)≤(0:Int)) (T.need ((0:Int)<(4:Int)) (T.need ((0:Int)≤(3:Int)) (T.need ((3:Int)<(4:Int)) (T.need ((0:Int)≤(1:Int)) (T.need ((1:Int)<(4:Int)) (T.need ((0:Int)≤(3:Int)) (T.need ((3:Int)<(4:Int)) (T.need ((0:Int)≤(2:Int)) (T.need ((2:Int)<(4:Int)) (T.need ((0:Int)≤(3:Int)) (T.need ((3:Int)<(4:Int)) (T.need ((0:Int)≤(3:Int)) (T.need ((3:Int)<(4:Int)) (T.need ((0:Int)≤(3:Int)) (T.need ((3:Int)<(4:Int)) (T.need ((17:Nat)≤(1000000:Nat)) (T.need ((16:Nat)≤(16:Nat)) (T.need ((17:Nat)≤(17:Nat)) (T.ret [Ar.agg [D.sl true (5:Nat) (1:Nat) fun(i' j:Nat)=>List.getD [D.int IntKind.i64 (1:Int),D.int IntKind.i64 (1:Int),D.int IntKind.i64 (1:Int),D.int IntKind.i64 (1:Int),D.int IntKind.i64 (0:Int)] (i'*(1:Nat)+j) D.nilp,D.int IntKind.i64 sv,D.sl true (5:Nat) (1:Nat) fun(i' j:Nat)=>List.getD [D.int IntKind.i64 (0:Int),D.int IntKind.i64 (0:Int),D.int IntKind.i64 (0:Int),D.int IntKind.i64 (0:Int),D.int IntKind.i64 (1:Int)] (i'*(1:Nat)+j) D.nilp,D.sl true (17:Nat) (4:Nat) (joinF (16:Nat) (joinF (15:Nat) (joinF (14:Nat) (joinF (13:Nat) (joinF (12:Nat) (joinF (11:Nat) (joinF (10:Nat) (joinF (9:Nat) (joinF (8:Nat) (joinF (7:Nat) (joinF (6:Nat) (joinF (5:Nat) (joinF (4:Nat) (joinF (3:Nat) (joinF (2:Nat) (joinF (1:Nat) (joinF (0:Nat) (fun(x x_1:Nat)=>D.nilp) fun(i j:Nat)=>List.getD [D.int IntKind.i64 (0:Int),D.int IntKind.i64 (0:Int),D.sl true (5:Nat) (1:Nat) fun(i j:Nat)=>List.getD [D.int IntKind.i64 (-1:Int),D.int IntKind.i64 (0:Int),D.int IntKind.i64 (0:Int),D.int IntKind.i64 (0:Int),D.int IntKind.i64 (0:Int)] (i*(1:Nat)+j) D.nilp,D.int IntKind.i64 (0:Int)] (i*(4:Nat)+j) D.nilp) fun(i j:Nat)=>List.getD [D.int IntKind.i64 (0:Int),D.int IntKind.i64 (1:Int),D.sl true (5:Nat) (1:Nat) fun(i j:Nat)=>List.getD [D.int IntKind.i64 (0:Int),D.int IntKind.i64 (-1:Int),D.int IntKind.i64 (0:Int),D.int IntKind.i64 (0:Int),D.int IntKind.i64 (0:Int)] (i*(1:Nat)+j) D.nilp,D.int IntKind.i64 (0:Int)] (i*(4:Nat)+j) D.nilp) fun(i j:Nat)=>List.getD [D.int IntKind.i64 (0:Int),D.int IntKind.i64 (2:Int),D.sl true (5:Nat) (1:Nat) fun(i j:Nat)=>List.getD [D.int IntKind.i64 (0:Int),D.int IntKind.i64 (0:Int),D.int IntKind.i64 (-1:Int),D.int IntKind.i64 (0:Int),D.int IntKind.i64 (0:Int)] (i*(1:Nat)+j) D.nilp,D.int IntKind.i64 (0:Int)] (i*(4:Nat)+j) D.nilp) fun(i j:Nat)=>List.getD [D.int IntKind.i64 (0:Int),D.int IntKind.i64 (3:Int),D.sl true (5:Nat) (1:Nat) fun(i j:Nat)=>List.getD [D.int IntKind.i64 (0:Int),D.int IntKind.i64 (0:Int),D.int IntKind.i64 (0:Int),D.int IntKind.i64 (-1:Int),D.int IntKind.i64 (0:Int)] (i*(1:Nat)+j) D.nilp,D.int IntKind.i64 (0:Int)] (i*(4:Nat)+j) D.nilp) fun(i j:Nat)=>List.getD [D.int IntKind.i64 (0:Int),D.int IntKind.i64 (4:Int),D.sl true (5:Nat) (1:Nat) fun(i j:Nat)=>List.getD [D.int IntKind.i64 (0:Int),D.int IntKind.i64 (0:Int),D.int IntKind.i64 (0:Int),D.int IntKind.i64 (0:Int),D.int IntKind.i64 (-1:Int)] (i*(1:Nat)+j) D.nilp,D.int IntKind.i64 (0:Int)] (i*(4:Nat)+j) D.nilp) fun(i j:Nat)=>List.getD [D.int IntKind.i64 (1:Int),D.int IntKind.i64 (0:Int),D.sl true (5:Nat) (1:Nat) fun(i j:Nat)=>List.getD [D.int IntKind.i64 (1:Int),D.int IntKind.i64 (0:Int),D.int IntKind.i64 (0:Int),D.int IntKind.i64 (0:Int),D.int IntKind.i64 (0:Int)] (i*(1:Nat)+j) D.nilp,D.int IntKind.i64 (List.getD [c0,c1,c2,c3] (Int.toNat (0:Int)) (Enc.dflt eC)).2] (i*(4:Nat)+j) D.nilp) fun(i j:Nat)=>List.getD [D.int IntKind.i64 (1:Int),D.int IntKind.i64 (1:Int),D.sl true (5:Nat) (1:Nat) fun(i j:Nat)=>List.getD [D.int IntKind.i64 (0:Int),D.int IntKind.i64 (1:Int),D.int IntKind.i64 (0:Int),D.int IntKind.i64 (0:Int),D.int IntKind.i64 (0:Int)] (i*(1:Nat)+j) D.nilp,D.int IntKind.i64 (List.getD [c0,c1,c2,c3] (Int.toNat (IntKind.wrap IntKind.i64 ((0:Int)+(1:Int)))) (Enc.dflt eC)).2] (i*(4:Nat)+j) D.nilp) fun(i j:Nat)=>List.getD [D.int IntKind.i64 (1:Int),D.int IntKind.i64 (2:Int),D.sl true (5:Nat) (1:Nat) fun(i j:Nat)=>List.getD [D.int IntKind.i64 (0:Int),D.int IntKind.i64 (0:Int),D.int IntKind.i64 (1:Int),D.int IntKind.i64 (0:Int),D.int IntKind.i64 (0:Int)] (i*(1:Nat)+j) D.nilp,D.int IntKind.i64 (List.getD [c0,c1,c2,c3] (Int.toNat (IntKind.wrap IntKind.i64 (IntKind.wrap IntKind.i64 ((0:Int)+(1:Int))+(1:Int)))) (Enc.dflt eC)).2] (i*(4:Nat)+j) D.nilp) fun(i j:Nat)=>List.getD [D.int IntKind.i64 (1:Int),D.int IntKind.i64 (3:Int),D.sl true (5:Nat) (1:Nat) fun(i j:Nat)=>List.getD [D.int IntKind.i64 (0:Int),D.int IntKind.i64 (0:Int),D.int IntKind.i64 (0:Int),D.int IntKind.i64 (1:Int),D.int IntKind.i64 (0:Int)] (i*(1:Nat)+j) D.nilp,D.int IntKind.i64 (List.getD [c0,c1,c2,c3] (Int.toNat (IntKind.wrap IntKind.i64 (IntKind.wrap IntKind.i64 (IntKind.wrap IntKind.i64 ((0:Int)+(1:Int))+(1:Int))+(1:Int)))) (Enc.dflt eC)).2] (i*(4:Nat)+j) D.nilp) fun(i j:Nat)=>List.getD [D.int IntKind.i64 (2:Int),D.int IntKind.i64 (0:Int),D.sl true (5:Nat) (1:Nat) fun(i j:Nat)=>List.getD [D.int IntKind.i64 (IntKind.wrap IntKind.i64 ((List.getD [c0,c1,c2,c3] (Int.toNat (0:Int)) (Enc.dflt eC)).4-h0)),D.int IntKind.i64 (IntKind.wrap IntKind.i64 ((List.getD [c0,c1,c2,c3] (Int.toNat (IntKind.wrap IntKind.i64 ((0:Int)+(1:Int)))) (Enc.dflt eC)).4-h0)),D.int IntKind.i64 (IntKind.wrap IntKind.i64 ((List.getD [c0,c1,c2,c3] (Int.toNat (IntKind.wrap IntKind.i64 (IntKind.wrap IntKind.i64 ((0:Int)+(1:Int))+(1:Int)))) (Enc.dflt eC)).4-h0)),D.int IntKind.i64 (IntKind.wrap IntKind.i64 ((List.getD [c0,c1,c2,c3] (Int.toNat (IntKind.wrap IntKind.i64 (IntKind.wrap IntKind.i64 (IntKind.wrap IntKind.i64 ((0:Int)+(1:Int))+(1:Int))+(1:Int)))) (Enc.dflt eC)).4-h0)),D.int IntKind.i64 (-1:Int)] (i*(1:Nat)+j) D.nilp,D.int IntKind.i64 (0:Int)] (i*(4:Nat)+j) D.nilp) fun(i j:Nat)=>List.getD [D.int IntKind.i64 (3:Int),D.int IntKind.i64 (0:Int),D.sl true (5:Nat) (1:Nat) fun(i j:Nat)=>List.getD [D.int IntKind.i64 (IntKind.wrap IntKind.i64 (l0-(List.getD [c0,c1,c2,c3] (Int.toNat (0:Int)) (Enc.dflt eC)).4)),D.int IntKind.i64 (IntKind.wrap IntKind.i64 (l0-(List.getD [c0,c1,c2,c3] (Int.toNat (IntKind.wrap IntKind.i64 ((0:Int)+(1:Int)))) (Enc.dflt eC)).4)),D.int IntKind.i64 (IntKind.wrap IntKind.i64 (l0-(List.getD [c0,c1,c2,c3] (Int.toNat (IntKind.wrap IntKind.i64 (IntKind.wrap IntKind.i64 ((0:Int)+(1:Int))+(1:Int)))) (Enc.dflt eC)).4)),D.int IntKind.i64 (IntKind.wrap IntKind.i64 (l0-(List.getD [c0,c1,c2,c3] (Int.toNat (IntKind.wrap IntKind.i64 (IntKind.wrap IntKind.i64 (IntKind.wrap IntKind.i64 ((0:Int)+(1:Int))+(1:Int))+(1:Int)))) (Enc.dflt eC)).4)),D.int IntKind.i64 (-1:Int)] (i*(1:Nat)+j) D.nilp,D.int IntKind.i64 (0:Int)] (i*(4:Nat)+j) D.nilp) fun(i j:Nat)=>List.getD [D.int IntKind.i64 (2:Int),D.int IntKind.i64 (1:Int),D.sl true (5:Nat) (1:Nat) fun(i j:Nat)=>List.getD [D.int IntKind.i64 (IntKind.wrap IntKind.i64 ((List.getD [c0,c1,c2,c3] (Int.toNat (0:Int)) (Enc.dflt eC)).5-h1)),D.int IntKind.i64 (IntKind.wrap IntKind.i64 ((List.getD [c0,c1,c2,c3] (Int.toNat (IntKind.wrap IntKind.i64 ((0:Int)+(1:Int)))) (Enc.dflt eC)).5-h1)),D.int IntKind.i64 (IntKind.wrap IntKind.i64 ((List.getD [c0,c1,c2,c3] (Int.toNat (IntKind.wrap IntKind.i64 (IntKind.wrap IntKind.i64 ((0:Int)+(1:Int))+(1:Int)))) (Enc.dflt eC)).5-h1)),D.int IntKind.i64 (IntKind.wrap IntKind.i64 ((List.getD [c0,c1,c2,c3] (Int.toNat (IntKind.wrap IntKind.i64 (IntKind.wrap IntKind.i64 (IntKind.wrap IntKind.i64 ((0:Int)+(1:Int))+(1:Int))+(1:Int)))) (Enc.dflt eC)).5-h1)),D.int IntKind.i64 (-1:Int)] (i*(1:Nat)+j) D.nilp,D.int IntKind.i64 (0:Int)] (i*(4:Nat)+j) D.nilp) fun(i j:Nat)=>List.getD [D.int IntKind.i64 (3:Int),D.int IntKind.i64 (1:Int),D.sl true (5:Nat) (1:Nat) fun(i j:Nat)=>List.getD [D.int IntKind.i64 (IntKind.wrap IntKind.i64 (l1-(List.getD [c0,c1,c2,c3] (Int.toNat (0:Int)) (Enc.dflt eC)).5)),D.int IntKind.i64 (IntKind.wrap IntKind.i64 (l1-(List.getD [c0,c1,c2,c3] (Int.toNat (IntKind.wrap IntKind.i64 ((0:Int)+(1:Int)))) (Enc.dflt eC)).5)),D.int IntKind.i64 (IntKind.wrap IntKind.i64 (l1-(List.getD [c0,c1,c2,c3] (Int.toNat (IntKind.wrap IntKind.i64 (IntKind.wrap IntKind.i64 ((0:Int)+(1:Int))+(1:Int)))) (Enc.dflt eC)).5)),D.int IntKind.i64 (IntKind.wrap IntKind.i64 (l1-(List.getD [c0,c1,c2,c3] (Int.toNat (IntKind.wrap IntKind.i64 (IntKind.wrap IntKind.i64 (IntKind.wrap IntKind.i64 ((0:Int)+(1:Int))+(1:Int))+(1:Int)))) (Enc.dflt eC)).5)),D.int IntKind.i64 (-1:Int)] (i*(1:Nat)+j) D.nilp,D.int IntKind.i64 (0:Int)] (i*(4:Nat)+j) D.nilp) fun(i j:Nat)=>List.getD [D.int IntKind.i64 (2:Int),D.int IntKind.i64 (2:Int),D.sl true (5:Nat) (1:Nat) fun(i j:Nat)=>List.getD [D.int IntKind.i64 (IntKind.wrap IntKind.i64 ((List.getD [c0,c1,c2,c3] (Int.toNat (0:Int)) (Enc.dflt eC)).6-h2)),D.int IntKind.i64 (IntKind.wrap IntKind.i64 ((List.getD [c0,c1,c2,c3] (Int.toNat (IntKind.wrap IntKind.i64 ((0:Int)+(1:Int)))) (Enc.dflt eC)).6-h2)),D.int IntKind.i64 (IntKind.wrap IntKind.i64 ((List.getD [c0,c1,c2,c3] (Int.toNat (IntKind.wrap IntKind.i64 (IntKind.wrap IntKind.i64 ((0:Int)+(1:Int))+(1:Int)))) (Enc.dflt eC)).6-h2)),D.int IntKind.i64 (IntKind.wrap IntKind.i64 ((List.getD [c0,c1,c2,c3] (Int.toNat (IntKind.wrap IntKind.i64 (IntKind.wrap IntKind.i64 (IntKind.wrap IntKind.i64 ((0:Int)+(1:Int))+(1:Int))+(1:Int)))) (Enc.dflt eC)).6-h2)),D.int IntKind.i64 (-1:Int)] (i*(1:Nat)+j) D.nilp,D.int IntKind.i64 (0:Int)] (i*(4:Nat)+j) D.nilp) fun(i j:Nat)=>List.getD [D.int IntKind.i64 (3:Int),D.int IntKind.i64 (2:Int),D.sl true (5:Nat) (1:Nat) fun(i j:Nat)=>List.getD [D.int IntKind.i64 (IntKind.wrap IntKind.i64 (l2-(List.getD [c0,c1,c2,c3] (Int.toNat (0:Int)) (Enc.dflt eC)).6)),D.int IntKind.i64 (IntKind.wrap IntKind.i64 (l2-(List.getD [c0,c1,c2,c3] (Int.toNat (IntKind.wrap IntKind.i64 ((0:Int)+(1:Int)))) (Enc.dflt eC)).6)),D.int IntKind.i64 (IntKind.wrap IntKind.i64 (l2-(List.getD [c0,c1,c2,c3] (Int.toNat (IntKind.wrap IntKind.i64 (IntKind.wrap IntKind.i64 ((0:Int)+(1:Int))+(1:Int)))) (Enc.dflt eC)).6)),D.int IntKind.i64 (IntKind.wrap IntKind.i64 (l2-(List.getD [c0,c1,c2,c3] (Int.toNat (IntKind.wrap IntKind.i64 (IntKind.wrap IntKind.i64 (IntKind.wrap IntKind.i64 ((0:Int)+(1:Int))+(1:Int))+(1:Int)))) (Enc.dflt eC)).6)),D.int IntKind.i64 (-1:Int)] (i*(1:Nat)+j) D.nilp,D.int IntKind.i64 (0:Int)] (i*(4:Nat)+j) D.nilp) fun(i j:Nat)=>List.getD [D.int IntKind.i64 (2:Int),D.int IntKind.i64 (3:Int),D.sl true (5:Nat) (1:Nat) fun(i j:Nat)=>List.getD [D.int IntKind.i64 (IntKind.wrap IntKind.i64 ((List.getD [c0,c1,c2,c3] (Int.toNat (0:Int)) (Enc.dflt eC)).7-h3)),D.int IntKind.i64 (IntKind.wrap IntKind.i64 ((List.getD [c0,c1,c2,c3] (Int.toNat (IntKind.wrap IntKind.i64 ((0:Int)+(1:Int)))) (Enc.dflt eC)).7-h3)),D.int IntKind.i64 (IntKind.wrap IntKind.i64 ((List.getD [c0,c1,c2,c3] (Int.toNat (IntKind.wrap IntKind.i64 (IntKind.wrap IntKind.i64 ((0:Int)+(1:Int))+(1:Int)))) (Enc.dflt eC)).7-h3)),D.int IntKind.i64 (IntKind.wrap IntKind.i64 ((List.getD [c0,c1,c2,c3] (Int.toNat (IntKind.wrap IntKind.i64 (IntKind.wrap IntKind.i64 (IntKind.wrap IntKind.i64 ((0:Int)+(1:Int))+(1:Int))+(1:Int)))) (Enc.dflt eC)).7-h3)),D.int IntKind.i64 (-1:Int)] (i*(1:Nat)+j) D.nilp,D.int IntKind.i64 (0:Int)] (i*(4:Nat)+j) D.nilp) fun(i j:Nat)=>List.getD [D.int IntKind.i64 (3:Int),D.int IntKind.i64 (3:Int),D.sl true (5:Nat) (1:Nat) fun(i j:Nat)=>List.getD [D.int IntKind.i64 (IntKind.wrap IntKind.i64 (l3-(List.getD [c0,c1,c2,c3] (Int.toNat (0:Int)) (Enc.dflt eC)).7)),D.int IntKind.i64 (IntKind.wrap IntKind.i64 (l3-(List.getD [c0,c1,c2,c3] (Int.toNat (IntKind.wrap IntKind.i64 ((0:Int)+(1:Int)))) (Enc.dflt eC)).7)),D.int IntKind.i64 (IntKind.wrap IntKind.i64 (l3-(List.getD [c0,c1,c2,c3] (Int.toNat (IntKind.wrap IntKind.i64 (IntKind.wrap IntKind.i64 ((0:Int)+(1:Int))+(1:Int)))) (Enc.dflt eC)).7)),D.int IntKind.i64 (IntKind.wrap IntKind.i64 (l3-(List.getD [c0,c1,c2,c3] (Int.toNat (IntKind.wrap IntKind.i64 (IntKind.wrap IntKind.i64 (IntKind.wrap IntKind.i64 ((0:Int)+(1:Int))+(1:Int))+(1:Int)))) (Enc.dflt eC)).7)),D.int IntKind.i64 (-1:Int)] (i*(1:Nat)+j) D.nilp,D.int IntKind.i64 (0:Int)] (i*(4:Nat)+j) D.nilp)]]))))))))))))))))))))))))))))))))))))))))))))))))))))))))))))))))))))))))))))))))))))))))))))))))))))))))))))))))))))))))))))))))))))))))))))))))))))))))))))))))))))))))))
theorem t82_4(q:Bool)(c0 c1 c2 c3:Cask)(sv l0 h0 l1 h1 l2 h2 l3 h3:Int):runFnX Tryz.prog G0 (lookS []) (fun _=>[(999999,[],none)]) [116,154,155,156,157,158,159,160] 1 60 6 69 Tryz.f69 [.c (.sl q 4 7 (eC.F [c0,c1,c2,c3])),.agg [dI sv,dI l0,dI h0,dI l1,dI h1,dI l2,dI h2,dI l3,dI h3]] =
  tr82_4 c0 c1 c2 c3 sv l0 h0 l1 h1 l2 h2 l3 h3:=by kernel_rfl
theorem w82_4(c0 c1 c2 c3:Cask)(sv l0 h0 l1 h1 l2 h2 l3 h3:Int):(tr82_4 c0 c1 c2 c3 sv l0 h0 l1 h1 l2 h2 l3 h3).wp (fun rs=>rsEqv rs (res82 [c0,c1,c2,c3] ⟨sv,⟨l0,h0⟩,⟨l1,h1⟩,⟨l2,h2⟩,⟨l3,h3⟩⟩)):=by
 unfold tr82_4
 repeat (refine⟨by decide,?_⟩)
 refine⟨⟨?_,rfl,?_,?_,trivial⟩,trivial⟩
 ·refine sl_ints (q':=false) (l:=M.shares [c0,c1,c2,c3] 1) (fun e=>nomatch e) ?_
  kernel_rfl
 ·refine sl_ints (q':=false) (l:=M.far [c0,c1,c2,c3]) (fun e=>nomatch e) ?_
  kernel_rfl
 ·refine conds_eqv (q':=false) (m:=M.limits [c0,c1,c2,c3] ⟨sv,⟨l0,h0⟩,⟨l1,h1⟩,⟨l2,h2⟩,⟨l3,h3⟩⟩ 1) (fun e=>nomatch e) ?_
  kernel_rfl
end Go.Bl
end
section
set_option maxRecDepth 100000
namespace Go.Bl
open Go.Gd
open Go.V Go.Proofs
theorem C66:FOK Tryz.prog G0 gw 64 dom66:=by
 intro ags p r hd hp κ w xs hw hl hG hx
 unfold dom66 at hd
 split at hd
 ·rename_i q n st F sv l0 h0 l1 h1 l2 h2 l3 h3
  split at hd
  ·rename_i hst
   have e1:=Nat.eq_of_beq_eq_true hst
   subst e1
   simp only[Option.some.injEq,Prod.mk.injEq]at hd
   obtain⟨rfl,rfl⟩:=hd
   obtain⟨hC,hn1,hn4,_⟩:=hp
   have heq:agsEqv [.c (.sl q n 7 F),.agg [.int .i64 sv,.int .i64 l0,.int .i64 h0,.int .i64 l1,.int .i64 h1,.int .i64 l2,.int .i64 h2,.int .i64 l3,.int .i64 h3]] [.c (.sl q (eC.list n F).length 7 (eC.F (eC.list n F))),.agg [.int .i64 sv,.int .i64 l0,.int .i64 h0,.int .i64 l1,.int .i64 h1,.int .i64 l2,.int .i64 h2,.int .i64 l3,.int .i64 h3]]:=⟨eC.to id hC,Ag.eqv_refl _,trivial⟩
   have l1':(eC.list n F).length=n:=eC.list_len
   generalize eC.list n F=l at *
   match n,hn1,hn4 with
   |1,_,_=>
    obtain⟨c0,rfl⟩:=len1 l1'
    exact fokX_fin mixed gw_stable (sl:=[]) trivial Tryz.func64 hw hl hG hx heq rfl (t66_1 q c0 sv l0 h0 l1 h1 l2 h2 l3 h3) (w66_1 c0 sv l0 h0 l1 h1 l2 h2 l3 h3)
   |2,_,_=>
    obtain⟨c0,c1,rfl⟩:=len2 l1'
    exact fokX_fin mixed gw_stable (sl:=[]) trivial Tryz.func64 hw hl hG hx heq rfl (t66_2 q c0 c1 sv l0 h0 l1 h1 l2 h2 l3 h3) (w66_2 c0 c1 sv l0 h0 l1 h1 l2 h2 l3 h3)
   |3,_,_=>
    obtain⟨c0,c1,c2,rfl⟩:=len3 l1'
    exact fokX_fin mixed gw_stable (sl:=[]) trivial Tryz.func64 hw hl hG hx heq rfl (t66_3 q c0 c1 c2 sv l0 h0 l1 h1 l2 h2 l3 h3) (w66_3 c0 c1 c2 sv l0 h0 l1 h1 l2 h2 l3 h3)
   |4,_,_=>
    obtain⟨c0,c1,c2,c3,rfl⟩:=len4 l1'
    exact fokX_fin mixed gw_stable (sl:=[]) trivial Tryz.func64 hw hl hG hx heq rfl (t66_4 q c0 c1 c2 c3 sv l0 h0 l1 h1 l2 h2 l3 h3) (w66_4 c0 c1 c2 c3 sv l0 h0 l1 h1 l2 h2 l3 h3)
  ·cases hd
 ·cases hd
theorem S66:SumOK Tryz.prog G0 gw 64 (fokSm dom66):=fok_sum Tryz.func64 rfl C66
theorem C82:FOK Tryz.prog G0 gw 69 dom82:=by
 intro ags p r hd hp κ w xs hw hl hG hx
 unfold dom82 at hd
 split at hd
 ·rename_i q n st F sv l0 h0 l1 h1 l2 h2 l3 h3
  split at hd
  ·rename_i hst
   have e1:=Nat.eq_of_beq_eq_true hst
   subst e1
   simp only[Option.some.injEq,Prod.mk.injEq]at hd
   obtain⟨rfl,rfl⟩:=hd
   obtain⟨hC,hn1,hn4,_⟩:=hp
   have heq:agsEqv [.c (.sl q n 7 F),.agg [.int .i64 sv,.int .i64 l0,.int .i64 h0,.int .i64 l1,.int .i64 h1,.int .i64 l2,.int .i64 h2,.int .i64 l3,.int .i64 h3]] [.c (.sl q (eC.list n F).length 7 (eC.F (eC.list n F))),.agg [.int .i64 sv,.int .i64 l0,.int .i64 h0,.int .i64 l1,.int .i64 h1,.int .i64 l2,.int .i64 h2,.int .i64 l3,.int .i64 h3]]:=⟨eC.to id hC,Ag.eqv_refl _,trivial⟩
   have l1':(eC.list n F).length=n:=eC.list_len
   generalize eC.list n F=l at *
   match n,hn1,hn4 with
   |1,_,_=>
    obtain⟨c0,rfl⟩:=len1 l1'
    exact fokX_fin mixed gw_stable (sl:=[]) trivial Tryz.func69 hw hl hG hx heq rfl (t82_1 q c0 sv l0 h0 l1 h1 l2 h2 l3 h3) (w82_1 c0 sv l0 h0 l1 h1 l2 h2 l3 h3)
   |2,_,_=>
    obtain⟨c0,c1,rfl⟩:=len2 l1'
    exact fokX_fin mixed gw_stable (sl:=[]) trivial Tryz.func69 hw hl hG hx heq rfl (t82_2 q c0 c1 sv l0 h0 l1 h1 l2 h2 l3 h3) (w82_2 c0 c1 sv l0 h0 l1 h1 l2 h2 l3 h3)
   |3,_,_=>
    obtain⟨c0,c1,c2,rfl⟩:=len3 l1'
    exact fokX_fin mixed gw_stable (sl:=[]) trivial Tryz.func69 hw hl hG hx heq rfl (t82_3 q c0 c1 c2 sv l0 h0 l1 h1 l2 h2 l3 h3) (w82_3 c0 c1 c2 sv l0 h0 l1 h1 l2 h2 l3 h3)
   |4,_,_=>
    obtain⟨c0,c1,c2,c3,rfl⟩:=len4 l1'
    exact fokX_fin mixed gw_stable (sl:=[]) trivial Tryz.func69 hw hl hG hx heq rfl (t82_4 q c0 c1 c2 c3 sv l0 h0 l1 h1 l2 h2 l3 h3) (w82_4 c0 c1 c2 c3 sv l0 h0 l1 h1 l2 h2 l3 h3)
  ·cases hd
 ·cases hd
theorem S82:SumOK Tryz.prog G0 gw 69 (fokSm dom82):=fok_sum Tryz.func69 rfl C82
end Go.Bl
end
section
set_option maxRecDepth 100000
namespace Go.Bl
open Go.Gd
open Go.V Go.Proofs
namespace M
def rgErr(r:Rg):Int:=first [unl (within r.lo 0 1000&&within r.hi 0 1000) 2,unl (decide (r.lo≤r.hi)) 9]
def checkSample(s:Sample):Int:=cond (within s.vol 1 10000) (first [rgErr s.r0,rgErr s.r1,rgErr s.r2,rgErr s.r3]) 2
def casksErr(l:List Cask):Int:=first [(checkCasks l).2,unl (decide ((l.length:Int)≤4)) 8]
def taskErr(l:List Cask)(s:Sample):Int:=first [casksErr l,checkSample s]
def volumes(l:List Cask):Int:=(List.range l.length).foldl (fun a i=>IntKind.i64.wrap (a+(l.getD i dfC).vol)) 0
def mx(a b:Int):Int:=if b>a then b else a
def awayK(V n:Int)(r:Rg)(a:Int):Int:=mx (mx a (IntKind.i64.wrap (IntKind.i64.wrap (r.lo*V)-n))) (IntKind.i64.wrap (n-IntKind.i64.wrap (r.hi*V)))
def away(l:List Cask)(ps:List Int)(s:Sample):Int:=
 awayK (sumP (fun _=>1) l ps) (sumP (kOf 3) l ps) s.r3 (awayK (sumP (fun _=>1) l ps) (sumP (kOf 2) l ps) s.r2 (awayK (sumP (fun _=>1) l ps) (sumP (kOf 1) l ps) s.r1 (awayK (sumP (fun _=>1) l ps) (sumP (kOf 0) l ps) s.r0 0)))
end M
theorem first_cons(x:Int)(l:List Int):M.first (x::l)=if x=0 then M.first l else x:=by
 by_cases h:x=0
 ·rw[if_pos h,h];rfl
 ·rw[if_neg h]
  have:(x != 0)=true:=bne_iff_ne.2 h
  simp only[M.first,this,cond_true]
def pieceB{α:Type}(lo hi:Int)(bad:Int→α)(rest:T α):T α:=
 .br (M.within lo 0 1000) (.need (M.within lo 0 1000=true) (.br (M.first [M.unl (M.within hi 0 1000) 2,M.unl (decide (lo≤hi)) 9] != 0) (.ret (bad (M.first [M.unl (M.within hi 0 1000) 2,M.unl (decide (lo≤hi)) 9]))) rest))
  (.need (M.within lo 0 1000=false) (.br (M.first [2,M.unl (decide (lo≤hi)) 9] != 0) (.ret (bad (M.first [2,M.unl (decide (lo≤hi)) 9]))) rest))
theorem pieceB_wp{α:Type}{lo hi:Int}{bad:Int→α}{rest:T α}{Q:α→Prop}(h1:M.rgErr ⟨lo,hi⟩≠0→Q (bad (M.rgErr ⟨lo,hi⟩)))(h2:M.rgErr ⟨lo,hi⟩=0→rest.wp Q):(pieceB lo hi bad rest).wp Q:=by
 have fin:∀e:Int,M.rgErr ⟨lo,hi⟩=e→(T.br (e != 0) (.ret (bad e)) rest:T α).wp Q:=by
  intro e he
  refine wp_br (fun h=>?_) (fun h=>?_)
  ·rw[←he]at h ⊢;exact h1 (bne_iff_ne.1 h)
  ·rw[←he]at h;exact h2 (by simpa using h)
 refine wp_br (fun h=>⟨h,fin _ ?_⟩) (fun h=>⟨h,fin _ ?_⟩)
 ·unfold M.rgErr;rw[h];rfl
 ·unfold M.rgErr;rw[h];rfl
def tr49(sv l0 h0 l1 h1 l2 h2 l3 h3:Int):T (List Ar):=
 .br (!M.within sv 1 10000) (.ret [rI 2]) (pieceB l0 h0 (fun e=>[rI e]) (pieceB l1 h1 (fun e=>[rI e]) (pieceB l2 h2 (fun e=>[rI e]) (pieceB l3 h3 (fun e=>[rI e]) (.ret [rI 0])))))
theorem t49(sv l0 h0 l1 h1 l2 h2 l3 h3:Int):runFnX Tryz.prog G0 (lookS [v64,v80,v95,v102]) (fun _=>[(1000013,[],none),(3000012,[],none),(3000035,[],none)]) [] 1 40 3 63 Tryz.f63 [.agg [dI sv,dI l0,dI h0,dI l1,dI h1,dI l2,dI h2,dI l3,dI h3]] =
  tr49 sv l0 h0 l1 h1 l2 h2 l3 h3:=by kernel_rfl
theorem w49(sv l0 h0 l1 h1 l2 h2 l3 h3:Int):(tr49 sv l0 h0 l1 h1 l2 h2 l3 h3).wp (fun rs=>rsEqv rs [rI (M.checkSample ⟨sv,⟨l0,h0⟩,⟨l1,h1⟩,⟨l2,h2⟩,⟨l3,h3⟩⟩)]):=by
 have fin:∀e:Int,M.checkSample ⟨sv,⟨l0,h0⟩,⟨l1,h1⟩,⟨l2,h2⟩,⟨l3,h3⟩⟩=e→rsEqv [rI e] [rI (M.checkSample ⟨sv,⟨l0,h0⟩,⟨l1,h1⟩,⟨l2,h2⟩,⟨l3,h3⟩⟩)]:=fun e he=>by rw[he];exact rsEqv_refl _
 refine wp_br (fun a=>?_) (fun a=>?_)
 ·have a:M.within sv 1 10000=false:=by simpa using a
  exact fin 2 (by unfold M.checkSample;rw[a];rfl)
 ·have a:M.within sv 1 10000=true:=by simpa using a
  refine pieceB_wp (fun h=>fin _ ?_) (fun b0=>pieceB_wp (fun h=>fin _ ?_) (fun b1=>pieceB_wp (fun h=>fin _ ?_) (fun b2=>pieceB_wp (fun h=>fin _ ?_) (fun b3=>fin _ ?_))))
  all_goals(unfold M.checkSample;simp only[a,cond_true,first_cons])
  ·rw[if_neg h]
  ·rw[b0,if_pos rfl,if_neg h]
  ·rw[b0,b1,if_pos rfl,if_pos rfl,if_neg h]
  ·rw[b0,b1,b2,if_pos rfl,if_pos rfl,if_pos rfl,if_neg h]
  ·rw[b0,b1,b2,b3,if_pos rfl,if_pos rfl,if_pos rfl,if_pos rfl];rfl
def dom49:DomF
 |[.agg [.int .i64 sv,.int .i64 l0,.int .i64 h0,.int .i64 l1,.int .i64 h1,.int .i64 l2,.int .i64 h2,.int .i64 l3,.int .i64 h3]]=>some ([],[rI (M.checkSample ⟨sv,⟨l0,h0⟩,⟨l1,h1⟩,⟨l2,h2⟩,⟨l3,h3⟩⟩)])
 |_=>none
def v49:Nat×Sm:=(63,fokSm dom49)
theorem C49:FOK Tryz.prog G0 gw 63 dom49:=by
 intro ags p r hd hp κ w xs hw hl hG hx
 unfold dom49 at hd
 split at hd
 ·rename_i sv l0 h0 l1 h1 l2 h2 l3 h3
  simp only[Option.some.injEq,Prod.mk.injEq]at hd
  obtain⟨rfl,rfl⟩:=hd
  have heq:agsEqv [.agg [.int .i64 sv,.int .i64 l0,.int .i64 h0,.int .i64 l1,.int .i64 h1,.int .i64 l2,.int .i64 h2,.int .i64 l3,.int .i64 h3]] [.agg [.int .i64 sv,.int .i64 l0,.int .i64 h0,.int .i64 l1,.int .i64 h1,.int .i64 l2,.int .i64 h2,.int .i64 l3,.int .i64 h3]]:=⟨Ag.eqv_refl _,trivial⟩
  exact fokX_fin mixed gw_stable (sl:=[v64,v80,v95,v102]) ⟨S64,S80,S95,S102,trivial⟩ Tryz.func63 hw hl hG hx heq rfl (t49 sv l0 h0 l1 h1 l2 h2 l3 h3) (w49 sv l0 h0 l1 h1 l2 h2 l3 h3)
 ·cases hd
theorem S49:SumOK Tryz.prog G0 gw 63 (fokSm dom49):=fok_sum Tryz.func63 rfl C49
theorem t65(q_l:Bool)(l:List Cask):runFnX Tryz.prog G0 (lookS [v64,v80,v47]) (fun _=>[]) [] 1 40 3 62 Tryz.f62 [.c (.sl q_l l.length 7 (eC.F l))] =
  T.need (eC.Is l.length (eC.F l)) (T.need (∀c,c∈eC.list l.length (eC.F l)→c.nm.size≤1000000) (T.ret [rI (M.first [(M.checkCasks (eC.list l.length (eC.F l))).2,M.unl (decide ((l.length:Int)≤4)) 8])])):=by kernel_rfl
def dom65:DomF
 |[.c (.sl _ n_l st_l F_l)]=>(match Nat.beq st_l 7 with
  |true=>some ([eC.Is n_l F_l,∀c,c∈(eC.list n_l F_l)→c.nm.size≤1000000],[rI (M.casksErr (eC.list n_l F_l))])
  |_=>none)
 |_=>none
def v65:Nat×Sm:=(62,fokSm dom65)
theorem C65:FOK Tryz.prog G0 gw 62 dom65:=by
 intro ags p r hd hp κ w xs hw hl hG hx
 unfold dom65 at hd
 split at hd
 ·rename_i q_l n_l st_l F_l
  split at hd
  ·rename_i hst
   have g1:=hst
   have g1:=Nat.eq_of_beq_eq_true g1
   subst g1
   simp only[Option.some.injEq,Prod.mk.injEq]at hd
   obtain⟨rfl,rfl⟩:=hd
   obtain⟨hI_l,hp⟩:=hp
   have heq:agsEqv [.c (.sl q_l n_l 7 F_l)] [.c (.sl q_l (eC.list n_l F_l).length 7 (eC.F (eC.list n_l F_l)))]:=⟨eC.to id hI_l,trivial⟩
   have len_l:(eC.list n_l F_l).length=n_l:=eC.list_len
   generalize eC.list n_l F_l=l at *
   subst len_l
   exact fokX_fin mixed gw_stable (sl:=[v64,v80,v47]) ⟨S64,S80,S47,trivial⟩ Tryz.func62 hw hl hG hx heq rfl (t65 q_l l) ((by rw[Enc.list_F];exact⟨Enc.is_F _ _ _,hp.1,rsEqv_refl _⟩))
  ·cases hd
 ·cases hd
theorem S65:SumOK Tryz.prog G0 gw 62 (fokSm dom65):=fok_sum Tryz.func62 rfl C65
theorem t81(q_l:Bool)(l:List Cask)(sv l0 h0 l1 h1 l2 h2 l3 h3:Int):runFnX Tryz.prog G0 (lookS []) (fun _=>[(3,[.slot 10 (.int .i64),.slot 5 (.int .i64)],none)]) [] 1 40 3 68 Tryz.f68 [.c (.sl q_l l.length 7 (eC.F l)),.agg [dI sv,dI l0,dI h0,dI l1,dI h1,dI l2,dI h2,dI l3,dI h3]] =
  T.loop (Int×Int×PUnit) (0,0,PUnit.unit) fun x=>T.br (decide (x.1<(l.length:Int))) (T.need (0≤x.1) (T.need (x.1<(l.length:Int)) (T.ret (.inl (IntKind.i64.wrap (x.1+1),IntKind.i64.wrap (x.2.1+(l.getD x.1.toNat dfC).vol),PUnit.unit))))) (T.ret (.inr [rB (decide (x.2.1≥sv))])):=by kernel_rfl
theorem w81(l:List Cask)(sv:Int)(hl:l.length≤1000000):(T.loop (Int×Int×PUnit) (0,0,PUnit.unit) fun x=>T.br (decide (x.1<(l.length:Int))) (T.need (0≤x.1) (T.need (x.1<(l.length:Int)) (T.ret (.inl (IntKind.i64.wrap (x.1+1),IntKind.i64.wrap (x.2.1+(l.getD x.1.toNat dfC).vol),PUnit.unit))))) (T.ret (.inr [rB (decide (x.2.1≥sv))])):T (List Ar)).wp (fun rs=>rsEqv rs [rB (decide (M.volumes l≥sv))]):=by
 refine range_wp (n:=l.length) (fun k s=>s.1=(List.range k).foldl (fun a i=>IntKind.i64.wrap (a+(l.getD i dfC).vol)) 0) rfl ?_
 rintro k ⟨a,u⟩ hk hI
 simp only at hI
 refine⟨fun hb=>?_,fun hb=>?_⟩
 ·have hlt:=lt_of_dec hb
  refine⟨by show(0:Int)≤k;omega,by show(k:Int)<l.length;omega,hlt,wrap_succ (by omega),?_⟩
  rw[foldl_succ,←hI]
  rfl
 ·have hge:=ge_of_dec hb
  obtain rfl:k=l.length:=by omega
  have e:a=M.volumes l:=hI
  subst e
  exact rsEqv_refl _
def dom81:DomF
 |[.c (.sl _ n_l st_l F_l),.agg [.int .i64 sv,.int .i64 l0,.int .i64 h0,.int .i64 l1,.int .i64 h1,.int .i64 l2,.int .i64 h2,.int .i64 l3,.int .i64 h3]]=>(match Nat.beq st_l 7 with
  |true=>some ([eC.Is n_l F_l,(eC.list n_l F_l).length≤1000000],[rB (decide (M.volumes (eC.list n_l F_l)≥sv))])
  |_=>none)
 |_=>none
def v81:Nat×Sm:=(68,fokSm dom81)
theorem C81:FOK Tryz.prog G0 gw 68 dom81:=by
 intro ags p r hd hp κ w xs hw hl hG hx
 unfold dom81 at hd
 split at hd
 ·rename_i q_l n_l st_l F_l sv l0 h0 l1 h1 l2 h2 l3 h3
  split at hd
  ·rename_i hst
   have g1:=hst
   have g1:=Nat.eq_of_beq_eq_true g1
   subst g1
   simp only[Option.some.injEq,Prod.mk.injEq]at hd
   obtain⟨rfl,rfl⟩:=hd
   obtain⟨hI_l,hp⟩:=hp
   have heq:agsEqv [.c (.sl q_l n_l 7 F_l),.agg [.int .i64 sv,.int .i64 l0,.int .i64 h0,.int .i64 l1,.int .i64 h1,.int .i64 l2,.int .i64 h2,.int .i64 l3,.int .i64 h3]] [.c (.sl q_l (eC.list n_l F_l).length 7 (eC.F (eC.list n_l F_l))),.agg [.int .i64 sv,.int .i64 l0,.int .i64 h0,.int .i64 l1,.int .i64 h1,.int .i64 l2,.int .i64 h2,.int .i64 l3,.int .i64 h3]]:=⟨eC.to id hI_l,Ag.eqv_refl _,trivial⟩
   have len_l:(eC.list n_l F_l).length=n_l:=eC.list_len
   generalize eC.list n_l F_l=l at *
   subst len_l
   exact fokX_fin mixed gw_stable (sl:=[]) trivial Tryz.func68 hw hl hG hx heq rfl (t81 q_l l sv l0 h0 l1 h1 l2 h2 l3 h3) (w81 l sv hp.1)
  ·cases hd
 ·cases hd
theorem S81:SumOK Tryz.prog G0 gw 68 (fokSm dom81):=fok_sum Tryz.func68 rfl C81
theorem t84(q_l:Bool)(l:List Cask)(den:Int)(q_ps:Bool)(ps:List Int)(sv l0 h0 l1 h1 l2 h2 l3 h3:Int):runFnX Tryz.prog G0 (lookS [v85,v97]) (fun _=>[(1000015,[],none),(3000014,[],none),(3000035,[],none),(3000019,[],none)]) [] 1 40 3 71 Tryz.f71 [.agg [.sl q_l l.length 7 (eC.F l),dI den,.sl q_ps ps.length 1 (eI.F ps)],.agg [dI sv,dI l0,dI h0,dI l1,dI h1,dI l2,dI h2,dI l3,dI h3]] =
  T.need (eC.Is l.length (eC.F l)) (T.need (eI.Is ps.length (eI.F ps)) (T.need (ps.length≤l.length) (T.need (ps.length≤1000) (T.need (eC.Is l.length (eC.F l)) (T.need (eI.Is ps.length (eI.F ps)) (T.need (ps.length≤l.length) (T.need (ps.length≤1000) (T.need (eC.Is l.length (eC.F l)) (T.need (eI.Is ps.length (eI.F ps)) (T.need (ps.length≤l.length) (T.need (ps.length≤1000) (T.need (eC.Is l.length (eC.F l)) (T.need (eI.Is ps.length (eI.F ps)) (T.need (ps.length≤l.length) (T.need (ps.length≤1000) (T.need (eC.Is l.length (eC.F l)) (T.need (eI.Is ps.length (eI.F ps)) (T.need (ps.length≤l.length) (T.need (ps.length≤1000) (T.ret [rI (M.away (eC.list l.length (eC.F l)) (eI.list ps.length (eI.F ps)) ⟨sv,⟨l0,h0⟩,⟨l1,h1⟩,⟨l2,h2⟩,⟨l3,h3⟩⟩)])))))))))))))))))))):=by kernel_rfl
def dom84:DomF
 |[.agg [.sl _ n_l st_l F_l,.int .i64 den,.sl _ n_ps st_ps F_ps],.agg [.int .i64 sv,.int .i64 l0,.int .i64 h0,.int .i64 l1,.int .i64 h1,.int .i64 l2,.int .i64 h2,.int .i64 l3,.int .i64 h3]]=>(match Nat.beq st_l 7&&Nat.beq st_ps 1 with
  |true=>some ([eC.Is n_l F_l,eI.Is n_ps F_ps,(eI.list n_ps F_ps).length≤(eC.list n_l F_l).length,(eI.list n_ps F_ps).length≤1000],[rI (M.away (eC.list n_l F_l) (eI.list n_ps F_ps) ⟨sv,⟨l0,h0⟩,⟨l1,h1⟩,⟨l2,h2⟩,⟨l3,h3⟩⟩)])
  |_=>none)
 |_=>none
def v84:Nat×Sm:=(71,fokSm dom84)
theorem C84:FOK Tryz.prog G0 gw 71 dom84:=by
 intro ags p r hd hp κ w xs hw hl hG hx
 unfold dom84 at hd
 split at hd
 ·rename_i q_l n_l st_l F_l den q_ps n_ps st_ps F_ps sv l0 h0 l1 h1 l2 h2 l3 h3
  split at hd
  ·rename_i hst
   simp only[Bool.and_eq_true]at hst
   obtain⟨g1,g2⟩:=hst
   have g1:=Nat.eq_of_beq_eq_true g1
   have g2:=Nat.eq_of_beq_eq_true g2
   subst g1 g2
   simp only[Option.some.injEq,Prod.mk.injEq]at hd
   obtain⟨rfl,rfl⟩:=hd
   obtain⟨hI_l,hI_ps,hp⟩:=hp
   have heq:agsEqv [.agg [.sl q_l n_l 7 F_l,.int .i64 den,.sl q_ps n_ps 1 F_ps],.agg [.int .i64 sv,.int .i64 l0,.int .i64 h0,.int .i64 l1,.int .i64 h1,.int .i64 l2,.int .i64 h2,.int .i64 l3,.int .i64 h3]] [.agg [.sl q_l (eC.list n_l F_l).length 7 (eC.F (eC.list n_l F_l)),.int .i64 den,.sl q_ps (eI.list n_ps F_ps).length 1 (eI.F (eI.list n_ps F_ps))],.agg [.int .i64 sv,.int .i64 l0,.int .i64 h0,.int .i64 l1,.int .i64 h1,.int .i64 l2,.int .i64 h2,.int .i64 l3,.int .i64 h3]]:=⟨⟨eC.to id hI_l,rfl,eI.to id hI_ps,trivial⟩,Ag.eqv_refl _,trivial⟩
   have len_l:(eC.list n_l F_l).length=n_l:=eC.list_len
   have len_ps:(eI.list n_ps F_ps).length=n_ps:=eI.list_len
   generalize eC.list n_l F_l=l at *
   generalize eI.list n_ps F_ps=ps at *
   subst len_l len_ps
   have c1:=Enc.is_F eC l l.length
   have c2:=Enc.is_F eI ps ps.length
   obtain⟨c3,c4,_⟩:=hp
   exact fokX_fin mixed gw_stable (sl:=[v85,v97]) ⟨S85,S97,trivial⟩ Tryz.func71 hw hl hG hx heq rfl (t84 q_l l den q_ps ps sv l0 h0 l1 h1 l2 h2 l3 h3) ((by rw[Enc.list_F,Enc.list_F];exact⟨c1,c2,c3,c4,c1,c2,c3,c4,c1,c2,c3,c4,c1,c2,c3,c4,c1,c2,c3,c4,rsEqv_refl _⟩))
  ·cases hd
 ·cases hd
theorem S84:SumOK Tryz.prog G0 gw 71 (fokSm dom84):=fok_sum Tryz.func71 rfl C84
end Go.Bl
end
section
set_option maxRecDepth 100000
namespace Go.Bl
open Go.Gd
open Go.V Go.Proofs
structure BestR where
 c0:Int
 c1:Int
 den:Int
 pt:List Int
 w:Wts
 e:Int
namespace M
def zeroW:Wts:=⟨0,0,0,0,0,0,0,0,0,0,[]⟩
def pBest(l:List Cask)(s:Sample):Option Corner:=psolve (shares l 0) s.vol (costs l) (limits l s 0)
def wtsOf(x:Corner)(n:Nat):Wts:=weights x.wd x.each x.tight x.by_ n
def bestC(l:List Cask)(x:Corner):BestR:=⟨told1 (sumP Cask.cost l x.pt) x.den,told2 (sumP Cask.cost l x.pt) x.den,x.den,x.pt,wtsOf x l.length,0⟩
def best(l:List Cask)(s:Sample):BestR:=
 cond (taskErr l s != 0) ⟨0,0,0,[],zeroW,taskErr l s⟩ (match pBest l s with|some x=>bestC l x|none=>⟨0,0,0,[],zeroW,12⟩)
end M
def resB(b:BestR):List Ar:=[.agg [dI b.c0,dI b.c1,dI b.den,dL b.pt,dI b.w.den,dI b.w.each,dI b.w.x0,dI b.w.x1,dI b.w.x2,dI b.w.x3,dI b.w.y0,dI b.w.y1,dI b.w.y2,dI b.w.y3,dL b.w.casks],rI b.e]
def CornerOK(l:List Cask)(n:Nat)(x:M.Corner):Prop:=
 x.pt.length≤n∧x.den≠0∧i64ok x.den∧x.tight.length≤x.by_.length∧x.tight.length≤1000∧WhichOK l.length x.tight
def BestOK(l:List Cask)(s:Sample):Prop:=M.taskErr l s=0→1≤l.length∧l.length≤4∧(∀c,c∈M.limits l s 0→c.coefs.length=(M.shares l 0).length)∧TurnOK (M.shares l 0) (M.limits l s 0) ∧
 ∀x,M.pBest l s=some x→CornerOK l l.length x∧i64ok (M.sumP Cask.cost l x.pt)
theorem shares_len(l:List Cask)(k:Nat):(M.shares l k).length=l.length+k:=by simp[M.shares]
theorem costs_len(l:List Cask):(M.costs l).length=l.length:=by simp[M.costs]
theorem far_len(l:List Cask):(M.far l).length=l.length+1:=by simp[M.far]
theorem limits_len(l:List Cask)(s:Sample)(k:Nat):(M.limits l s k).length=2*l.length+k+8:=by
 simp only[M.limits,List.length_append,List.length_map,List.length_range]
 have:((List.range 4).flatMap fun(k':Nat)=>[(⟨2,k',M.by_ l (l.length+k) fun c=>IntKind.i64.wrap (M.val c k'-(M.rg s k').hi),0⟩:Cond),⟨3,k',M.by_ l (l.length+k) fun c=>IntKind.i64.wrap ((M.rg s k').lo-M.val c k'),0⟩]).length=8:=rfl
 rw[this];omega
def P20(LL:List Cask)(SS:Sample):Option M.Corner:=(M.psolve (Enc.list eI (List.length (M.shares LL (0:Nat))) (Enc.F eI (M.shares LL (0:Nat)))) (Sample.vol SS) (Enc.list eI (List.length (M.costs LL)) (Enc.F eI (M.costs LL))) (Enc.list eK (List.length (M.limits LL SS (0:Nat))) (Enc.F eK (M.limits LL SS (0:Nat)))))
def tr20(l:List Cask)(s:Sample):T (List Ar):=
  T.need (Enc.Is eC (List.length l) (Enc.F eC l)) (T.need (∀(c:Cask),c∈(Enc.list eC (List.length l) (Enc.F eC l))→ByteArray.size (Cask.nm c)≤(1000000:Nat)) (T.br (M.first [M.casksErr (Enc.list eC (List.length l) (Enc.F eC l)),M.checkSample s] != (0:Int)) (T.ret [Ar.agg [D.int IntKind.i64 (0:Int),D.int IntKind.i64 (0:Int),D.int IntKind.i64 (0:Int),D.sl false (0:Nat) (0:Nat) fun(x x_1:Nat)=>D.nilp,D.int IntKind.i64 (0:Int),D.int IntKind.i64 (0:Int),D.int IntKind.i64 (0:Int),D.int IntKind.i64 (0:Int),D.int IntKind.i64 (0:Int),D.int IntKind.i64 (0:Int),D.int IntKind.i64 (0:Int),D.int IntKind.i64 (0:Int),D.int IntKind.i64 (0:Int),D.int IntKind.i64 (0:Int),D.sl false (0:Nat) (0:Nat) fun(x x_1:Nat)=>D.nilp],Ar.c (D.int IntKind.i64 (M.first [M.casksErr (Enc.list eC (List.length l) (Enc.F eC l)),M.checkSample s]))]) (T.need (Enc.Is eC (List.length l) (Enc.F eC l)) (T.need ((1:Nat)≤List.length l) (T.need (List.length l≤(4:Nat)) (T.need (Enc.Is eI (List.length (M.shares (Enc.list eC (List.length l) (Enc.F eC l)) (0:Nat))) (Enc.F eI (M.shares (Enc.list eC (List.length l) (Enc.F eC l)) (0:Nat)))) (T.need (Enc.Is eI (List.length (M.costs (Enc.list eC (List.length l) (Enc.F eC l)))) (Enc.F eI (M.costs (Enc.list eC (List.length l) (Enc.F eC l))))) (T.need (Enc.Is eK (List.length (M.limits (Enc.list eC (List.length l) (Enc.F eC l)) s (0:Nat))) (Enc.F eK (M.limits (Enc.list eC (List.length l) (Enc.F eC l)) s (0:Nat)))) (T.need ((1:Nat)≤List.length (M.shares (Enc.list eC (List.length l) (Enc.F eC l)) (0:Nat))) (T.need (List.length (M.shares (Enc.list eC (List.length l) (Enc.F eC l)) (0:Nat))≤(5:Nat)) (T.need (List.length (M.shares (Enc.list eC (List.length l) (Enc.F eC l)) (0:Nat))=List.length (M.costs (Enc.list eC (List.length l) (Enc.F eC l)))) (T.need (List.length (M.limits (Enc.list eC (List.length l) (Enc.F eC l)) s (0:Nat))≤(1000:Nat)) (T.need (∀(c:Cond),c∈Enc.list eK (List.length (M.limits (Enc.list eC (List.length l) (Enc.F eC l)) s (0:Nat))) (Enc.F eK (M.limits (Enc.list eC (List.length l) (Enc.F eC l)) s (0:Nat)))→List.length (Cond.coefs c)=List.length (M.shares (Enc.list eC (List.length l) (Enc.F eC l)) (0:Nat))) (T.need (∀(set:List Cond),List.length set+(1:Nat)=List.length (Enc.list eI (List.length (M.shares (Enc.list eC (List.length l) (Enc.F eC l)) (0:Nat))) (Enc.F eI (M.shares (Enc.list eC (List.length l) (Enc.F eC l)) (0:Nat))))→(∀(c:Cond),c∈set→c∈Enc.list eK (List.length (M.limits (Enc.list eC (List.length l) (Enc.F eC l)) s (0:Nat))) (Enc.F eK (M.limits (Enc.list eC (List.length l) (Enc.F eC l)) s (0:Nat))))→M.det (M.mat (Enc.list eI (List.length (M.shares (Enc.list eC (List.length l) (Enc.F eC l)) (0:Nat))) (Enc.F eI (M.shares (Enc.list eC (List.length l) (Enc.F eC l)) (0:Nat)))) set)≠(0:Int)→M.det (M.turned (M.mat (Enc.list eI (List.length (M.shares (Enc.list eC (List.length l) (Enc.F eC l)) (0:Nat))) (Enc.F eI (M.shares (Enc.list eC (List.length l) (Enc.F eC l)) (0:Nat)))) set))≠(0:Int)) (T.br (!Option.isSome (P20 (Enc.list eC (List.length l) (Enc.F eC l)) s)) (T.ret [Ar.agg [D.int IntKind.i64 (0:Int),D.int IntKind.i64 (0:Int),D.int IntKind.i64 (0:Int),D.sl false (0:Nat) (0:Nat) fun(x x_1:Nat)=>D.nilp,D.int IntKind.i64 (0:Int),D.int IntKind.i64 (0:Int),D.int IntKind.i64 (0:Int),D.int IntKind.i64 (0:Int),D.int IntKind.i64 (0:Int),D.int IntKind.i64 (0:Int),D.int IntKind.i64 (0:Int),D.int IntKind.i64 (0:Int),D.int IntKind.i64 (0:Int),D.int IntKind.i64 (0:Int),D.sl false (0:Nat) (0:Nat) fun(x x_1:Nat)=>D.nilp],Ar.c (D.int IntKind.i64 (12:Int))]) (T.need (Enc.Is eC (List.length l) (Enc.F eC l)) (T.need (Enc.Is eI (List.length (M.Corner.pt (cOf (P20 (Enc.list eC (List.length l) (Enc.F eC l)) s)))) (Enc.F eI (M.Corner.pt (cOf (P20 (Enc.list eC (List.length l) (Enc.F eC l)) s))))) (T.need (List.length (M.Corner.pt (cOf (P20 (Enc.list eC (List.length l) (Enc.F eC l)) s)))≤List.length l) (T.need (List.length (M.Corner.pt (cOf (P20 (Enc.list eC (List.length l) (Enc.F eC l)) s)))≤(1000:Nat)) (T.need (M.Corner.den (cOf (P20 (Enc.list eC (List.length l) (Enc.F eC l)) s))≠(0:Int)) (T.need (Int.natAbs (M.Corner.den (cOf (P20 (Enc.list eC (List.length l) (Enc.F eC l)) s)))<(9223372036854775808:Nat)) (T.need (Int.natAbs (M.sumP Cask.cost (Enc.list eC (List.length l) (Enc.F eC l)) (Enc.list eI (List.length (M.Corner.pt (cOf (P20 (Enc.list eC (List.length l) (Enc.F eC l)) s)))) (Enc.F eI (M.Corner.pt (cOf (P20 (Enc.list eC (List.length l) (Enc.F eC l)) s))))))<(9223372036854775808:Nat)) (T.need (Enc.Is eK (List.length (M.Corner.tight (cOf (P20 (Enc.list eC (List.length l) (Enc.F eC l)) s)))) (Enc.F eK (M.Corner.tight (cOf (P20 (Enc.list eC (List.length l) (Enc.F eC l)) s))))) (T.need (Enc.Is eI (List.length (M.Corner.by_ (cOf (P20 (Enc.list eC (List.length l) (Enc.F eC l)) s)))) (Enc.F eI (M.Corner.by_ (cOf (P20 (Enc.list eC (List.length l) (Enc.F eC l)) s))))) (T.need ((0:Int)≤(Nat.cast (R:=Int) (List.length l))) (T.need ((Nat.cast (R:=Int) (List.length l))≤(1000:Int)) (T.need (List.length (M.Corner.tight (cOf (P20 (Enc.list eC (List.length l) (Enc.F eC l)) s)))≤List.length (M.Corner.by_ (cOf (P20 (Enc.list eC (List.length l) (Enc.F eC l)) s)))) (T.need (List.length (M.Corner.tight (cOf (P20 (Enc.list eC (List.length l) (Enc.F eC l)) s)))≤(1000:Nat)) (T.need (∀(c:Cond),c∈Enc.list eK (List.length (M.Corner.tight (cOf (P20 (Enc.list eC (List.length l) (Enc.F eC l)) s)))) (Enc.F eK (M.Corner.tight (cOf (P20 (Enc.list eC (List.length l) (Enc.F eC l)) s))))→(0:Int)≤Cond.which c∧(Cond.kind c=(1:Int)→Cond.which c<(Nat.cast (R:=Int) (List.length l)))∧(Cond.kind c≠(1:Int)→Cond.kind c≠(0:Int)→Cond.which c<(4:Int))) (T.ret [Ar.agg [D.int IntKind.i64 (M.told1 (M.sumP (fun(self:Cask)=>self.3) (Enc.list eC (List.length l) (Enc.F eC l)) (Enc.list eI (List.length (M.Corner.pt (cOf (P20 (Enc.list eC (List.length l) (Enc.F eC l)) s)))) (Enc.F eI (M.Corner.pt (cOf (P20 (Enc.list eC (List.length l) (Enc.F eC l)) s)))))) (M.Corner.den (cOf (P20 (Enc.list eC (List.length l) (Enc.F eC l)) s)))),D.int IntKind.i64 (M.told2 (M.sumP (fun(self:Cask)=>self.3) (Enc.list eC (List.length l) (Enc.F eC l)) (Enc.list eI (List.length (M.Corner.pt (cOf (P20 (Enc.list eC (List.length l) (Enc.F eC l)) s)))) (Enc.F eI (M.Corner.pt (cOf (P20 (Enc.list eC (List.length l) (Enc.F eC l)) s)))))) (M.Corner.den (cOf (P20 (Enc.list eC (List.length l) (Enc.F eC l)) s)))),D.int IntKind.i64 (M.Corner.den (cOf (P20 (Enc.list eC (List.length l) (Enc.F eC l)) s))),D.sl false (List.length (M.Corner.pt (cOf (P20 (Enc.list eC (List.length l) (Enc.F eC l)) s)))) (1:Nat) (Enc.F eI (M.Corner.pt (cOf (P20 (Enc.list eC (List.length l) (Enc.F eC l)) s)))),D.int IntKind.i64 (M.weights (M.Corner.wd (cOf (P20 (Enc.list eC (List.length l) (Enc.F eC l)) s))) (M.Corner.each (cOf (P20 (Enc.list eC (List.length l) (Enc.F eC l)) s))) (Enc.list eK (List.length (M.Corner.tight (cOf (P20 (Enc.list eC (List.length l) (Enc.F eC l)) s)))) (Enc.F eK (M.Corner.tight (cOf (P20 (Enc.list eC (List.length l) (Enc.F eC l)) s))))) (Enc.list eI (List.length (M.Corner.by_ (cOf (P20 (Enc.list eC (List.length l) (Enc.F eC l)) s)))) (Enc.F eI (M.Corner.by_ (cOf (P20 (Enc.list eC (List.length l) (Enc.F eC l)) s))))) (Int.toNat (Nat.cast (R:=Int) (List.length l)))).1,D.int IntKind.i64 (M.weights (M.Corner.wd (cOf (P20 (Enc.list eC (List.length l) (Enc.F eC l)) s))) (M.Corner.each (cOf (P20 (Enc.list eC (List.length l) (Enc.F eC l)) s))) (Enc.list eK (List.length (M.Corner.tight (cOf (P20 (Enc.list eC (List.length l) (Enc.F eC l)) s)))) (Enc.F eK (M.Corner.tight (cOf (P20 (Enc.list eC (List.length l) (Enc.F eC l)) s))))) (Enc.list eI (List.length (M.Corner.by_ (cOf (P20 (Enc.list eC (List.length l) (Enc.F eC l)) s)))) (Enc.F eI (M.Corner.by_ (cOf (P20 (Enc.list eC (List.length l) (Enc.F eC l)) s))))) (Int.toNat (Nat.cast (R:=Int) (List.length l)))).2,D.int IntKind.i64 (M.weights (M.Corner.wd (cOf (P20 (Enc.list eC (List.length l) (Enc.F eC l)) s))) (M.Corner.each (cOf (P20 (Enc.list eC (List.length l) (Enc.F eC l)) s))) (Enc.list eK (List.length (M.Corner.tight (cOf (P20 (Enc.list eC (List.length l) (Enc.F eC l)) s)))) (Enc.F eK (M.Corner.tight (cOf (P20 (Enc.list eC (List.length l) (Enc.F eC l)) s))))) (Enc.list eI (List.length (M.Corner.by_ (cOf (P20 (Enc.list eC (List.length l) (Enc.F eC l)) s)))) (Enc.F eI (M.Corner.by_ (cOf (P20 (Enc.list eC (List.length l) (Enc.F eC l)) s))))) (Int.toNat (Nat.cast (R:=Int) (List.length l)))).3,D.int IntKind.i64 (M.weights (M.Corner.wd (cOf (P20 (Enc.list eC (List.length l) (Enc.F eC l)) s))) (M.Corner.each (cOf (P20 (Enc.list eC (List.length l) (Enc.F eC l)) s))) (Enc.list eK (List.length (M.Corner.tight (cOf (P20 (Enc.list eC (List.length l) (Enc.F eC l)) s)))) (Enc.F eK (M.Corner.tight (cOf (P20 (Enc.list eC (List.length l) (Enc.F eC l)) s))))) (Enc.list eI (List.length (M.Corner.by_ (cOf (P20 (Enc.list eC (List.length l) (Enc.F eC l)) s)))) (Enc.F eI (M.Corner.by_ (cOf (P20 (Enc.list eC (List.length l) (Enc.F eC l)) s))))) (Int.toNat (Nat.cast (R:=Int) (List.length l)))).4,D.int IntKind.i64 (M.weights (M.Corner.wd (cOf (P20 (Enc.list eC (List.length l) (Enc.F eC l)) s))) (M.Corner.each (cOf (P20 (Enc.list eC (List.length l) (Enc.F eC l)) s))) (Enc.list eK (List.length (M.Corner.tight (cOf (P20 (Enc.list eC (List.length l) (Enc.F eC l)) s)))) (Enc.F eK (M.Corner.tight (cOf (P20 (Enc.list eC (List.length l) (Enc.F eC l)) s))))) (Enc.list eI (List.length (M.Corner.by_ (cOf (P20 (Enc.list eC (List.length l) (Enc.F eC l)) s)))) (Enc.F eI (M.Corner.by_ (cOf (P20 (Enc.list eC (List.length l) (Enc.F eC l)) s))))) (Int.toNat (Nat.cast (R:=Int) (List.length l)))).5,D.int IntKind.i64 (M.weights (M.Corner.wd (cOf (P20 (Enc.list eC (List.length l) (Enc.F eC l)) s))) (M.Corner.each (cOf (P20 (Enc.list eC (List.length l) (Enc.F eC l)) s))) (Enc.list eK (List.length (M.Corner.tight (cOf (P20 (Enc.list eC (List.length l) (Enc.F eC l)) s)))) (Enc.F eK (M.Corner.tight (cOf (P20 (Enc.list eC (List.length l) (Enc.F eC l)) s))))) (Enc.list eI (List.length (M.Corner.by_ (cOf (P20 (Enc.list eC (List.length l) (Enc.F eC l)) s)))) (Enc.F eI (M.Corner.by_ (cOf (P20 (Enc.list eC (List.length l) (Enc.F eC l)) s))))) (Int.toNat (Nat.cast (R:=Int) (List.length l)))).6,D.int IntKind.i64 (M.weights (M.Corner.wd (cOf (P20 (Enc.list eC (List.length l) (Enc.F eC l)) s))) (M.Corner.each (cOf (P20 (Enc.list eC (List.length l) (Enc.F eC l)) s))) (Enc.list eK (List.length (M.Corner.tight (cOf (P20 (Enc.list eC (List.length l) (Enc.F eC l)) s)))) (Enc.F eK (M.Corner.tight (cOf (P20 (Enc.list eC (List.length l) (Enc.F eC l)) s))))) (Enc.list eI (List.length (M.Corner.by_ (cOf (P20 (Enc.list eC (List.length l) (Enc.F eC l)) s)))) (Enc.F eI (M.Corner.by_ (cOf (P20 (Enc.list eC (List.length l) (Enc.F eC l)) s))))) (Int.toNat (Nat.cast (R:=Int) (List.length l)))).7,D.int IntKind.i64 (M.weights (M.Corner.wd (cOf (P20 (Enc.list eC (List.length l) (Enc.F eC l)) s))) (M.Corner.each (cOf (P20 (Enc.list eC (List.length l) (Enc.F eC l)) s))) (Enc.list eK (List.length (M.Corner.tight (cOf (P20 (Enc.list eC (List.length l) (Enc.F eC l)) s)))) (Enc.F eK (M.Corner.tight (cOf (P20 (Enc.list eC (List.length l) (Enc.F eC l)) s))))) (Enc.list eI (List.length (M.Corner.by_ (cOf (P20 (Enc.list eC (List.length l) (Enc.F eC l)) s)))) (Enc.F eI (M.Corner.by_ (cOf (P20 (Enc.list eC (List.length l) (Enc.F eC l)) s))))) (Int.toNat (Nat.cast (R:=Int) (List.length l)))).8,D.int IntKind.i64 (M.weights (M.Corner.wd (cOf (P20 (Enc.list eC (List.length l) (Enc.F eC l)) s))) (M.Corner.each (cOf (P20 (Enc.list eC (List.length l) (Enc.F eC l)) s))) (Enc.list eK (List.length (M.Corner.tight (cOf (P20 (Enc.list eC (List.length l) (Enc.F eC l)) s)))) (Enc.F eK (M.Corner.tight (cOf (P20 (Enc.list eC (List.length l) (Enc.F eC l)) s))))) (Enc.list eI (List.length (M.Corner.by_ (cOf (P20 (Enc.list eC (List.length l) (Enc.F eC l)) s)))) (Enc.F eI (M.Corner.by_ (cOf (P20 (Enc.list eC (List.length l) (Enc.F eC l)) s))))) (Int.toNat (Nat.cast (R:=Int) (List.length l)))).9,D.int IntKind.i64 (M.weights (M.Corner.wd (cOf (P20 (Enc.list eC (List.length l) (Enc.F eC l)) s))) (M.Corner.each (cOf (P20 (Enc.list eC (List.length l) (Enc.F eC l)) s))) (Enc.list eK (List.length (M.Corner.tight (cOf (P20 (Enc.list eC (List.length l) (Enc.F eC l)) s)))) (Enc.F eK (M.Corner.tight (cOf (P20 (Enc.list eC (List.length l) (Enc.F eC l)) s))))) (Enc.list eI (List.length (M.Corner.by_ (cOf (P20 (Enc.list eC (List.length l) (Enc.F eC l)) s)))) (Enc.F eI (M.Corner.by_ (cOf (P20 (Enc.list eC (List.length l) (Enc.F eC l)) s))))) (Int.toNat (Nat.cast (R:=Int) (List.length l)))).10,D.sl false (List.length (M.weights (M.Corner.wd (cOf (P20 (Enc.list eC (List.length l) (Enc.F eC l)) s))) (M.Corner.each (cOf (P20 (Enc.list eC (List.length l) (Enc.F eC l)) s))) (Enc.list eK (List.length (M.Corner.tight (cOf (P20 (Enc.list eC (List.length l) (Enc.F eC l)) s)))) (Enc.F eK (M.Corner.tight (cOf (P20 (Enc.list eC (List.length l) (Enc.F eC l)) s))))) (Enc.list eI (List.length (M.Corner.by_ (cOf (P20 (Enc.list eC (List.length l) (Enc.F eC l)) s)))) (Enc.F eI (M.Corner.by_ (cOf (P20 (Enc.list eC (List.length l) (Enc.F eC l)) s))))) (Int.toNat (Nat.cast (R:=Int) (List.length l)))).11) (1:Nat) (Enc.F eI (M.weights (M.Corner.wd (cOf (P20 (Enc.list eC (List.length l) (Enc.F eC l)) s))) (M.Corner.each (cOf (P20 (Enc.list eC (List.length l) (Enc.F eC l)) s))) (Enc.list eK (List.length (M.Corner.tight (cOf (P20 (Enc.list eC (List.length l) (Enc.F eC l)) s)))) (Enc.F eK (M.Corner.tight (cOf (P20 (Enc.list eC (List.length l) (Enc.F eC l)) s))))) (Enc.list eI (List.length (M.Corner.by_ (cOf (P20 (Enc.list eC (List.length l) (Enc.F eC l)) s)))) (Enc.F eI (M.Corner.by_ (cOf (P20 (Enc.list eC (List.length l) (Enc.F eC l)) s))))) (Int.toNat (Nat.cast (R:=Int) (List.length l)))).11)],Ar.c (D.int IntKind.i64 (0:Int))]))))))))))))))))))))))))))))))
theorem t20(q_l:Bool)(l:List Cask)(sv l0 h0 l1 h1 l2 h2 l3 h3:Int):runFnX Tryz.prog G0 (lookS [v65,v49,v64,v66,v67,v68,v69]) (fun _=>[]) [] 1 40 3 22 Tryz.f22 [.c (.sl q_l l.length 7 (eC.F l)),.agg [dI sv,dI l0,dI h0,dI l1,dI h1,dI l2,dI h2,dI l3,dI h3]] =
  tr20 l (⟨sv,⟨l0,h0⟩,⟨l1,h1⟩,⟨l2,h2⟩,⟨l3,h3⟩⟩:Sample):=by kernel_rfl
theorem w20(l:List Cask)(s:Sample)(hn:∀c,c∈l→c.nm.size≤1000000)(h:BestOK l s):(tr20 l s).wp (fun rs=>rsEqv rs (resB (M.best l s))):=by
 have hP:P20 l s=M.pBest l s:=by unfold P20 M.pBest;simp only[Enc.list_F]
 have z0:(nilD).eqv (dL []):=⟨(fun e=>by cases e),rfl,(fun h=>absurd h (Nat.lt_irrefl 0)),fun i j hi=>absurd hi (Nat.not_lt_zero i)⟩
 unfold tr20
 simp only[Enc.list_F,hP]
 refine⟨Enc.is_F _ _ _,hn,wp_br (fun hb=>?_) (fun hb=>?_)⟩
 ·have:M.best l s=⟨0,0,0,[],M.zeroW,M.taskErr l s⟩:=by
   unfold M.best;rw[show(M.taskErr l s != 0)=true from hb];rfl
  rw[this]
  exact⟨⟨rfl,rfl,rfl,z0,rfl,rfl,rfl,rfl,rfl,rfl,rfl,rfl,rfl,rfl,z0,trivial⟩,rfl,trivial⟩
 ·have hb':(M.taskErr l s != 0)=false:=hb
  have he:M.taskErr l s=0:=by simpa using hb'
  obtain⟨h1,h4,hco,htd,hx⟩:=h he
  have hbest:M.best l s=(match M.pBest l s with|some x=>M.bestC l x|none=>⟨0,0,0,[],M.zeroW,12⟩):=by
   unfold M.best;rw[hb'];rfl
  rw[hbest]
  refine⟨Enc.is_F _ _ _,h1,h4,Enc.is_F _ _ _,Enc.is_F _ _ _,Enc.is_F _ _ _,by rw[shares_len];omega,by rw[shares_len];omega,by rw[shares_len,costs_len];omega,by rw[limits_len];omega,hco,htd,?_⟩
  cases hp:M.pBest l s with
  |none=>
   refine⟨fun _=>?_,(fun h=>(by cases h))⟩
   exact⟨⟨rfl,rfl,rfl,z0,rfl,rfl,rfl,rfl,rfl,rfl,rfl,rfl,rfl,rfl,z0,trivial⟩,rfl,trivial⟩
  |some x=>
   obtain⟨⟨c1,c2,c3,c4,c5,c6⟩,c7⟩:=hx x hp
   refine⟨(fun h=>(by cases h)),fun _=>?_⟩
   refine⟨Enc.is_F _ _ _,Enc.is_F _ _ _,c1,Nat.le_trans c1 (by omega),c2,c3,c7,Enc.is_F _ _ _,Enc.is_F _ _ _,by omega,by omega,c4,c5,c6,?_⟩
   exact⟨⟨rfl,rfl,rfl,D.eqv_refl _,rfl,rfl,rfl,rfl,rfl,rfl,rfl,rfl,rfl,rfl,D.eqv_refl _,trivial⟩,rfl,trivial⟩
def dom20:DomF
 |[.c (.sl _ n_l st_l F_l),.agg [.int .i64 sv,.int .i64 l0,.int .i64 h0,.int .i64 l1,.int .i64 h1,.int .i64 l2,.int .i64 h2,.int .i64 l3,.int .i64 h3]]=>(match Nat.beq st_l 7 with
  |true=>some ([eC.Is n_l F_l,∀c,c∈(eC.list n_l F_l)→c.nm.size≤1000000,BestOK (eC.list n_l F_l) ⟨sv,⟨l0,h0⟩,⟨l1,h1⟩,⟨l2,h2⟩,⟨l3,h3⟩⟩],resB (M.best (eC.list n_l F_l) ⟨sv,⟨l0,h0⟩,⟨l1,h1⟩,⟨l2,h2⟩,⟨l3,h3⟩⟩))
  |_=>none)
 |_=>none
def v20:Nat×Sm:=(22,fokSm dom20)
theorem C20:FOK Tryz.prog G0 gw 22 dom20:=by
 intro ags p r hd hp κ w xs hw hl hG hx
 unfold dom20 at hd
 split at hd
 ·rename_i q_l n_l st_l F_l sv l0 h0 l1 h1 l2 h2 l3 h3
  split at hd
  ·rename_i hst
   have g1:=hst
   have g1:=Nat.eq_of_beq_eq_true g1
   subst g1
   simp only[Option.some.injEq,Prod.mk.injEq]at hd
   obtain⟨rfl,rfl⟩:=hd
   obtain⟨hI_l,hp⟩:=hp
   have heq:agsEqv [.c (.sl q_l n_l 7 F_l),.agg [.int .i64 sv,.int .i64 l0,.int .i64 h0,.int .i64 l1,.int .i64 h1,.int .i64 l2,.int .i64 h2,.int .i64 l3,.int .i64 h3]] [.c (.sl q_l (eC.list n_l F_l).length 7 (eC.F (eC.list n_l F_l))),.agg [.int .i64 sv,.int .i64 l0,.int .i64 h0,.int .i64 l1,.int .i64 h1,.int .i64 l2,.int .i64 h2,.int .i64 l3,.int .i64 h3]]:=⟨eC.to id hI_l,Ag.eqv_refl _,trivial⟩
   have len_l:(eC.list n_l F_l).length=n_l:=eC.list_len
   generalize eC.list n_l F_l=l at *
   subst len_l
   exact fokX_fin mixed gw_stable (sl:=[v65,v49,v64,v66,v67,v68,v69]) ⟨S65,S49,S64,S66,S67,S68,S69,trivial⟩ Tryz.func22 hw hl hG hx heq rfl (t20 q_l l sv l0 h0 l1 h1 l2 h2 l3 h3) (w20 l _ hp.1 hp.2.1)
  ·cases hd
 ·cases hd
theorem S20:SumOK Tryz.prog G0 gw 22 (fokSm dom20):=fok_sum Tryz.func22 rfl C20
end Go.Bl
end
section
set_option maxRecDepth 100000
namespace Go.Bl
open Go.Gd
open Go.V Go.Proofs
structure NearR where
 den:Int
 pt:List Int
 d0:Int
 d1:Int
 e:Int
namespace M
def nearErr(l:List Cask)(s:Sample):Int:=first [casksErr l,checkSample s,unl (decide (volumes l≥s.vol)) 24]
def pNear(l:List Cask)(s:Sample):Corner:=cOf (psolve (shares l 1) s.vol (far l) (limits l s 1))
def nearC(l:List Cask)(s:Sample)(x:Corner):NearR:=⟨x.den,x.pt.take l.length,told1 (away l (x.pt.take l.length) s) (sumP (fun _=>1) l (x.pt.take l.length)),told2 (away l (x.pt.take l.length) s) (sumP (fun _=>1) l (x.pt.take l.length)),0⟩
def near(l:List Cask)(s:Sample):NearR:=cond (nearErr l s != 0) ⟨0,[],0,0,nearErr l s⟩ (nearC l s (pNear l s))
end M
def resN(b:NearR):List Ar:=[.agg [dI b.den,dL b.pt],.agg [dI b.d0,dI b.d1],rI b.e]
def NearOK(l:List Cask)(s:Sample):Prop:=M.nearErr l s=0→1≤l.length∧l.length≤4∧(∀c,c∈M.limits l s 1→c.coefs.length=(M.shares l 1).length)∧TurnOK (M.shares l 1) (M.limits l s 1) ∧
 l.length≤(M.pNear l s).pt.length∧M.sumP (fun _=>1) l ((M.pNear l s).pt.take l.length)≠0∧i64ok (M.away l ((M.pNear l s).pt.take l.length) s)∧i64ok (M.sumP (fun _=>1) l ((M.pNear l s).pt.take l.length))
theorem list_take{l:List Int}{n:Nat}(h:n≤l.length):eI.list n (eI.F l)=l.take n:=by
 apply List.ext_getElem
 ·simp[Enc.list];omega
 ·intro i h1 h2
  simp only[Enc.list,List.getElem_map,List.getElem_range,Enc.F,List.getElem_take]
  show l.getD i 0=_
  simp[List.length_take]at h2
  simp[(by omega:i<l.length)]
theorem take_eqv{l:List Int}{n:Nat}(h:n≤l.length):(D.sl false n 1 (eI.F l)).eqv (dL (l.take n)):=by
 refine⟨(fun e=>by cases e),by simp[h],fun _=>rfl,fun i j hi hj=>?_⟩
 obtain rfl:j=0:=Nat.lt_one_iff.1 hj
 show(dI (l.getD i 0)).eqv (dI ((l.take n).getD i 0))
 have:(l.take n).getD i 0=l.getD i 0:=by
  simp only[List.getD_eq_getElem?_getD,List.getElem?_take,if_pos hi]
 rw[this]
 exact D.eqv_refl _
def P26(LL:List Cask)(SS:Sample):Option M.Corner:=(M.psolve (Enc.list eI (List.length (M.shares LL (1:Nat))) (Enc.F eI (M.shares LL (1:Nat)))) (Sample.vol SS) (Enc.list eI (List.length (M.far LL)) (Enc.F eI (M.far LL))) (Enc.list eK (List.length (M.limits LL SS (1:Nat))) (Enc.F eK (M.limits LL SS (1:Nat)))))
def tr26(l:List Cask)(s:Sample):T (List Ar):=
  T.need (Enc.Is eC (List.length l) (Enc.F eC l)) (T.need (∀(c:Cask),c∈(Enc.list eC (List.length l) (Enc.F eC l))→ByteArray.size (Cask.nm c)≤(1000000:Nat)) (T.need (Enc.Is eC (List.length l) (Enc.F eC l)) (T.need (List.length (Enc.list eC (List.length l) (Enc.F eC l))≤(1000000:Nat)) (T.br (M.first [M.casksErr (Enc.list eC (List.length l) (Enc.F eC l)),M.checkSample s,M.unl (decide (M.volumes (Enc.list eC (List.length l) (Enc.F eC l))≥s.vol)) (24:Int)] != (0:Int)) (T.ret [Ar.agg [D.int IntKind.i64 (0:Int),D.sl false (0:Nat) (0:Nat) fun(x x_1:Nat)=>D.nilp],Ar.agg [D.int IntKind.i64 (0:Int),D.int IntKind.i64 (0:Int)],Ar.c (D.int IntKind.i64 (M.first [M.casksErr (Enc.list eC (List.length l) (Enc.F eC l)),M.checkSample s,M.unl (decide (M.volumes (Enc.list eC (List.length l) (Enc.F eC l))≥s.vol)) (24:Int)]))]) (T.need (Enc.Is eC (List.length l) (Enc.F eC l)) (T.need ((1:Nat)≤List.length l) (T.need (List.length l≤(4:Nat)) (T.need (Enc.Is eI (List.length (M.shares (Enc.list eC (List.length l) (Enc.F eC l)) (1:Nat))) (Enc.F eI (M.shares (Enc.list eC (List.length l) (Enc.F eC l)) (1:Nat)))) (T.need (Enc.Is eI (List.length (M.far (Enc.list eC (List.length l) (Enc.F eC l)))) (Enc.F eI (M.far (Enc.list eC (List.length l) (Enc.F eC l))))) (T.need (Enc.Is eK (List.length (M.limits (Enc.list eC (List.length l) (Enc.F eC l)) s (1:Nat))) (Enc.F eK (M.limits (Enc.list eC (List.length l) (Enc.F eC l)) s (1:Nat)))) (T.need ((1:Nat)≤List.length (M.shares (Enc.list eC (List.length l) (Enc.F eC l)) (1:Nat))) (T.need (List.length (M.shares (Enc.list eC (List.length l) (Enc.F eC l)) (1:Nat))≤(5:Nat)) (T.need (List.length (M.shares (Enc.list eC (List.length l) (Enc.F eC l)) (1:Nat))=List.length (M.far (Enc.list eC (List.length l) (Enc.F eC l)))) (T.need (List.length (M.limits (Enc.list eC (List.length l) (Enc.F eC l)) s (1:Nat))≤(1000:Nat)) (T.need (∀(c:Cond),c∈Enc.list eK (List.length (M.limits (Enc.list eC (List.length l) (Enc.F eC l)) s (1:Nat))) (Enc.F eK (M.limits (Enc.list eC (List.length l) (Enc.F eC l)) s (1:Nat)))→List.length (Cond.coefs c)=List.length (M.shares (Enc.list eC (List.length l) (Enc.F eC l)) (1:Nat))) (T.need (∀(set:List Cond),List.length set+(1:Nat)=List.length (Enc.list eI (List.length (M.shares (Enc.list eC (List.length l) (Enc.F eC l)) (1:Nat))) (Enc.F eI (M.shares (Enc.list eC (List.length l) (Enc.F eC l)) (1:Nat))))→(∀(c:Cond),c∈set→c∈Enc.list eK (List.length (M.limits (Enc.list eC (List.length l) (Enc.F eC l)) s (1:Nat))) (Enc.F eK (M.limits (Enc.list eC (List.length l) (Enc.F eC l)) s (1:Nat))))→M.det (M.mat (Enc.list eI (List.length (M.shares (Enc.list eC (List.length l) (Enc.F eC l)) (1:Nat))) (Enc.F eI (M.shares (Enc.list eC (List.length l) (Enc.F eC l)) (1:Nat)))) set)≠(0:Int)→M.det (M.turned (M.mat (Enc.list eI (List.length (M.shares (Enc.list eC (List.length l) (Enc.F eC l)) (1:Nat))) (Enc.F eI (M.shares (Enc.list eC (List.length l) (Enc.F eC l)) (1:Nat)))) set))≠(0:Int)) (T.need ((0:Int)≤(Nat.cast (R:=Int) (List.length l))) (T.need ((Nat.cast (R:=Int) (List.length l))=(Nat.cast (R:=Int) (List.length l))) (T.need ((Nat.cast (R:=Int) (List.length l))≤(Nat.cast (R:=Int) (List.length (M.Corner.pt (cOf (P26 (Enc.list eC (List.length l) (Enc.F eC l)) s)))))) (T.need (Enc.Is eC (List.length l) (Enc.F eC l)) (T.need (Enc.Is eI (Int.toNat (Nat.cast (R:=Int) (List.length l))) (Enc.F eI (M.Corner.pt (cOf (P26 (Enc.list eC (List.length l) (Enc.F eC l)) s))))) (T.need (List.length (Enc.list eI (Int.toNat (Nat.cast (R:=Int) (List.length l))) (Enc.F eI (M.Corner.pt (cOf (P26 (Enc.list eC (List.length l) (Enc.F eC l)) s)))))≤List.length (Enc.list eC (List.length l) (Enc.F eC l))) (T.need (List.length (Enc.list eI (Int.toNat (Nat.cast (R:=Int) (List.length l))) (Enc.F eI (M.Corner.pt (cOf (P26 (Enc.list eC (List.length l) (Enc.F eC l)) s)))))≤(1000:Nat)) (T.need (Enc.Is eC (List.length l) (Enc.F eC l)) (T.need (Enc.Is eI (Int.toNat (Nat.cast (R:=Int) (List.length l))) (Enc.F eI (M.Corner.pt (cOf (P26 (Enc.list eC (List.length l) (Enc.F eC l)) s))))) (T.need (Int.toNat (Nat.cast (R:=Int) (List.length l))≤List.length l) (T.need (Int.toNat (Nat.cast (R:=Int) (List.length l))≤(1000:Nat)) (T.need (M.sumP (fun(x:Cask)=>(1:Int)) (Enc.list eC (List.length l) (Enc.F eC l)) (Enc.list eI (Int.toNat (Nat.cast (R:=Int) (List.length l))) (Enc.F eI (M.Corner.pt (cOf (P26 (Enc.list eC (List.length l) (Enc.F eC l)) s)))))≠(0:Int)) (T.need (Int.natAbs (M.away (Enc.list eC (List.length l) (Enc.F eC l)) (Enc.list eI (Int.toNat (Nat.cast (R:=Int) (List.length l))) (Enc.F eI (M.Corner.pt (cOf (P26 (Enc.list eC (List.length l) (Enc.F eC l)) s))))) s)<(9223372036854775808:Nat)) (T.need (Int.natAbs (M.sumP (fun(x:Cask)=>(1:Int)) (Enc.list eC (List.length l) (Enc.F eC l)) (Enc.list eI (Int.toNat (Nat.cast (R:=Int) (List.length l))) (Enc.F eI (M.Corner.pt (cOf (P26 (Enc.list eC (List.length l) (Enc.F eC l)) s))))))<(9223372036854775808:Nat)) (T.ret [Ar.agg [D.int IntKind.i64 (M.Corner.den (cOf (P26 (Enc.list eC (List.length l) (Enc.F eC l)) s))),D.sl false (Int.toNat (Nat.cast (R:=Int) (List.length l))) (1:Nat) (Enc.F eI (M.Corner.pt (cOf (P26 (Enc.list eC (List.length l) (Enc.F eC l)) s))))],Ar.agg [D.int IntKind.i64 (M.told1 (M.away (Enc.list eC (List.length l) (Enc.F eC l)) (Enc.list eI (Int.toNat (Nat.cast (R:=Int) (List.length l))) (Enc.F eI (M.Corner.pt (cOf (P26 (Enc.list eC (List.length l) (Enc.F eC l)) s))))) s) (M.sumP (fun(x:Cask)=>(1:Int)) (Enc.list eC (List.length l) (Enc.F eC l)) (Enc.list eI (Int.toNat (Nat.cast (R:=Int) (List.length l))) (Enc.F eI (M.Corner.pt (cOf (P26 (Enc.list eC (List.length l) (Enc.F eC l)) s))))))),D.int IntKind.i64 (M.told2 (M.away (Enc.list eC (List.length l) (Enc.F eC l)) (Enc.list eI (Int.toNat (Nat.cast (R:=Int) (List.length l))) (Enc.F eI (M.Corner.pt (cOf (P26 (Enc.list eC (List.length l) (Enc.F eC l)) s))))) s) (M.sumP (fun(x:Cask)=>(1:Int)) (Enc.list eC (List.length l) (Enc.F eC l)) (Enc.list eI (Int.toNat (Nat.cast (R:=Int) (List.length l))) (Enc.F eI (M.Corner.pt (cOf (P26 (Enc.list eC (List.length l) (Enc.F eC l)) s)))))))],Ar.c (D.int IntKind.i64 (0:Int))])))))))))))))))))))))))))))))))
theorem t26(q_l:Bool)(l:List Cask)(sv l0 h0 l1 h1 l2 h2 l3 h3:Int):runFnX Tryz.prog G0 (lookS [v65,v49,v64,v80,v81,v82,v67,v83,v84,v85]) (fun _=>[]) [] 1 40 3 25 Tryz.f25 [.c (.sl q_l l.length 7 (eC.F l)),.agg [dI sv,dI l0,dI h0,dI l1,dI h1,dI l2,dI h2,dI l3,dI h3]] =
  tr26 l (⟨sv,⟨l0,h0⟩,⟨l1,h1⟩,⟨l2,h2⟩,⟨l3,h3⟩⟩:Sample):=by kernel_rfl
theorem w26(l:List Cask)(s:Sample)(hn:∀c,c∈l→c.nm.size≤1000000)(hl:l.length≤1000000)(h:NearOK l s):(tr26 l s).wp (fun rs=>rsEqv rs (resN (M.near l s))):=by
 have hP:cOf (P26 l s)=M.pNear l s:=by unfold P26 M.pNear;simp only[Enc.list_F]
 have z0:(nilD).eqv (dL []):=⟨(fun e=>by cases e),rfl,(fun h=>absurd h (Nat.lt_irrefl 0)),fun i j hi=>absurd hi (Nat.not_lt_zero i)⟩
 unfold tr26
 simp only[Enc.list_F,hP]
 refine⟨Enc.is_F _ _ _,hn,Enc.is_F _ _ _,hl,wp_br (fun hb=>?_) (fun hb=>?_)⟩
 ·have:M.near l s=⟨0,[],0,0,M.nearErr l s⟩:=by
   unfold M.near;rw[show(M.nearErr l s != 0)=true from hb];rfl
  rw[this]
  exact⟨⟨rfl,z0,trivial⟩,⟨rfl,rfl,trivial⟩,rfl,trivial⟩
 ·have hb':(M.nearErr l s != 0)=false:=hb
  have he:M.nearErr l s=0:=by simpa using hb'
  obtain⟨h1,h4,hco,htd,hx,c1,c2,c3⟩:=h he
  have hnear:M.near l s=M.nearC l s (M.pNear l s):=by
   unfold M.near;rw[hb'];rfl
  rw[hnear]
  have hnn:Int.toNat (l.length:Int)=l.length:=Int.toNat_natCast _
  have htake:=list_take hx
  have hlen:((M.pNear l s).pt.take l.length).length=l.length:=by simp[hx]
  simp only[hnn,htake,hlen]
  refine⟨Enc.is_F _ _ _,h1,h4,Enc.is_F _ _ _,Enc.is_F _ _ _,Enc.is_F _ _ _,by rw[shares_len];omega,by rw[shares_len];omega,by rw[shares_len,far_len],by rw[limits_len];omega,hco,htd,by omega,trivial,by omega,Enc.is_F _ _ _,Enc.is_F _ _ _,Nat.le_refl _,by omega,Enc.is_F _ _ _,Enc.is_F _ _ _,Nat.le_refl _,by omega,c1,c2,c3,?_⟩
  exact⟨⟨rfl,take_eqv hx,trivial⟩,⟨rfl,rfl,trivial⟩,rfl,trivial⟩
def dom26:DomF
 |[.c (.sl _ n_l st_l F_l),.agg [.int .i64 sv,.int .i64 l0,.int .i64 h0,.int .i64 l1,.int .i64 h1,.int .i64 l2,.int .i64 h2,.int .i64 l3,.int .i64 h3]]=>(match Nat.beq st_l 7 with
  |true=>some ([eC.Is n_l F_l,∀c,c∈(eC.list n_l F_l)→c.nm.size≤1000000,(eC.list n_l F_l).length≤1000000,NearOK (eC.list n_l F_l) ⟨sv,⟨l0,h0⟩,⟨l1,h1⟩,⟨l2,h2⟩,⟨l3,h3⟩⟩],resN (M.near (eC.list n_l F_l) ⟨sv,⟨l0,h0⟩,⟨l1,h1⟩,⟨l2,h2⟩,⟨l3,h3⟩⟩))
  |_=>none)
 |_=>none
def v26:Nat×Sm:=(25,fokSm dom26)
theorem C26:FOK Tryz.prog G0 gw 25 dom26:=by
 intro ags p r hd hp κ w xs hw hl hG hx
 unfold dom26 at hd
 split at hd
 ·rename_i q_l n_l st_l F_l sv l0 h0 l1 h1 l2 h2 l3 h3
  split at hd
  ·rename_i hst
   have g1:=hst
   have g1:=Nat.eq_of_beq_eq_true g1
   subst g1
   simp only[Option.some.injEq,Prod.mk.injEq]at hd
   obtain⟨rfl,rfl⟩:=hd
   obtain⟨hI_l,hp⟩:=hp
   have heq:agsEqv [.c (.sl q_l n_l 7 F_l),.agg [.int .i64 sv,.int .i64 l0,.int .i64 h0,.int .i64 l1,.int .i64 h1,.int .i64 l2,.int .i64 h2,.int .i64 l3,.int .i64 h3]] [.c (.sl q_l (eC.list n_l F_l).length 7 (eC.F (eC.list n_l F_l))),.agg [.int .i64 sv,.int .i64 l0,.int .i64 h0,.int .i64 l1,.int .i64 h1,.int .i64 l2,.int .i64 h2,.int .i64 l3,.int .i64 h3]]:=⟨eC.to id hI_l,Ag.eqv_refl _,trivial⟩
   have len_l:(eC.list n_l F_l).length=n_l:=eC.list_len
   generalize eC.list n_l F_l=l at *
   subst len_l
   exact fokX_fin mixed gw_stable (sl:=[v65,v49,v64,v80,v81,v82,v67,v83,v84,v85]) ⟨S65,S49,S64,S80,S81,S82,S67,S83,S84,S85,trivial⟩ Tryz.func25 hw hl hG hx heq rfl (t26 q_l l sv l0 h0 l1 h1 l2 h2 l3 h3) (w26 l _ hp.1 hp.2.1 hp.2.2.1)
  ·cases hd
 ·cases hd
theorem S26:SumOK Tryz.prog G0 gw 25 (fokSm dom26):=fok_sum Tryz.func25 rfl C26
end Go.Bl
end
section
namespace Go.Bl
open Go.Gd
open Go.V Go.Proofs
def exC:List Cask:=[⟨⟨#[100,114,121]⟩,100,10,0,0,0,0⟩,⟨⟨#[115,119,101,101,116]⟩,100,30,100,0,0,0⟩,⟨⟨#[114,105,99,104]⟩,50,20,200,0,0,0⟩]
def exS(lo hi:Int):Sample:=⟨100,⟨lo,hi⟩,⟨0,1000⟩,⟨0,1000⟩,⟨0,1000⟩⟩
end Go.Bl
end
section
set_option maxRecDepth 100000
namespace Go.Bl
open Go.Gd
open Go.V Go.Proofs
namespace M
def meets(l:List Cask)(ps:List Int)(s:Sample):Int:=first [unl (decide (sumP (fun _=>1) l ps≥s.vol)) 14,unl (decide (away l ps s≤0)) 13]
end M
theorem t91(q_l:Bool)(l:List Cask)(den:Int)(q_ps:Bool)(ps:List Int)(sv l0 h0 l1 h1 l2 h2 l3 h3:Int):runFnX Tryz.prog G0 (lookS [v85,v80,v84,v64]) (fun _=>[]) [] 1 40 3 75 Tryz.f75 [.agg [.sl q_l l.length 7 (eC.F l),dI den,.sl q_ps ps.length 1 (eI.F ps)],.agg [dI sv,dI l0,dI h0,dI l1,dI h1,dI l2,dI h2,dI l3,dI h3]] =
  T.need (eC.Is l.length (eC.F l)) (T.need (eI.Is ps.length (eI.F ps)) (T.need (ps.length≤l.length) (T.need (ps.length≤1000) (T.need (eC.Is l.length (eC.F l)) (T.need (eI.Is ps.length (eI.F ps)) (T.need ((eI.list ps.length (eI.F ps)).length≤(eC.list l.length (eC.F l)).length) (T.need ((eI.list ps.length (eI.F ps)).length≤1000) (T.ret [rI (M.meets (eC.list l.length (eC.F l)) (eI.list ps.length (eI.F ps)) ⟨sv,⟨l0,h0⟩,⟨l1,h1⟩,⟨l2,h2⟩,⟨l3,h3⟩⟩)])))))))):=by kernel_rfl
def dom91:DomF
 |[.agg [.sl _ n_l st_l F_l,.int .i64 den,.sl _ n_ps st_ps F_ps],.agg [.int .i64 sv,.int .i64 l0,.int .i64 h0,.int .i64 l1,.int .i64 h1,.int .i64 l2,.int .i64 h2,.int .i64 l3,.int .i64 h3]]=>(match Nat.beq st_l 7&&Nat.beq st_ps 1 with
  |true=>some ([eC.Is n_l F_l,eI.Is n_ps F_ps,(eI.list n_ps F_ps).length≤(eC.list n_l F_l).length,(eI.list n_ps F_ps).length≤1000],[rI (M.meets (eC.list n_l F_l) (eI.list n_ps F_ps) ⟨sv,⟨l0,h0⟩,⟨l1,h1⟩,⟨l2,h2⟩,⟨l3,h3⟩⟩)])
  |_=>none)
 |_=>none
def v91:Nat×Sm:=(75,fokSm dom91)
theorem C91:FOK Tryz.prog G0 gw 75 dom91:=by
 intro ags p r hd hp κ w xs hw hl hG hx
 unfold dom91 at hd
 split at hd
 ·rename_i q_l n_l st_l F_l den q_ps n_ps st_ps F_ps sv l0 h0 l1 h1 l2 h2 l3 h3
  split at hd
  ·rename_i hst
   simp only[Bool.and_eq_true]at hst
   obtain⟨g1,g2⟩:=hst
   have g1:=Nat.eq_of_beq_eq_true g1
   have g2:=Nat.eq_of_beq_eq_true g2
   subst g1 g2
   simp only[Option.some.injEq,Prod.mk.injEq]at hd
   obtain⟨rfl,rfl⟩:=hd
   obtain⟨hI_l,hI_ps,hp⟩:=hp
   have heq:agsEqv [.agg [.sl q_l n_l 7 F_l,.int .i64 den,.sl q_ps n_ps 1 F_ps],.agg [.int .i64 sv,.int .i64 l0,.int .i64 h0,.int .i64 l1,.int .i64 h1,.int .i64 l2,.int .i64 h2,.int .i64 l3,.int .i64 h3]] [.agg [.sl q_l (eC.list n_l F_l).length 7 (eC.F (eC.list n_l F_l)),.int .i64 den,.sl q_ps (eI.list n_ps F_ps).length 1 (eI.F (eI.list n_ps F_ps))],.agg [.int .i64 sv,.int .i64 l0,.int .i64 h0,.int .i64 l1,.int .i64 h1,.int .i64 l2,.int .i64 h2,.int .i64 l3,.int .i64 h3]]:=⟨⟨eC.to id hI_l,rfl,eI.to id hI_ps,trivial⟩,Ag.eqv_refl _,trivial⟩
   have len_l:(eC.list n_l F_l).length=n_l:=eC.list_len
   have len_ps:(eI.list n_ps F_ps).length=n_ps:=eI.list_len
   generalize eC.list n_l F_l=l at *
   generalize eI.list n_ps F_ps=ps at *
   subst len_l len_ps
   have c1:=Enc.is_F eC l l.length
   have c2:=Enc.is_F eI ps ps.length
   obtain⟨c3,c4,_⟩:=hp
   exact fokX_fin mixed gw_stable (sl:=[v85,v80,v84,v64]) ⟨S85,S80,S84,S64,trivial⟩ Tryz.func75 hw hl hG hx heq rfl (t91 q_l l den q_ps ps sv l0 h0 l1 h1 l2 h2 l3 h3) ((by simp only[Enc.list_F];exact⟨c1,c2,c3,c4,c1,c2,c3,c4,rsEqv_refl _⟩))
  ·cases hd
 ·cases hd
theorem S91:SumOK Tryz.prog G0 gw 75 (fokSm dom91):=fok_sum Tryz.func75 rfl C91
end Go.Bl
end
section
set_option maxRecDepth 100000
namespace Go.Bl
open Go.Gd
open Go.V Go.Proofs
namespace M
def intsEq(u v:List Int):Bool:=decide (u=v)
end M
def tr34(u v:List Int):T (List Ar):=
  T.br ((Nat.cast (R:=Int) (List.length u)) != (Nat.cast (R:=Int) (List.length v))) (T.ret [Ar.c (D.bool false)]) (T.loop (Int×PUnit) ((0:Int),PUnit.unit) fun(x:Int×PUnit)=>T.br (decide (Prod.fst x<(Nat.cast (R:=Int) (List.length u)))) (T.need ((0:Int)≤Prod.fst x) (T.need (Prod.fst x<(Nat.cast (R:=Int) (List.length u))) (T.need ((0:Int)≤Prod.fst x) (T.need (Prod.fst x<(Nat.cast (R:=Int) (List.length v))) (T.br (List.getD u (Int.toNat (Prod.fst x)) (0:Int) != List.getD v (Int.toNat (Prod.fst x)) (0:Int)) (T.ret (Sum.inr [Ar.c (D.bool false)])) (T.ret (Sum.inl (IntKind.wrap IntKind.i64 (Prod.fst x+(1:Int)),PUnit.unit)))))))) (T.ret (Sum.inr [Ar.c (D.bool true)])))
theorem t34(q_u:Bool)(u:List Int)(q_v:Bool)(v:List Int):runFnX Tryz.prog G0 (lookS []) (fun _=>[(4,[.slot 5 (.int .i64)],none)]) [] 1 20 3 28 Tryz.f28 [.c (.sl q_u u.length 1 (eI.F u)),.c (.sl q_v v.length 1 (eI.F v))] =
  tr34 u v:=by kernel_rfl
theorem w34(u v:List Int)(h:u.length≤1000000):(tr34 u v).wp (fun rs=>rsEqv rs [rB (M.intsEq u v)]):=by
 unfold tr34
 have no:u≠v→rsEqv [rB false] [rB (M.intsEq u v)]:=fun hn=>by
  unfold M.intsEq;rw[decide_eq_false hn];exact rsEqv_refl _
 refine wp_br (fun hb=>?_) (fun hb=>?_)
 ·refine no fun e=>?_
  rw[e]at hb
  simp at hb
 ·have hl:u.length=v.length:=by have:=hb;simp at this;omega
  refine range_wp (n:=u.length) (fun k _=>∀j,j<k→u.getD j 0=v.getD j 0) (fun j hj=>by omega) ?_
  rintro k s hk hI
  refine wp_br (fun hb=>?_) (fun hb=>?_)
  ·have hlt:=lt_of_dec hb
   refine⟨by show(0:Int)≤k;omega,by show(k:Int)<u.length;omega,by show(0:Int)≤k;omega,by show(k:Int)<v.length;omega,wp_br (fun hc=>?_) (fun hc=>?_)⟩
   ·refine no fun e=>?_
    rw[e]at hc
    simp at hc
   ·have hc:u.getD k 0=v.getD k 0:=by
     have:=hc
     rw[bne_eq_false_iff_eq]at this
     exact this
    refine⟨hlt,wrap_succ (by omega),fun j hj=>?_⟩
    rcases Nat.lt_or_ge j k with g|g
    ·exact hI j g
    ·obtain rfl:j=k:=by omega
     exact hc
  ·have hge:=ge_of_dec hb
   obtain rfl:k=u.length:=by omega
   have:u=v:=by
    apply List.ext_getElem hl
    intro i h1 h2
    have:=hI i h1
    simpa[h1,h2]using this
   show rsEqv [rB true] [rB (M.intsEq u v)]
   unfold M.intsEq;rw[decide_eq_true this];exact rsEqv_refl _
def dom34:DomF
 |[.c (.sl _ n_u st_u F_u),.c (.sl _ n_v st_v F_v)]=>(match Nat.beq st_u 1&&Nat.beq st_v 1 with
  |true=>some ([eI.Is n_u F_u,eI.Is n_v F_v,(eI.list n_u F_u).length≤1000000],[rB (M.intsEq (eI.list n_u F_u) (eI.list n_v F_v))])
  |_=>none)
 |_=>none
def v34:Nat×Sm:=(28,fokSm dom34)
theorem C34:FOK Tryz.prog G0 gw 28 dom34:=by
 intro ags p r hd hp κ w xs hw hl hG hx
 unfold dom34 at hd
 split at hd
 ·rename_i q_u n_u st_u F_u q_v n_v st_v F_v
  split at hd
  ·rename_i hst
   simp only[Bool.and_eq_true]at hst
   obtain⟨g1,g2⟩:=hst
   have g1:=Nat.eq_of_beq_eq_true g1
   have g2:=Nat.eq_of_beq_eq_true g2
   subst g1 g2
   simp only[Option.some.injEq,Prod.mk.injEq]at hd
   obtain⟨rfl,rfl⟩:=hd
   obtain⟨hI_u,hI_v,hp⟩:=hp
   have heq:agsEqv [.c (.sl q_u n_u 1 F_u),.c (.sl q_v n_v 1 F_v)] [.c (.sl q_u (eI.list n_u F_u).length 1 (eI.F (eI.list n_u F_u))),.c (.sl q_v (eI.list n_v F_v).length 1 (eI.F (eI.list n_v F_v)))]:=⟨eI.to id hI_u,eI.to id hI_v,trivial⟩
   have len_u:(eI.list n_u F_u).length=n_u:=eI.list_len
   have len_v:(eI.list n_v F_v).length=n_v:=eI.list_len
   generalize eI.list n_u F_u=u at *
   generalize eI.list n_v F_v=v at *
   subst len_u len_v
   exact fokX_fin mixed gw_stable (sl:=[]) trivial Tryz.func28 hw hl hG hx heq rfl (t34 q_u u q_v v) (w34 u v hp.1)
  ·cases hd
 ·cases hd
theorem S34:SumOK Tryz.prog G0 gw 28 (fokSm dom34):=fok_sum Tryz.func28 rfl C34
end Go.Bl
end
