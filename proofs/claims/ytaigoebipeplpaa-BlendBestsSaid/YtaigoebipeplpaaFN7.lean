/- The parts of the engines, of their contracts and of the plain laws that the claim rests on: C6, C7, C8, C9, C7_5, C10, C12, C11, C14, C15, C13, L12, C16, L13, C17, C18, C19, R0, RG. -/
import Derived.Test.YtaigoebipeplpaaFN6
import Derived.ChangeSame
import Derived.ChangeVars
import Derived.ProofKit
import Derived.LaidMore
import Derived.OpenShut
import Derived.Carry
import Derived.ChangeArms
set_option linter.unusedVariables false
set_option linter.unusedSimpArgs false
section
set_option maxRecDepth 100000
namespace Go.Bl
open Go.V Go.Proofs
structure RC where
 pt:List Int
 pd:Int
 wt:List Int
 wd:Int
namespace M
def rat(rows:List Rw)(costs ch:List Int):Option RC:=
 cond (rdn (rmat rows ch) (rright rows ch)==0) none
  (cond (rkeeps (rsl (rmat rows ch) (rright rows ch)) (rdn (rmat rows ch) (rright rows ch)) rows)
   (cond (rnn (rsl (turned (rmat rows ch)) costs) ch.length)
    (some ⟨rsl (rmat rows ch) (rright rows ch),rdn (rmat rows ch) (rright rows ch),rwts rows.length ch (rsl (turned (rmat rows ch)) costs),rdn (turned (rmat rows ch)) costs⟩) none) none)
end M
def rcOf:Option RC→RC
 |some x=>x
 |none=>⟨[],0,[],0⟩
def resRC(o:Option RC):List Ar:=[.agg [dL (rcOf o).pt,dI (rcOf o).pd,dL (rcOf o).wt,dI (rcOf o).wd],rB o.isSome]
structure AtOK(B:Nat)(rows:List Rw)(costs ch:List Int):Prop where
 n:costs.length=ch.length+1
 nB:costs.length≤B
 n5:costs.length≤5
 r0:0<rows.length
 rL:rows.length≤1000
 rc:∀r,r∈rows→r.co.length=costs.length
 ci:∀v,v∈ch→0≤v∧v<(rows.length:Int)
 tu:M.rdn (M.rmat rows ch) (M.rright rows ch)≠0→(M.rsl (M.turned (M.rmat rows ch)) costs).length=costs.length
theorem rsl_len{m:List (List Int)}{r:List Int}(h:M.rdn m r≠0):(M.rsl m r).length=m.length:=by
 unfold M.rdn M.rden M.rsolve at h
 unfold M.rsl M.rsol M.rsolve
 cases hd:M.rdet m.length m==0
 ·simp
 ·rw[hd]at h;exact absurd rfl h
theorem zR_none:rsEqv zR (resRC none):=⟨⟨⟨(fun e=>by cases e),rfl,fun h=>absurd h (Nat.lt_irrefl 0),fun i j hi=>absurd hi (Nat.not_lt_zero i)⟩,rfl,⟨(fun e=>by cases e),rfl,fun h=>absurd h (Nat.lt_irrefl 0),fun i j hi=>absurd hi (Nat.not_lt_zero i)⟩,rfl,trivial⟩,rfl,trivial⟩
theorem rrow_len{B:Nat}{rows:List Rw}{costs ch:List Int}(h:AtOK B rows costs ch){v:Int}(hv:v<(rows.length:Int)):(M.rrow rows v).co.length=costs.length:=by
 have h0:=h.r0
 exact h.rc _ (getD_in (by omega))
theorem rmat_len{B:Nat}{rows:List Rw}{costs ch:List Int}(h:AtOK B rows costs ch):(M.rmat rows ch).length=costs.length∧(∀r,r∈M.rmat rows ch→r.length=costs.length)∧(M.rright rows ch).length=costs.length:=by
 have h0:=h.r0
 refine⟨by simp[M.rmat,h.n],fun r hr=>?_,by simp[M.rright,h.n]⟩
 rcases List.mem_cons.1 hr with rfl|hr
 ·exact rrow_len h (by omega)
 ·obtain⟨v,hv,rfl⟩:=List.mem_map.1 hr
  exact rrow_len h (h.ci v hv).2
theorem w120{B:Nat}{rows:List Rw}{costs ch:List Int}(h:AtOK B rows costs ch):(tr120 B rows costs ch).wp (fun rs=>rsEqv rs (resRC (M.rat rows costs ch))):=by
 have hn:=h.n
 have hnB:=h.nB
 have hn5:=h.n5
 have hrL:=h.rL
 obtain⟨hl,hr,hb⟩:=rmat_len h
 refine rowT_wp h.r0 (by omega) h.ci fun x hx1 hx2=>?_
 rw[hx1,hx2]
 simp only[Enc.list_F]
 refine⟨Nat.le_refl _,Nat.le_refl _,Enc.is_F _ _ _,Enc.is_F _ _ _,by omega,by omega,by omega,fun r hr'=>by rw[hr r hr',hl],fun hd=>?_,fun hd=>?_⟩
 ·have:M.rat rows costs ch=none:=by unfold M.rat;rw[hd];rfl
  rw[this]
  exact zR_none
 have hd0:M.rdn (M.rmat rows ch) (M.rright rows ch)≠0:=by intro e;rw[e]at hd;exact absurd hd (by decide)
 have hsl:=rsl_len hd0
 have htu:=h.tu hd0
 refine holdT_wp hrL (by omega) (fun r hr'=>by rw[h.rc r hr'];omega) (fun hk=>?_) (fun hk z=>?_)
 ·have:M.rat rows costs ch=none:=by unfold M.rat;rw[hd,hk];rfl
  rw[this]
  exact zR_none
 refine turnT_wp (by omega) (by omega) (fun r hr'=>by rw[hr r hr'];omega) fun y hy=>?_
 obtain⟨tl1,tl2⟩:=turned_len (m:=M.rmat rows ch)
 rw[hy]
 refine⟨Nat.le_refl _,Enc.is_F _ _ _,Enc.is_F _ _ _,by omega,by omega,by omega,fun r hr'=>by rw[tl2 r hr',tl1],?_⟩
 refine wtT_wp h.r0 hrL (by omega) (by omega) h.ci (fun hw=>?_) (fun hw v h1 h2 h3 h4=>?_)
 ·have:M.rat rows costs ch=none:=by unfold M.rat;rw[hd,hk,hw];rfl
  show rsEqv zR _
  rw[this]
  exact zR_none
 ·have:M.rat rows costs ch=some ⟨M.rsl (M.rmat rows ch) (M.rright rows ch),M.rdn (M.rmat rows ch) (M.rright rows ch),M.rwts rows.length ch (M.rsl (M.turned (M.rmat rows ch)) costs),M.rdn (M.turned (M.rmat rows ch)) costs⟩:=by unfold M.rat;rw[hd,hk,hw];rfl
  show rsEqv (endW v) _
  rw[this]
  unfold endW
  rw[h1,h2,h3,h4]
  exact⟨⟨D.eqv_refl _,rfl,⟨(fun e=>by cases e),rfl,fun _=>rfl,fun _ _ _ _=>D.eqv_refl _⟩,rfl,trivial⟩,rfl,trivial⟩
def dom120z(B:Nat):DomF
 |[.c (.sl _ n_rows st_rows F_rows),.c (.sl _ n_costs st_costs F_costs),.c (.sl _ n_ch st_ch F_ch)]=>(match Nat.beq st_rows 2&&Nat.beq st_costs 1&&(Nat.beq st_ch 1||Nat.beq n_ch 0)with
  |true=>some ([eRw.Is n_rows F_rows,eI.Is n_costs F_costs,eI.Is n_ch F_ch,AtOK B (eRw.list n_rows F_rows) (eI.list n_costs F_costs) (eI.list n_ch F_ch)],resRC (M.rat (eRw.list n_rows F_rows) (eI.list n_costs F_costs) (eI.list n_ch F_ch)))
  |_=>none)
 |_=>none
def v120z(B:Nat):Nat×Sm:=(120,fokSm (dom120z B))
theorem C120z{B:Nat}(hS:SumOK Try.prog G0 gw 143 (fokSm (dom143g B))):FOK Try.prog G0 gw 120 (dom120z B):=by
 intro ags p r hd hp κ w xs hw hl hG hx
 unfold dom120z at hd
 split at hd
 ·rename_i q_rows n_rows st_rows F_rows q_costs n_costs st_costs F_costs q_ch n_ch st_ch F_ch
  split at hd
  ·rename_i hst
   rw[Bool.and_eq_true,Bool.and_eq_true]at hst
   obtain⟨⟨g1,g2⟩,gz_ch⟩:=hst
   have g1:=Nat.eq_of_beq_eq_true g1
   have g2:=Nat.eq_of_beq_eq_true g2
   subst g1 g2
   simp only[Option.some.injEq,Prod.mk.injEq]at hd
   obtain⟨rfl,rfl⟩:=hd
   obtain⟨hI_rows,hI_costs,hI_ch,hp⟩:=hp
   have heq:agsEqv [.c (.sl q_rows n_rows 2 F_rows),.c (.sl q_costs n_costs 1 F_costs),.c (.sl q_ch n_ch st_ch F_ch)] [.c (.sl q_rows (eRw.list n_rows F_rows).length 2 (eRw.F (eRw.list n_rows F_rows))),.c (.sl q_costs (eI.list n_costs F_costs).length 1 (eI.F (eI.list n_costs F_costs))),.c (.sl q_ch (eI.list n_ch F_ch).length 1 (eI.F (eI.list n_ch F_ch)))]:=⟨eRw.to id hI_rows,eI.to id hI_costs,eI_to0 gz_ch hI_ch,trivial⟩
   have len_rows:(eRw.list n_rows F_rows).length=n_rows:=eRw.list_len
   have len_costs:(eI.list n_costs F_costs).length=n_costs:=eI.list_len
   have len_ch:(eI.list n_ch F_ch).length=n_ch:=eI.list_len
   generalize eRw.list n_rows F_rows=rows at *
   generalize eI.list n_costs F_costs=costs at *
   generalize eI.list n_ch F_ch=ch at *
   subst len_rows len_costs len_ch
   exact fokX_fin mixed gw_stable (sl:=[v143g B]) ⟨hS,trivial⟩ Try.func120 hw hl hG hx heq rfl (t120 B _ _ _ _ _ _) (w120 hp.1)
  ·cases hd
 ·cases hd
theorem S120z{B:Nat}(hS:SumOK Try.prog G0 gw 143 (fokSm (dom143g B))):SumOK Try.prog G0 gw 120 (fokSm (dom120z B)):=fok_sum Try.func120 rfl (C120z hS)
end Go.Bl
end
section
set_option maxRecDepth 100000
namespace Go.Bl
open Go.V Go.Proofs
abbrev GX:Type:=List Int×List Int×Int×List Int×Int×PUnit
def rowT2{α:Type}(d:Nat)(rows:List Rw)(ch:List Int)(K:XA→T (XA ⊕ α)):T α:=
 T.needs [(0:Int)≤0,(0:Int)<(rows.length:Int),(0:Int)≤0,(0:Int)<(rows.length:Int),eR.Is 1 (oneRF false (rows.getD (Int.toNat 0) eRw.dflt).1),eI.Is 1 (oneF (rows.getD (Int.toNat 0) eRw.dflt).2)]
  (.loop XA (0,eR.list 1 (oneRF false (rows.getD (Int.toNat 0) eRw.dflt).1),eI.list 1 (oneF (rows.getD (Int.toNat 0) eRw.dflt).2),PUnit.unit) fun x=>.br (decide (x.1<(d:Int)))
   (T.needs [0≤x.1,x.1<(d:Int),x.1.toNat<d,0≤ch.getD x.1.toNat 0,ch.getD x.1.toNat 0<(rows.length:Int),x.2.1.length+1≤1000000,x.2.1.length≤x.2.1.length,0≤x.1,x.1<(d:Int),x.1.toNat<d,0≤ch.getD x.1.toNat 0,ch.getD x.1.toNat 0<(rows.length:Int),x.2.2.1.length+1≤1000000,x.2.2.1.length≤x.2.2.1.length,
     eR.Is (x.2.1.length+1) (joinF x.2.1.length (eR.F x.2.1) (oneRF false (rows.getD (ch.getD x.1.toNat 0).toNat eRw.dflt).1)),x.2.1.length+1≤x.2.1.length+1,
     eI.Is (x.2.2.1.length+1) (joinF x.2.2.1.length (eI.F x.2.2.1) (oneF (rows.getD (ch.getD x.1.toNat 0).toNat eRw.dflt).2)),x.2.2.1.length+1≤x.2.2.1.length+1]
    (.ret (.inl (w64 (x.1+1),eR.list (x.2.1.length+1) (joinF x.2.1.length (eR.F x.2.1) (oneRF false (rows.getD (ch.getD x.1.toNat 0).toNat eRw.dflt).1)),eI.list (x.2.2.1.length+1) (joinF x.2.2.1.length (eI.F x.2.2.1) (oneF (rows.getD (ch.getD x.1.toNat 0).toNat eRw.dflt).2)),PUnit.unit)))) (K x))
def holdT2{α:Type}(rows:List Rw)(v:List Int)(den:Int)(no:T ((Int×Int×PUnit) ⊕ (XZ ⊕ α)))(K:XZ→T (XZ ⊕ α)):T α:=
 T.needs [eI.Is 0 nF,eI.Is 0 nF] (.loop XZ (0,eI.list 0 nF,0,eI.list 0 nF,0,PUnit.unit) fun x=>.br (decide (x.1<(rows.length:Int)))
  (dotT rows v x.1 fun y=>T.needs [0≤x.1,x.1<(rows.length:Int)] (.br (decide (y.2.1<w64 ((rows.getD x.1.toNat eRw.dflt).2*den))) no
   (T.needs [eI.Is x.2.1.length (eI.F x.2.1),eI.Is x.2.2.2.1.length (eI.F x.2.2.2.1)] (.ret (.inr (.inl (w64 (x.1+1),eI.list x.2.1.length (eI.F x.2.1),x.2.2.1,eI.list x.2.2.2.1.length (eI.F x.2.2.2.1),x.2.2.2.2.1,PUnit.unit))))))) (K x))
def wtT2{α:Type}(d:Nat)(L:Int)(ch v:List Int)(x0:XZ)(p:List Int)(pd wd:Int)(no:T (XW ⊕ α))(yes:XW→T (XW ⊕ α)):T α:=
 T.needs [0≤L,L≤L,L≤1000000,(0:Int)≤0,(0:Int)<(v.length:Int),(0:Int)≤0,(0:Int)<(L.toNat:Int),0<L.toNat,eI.Is p.length (eI.F p),eI.Is L.toNat (putF 0 0 1 [dI (v.getD 0 0)] fun _ j=>List.getD [dI 0] j .nilp),L.toNat≤L.toNat,
   eI.Is x0.2.1.length (eI.F x0.2.1),eI.Is x0.2.2.2.1.length (eI.F x0.2.2.2.1)]
  (.loop XW (0,eI.list p.length (eI.F p),pd,eI.list L.toNat (putF 0 0 1 [dI (v.getD 0 0)] fun _ j=>List.getD [dI 0] j .nilp),wd,eI.list x0.2.1.length (eI.F x0.2.1),x0.2.2.1,eI.list x0.2.2.2.1.length (eI.F x0.2.2.2.1),x0.2.2.2.2.1,PUnit.unit) fun x=>.br (decide (x.1<(d:Int)))
   (T.needs [0≤w64 (x.1+1),w64 (x.1+1)<(v.length:Int)] (.br (decide (v.getD (w64 (x.1+1)).toNat 0<0)) no
    (T.needs [0≤x.1,x.1<(d:Int),x.1.toNat<d,0≤w64 (x.1+1),w64 (x.1+1)<(v.length:Int),0≤ch.getD x.1.toNat 0,ch.getD x.1.toNat 0<(x.2.2.2.1.length:Int),(ch.getD x.1.toNat 0).toNat<x.2.2.2.1.length,eI.Is x.2.1.length (eI.F x.2.1),
      eI.Is x.2.2.2.1.length (putW x.2.2.2.1 (ch.getD x.1.toNat 0) (v.getD (w64 (x.1+1)).toNat 0)),x.2.2.2.1.length≤x.2.2.2.1.length,eI.Is x.2.2.2.2.2.1.length (eI.F x.2.2.2.2.2.1),eI.Is x.2.2.2.2.2.2.2.1.length (eI.F x.2.2.2.2.2.2.2.1)]
     (.ret (.inl (w64 (x.1+1),eI.list x.2.1.length (eI.F x.2.1),x.2.2.1,eI.list x.2.2.2.1.length (putW x.2.2.2.1 (ch.getD x.1.toNat 0) (v.getD (w64 (x.1+1)).toNat 0)),x.2.2.2.2.1,eI.list x.2.2.2.2.2.1.length (eI.F x.2.2.2.2.2.1),x.2.2.2.2.2.2.1,eI.list x.2.2.2.2.2.2.2.1.length (eI.F x.2.2.2.2.2.2.2.1),x.2.2.2.2.2.2.2.2.1,PUnit.unit))))))
   (T.needs [x.2.2.2.1.length≤x.2.2.2.1.length] (yes x)))
def nd3(d k:Nat):List Prop:=[(0:Int)≤(k:Int),(k:Int)<(d:Int),k<d]
def putT{γ:Type}(d:Nat)(x:GX)(f:GX ⊕ List Ar→γ):Nat→Nat→Int→(Nat→Nat→D)→T γ
 |0,_,_,F=>T.needs [eI.Is d F,d≤d,eI.Is x.2.1.length (eI.F x.2.1),eI.Is x.2.2.2.1.length (eI.F x.2.2.2.1)]
   (.ret (f (.inl (eI.list d F,eI.list x.2.1.length (eI.F x.2.1),x.2.2.1,eI.list x.2.2.2.1.length (eI.F x.2.2.2.1),x.2.2.2.2.1,PUnit.unit))))
 |r+1,j,v,F=>T.needs (nd3 d (j-1)++nd3 d j) (putT d x f r (j+1) (w64 (v+1)) (putF j 0 1 [dI (w64 (v+1))] F))
def nextT{γ:Type}(d:Nat)(L:Int)(x:GX)(f:GX ⊕ List Ar→γ):Nat→T γ
 |0=>.ret (f (.inr zR))
 |k+1=>T.needs (nd3 d k) (.br (x.1.getD k 0==w64 (w64 (L-(d:Int))+(k:Int))) (nextT d L x f k)
   (T.needs (nd3 d k++nd3 d k) (putT d x f (d-(k+1)) (k+1) (w64 (x.1.getD k 0+1)) (putF k 0 1 [dI (w64 (x.1.getD k 0+1))] (eI.F x.1)))))
def tr70(B d:Nat)(rows:List Rw)(costs:List Int)(pre:List Prop)(F0:Nat→Nat→D):T (List Ar):=
 T.needs pre (T.needs [eI.Is d F0,d≤d,eI.Is 0 nF,eI.Is 0 nF] (.loop GX (eI.list d F0,eI.list 0 nF,0,eI.list 0 nF,0,PUnit.unit) fun c=>
  rowT2 d rows c.1 fun x=>T.needs [x.2.1.length≤x.2.1.length,x.2.2.1.length≤x.2.2.1.length,eR.Is x.2.1.length (eR.F x.2.1),eI.Is x.2.2.1.length (eI.F x.2.2.1),1≤x.2.1.length,x.2.1.length≤B,x.2.2.1.length=x.2.1.length,∀r,r∈eR.list x.2.1.length (eR.F x.2.1)→r.length=x.2.1.length]
  (.br (M.rdn (eR.list x.2.1.length (eR.F x.2.1)) (eI.list x.2.2.1.length (eI.F x.2.2.1))==0) (nextT d (rows.length:Int) c .inr d)
   (holdT2 rows (M.rsl (eR.list x.2.1.length (eR.F x.2.1)) (eI.list x.2.2.1.length (eI.F x.2.2.1))) (M.rdn (eR.list x.2.1.length (eR.F x.2.1)) (eI.list x.2.2.1.length (eI.F x.2.2.1))) (nextT d (rows.length:Int) c (fun r=>.inr (.inr (.inr r))) d) fun z=>
    turnT x.2.1 fun y=>T.needs [y.2.1.length≤y.2.1.length,eR.Is y.2.1.length (eR.F y.2.1),eI.Is (d+1) (eI.F costs),1≤y.2.1.length,y.2.1.length≤B,d+1=y.2.1.length,∀r,r∈eR.list y.2.1.length (eR.F y.2.1)→r.length=y.2.1.length]
     (wtT2 d (rows.length:Int) c.1 (M.rsl (eR.list y.2.1.length (eR.F y.2.1)) (eI.list (d+1) (eI.F costs))) z (M.rsl (eR.list x.2.1.length (eR.F x.2.1)) (eI.list x.2.2.1.length (eI.F x.2.2.1))) (M.rdn (eR.list x.2.1.length (eR.F x.2.1)) (eI.list x.2.2.1.length (eI.F x.2.2.1)))
      (M.rdn (eR.list y.2.1.length (eR.F y.2.1)) (eI.list (d+1) (eI.F costs))) (nextT d (rows.length:Int) c (fun r=>.inr (.inr (.inr (.inr r)))) d) fun v=>.ret (.inr (.inr (.inr (.inr (.inr (endW v)))))))))))
def initF:Nat→Nat→Nat→D
 |0=>nF
 |k+1=>joinF k (initF k) (oneF ((k+1:Nat):Int))
def pre70:Nat→List Prop
 |0=>[]
 |k+1=>(match k with|0=>[(1:Nat)≤1000000]|k+1=>pre70 (k+1)++ [k+2≤1000000,k+1≤k+1])
theorem t70_2(B:Nat)(q q2:Bool)(rows:List Rw)(r0 r1:Int):runFnX Try.prog G0 (lookS [v143g B]) (fun f=>match Nat.beq f 120 with|true=>[(3,[.slot 10 (.int .i64),.slot 8 (.rowE 31 eR),.slot 9 (.rowE 3 eI)],none),(10,[.slot 13 (.int .i64),.blk 6 [.imE eI,.int .i64,.imE eI,.int .i64]],none),(14,[.slot 15 (.int .i64),.slot 14 (.int .i64)],none),(21,[.slot 17 (.int .i64),.slot 16 .nsl],some [.slot 17 (.int .i64),.slot 16 (.rowE 31 eR)]),(25,[.slot 19 (.int .i64),.slot 18 .nsl],some [.slot 19 (.int .i64),.slot 18 (.rowE 3 eI)]),(33,[.slot 23 (.int .i64),.blk 22 [.imE eI,.int .i64,.rowE 3 eI,.int .i64],.blk 6 [.imE eI,.int .i64,.imE eI,.int .i64]],none),(8000021,[],none),(8000025,[],none)]|false=>[(1000015,[],none),(1000035,[],none),(1000053,[],none),(1000068,[],none),(3000014,[],none),(3000017,[],none),(3000033,[],none),(3000051,[],none),(3000067,[],none),(3000064,[],none),(3000070,[],none),(3000075,[],none),(6,[.slot 6 (.rowN 3 eI 1),.blk 4 [.imE eI,.int .i64,.imE eI,.int .i64]],none)]) [120] 1 60 6 70 Try.f70 [.c (.sl q rows.length 2 (eRw.F rows)),.c (.sl q2 2 1 (eI.F [r0,r1]))] =
  tr70 B 1 rows [r0,r1] (pre70 1) (initF 1):=by kernel_rfl
theorem t70_3(B:Nat)(q q2:Bool)(rows:List Rw)(r0 r1 r2:Int):runFnX Try.prog G0 (lookS [v143g B]) (fun f=>match Nat.beq f 120 with|true=>[(3,[.slot 10 (.int .i64),.slot 8 (.rowE 31 eR),.slot 9 (.rowE 3 eI)],none),(10,[.slot 13 (.int .i64),.blk 6 [.imE eI,.int .i64,.imE eI,.int .i64]],none),(14,[.slot 15 (.int .i64),.slot 14 (.int .i64)],none),(21,[.slot 17 (.int .i64),.slot 16 .nsl],some [.slot 17 (.int .i64),.slot 16 (.rowE 31 eR)]),(25,[.slot 19 (.int .i64),.slot 18 .nsl],some [.slot 19 (.int .i64),.slot 18 (.rowE 3 eI)]),(33,[.slot 23 (.int .i64),.blk 22 [.imE eI,.int .i64,.rowE 3 eI,.int .i64],.blk 6 [.imE eI,.int .i64,.imE eI,.int .i64]],none),(8000021,[],none),(8000025,[],none)]|false=>[(1000015,[],none),(1000035,[],none),(1000053,[],none),(1000068,[],none),(3000014,[],none),(3000017,[],none),(3000033,[],none),(3000051,[],none),(3000067,[],none),(3000064,[],none),(3000070,[],none),(3000075,[],none),(6,[.slot 6 (.rowN 3 eI 2),.blk 4 [.imE eI,.int .i64,.imE eI,.int .i64]],none)]) [120] 1 60 6 70 Try.f70 [.c (.sl q rows.length 2 (eRw.F rows)),.c (.sl q2 3 1 (eI.F [r0,r1,r2]))] =
  tr70 B 2 rows [r0,r1,r2] (pre70 2) (initF 2):=by kernel_rfl
theorem t70_4(B:Nat)(q q2:Bool)(rows:List Rw)(r0 r1 r2 r3:Int):runFnX Try.prog G0 (lookS [v143g B]) (fun f=>match Nat.beq f 120 with|true=>[(3,[.slot 10 (.int .i64),.slot 8 (.rowE 31 eR),.slot 9 (.rowE 3 eI)],none),(10,[.slot 13 (.int .i64),.blk 6 [.imE eI,.int .i64,.imE eI,.int .i64]],none),(14,[.slot 15 (.int .i64),.slot 14 (.int .i64)],none),(21,[.slot 17 (.int .i64),.slot 16 .nsl],some [.slot 17 (.int .i64),.slot 16 (.rowE 31 eR)]),(25,[.slot 19 (.int .i64),.slot 18 .nsl],some [.slot 19 (.int .i64),.slot 18 (.rowE 3 eI)]),(33,[.slot 23 (.int .i64),.blk 22 [.imE eI,.int .i64,.rowE 3 eI,.int .i64],.blk 6 [.imE eI,.int .i64,.imE eI,.int .i64]],none),(8000021,[],none),(8000025,[],none)]|false=>[(1000015,[],none),(1000035,[],none),(1000053,[],none),(1000068,[],none),(3000014,[],none),(3000017,[],none),(3000033,[],none),(3000051,[],none),(3000067,[],none),(3000064,[],none),(3000070,[],none),(3000075,[],none),(6,[.slot 6 (.rowN 3 eI 3),.blk 4 [.imE eI,.int .i64,.imE eI,.int .i64]],none)]) [120] 1 60 6 70 Try.f70 [.c (.sl q rows.length 2 (eRw.F rows)),.c (.sl q2 4 1 (eI.F [r0,r1,r2,r3]))] =
  tr70 B 3 rows [r0,r1,r2,r3] (pre70 3) (initF 3):=by kernel_rfl
end Go.Bl
end
section
set_option maxRecDepth 100000
namespace Go.Bl
open Go.V Go.Proofs
namespace M
def lastK(d:Nat)(L:Int)(c:List Int):Nat→Option Nat
 |0=>none
 |k+1=>cond (c.getD k 0==L-d+k) (lastK d L c k) (some k)
def bump(d k:Nat)(c:List Int):List Int:=c.take k++(List.range (d-k)).map fun(j:Nat)=>c.getD k 0+1+(j:Int)
def nextC(d:Nat)(L:Int)(c:List Int):Option (List Int):=(lastK d L c d).map fun k=>bump d k c
def initC(d:Nat):List Int:=(List.range d).map fun(k:Nat)=>(k:Int)+1
end M
structure Val(d:Nat)(L:Int)(c:List Int):Prop where
 len:c.length=d
 lo:∀k,k<d→(k:Int)+1≤c.getD k 0
 hi:∀k,k<d→c.getD k 0≤L-d+k
 up:∀k,k+1<d→c.getD k 0<c.getD (k+1) 0
def Lx(d:Nat)(c e:List Int):Prop:=∃i,i<d∧(∀j,j<i→c.getD j 0=e.getD j 0)∧c.getD i 0<e.getD i 0
theorem lastK_some{d:Nat}{L:Int}{c:List Int}:∀{n k:Nat},M.lastK d L c n=some k→k<n∧c.getD k 0≠L-d+k∧∀j,k<j→j<n→c.getD j 0=L-d+j:=by
 intro n
 induction n with
 |zero=>intro k h;cases h
 |succ n ih=>
  intro k h
  unfold M.lastK at h
  cases hb:c.getD n 0==L-d+n
  ·rw[hb]at h
   have h:some n=some k:=h
   cases h
   exact⟨by omega,(fun e=>by rw[e,beq_self_eq_true]at hb;cases hb),fun j h1 h2=>by omega⟩
  ·rw[hb]at h
   obtain⟨g1,g2,g3⟩:=ih h
   refine⟨by omega,g2,fun j h1 h2=>?_⟩
   by_cases hj:j=n
   ·subst hj;exact eq_of_beq hb
   ·exact g3 j h1 (by omega)
theorem lastK_none{d:Nat}{L:Int}{c:List Int}:∀{n:Nat},M.lastK d L c n=none→∀j,j<n→c.getD j 0=L-d+j:=by
 intro n
 induction n with
 |zero=>intro _ j hj;omega
 |succ n ih=>
  intro h j hj
  unfold M.lastK at h
  cases hb:c.getD n 0==L-d+n
  ·rw[hb]at h;cases h
  ·rw[hb]at h
   by_cases e:j=n
   ·subst e;exact eq_of_beq hb
   ·exact ih h j (by omega)
theorem bump_len{d k:Nat}{c:List Int}(hc:c.length=d)(hk:k≤d):(M.bump d k c).length=d:=by
 simp[M.bump];omega
theorem bump_lt{d k j:Nat}{c:List Int}(hc:c.length=d)(hk:k<d)(hj:j<k):(M.bump d k c).getD j 0=c.getD j 0:=by
 unfold M.bump
 simp only[List.getD_eq_getElem?_getD]
 rw[List.getElem?_append_left (by simp;omega),List.getElem?_take,if_pos hj]
theorem bump_ge{d k j:Nat}{c:List Int}(hc:c.length=d)(hk:k<d)(h1:k≤j)(h2:j<d):(M.bump d k c).getD j 0=c.getD k 0+1+((j-k:Nat):Int):=by
 unfold M.bump
 have hl:(c.take k).length=k:=by simp;omega
 rw[List.getD_eq_getElem?_getD,List.getElem?_append_right (by rw[hl];exact h1),hl,List.getElem?_map,List.getElem?_range (by omega)]
 rfl
section
variable {d : Nat} {L : Int} {c e : List Int}
theorem Val.bump(h:Val d L c){k:Nat}(hk:k<d)(hn:c.getD k 0≠L-d+k):Val d L (M.bump d k c):=by
 have hlo:=h.lo k hk
 have hhi:=h.hi k hk
 refine⟨bump_len h.len (by omega),fun j hj=>?_,fun j hj=>?_,fun j hj=>?_⟩
 ·by_cases hjk:j<k
  ·rw[bump_lt h.len hk hjk];exact h.lo j hj
  ·rw[bump_ge h.len hk (by omega) hj];omega
 ·by_cases hjk:j<k
  ·rw[bump_lt h.len hk hjk];exact h.hi j hj
  ·rw[bump_ge h.len hk (by omega) hj];omega
 ·by_cases hjk:j+1<k
  ·rw[bump_lt h.len hk (show j<k by omega),bump_lt h.len hk hjk];exact h.up j hj
  ·by_cases e1:j+1=k
   ·rw[bump_lt h.len hk (show j<k by omega),bump_ge h.len hk (by omega) hj]
    have:=h.up j hj
    rw[e1]at this ⊢
    omega
   ·rw[bump_ge h.len hk (show k≤j by omega) (by omega),bump_ge h.len hk (by omega) hj];omega
theorem Lx.bump(h:Val d L c){k:Nat}(hk:k<d):Lx d c (M.bump d k c):=
 ⟨k,hk,fun j hj=>(bump_lt h.len hk hj).symm,by rw[bump_ge h.len hk (Nat.le_refl _) hk];omega⟩
theorem Val.next(h:Val d L c){c':List Int}(hn:M.nextC d L c=some c'):Val d L c'∧Lx d c c':=by
 unfold M.nextC at hn
 obtain⟨k,hk,rfl⟩:=Option.map_eq_some_iff.1 hn
 obtain⟨h1,h2,h3⟩:=lastK_some hk
 exact⟨h.bump h1 h2,Lx.bump h h1⟩
theorem Val.grow(h:Val d L c){k:Nat}:∀{j:Nat},k≤j→j<d→c.getD k 0+((j-k:Nat):Int)≤c.getD j 0:=by
 intro j
 induction j with
 |zero=>
  intro h1 h2
  obtain rfl:k=0:=by omega
  simp
 |succ j ih=>
  intro h1 h2
  by_cases e:k=j+1
  ·subst e;simp
  ·have:=ih (by omega) (by omega)
   have:=h.up j h2
   omega
theorem lx_or(hge:∀j,j<d→(∀i,i<j→c.getD i 0=e.getD i 0)→c.getD j 0≤e.getD j 0):∀n,n≤d→(∀j,j<n→c.getD j 0=e.getD j 0)∨Lx d c e:=by
 intro n
 induction n with
 |zero=>intro _;exact .inl fun j hj=>by omega
 |succ n ih=>
  intro hn
  rcases ih (by omega)with h|h
  ·have:=hge n (by omega) h
   by_cases hlt:c.getD n 0<e.getD n 0
   ·exact .inr ⟨n,by omega,h,hlt⟩
   ·refine .inl fun j hj=>?_
    by_cases ej:j=n
    ·subst ej;omega
    ·exact h j (by omega)
  ·exact .inr h
theorem val_ext(hc:c.length=d)(he:e.length=d)(h:∀j,j<d→c.getD j 0=e.getD j 0):c=e:=by
 refine List.ext_getElem (by omega) fun i h1 h2=>?_
 have:=h i (by omega)
 simpa[h1,h2]using this
theorem next_succ(hc:Val d L c)(he:Val d L e)(hx:Lx d c e):∃c',M.nextC d L c=some c'∧(c'=e∨Lx d c' e):=by
 obtain⟨i,hi,h1,h2⟩:=hx
 have hmax:=he.hi i hi
 unfold M.nextC
 cases hk:M.lastK d L c d with
 |none=>have:=lastK_none hk i hi;omega
 |some k=>
  obtain⟨k1,k2,k3⟩:=lastK_some hk
  refine⟨_,rfl,?_⟩
  have hik:i≤k:=by
   rcases Nat.lt_or_ge k i with h|h
   ·have:=k3 i h hi;omega
   ·exact h
  by_cases hlt:i<k
  ·exact .inr ⟨i,hi,fun j hj=>by rw[bump_lt hc.len k1 (by omega)];exact h1 j hj,by rw[bump_lt hc.len k1 hlt];exact h2⟩
  ·obtain rfl:i=k:=by omega
   have key:=lx_or (d:=d) (c:=M.bump d i c) (e:=e) (fun j hj hp=>by
    by_cases hjk:j<i
    ·rw[bump_lt hc.len k1 hjk,h1 j hjk];exact Int.le_refl _
    ·rw[bump_ge hc.len k1 (by omega) hj]
     have:=he.grow (k:=i) (j:=j) (by omega) hj
     omega) d (Nat.le_refl _)
   rcases key with h|h
   ·exact .inl (val_ext (bump_len hc.len (by omega)) he.len h)
   ·exact .inr h
theorem initC_get{j:Nat}(hj:j<d):(M.initC d).getD j 0=(j:Int)+1:=by
 unfold M.initC
 rw[List.getD_eq_getElem?_getD,List.getElem?_map,List.getElem?_range hj];rfl
theorem initC_val(h:(d:Int)+1≤L):Val d L (M.initC d):=by
 refine⟨by simp[M.initC],fun k hk=>by rw[initC_get hk];omega,fun k hk=>by rw[initC_get hk];omega,fun k hk=>by rw[initC_get hk,initC_get (by omega)];omega⟩
theorem initC_least(he:Val d L e):M.initC d=e∨Lx d (M.initC d) e:=by
 rcases lx_or (d:=d) (c:=M.initC d) (e:=e) (fun j hj _=>by rw[initC_get hj];exact he.lo j hj) d (Nat.le_refl _)with h|h
 ·exact .inl (val_ext (by simp[M.initC]) he.len h)
 ·exact .inr h
end
def rk(L:Int)(c:List Int):Nat→Int
 |0=>0
 |n+1=>rk L c n*L+c.getD n 0
theorem rk_lt{d:Nat}{L:Int}{c e:List Int}(hL:0<L)(hc:∀k,k<d→0≤c.getD k 0∧c.getD k 0<L)(he:∀k,k<d→0≤e.getD k 0∧e.getD k 0<L)(hx:Lx d c e):rk L c d<rk L e d:=by
 obtain⟨i,hi,h1,h2⟩:=hx
 have hp:∀n,n≤i→rk L c n=rk L e n:=by
  intro n
  induction n with
  |zero=>intro _;rfl
  |succ n ih=>intro hn;simp only[rk];rw[ih (by omega),h1 n (by omega)]
 have hq:∀n,i<n→n≤d→rk L c n<rk L e n:=by
  intro n
  induction n with
  |zero=>intro h;omega
  |succ n ih=>
   intro h3 h4
   simp only[rk]
   by_cases en:n=i
   ·subst en
    rw[hp n (Nat.le_refl _)];omega
   ·have:=ih (by omega) (by omega)
    have hm:=Int.mul_le_mul_of_nonneg_right (show rk L c n+1≤rk L e n by omega) (show 0≤L by omega)
    rw[Int.add_mul,Int.one_mul]at hm
    have:=hc n (by omega)
    have:=he n (by omega)
    omega
 exact hq d hi (Nat.le_refl _)
theorem rk_bound{d:Nat}{L:Int}{c:List Int}(hL:0<L)(hc:∀k,k<d→0≤c.getD k 0∧c.getD k 0<L):∀n,n≤d→0≤rk L c n∧rk L c n<L^n:=by
 intro n
 induction n with
 |zero=>intro _;exact⟨Int.le_refl _,by simp[rk]⟩
 |succ n ih=>
  intro hn
  obtain⟨h1,h2⟩:=ih (by omega)
  have:=hc n (by omega)
  simp only[rk]
  rw[Int.pow_succ]
  have hm:=Int.mul_le_mul_of_nonneg_right (show rk L c n+1≤L^n by omega) (show 0≤L by omega)
  rw[Int.add_mul,Int.one_mul]at hm
  have:=Int.mul_nonneg h1 (show 0≤L by omega)
  omega
theorem Val.ent{d:Nat}{L:Int}{c:List Int}(h:Val d L c):∀k,k<d→0≤c.getD k 0∧c.getD k 0<L:=by
 intro k hk
 have:=h.lo k hk
 have:=h.hi k hk
 omega
def mC(d:Nat)(L:Int)(c:List Int):Nat:=(L^d-rk L c d).toNat
theorem mC_lt{d:Nat}{L:Int}{c e:List Int}(hL:0<L)(hc:Val d L c)(he:Val d L e)(hx:Lx d c e):mC d L e<mC d L c:=by
 have h1:=rk_lt hL hc.ent he.ent hx
 have h2:=rk_bound hL he.ent d (Nat.le_refl _)
 unfold mC
 omega
namespace M
def rgo(rows:List Rw)(costs:List Int):Nat→List Int→Option RC
 |0,_=>none
 |f+1,c=>(match rat rows costs c with
  |some x=>some x
  |none=>(match nextC (costs.length-1) (rows.length:Int) c with
   |some c'=>rgo rows costs f c'
   |none=>none))
def rbest(rows:List Rw)(costs:List Int):Option RC:=rgo rows costs (rows.length^(costs.length-1)+1) (initC (costs.length-1))
end M
theorem rgo_some{rows:List Rw}{costs:List Int}{x:RC}:∀{f:Nat} {c:List Int},Val (costs.length-1) (rows.length:Int) c→M.rgo rows costs f c=some x→∃e,Val (costs.length-1) (rows.length:Int) e∧M.rat rows costs e=some x:=by
 intro f
 induction f with
 |zero=>intro c _ h;cases h
 |succ f ih=>
  intro c hc h
  simp only[M.rgo]at h
  split at h
  ·rename_i y hy
   cases h
   exact⟨c,hc,hy⟩
  ·split at h
   ·rename_i c' hc'
    exact ih (hc.next hc').1 h
   ·cases h
theorem rgo_none{rows:List Rw}{costs:List Int}(hL:0<rows.length):∀{f:Nat} {c:List Int},Val (costs.length-1) (rows.length:Int) c→mC (costs.length-1) (rows.length:Int) c<f→M.rgo rows costs f c=none →
  ∀e,Val (costs.length-1) (rows.length:Int) e→c=e∨Lx (costs.length-1) c e→M.rat rows costs e=none:=by
 intro f
 induction f with
 |zero=>intro c _ h;omega
 |succ f ih=>
  intro c hc hm h e he hce
  simp only[M.rgo]at h
  split at h
  ·cases h
  ·rename_i hn
   rcases hce with rfl|hx
   ·exact hn
   ·obtain⟨c',h1,h2⟩:=next_succ hc he hx
    rw[h1]at h
    obtain⟨v1,v2⟩:=hc.next h1
    have:=mC_lt (by omega) hc v1 v2
    exact ih v1 (by omega) h e he h2
theorem rbest_some{rows:List Rw}{costs:List Int}(hL:costs.length≤rows.length)(hn:1≤costs.length){x:RC}(h:M.rbest rows costs=some x):∃e,Val (costs.length-1) (rows.length:Int) e∧M.rat rows costs e=some x:=
 rgo_some (initC_val (by omega)) h
theorem mC_fuel{rows:List Rw}{costs:List Int}(hL:costs.length≤rows.length)(hn:1≤costs.length):mC (costs.length-1) (rows.length:Int) (M.initC (costs.length-1))<rows.length^(costs.length-1)+1:=by
 have hb:=rk_bound (L:=(rows.length:Int)) (by omega) (initC_val (d:=costs.length-1) (L:=(rows.length:Int)) (by omega)).ent _ (Nat.le_refl _)
 unfold mC
 have:((rows.length^(costs.length-1):Nat):Int)=(rows.length:Int)^(costs.length-1):=by simp
 omega
theorem rbest_none{rows:List Rw}{costs:List Int}(hL:costs.length≤rows.length)(hn:1≤costs.length)(h:M.rbest rows costs=none):∀e,Val (costs.length-1) (rows.length:Int) e→M.rat rows costs e=none:=
 fun e he=>rgo_none (by omega) (initC_val (by omega)) (mC_fuel hL hn) h e he (initC_least he)
end Go.Bl
end
section
set_option maxRecDepth 100000
namespace Go.Bl
open Go.V Go.Proofs
theorem rowT2_wp{α:Type}{d:Nat}{rows:List Rw}{ch:List Int}{K:XA→T (XA ⊕ α)}{Q:α→Prop}(hcd:ch.length=d)(h0:0<rows.length)(hc:ch.length≤1000)(hi:∀v,v∈ch→0≤v∧v<(rows.length:Int))
  (hK:∀x:XA,x.2.1=M.rmat rows ch→x.2.2.1=M.rright rows ch→(K x).wp (Out Q)):(rowT2 d rows ch K).wp Q:=by
 subst hcd
 have o1:=rowR_one false (rows.getD (Int.toNat 0) eRw.dflt).1
 have o2:=int_one (rows.getD (Int.toNat 0) eRw.dflt).2
 refine⟨Int.le_refl _,by omega,Int.le_refl _,by omega,o1.1,o2.1,?_⟩
 refine⟨fun x=>∃k:Nat,k≤ch.length∧x.1=(k:Int)∧x.2.1=M.rmat rows (ch.take k)∧x.2.2.1=M.rright rows (ch.take k),fun x=>ch.length-x.1.toNat,⟨0,Nat.zero_le _,rfl,o1.2,o2.2⟩,?_⟩
 rintro ⟨x,a,b,u⟩ ⟨k,hk,hx,ha,hb'⟩
 simp only at hx ha hb'
 subst hx ha hb'
 have hla:(M.rmat rows (ch.take k)).length=k+1:=by simp[M.rmat,Nat.min_eq_left hk]
 have hlb:(M.rright rows (ch.take k)).length=k+1:=by simp[M.rright,Nat.min_eq_left hk]
 refine⟨fun hb=>?_,fun hb=>?_⟩
 ·have hlt:=lt_of_dec hb
  have hm:=hi _ (getD_in (d:=0) hlt)
  have p1:=rowR_push (M.rmat rows (ch.take k)) false (rows.getD (ch.getD k 0).toNat eRw.dflt).1
  have p2:=one_push (M.rright rows (ch.take k)) (rows.getD (ch.getD k 0).toNat eRw.dflt).2
  refine⟨by show(0:Int)≤k;omega,by show(k:Int)<ch.length;omega,hlt,hm.1,hm.2,by show(M.rmat rows (ch.take k)).length+1≤1000000;omega,Nat.le_refl _,by show(0:Int)≤k;omega,by show(k:Int)<ch.length;omega,hlt,hm.1,hm.2,by show(M.rright rows (ch.take k)).length+1≤1000000;omega,Nat.le_refl _,
   p1.1,Nat.le_refl _,p2.1,Nat.le_refl _,⟨k+1,by omega,w64_succ (by omega),?_,?_⟩,?_⟩
  ·rw[take_push (d:=0) hlt]
   refine p1.2.trans ?_
   unfold M.rmat
   rw[List.map_append];rfl
  ·rw[take_push (d:=0) hlt]
   refine p2.2.trans ?_
   unfold M.rright
   rw[List.map_append];rfl
  ·show ch.length-(w64 ((k:Int)+1)).toNat<ch.length-(k:Int).toNat
   rw[w64_succ (by omega)];omega
 ·have hge:=ge_of_dec hb
  obtain rfl:k=ch.length:=by omega
  rw[List.take_length]
  exact Out.loop (hK _ rfl rfl)
theorem holdT2_wp{α:Type}{rows:List Rw}{v:List Int}{den:Int}{no:T ((Int×Int×PUnit) ⊕ (XZ ⊕ α))}{K:XZ→T (XZ ⊕ α)}{Q:α→Prop}(hr:rows.length≤1000)(hv:v.length≤1000)(hl:∀r,r∈rows→v.length≤r.co.length)
  (h0:M.rkeeps v den rows=false→no.wp (Out (Out Q))) (hK:M.rkeeps v den rows=true→∀x:XZ,(K x).wp (Out Q)):(holdT2 rows v den no K).wp Q:=by
 refine⟨fun i j hi=>absurd hi (Nat.not_lt_zero i),fun i j hi=>absurd hi (Nat.not_lt_zero i),fun x=>∃k:Nat,k≤rows.length∧x.1=(k:Int)∧M.rkeeps v den rows=M.rkeeps v den (rows.drop k),fun x=>rows.length-x.1.toNat,⟨0,Nat.zero_le _,rfl,by simp⟩,?_⟩
 rintro ⟨x,st⟩ ⟨k,hk,hx,ha⟩
 simp only at hx ha
 subst hx
 refine⟨fun hb=>?_,fun hb=>?_⟩
 ·have hlt:=lt_of_dec hb
  have hmem:=getD_in (d:=eRw.dflt) hlt
  have hc:M.rkeeps v den rows=cond (decide (M.dot (rows.getD k eRw.dflt).co v 0<w64 ((rows.getD k eRw.dflt).le*den))) false (M.rkeeps v den (rows.drop (k+1))):=by
   rw[ha,getD_drop (d:=eRw.dflt) hlt];rfl
  refine dotT_wp hlt hv (hl _ hmem) fun y hy=>?_
  refine⟨by show(0:Int)≤k;omega,by show(k:Int)<rows.length;omega,fun h1=>?_,fun h1=>?_⟩
  ·have h1:decide (y.2.1<w64 ((rows.getD k eRw.dflt).le*den))=true:=h1
   rw[hy]at h1
   rw[h1]at hc
   refine T.wp_mono ?_ (h0 hc)
   intro r hr'
   match r,hr' with
   |.inr (.inr a),ha=>exact ha
  ·have h1:decide (y.2.1<w64 ((rows.getD k eRw.dflt).le*den))=false:=h1
   rw[hy]at h1
   rw[h1]at hc
   refine⟨Enc.is_F _ _ _,Enc.is_F _ _ _,⟨k+1,by omega,w64_succ (by omega),hc⟩,?_⟩
   show rows.length-(w64 ((k:Int)+1)).toNat<rows.length-(k:Int).toNat
   rw[w64_succ (by omega)];omega
 ·have hge:=ge_of_dec hb
  obtain rfl:k=rows.length:=by omega
  refine Out.loop (hK ?_ _)
  rw[ha,List.drop_of_length_le (Nat.le_refl _)];rfl
theorem wtT2_wp{α:Type}{d:Nat}{L:Nat}{ch v:List Int}{x0:XZ}{p:List Int}{pd wd:Int}{no:T (XW ⊕ α)}{yes:XW→T (XW ⊕ α)}{Q:α→Prop}(hcd:ch.length=d)(hL0:0<L)(hL:L≤1000)(hv:v.length=ch.length+1)(hc:ch.length≤1000)(hi:∀v,v∈ch→0≤v∧v<(L:Int))
  (h0:M.rnn v ch.length=false→no.wp (Out Q)) (h1:M.rnn v ch.length=true→∀x:XW,x.2.1=p→x.2.2.1=pd→x.2.2.2.1=M.rwts L ch v→x.2.2.2.2.1=wd→(yes x).wp (Out Q)):(wtT2 d (L:Int) ch v x0 p pd wd no yes).wp Q:=by
 subst hcd
 have z:=zeros_put L (v.getD 0 0) hL0
 refine⟨by omega,by omega,by omega,by omega,by omega,by omega,by simp;omega,by simp;omega,Enc.is_F _ _ _,by rw[Int.toNat_natCast];exact z.1,Nat.le_refl _,Enc.is_F _ _ _,Enc.is_F _ _ _,?_⟩
 refine⟨fun x=>∃k:Nat,k≤ch.length∧x.1=(k:Int)∧x.2.1=p∧x.2.2.1=pd∧x.2.2.2.1=M.rwtsK L ch v k∧x.2.2.2.2.1=wd∧M.rnn v k=true,fun x=>ch.length-x.1.toNat,⟨0,Nat.zero_le _,rfl,Enc.list_F _ _,rfl,by rw[Int.toNat_natCast];exact z.2,rfl,rfl⟩,?_⟩
 rintro ⟨x,a,b,c,d,st⟩ ⟨k,hk,hx,ha,hb',hc',hd,hn⟩
 simp only at hx ha hb' hc' hd
 subst hx ha hb' hc' hd
 have hlc:=rwtsK_len (L:=L) (ch:=ch) (y:=v) k
 have e2:w64 ((k:Int)+1)=((k+1:Nat):Int):=w64_succ (by omega)
 refine⟨fun hb=>?_,fun hb=>?_⟩
 ·have hlt:=lt_of_dec hb
  have hm:=hi _ (getD_in (d:=0) hlt)
  simp only[e2,Int.toNat_natCast]
  refine⟨by omega,by omega,fun g=>?_,fun g=>?_⟩
  ·have g:decide (v.getD (k+1) 0<0)=true:=g
   have g:=of_decide_eq_true g
   refine Out.loop (h0 ?_)
   rw[Bool.eq_false_iff]
   intro hf
   have:=rnn_le (show k+1≤ch.length by omega) hf
   rw[rnn_succ,Bool.and_eq_true]at this
   have:=of_decide_eq_true this.2
   omega
  ·have g:decide (v.getD (k+1) 0<0)=false:=g
   have g:=of_decide_eq_false g
   have pi:=put_int (l:=M.rwtsK L ch v k) (i:=(ch.getD k 0).toNat) (b:=v.getD (k+1) 0) (by omega)
   refine⟨by omega,by omega,hlt,by omega,by omega,hm.1,by omega,by omega,Enc.is_F _ _ _,pi.1,Nat.le_refl _,Enc.is_F _ _ _,Enc.is_F _ _ _,⟨k+1,by omega,rfl,Enc.list_F _ _,rfl,?_,rfl,?_⟩,?_⟩
   ·refine pi.2.trans ?_
    unfold M.rwtsK
    rw[foldl_succ]
   ·rw[rnn_succ,hn,Bool.true_and]
    exact decide_eq_true (by omega)
   ·show ch.length-((k+1:Nat):Int).toNat<ch.length-(k:Int).toNat
    omega
 ·have hge:=ge_of_dec hb
  obtain rfl:k=ch.length:=by omega
  exact⟨Nat.le_refl _,Out.loop (h1 hn _ rfl rfl rfl rfl)⟩
theorem nd3_all{d k:Nat}(h:k<d):All (nd3 d k):=⟨by omega,by omega,h,trivial⟩
theorem put_isl{d j:Nat}{v:Int}{F:Nat→Nat→D}{l:List Int}(h1:eI.Is d F)(h2:eI.list d F=l)(hj:j<d):eI.Is d (putF j 0 1 [dI v] F)∧eI.list d (putF j 0 1 [dI v] F)=l.set j v:=by
 have key:∀k,k≠j→putF j 0 1 [dI v] F k=F k:=by
  intro k hk
  funext q
  unfold putF
  have:Nat.beq k j=false:=by rw[←Bool.not_eq_true,Nat.beq_eq];exact hk
  rw[this,Bool.false_and]
 have key2:putF j 0 1 [dI v] F j 0=dI v:=by
  unfold putF
  have:(Nat.beq j j&&(Nat.ble 0 0&&Nat.blt 0 (0+1)))=true:=by simp
  rw[this];rfl
 constructor
 ·intro i q hi hq
  by_cases e:i=j
  ·subst e
   obtain rfl:q=0:=Nat.lt_one_iff.1 hq
   have e2:eI.rd (putF i 0 1 [dI v] F i)=v:=by show rdI (putF i 0 1 [dI v] F i) 0=v;unfold rdI;rw[key2]
   rw[e2,key2]
   exact D.eqv_refl _
  ·rw[key i e];exact h1 i q hi hq
 ·subst h2
  refine List.ext_getElem (by simp[Enc.list]) fun i g1 g2=>?_
  have hi:i<d:=by simpa[Enc.list]using g1
  rw[List.getElem_set]
  simp only[Enc.list,List.getElem_map,List.getElem_range]
  by_cases e:i=j
  ·subst e
   rw[if_pos rfl]
   show rdI (putF i 0 1 [dI v] F i) 0=v
   unfold rdI;rw[key2]
  ·rw[if_neg (Ne.symm e),key i e]
theorem get_set{l:List Int}{i j:Nat}{v:Int}(hj:j<l.length):(l.set j v).getD i 0=if i=j then v else l.getD i 0:=by
 rw[List.getD_eq_getElem?_getD,List.getElem?_set]
 by_cases h:i=j
 ·subst h;simp[hj]
 ·rw[if_neg h,if_neg (Ne.symm h),←List.getD_eq_getElem?_getD]
theorem putT_wp{γ:Type}{d:Nat}{x:GX}{f:GX ⊕ List Ar→γ}{R:γ→Prop}{c:List Int}(hR:∀y:GX,y.1=c→R (f (.inl y)))(hc:c.length=d):∀(r j:Nat) (v:Int) (F:Nat→Nat→D) (l:List Int),eI.Is d F→eI.list d F=l→j+r=d→1≤j→0≤v→v≤100000-(r:Int) →
  (∀i,i<j→l.getD i 0=c.getD i 0)→(∀i,j≤i→i<d→c.getD i 0=v+1+((i-j:Nat):Int))→(putT d x f r j v F).wp R:=by
 intro r
 induction r with
 |zero=>
  intro j v F l hF hl hj _ _ _ h1 _
  have hld:l.length=d:=by rw[←hl];exact Enc.list_len _
  have e:l=c:=List.ext_getElem (by omega) fun i g1 g2=>by
   have:=h1 i (by omega)
   simpa[g1,g2]using this
  exact⟨hF,Nat.le_refl _,Enc.is_F _ _ _,Enc.is_F _ _ _,hR _ (hl.trans e)⟩
 |succ r ih=>
  intro j v F l hF hl hj j1 v0 v1 h1 h2
  have hld:l.length=d:=by rw[←hl];exact Enc.list_len _
  have hw:w64 (v+1)=v+1:=wrap_id (by omega) (by omega)
  have hjl:j<l.length:=by omega
  refine T.needs_wp (All.append.2 ⟨nd3_all (by omega),nd3_all (by omega)⟩) ?_
  rw[hw]
  have pi:=put_isl (v:=v+1) hF hl (show j<d by omega)
  refine ih (j+1) (v+1) _ _ pi.1 pi.2 (by omega) (by omega) (by omega) (by omega) (fun i hi=>?_) (fun i g1 g2=>?_)
  ·rw[get_set hjl]
   by_cases e:i=j
   ·subst e
    rw[if_pos rfl,h2 i (Nat.le_refl _) (by omega)];omega
   ·rw[if_neg e];exact h1 i (by omega)
  ·rw[h2 i (by omega) g2];omega
theorem nextT_wp{γ:Type}{d L:Nat}{x:GX}{f:GX ⊕ List Ar→γ}{R:γ→Prop}(hL:L≤1000)(hv:Val d (L:Int) x.1)(hd:d≤L)(hn:M.nextC d (L:Int) x.1=none→R (f (.inr zR)))(hs:∀c,M.nextC d (L:Int) x.1=some c→∀y:GX,y.1=c→R (f (.inl y))) :
  ∀n,n≤d→M.lastK d (L:Int) x.1 n=M.lastK d (L:Int) x.1 d→(nextT d (L:Int) x f n).wp R:=by
 have hw:w64 ((L:Int)-d)=(L:Int)-d:=wrap_id (by omega) (by omega)
 intro n
 induction n with
 |zero=>
  intro _ h
  refine hn ?_
  unfold M.nextC
  rw[←h];rfl
 |succ n ih=>
  intro hnd h
  have hw2:w64 ((L:Int)-d+n)=(L:Int)-d+n:=wrap_id (by omega) (by omega)
  refine T.needs_wp (nd3_all (by omega)) ⟨fun hb=>?_,fun hb=>?_⟩
  ·rw[hw,hw2]at hb
   refine ih (by omega) ?_
   rw[←h]
   show _=cond (x.1.getD n 0==(L:Int)-d+n) _ _
   rw[hb];rfl
  ·rw[hw,hw2]at hb
   have hk:M.nextC d (L:Int) x.1=some (M.bump d n x.1):=by
    unfold M.nextC
    rw[←h]
    show Option.map _ (cond (x.1.getD n 0==(L:Int)-d+n) _ _)=_
    rw[hb];rfl
   have hne:x.1.getD n 0≠(L:Int)-d+n:=by intro e;rw[e,beq_self_eq_true]at hb;cases hb
   have hlo:=hv.lo n (by omega)
   have hhi:=hv.hi n (by omega)
   have hw3:w64 (x.1.getD n 0+1)=x.1.getD n 0+1:=wrap_id (by omega) (by omega)
   refine T.needs_wp (All.append.2 ⟨nd3_all (by omega),nd3_all (by omega)⟩) ?_
   rw[hw3]
   have hlen:=hv.len
   have hF:eI.Is d (eI.F x.1)∧eI.list d (eI.F x.1)=x.1:=by rw[←hlen];exact⟨Enc.is_F _ _ _,Enc.list_F _ _⟩
   have pi:=put_isl (v:=x.1.getD n 0+1) hF.1 hF.2 (show n<d by omega)
   refine putT_wp (hs _ hk) (bump_len hlen (by omega)) (d-(n+1)) (n+1) _ _ _ pi.1 pi.2 (by omega) (by omega) (by omega) (by omega) (fun i hi=>?_) (fun i g1 g2=>?_)
   ·rw[get_set (by omega)]
    by_cases e:i=n
    ·subst e
     rw[if_pos rfl,bump_ge hlen (by omega) (Nat.le_refl _) (by omega)];simp
    ·rw[if_neg e,bump_lt hlen (by omega) (by omega)]
   ·rw[bump_ge hlen (by omega) (by omega) g2];omega
structure BOK(B:Nat)(rows:List Rw)(costs:List Int):Prop where
 n1:1≤costs.length
 nB:costs.length≤B
 n5:costs.length≤5
 rn:costs.length≤rows.length
 rL:rows.length≤1000
 rc:∀r,r∈rows→r.co.length=costs.length
 tu:∀ch:List Int,ch.length+1=costs.length→(∀v,v∈ch→0≤v∧v<(rows.length:Int))→M.rdn (M.rmat rows ch) (M.rright rows ch)≠0→(M.rsl (M.turned (M.rmat rows ch)) costs).length=costs.length
theorem BOK.at{B:Nat}{rows:List Rw}{costs:List Int}(h:BOK B rows costs){c:List Int}(hc:Val (costs.length-1) (rows.length:Int) c):AtOK B rows costs c:=by
 have h1:=h.n1
 have hl:=hc.len
 have hi:∀v,v∈c→0≤v∧v<(rows.length:Int):=by
  intro v hv
  obtain⟨i,hi,rfl⟩:=List.getElem_of_mem hv
  have:=hc.ent i (by omega)
  simpa[hi]using this
 exact⟨by omega,h.nB,h.n5,by have:=h.rn;omega,h.rL,h.rc,hi,h.tu c (by omega) hi⟩
theorem w70{B d:Nat}{rows:List Rw}{costs:List Int}(h:BOK B rows costs)(hd:costs.length=d+1){pre:List Prop}{F0:Nat→Nat→D}(hp:All pre)(hF:eI.Is d F0)(hF2:eI.list d F0=M.initC d):(tr70 B d rows costs pre F0).wp (fun rs=>rsEqv rs (resRC (M.rbest rows costs))):=by
 have hdd:costs.length-1=d:=by omega
 have hrL:=h.rL
 have hrn:=h.rn
 have hnB:=h.nB
 have hn5:=h.n5
 have hL:(0:Int)<(rows.length:Int):=by omega
 refine T.needs_wp hp ⟨hF,Nat.le_refl _,(fun i j hi=>absurd hi (Nat.not_lt_zero i)),(fun i j hi=>absurd hi (Nat.not_lt_zero i)),?_⟩
 refine⟨fun x=>Val d (rows.length:Int) x.1∧∃f,mC d (rows.length:Int) x.1<f∧M.rgo rows costs f x.1=M.rbest rows costs,fun x=>mC d (rows.length:Int) x.1,⟨?_,?_⟩,?_⟩
 ·show Val d _ (eI.list d F0)
  rw[hF2];exact initC_val (by omega)
 ·refine⟨rows.length^(costs.length-1)+1,?_,?_⟩
  ·show mC d _ (eI.list d F0)<_
   rw[hF2,←hdd];exact mC_fuel hrn h.n1
  ·show M.rgo _ _ _ (eI.list d F0)=_
   rw[hF2,←hdd];rfl
 rintro x ⟨hv,f,hf,hg⟩
 have hat:=h.at (by rw[hdd];exact hv)
 obtain⟨hl,hr,hb⟩:=rmat_len hat
 have hcl:=hv.len
 have hci:=hat.ci
 have hno:∀{γ:Type} (g:GX ⊕ List Ar→γ) (R:γ→Prop),(∀o,LoopP (fun x:GX=>Val d (rows.length:Int) x.1∧∃f,mC d (rows.length:Int) x.1<f∧M.rgo rows costs f x.1=M.rbest rows costs) (fun x=>mC d (rows.length:Int) x.1) (mC d (rows.length:Int) x.1) (fun rs=>rsEqv rs (resRC (M.rbest rows costs))) o→R (g o))→M.rat rows costs x.1=none→(nextT d (rows.length:Int) x g d).wp R:=by
  intro γ g R hR hn
  obtain⟨f',rfl⟩:∃f',f=f'+1:=⟨f-1,by omega⟩
  simp only[M.rgo]at hg
  rw[hn]at hg
  simp only[hdd]at hg
  refine nextT_wp hrL hv (by omega) (fun he=>hR _ ?_) (fun c hc y hy=>hR _ ?_) d (Nat.le_refl _) rfl
  ·rw[he]at hg
   show rsEqv zR _
   rw[←hg]
   exact zR_none
  ·rw[hc]at hg
   obtain⟨v1,v2⟩:=hv.next hc
   have:=mC_lt hL hv v1 v2
   refine⟨⟨by rw[hy];exact v1,f',by rw[hy];omega,by rw[hy];exact hg⟩,by show mC d _ y.1<_;rw[hy];exact this⟩
 have hyes:∀{v:RC},M.rat rows costs x.1=some v→M.rbest rows costs=some v:=by
  intro v hx
  obtain⟨f',rfl⟩:∃f',f=f'+1:=⟨f-1,by omega⟩
  simp only[M.rgo]at hg
  rw[hx]at hg
  exact hg.symm
 refine rowT2_wp hcl (by omega) (by omega) hci fun z hz1 hz2=>?_
 rw[hz1,hz2]
 simp only[Enc.list_F]
 refine⟨Nat.le_refl _,Nat.le_refl _,Enc.is_F _ _ _,Enc.is_F _ _ _,by omega,by omega,by omega,fun r hr'=>by rw[hr r hr',hl],fun hq=>?_,fun hq=>?_⟩
 ·refine hno _ _ ?_ ?_
  ·exact fun o ho=>ho
  unfold M.rat;rw[hq];rfl
 have hd0:M.rdn (M.rmat rows x.1) (M.rright rows x.1)≠0:=by intro e;rw[e]at hq;exact absurd hq (by decide)
 have hsl:=rsl_len hd0
 have htu:=hat.tu hd0
 refine holdT2_wp hrL (by omega) (fun r hr'=>by rw[h.rc r hr'];omega) (fun hk=>?_) (fun hk w=>?_)
 ·refine hno _ _ ?_ ?_
  ·exact fun o ho=>ho
  unfold M.rat;rw[hq,hk];rfl
 refine turnT_wp (by omega) (by omega) (fun r hr'=>by rw[hr r hr'];omega) fun y hy=>?_
 obtain⟨tl1,tl2⟩:=turned_len (m:=M.rmat rows x.1)
 have hcF:eI.Is (d+1) (eI.F costs)∧eI.list (d+1) (eI.F costs)=costs:=by rw[←hd];exact⟨Enc.is_F _ _ _,Enc.list_F _ _⟩
 rw[hy,hcF.2]
 refine⟨Nat.le_refl _,Enc.is_F _ _ _,hcF.1,by omega,by omega,by omega,fun r hr'=>by rw[tl2 r hr',tl1],?_⟩
 refine wtT2_wp hcl (by omega) hrL (by omega) (by omega) hci (fun hw=>?_) (fun hw v h1 h2 h3 h4=>?_)
 ·refine hno _ _ ?_ ?_
  ·exact fun o ho=>ho
  unfold M.rat;rw[hq,hk,hw];rfl
 ·have hs:M.rat rows costs x.1=some ⟨M.rsl (M.rmat rows x.1) (M.rright rows x.1),M.rdn (M.rmat rows x.1) (M.rright rows x.1),M.rwts rows.length x.1 (M.rsl (M.turned (M.rmat rows x.1)) costs),M.rdn (M.turned (M.rmat rows x.1)) costs⟩:=by unfold M.rat;rw[hq,hk,hw];rfl
  show rsEqv (endW v) _
  rw[hyes hs]
  unfold endW
  rw[h1,h2,h3,h4]
  exact⟨⟨D.eqv_refl _,rfl,⟨(fun e=>by cases e),rfl,fun _=>rfl,fun _ _ _ _=>D.eqv_refl _⟩,rfl,trivial⟩,rfl,trivial⟩
end Go.Bl
end
section
set_option maxRecDepth 100000
namespace Go.Bl
open Go.V Go.Proofs
theorem t70_5(B:Nat)(q q2:Bool)(rows:List Rw)(r0 r1 r2 r3 r4:Int):runFnX Try.prog G0 (lookS [v143g B]) (fun f=>match Nat.beq f 120 with|true=>[(3,[.slot 10 (.int .i64),.slot 8 (.rowE 31 eR),.slot 9 (.rowE 3 eI)],none),(10,[.slot 13 (.int .i64),.blk 6 [.imE eI,.int .i64,.imE eI,.int .i64]],none),(14,[.slot 15 (.int .i64),.slot 14 (.int .i64)],none),(21,[.slot 17 (.int .i64),.slot 16 .nsl],some [.slot 17 (.int .i64),.slot 16 (.rowE 31 eR)]),(25,[.slot 19 (.int .i64),.slot 18 .nsl],some [.slot 19 (.int .i64),.slot 18 (.rowE 3 eI)]),(33,[.slot 23 (.int .i64),.blk 22 [.imE eI,.int .i64,.rowE 3 eI,.int .i64],.blk 6 [.imE eI,.int .i64,.imE eI,.int .i64]],none),(8000021,[],none),(8000025,[],none)]|false=>[(1000015,[],none),(1000035,[],none),(1000053,[],none),(1000068,[],none),(3000014,[],none),(3000017,[],none),(3000033,[],none),(3000051,[],none),(3000067,[],none),(3000064,[],none),(3000070,[],none),(3000075,[],none),(6,[.slot 6 (.rowN 3 eI 4),.blk 4 [.imE eI,.int .i64,.imE eI,.int .i64]],none)]) [120] 1 60 6 70 Try.f70 [.c (.sl q rows.length 2 (eRw.F rows)),.c (.sl q2 5 1 (eI.F [r0,r1,r2,r3,r4]))] =
  tr70 B 4 rows [r0,r1,r2,r3,r4] (pre70 4) (initF 4):=by kernel_rfl
end Go.Bl
end
section
set_option maxRecDepth 100000
namespace Go.Bl
open Go.V Go.Proofs
def tr70_1(B:Nat)(rows:List Rw)(costs:List Int):T (List Ar):=
 T.needs [eI.Is 0 nF,eI.Is 0 nF] (.loop (PUnit×List Int×Int×List Int×Int×PUnit) (PUnit.unit,eI.list 0 nF,0,eI.list 0 nF,0,PUnit.unit) fun _=>
  T.needs [eRw.Is rows.length (eRw.F rows),eI.Is 1 (eI.F costs),eI.Is 0 nF,AtOK B (eRw.list rows.length (eRw.F rows)) (eI.list 1 (eI.F costs)) (eI.list 0 nF)]
   (.br (M.rat (eRw.list rows.length (eRw.F rows)) (eI.list 1 (eI.F costs)) (eI.list 0 nF)).isSome
    (.ret (.inr [(resRC (M.rat (eRw.list rows.length (eRw.F rows)) (eI.list 1 (eI.F costs)) (eI.list 0 nF))).headD (rB true),rB true])) (.ret (.inr zR))))
theorem t70_1(B:Nat)(q q2:Bool)(rows:List Rw)(r0:Int):runFnX Try.prog G0 (lookS [v120z B]) (fun _=>[(1000015,[],none),(1000035,[],none),(1000053,[],none),(1000068,[],none),(3000014,[],none),(3000017,[],none),(3000033,[],none),(3000051,[],none),(3000067,[],none),(3000064,[],none),(3000070,[],none),(3000075,[],none),(6,[.slot 6 .nsl,.blk 4 [.imE eI,.int .i64,.imE eI,.int .i64]],none)]) [] 1 60 6 70 Try.f70 [.c (.sl q rows.length 2 (eRw.F rows)),.c (.sl q2 1 1 (eI.F [r0]))] =
  tr70_1 B rows [r0]:=by kernel_rfl
theorem w70_1{B:Nat}{rows:List Rw}{costs:List Int}(h:BOK B rows costs)(hd:costs.length=1):(tr70_1 B rows costs).wp (fun rs=>rsEqv rs (resRC (M.rbest rows costs))):=by
 have hv:Val (costs.length-1) (rows.length:Int) []:=by
  rw[hd]
  exact⟨rfl,fun k hk=>absurd hk (Nat.not_lt_zero k),fun k hk=>absurd hk (Nat.not_lt_zero k),fun k hk=>absurd hk (Nat.not_lt_zero _)⟩
 have hat:=h.at hv
 have e1:eI.list 1 (eI.F costs)=costs:=by rw[←hd];exact Enc.list_F _ _
 have e2:eI.Is 1 (eI.F costs):=by rw[←hd];exact Enc.is_F _ _ _
 have e0:eI.list 0 nF=[]:=rfl
 have hb:M.rbest rows costs=M.rat rows costs []:=by
  unfold M.rbest
  rw[hd]
  show M.rgo rows costs (rows.length^0+1) []=_
  rw[Nat.pow_zero]
  unfold M.rgo
  cases hr:M.rat rows costs []with
  |some x=>rfl
  |none=>
   rw[hd]
   rfl
 unfold tr70_1
 simp only[Enc.list_F,e1,e0]
 refine⟨(fun i j hi=>absurd hi (Nat.not_lt_zero i)),(fun i j hi=>absurd hi (Nat.not_lt_zero i)),fun _=>True,fun _=>0,trivial,fun _ _=>?_⟩
 refine⟨Enc.is_F _ _ _,e2,(fun i j hi=>absurd hi (Nat.not_lt_zero i)),hat,fun hs=>?_,fun hs=>?_⟩
 ·show rsEqv _ _
  rw[hb]
  cases hr:M.rat rows costs []with
  |none=>rw[hr]at hs;cases hs
  |some x=>exact rsEqv_refl _
 ·show rsEqv zR _
  rw[hb]
  cases hr:M.rat rows costs []with
  |none=>exact zR_none
  |some x=>rw[hr]at hs;cases hs
theorem pre70_all:∀k,k≤4→All (pre70 k)
 |0,_=>trivial
 |1,_=>⟨by decide,trivial⟩
 |2,_=>⟨by decide,by decide,by decide,trivial⟩
 |3,_=>⟨by decide,by decide,by decide,by decide,by decide,trivial⟩
 |4,_=>⟨by decide,by decide,by decide,by decide,by decide,by decide,by decide,trivial⟩
 |n+5,h=>absurd h (by omega)
theorem initF_spec:∀k,eI.Is k (initF k)∧eI.list k (initF k)=M.initC k:=by
 intro k
 induction k with
 |zero=>exact⟨fun i j hi=>absurd hi (Nat.not_lt_zero i),rfl⟩
 |succ k ih=>
  have hl:∀i,i<k→initF (k+1) i=initF k i:=by
   intro i hi
   funext j
   show joinF k (initF k) (oneF ((k+1:Nat):Int)) i j=_
   unfold joinF
   rw[show Nat.blt i k=true from by rw[Nat.blt_eq];exact hi]
  have hk:initF (k+1) k 0=dI ((k:Int)+1):=by
   show joinF k (initF k) (oneF ((k+1:Nat):Int)) k 0=_
   unfold joinF
   rw[show Nat.blt k k=false from by rw[←Bool.not_eq_true,Nat.blt_eq];omega,Nat.sub_self]
   rfl
  constructor
  ·intro i j hi hj
   obtain rfl:j=0:=Nat.lt_one_iff.1 hj
   by_cases e:i=k
   ·subst e
    have:eI.rd (initF (i+1) i)=(i:Int)+1:=by show rdI (initF (i+1) i) 0=_;unfold rdI;rw[hk]
    rw[this,hk]
    exact D.eqv_refl _
   ·rw[hl i (by omega)]
    exact ih.1 i 0 (by omega) hj
  ·unfold Enc.list M.initC
   rw[List.range_succ,List.map_append,List.map_append]
   congr 1
   ·rw[show(List.range k).map (fun i=>eI.rd (initF (k+1) i))=(List.range k).map (fun i=>eI.rd (initF k i))from List.map_congr_left fun i hi=>by rw[hl i (List.mem_range.1 hi)]]
    exact ih.2
   ·show[rdI (initF (k+1) k) 0]=_
    unfold rdI;rw[hk];rfl
def dom70z(B:Nat):DomF
 |[.c (.sl _ n_rows st_rows F_rows),.c (.sl _ n_costs st_costs F_costs)]=>(match Nat.beq st_rows 2&&Nat.beq st_costs 1 with
  |true=>some ([eRw.Is n_rows F_rows,eI.Is n_costs F_costs,BOK B (eRw.list n_rows F_rows) (eI.list n_costs F_costs)],resRC (M.rbest (eRw.list n_rows F_rows) (eI.list n_costs F_costs)))
  |_=>none)
 |_=>none
def v70z(B:Nat):Nat×Sm:=(70,fokSm (dom70z B))
theorem C70z{B:Nat}(hS:SumOK Try.prog G0 gw 143 (fokSm (dom143g B))):FOK Try.prog G0 gw 70 (dom70z B):=by
 intro ags p r hd hp κ w xs hw hl hG hx
 unfold dom70z at hd
 split at hd
 ·rename_i q_rows n_rows st_rows F_rows q_costs n_costs st_costs F_costs
  split at hd
  ·rename_i hst
   rw[Bool.and_eq_true]at hst
   obtain⟨g1,g2⟩:=hst
   have g1:=Nat.eq_of_beq_eq_true g1
   have g2:=Nat.eq_of_beq_eq_true g2
   subst g1 g2
   simp only[Option.some.injEq,Prod.mk.injEq]at hd
   obtain⟨rfl,rfl⟩:=hd
   obtain⟨hI_rows,hI_costs,hp⟩:=hp
   have heq:agsEqv [.c (.sl q_rows n_rows 2 F_rows),.c (.sl q_costs n_costs 1 F_costs)] [.c (.sl q_rows (eRw.list n_rows F_rows).length 2 (eRw.F (eRw.list n_rows F_rows))),.c (.sl q_costs (eI.list n_costs F_costs).length 1 (eI.F (eI.list n_costs F_costs)))]:=⟨eRw.to id hI_rows,eI.to id hI_costs,trivial⟩
   have len_rows:(eRw.list n_rows F_rows).length=n_rows:=eRw.list_len
   have len_costs:(eI.list n_costs F_costs).length=n_costs:=eI.list_len
   generalize eRw.list n_rows F_rows=rows at *
   generalize eI.list n_costs F_costs=costs at *
   subst len_rows len_costs
   have hb:=hp.1
   match costs,hb.n1,hb.n5 with
   |[r0],_,_=>exact fokX_fin mixed gw_stable (sl:=[v120z B]) ⟨S120z hS,trivial⟩ Try.func70 hw hl hG hx heq rfl (t70_1 B _ _ rows r0) (w70_1 hb rfl)
   |[r0,r1],_,_=>exact fokX_fin mixed gw_stable (sl:=[v143g B]) ⟨hS,trivial⟩ Try.func70 hw hl hG hx heq rfl (t70_2 B _ _ rows r0 r1) (w70 hb rfl (pre70_all 1 (by decide)) (initF_spec 1).1 (initF_spec 1).2)
   |[r0,r1,r2],_,_=>exact fokX_fin mixed gw_stable (sl:=[v143g B]) ⟨hS,trivial⟩ Try.func70 hw hl hG hx heq rfl (t70_3 B _ _ rows r0 r1 r2) (w70 hb rfl (pre70_all 2 (by decide)) (initF_spec 2).1 (initF_spec 2).2)
   |[r0,r1,r2,r3],_,_=>exact fokX_fin mixed gw_stable (sl:=[v143g B]) ⟨hS,trivial⟩ Try.func70 hw hl hG hx heq rfl (t70_4 B _ _ rows r0 r1 r2 r3) (w70 hb rfl (pre70_all 3 (by decide)) (initF_spec 3).1 (initF_spec 3).2)
   |[r0,r1,r2,r3,r4],_,_=>exact fokX_fin mixed gw_stable (sl:=[v143g B]) ⟨hS,trivial⟩ Try.func70 hw hl hG hx heq rfl (t70_5 B _ _ rows r0 r1 r2 r3 r4) (w70 hb rfl (pre70_all 4 (by decide)) (initF_spec 4).1 (initF_spec 4).2)
   |r0::r1::r2::r3::r4::r5::l,_,h5=>exact absurd h5 (by simp only[List.length_cons];omega)
  ·cases hd
 ·cases hd
theorem S70z{B:Nat}(hS:SumOK Try.prog G0 gw 143 (fokSm (dom143g B))):SumOK Try.prog G0 gw 70 (fokSm (dom70z B)):=fok_sum Try.func70 rfl (C70z hS)
end Go.Bl
end
section
set_option maxRecDepth 100000
namespace Go.Bl
open Go.V Go.Proofs Go.Lp
def bits(n u:Nat):List Bool:=(List.range n).map u.testBit
theorem bits_get{n u k:Nat}(h:k<n):(bits n u).getD k false=u.testBit k:=by
 unfold bits;rw[map_getD h]
theorem bits_set:∀n,n≤5→∀u,u<32→∀k,k<n→(bits n u).set k true=bits n (u |||2^k):=by decide +kernel
theorem bits_zero(n:Nat):bits n 0=List.replicate n false:=by
 refine List.ext_getElem (by simp[bits]) fun i h1 h2=>?_
 simp[bits]
theorem ro_row{n:Nat}{r:List Int}{u:Nat}{rec:Int→Int}{sub:List Bool→Int}{a:Nat→Nat→Int}{i:Nat}(hn:n≤5)(hu:u<32)(hr:r.length=n)(ha:∀k,k<n→a i k=r.getD k 0)
  (hs:∀k,k<n→u.testBit k=false→sub (bits n (u |||2^k))=rec (M.use u k)) :
  ∀(d k:Nat) (acc sg:Int),k+d=n→(sg=1∨sg= -1)→M.roV a sub i (bits n u) (List.range' k d) acc sg=M.minorRow rec u (r.drop k) k acc sg:=by
 intro d
 induction d with
 |zero=>
  intro k acc sg hk _
  rw[List.drop_of_length_le (by omega)];rfl
 |succ d ih=>
  intro k acc sg hk hsg
  have hkn:k<n:=by omega
  rw[drop_cons (d:=0) (by omega:k<r.length)]
  show(match (bits n u).getD k false with|true=>_|false=>_)=_
  simp only[M.minorRow]
  rw[isUsed_eq u hu k (by omega),bits_get hkn]
  have hcast:((k:Nat):Int)+1=((k+1:Nat):Int):=by omega
  rw[hcast]
  cases hb:u.testBit k with
  |true=>exact ih (k+1) acc sg (by omega) hsg
  |false=>
   have hneg:IntKind.i64.wrap (0-sg)= -sg:=by rcases hsg with rfl|rfl <;>decide
   rw[hneg,cond_false,bits_set n hn u hu k hkn,hs k hkn hb,ha k hkn]
   exact ih (k+1) _ _ (by omega) (by rcases hsg with rfl|rfl <;>simp)
theorem mi_minor{n:Nat}{m:List (List Int)}(hn:n≤5)(hl:m.length=n)(hrow:∀r,r∈m→r.length=n):∀(d i u:Nat),i+d=n→u<32→M.miV n (fun i j=>(m.getD i []).getD j 0) d i (bits n u)=M.minor m d i u:=by
 intro d
 induction d with
 |zero=>intro i u _ _;rfl
 |succ d ih=>
  intro i u hi hu
  have hmem:m.getD i []∈m:=getD_mem (by omega)
  simp only[M.minor,M.miV]
  rw[show((i:Nat):Int).toNat=i by omega,show((i:Nat):Int)+1=((i+1:Nat):Int) by omega]
  have key:=ro_row (n:=n) (r:=m.getD i []) (u:=u) (rec:=fun u=>M.minor m d ((i+1:Nat):Int) u) (sub:=M.miV n (fun i j=>(m.getD i []).getD j 0) d (i+1)) (a:=fun i j=>(m.getD i []).getD j 0) (i:=i) hn hu (hrow _ hmem) (fun k hk=>rfl) (fun k hk hb=>by
   rw[use_eq u hu k (by omega)]
   exact ih (i+1) _ (by omega) (or_lt u hu k (by omega))) n 0 0 1 (by omega) (.inl rfl)
  rw[List.drop_zero,←List.range_eq_range']at key
  exact key
theorem rdet_det{n:Nat}{m:List (List Int)}(hn:n≤5)(hl:m.length=n)(hrow:∀r,r∈m→r.length=n):M.rdet n m=M.det m:=by
 unfold M.rdet M.det
 rw[←bits_zero,hl]
 exact mi_minor hn hl hrow n 0 0 (by omega) (by decide)
theorem setCol_row{n k:Nat}{m:List (List Int)}{r:List Int}(hl:m.length=n)(hrow:∀x,x∈m→x.length=n):∀x,x∈M.setCol m k r→x.length=n:=by
 intro x hx
 unfold M.setCol at hx
 obtain⟨i,hi,rfl⟩:=List.mem_map.1 hx
 rw[List.length_set]
 exact hrow _ (getD_mem (List.mem_range.1 hi))
theorem neg_neg_cond{x:Int}(h:x.natAbs<9223372036854775808):cond (decide (x<0)) (M.neg x) x=(x.natAbs:Int):=by
 rw[neg_ok h]
 by_cases hx:x<0
 ·rw[decide_eq_true hx];show -x=_;omega
 ·rw[decide_eq_false hx];show x=_;omega
theorem rsolve_eq{n:Nat}{m:List (List Int)}{r:List Int}(h:Sq n m)(hr:∀i,(r.getD i 0).natAbs≤10000):M.rsl m r=M.sol m r∧M.rdn m r=M.den m r:=by
 have hd:=rdet_det h.n5 h.len h.row
 have hs:∀k,k<n→M.rdet n (M.setCol m k r)=M.det (M.setCol m k r):=fun k hk=>rdet_det h.n5 (by rw[setCol_len];exact h.len) (setCol_row h.len h.row)
 have hdi:=h.det
 unfold M.rsl M.rdn M.rsol M.rden M.rsolve
 rw[h.len,hd]
 cases hz:M.det m==0
 ·simp only[cond_false]
  have hne:DI en m (List.range n)≠0:=by rw[←hdi];intro e;rw[e]at hz;exact absurd hz (by decide)
  obtain⟨e1,e2,e3⟩:=solve_exact h hr hne
  constructor
  ·unfold M.sol M.solve
   rw[hz,h.len]
   show List.map _ _=List.map _ _
   exact List.map_congr_left fun k hk=>by rw[hs k (List.mem_range.1 hk)]
  ·rw[e1,neg_neg_cond (by rw[hdi];exact h.det_b),hdi]
 ·simp only[cond_true]
  unfold M.sol M.den M.solve
  rw[hz]
  exact⟨rfl,rfl⟩
theorem altI_smul(k:Int){f:Nat→List Nat→Int}:∀{l:List Nat},altI (fun c cs=>k*f c cs) l=k*altI f l:=by
 intro l
 induction l generalizing f with
 |nil=>simp[altI]
 |cons c l ih=>
  simp only[altI]
  rw[ih]
  grind
theorem DI_scale{f:Nat→Nat→Int}{σ:Nat→Int}:∀{rows:List Nat} {cols:List Nat},DI (fun r c=>σ r*f r c) rows cols=(rows.foldr (fun r p=>σ r*p) 1)*DI f rows cols:=by
 intro rows
 induction rows with
 |nil=>intro cols;simp[DI]
 |cons r rows ih=>
  intro cols
  simp only[DI,List.foldr_cons]
  rw[←altI_smul]
  refine altI_congr_mem fun c cs _ _=>?_
  rw[ih]
  grind
end Go.Bl
end
section
set_option maxRecDepth 100000
namespace Go.Bl
open Go.V Go.Proofs
namespace M
def chunks(l:List Cask)(s:Sample):List (List Rw):=
 [⟨l.map fun _=>1,s.vol⟩]::(((List.range 4).map fun k=>[(⟨l.map fun c=>w64 (val c k-(rg s k).lo),0⟩:Rw),⟨l.map fun c=>w64 ((rg s k).hi-val c k),0⟩]) ++
 (((List.range l.length).map fun i=>[(⟨only l.length i (-1),w64 (0-(l.getD i eC.dflt).vol)⟩:Rw)])++((List.range l.length).map fun i=>[(⟨only l.length i 1,0⟩:Rw)])))
def rrows(l:List Cask)(s:Sample):List Rw:=(chunks l s).flatten
end M
def litI(l:List Int):Nat→Nat→D:=fun i j=>List.getD (l.map fun x=>D.int .i64 x) (i*1+j) .nilp
def rwD(r:Rw):List D:=[.sl true r.co.length 1 (litI r.co),dI r.le]
def lit2(rs:List Rw):Nat→Nat→D:=fun i j=>List.getD (rs.flatMap rwD) (i*2+j) .nilp
def joinAll:Nat→(Nat→Nat→D)→List (List Rw)→(Nat→Nat→D)
 |_,F,[]=>F
 |k,F,r::l=>joinAll (k+r.length) (joinF k F (lit2 r)) l
def F71(l:List Cask)(s:Sample):Nat→Nat→D:=match M.chunks l s with
 |[]=>nF
 |r::k=>joinAll r.length (lit2 r) k
def nd2(i n:Nat):List Prop:=[(0:Int)≤(i:Int),(i:Int)<(n:Int)]
def le2(a b:Nat):List Prop:=[a≤1000000,b≤b]
def pre71(n:Nat):List Prop:=
 ((List.range 4).flatMap fun k=>((List.range n).flatMap fun i=>nd2 i n++(nd2 k 4++(nd2 i n++nd2 k 4)))++(match k with|0=>[(3:Nat)≤1000000]|k+1=>le2 (2*k+5) (2*k+3))) ++
 (((List.range n).flatMap fun i=>nd2 i n++le2 (10+i) (9+i))++(((List.range n).flatMap fun i=>le2 (10+n+i) (9+n+i))++ [9+n+n≤9+n+n]))
theorem all_flat{α:Type}{f:α→List Prop}:∀{l:List α},(∀x,x∈l→All (f x))→All (l.flatMap f):=by
 intro l
 induction l with
 |nil=>intro _;trivial
 |cons x l ih=>
  intro h
  rw[List.flatMap_cons]
  exact All.append.2 ⟨h x (List.mem_cons_self ..),ih fun y hy=>h y (List.mem_cons_of_mem _ hy)⟩
theorem nd2_all{i n:Nat}(h:i<n):All (nd2 i n):=⟨by omega,by omega,trivial⟩
theorem le2_all{a b:Nat}(h:a≤1000000):All (le2 a b):=⟨h,Nat.le_refl _,trivial⟩
theorem pre71_all{n:Nat}(h:n≤1000):All (pre71 n):=by
 refine All.append.2 ⟨all_flat fun k hk=>?_,All.append.2 ⟨all_flat fun i hi=>?_,All.append.2 ⟨all_flat fun i hi=>?_,Nat.le_refl _,trivial⟩⟩⟩
 ·have hk:=List.mem_range.1 hk
  refine All.append.2 ⟨all_flat fun i hi=>?_,?_⟩
  ·have hi:=List.mem_range.1 hi
   exact All.append.2 ⟨nd2_all hi,All.append.2 ⟨nd2_all hk,All.append.2 ⟨nd2_all hi,nd2_all hk⟩⟩⟩
  ·cases k with
   |zero=>exact⟨by decide,trivial⟩
   |succ k=>exact le2_all (by omega)
 ·have hi:=List.mem_range.1 hi
  exact All.append.2 ⟨nd2_all hi,le2_all (by omega)⟩
 ·have hi:=List.mem_range.1 hi
  exact le2_all (by omega)
theorem litI_eqv(q q':Bool)(hq:q'=true→q=true)(l:List Int):(D.sl q l.length 1 (litI l)).eqv (.sl q' l.length 1 (eI.F l)):=by
 refine⟨hq,rfl,fun _=>rfl,fun i j hi hj=>?_⟩
 obtain rfl:j=0:=Nat.lt_one_iff.1 hj
 unfold litI
 rw[Nat.mul_one,Nat.add_zero,List.getD_eq_getElem?_getD,List.getElem?_map,List.getElem?_eq_getElem hi]
 show(dI l[i]).eqv (dI (l.getD i 0))
 rw[List.getD_eq_getElem?_getD,List.getElem?_eq_getElem hi]
 exact D.eqv_refl _
def IsRw(k:Nat)(F:Nat→Nat→D)(rs:List Rw):Prop:=rs.length=k∧∀i j,i<k→j<2→(F i j).eqv (eRw.F rs i j)
theorem lit2_is(rs:List Rw):IsRw rs.length (lit2 rs) rs:=by
 refine⟨rfl,?_⟩
 induction rs with
 |nil=>intro i j hi;exact absurd hi (Nat.not_lt_zero i)
 |cons r rs ih=>
  intro i j hi hj
  cases i with
  |zero=>
   match j,hj with
   |0,_=>exact litI_eqv true false (fun e=>by cases e) r.co
   |1,_=>exact D.eqv_refl _
  |succ i=>
   have:=ih i j (by simpa using hi) hj
   have e:lit2 (r::rs) (i+1) j=lit2 rs i j:=by
    unfold lit2
    rw[List.flatMap_cons]
    have hl:(rwD r).length=2:=rfl
    rw[List.getD_eq_getElem?_getD,List.getElem?_append_right (by rw[hl];omega),hl,show(i+1)*2+j-2=i*2+j by omega,←List.getD_eq_getElem?_getD]
   rw[e]
   exact this
theorem IsRw.join{k:Nat}{F:Nat→Nat→D}{a b:List Rw}(h:IsRw k F a):IsRw (k+b.length) (joinF k F (lit2 b)) (a++b):=by
 refine⟨by rw[List.length_append,h.1],fun i j hi hj=>?_⟩
 unfold joinF
 by_cases hk:i<k
 ·rw[show Nat.blt i k=true from by rw[Nat.blt_eq];exact hk]
  have:=h.2 i j hk hj
  have e:eRw.F (a++b) i=eRw.F a i:=by
   unfold Enc.F
   rw[List.getD_eq_getElem?_getD,List.getElem?_append_left (by rw[h.1];exact hk),←List.getD_eq_getElem?_getD]
  rw[e];exact this
 ·rw[show Nat.blt i k=false from by rw[←Bool.not_eq_true,Nat.blt_eq];exact hk]
  have:=(lit2_is b).2 (i-k) j (by omega) hj
  have e:eRw.F (a++b) i=eRw.F b (i-k):=by
   unfold Enc.F
   rw[List.getD_eq_getElem?_getD,List.getElem?_append_right (by rw[h.1];omega),h.1,←List.getD_eq_getElem?_getD]
  rw[e];exact this
theorem joinAll_is:∀{L:List (List Rw)} {k:Nat} {F:Nat→Nat→D} {a:List Rw},IsRw k F a→IsRw (k+L.flatten.length) (joinAll k F L) (a++L.flatten):=by
 intro L
 induction L with
 |nil=>
  intro k F a h
  show IsRw (k+0) F (a++ [])
  rw[List.append_nil];exact h
 |cons r L ih=>
  intro k F a h
  have:=ih (h.join (b:=r))
  simp only[List.flatten_cons,List.length_append]at this ⊢
  rw[List.append_assoc,Nat.add_assoc]at this
  exact this
theorem F71_is(l:List Cask)(s:Sample):IsRw (M.rrows l s).length (F71 l s) (M.rrows l s):=by
 have h:=joinAll_is (L:=(M.chunks l s).tail) (lit2_is [⟨l.map fun _=>1,s.vol⟩])
 have e:M.rrows l s=[⟨l.map fun _=>1,s.vol⟩]++(M.chunks l s).tail.flatten:=rfl
 rw[e,List.length_append]
 exact h
theorem rrows_len(l:List Cask)(s:Sample):(M.rrows l s).length=9+l.length+l.length:=by
 have h1:∀(L:List Nat) (f:Nat→Rw),((L.map fun i=>[f i]).flatten).length=L.length:=by
  intro L f
  induction L with
  |nil=>rfl
  |cons x L ih=>rw[List.map_cons,List.flatten_cons,List.length_append,ih,List.length_cons];simp;omega
 unfold M.rrows M.chunks
 rw[List.flatten_cons,List.flatten_append,List.flatten_append,List.length_append,List.length_append,List.length_append,h1,h1,List.length_range]
 have h2:((List.range 4).map fun k=>[(⟨l.map fun c=>w64 (M.val c k-(M.rg s k).lo),0⟩:Rw),⟨l.map fun c=>w64 ((M.rg s k).hi-M.val c k),0⟩]).flatten.length=8:=rfl
 rw[h2]
 simp;omega
theorem t71_1(q:Bool)(c0:Cask)(sv l0 h0 l1 h1 l2 h2 l3 h3:Int):runFnX Try.prog G0 (lookS []) (fun _=>[(999999,[],none)]) [] 1 60 4 71 Try.f71 [.c (.sl q 1 7 (eC.F [c0])),.agg [dI sv,dI l0,dI h0,dI l1,dI h1,dI l2,dI h2,dI l3,dI h3],.c (.bool false)] =
  T.needs (pre71 1) (.ret [.c (.sl true 11 2 (F71 [c0] ⟨sv,⟨l0,h0⟩,⟨l1,h1⟩,⟨l2,h2⟩,⟨l3,h3⟩⟩))]):=by kernel_rfl
theorem t71_2(q:Bool)(c0 c1:Cask)(sv l0 h0 l1 h1 l2 h2 l3 h3:Int):runFnX Try.prog G0 (lookS []) (fun _=>[(999999,[],none)]) [] 1 60 4 71 Try.f71 [.c (.sl q 2 7 (eC.F [c0,c1])),.agg [dI sv,dI l0,dI h0,dI l1,dI h1,dI l2,dI h2,dI l3,dI h3],.c (.bool false)] =
  T.needs (pre71 2) (.ret [.c (.sl true 13 2 (F71 [c0,c1] ⟨sv,⟨l0,h0⟩,⟨l1,h1⟩,⟨l2,h2⟩,⟨l3,h3⟩⟩))]):=by kernel_rfl
theorem t71_3(q:Bool)(c0 c1 c2:Cask)(sv l0 h0 l1 h1 l2 h2 l3 h3:Int):runFnX Try.prog G0 (lookS []) (fun _=>[(999999,[],none)]) [] 1 60 4 71 Try.f71 [.c (.sl q 3 7 (eC.F [c0,c1,c2])),.agg [dI sv,dI l0,dI h0,dI l1,dI h1,dI l2,dI h2,dI l3,dI h3],.c (.bool false)] =
  T.needs (pre71 3) (.ret [.c (.sl true 15 2 (F71 [c0,c1,c2] ⟨sv,⟨l0,h0⟩,⟨l1,h1⟩,⟨l2,h2⟩,⟨l3,h3⟩⟩))]):=by kernel_rfl
theorem t71_4(q:Bool)(c0 c1 c2 c3:Cask)(sv l0 h0 l1 h1 l2 h2 l3 h3:Int):runFnX Try.prog G0 (lookS []) (fun _=>[(999999,[],none)]) [] 1 60 4 71 Try.f71 [.c (.sl q 4 7 (eC.F [c0,c1,c2,c3])),.agg [dI sv,dI l0,dI h0,dI l1,dI h1,dI l2,dI h2,dI l3,dI h3],.c (.bool false)] =
  T.needs (pre71 4) (.ret [.c (.sl true 17 2 (F71 [c0,c1,c2,c3] ⟨sv,⟨l0,h0⟩,⟨l1,h1⟩,⟨l2,h2⟩,⟨l3,h3⟩⟩))]):=by kernel_rfl
def res71(l:List Cask)(s:Sample):List Ar:=[.c (.sl false (M.rrows l s).length 2 (eRw.F (M.rrows l s)))]
theorem w71{l:List Cask}{s:Sample}{n k:Nat}(hn:l.length=n)(hk:k=9+2*n)(h:n≤4):(T.needs (pre71 n) (.ret [.c (.sl true k 2 (F71 l s))]):T (List Ar)).wp (fun rs=>rsEqv rs (res71 l s)):=by
 refine T.needs_wp (pre71_all (by omega)) ?_
 have hl:=rrows_len l s
 have hi:=(F71_is l s).2
 exact⟨⟨(fun e=>by cases e),by omega,fun _=>rfl,fun i j h1 h2=>hi i j (by omega) h2⟩,trivial⟩
def dom71:DomF
 |[.c (.sl _ n st F),.agg [.int .i64 sv,.int .i64 l0,.int .i64 h0,.int .i64 l1,.int .i64 h1,.int .i64 l2,.int .i64 h2,.int .i64 l3,.int .i64 h3],.c (.bool false)]=>(match Nat.beq st 7 with
  |true=>some ([eC.Is n F,1≤n,n≤4],res71 (eC.list n F) ⟨sv,⟨l0,h0⟩,⟨l1,h1⟩,⟨l2,h2⟩,⟨l3,h3⟩⟩)
  |_=>none)
 |_=>none
def v71:Nat×Sm:=(71,fokSm dom71)
theorem lenC1{l:List Cask}(h:l.length=1):∃a,l=[a]:=by match l,h with|[a],_=>exact⟨_,rfl⟩
theorem lenC2{l:List Cask}(h:l.length=2):∃a b,l=[a,b]:=by match l,h with|[a,b],_=>exact⟨_,_,rfl⟩
theorem lenC3{l:List Cask}(h:l.length=3):∃a b c,l=[a,b,c]:=by match l,h with|[a,b,c],_=>exact⟨_,_,_,rfl⟩
theorem lenC4{l:List Cask}(h:l.length=4):∃a b c d,l=[a,b,c,d]:=by match l,h with|[a,b,c,d],_=>exact⟨_,_,_,_,rfl⟩
theorem C71:FOK Try.prog G0 gw 71 dom71:=by
 intro ags p r hd hp κ w xs hw hl hG hx
 unfold dom71 at hd
 split at hd
 ·rename_i q n st F sv l0 h0 l1 h1 l2 h2 l3 h3
  split at hd
  ·rename_i hst
   have g1:=Nat.eq_of_beq_eq_true hst
   subst g1
   simp only[Option.some.injEq,Prod.mk.injEq]at hd
   obtain⟨rfl,rfl⟩:=hd
   obtain⟨hI,hn1,hn4,_⟩:=hp
   have heq:agsEqv [.c (.sl q n 7 F),.agg [.int .i64 sv,.int .i64 l0,.int .i64 h0,.int .i64 l1,.int .i64 h1,.int .i64 l2,.int .i64 h2,.int .i64 l3,.int .i64 h3],.c (.bool false)] [.c (.sl q (eC.list n F).length 7 (eC.F (eC.list n F))),.agg [.int .i64 sv,.int .i64 l0,.int .i64 h0,.int .i64 l1,.int .i64 h1,.int .i64 l2,.int .i64 h2,.int .i64 l3,.int .i64 h3],.c (.bool false)]:=⟨eC.to id hI,Ag.eqv_refl _,Ag.eqv_refl _,trivial⟩
   have hlen:(eC.list n F).length=n:=eC.list_len
   generalize eC.list n F=l at *
   match n,hn1,hn4 with
   |1,_,_=>
    obtain⟨c0,rfl⟩:=lenC1 hlen
    exact fokX_fin mixed gw_stable (sl:=[]) trivial Try.func71 hw hl hG hx heq rfl (t71_1 q c0 sv l0 h0 l1 h1 l2 h2 l3 h3) (w71 rfl rfl (by decide))
   |2,_,_=>
    obtain⟨c0,c1,rfl⟩:=lenC2 hlen
    exact fokX_fin mixed gw_stable (sl:=[]) trivial Try.func71 hw hl hG hx heq rfl (t71_2 q c0 c1 sv l0 h0 l1 h1 l2 h2 l3 h3) (w71 rfl rfl (by decide))
   |3,_,_=>
    obtain⟨c0,c1,c2,rfl⟩:=lenC3 hlen
    exact fokX_fin mixed gw_stable (sl:=[]) trivial Try.func71 hw hl hG hx heq rfl (t71_3 q c0 c1 c2 sv l0 h0 l1 h1 l2 h2 l3 h3) (w71 rfl rfl (by decide))
   |4,_,_=>
    obtain⟨c0,c1,c2,c3,rfl⟩:=lenC4 hlen
    exact fokX_fin mixed gw_stable (sl:=[]) trivial Try.func71 hw hl hG hx heq rfl (t71_4 q c0 c1 c2 c3 sv l0 h0 l1 h1 l2 h2 l3 h3) (w71 rfl rfl (by decide))
  ·cases hd
 ·cases hd
theorem S71:SumOK Try.prog G0 gw 71 (fokSm dom71):=fok_sum Try.func71 rfl C71
end Go.Bl
end
section
set_option maxRecDepth 100000
namespace Go.Bl
open Go.V Go.Proofs
abbrev XI:Type:=Int×Int×Int×Int×Int×Int×Int×Int×Int×Int×Int×PUnit×PUnit
abbrev XJ:Type:=Int×Int×Int×Int×Int×Int×Int×Int×Int×Int×Int×List Int×PUnit
namespace M
def rwof(n:Nat)(wd:Int)(wt:List Int):Wts:=
 ⟨wd,wt.getD 0 0,wt.getD 2 0,wt.getD 4 0,wt.getD 6 0,wt.getD 8 0,wt.getD 1 0,wt.getD 3 0,wt.getD 5 0,wt.getD 7 0,(List.range n).map fun i=>wt.getD (9+i) 0⟩
end M
def nd9(L k:Nat):List Prop:=[(0:Int)≤(k:Int),(k:Int)<(L:Int)]
def tr73(n:Nat)(wt:List Int)(wd:Int):T (List Ar):=
 T.needs ((List.range 9).flatMap (nd9 wt.length)) (.loop2 XI XJ (.inl (0,wd,wt.getD 0 0,wt.getD 2 0,wt.getD 4 0,wt.getD 6 0,wt.getD 8 0,wt.getD 1 0,wt.getD 3 0,wt.getD 5 0,wt.getD 7 0,PUnit.unit,PUnit.unit))
  (fun x=>.br (decide (x.1<(n:Int))) (T.needs [0≤w64 (9+x.1),w64 (9+x.1)<(wt.length:Int),(1:Nat)≤1000000,eI.Is 1 (joinF 0 nF (oneF (wt.getD (w64 (9+x.1)).toNat 0))),(1:Nat)≤1] (.ret (.inl (.inr (w64 (x.1+1),x.2.1,x.2.2.1,x.2.2.2.1,x.2.2.2.2.1,x.2.2.2.2.2.1,x.2.2.2.2.2.2.1,x.2.2.2.2.2.2.2.1,x.2.2.2.2.2.2.2.2.1,x.2.2.2.2.2.2.2.2.2.1,x.2.2.2.2.2.2.2.2.2.2.1,eI.list 1 (joinF 0 nF (oneF (wt.getD (w64 (9+x.1)).toNat 0))),PUnit.unit))))) .fail)
  (fun y=>.br (decide (y.1<(n:Int))) (T.needs [0≤w64 (9+y.1),w64 (9+y.1)<(wt.length:Int),y.2.2.2.2.2.2.2.2.2.2.2.1.length+1≤1000000,y.2.2.2.2.2.2.2.2.2.2.2.1.length≤y.2.2.2.2.2.2.2.2.2.2.2.1.length,eI.Is (y.2.2.2.2.2.2.2.2.2.2.2.1.length+1) (joinF y.2.2.2.2.2.2.2.2.2.2.2.1.length (eI.F y.2.2.2.2.2.2.2.2.2.2.2.1) (oneF (wt.getD (w64 (9+y.1)).toNat 0))),y.2.2.2.2.2.2.2.2.2.2.2.1.length+1≤y.2.2.2.2.2.2.2.2.2.2.2.1.length+1] (.ret (.inl (.inr (w64 (y.1+1),y.2.1,y.2.2.1,y.2.2.2.1,y.2.2.2.2.1,y.2.2.2.2.2.1,y.2.2.2.2.2.2.1,y.2.2.2.2.2.2.2.1,y.2.2.2.2.2.2.2.2.1,y.2.2.2.2.2.2.2.2.2.1,y.2.2.2.2.2.2.2.2.2.2.1,eI.list (y.2.2.2.2.2.2.2.2.2.2.2.1.length+1) (joinF y.2.2.2.2.2.2.2.2.2.2.2.1.length (eI.F y.2.2.2.2.2.2.2.2.2.2.2.1) (oneF (wt.getD (w64 (9+y.1)).toNat 0))),PUnit.unit)))))
   (T.needs [y.2.2.2.2.2.2.2.2.2.2.2.1.length≤y.2.2.2.2.2.2.2.2.2.2.2.1.length] (.ret (.inr [.agg [dI y.2.1,dI y.2.2.1,dI y.2.2.2.1,dI y.2.2.2.2.1,dI y.2.2.2.2.2.1,dI y.2.2.2.2.2.2.1,dI y.2.2.2.2.2.2.2.1,dI y.2.2.2.2.2.2.2.2.1,dI y.2.2.2.2.2.2.2.2.2.1,dI y.2.2.2.2.2.2.2.2.2.2.1,.sl true y.2.2.2.2.2.2.2.2.2.2.2.1.length 1 (eI.F y.2.2.2.2.2.2.2.2.2.2.2.1)]])))))
theorem t73(q_l:Bool)(l:List Cask)(qa qb:Bool)(pt wt:List Int)(pd wd:Int):runFnX Try.prog G0 (lookS []) (fun _=>[(1000016,[],none),(3000018,[],none),(7,[.slot 7 (.int .i64),.blk 5 [.int .i64,.int .i64,.int .i64,.int .i64,.int .i64,.int .i64,.int .i64,.int .i64,.int .i64,.int .i64,.nsl]],some [.slot 7 (.int .i64),.blk 5 [.int .i64,.int .i64,.int .i64,.int .i64,.int .i64,.int .i64,.int .i64,.int .i64,.int .i64,.int .i64,.rowE 3 eI]]),(8000007,[],none)]) [] 1 60 4 73 Try.f73 [.c (.sl q_l l.length 7 (eC.F l)),.agg [.sl qa pt.length 1 (eI.F pt),dI pd,.sl qb wt.length 1 (eI.F wt),dI wd]] =
  tr73 l.length wt wd:=by kernel_rfl
def wtP(wt:List Int)(i:Nat):List Int:=(List.range i).map fun i=>wt.getD (9+i) 0
theorem wtP_succ(wt:List Int)(i:Nat):wtP wt (i+1)=wtP wt i++ [wt.getD (9+i) 0]:=by
 unfold wtP;rw[List.range_succ,List.map_append];rfl
theorem w73{n:Nat}{wt:List Int}{wd:Int}(h1:1≤n)(hn:n≤1000)(hw:9+n≤wt.length):(tr73 n wt wd).wp (fun rs=>rsEqv rs [resW (M.rwof n wd wt)]):=by
 refine T.needs_wp (all_flat fun k hk=>?_) ?_
 ·have:=List.mem_range.1 hk
  exact⟨by omega,by omega,trivial⟩
 have hw9:∀i:Nat,i<n→w64 (9+(i:Int))=((9+i:Nat):Int):=fun i hi=>by
  show IntKind.wrap IntKind.i64 _=_
  rw[wrap_id (by omega) (by omega)];omega
 refine⟨fun z=>match z with|.inl x=>x=(((0:Nat):Int),wd,wt.getD 0 0,wt.getD 2 0,wt.getD 4 0,wt.getD 6 0,wt.getD 8 0,wt.getD 1 0,wt.getD 3 0,wt.getD 5 0,wt.getD 7 0,PUnit.unit,PUnit.unit)|.inr y=>∃i:Nat,i≤n∧y=((i:Int),wd,wt.getD 0 0,wt.getD 2 0,wt.getD 4 0,wt.getD 6 0,wt.getD 8 0,wt.getD 1 0,wt.getD 3 0,wt.getD 5 0,wt.getD 7 0,wtP wt i,PUnit.unit),fun z=>match z with|.inl _=>n+1|.inr y=>n-y.1.toNat,rfl,?_,?_⟩
 ·rintro x rfl
  have o:=one_first (wt.getD (9+0) 0)
  refine⟨fun hb=>?_,fun hb=>?_⟩
  ·simp only[hw9 0 (by omega),Int.toNat_natCast]
   refine⟨by omega,by omega,by omega,o.1,Nat.le_refl _,⟨1,h1,?_⟩,?_⟩
   ·rw[o.2]
    have e:=w64_succ (k:=0) (by omega)
    show(w64 (((0:Nat):Int)+1),_)=_
    rw[e];rfl
   ·show n-(w64 (((0:Nat):Int)+1)).toNat<n+1
    omega
  ·have hb:decide (((0:Nat):Int)<(n:Int))=false:=hb
   have:=ge_of_dec hb
   omega
 ·rintro y ⟨i,hi,rfl⟩
  have hl:(wtP wt i).length=i:=by simp[wtP]
  have o:=one_push (wtP wt i) (wt.getD (9+i) 0)
  refine⟨fun hb=>?_,fun hb=>?_⟩
  ·have hlt:=lt_of_dec hb
   simp only[hw9 i hlt,Int.toNat_natCast]
   refine⟨by omega,by omega,by omega,Nat.le_refl _,o.1,Nat.le_refl _,⟨i+1,by omega,?_⟩,?_⟩
   ·rw[o.2,wtP_succ,w64_succ (by omega)]
   ·show n-(w64 ((i:Int)+1)).toNat<n-(i:Int).toNat
    rw[w64_succ (by omega)];omega
  ·have hge:=ge_of_dec hb
   obtain rfl:i=n:=by omega
   refine⟨Nat.le_refl _,?_⟩
   exact⟨⟨rfl,rfl,rfl,rfl,rfl,rfl,rfl,rfl,rfl,rfl,⟨(fun e=>by cases e),rfl,fun _=>rfl,fun _ _ _ _=>D.eqv_refl _⟩,trivial⟩,trivial⟩
def dom73:DomF
 |[.c (.sl _ n st F),.agg [.sl _ np sp FP,.int .i64 pd,.sl _ k st' G,.int .i64 wd]]=>(match Nat.beq st 7&&Nat.beq sp 1&&Nat.beq st' 1 with
  |true=>some ([eC.Is n F,eI.Is np FP,eI.Is k G,1≤n,n≤1000,9+n≤k],[resW (M.rwof n wd (eI.list k G))])
  |_=>none)
 |_=>none
def v73:Nat×Sm:=(73,fokSm dom73)
theorem C73:FOK Try.prog G0 gw 73 dom73:=by
 intro ags p r hd hp κ w xs hw hl hG hx
 unfold dom73 at hd
 split at hd
 ·rename_i q n st F qa np sp FP pd qb k st' G wd
  split at hd
  ·rename_i hst
   simp only[Bool.and_eq_true]at hst
   obtain⟨⟨g1,g2⟩,g3⟩:=hst
   have g1:=Nat.eq_of_beq_eq_true g1
   have g2:=Nat.eq_of_beq_eq_true g2
   have g3:=Nat.eq_of_beq_eq_true g3
   subst g1 g2 g3
   simp only[Option.some.injEq,Prod.mk.injEq]at hd
   obtain⟨rfl,rfl⟩:=hd
   obtain⟨hI,hP,hG',hn1,hn,hk,_⟩:=hp
   have heq:agsEqv [.c (.sl q n 7 F),.agg [.sl qa np 1 FP,.int .i64 pd,.sl qb k 1 G,.int .i64 wd]] [.c (.sl q (eC.list n F).length 7 (eC.F (eC.list n F))),.agg [.sl qa (eI.list np FP).length 1 (eI.F (eI.list np FP)),.int .i64 pd,.sl qb (eI.list k G).length 1 (eI.F (eI.list k G)),.int .i64 wd]]:=⟨eC.to id hI,⟨eI.to id hP,rfl,eI.to id hG',rfl,trivial⟩,trivial⟩
   have hlen:(eC.list n F).length=n:=eC.list_len
   have hlk:(eI.list k G).length=k:=eI.list_len
   have hw':=w73 (wd:=wd) hn1 hn (by rw[hlk];exact hk:9+n≤(eI.list k G).length)
   have ht:=t73 q (eC.list n F) qa qb (eI.list np FP) (eI.list k G) pd wd
   rw[hlen]at ht
   rw[hlen]at heq
   exact fokX_fin mixed gw_stable (sl:=[]) trivial Try.func73 hw hl hG hx heq rfl ht hw'
  ·cases hd
 ·cases hd
theorem S73:SumOK Try.prog G0 gw 73 (fokSm dom73):=fok_sum Try.func73 rfl C73
end Go.Bl
end
section
set_option maxRecDepth 100000
namespace Go.Bl
open Go.V Go.Proofs
namespace M
def rblend(l:List Cask)(o:Option RC):BestR:=match o with
 |some v=>⟨told1 (sumP Cask.cost l v.pt) v.pd,told2 (sumP Cask.cost l v.pt) v.pd,v.pd,v.pt,rwof l.length v.wd v.wt,0⟩
 |none=>⟨0,0,0,[],zeroW,12⟩
def rBest(l:List Cask)(s:Sample):BestR:=rblend l (rbest (rrows l s) (costs l))
end M
def costT{α:Type}(l:List Cask)(K:XC→T ((XO ⊕ XC) ⊕ α)):T α:=
 .loop2 XO XC (.inl (0,PUnit.unit,PUnit.unit))
  (fun x=>.br (decide (x.1<(l.length:Int)))
   (T.needs [0≤x.1,x.1<(l.length:Int),(1:Nat)≤1000000,eI.Is 1 (joinF 0 nF (oneF (l.getD x.1.toNat eC.dflt).cost)),(1:Nat)≤1]
    (.ret (.inl (.inr (w64 (x.1+1),eI.list 1 (joinF 0 nF (oneF (l.getD x.1.toNat eC.dflt).cost)),PUnit.unit))))) .fail)
  (fun y=>.br (decide (y.1<(l.length:Int)))
   (T.needs [0≤y.1,y.1<(l.length:Int),y.2.1.length+1≤1000000,y.2.1.length≤y.2.1.length,eI.Is (y.2.1.length+1) (joinF y.2.1.length (eI.F y.2.1) (oneF (l.getD y.1.toNat eC.dflt).cost)),y.2.1.length+1≤y.2.1.length+1]
    (.ret (.inl (.inr (w64 (y.1+1),eI.list (y.2.1.length+1) (joinF y.2.1.length (eI.F y.2.1) (oneF (l.getD y.1.toNat eC.dflt).cost)),PUnit.unit))))) (K y))
def costP(l:List Cask)(i:Nat):List Int:=(List.range i).map fun i=>(l.getD i eC.dflt).cost
theorem costP_succ(l:List Cask)(i:Nat):costP l (i+1)=costP l i++ [(l.getD i eC.dflt).cost]:=by
 unfold costP;rw[List.range_succ,List.map_append];rfl
theorem costP_all(l:List Cask):costP l l.length=M.costs l:=by
 unfold costP M.costs
 refine List.ext_getElem (by simp) fun i h1 h2=>?_
 have hi:i<l.length:=by simpa using h1
 simp[hi]
theorem costT_wp{α:Type}{l:List Cask}{K:XC→T ((XO ⊕ XC) ⊕ α)}{Q:α→Prop}(h1:1≤l.length)(h2:l.length≤1000)(hK:∀y:XC,y.2.1=M.costs l→(K y).wp (Out Q)):(costT l K).wp Q:=by
 refine⟨fun z=>match z with|.inl x=>x.1=((0:Nat):Int)|.inr y=>∃i:Nat,i≤l.length∧y.1=(i:Int)∧y.2.1=costP l i,fun z=>match z with|.inl _=>l.length+1|.inr y=>l.length-y.1.toNat,rfl,?_,?_⟩
 ·rintro ⟨x,u,v⟩ hx
  have hx:x=((0:Nat):Int):=hx
  subst hx
  have o:=one_first (l.getD 0 eC.dflt).cost
  refine⟨fun hb=>?_,fun hb=>?_⟩
  ·refine⟨by omega,by omega,by omega,o.1,Nat.le_refl _,⟨1,by omega,w64_succ (k:=0) (by omega),o.2⟩,?_⟩
   show l.length-(w64 (((0:Nat):Int)+1)).toNat<l.length+1
   omega
  ·have hb:decide (((0:Nat):Int)<(l.length:Int))=false:=hb
   have:=ge_of_dec hb
   omega
 ·rintro ⟨y,k,u⟩ ⟨i,hi,hy,hk⟩
  simp only at hy hk
  subst hy hk
  have hl:(costP l i).length=i:=by simp[costP]
  refine⟨fun hb=>?_,fun hb=>?_⟩
  ·have hlt:=lt_of_dec hb
   have o:=one_push (costP l i) (l.getD i eC.dflt).cost
   refine⟨by show(0:Int)≤i;omega,by show(i:Int)<l.length;omega,by show(costP l i).length+1≤1000000;omega,Nat.le_refl _,o.1,Nat.le_refl _,⟨i+1,by omega,w64_succ (by omega),?_⟩,?_⟩
   ·rw[costP_succ];exact o.2
   ·show l.length-(w64 ((i:Int)+1)).toNat<l.length-(i:Int).toNat
    rw[w64_succ (by omega)];omega
  ·have hge:=ge_of_dec hb
   obtain rfl:i=l.length:=by omega
   exact Out.loop (hK _ (costP_all l))
def zB:List Ar:=[.agg [dI 0,dI 0,dI 0,.sl false 0 0 nF,dI 0,dI 0,dI 0,dI 0,dI 0,dI 0,dI 0,dI 0,dI 0,dI 0,.sl false 0 0 nF],rI 12]
def endB{γ:Type}(l:List Cask)(v:RC)(f:List Ar→γ):T γ:=
 T.needs [eC.Is l.length (eC.F l),eI.Is v.pt.length (eI.F v.pt),(eI.list v.pt.length (eI.F v.pt)).length=(eC.list l.length (eC.F l)).length,(eC.list l.length (eC.F l)).length≤1000000,v.pd≠0,i64ok v.pd,i64ok (M.sumP Cask.cost (eC.list l.length (eC.F l)) (eI.list v.pt.length (eI.F v.pt))),
   eC.Is l.length (eC.F l),eI.Is v.pt.length (eI.F v.pt),eI.Is v.wt.length (eI.F v.wt),1≤l.length,l.length≤1000,9+l.length≤v.wt.length]
  (.ret (f (resB ⟨M.told1 (M.sumP Cask.cost (eC.list l.length (eC.F l)) (eI.list v.pt.length (eI.F v.pt))) v.pd,M.told2 (M.sumP Cask.cost (eC.list l.length (eC.F l)) (eI.list v.pt.length (eI.F v.pt))) v.pd,v.pd,v.pt,M.rwof l.length v.wd (eI.list v.wt.length (eI.F v.wt)),0⟩)))
def tr23(l:List Cask)(s:Sample):T (List Ar):=
 costT l fun y=>T.needs [eC.Is l.length (eC.F l),1≤l.length,l.length≤4,y.2.1.length≤y.2.1.length,eRw.Is (M.rrows (eC.list l.length (eC.F l)) s).length (eRw.F (M.rrows (eC.list l.length (eC.F l)) s)),eI.Is y.2.1.length (eI.F y.2.1),
   BOK 4 (eRw.list (M.rrows (eC.list l.length (eC.F l)) s).length (eRw.F (M.rrows (eC.list l.length (eC.F l)) s))) (eI.list y.2.1.length (eI.F y.2.1))]
  (.br (!(M.rbest (eRw.list (M.rrows (eC.list l.length (eC.F l)) s).length (eRw.F (M.rrows (eC.list l.length (eC.F l)) s))) (eI.list y.2.1.length (eI.F y.2.1))).isSome) (.ret (.inr zB))
   (endB l (rcOf (M.rbest (eRw.list (M.rrows (eC.list l.length (eC.F l)) s).length (eRw.F (M.rrows (eC.list l.length (eC.F l)) s))) (eI.list y.2.1.length (eI.F y.2.1)))) .inr))
theorem t23(q_l:Bool)(l:List Cask)(sv l0 h0 l1 h1 l2 h2 l3 h3:Int):runFnX Try.prog G0 (lookS [v71,v70z 4,v72,v73]) (fun _=>[(3,[.slot 7 (.int .i64),.slot 6 .nsl],some [.slot 7 (.int .i64),.slot 6 (.rowE 3 eI)]),(8000003,[],none)]) [] 1 60 4 23 Try.f23 [.c (.sl q_l l.length 7 (eC.F l)),.agg [dI sv,dI l0,dI h0,dI l1,dI h1,dI l2,dI h2,dI l3,dI h3]] =
  tr23 l (⟨sv,⟨l0,h0⟩,⟨l1,h1⟩,⟨l2,h2⟩,⟨l3,h3⟩⟩:Sample):=by kernel_rfl
structure RBOK(l:List Cask)(s:Sample):Prop where
 n1:1≤l.length
 n4:l.length≤4
 ok:BOK 4 (M.rrows l s) (M.costs l)
 v:∀v,M.rbest (M.rrows l s) (M.costs l)=some v→v.pt.length=l.length∧v.pd≠0∧i64ok v.pd∧i64ok (M.sumP Cask.cost l v.pt)∧9+l.length≤v.wt.length
theorem w23{l:List Cask}{s:Sample}(h:RBOK l s):(tr23 l s).wp (fun rs=>rsEqv rs (resB (M.rBest l s))):=by
 have n1:=h.n1
 have n4:=h.n4
 refine costT_wp n1 (by omega) fun y hy=>?_
 rw[hy]
 simp only[Enc.list_F]
 refine⟨Enc.is_F _ _ _,n1,n4,Nat.le_refl _,Enc.is_F _ _ _,Enc.is_F _ _ _,h.ok,fun hb=>?_,fun hb=>?_⟩
 ·have hn:M.rbest (M.rrows l s) (M.costs l)=none:=by
   cases hr:M.rbest (M.rrows l s) (M.costs l)with
   |none=>rfl
   |some v=>rw[hr]at hb;cases hb
  have z0:(D.sl false 0 0 nF).eqv (dL []):=⟨(fun e=>by cases e),rfl,(fun h=>absurd h (Nat.lt_irrefl 0)),fun i j hi=>absurd hi (Nat.not_lt_zero i)⟩
  show rsEqv zB (resB (M.rblend l _))
  rw[hn]
  exact⟨⟨rfl,rfl,rfl,z0,rfl,rfl,rfl,rfl,rfl,rfl,rfl,rfl,rfl,rfl,z0,trivial⟩,rfl,trivial⟩
 ·cases hr:M.rbest (M.rrows l s) (M.costs l)with
  |none=>rw[hr]at hb;cases hb
  |some v=>
   obtain⟨v1,v2,v3,v4,v5⟩:=h.v v hr
   unfold endB
   show T.wp _ _
   simp only[rcOf,Enc.list_F]
   refine⟨Enc.is_F _ _ _,Enc.is_F _ _ _,v1,by omega,v2,v3,v4,Enc.is_F _ _ _,Enc.is_F _ _ _,Enc.is_F _ _ _,n1,by omega,v5,?_⟩
   show rsEqv _ (resB (M.rblend l _))
   rw[hr]
   exact rsEqv_refl _
def dom23z:DomF
 |[.c (.sl _ n_l st_l F_l),.agg [.int .i64 sv,.int .i64 l0,.int .i64 h0,.int .i64 l1,.int .i64 h1,.int .i64 l2,.int .i64 h2,.int .i64 l3,.int .i64 h3]]=>(match Nat.beq st_l 7 with
  |true=>some ([eC.Is n_l F_l,RBOK (eC.list n_l F_l) (⟨sv,⟨l0,h0⟩,⟨l1,h1⟩,⟨l2,h2⟩,⟨l3,h3⟩⟩:Sample)],resB (M.rBest (eC.list n_l F_l) (⟨sv,⟨l0,h0⟩,⟨l1,h1⟩,⟨l2,h2⟩,⟨l3,h3⟩⟩:Sample)))
  |_=>none)
 |_=>none
def v23z:Nat×Sm:=(23,fokSm dom23z)
theorem C23z:FOK Try.prog G0 gw 23 dom23z:=by
 intro ags p r hd hp κ w xs hw hl hG hx
 unfold dom23z at hd
 split at hd
 ·rename_i q_l n_l st_l F_l sv l0 h0 l1 h1 l2 h2 l3 h3
  split at hd
  ·rename_i hst
   have g1:=hst
   have g1:=Nat.eq_of_beq_eq_true g1
   subst g1
   simp only[Option.some.injEq,Prod.mk.injEq]at hd
   obtain⟨rfl,rfl⟩:=hd
   obtain⟨hI_l,hp⟩:=hp
   have heq:agsEqv [.c (.sl q_l n_l 7 F_l),.agg [.int .i64 sv,.int .i64 l0,.int .i64 h0,.int .i64 l1,.int .i64 h1,.int .i64 l2,.int .i64 h2,.int .i64 l3,.int .i64 h3]] [.c (.sl q_l (eC.list n_l F_l).length 7 (eC.F (eC.list n_l F_l))),.agg [.int .i64 sv,.int .i64 l0,.int .i64 h0,.int .i64 l1,.int .i64 h1,.int .i64 l2,.int .i64 h2,.int .i64 l3,.int .i64 h3]]:=⟨eC.to id hI_l,Ag.eqv_refl _,trivial⟩
   have len_l:(eC.list n_l F_l).length=n_l:=eC.list_len
   generalize eC.list n_l F_l=l at *
   subst len_l
   exact fokX_fin mixed gw_stable (sl:=[v71,v70z 4,v72,v73]) ⟨S71,S70z S143g,S72,S73,trivial⟩ Try.func23 hw hl hG hx heq rfl (t23 _ _ _ _ _ _ _ _ _ _ _) (w23 hp.1)
  ·cases hd
 ·cases hd
theorem S23z:SumOK Try.prog G0 gw 23 (fokSm dom23z):=fok_sum Try.func23 rfl C23z
end Go.Bl
end
section
set_option maxRecDepth 100000
namespace Go.Bl
open Go.V Go.Proofs Go.Lp
def negC(c:Cond):Rw:=⟨c.coefs.map fun x=> -x, -c.limit⟩
def rowsN(sh:List Int)(sum:Int)(cs:List Cond):List Rw:=⟨sh,sum⟩::cs.map negC
def tOf(cs:List Cond)(ch:List Int):List Cond:=ch.map fun i=>cs.getD (i.toNat-1) dK
def Big(n:Nat)(sh:List Int)(sum:Int)(cs:List Cond):Prop:=∀set:List Cond,set.length+1=n→(∀c,c∈set→c∈cs)→DI en (M.mat sh set) (List.range n)≠0→∀c,c∈cs →
  (dl n c.coefs (M.sol (M.mat sh set) (M.right sum set))).natAbs<9223372036854775808∧(c.limit*M.den (M.mat sh set) (M.right sum set)).natAbs<9223372036854775808
theorem dot_wrap:∀(p q:List Int) (acc:Int),p.length=q.length→M.dot p q (IntKind.i64.wrap acc)=IntKind.i64.wrap (acc+dl p.length p q):=by
 intro p
 induction p with
 |nil=>intro q acc h;cases q with
  |nil=>simp[M.dot,dl,smI]
  |cons b q=>simp at h
 |cons a p ih=>
  intro q acc h
  cases q with
  |nil=>simp at h
  |cons b q=>
   show M.dot p q (IntKind.i64.wrap (IntKind.i64.wrap acc+IntKind.i64.wrap (a*b)))=_
   have e:IntKind.i64.wrap (IntKind.i64.wrap acc+IntKind.i64.wrap (a*b))=IntKind.i64.wrap (acc+a*b):=by
    rw[wrap_add_wrap,Int.add_comm,wrap_add_wrap,Int.add_comm]
   rw[e,ih q _ (by simpa using h),List.length_cons,dl_cons]
   congr 1;omega
theorem dot_wrap0{p q:List Int}(h:p.length=q.length):M.dot p q 0=IntKind.i64.wrap (dl p.length p q):=by
 have:=dot_wrap p q 0 h
 rw[show IntKind.i64.wrap 0=0 from rfl,Int.zero_add]at this
 exact this
theorem en_neg(l:List Int)(j:Nat):en (l.map fun x=> -x) j= - en l j:=by
 unfold en
 rw[List.getD_eq_getElem?_getD,List.getD_eq_getElem?_getD,List.getElem?_map]
 cases l[j]? <;>rfl
theorem dl_neg(n:Nat)(a b:List Int):dl n (a.map fun x=> -x) b= - dl n a b:=by
 unfold dl
 rw[←smI_neg]
 exact smI_congr fun c _=>by rw[en_neg,Int.neg_mul]
theorem rkeeps_iff{x:List Int}{den:Int}:∀{rows:List Rw},M.rkeeps x den rows=true↔∀r,r∈rows→¬M.dot r.co x 0<w64 (r.le*den):=by
 intro rows
 induction rows with
 |nil=>simp[M.rkeeps]
 |cons r l ih=>
  unfold M.rkeeps
  by_cases h:M.dot r.co x 0<w64 (r.le*den)
  ·rw[decide_eq_true h]
   constructor
   ·intro e;cases e
   ·intro e;exact absurd h (e r (List.mem_cons_self ..))
  ·rw[decide_eq_false h]
   show M.rkeeps x den l=true↔_
   rw[ih]
   constructor
   ·intro e d hd
    rcases List.mem_cons.1 hd with rfl|hd
    ·exact h
    ·exact e d hd
   ·intro e d hd;exact e d (List.mem_cons_of_mem _ hd)
def sgn(i:Nat):Int:=if i=0 then 1 else -1
theorem sgn_prod:∀l:List Nat,l.foldr (fun r p=>sgn r*p) 1=1∨l.foldr (fun r p=>sgn r*p) 1= -1:=by
 intro l
 induction l with
 |nil=>exact .inl rfl
 |cons a l ih=>
  rw[List.foldr_cons]
  unfold sgn at ih ⊢
  rcases ih with h|h <;>rw[h] <;>split <;>simp
section
variable {n : Nat} {sh wo : List Int} {sum : Int} {cs : List Cond} {ch : List Int}
theorem val_idx(hv:Val (n-1) ((cs.length:Int)+1) ch):∀v,v∈ch→1≤v∧v.toNat-1<cs.length:=by
 intro v hm
 obtain⟨i,hi,rfl⟩:=List.getElem_of_mem hm
 have hl:=hv.len
 have h1:=hv.lo i (by omega)
 have h2:=hv.hi i (by omega)
 have e:ch.getD i 0=ch[i]:=by simp[hi]
 rw[e]at h1 h2
 omega
theorem rrow_succ{v:Int}(h1:1≤v)(h2:v.toNat-1<cs.length):M.rrow (rowsN sh sum cs) v=negC (cs.getD (v.toNat-1) dK):=by
 unfold M.rrow rowsN
 obtain⟨q,hq⟩:∃q,v.toNat=q+1:=⟨v.toNat-1,by omega⟩
 rw[hq]at h2 ⊢
 rw[Nat.add_sub_cancel]at h2 ⊢
 rw[List.getD_cons_succ,List.getD_eq_getElem?_getD,List.getElem?_map,List.getD_eq_getElem?_getD,List.getElem?_eq_getElem h2]
 rfl
theorem rmat_t(hv:Val (n-1) ((cs.length:Int)+1) ch):M.rmat (rowsN sh sum cs) ch=sh::(tOf cs ch).map fun c=>c.coefs.map fun x=> -x:=by
 unfold M.rmat tOf
 rw[List.map_map]
 congr 1
 exact List.map_congr_left fun v hm=>by
  obtain⟨h1,h2⟩:=val_idx hv v hm
  rw[rrow_succ h1 h2];rfl
theorem rright_t(hv:Val (n-1) ((cs.length:Int)+1) ch):M.rright (rowsN sh sum cs) ch=sum::(tOf cs ch).map fun c=> -c.limit:=by
 unfold M.rright tOf
 rw[List.map_map]
 congr 1
 exact List.map_congr_left fun v hm=>by
  obtain⟨h1,h2⟩:=val_idx hv v hm
  rw[rrow_succ h1 h2];rfl
theorem tOf_mem(hv:Val (n-1) ((cs.length:Int)+1) ch):∀c,c∈tOf cs ch→c∈cs:=by
 intro c hc
 obtain⟨v,hm,rfl⟩:=List.mem_map.1 hc
 exact getD_mem (val_idx hv v hm).2
theorem tOf_len(hv:Val (n-1) ((cs.length:Int)+1) ch)(hn:1≤n):(tOf cs ch).length+1=n:=by
 have:=hv.len
 simp[tOf];omega
theorem rmat_en(hv:Val (n-1) ((cs.length:Int)+1) ch)(i c:Nat):en ((M.rmat (rowsN sh sum cs) ch).getD i []) c=sgn i*en ((M.mat sh (tOf cs ch)).getD i []) c:=by
 rw[rmat_t hv]
 cases i with
 |zero=>show en sh c=1*en sh c;rw[Int.one_mul]
 |succ q=>
  rw[matS,List.getD_cons_succ,List.getD_eq_getElem?_getD,List.getElem?_map,List.getD_eq_getElem?_getD]
  show _= -1*_
  cases (tOf cs ch)[q]? with
  |none=>show en [] c= -1*en [] c;unfold en;simp
  |some d=>show en (d.coefs.map _) c= -1*en d.coefs c;rw[en_neg];omega
theorem rright_get(hv:Val (n-1) ((cs.length:Int)+1) ch)(i:Nat):(M.rright (rowsN sh sum cs) ch).getD i 0=sgn i*(M.right sum (tOf cs ch)).getD i 0:=by
 rw[rright_t hv]
 cases i with
 |zero=>show sum=1*sum;rw[Int.one_mul]
 |succ q=>
  rw[rightS,List.getD_cons_succ,List.getD_eq_getElem?_getD,List.getElem?_map,List.getD_eq_getElem?_getD]
  show _= -1*_
  cases (tOf cs ch)[q]? with
  |none=>rfl
  |some d=>show -d.limit= -1*d.limit;omega
theorem rmat_sq(h:Small n sh wo sum cs)(hv:Val (n-1) ((cs.length:Int)+1) ch):Sq n (M.rmat (rowsN sh sum cs) ch):=by
 have hq:=h.sq (tOf_len hv h.n1) (tOf_mem hv)
 have hl:(M.rmat (rowsN sh sum cs) ch).length=n:=by rw[rmat_t hv];have:=tOf_len hv h.n1;simp;omega
 refine⟨h.n5,hl,fun r hr=>?_,fun r hr c=>?_⟩
 ·rw[rmat_t hv]at hr
  rcases List.mem_cons.1 hr with rfl|hr
  ·exact h.sl
  ·obtain⟨d,hd,rfl⟩:=List.mem_map.1 hr
   rw[List.length_map]
   exact h.cl d (tOf_mem hv d hd)
 ·obtain⟨i,hi,rfl⟩:=List.getElem_of_mem hr
  have e:(M.rmat (rowsN sh sum cs) ch).getD i []=(M.rmat (rowsN sh sum cs) ch)[i]:=by simp[hi]
  rw[←e,rmat_en hv,Int.natAbs_mul]
  have h1:(sgn i).natAbs=1:=by unfold sgn;split <;>rfl
  rw[h1,Nat.one_mul]
  exact hq.ent _ (getD_mem (by rw[hq.len];omega)) c
theorem rright_small(h:Small n sh wo sum cs)(hv:Val (n-1) ((cs.length:Int)+1) ch)(i:Nat):((M.rright (rowsN sh sum cs) ch).getD i 0).natAbs≤10000:=by
 rw[rright_get hv,Int.natAbs_mul]
 have h1:(sgn i).natAbs=1:=by unfold sgn;split <;>rfl
 rw[h1,Nat.one_mul]
 exact h.rs (tOf_mem hv) i
theorem rmat_DI(h:Small n sh wo sum cs)(hv:Val (n-1) ((cs.length:Int)+1) ch):(DI en (M.rmat (rowsN sh sum cs) ch) (List.range n)).natAbs=(DI en (M.mat sh (tOf cs ch)) (List.range n)).natAbs:=by
 rw[DI_idx (rmat_sq h hv).len,DI_idx (h.sq (tOf_len hv h.n1) (tOf_mem hv)).len]
 rw[DI_congr (g:=fun i c=>sgn i*en ((M.mat sh (tOf cs ch)).getD i []) c) (fun i _ c _=>rmat_en hv i c),DI_scale,Int.natAbs_mul]
 rcases sgn_prod (List.range n)with e|e <;>rw[e] <;>simp
theorem nat_ne{a b:Int}(h:a.natAbs=b.natAbs)(hb:b≠0):a≠0:=by omega
theorem list_en{a b:List Int}(hl:a.length=b.length)(h:∀k,k<a.length→a.getD k 0=b.getD k 0):a=b:=by
 refine List.ext_getElem hl fun i h1 h2=>?_
 have:=h i h1
 simpa[h1,h2]using this
theorem sol_same(h:Small n sh wo sum cs)(hv:Val (n-1) ((cs.length:Int)+1) ch)(hd:DI en (M.mat sh (tOf cs ch)) (List.range n)≠0) :
  M.sol (M.rmat (rowsN sh sum cs) ch) (M.rright (rowsN sh sum cs) ch)=M.sol (M.mat sh (tOf cs ch)) (M.right sum (tOf cs ch))∧M.den (M.rmat (rowsN sh sum cs) ch) (M.rright (rowsN sh sum cs) ch)=M.den (M.mat sh (tOf cs ch)) (M.right sum (tOf cs ch)):=by
 have hq:=h.sq (tOf_len hv h.n1) (tOf_mem hv)
 have hr:=h.rs (set:=tOf cs ch) (tOf_mem hv)
 have hq2:=rmat_sq h hv
 have hr2:=rright_small h hv
 have hd2:=nat_ne (rmat_DI h hv) hd
 obtain⟨e1,e2,e3⟩:=solve_exact hq hr hd
 obtain⟨f1,f2,f3⟩:=solve_exact hq2 hr2 hd2
 have hden:M.den (M.rmat (rowsN sh sum cs) ch) (M.rright (rowsN sh sum cs) ch)=M.den (M.mat sh (tOf cs ch)) (M.right sum (tOf cs ch)):=by rw[e1,f1,rmat_DI h hv]
 refine⟨list_en (by rw[e2,f2]) fun k hk=>?_,hden⟩
 rw[f2]at hk
 obtain⟨x,hx⟩:=sol_ex (M.right sum (tOf cs ch)) hq.len hd
 apply Rat.intCast_inj.1
 rw[sol_spec hq hr hd hx k hk,←hden]
 refine sol_spec hq2 hr2 hd2 (x:=x) (fun i hi=>?_) k hk
 rw[rright_get hv,Rat.intCast_mul,←hx i hi,←sm_smul]
 refine sm_congr fun c _=>?_
 rw[rmat_en hv,Rat.intCast_mul];grind
theorem turned_same(h:Small n sh wo sum cs)(hv:Val (n-1) ((cs.length:Int)+1) ch)(hd:DI en (M.mat sh (tOf cs ch)) (List.range n)≠0) :
  (M.sol (M.turned (M.rmat (rowsN sh sum cs) ch)) wo).length=n∧M.den (M.turned (M.rmat (rowsN sh sum cs) ch)) wo≠0∧∀k,k<n→(M.sol (M.turned (M.rmat (rowsN sh sum cs) ch)) wo).getD k 0=sgn k*(M.sol (M.turned (M.mat sh (tOf cs ch))) wo).getD k 0:=by
 have hq:=h.sq (tOf_len hv h.n1) (tOf_mem hv)
 have hq2:=rmat_sq h hv
 have hw:=h.ws
 have hd2:=nat_ne (rmat_DI h hv) hd
 have hqT:=hq.turned
 have hqT2:=hq2.turned
 have hdT:=turned_ne hq hd
 have hdT2:=turned_ne hq2 hd2
 obtain⟨e1,e2,e3⟩:=solve_exact hqT hw hdT
 obtain⟨f1,f2,f3⟩:=solve_exact hqT2 hw hdT2
 have hden:M.den (M.turned (M.rmat (rowsN sh sum cs) ch)) wo=M.den (M.turned (M.mat sh (tOf cs ch))) wo:=by rw[e1,f1,turned_DI hq.len,turned_DI hq2.len,rmat_DI h hv]
 have hp:=den_pos hqT2 hw hdT2
 refine⟨f2,by omega,fun k hk=>?_⟩
 obtain⟨x,hx⟩:=sol_ex wo hqT.len hdT
 apply Rat.intCast_inj.1
 rw[Rat.intCast_mul,sol_spec hqT hw hdT hx k hk,←hden]
 have:=sol_spec hqT2 hw hdT2 (x:=fun i=>((sgn i:Int):Rat)*x i) (fun j hj=>?_) k hk
 ·rw[this];grind
 ·rw[←hx j hj]
  refine sm_congr fun i hi=>?_
  have hi:=List.mem_range.1 hi
  rw[turned_at hq2 hj hi,turned_at hq hj hi,rmat_en hv,Rat.intCast_mul]
  have hs:sgn i*sgn i=1:=by unfold sgn;split <;>rfl
  have:((sgn i:Int):Rat)*((sgn i:Int):Rat)=1:=by rw[←Rat.intCast_mul,hs];rfl
  grind
theorem rat_corner(h:Small n sh wo sum cs)(hB:Big n sh sum cs)(hv:Val (n-1) ((cs.length:Int)+1) ch) :
  (M.rat (rowsN sh sum cs) wo ch=none∧M.corner sh sum wo cs (tOf cs ch)=none)∨∃v y,M.rat (rowsN sh sum cs) wo ch=some v∧M.corner sh sum wo cs (tOf cs ch)=some y∧y.pt=v.pt∧y.den=v.pd:=by
 have hq:=h.sq (tOf_len hv h.n1) (tOf_mem hv)
 have hr:=h.rs (set:=tOf cs ch) (tOf_mem hv)
 have hq2:=rmat_sq h hv
 have hr2:=rright_small h hv
 have hw:=h.ws
 have htl:=tOf_len hv h.n1
 have htm:=tOf_mem hv
 obtain⟨r1,r2⟩:=rsolve_eq hq2 hr2
 obtain⟨t1,t2⟩:=rsolve_eq hq2.turned hw
 unfold M.rat M.corner
 rw[r1,r2,t1,t2]
 by_cases hd:DI en (M.mat sh (tOf cs ch)) (List.range n)=0
 ·have hd2:DI en (M.rmat (rowsN sh sum cs) ch) (List.range n)=0:=by have:=rmat_DI h hv;omega
  rw[solve_den hq hd,solve_den hq2 hd2]
  exact .inl ⟨rfl,rfl⟩
 have hpos:=den_pos hq hr hd
 obtain⟨e1,e2,e3⟩:=solve_exact hq hr hd
 obtain⟨s1,s2⟩:=sol_same h hv hd
 obtain⟨w1,w2,w3⟩:=turned_same h hv hd
 rw[s1,s2]
 have hne:(M.den (M.mat sh (tOf cs ch)) (M.right sum (tOf cs ch))==0)=false:=by
  rw[Bool.eq_false_iff];intro e;have:=eq_of_beq e;omega
 rw[hne]
 have hkeep:M.rkeeps (M.sol (M.mat sh (tOf cs ch)) (M.right sum (tOf cs ch))) (M.den (M.mat sh (tOf cs ch)) (M.right sum (tOf cs ch))) (rowsN sh sum cs)=M.keeps cs (M.sol (M.mat sh (tOf cs ch)) (M.right sum (tOf cs ch))) (M.den (M.mat sh (tOf cs ch)) (M.right sum (tOf cs ch))):=by
  have hk:=keeps_iff (cs:=cs) (pt:=M.sol (M.mat sh (tOf cs ch)) (M.right sum (tOf cs ch))) (den:=M.den (M.mat sh (tOf cs ch)) (M.right sum (tOf cs ch))) (by rw[e2];exact h.keep _ htl htm hd)
  rw[e2]at hk
  have hrows:=sol_rows hq hr hd
  have key:∀c,c∈cs→(¬M.dot (negC c).co (M.sol (M.mat sh (tOf cs ch)) (M.right sum (tOf cs ch))) 0<w64 ((negC c).le*M.den (M.mat sh (tOf cs ch)) (M.right sum (tOf cs ch)))↔dl n c.coefs (M.sol (M.mat sh (tOf cs ch)) (M.right sum (tOf cs ch)))≤c.limit*M.den (M.mat sh (tOf cs ch)) (M.right sum (tOf cs ch))):=by
   intro c hc
   obtain⟨b1,b2⟩:=hB _ htl htm hd c hc
   have hcl:=h.cl c hc
   have hl:(negC c).co.length=n:=by show(c.coefs.map _).length=n;rw[List.length_map];exact hcl
   rw[dot_wrap0 (by rw[hl,e2]),hl]
   show ¬IntKind.i64.wrap (dl n (c.coefs.map fun x=> -x) _)<IntKind.i64.wrap (-c.limit*_)↔_
   rw[dl_neg,Int.neg_mul,wrap_id (by omega) (by omega),wrap_id (by omega) (by omega)]
   omega
  have key0:¬M.dot sh (M.sol (M.mat sh (tOf cs ch)) (M.right sum (tOf cs ch))) 0<w64 (sum*M.den (M.mat sh (tOf cs ch)) (M.right sum (tOf cs ch))):=by
   have:=hrows 0 h.n1
   rw[mat0,right0]at this
   rw[dot_wrap0 (by rw[h.sl,e2]),h.sl,this]
   exact Int.lt_irrefl _
  have hiff:M.rkeeps (M.sol (M.mat sh (tOf cs ch)) (M.right sum (tOf cs ch))) (M.den (M.mat sh (tOf cs ch)) (M.right sum (tOf cs ch))) (rowsN sh sum cs)=true↔M.keeps cs (M.sol (M.mat sh (tOf cs ch)) (M.right sum (tOf cs ch))) (M.den (M.mat sh (tOf cs ch)) (M.right sum (tOf cs ch)))=true:=by
   rw[rkeeps_iff,hk]
   constructor
   ·intro g c hc
    exact(key c hc).1 (g _ (List.mem_cons_of_mem _ (List.mem_map_of_mem hc)))
   ·intro g r hr'
    rcases List.mem_cons.1 hr' with rfl|hr'
    ·exact key0
    ·obtain⟨c,hc,rfl⟩:=List.mem_map.1 hr'
     exact(key c hc).2 (g c hc)
  exact Bool.eq_iff_iff.2 hiff
 rw[hkeep]
 have hnn:M.rnn (M.sol (M.turned (M.rmat (rowsN sh sum cs) ch)) wo) ch.length=M.nonpos (M.sol (M.turned (M.mat sh (tOf cs ch))) wo).tail:=by
  have hdT:=turned_ne hq hd
  obtain⟨t1,t2,t3⟩:=solve_exact hq.turned hw hdT
  have hcl:ch.length+1=n:=by have:=hv.len;have:=h.n1;omega
  refine Bool.eq_iff_iff.2 ?_
  rw[nonpos_iff]
  unfold M.rnn
  rw[List.all_eq_true]
  have htl2:∀q,(M.sol (M.turned (M.mat sh (tOf cs ch))) wo).tail.getD q 0=(M.sol (M.turned (M.mat sh (tOf cs ch))) wo).getD (q+1) 0:=by
   intro q;cases M.sol (M.turned (M.mat sh (tOf cs ch))) wo <;>rfl
  have hlt:(M.sol (M.turned (M.mat sh (tOf cs ch))) wo).tail.length=ch.length:=by rw[List.length_tail,t2];omega
  constructor
  ·intro g x hx
   obtain⟨q,hq',rfl⟩:=List.getElem_of_mem hx
   have hql:q<ch.length:=by omega
   have:=of_decide_eq_true (g q (List.mem_range.2 hql))
   rw[w3 (q+1) (by omega),←htl2 q]at this
   have e:(M.sol (M.turned (M.mat sh (tOf cs ch))) wo).tail.getD q 0=(M.sol (M.turned (M.mat sh (tOf cs ch))) wo).tail[q]:=by simp only[List.getD_eq_getElem?_getD,List.getElem?_eq_getElem hq'];rfl
   rw[e]at this
   have hs:sgn (q+1)= -1:=rfl
   rw[hs]at this
   omega
  ·intro g q hq'
   have hql:=List.mem_range.1 hq'
   refine decide_eq_true ?_
   rw[w3 (q+1) (by omega),←htl2 q]
   have:=g ((M.sol (M.turned (M.mat sh (tOf cs ch))) wo).tail.getD q 0) (getD_mem (by omega))
   have hs:sgn (q+1)= -1:=rfl
   rw[hs]
   omega
 rw[hnn]
 cases M.keeps cs (M.sol (M.mat sh (tOf cs ch)) (M.right sum (tOf cs ch))) (M.den (M.mat sh (tOf cs ch)) (M.right sum (tOf cs ch)))with
 |false=>exact .inl ⟨rfl,rfl⟩
 |true=>
  cases M.nonpos (M.sol (M.turned (M.mat sh (tOf cs ch))) wo).tail with
  |false=>exact .inl ⟨rfl,rfl⟩
  |true=>exact .inr ⟨_,_,rfl,rfl,rfl,rfl⟩
end
end Go.Bl
end
section
set_option maxRecDepth 100000
namespace Go.Bl
open Go.V Go.Proofs Go.Lp
namespace M
end M
theorem within_yes{n lo hi:Int}(h:lo≤n∧n≤hi):M.within n lo hi=true:=by
 unfold M.within
 simp[h.1,h.2]
theorem allB_of{is:Int→Bool}:∀{l:List Int},(∀x,x∈l→is x=true)→M.allB is l=true
 |[],_=>rfl
 |n::l,h=>by
  unfold M.allB
  rw[h n (List.mem_cons_self ..)]
  exact allB_of fun x hx=>h x (List.mem_cons_of_mem _ hx)
section
variable {l : List Cask} {s : Sample} {w : Wts}
theorem openW_of(ht:M.taskErr l s=0)(h:RightW l s w):M.openW l s w=0:=by
 rw[openW_eq,ht]
 show M.wErr l.length w=0
 have hw:∀x:Int,0≤x∧x≤100000000000000→M.isWeight x=true:=fun x hx=>within_yes hx
 refine wErr_ok ?_ (beq_of_eq (by rw[h.len])) ?_
 ·unfold M.wHead
  have:=h.each
  rw[within_yes h.den,within_yes (by omega)];rfl
 ·obtain⟨a1,⟨a2,a3,a4,a5⟩,a6,a7,a8,a9⟩:=h.all
  unfold M.wOk
  rw[allB_of (is:=M.isWeight) (l:=[w.x0,w.x1,w.x2,w.x3]) (fun x hx=>by
    simp only[List.mem_cons,List.not_mem_nil,or_false]at hx
    rcases hx with rfl|rfl|rfl|rfl <;>exact hw _ (by assumption)),
   allB_of (is:=M.isWeight) (l:=[w.y0,w.y1,w.y2,w.y3]) (fun x hx=>by
    simp only[List.mem_cons,List.not_mem_nil,or_false]at hx
    rcases hx with rfl|rfl|rfl|rfl <;>exact hw _ (by assumption)),
   allB_of (is:=M.isWeight) (l:=w.casks) (fun x hx=>by
    obtain⟨i,hi,rfl⟩:=List.getElem_of_mem hx
    have:=a1 i
    unfold en at this
    rw[List.getD_eq_getElem?_getD,List.getElem?_eq_getElem hi]at this
    exact hw _ this)]
  rfl
end
end Go.Bl
end
section
set_option maxRecDepth 100000
namespace Go.Bl
open Go.V Go.Proofs Go.Lp
section
variable {n : Nat} {sh wo : List Int} {sum : Int} {cs : List Cond} {x : M.Corner}
theorem dual_sum(ho:Opt n sh sum wo cs x)(p:List Int):x.wd*dl n wo p=x.each*dl n sh p-smI (fun q=>en x.by_ q*dl n (x.tight.getD q dK).coefs p) (List.range x.tight.length):=by
 have h1:smI (fun j=>(x.each*en sh j-smI (fun q=>en x.by_ q*en (x.tight.getD q dK).coefs j) (List.range x.tight.length))*en p j) (List.range n)=smI (fun j=>x.wd*(en wo j*en p j)) (List.range n):=
  smI_congr fun j hj=>by rw[ho.dual j (List.mem_range.1 hj),Int.mul_comm (en wo j),Int.mul_assoc]
 rw[smI_smul]at h1
 have h2:smI (fun j=>(x.each*en sh j-smI (fun q=>en x.by_ q*en (x.tight.getD q dK).coefs j) (List.range x.tight.length))*en p j) (List.range n)=x.each*dl n sh p-smI (fun q=>en x.by_ q*dl n (x.tight.getD q dK).coefs p) (List.range x.tight.length):=by
  unfold dl
  rw[←smI_smul]
  rw[smI_congr (l:=List.range x.tight.length) (h:=fun q=>smI (fun j=>en x.by_ q*(en (x.tight.getD q dK).coefs j*en p j)) (List.range n)) (fun q _=>by rw[smI_smul]),smI_comm]
  rw[Int.sub_eq_add_neg,←smI_neg,←smI_add]
  refine smI_congr fun j _=>?_
  rw[Int.sub_mul,←Int.sub_eq_add_neg,Int.mul_assoc,Int.mul_comm (smI _ _) (en p j),←smI_smul]
  congr 1
  refine smI_congr fun q _=>?_
  rw[Int.mul_left_comm,Int.mul_comm (en p j)]
 rw[←h2,h1];rfl
theorem opt_le(ho:Opt n sh sum wo cs x){p:List Int}{d:Int}(hs:dl n sh p=sum*d)(ha:∀c,c∈cs→dl n c.coefs p≤c.limit*d)(hd:0<d):dl n wo x.pt*d≤dl n wo p*x.den:=by
 have hst:=opt_strong ho
 have hp:=dual_sum ho p
 have hle:smI (fun q=>en x.by_ q*dl n (x.tight.getD q dK).coefs p) (List.range x.tight.length)≤smI (fun q=>d*(en x.by_ q*(x.tight.getD q dK).limit)) (List.range x.tight.length):=by
  refine smI_le fun q hq=>?_
  have hq:=List.mem_range.1 hq
  have h1:=ha _ (ho.sub.subset (getD_mem (d:=dK) hq))
  have h2:=Int.mul_le_mul_of_nonneg_left h1 (ho.nn q hq)
  rw[←Int.mul_assoc,Int.mul_comm _ d]at h2
  exact h2
 rw[smI_smul]at hle
 obtain⟨B,hB⟩:∃B,B=smI (fun q=>en x.by_ q*(x.tight.getD q dK).limit) (List.range x.tight.length):=⟨_,rfl⟩
 rw[←hB]at hst hle
 rw[hs]at hp
 have hw:=ho.wd
 have hden:=ho.den
 have key:(x.each*sum-B)*d≤x.wd*dl n wo p:=by
  rw[hp,Int.sub_mul,Int.mul_assoc,Int.mul_comm B d]
  omega
 have k2:=Int.mul_le_mul_of_nonneg_right key (Int.le_of_lt hden)
 rw[Int.mul_right_comm,hst]at k2
 rw[Int.mul_assoc,Int.mul_assoc]at k2
 exact Int.le_of_mul_le_mul_left k2 hw
theorem opt_same{cs':List Cond}{y:M.Corner}(ho:Opt n sh sum wo cs x)(ho':Opt n sh sum wo cs' y)(hm:∀c,c∈cs↔c∈cs'):dl n wo x.pt*y.den=dl n wo y.pt*x.den:=
 Int.le_antisymm (opt_le ho ho'.sum (fun c hc=>ho'.all c ((hm c).1 hc)) ho'.den) (opt_le ho' ho.sum (fun c hc=>ho.all c ((hm c).2 hc)) ho.den)
theorem Small.mem(h:Small n sh wo sum cs){cs':List Cond}(hm:∀c,c∈cs'→c∈cs):Small n sh wo sum cs':=
 ⟨h.n1,h.n5,h.sl,h.wl,h.she,h.woe,h.sume,fun c hc=>h.cl c (hm c hc),fun c hc=>h.ce c (hm c hc),fun c hc=>h.le c (hm c hc),fun set hs hc hd c hcc=>h.keep set hs (fun d hd=>hm d (hc d hd)) hd c (hm c hcc)⟩
theorem Big.mem(h:Big n sh sum cs){cs':List Cond}(hm:∀c,c∈cs'→c∈cs):Big n sh sum cs':=
 fun set hs hc hd c hcc=>h set hs (fun d hd=>hm d (hc d hd)) hd c (hm c hcc)
theorem sub_idx{t:List Cond}(h:t.Sublist cs):∃ch:List Int,ch.length=t.length∧tOf cs ch=t∧(∀k,k<ch.length→1≤ch.getD k 0∧ch.getD k 0≤cs.length)∧∀k,k+1<ch.length→ch.getD k 0<ch.getD (k+1) 0:=by
 obtain⟨ix,h1,h2⟩:=List.sublist_eq_map_getElem h
 refine⟨ix.map fun i=>((i.val+1:Nat):Int),by rw[h1];simp,?_,fun k hk=>?_,fun k hk=>?_⟩
 ·rw[h1]
  unfold tOf
  rw[List.map_map]
  refine List.map_congr_left fun i _=>?_
  show cs.getD (((i.val+1:Nat):Int).toNat-1) dK=cs[i]
  rw[Int.toNat_natCast,Nat.add_sub_cancel]
  simp
 ·have hk':k<ix.length:=by simpa using hk
  have e:(ix.map fun i=>((i.val+1:Nat):Int)).getD k 0=((ix[k].val+1:Nat):Int):=by simp[hk']
  rw[e]
  have:=ix[k].isLt
  omega
 ·have hk':k+1<ix.length:=by simpa using hk
  have e1:(ix.map fun i=>((i.val+1:Nat):Int)).getD k 0=((ix[k].val+1:Nat):Int):=by simp[show k<ix.length by omega]
  have e2:(ix.map fun i=>((i.val+1:Nat):Int)).getD (k+1) 0=((ix[k+1].val+1:Nat):Int):=by simp[hk']
  rw[e1,e2]
  have:=List.pairwise_iff_getElem.1 h2 k (k+1) (by omega) hk' (by omega)
  have:ix[k].val<ix[k+1].val:=this
  omega
theorem grow_le{ch:List Int}(hg:∀k,k+1<ch.length→ch.getD k 0<ch.getD (k+1) 0){i:Nat}:∀{j:Nat},i≤j→j<ch.length→ch.getD i 0+((j-i:Nat):Int)≤ch.getD j 0:=by
 intro j
 induction j with
 |zero=>
  intro h1 h2
  obtain rfl:i=0:=by omega
  simp
 |succ j ih=>
  intro h1 h2
  by_cases e:i=j+1
  ·subst e;simp
  ·have:=ih (by omega) (by omega)
   have:=hg j h2
   omega
theorem idx_val{d:Nat}{L:Int}{ch:List Int}(hl:ch.length=d)(hb:∀k,k<ch.length→1≤ch.getD k 0∧ch.getD k 0≤L-1)(hg:∀k,k+1<ch.length→ch.getD k 0<ch.getD (k+1) 0):Val d L ch:=by
 refine⟨hl,fun k hk=>?_,fun k hk=>?_,fun k hk=>hg k (by omega)⟩
 ·have h1:=(hb 0 (by omega)).1
  have:=grow_le hg (i:=0) (j:=k) (by omega) (by omega)
  omega
 ·have h1:=(hb (d-1) (by omega)).2
  have:=grow_le hg (i:=k) (j:=d-1) (by omega) (by omega)
  omega
theorem dl_castR(a p:List Int)(d:Int)(hd:((d:Int):Rat)≠0):sm (fun c=>((en a c:Int):Rat)*(((en p c:Int):Rat)/((d:Int):Rat))) (List.range n)*((d:Int):Rat)=((dl n a p:Int):Rat):=by
 unfold dl
 rw[smI_cast,Rat.mul_comm,←sm_smul]
 refine sm_congr fun c _=>?_
 rw[Rat.intCast_mul]
 have:((en p c:Int):Rat)/((d:Int):Rat)*((d:Int):Rat)=((en p c:Int):Rat):=Rat.div_mul_cancel hd
 rw[Rat.mul_comm,Rat.mul_assoc,this]
theorem opt_psolve{cs':List Cond}(h:Small n sh wo sum cs')(ho:Opt n sh sum wo cs x)(hm:∀c,c∈cs↔c∈cs'):M.psolve sh sum wo cs'≠none:=by
 intro hn
 have hd0:((x.den:Int):Rat)≠0:=by
  intro e1
  have:=Rat.intCast_inj.1 (show((x.den:Int):Rat)=((0:Int):Rat)from e1)
  have:=ho.den;omega
 have hdp:(0:Rat)<((x.den:Int):Rat):=Rat.intCast_lt_intCast.2 ho.den
 have hwp:(0:Rat)<((x.wd:Int):Rat):=Rat.intCast_lt_intCast.2 ho.wd
 have hw0:((x.wd:Int):Rat)≠0:=by
  intro e1
  have:=Rat.intCast_inj.1 (show((x.wd:Int):Rat)=((0:Int):Rat)from e1)
  have:=ho.wd;omega
 have hix:∀q,∃a:Nat,q<x.tight.length→a<cs'.length∧cs'.getD a dK=x.tight.getD q dK:=by
  intro q
  by_cases hq:q<x.tight.length
  ·obtain⟨a,ha,e⟩:=List.getElem_of_mem ((hm _).1 (ho.sub.subset (getD_mem (d:=dK) hq)))
   exact⟨a,fun _=>⟨ha,by rw[←e];simp[ha]⟩⟩
  ·exact⟨0,fun h=>absurd h hq⟩
 obtain⟨ix,hix⟩:=Classical.axiomOfChoice hix
 obtain⟨B,hBd⟩:∃B:List Nat,B=(List.range x.tight.length).map fun q=>ix q+1:=⟨_,rfl⟩
 have hBl:B.length=x.tight.length:=by rw[hBd];simp
 have htl:=ho.tl
 have hrow0:∀c,rowF sh cs' 0 c=((en sh c:Int):Rat):=fun c=>by unfold rowF;rw[mat0]
 have hrow:∀q c,q<x.tight.length→rowF sh cs' (ix q+1) c=((en (x.tight.getD q dK).coefs c:Int):Rat):=by
  intro q c hq
  unfold rowF
  rw[matS,(hix q hq).2]
 have hD:D (rowF sh cs') ([0]++B) (List.range n)≠0:=by
  refine(D_ne (f:=fun a c=>en ((M.mat sh cs').getD a []) c)).2 ?_
  have hne:DI en (M.mat sh x.tight) (List.range n)≠0:=by
   have:=ho.denE;have:=ho.den;omega
  rw[DI_idx (by simp[M.mat];omega)]at hne
  have e:[0]++B=(List.range n).map (fun i=>if i=0 then 0 else ix (i-1)+1):=by
   rw[←htl,List.range_succ_eq_map,List.map_cons,List.map_map,hBd]
   rfl
  rw[e,DI_map]
  rw[DI_congr (g:=fun i c=>en ((M.mat sh x.tight).getD i []) c) (fun i hi c _=>?_)]
  ·exact hne
  ·have hi:=List.mem_range.1 hi
   cases i with
   |zero=>rfl
   |succ q=>
    show en ((M.mat sh cs').getD (ix q+1) []) c=en ((M.mat sh x.tight).getD (q+1) []) c
    rw[matS,matS,(hix q (by omega)).2]
 have hnd:B.Nodup:=Df_nodup (A:=[0]) hD
 have hfind:∀q,q<x.tight.length→B.idxOf (ix q+1)=q:=by
  intro q hq
  have hql:q<B.length:=by omega
  have e:B[q]=ix q+1:=by simp[hBd]
  rw[←e]
  exact List.Nodup.idxOf_getElem hnd q hql
 refine psolve_none h hn (B:=B) (by omega) (fun a ha=>?_) hD ⟨fun a=>if a=0 then((x.each:Int):Rat)/((x.wd:Int):Rat)else-(((en x.by_ (B.idxOf a):Int):Rat)/((x.wd:Int):Rat)),fun a ha=>?_,fun c hc=>?_⟩
  (fun c=>((en x.pt c:Int):Rat)/((x.den:Int):Rat)) ?_ fun c hc=>?_
 ·rw[hBd]at ha
  obtain⟨q,hq,rfl⟩:=List.mem_map.1 ha
  have:=(hix q (List.mem_range.1 hq)).1
  omega
 ·rw[hBd]at ha
  obtain⟨q,hq,rfl⟩:=List.mem_map.1 ha
  have hq:=List.mem_range.1 hq
  show(if ix q+1=0 then _ else _)≤(0:Rat)
  rw[if_neg (by omega),hfind q hq]
  have h1:(0:Rat)≤((en x.by_ q:Int):Rat):=Rat.intCast_nonneg.2 (ho.nn q hq)
  have h3:((en x.by_ q:Int):Rat)/((x.wd:Int):Rat)*((x.wd:Int):Rat)=((en x.by_ q:Int):Rat):=Rat.div_mul_cancel hw0
  have h2:(0:Rat)≤((en x.by_ q:Int):Rat)/((x.wd:Int):Rat):=Rat.le_of_mul_le_mul_right (by rw[h3,Rat.zero_mul];exact h1) hwp
  grind
 ·have hc:=List.mem_range.1 hc
  have hdu:=ho.dual c hc
  have e:((en wo c:Int):Rat)*((x.wd:Int):Rat)=((x.each:Int):Rat)*((en sh c:Int):Rat)-sm (fun q=>((en x.by_ q:Int):Rat)*((en (x.tight.getD q dK).coefs c:Int):Rat)) (List.range x.tight.length):=by
   rw[←Rat.intCast_mul,←hdu,Rat.intCast_sub,Rat.intCast_mul,smI_cast]
   congr 1
   exact sm_congr fun q _=>Rat.intCast_mul _ _
  unfold woF
  rw[hBd,List.singleton_append]
  simp only[sm,sm_map]
  rw[hrow0,if_pos trivial]
  rw[sm_congr (h:=fun q=>(- (1/((x.wd:Int):Rat)))*(((en x.by_ q:Int):Rat)*((en (x.tight.getD q dK).coefs c:Int):Rat))) (fun q hq=>by
   have hq:=List.mem_range.1 hq
   rw[←hBd,if_neg (by omega),hfind q hq,hrow q c hq]
   rw[Rat.div_def,Rat.div_def];grind),sm_smul]
  have e2:((en wo c:Int):Rat)=(((en wo c:Int):Rat)*((x.wd:Int):Rat))/((x.wd:Int):Rat):=(Rat.mul_div_cancel hw0).symm
  rw[e2,e,Rat.div_def,Rat.div_def,Rat.div_def]
  grind
 ·have:=dl_castR (n:=n) sh x.pt x.den hd0
  rw[ho.sum,Rat.intCast_mul]at this
  exact rat_cancel hd0 this
 ·have:=dl_castR (n:=n) c.coefs x.pt x.den hd0
  have hle:=ho.all c ((hm c).2 hc)
  have hle:=Rat.intCast_le_intCast.2 hle
  rw[←this,Rat.intCast_mul]at hle
  exact Rat.le_of_mul_le_mul_right hle hdp
end
end Go.Bl
end
section
set_option maxRecDepth 100000
namespace Go.Bl
open Go.V Go.Proofs Go.Lp
section
variable {l : List Cask} {s : Sample} {w : Wts} {x : M.Corner}
theorem wts_right{wo:List Int}(h:RightL l s)(hp:Proof l s wo w):RightW l s w:=by
 obtain⟨a1,⟨a2,a3,a4,a5⟩,a6,a7,a8,a9⟩:=hp.all
 exact⟨h,hp.den,hp.each,hp.len,fun i=>by have:=a1 i;omega,⟨by omega,by omega,by omega,by omega⟩,⟨by omega,by omega,by omega,by omega⟩⟩
theorem proves_best(ht:M.taskErr l s=0)(hx:BestS l s x):M.proves l s (M.wtsOf x l.length)=(M.told1 (cost l x.pt) x.den,M.told2 (cost l x.pt) x.den,0):=by
 have h:=task_right ht
 have hR:=wts_right h hx.p
 have hd:=hx.p.den
 have ho:(M.openW l s (M.wtsOf x l.length) != 0)=false:=by rw[openW_of ht hR];rfl
 rw[proves_ok ho (fun k hk=>decide_eq_false (by
  have hc:=(h.rc k hk).cost
  have hg:=hx.p.gift k hk
  rw[costs_en hk]at hg
  have h1:(l.getD k dfC).cost*(M.wtsOf x l.length).den≤1000*200000000000:=Int.mul_le_mul hc.2 hd.2 (by omega) (by omega)
  have h2:0≤(l.getD k dfC).cost*(M.wtsOf x l.length).den:=Int.mul_nonneg hc.1 (by omega)
  rw[giveR_eq hR hk,Int.mul_comm (M.wtsOf x l.length).den,wrap_id (by omega) (by omega)]
  omega)),(boundR_eq hR).1]
 obtain⟨e1,e2⟩:=told_congr (n:=bound l s (M.wtsOf x l.length)) (d:=(M.wtsOf x l.length).den) (n':=cost l x.pt) (d':=x.den) (by omega) hx.b.dp (by rw[hx.eq,Int.mul_comm])
 rw[e1,e2]
theorem partFrom_ok{den:Int}{ps:List Int}:∀(n i:Nat),(∀j,i≤j→j<i+n→M.partAt l den ps j=0)→M.partFrom l den ps n i=0
 |0,_,_=>rfl
 |n+1,i,h=>by
  unfold M.partFrom
  rw[h i (Nat.le_refl _) (by omega)]
  exact partFrom_ok n (i+1) fun j h1 h2=>h j (by omega) (by omega)
theorem openErr_of(ht:M.taskErr l s=0){pt:List Int}{den far:Int}(hb:Blend l s pt den far)(hd:den≤200000000000)(hl:pt.length=l.length):M.openErr l s den pt=0:=by
 have h:=task_right ht
 have hp:=hb.parts h hd hl
 have hdp:=hb.dp
 have e1:M.partErr l den pt=0:=by
  have e2:M.partHead l den pt=0:=by
   unfold M.partHead
   rw[within_yes hp.den,beq_of_eq (show(pt.length:Int)=(l.length:Int) by rw[hl])];rfl
  unfold M.partErr
  rw[e2]
  refine partFrom_ok _ _ fun j _ hj=>?_
  have hj:j<l.length:=by omega
  have hv:=(h.rc j hj).vol
  have h0:0≤pt.getD j 0:=hb.p0 j hj
  have h1:pt.getD j 0≤(l.getD j dfC).vol*den:=hb.p1 j hj
  have b1:(l.getD j dfC).vol*den≤10000*200000000000:=Int.mul_le_mul hv.2 hd (by omega) (by omega)
  have b0:0≤(l.getD j dfC).vol*den:=Int.mul_nonneg hv.1 (by omega)
  unfold M.partAt
  rw[Int.mul_comm den,wrap_id (by omega) (by omega),decide_eq_true h0,decide_eq_true h1];rfl
 unfold M.openErr
 rw[ht,e1]
 have hv:=(sample_right (s:=s) (by
  have:=ht
  unfold M.taskErr at this
  exact first_nil _ this _ (by simp))).1
 have b1:s.vol*den≤10000*200000000000:=Int.mul_le_mul hv.2 hd (by omega) (by omega)
 have b0:0≤s.vol*den:=Int.mul_nonneg (by omega) (by omega)
 show M.unl (M.sumP (fun _=>1) l pt==IntKind.i64.wrap (den*s.vol)) 14=0
 rw[sum_vol h hp,hb.sum,Int.mul_comm den,wrap_id (by omega) (by omega),beq_of_eq rfl];rfl
theorem blend_best(ht:M.taskErr l s=0)(hx:BestS l s x):M.blendR l s x.den x.pt=(M.told1 (cost l x.pt) x.den,M.told2 (cost l x.pt) x.den,0):=by
 have h:=task_right ht
 have ho:(M.openErr l s x.den x.pt != 0)=false:=by rw[openErr_of ht hx.b hx.d hx.pl];rfl
 have hO:=open_of h hx.b hx.d hx.pl
 have ha:M.away l x.pt s≤0:=(away_le h hO).2 ⟨Int.le_refl _,fun k hk=>⟨hx.b.hi k hk,hx.b.lo k hk⟩⟩
 rw[blendR_ok ho,decide_eq_false (by omega),sum_cost h hO.parts];rfl
end
end Go.Bl
end
section
set_option maxRecDepth 100000
namespace Go.Bl
open Go.V Go.Proofs Go.Lp
namespace M
def rconds(l:List Cask)(s:Sample)(e:Nat):List Cond:=
 ((List.range 4).flatMap fun(k:Nat)=>[(⟨3,k,by_ l (l.length+e) fun c=>IntKind.i64.wrap ((rg s k).lo-val c k),0⟩:Cond),⟨2,k,by_ l (l.length+e) fun c=>IntKind.i64.wrap (val c k-(rg s k).hi),0⟩]) ++
 (((List.range l.length).map fun(i:Nat)=>(⟨1,i,only (l.length+e) i 1,(l.getD i dfC).vol⟩:Cond))++((List.range (l.length+e)).map fun(i:Nat)=>(⟨0,i,only (l.length+e) i (-1),0⟩:Cond)))
end M
section
variable {l : List Cask} {s : Sample} {e : Nat}
theorem rconds_mem(c:Cond):c∈M.limits l s e↔c∈M.rconds l s e:=by
 unfold M.limits M.rconds
 simp only[List.mem_append,List.mem_flatMap,List.mem_map,List.mem_cons,List.not_mem_nil,or_false]
 constructor
 ·rintro ((h|h)|⟨k,hk,h|h⟩)
  ·exact .inr (.inr h)
  ·exact .inr (.inl h)
  ·exact .inl ⟨k,hk,.inr h⟩
  ·exact .inl ⟨k,hk,.inl h⟩
 ·rintro (⟨k,hk,h|h⟩|h|h)
  ·exact .inr ⟨k,hk,.inr h⟩
  ·exact .inr ⟨k,hk,.inl h⟩
  ·exact .inl (.inr h)
  ·exact .inl (.inl h)
theorem rconds_len:(M.rconds l s e).length=8+(l.length+(l.length+e)):=by
 unfold M.rconds
 rw[List.length_append,List.length_append,List.length_map,List.length_map,List.length_range,List.length_range]
 rfl
theorem map_range_get{α β:Type}{l:List α}{d:α}{f:α→β}:(List.range l.length).map (fun i=>f (l.getD i d))=l.map f:=by
 refine List.ext_getElem (by simp) fun i h1 h2=>?_
 have hi:i<l.length:=by simpa using h1
 simp[hi]
theorem by_neg(h:∀i,i<l.length→True){f:Cask→Int}:(M.by_ l (l.length+0) f).map (fun x=> -x)=l.map fun c=> - f c:=by
 unfold M.by_
 rw[List.map_map,Nat.add_zero,←map_range_get (d:=dfC) (l:=l)]
 refine List.map_congr_left fun i hi=>?_
 have hi:=List.mem_range.1 hi
 show-cond (Nat.beq i l.length) (-1) (f (l.getD i _))=_
 rw[show Nat.beq i l.length=false from by rw[Bool.eq_false_iff];intro e;have:=Nat.eq_of_beq_eq_true e;omega]
 rfl
theorem only_neg(n a:Nat)(x:Int):(M.only n a x).map (fun x=> -x)=M.only n a (-x):=by
 unfold M.only
 rw[List.map_map]
 refine List.map_congr_left fun i _=>?_
 show-cond _ x 0=cond _ (-x) 0
 cases Nat.beq i a <;>rfl
theorem flat_one{f:Nat→Rw}:∀{L:List Nat},(L.map fun i=>[f i]).flatten=L.map f:=by
 intro L
 induction L with
 |nil=>rfl
 |cons x L ih=>rw[List.map_cons,List.flatten_cons,ih];rfl
theorem rrows_neg(h:RightL l s):M.rrows l s=rowsN (M.shares l 0) s.vol (M.rconds l s 0):=by
 unfold M.rrows M.chunks rowsN M.rconds
 rw[List.flatten_cons,List.flatten_append,List.flatten_append,flat_one,flat_one,List.map_append,List.map_append,List.map_map,List.map_map,List.map_flatMap]
 show _::_=_::_
 congr 1
 ·congr 1
  unfold M.shares;simp
 show[]++(_++(_++_))=_
 rw[List.nil_append]
 congr 1
 ·rw[List.flatMap_def]
  congr 1
  refine List.map_congr_left fun k hk=>?_
  have hk:=List.mem_range.1 hk
  show[_,_]=[negC _,negC _]
  unfold negC
  dsimp only
  rw[by_neg (fun _ _=>trivial),by_neg (fun _ _=>trivial)]
  have e1:(l.map fun c=>w64 (M.val c k-(M.rg s k).lo))=l.map fun c=> - IntKind.i64.wrap ((M.rg s k).lo-M.val c k):=by
   rw[←map_range_get (d:=dfC) (l:=l),←map_range_get (d:=dfC) (l:=l)]
   refine List.map_congr_left fun i hi=>?_
   have hi:=List.mem_range.1 hi
   have:=h.loF hi hk
   rw[this.1]
   show IntKind.wrap IntKind.i64 _=_
   rw[wrap_id (by omega) (by omega)];omega
  have e2:(l.map fun c=>w64 ((M.rg s k).hi-M.val c k))=l.map fun c=> - IntKind.i64.wrap (M.val c k-(M.rg s k).hi):=by
   rw[←map_range_get (d:=dfC) (l:=l),←map_range_get (d:=dfC) (l:=l)]
   refine List.map_congr_left fun i hi=>?_
   have hi:=List.mem_range.1 hi
   have:=h.hiF hi hk
   rw[this.1]
   show IntKind.wrap IntKind.i64 _=_
   rw[wrap_id (by omega) (by omega)];omega
  rw[e1,e2]
  rfl
 ·congr 1
  ·refine List.map_congr_left fun i hi=>?_
   have hi:=List.mem_range.1 hi
   have:=(h.rc i hi).vol
   show _=negC _
   unfold negC
   dsimp only
   rw[only_neg]
   congr 1
   show IntKind.wrap IntKind.i64 (0-(l.getD i dfC).vol)=_
   rw[wrap_id (by omega) (by omega)];omega
  ·refine List.map_congr_left fun i hi=>?_
   show _=negC _
   unfold negC
   dsimp only
   rw[only_neg]
   rfl
theorem sol_small(h:RightL l s)(he:e≤1){set:List Cond}(hs:set.length+1=l.length+e)(hm:∀c,c∈set→c∈M.limits l s e)(hd:DI en (M.mat (M.shares l e) set) (List.range (l.length+e))≠0){k:Nat}(hk:k<l.length+e) :
  Kb l.length k*(en (M.sol (M.mat (M.shares l e) set) (M.right s.vol set)) k).natAbs≤1000000000000000000:=by
 obtain⟨a1,a2,a3,a4,a5⟩:=limits_small h he
 have hv:s.vol.natAbs≤10000:=by have:=h.v;omega
 have n5:l.length+e≤5:=by have:=h.n4;omega
 have hq:=sq_mat n5 a1 a2 a3 a4 hs hm
 have hr:=right_small (set:=set) hv a5 hm
 obtain⟨e1,e2,e3⟩:=solve_exact hq hr hd
 have hb:(en (M.sol (M.mat (M.shares l e) set) (M.right s.vol set)) k).natAbs≤bnd (fun c=>if c=k then 10000 else S0 l.length c) (fun c=>if c=k then 10000 else Kb l.length c) (List.range (l.length+e)):=by
  show((M.sol (M.mat (M.shares l e) set) (M.right s.vol set)).getD k 0).natAbs≤_
  rw[e3 k hk,if_neg_abs,setCol_DI hq.len hq.row hk]
  refine DI_bnd_idx (by omega) (fun j hj=>?_) (fun i h1 hi j hj=>?_)
  ·by_cases ej:j=k
   ·rw[if_pos ej,if_pos ej,right0];exact hv
   ·rw[if_neg ej,if_neg ej];exact mat_ent0 j
  ·by_cases ej:j=k
   ·rw[if_pos ej,if_pos ej];exact hr i
   ·rw[if_neg ej,if_neg ej];exact mat_ent h he hm i h1 (by omega) j hj
 exact Nat.le_trans (Nat.mul_le_mul_left _ hb) (num_sol _ h.n4 e he k (by omega))
theorem sum_const_le{f:Nat→Int}{B:Nat}:∀n,(∀k,k<n→(f k).natAbs≤B)→(smI f (List.range n)).natAbs≤n*B:=by
 intro n
 induction n with
 |zero=>intro _;simp[smI]
 |succ n ih=>
  intro h
  rw[smI_succ]
  have:=ih fun k hk=>h k (by omega)
  have:=h n (by omega)
  rw[Nat.succ_mul]
  omega
theorem big_of(h:RightL l s)(he:e≤1):Big (l.length+e) (M.shares l e) s.vol (M.limits l s e):=by
 intro set hs hm hd c hc
 obtain⟨a1,a2,a3,a4,a5⟩:=limits_small h he
 have hv:s.vol.natAbs≤10000:=by have:=h.v;omega
 have n5:l.length+e≤5:=by have:=h.n4;omega
 have hq:=sq_mat n5 a1 a2 a3 a4 hs hm
 have hr:=right_small (set:=set) hv a5 hm
 obtain⟨e1,e2,e3⟩:=solve_exact hq hr hd
 constructor
 ·have:=sum_const_le (f:=fun k=>en c.coefs k*en (M.sol (M.mat (M.shares l e) set) (M.right s.vol set)) k) (B:=1000000000000000000) (l.length+e) (fun k hk=>by
   rw[Int.natAbs_mul]
   exact Nat.le_trans (Nat.mul_le_mul_right _ ((limits_ent h he hc).2.1 k hk)) (sol_small h he hs hm hd hk))
  have h5:(l.length+e)*1000000000000000000≤5*1000000000000000000:=Nat.mul_le_mul_right _ n5
  exact Nat.lt_of_le_of_lt (Nat.le_trans this h5) (by decide)
 ·have h1:=mat_den h he hs hm
  have h2:=(limits_ent h he hc).2.2
  rw[e1,Int.natAbs_mul]
  have:c.limit.natAbs*(DI en (M.mat (M.shares l e) set) (List.range (l.length+e))).natAbs≤10000*200000000000:=Nat.mul_le_mul (by omega) h1
  rw[Int.natAbs_natCast]
  omega
end
end Go.Bl
end
section
set_option maxRecDepth 100000
namespace Go.Bl
open Go.V Go.Proofs Go.Lp
theorem tOf_sub{cs:List Cond}{d:Nat}{ch:List Int}(hv:Val d ((cs.length:Int)+1) ch):(tOf cs ch).Sublist cs:=by
 have hb:∀k,k<ch.length→ch.getD k 0=ch.getD k 0∧1≤ch.getD k 0∧(ch.getD k 0).toNat-1<cs.length:=fun k hk=>by
  have hl:=hv.len
  have h1:=hv.lo k (by omega)
  have h2:=hv.hi k (by omega)
  exact⟨rfl,by omega,by omega⟩
 obtain⟨ix,hix⟩:∃ix:List (Fin cs.length),ix=List.ofFn (fun k:Fin ch.length=>(⟨(ch.getD k.val 0).toNat-1,(hb k.val k.isLt).2.2⟩:Fin cs.length)):=⟨_,rfl⟩
 have hp:ix.Pairwise (· < ·):=by
  rw[hix,List.pairwise_iff_getElem]
  intro i j hi hj hij
  simp only[List.length_ofFn]at hi hj
  simp only[List.getElem_ofFn]
  show(ch.getD i 0).toNat-1<(ch.getD j 0).toNat-1
  have hl:=hv.len
  have h1:=hb i hi
  have:=hv.grow (k:=i) (j:=j) (by omega) (by omega)
  omega
 have e:tOf cs ch=ix.map (fun i=>cs[i]):=by
  unfold tOf
  rw[hix]
  refine List.ext_getElem (by simp) fun i h1 h2=>?_
  have hi:i<ch.length:=by simpa using h1
  simp only[List.getElem_map,List.getElem_ofFn]
  have e2:ch.getD i 0=ch[i]:=by simp[hi]
  have h3:=(hb i hi).2.2
  rw[e2]at h3
  rw[List.getD_eq_getElem?_getD,List.getElem?_eq_getElem h3]
  simp[hi]
 rw[e]
 exact List.map_getElem_sublist hp
theorem rat_wt{rows:List Rw}{costs ch:List Int}{v:RC}(h:M.rat rows costs ch=some v):v.wt.length=rows.length:=by
 unfold M.rat at h
 cases h1:M.rdn (M.rmat rows ch) (M.rright rows ch)==0
 case true=>rw[h1]at h;cases h
 rw[h1]at h
 cases h2:M.rkeeps (M.rsl (M.rmat rows ch) (M.rright rows ch)) (M.rdn (M.rmat rows ch) (M.rright rows ch)) rows
 ·rw[h2]at h;cases h
 rw[h2]at h
 cases h3:M.rnn (M.rsl (M.turned (M.rmat rows ch)) costs) ch.length
 ·rw[h3]at h;cases h
 rw[h3]at h
 simp only[cond_true,cond_false,Option.some.injEq]at h
 subst h
 exact rwtsK_len _
section
variable {n : Nat} {sh wo : List Int} {sum : Int} {cs : List Cond}
theorem rbest_opt(h:Small n sh wo sum cs)(hB:Big n sh sum cs)(hn:n≤cs.length+1){v:RC}(hv:M.rbest (rowsN sh sum cs) wo=some v) :
  ∃y,Opt n sh sum wo cs y∧y.pt=v.pt∧y.den=v.pd∧v.wt.length=cs.length+1:=by
 have hl:(rowsN sh sum cs).length=cs.length+1:=by simp[rowsN]
 have hw:=h.wl
 obtain⟨e,h1,h2⟩:=rbest_some (by rw[hl,hw];exact hn) (by rw[hw];exact h.n1) hv
 rw[hw,hl]at h1
 have h1:Val (n-1) ((cs.length:Int)+1) e:=h1
 rcases rat_corner h hB h1 with⟨g1,_⟩|⟨v',y,g1,g2,g3,g4⟩
 ·rw[g1]at h2;cases h2
 ·rw[g1]at h2
  cases h2
  exact⟨y,corner_opt h (tOf_len h1 h.n1) (tOf_sub h1) g2,g3,g4,by rw[rat_wt g1,hl]⟩
theorem rbest_ne(h:Small n sh wo sum cs)(hB:Big n sh sum cs)(hn:n≤cs.length+1){cs0:List Cond}{x:M.Corner}(ho:Opt n sh sum wo cs0 x)(hm:∀c,c∈cs0↔c∈cs):M.rbest (rowsN sh sum cs) wo≠none:=by
 intro hv
 have hl:(rowsN sh sum cs).length=cs.length+1:=by simp[rowsN]
 have hw:=h.wl
 have hall:=rbest_none (by rw[hl,hw];exact hn) (by rw[hw];exact h.n1) hv
 cases hp:M.psolve sh sum wo cs with
 |none=>exact opt_psolve h ho hm hp
 |some y=>
  unfold M.psolve at hp
  obtain⟨t,h1,h2,h3⟩:=pick_some hp
  rw[List.nil_append]at h3
  obtain⟨ch,g1,g2,g3,g4⟩:=sub_idx h1
  have hsl:=h.sl
  have hval:Val (n-1) ((cs.length:Int)+1) ch:=idx_val (by omega) (fun k hk=>⟨(g3 k hk).1,by have:=(g3 k hk).2;omega⟩) g4
  have hr:=hall ch (by rw[hw,hl];exact hval)
  rcases rat_corner h hB hval with⟨_,q2⟩|⟨v',y',q1,_⟩
  ·rw[g2]at q2;rw[q2]at h3;cases h3
  ·rw[q1]at hr;cases hr
theorem sq_any{rows:List Rw}(n5:n≤5)(hl:∀r,r∈rows→r.co.length=n)(he:∀r,r∈rows→∀c,(en r.co c).natAbs≤1000)(h0:0<rows.length){ch:List Int}(hc:ch.length+1=n)(hi:∀v,v∈ch→0≤v∧v<(rows.length:Int)):Sq n (M.rmat rows ch):=by
 have hr:∀r,r∈M.rmat rows ch→∃q,q∈rows∧r=q.co:=by
  intro r hr
  rcases List.mem_cons.1 hr with rfl|hr
  ·exact⟨_,getD_mem (by omega),rfl⟩
  ·obtain⟨v,hv,rfl⟩:=List.mem_map.1 hr
   have:=hi v hv
   exact⟨_,getD_mem (by omega),rfl⟩
 refine⟨n5,by simp[M.rmat];omega,fun r h=>?_,fun r h c=>?_⟩
 ·obtain⟨q,h1,rfl⟩:=hr r h
  exact hl q h1
 ·obtain⟨q,h1,rfl⟩:=hr r h
  exact he q h1 c
theorem any_right{rows:List Rw}(hb:∀r,r∈rows→r.le.natAbs≤10000)(h0:0<rows.length){ch:List Int}(hi:∀v,v∈ch→0≤v∧v<(rows.length:Int))(i:Nat):((M.rright rows ch).getD i 0).natAbs≤10000:=by
 refine getD_small (l:=M.rright rows ch) (fun x hx=>?_) i
 rcases List.mem_cons.1 hx with rfl|hx
 ·exact hb _ (getD_mem (by omega))
 ·obtain⟨v,hv,rfl⟩:=List.mem_map.1 hx
  have:=hi v hv
  exact hb _ (getD_mem (by omega))
theorem rowsN_mem{r:Rw}(h:Small n sh wo sum cs)(hr:r∈rowsN sh sum cs):r.co.length=n∧(∀c,(en r.co c).natAbs≤1000)∧r.le.natAbs≤10000:=by
 rcases List.mem_cons.1 hr with rfl|hr
 ·exact⟨h.sl,fun c=>getD_small h.she c,h.sume⟩
 ·obtain⟨c,hc,rfl⟩:=List.mem_map.1 hr
  refine⟨by show(c.coefs.map _).length=n;rw[List.length_map];exact h.cl c hc,fun j=>?_,?_⟩
  ·show(en (c.coefs.map _) j).natAbs≤_
   rw[en_neg,Int.natAbs_neg]
   exact getD_small (h.ce c hc) j
  ·show(-c.limit).natAbs≤_
   rw[Int.natAbs_neg]
   exact h.le c hc
theorem bok_of(h:Small n sh wo sum cs){B:Nat}(hB:n≤B)(hn:n≤cs.length+1)(hL:cs.length+1≤1000):BOK B (rowsN sh sum cs) wo:=by
 have hw:=h.wl
 have hl:(rowsN sh sum cs).length=cs.length+1:=by simp[rowsN]
 refine⟨by rw[hw];exact h.n1,by omega,by have:=h.n5;omega,by omega,by omega,fun r hr=>by rw[hw];exact(rowsN_mem h hr).1,fun ch hc hi hd=>?_⟩
 have hq:=sq_any (n:=n) h.n5 (fun r hr=>(rowsN_mem h hr).1) (fun r hr=>(rowsN_mem h hr).2.1) (by omega) (ch:=ch) (by omega) hi
 have hr:=any_right (fun r hr=>(rowsN_mem h hr).2.2) (by omega) hi
 obtain⟨_,r2⟩:=rsolve_eq hq hr
 obtain⟨t1,_⟩:=rsolve_eq hq.turned h.ws
 rw[r2]at hd
 have hne:DI en (M.rmat (rowsN sh sum cs) ch) (List.range n)≠0:=fun e=>hd (solve_den hq e)
 rw[t1,(solve_exact hq.turned h.ws (turned_ne hq hne)).2.1,hw]
end
section
variable {l : List Cask} {s : Sample}
theorem rb_small(h:RightL l s):Small (l.length+0) (M.shares l 0) (M.costs l) s.vol (M.rconds l s 0):=
 (small_of h (e:=0) (by decide) (costs_len l) (ent_of (costs_len l) (costs_small h))).mem fun c hc=>(rconds_mem c).2 hc
theorem rb_big(h:RightL l s):Big (l.length+0) (M.shares l 0) s.vol (M.rconds l s 0):=(big_of h (e:=0) (by decide)).mem fun c hc=>(rconds_mem c).2 hc
theorem dl_costs(p:List Int):dl (l.length+0) (M.costs l) p=cost l p:=by
 unfold dl cost
 exact smI_congr fun j hj=>by rw[costs_en (List.mem_range.1 hj)]
theorem rbest_spec(h:RightL l s){v:RC}(hv:M.rbest (M.rrows l s) (M.costs l)=some v) :
  ∃y,Opt (l.length+0) (M.shares l 0) s.vol (M.costs l) (M.rconds l s 0) y∧y.pt=v.pt∧y.den=v.pd∧Blend l s v.pt v.pd 0∧v.pd≤200000000000∧v.pt.length=l.length∧v.wt.length=9+l.length+l.length:=by
 rw[rrows_neg h]at hv
 have hlen:=rconds_len (l:=l) (s:=s) (e:=0)
 obtain⟨y,ho,h1,h2,h3⟩:=rbest_opt (rb_small h) (rb_big h) (by omega) hv
 obtain⟨b1,_⟩:=conds_blend h (e:=0) (by decide) ho.den ho.sum (fun c hc=>ho.all c ((rconds_mem c).1 hc))
 have hd:=mat_den h (e:=0) (by decide) ho.tl (fun c hc=>(rconds_mem c).2 (ho.sub.subset hc))
 have hE:=ho.denE
 refine⟨y,ho,h1,h2,?_,by rw[←h2];omega,by rw[←h1,ho.pl];rfl,by omega⟩
 rw[←h1,←h2]
 exact b1
theorem rbok(h:RightL l s):RBOK l s:=by
 have hlen:=rconds_len (l:=l) (s:=s) (e:=0)
 have h4:=h.n4
 refine⟨h.n1,h.n4,?_,fun v hv=>?_⟩
 ·rw[rrows_neg h]
  exact bok_of (rb_small h) (by omega) (by omega) (by omega)
 ·obtain⟨y,_,_,_,hb,hd,hl,hw⟩:=rbest_spec h hv
  have ho:=open_of h hb hd hl
  exact⟨hl,by have:=hb.dp;omega,by have:=hb.dp;unfold i64ok;omega,cost_ok ho,by omega⟩
theorem rbest_law(ht:M.taskErr l s=0):(∃x v,BestS l s x∧M.best l s=M.bestC l x∧M.rBest l s=M.rblend l (some v)∧M.told1 (M.sumP Cask.cost l x.pt) x.den=M.told1 (M.sumP Cask.cost l v.pt) v.pd∧M.told2 (M.sumP Cask.cost l x.pt) x.den=M.told2 (M.sumP Cask.cost l v.pt) v.pd) ∨
  (M.best l s=⟨0,0,0,[],M.zeroW,12⟩∧M.rBest l s=⟨0,0,0,[],M.zeroW,12⟩):=by
 have h:=task_right ht
 have hb:M.best l s=(match M.pBest l s with|some x=>M.bestC l x|none=>⟨0,0,0,[],M.zeroW,12⟩):=by
  unfold M.best;rw[ht];rfl
 have hlen:=rconds_len (l:=l) (s:=s) (e:=0)
 cases hp:M.pBest l s with
 |some x=>
  rw[hp]at hb
  have hx:=best_some h hp
  have ho:=psolve_some (small_of h (e:=0) (by decide) (costs_len l) (ent_of (costs_len l) (costs_small h))) hp
  have hne:=rbest_ne (rb_small h) (rb_big h) (by omega) ho rconds_mem
  rw[←rrows_neg h]at hne
  cases hv:M.rbest (M.rrows l s) (M.costs l)with
  |none=>exact absurd hv hne
  |some v=>
   obtain⟨y,hy,h1,h2,hbl,hd,hl,_⟩:=rbest_spec h hv
   have hsame:=opt_same ho hy rconds_mem
   rw[dl_costs,dl_costs,h1,h2]at hsame
   have hox:=open_of h hx.b hx.d hx.pl
   have hov:=open_of h hbl hd hl
   have e1:=sum_cost h hox.parts
   have e2:=sum_cost h hov.parts
   obtain⟨t1,t2⟩:=told_congr hx.b.dp hbl.dp hsame
   refine .inl ⟨x,v,hx,hb,?_,?_,?_⟩
   ·unfold M.rBest;rw[hv]
   ·rw[e1,e2];exact t1
   ·rw[e1,e2];exact t2
 |none=>
  rw[hp]at hb
  refine .inr ⟨hb,?_⟩
  cases hv:M.rbest (M.rrows l s) (M.costs l)with
  |none=>unfold M.rBest;rw[hv];rfl
  |some v=>
   obtain⟨y,hy,h1,h2,hbl,hd,hl,_⟩:=rbest_spec h hv
   exact(best_none h hp hbl).elim
end
end Go.Bl
end
section
set_option maxRecDepth 100000
namespace Go.Bl
open Go.V Go.Proofs Go.Lp
def noT(b:BestR)(d:Int):T (List Ar):=
 (.br (b.e==d) (.br (b.c0==0&&(b.c1==0&&true)) (.br (b.den==0) (.br ((b.pt.length:Int)==0) (.br (b.w.den==0) (.br (b.w.each==0) (.br ((b.w.casks.length:Int)==0) (.br (b.w.x0==0&&(b.w.x1==0&&(b.w.x2==0&&(b.w.x3==0&&true)))) (.ret [rB (b.w.y0==0&&(b.w.y1==0&&(b.w.y2==0&&(b.w.y3==0&&true))))]) (.ret [rB false])) (.ret [rB false])) (.ret [rB false])) (.ret [rB false])) (.ret [rB false])) (.ret [rB false])) (.ret [rB false])) (.ret [rB false]))
def yesT(l:List Cask)(s:Sample)(b:BestR)(c0 c1:Int):T (List Ar):=
 .br (b.e != 0) (.ret [rB false]) (.br (!(b.c0==c0&&(b.c1==c1&&true))) (.ret [rB false]) (.br ((b.pt.length:Int) != (l.length:Int)) (.ret [rB false]) (.br ((b.w.casks.length:Int) != (l.length:Int)) (.ret [rB false])
  (T.needs [eC.Is l.length (eC.F l),eI.Is b.pt.length (eI.F b.pt),∀c,c∈eC.list l.length (eC.F l)→c.nm.size≤1000000,(eI.list b.pt.length (eI.F b.pt)).length≤1000,
    eC.Is l.length (eC.F l),eI.Is b.w.casks.length (eI.F b.w.casks),∀c,c∈eC.list l.length (eC.F l)→c.nm.size≤1000000,(eI.list b.w.casks.length (eI.F b.w.casks)).length≤1000000,(eC.list l.length (eC.F l)).length≤1000000]
   (chkT b (M.blendR (eC.list l.length (eC.F l)) s b.den (eI.list b.pt.length (eI.F b.pt))) (M.proves (eC.list l.length (eC.F l)) s ⟨b.w.den,b.w.each,b.w.x0,b.w.x1,b.w.x2,b.w.x3,b.w.y0,b.w.y1,b.w.y2,b.w.y3,eI.list b.w.casks.length (eI.F b.w.casks)⟩))))))
where chkT (b:BestR) (r p:Int×Int×Int):T (List Ar):=
 (.br (r.2.2==0) (.br (r.1==b.c0&&(r.2.1==b.c1&&true)) (.br (p.2.2==0) (.ret [rB (p.1==b.c0&&(p.2.1==b.c1&&true))]) (.ret [rB false])) (.ret [rB false])) (.ret [rB false]))
def tr3(l:List Cask)(s:Sample):T (List Ar):=
 .br (!true) (.ret [rB false]) (T.needs [eC.Is l.length (eC.F l)] (.br (!M.someN 4 (eC.list l.length (eC.F l))) (.ret [rB true])
  (T.needs [eC.Is l.length (eC.F l),(eC.list l.length (eC.F l)).length≤1000000,eC.Is l.length (eC.F (eC.list l.length (eC.F l))),∀c,c∈eC.list l.length (eC.F (eC.list l.length (eC.F l)))→c.nm.size≤1000000,eC.Is l.length (eC.F l),∀c,c∈eC.list l.length (eC.F l)→c.nm.size≤1000000]
   (lawT l s (M.best (eC.list l.length (eC.F (eC.list l.length (eC.F l)))) s) (M.taskErr (eC.list l.length (eC.F l)) s) (M.rBest (eC.list l.length (eC.F l)) s)))))
where lawT (l:List Cask) (s:Sample) (b:BestR) (d:Int) (w:BestR):T (List Ar):=
 (.br (d==0) (T.needs [eC.Is l.length (eC.F l),RBOK (eC.list l.length (eC.F l)) s] (.br (w.e != 0) (noT b w.e) (yesT l s b w.c0 w.c1))) (.br (d != 0) (noT b d) (yesT l s b 0 0)))
theorem t3(q_l:Bool)(l:List Cask)(sv l0 h0 l1 h1 l2 h2 l3 h3:Int):runFnX Try.prog G0 (lookS [v18,v19,v21,v22,v20f,v23z,v24,v25]) (fun _=>[]) [] 1 60 4 3 Try.f3 [.c (.sl q_l l.length 7 (eC.F l)),.agg [dI sv,dI l0,dI h0,dI l1,dI h1,dI l2,dI h2,dI l3,dI h3]] =
  tr3 l (⟨sv,⟨l0,h0⟩,⟨l1,h1⟩,⟨l2,h2⟩,⟨l3,h3⟩⟩:Sample):=by kernel_rfl
theorem noT_wp{d:Int}:(noT ⟨0,0,0,[],M.zeroW,d⟩ d).wp (fun rs=>rsEqv rs [rB true]):=by
 unfold noT
 refine⟨fun _=>?_,fun h=>?_⟩
 ·repeat' (first|exact rsEqv_refl _|refine⟨fun _=>?_,fun h=>by have h:true=false:=h;cases h⟩)
 ·rw[show((⟨0,0,0,[],M.zeroW,d⟩:BestR).e==d)=true from beq_self_eq_true d]at h
  cases h
theorem w3(l:List Cask)(s:Sample):(tr3 l s).wp (fun rs=>rsEqv rs [rB true]):=by
 unfold tr3
 simp only[Enc.list_F]
 refine⟨fun hb=>absurd hb (by decide),fun _=>⟨Enc.is_F _ _ _,fun _=>rsEqv_refl _,fun hb=>?_⟩⟩
 have hs:M.someN 4 l=true:=by simpa using hb
 obtain⟨hl,hn⟩:=someN_small hs
 have hn':∀c,c∈l→c.nm.size≤1000000:=fun c hc=>Nat.le_trans (hn c hc) (by decide)
 have hl':l.length≤1000000:=by omega
 refine⟨Enc.is_F _ _ _,hl',Enc.is_F _ _ _,hn',Enc.is_F _ _ _,hn',?_⟩
 unfold tr3.lawT
 simp only[Enc.list_F]
 by_cases ht:M.taskErr l s=0
 ·refine⟨fun _=>?_,fun h=>by rw[ht]at h;cases h⟩
  have h:=task_right ht
  refine⟨Enc.is_F _ _ _,rbok h,?_⟩
  rcases rbest_law ht with⟨x,v,hx,e1,e2,t1,t2⟩|⟨e1,e2⟩
  ·rw[e1,e2]
   refine⟨fun h=>absurd h (by show ¬((0:Int) != 0)=true;decide),fun _=>?_⟩
   unfold yesT
   simp only[Enc.list_F]
   have hpl:=hx.pl
   have hwl:=hx.p.len
   have b1:=blend_best ht hx
   have b2:=proves_best ht hx
   have eb:=bestC_eq h hx
   refine⟨fun h=>absurd h (by show ¬((0:Int) != 0)=true;decide),fun _=>⟨fun h=>?_,fun _=>⟨fun h=>?_,fun _=>⟨fun h=>?_,fun _=>?_⟩⟩⟩⟩
   ·have k:(!((M.bestC l x).c0==(M.rblend l (some v)).c0&&((M.bestC l x).c1==(M.rblend l (some v)).c1&&true)))=true:=h
    rw[show(M.bestC l x).c0=(M.rblend l (some v)).c0 from t1,show(M.bestC l x).c1=(M.rblend l (some v)).c1 from t2]at k
    simp at k
   ·have k:((x.pt.length:Int) != (l.length:Int))=true:=h
    rw[hpl]at k
    simp at k
   ·have k:(((M.wtsOf x l.length).casks.length:Int) != (l.length:Int))=true:=h
    rw[hwl]at k
    simp at k
   ·refine⟨Enc.is_F _ _ _,Enc.is_F _ _ _,hn',by show x.pt.length≤1000;have:=h.n4;omega,Enc.is_F _ _ _,Enc.is_F _ _ _,hn',by show(M.wtsOf x l.length).casks.length≤1000000;omega,hl',?_⟩
    show(yesT.chkT (M.bestC l x) (M.blendR l s x.den x.pt) (M.proves l s (M.wtsOf x l.length))).wp _
    rw[eb,b1,b2]
    unfold yesT.chkT
    simp only[beq_self_eq_true,Bool.and_self]
    exact⟨fun _=>⟨fun _=>⟨fun _=>rsEqv_refl _,fun h=>by cases h⟩,fun h=>by cases h⟩,fun h=>by cases h⟩
  ·rw[e1,e2]
   refine⟨fun _=>noT_wp,fun h=>absurd h (by show ¬((12:Int) != 0)=false;decide)⟩
 ·refine⟨fun h=>absurd (eq_of_beq h) ht,fun _=>?_⟩
  have hne:(M.taskErr l s != 0)=true:=by simpa using ht
  have eb:M.best l s=⟨0,0,0,[],M.zeroW,M.taskErr l s⟩:=by unfold M.best;rw[hne];rfl
  rw[eb]
  exact⟨fun _=>noT_wp,fun h=>by rw[hne]at h;cases h⟩
def dom3z:DomF
 |[.c (.sl _ n_l st_l F_l),.agg [.int .i64 sv,.int .i64 l0,.int .i64 h0,.int .i64 l1,.int .i64 h1,.int .i64 l2,.int .i64 h2,.int .i64 l3,.int .i64 h3]]=>(match Nat.beq st_l 7 with
  |true=>some ([eC.Is n_l F_l],[rB true])
  |_=>none)
 |_=>none
theorem C3z:FOK Try.prog G0 gw 3 dom3z:=by
 intro ags p r hd hp κ w xs hw hl hG hx
 unfold dom3z at hd
 split at hd
 ·rename_i q_l n_l st_l F_l sv l0 h0 l1 h1 l2 h2 l3 h3
  split at hd
  ·rename_i hst
   have g1:=hst
   have g1:=Nat.eq_of_beq_eq_true g1
   subst g1
   simp only[Option.some.injEq,Prod.mk.injEq]at hd
   obtain⟨rfl,rfl⟩:=hd
   obtain⟨hI_l,hp⟩:=hp
   have heq:agsEqv [.c (.sl q_l n_l 7 F_l),.agg [.int .i64 sv,.int .i64 l0,.int .i64 h0,.int .i64 l1,.int .i64 h1,.int .i64 l2,.int .i64 h2,.int .i64 l3,.int .i64 h3]] [.c (.sl q_l (eC.list n_l F_l).length 7 (eC.F (eC.list n_l F_l))),.agg [.int .i64 sv,.int .i64 l0,.int .i64 h0,.int .i64 l1,.int .i64 h1,.int .i64 l2,.int .i64 h2,.int .i64 l3,.int .i64 h3]]:=⟨eC.to id hI_l,Ag.eqv_refl _,trivial⟩
   have len_l:(eC.list n_l F_l).length=n_l:=eC.list_len
   generalize eC.list n_l F_l=l at *
   subst len_l
   exact fokX_fin mixed gw_stable (sl:=[v18,v19,v21,v22,v20f,v23z,v24,v25]) ⟨S18,S19,S21,S22,S20f,S23z,S24,S25,trivial⟩ Try.func3 hw hl hG hx heq rfl (t3 _ _ _ _ _ _ _ _ _ _ _) (w3 _ _)
  ·cases hd
 ·cases hd
end Go.Bl
end
section
namespace Go.Rw
open Go Go.ChangeShapes Go.WideShapes Go.RowKit Go.ChangeAt
open Go.V (F2 D fullK fullK_cell f2_append f2_len f2_get)
section
variable {H : Type} {enc : TypeId × Value → H} {P : Program} {w : World} {base : Nat} {sp : Nat → Bool} {hd : Bool}
theorem trodAll_below(hl:laidOutB P=true){W W':World}(hb:Below W.heap.size W W'):∀{ts:List TypeId} {vs:List Value} {ds:List (DataW H)} {ps:List MemPlace},
  (∀t∈ts,P.readableRec t=true∧t<P.types.size)→DataW.TrodAll enc P W 0 (fun _=>true) true ts vs ds ps→(∀x∈ps,x.block<W.heap.size) →
  DataW.TrodAll enc P W' 0 (fun b=>decide (b<W.heap.size)) true ts vs ds ps
 |[],_,_,_,_,h,_=>by
  obtain⟨rfl,rfl,rfl⟩:=trodAll_nil h
  exact trodAll_mk0
 |t::ts,_,_,_,hr,h,hlt=>by
  obtain⟨v,vs1,d,ds1,a,b,rfl,rfl,rfl,h1,h2⟩:=trodAll_cons h
  refine⟨a,b,?_,trodAll_below hl hb (fun u hu=>hr u (List.mem_cons_of_mem _ hu)) h2 fun x hx=>hlt x (List.mem_append_right _ hx),rfl⟩
  have ht:=hr t (List.mem_cons_self ..)
  exact Below.trod hl ht.1 ht.2 h1 hb fun x hx=>hlt x (List.mem_append_left _ hx)
theorem law_post{fn:Func}{s:ChangeSpec}{apart fresh handsOn:Bool}{W W':World}{args:Array Value}{ds gs:List (DataW H)}{before:List MemPlace}{tb:TypeId}(hl:laidOutB P=true)
  (hr:∀t∈fn.params.toList,P.readableRec t=true∧t<P.types.size) (hv:s.vars=[]) (hrt:fn.resultTypes= #[tb]) (hbool:P.underlying tb=some .bool)
  (hfn:s.fn H ds={results:=[.lit (.bool true)],args:=ds})
  (hW:DataW.Whole enc P fn.params.toList s.vars apart W args.toList ds gs before) (hb:Below W.heap.size W W'):s.post enc P fn apart fresh handsOn false W args (.bool true) W':=by
 have hW':=hW
 obtain⟨p,q,hA,hV,rfl,_,_⟩:=hW'
 have hlt:∀x∈p++q,x.block<W.heap.size:=fun x hx=>hW.lt x hx
 rw[hv]at hV
 have hgs:gs=[]∧q=[]:=by
  cases gs with
  |nil=>exact⟨rfl,hV⟩
  |cons g r=>exact absurd hV (by intro h;cases h)
 obtain⟨rfl,rfl⟩:=hgs
 have e:s.fn H (ds++ [])={results:=[.lit (.bool true)],args:=ds}:=by rw[List.append_nil];exact hfn
 refine⟨ds,[],_,[],p,[],hW,?_,?_,?_,hb.frame _,fun h=>by cases h⟩
 ·rw[e,hrt]
  exact trodAll_mk1 (shut_bool hbool true)
 ·rw[e]
  exact trodAll_below hl hb hr hA fun x hx=>hlt x (List.mem_append_left _ hx)
 ·rw[e,hv]
  rfl
end
end Go.Rw
end
section
namespace Go.Rw
open Go Go.ChangeShapes Go.WideShapes Go.RowKit Go.ChangeAt
open Go.V (F2 D fullK fullK_cell f2_append f2_len f2_get)
inductive SK where
 |i
 |s
 |sl (sh:List SK)
inductive DG:SK→D→Prop where
 |i (n:Int):DG .i (.int .i64 n)
 |s (t:ByteArray):DG .s (.str t)
 |sl (sh:List SK) (len:Nat) (F:Nat→Nat→D) (h:∀i j k,i<len→sh[j]? = some k→DG k (F i j)):DG (.sl sh) (.sl false len sh.length F)
def MG(w:World)(k:SK)(v:Value):Prop:=∃d,DG k d∧D.rel (fullK w) d v
def sgFs(P:Program)(g:TypeId→Option (List SK)):List Field→Nat→Nat→Option (List SK)
 |[],o,c=>(match Nat.beq o c with|true=>some []|false=>none)
 |f::fs,o,c=>(match Nat.beq f.offset o,g f.type,sgFs P g fs (o+P.cellsOf f.type) c with
  |true,some a,some b=>some (a++b)
  |_,_,_=>none)
def sgArr(l:List SK):Nat→List SK
 |0=>[]
 |n+1=>l++sgArr l n
def sg(P:Program):Nat→TypeId→Option (List SK)
 |0,_=>none
 |k+1,t=>match P.underlying t with
  |some (.int .i64)=>some [.i]
  |some .string=>some [.s]
  |some (.struct fs)=>sgFs P (sg P k) fs.toList 0 (P.cellsOf t)
  |some (.array n e)=>(match sg P k e,Nat.beq (P.cellsOf t) (n*P.cellsOf e)with|some l,true=>some (sgArr l n)|_,_=>none)
  |some (.slice e)=>(match sg P k e with|some sh=>(match Nat.beq (P.cellsOf e) sh.length&&Nat.blt 0 sh.length with|true=>some [.sl sh]|false=>none)|none=>none)
  |_=>none
section
variable {H : Type} {enc : TypeId × Value → H} {P : Program} {w : World} {base : Nat} {sp : Nat → Bool} {hd : Bool}
theorem sgFs_spec{R:SK→Value→Prop}{g:TypeId→Option (List SK)}:∀(fs:List Field) (o c:Nat) (cs:List Value) {l:List SK},sgFs P g fs o c=some l→cs.length=c →
  (∀f∈fs,∀l',g f.type=some l'→F2 R l' ((cs.drop f.offset).take (P.cellsOf f.type)))→F2 R l (cs.drop o)
 |[],o,c,cs,l,h,hl,_=>by
  unfold sgFs at h
  split at h
  ·rename_i hb
   have:o=c:=Nat.eq_of_beq_eq_true hb
   simp only[Option.some.injEq]at h
   subst h
   rw[this,←hl,List.drop_length]
   exact .nil
  ·cases h
 |f::fs,o,c,cs,l,h,hl,hf=>by
  simp only[sgFs]at h
  split at h
  ·rename_i a b hb ha hrest
   have ho:f.offset=o:=Nat.eq_of_beq_eq_true hb
   simp only[Option.some.injEq]at h
   subst h
   have h1:=hf f (List.mem_cons_self ..) a ha
   have h2:=sgFs_spec fs _ c cs hrest hl fun g hg=>hf g (List.mem_cons_of_mem _ hg)
   rw[ho]at h1
   have e:cs.drop o=(cs.drop o).take (P.cellsOf f.type)++(cs.drop o).drop (P.cellsOf f.type):=(List.take_append_drop _ _).symm
   rw[e,List.drop_drop]
   exact f2_append h1 h2
  ·cases h
theorem sgArr_spec{R:SK→Value→Prop}{l:List SK}{c:Nat}:∀(n:Nat) (cs:List Value),cs.length=n*c→(∀i,i<n→F2 R l ((cs.drop (i*c)).take c))→F2 R (sgArr l n) cs
 |0,cs,h,_=>by
  have:cs=[]:=List.length_eq_zero_iff.1 (by simpa using h)
  subst this
  exact .nil
 |n+1,cs,h,hf=>by
  have h0:=hf 0 (by omega)
  rw[Nat.zero_mul,List.drop_zero]at h0
  have hr:=sgArr_spec (c:=c) n (cs.drop c) (by rw[List.length_drop,h,Nat.succ_mul];omega) fun i hi=>by
   have:=hf (i+1) (by omega)
   rw[List.drop_drop,show c+i*c=(i+1)*c by rw[Nat.succ_mul];omega]
   exact this
  rw[←List.take_append_drop c cs]
  exact f2_append h0 hr
theorem trod_sg:∀(k fuel:Nat) (t:TypeId) (cs:List Value) (x:DataW H×List MemPlace) {l:List SK},sg P k t=some l→DataW.trod enc P w base sp hd fuel t cs=some x→F2 (MG w) l cs
 |0,_,_,_,_,_,h,_=>by cases h
 |k+1,fuel,t,cs,x,l,h,hx=>by
  unfold sg at h
  split at h
  ·rename_i ht
   simp only[Option.some.injEq]at h
   subst h
   obtain⟨n,rfl,rfl,_⟩:=DataW.trod_int ht hx
   exact .cons ⟨.int .i64 n,.i n,rfl⟩ .nil
  ·rename_i ht
   simp only[Option.some.injEq]at h
   subst h
   obtain⟨s,rfl,rfl,_⟩:=DataW.trod_string ht hx
   exact .cons ⟨.str s,.s s,rfl⟩ .nil
  ·rename_i fs ht
   obtain⟨xs,n,_,rfl,hl,hlen,hf⟩:=DataW.trod_struct ht hx
   have:=sgFs_spec (P:=P) (R:=MG w) fs.toList 0 (P.cellsOf t) cs h hl (by
    intro f hm l' hl'
    obtain⟨i,hi,hi'⟩:=List.getElem_of_mem hm
    have hgi:fs[i]? = some f:=by rw[←Array.getElem?_toList,List.getElem?_eq_getElem hi,hi']
    have hlt:i<xs.length:=by rw[hlen];exact(Array.getElem?_eq_some_iff.1 hgi).1
    have hy:xs[i]? = some xs[i]:=List.getElem?_eq_getElem hlt
    have:=hf i f hgi
    rw[hy]at this
    exact trod_sg k n f.type _ _ hl' this)
   simpa using this
  ·rename_i n e ht
   split at h
   ·rename_i l' hl' hcb
    simp only[Option.some.injEq]at h
    subst h
    obtain⟨xs,m,_,ex,hlen,hl,hel⟩:=DataW.trod_array ht hx
    have hcz:P.cellsOf t=n*P.cellsOf e:=Nat.eq_of_beq_eq_true hcb
    refine sgArr_spec (c:=P.cellsOf e) n cs (by rw[←hcz];exact hlen) fun i hi=>?_
    have hlt:i<xs.length:=by omega
    have hy:xs[i]? = some xs[i]:=List.getElem?_eq_getElem hlt
    have:=hel i hi
    rw[hy]at this
    exact trod_sg k m e _ _ hl' this
   ·cases h
  ·rename_i e ht
   split at h
   ·rename_i sh hsh
    split at h
    ·rename_i hc
     simp only[Option.some.injEq]at h
     subst h
     rw[Bool.and_eq_true]at hc
     have hn:P.cellsOf e=sh.length:=Nat.eq_of_beq_eq_true hc.1
     have hn0:0<sh.length:=Nat.le_of_ble_eq_true hc.2
     rcases DataW.trod_slice ht hx with⟨h1,_⟩|⟨a,len0,cap0,elems,rest,n',_,h1,_,_,hlc,_,hel,hget,_⟩
     ·rw[h1]
      exact .cons ⟨.sl false 0 sh.length (fun _ _=>.nilp),.sl sh 0 _ (fun i j k hi=>by omega),.inl ⟨rfl,rfl,rfl⟩⟩ .nil
     ·rw[h1]
      rw[hn]at hget
      have each:∀i,i<len0→∀j,j<sh.length→∃d,(∀k',sh[j]? = some k'→DG k' d)∧∃y,w.cell? ((a.add (i*sh.length)).add j)=some y∧D.rel (fullK w) d y:=by
       intro i hi j hj
       have hg:=hget i hi
       have hlt:i<elems.length:=by omega
       rw[List.getElem?_eq_getElem hlt]at hg
       simp only[Option.bind_eq_some_iff]at hg
       obtain⟨cs,hcs,hx⟩:=hg
       have hF:=trod_sg k n' e cs _ hsh hx
       obtain⟨_,hl,hcell⟩:=World.cells?_some hcs
       obtain⟨y,hy,hm⟩:=f2_get hF (i:=j) (List.getElem?_eq_getElem hj)
       obtain⟨d,hd1,hd2⟩:=hm
       have hcj:=hcell j hj
       exact⟨d,fun k' hk'=>by rw[List.getElem?_eq_getElem hj]at hk';cases hk';exact hd1,y,by rw[hcj,hy],hd2⟩
      have spot0:0<len0→a.spot=none:=by
       intro hp
       obtain⟨_,_,y,hy,_⟩:=each 0 hp 0 hn0
       have:=World.cell?_spot hy
       simpa[Addr.add]using this
      refine .cons ⟨.sl false len0 sh.length (fun i j=>if h:i<len0∧j<sh.length then Classical.choose (each i h.1 j h.2)else .nilp),.sl sh len0 _ (fun i j k' hi hk'=>?_),.inr ⟨a,cap0,rfl,hlc,spot0,fun i j hi hj=>?_⟩⟩ .nil
      ·have hj:j<sh.length:=(List.getElem?_eq_some_iff.1 hk').1
       simp only[dif_pos (And.intro hi hj)]
       exact(Classical.choose_spec (each i hi j hj)).1 k' hk'
      ·obtain⟨_,y,hy,hr⟩:=Classical.choose_spec (each i hi j hj)
       have hp:a.spot=none:=spot0 (by omega)
       have e1:(a.add (i*sh.length)).add j=⟨a.block,a.off+i*sh.length+j,none⟩:=by
        obtain⟨b,off,spot⟩:=a
        simp only at hp
        subst hp
        rw[Go.WideShapes.add_plain,Go.WideShapes.add_plain]
       rw[e1]at hy
       refine⟨_,fullK_cell hy,?_⟩
       simp only[dif_pos (And.intro hi hj)]
       exact hr
    ·cases h
   ·cases h
  ·cases h
theorem open_sl{r:Reach}{b0:Nat}{t e:TypeId}{v:Value}{d:DataW H}{p:List MemPlace}(k:Nat){sh:List SK}(ht:P.underlying t=some (.slice e))(ha:sg P k t=some [.sl sh])
  (hv:Value.okWide P w r b0 t v) (h:DataW.Trod enc P w base sp hd t v d p):MG w (.sl sh) v:=by
 obtain⟨a0,len0,cap0,rfl⟩:=okWide_slice ht hv
 obtain⟨fuel,hf⟩:=h
 have hc:(Value.slice a0 len0 cap0).cells.toList=[Value.slice a0 len0 cap0]:=rfl
 rw[hc]at hf
 have:=trod_sg k fuel t _ _ ha hf
 cases this with
 |cons h _=>exact h
theorem open_st{r:Reach}{b0:Nat}{t:TypeId}{fs:Array Field}{v:Value}{d:DataW H}{p:List MemPlace}(k:Nat){l:List SK}(ht:P.underlying t=some (.struct fs))(ha:sg P k t=some l)
  (hv:Value.okWide P w r b0 t v) (h:DataW.Trod enc P w base sp hd t v d p):∃cs:List Value,F2 (MG w) l cs∧v=.agg cs.toArray:=by
 obtain⟨cs,rfl,hsz⟩:=okWide_struct ht hv
 obtain⟨fuel,hf⟩:=h
 have hF:F2 (MG w) l cs.toList:=trod_sg k fuel t _ _ ha hf
 exact⟨cs.toList,hF,by rw[Array.toArray_toList]⟩
theorem mg_i{v:Value}(h:MG w .i v):∃n,v=.int .i64 n:=by
 obtain⟨d,hd,hr⟩:=h
 cases hd with
 |i n=>exact⟨n,hr⟩
theorem mg_sl{sh:List SK}{v:Value}(h:MG w (.sl sh) v):∃(len:Nat) (F:Nat→Nat→D),(D.sl false len sh.length F).rel (fullK w) v∧∀i j k,i<len→sh[j]? = some k→DG k (F i j):=by
 obtain⟨d,hd,hr⟩:=h
 cases hd with
 |sl _ len F hF=>exact⟨len,F,hr,hF⟩
theorem dg_i{d:D}(h:DG .i d):∃n,d=.int .i64 n:=by cases h with|i n=>exact⟨n,rfl⟩
theorem dg_s{d:D}(h:DG .s d):∃n,d=.str n:=by cases h with|s n=>exact⟨n,rfl⟩
end
end Go.Rw
end
