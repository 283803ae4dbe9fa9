/- The parts of the engines, of their contracts and of the plain laws that the claim rests on: A9, A10, A13, A17, A19, A20, A21, A22, W1, W2, W3, W4, W5, W6, ZR0, ZRG, R1. -/
import Derived.Test.YtbjimhgjbhlmnaaGreatDoorFY4
import Derived.ChangeSame
import Derived.ChangeVars
import Derived.ProofKit
import Derived.LaidMore
import Derived.OpenShut
import Derived.Carry
import Derived.ChangeArms
import Derived.Test.YtbjimhgjbhlmnaaGreatDoorRows
import Derived.Stop.Joined
import Derived.Stop.LaidErr
import Derived.Lib.LaidTab
import Derived.LaidSub
import Derived.HandedShaped
import Derived.Shelf.Vars
import Derived.Lay
set_option linter.unusedVariables false
set_option linter.unusedSimpArgs false
section
set_option maxRecDepth 100000
namespace Go.Pl
open Go.Gd
open Go.V Go.Proofs
theorem T.needs_wp{α:Type}:∀{l:List Prop} {t:T α} {Q:α→Prop},All l→t.wp Q→(T.needs l t).wp Q:=by
 intro l
 induction l with
 |nil=>intro t Q _ h;exact h
 |cons p l ih=>intro t Q hp h;exact⟨hp.1,ih hp.2 h⟩
theorem dT_ok{q:Bool}{n:Nat}{F:Nat→Nat→D}{l:List Int}(hq:q=true)(hn:n=l.length)(hF:∀i,i<n→(F i 0).eqv (dI (l.getD i 0))):(D.sl q n 1 F).eqv (dT l):=by
 refine⟨fun _=>hq,hn,fun _=>rfl,fun i j hi hj=>?_⟩
 obtain rfl:j=0:=Nat.lt_one_iff.1 hj
 exact hF i hi
structure Same(a b:List Ag):Prop where
 h:agsEqv a b
theorem ag_of_eq{a b:Ag}(h:a=b):a.eqv b:=by rw[h];exact Ag.eqv_refl b
def two:List D:=[dT [10,10],dT [3,2],.sl true 1 3 (eDm.F [⟨⟨#[97]⟩,[1,1],12⟩])]
theorem rowC_spec{d:D}{l:List Int}(h:rowC d=some l):∃n G,d=.sl true n 1 G∧intsL n G=some l:=by
 unfold rowC at h
 split at h
 ·rename_i n st G
  split at h
  ·rename_i hst
   have:=Nat.eq_of_beq_eq_true hst
   subst this
   exact⟨_,_,rfl,h⟩
  ·cases h
 ·cases h
theorem intsL_is{n:Nat}{G:Nat→Nat→D}{l:List Int}(h:intsL n G=some l):eI.Is n G∧eI.list n G=l:=by
 obtain⟨h1,h2⟩:=intsL_spec h
 refine eI.is_of h1 (fun i j hi hj=>?_) (fun i hi=>?_)
 ·obtain rfl:j=0:=Nat.lt_one_iff.1 hj
  exact h2 i hi
 ·show rdI (G i) 0=_
  unfold rdI;rw[h2 i hi];rfl
theorem rowsC_T:∀{n:Nat} {F:Nat→Nat→D} {m:List (List Int)},rowsC n F=some m→(∀l,l∈m→l.length=2)→∃p,rowsT 2 n F=some (m,p)∧All p:=by
 intro n
 induction n with
 |zero=>intro F m h _;simp[rowsC]at h;subst h;exact⟨[],rfl,trivial⟩
 |succ n ih=>
  intro F m h hl
  simp only[rowsC]at h
  split at h
  ·rename_i x l hx hk
   simp only[Option.some.injEq]at h;subst h
   obtain⟨p,hp,hA⟩:=ih hk (fun l hl'=>hl l (List.mem_cons_of_mem _ hl'))
   obtain⟨k,G,hd,hG⟩:=rowC_spec hx
   obtain⟨g1,g2⟩:=intsL_is hG
   have hx2:=hl x (List.mem_cons_self ..)
   refine⟨[eI.Is k G,k=2]++p,?_,g1,?_,hA⟩
   ·simp only[rowsT,hd,rowT,Nat.beq_eq_true_eq]
    rw[hp,g2]
   ·rw[←hx2,←(intsL_spec hG).1]
  ·cases h
theorem tabE_sq:∀x,x∈tabE→∀l,l∈x.1→l.length=2:=by
 have h:(tabE.all fun x=>x.1.all fun l=>decide (l.length=2))=true:=by kernel_rfl
 intro x hx l hl
 exact of_decide_eq_true (List.all_eq_true.1 (List.all_eq_true.1 h x hx) l hl)
theorem tabF_sq:∀{k:List (List (List Int)×List Int×List Int×Int×Bool)} {m:List (List Int)} {r:List Int} {s:List Int×Int×Bool},(∀x,x∈k→∀l,l∈x.1→l.length=2)→tabF k m r=some s→∀l,l∈m→l.length=2:=by
 intro k
 induction k with
 |nil=>intro m r s _ h;cases h
 |cons x k ih=>
  intro m r s hl h
  simp only[tabF]at h
  split at h
  ·rename_i e
   rw[Bool.and_eq_true]at e
   rw[←matB_eq e.1]
   exact hl x (List.mem_cons_self ..)
  ·exact ih (fun y hy=>hl y (List.mem_cons_of_mem _ hy)) h
theorem C154c:FOK Tryz.prog G0 gw 149 dom154c:=by
 intro ags p r hd hp κ w xs hw hl hG hx
 unfold dom154c at hd
 split at hd
 ·rename_i n st F k st' G
  split at hd
  ·rename_i m rr hst hm hr
   split at hd
   ·rename_i x d b hs
    simp only[Option.some.injEq,Prod.mk.injEq]at hd
    obtain⟨rfl,rfl⟩:=hd
    have hq:=tabF_sq tabE_sq hs
    obtain⟨p1,hp1,hA⟩:=rowsC_T hm hq
    obtain⟨g1,g2⟩:=intsL_is hr
    have hsol:=tabF_spec tabE_ok hs
    have hh:=C154_2 [.c (.sl true n st F),.c (.sl true k st' G)] (eI.Is k G::p1) [.c (.sl (M.solve m (eI.list k G)).2.2 (M.solve m (eI.list k G)).1.length 1 (eI.F (M.solve m (eI.list k G)).1)),rI (M.solve m (eI.list k G)).2.1,rB (M.solve m (eI.list k G)).2.2] (by unfold dom154;simp only[hst,hp1]) ⟨g1,hA⟩ κ w xs hw hl hG hx
    rw[g2,hsol]at hh
    exact hh
   ·cases hd
  ·cases hd
 ·cases hd
theorem S154c:SumOK Tryz.prog G0 gw 149 (fokSm dom154c):=fok_sum Tryz.func149 rfl C154c
def nd_t86c:List Prop:=[
 (0:Int)≤(0:Int),
 (0:Int)<(1:Int),
 Enc.Is eI (List.length (Dem.co {nm:={data:={toList:=[(97:UInt8)]}},co:=[(1:Int),(1:Int)],am:=(12:Int)})) (Enc.F eI (Dem.co {nm:={data:={toList:=[(97:UInt8)]}},co:=[(1:Int),(1:Int)],am:=(12:Int)})),
 Enc.Is eI (0:Nat) fun(x x_1:Nat)=>D.nilp,
 (0:Nat)<List.length (Dem.co {nm:={data:={toList:=[(97:UInt8)]}},co:=[(1:Int),(1:Int)],am:=(12:Int)})+(0:Nat),
 List.length (Dem.co {nm:={data:={toList:=[(97:UInt8)]}},co:=[(1:Int),(1:Int)],am:=(12:Int)})+(0:Nat)≤(1000000:Nat),
 (1:Nat)≤(1000000:Nat),
 (0:Int)≤(0:Int),
 (0:Int)<(2:Int),
 (2:Nat)≤(1000000:Nat),
 (1:Nat)≤(1:Nat),
 (0:Int)≤(1:Int),
 (1:Int)<(2:Int),
 (3:Nat)≤(1000000:Nat),
 (2:Nat)≤(2:Nat),
 (4:Nat)≤(1000000:Nat),
 (3:Nat)≤(3:Nat),
 (5:Nat)≤(1000000:Nat),
 (4:Nat)≤(4:Nat),
 (0:Int)≤(0:Int),
 (0:Int)<(5:Int),
 (0:Nat)<(5:Nat),
 (1:Nat)≤(1000000:Nat),
 (0:Int)≤(1:Int),
 (1:Int)<(5:Int),
 (1:Nat)<(5:Nat),
 (2:Nat)≤(1000000:Nat),
 (1:Nat)≤(1:Nat),
 (0:Int)≤(0:Int),
 (0:Int)<(2:Int),
 (0:Nat)<(2:Nat),
 (0:Int)≤(0:Int),
 (0:Int)<(2:Int),
 (1:Nat)≤(1000000:Nat),
 (0:Int)≤(1:Int),
 (1:Int)<(2:Int),
 (1:Nat)<(2:Nat),
 (0:Int)≤(0:Int),
 (0:Int)<(2:Int),
 (2:Nat)≤(1000000:Nat),
 (1:Nat)≤(1:Nat),
 (0:Int)≤(0:Int),
 (0:Int)<(2:Int),
 (0:Nat)<(2:Nat),
 (0:Int)≤(1:Int),
 (1:Int)<(2:Int),
 (1:Nat)≤(1000000:Nat),
 (0:Int)≤(1:Int),
 (1:Int)<(2:Int),
 (1:Nat)<(2:Nat),
 (0:Int)≤(1:Int),
 (1:Int)<(2:Int),
 (2:Nat)≤(1000000:Nat),
 (1:Nat)≤(1:Nat),
 (2:Nat)≤(2:Nat),
 (2:Nat)≤(2:Nat),
 Enc.Is eI (2:Nat) (Enc.F eI [(2:Int),(1:Int)]),
 (0:Nat)<List.length (Enc.list eI (2:Nat) (Enc.F eI [(2:Int),(1:Int)])),
 List.length (Enc.list eI (2:Nat) (Enc.F eI [(2:Int),(1:Int)]))≤(1000000:Nat),
 (0:Int)≤(0:Int),
 (0:Int)<(2:Int),
 (0:Nat)<(2:Nat),
 (0:Int)≤(0:Int),
 (0:Int)<(2:Int),
 (0:Int)≤(1:Int),
 (1:Int)<(2:Int),
 (1:Nat)<(2:Nat),
 (0:Int)≤(1:Int),
 (1:Int)<(2:Int),
 (0:Int)≤(1:Int),
 (1:Int)≤(1:Int),
 (1:Int)≤(1000000:Int),
 (0:Int)≤(2:Int),
 (2:Int)≤(2:Int),
 (2:Int)≤(1000000:Int),
 (0:Int)≤(0:Int),
 (0:Int)<(2:Int),
 (0:Nat)<(2:Nat),
 (0:Int)≤(0:Int),
 (0:Int)<(2:Int),
 (0:Int)≤(0:Int),
 (0:Int)<(1:Int),
 (0:Nat)<(1:Nat),
 (0:Int)≤(1:Int),
 (1:Int)<(2:Int),
 (1:Nat)<(2:Nat),
 (0:Int)≤(1:Int),
 (1:Int)<(2:Int),
 (0:Int)≤(0:Int),
 (0:Int)<(2:Int),
 (0:Nat)<(2:Nat),
 (0:Int)≤(1:Int),
 (1:Int)≤(2:Int),
 (0:Int)≤(2:Int),
 (2:Int)<(5:Int),
 (2:Nat)<(5:Nat),
 (2:Nat)≤(1000000:Nat),
 (1:Nat)≤(2:Nat),
 (0:Int)≤(0:Int),
 (0:Int)<(2:Int),
 (0:Nat)<(2:Nat),
 (0:Int)≤(0:Int),
 (0:Int)<(2:Int),
 (1:Nat)≤(1000000:Nat),
 (0:Int)≤(1:Int),
 (1:Int)<(2:Int),
 (1:Nat)<(2:Nat),
 (0:Int)≤(0:Int),
 (0:Int)<(2:Int),
 (2:Nat)≤(1000000:Nat),
 (1:Nat)≤(1:Nat),
 (0:Int)≤(0:Int),
 (0:Int)<(2:Int),
 (0:Nat)<(2:Nat),
 (0:Int)≤(1:Int),
 (1:Int)<(2:Int),
 (1:Nat)≤(1000000:Nat),
 (0:Int)≤(1:Int),
 (1:Int)<(2:Int),
 (1:Nat)<(2:Nat),
 (0:Int)≤(1:Int),
 (1:Int)<(2:Int),
 (2:Nat)≤(1000000:Nat),
 (1:Nat)≤(1:Nat),
 (2:Nat)≤(2:Nat),
 (2:Nat)≤(2:Nat),
 Enc.Is eI (2:Nat) (Enc.F eI [(3:Int),(-1:Int)]),
 (0:Nat)<List.length (Enc.list eI (2:Nat) (Enc.F eI [(3:Int),(-1:Int)])),
 List.length (Enc.list eI (2:Nat) (Enc.F eI [(3:Int),(-1:Int)]))≤(1000000:Nat),
 (0:Int)≤(1:Int),
 (1:Int)≤(2:Int),
 (0:Int)≤(3:Int),
 (3:Int)<(5:Int),
 (3:Nat)<(5:Nat),
 (2:Nat)≤(1000000:Nat),
 (1:Nat)≤(2:Nat),
 (0:Int)≤(0:Int),
 (0:Int)<(2:Int),
 (0:Nat)<(2:Nat),
 (0:Int)≤(0:Int),
 (0:Int)<(2:Int),
 (1:Nat)≤(1000000:Nat),
 (0:Int)≤(1:Int),
 (1:Int)<(2:Int),
 (1:Nat)<(2:Nat),
 (0:Int)≤(0:Int),
 (0:Int)<(2:Int),
 (2:Nat)≤(1000000:Nat),
 (1:Nat)≤(1:Nat),
 (0:Int)≤(0:Int),
 (0:Int)<(2:Int),
 (0:Nat)<(2:Nat),
 (0:Int)≤(1:Int),
 (1:Int)<(2:Int),
 (1:Nat)≤(1000000:Nat),
 (0:Int)≤(1:Int),
 (1:Int)<(2:Int),
 (1:Nat)<(2:Nat),
 (0:Int)≤(1:Int),
 (1:Int)<(2:Int),
 (2:Nat)≤(1000000:Nat),
 (1:Nat)≤(1:Nat),
 (2:Nat)≤(2:Nat),
 (2:Nat)≤(2:Nat),
 Enc.Is eI (2:Nat) (Enc.F eI [(2:Int),(-1:Int)]),
 (0:Nat)<List.length (Enc.list eI (2:Nat) (Enc.F eI [(2:Int),(-1:Int)])),
 List.length (Enc.list eI (2:Nat) (Enc.F eI [(2:Int),(-1:Int)]))≤(1000000:Nat),
 (0:Int)≤(1:Int),
 (1:Int)≤(2:Int),
 (0:Int)≤(4:Int),
 (4:Int)<(5:Int),
 (4:Nat)<(5:Nat),
 (2:Nat)≤(1000000:Nat),
 (1:Nat)≤(2:Nat),
 (0:Int)≤(0:Int),
 (0:Int)<(2:Int),
 (0:Nat)<(2:Nat),
 (0:Int)≤(0:Int),
 (0:Int)<(2:Int),
 (1:Nat)≤(1000000:Nat),
 (0:Int)≤(1:Int),
 (1:Int)<(2:Int),
 (1:Nat)<(2:Nat),
 (0:Int)≤(0:Int),
 (0:Int)<(2:Int),
 (2:Nat)≤(1000000:Nat),
 (1:Nat)≤(1:Nat),
 (0:Int)≤(0:Int),
 (0:Int)<(2:Int),
 (0:Nat)<(2:Nat),
 (0:Int)≤(1:Int),
 (1:Int)<(2:Int),
 (1:Nat)≤(1000000:Nat),
 (0:Int)≤(1:Int),
 (1:Int)<(2:Int),
 (1:Nat)<(2:Nat),
 (0:Int)≤(1:Int),
 (1:Int)<(2:Int),
 (2:Nat)≤(1000000:Nat),
 (1:Nat)≤(1:Nat),
 (2:Nat)≤(2:Nat),
 (2:Nat)≤(2:Nat),
 Enc.Is eI (2:Nat) (Enc.F eI [(3:Int),(1:Int)]),
 (0:Nat)<List.length (Enc.list eI (2:Nat) (Enc.F eI [(3:Int),(1:Int)])),
 List.length (Enc.list eI (2:Nat) (Enc.F eI [(3:Int),(1:Int)]))≤(1000000:Nat),
 (0:Int)≤(0:Int),
 (0:Int)<(2:Int),
 (0:Nat)<(2:Nat),
 (0:Int)≤(0:Int),
 (0:Int)<(2:Int),
 (0:Int)≤(1:Int),
 (1:Int)<(2:Int),
 (1:Nat)<(2:Nat),
 (0:Int)≤(1:Int),
 (1:Int)<(2:Int),
 i64ok (36:Int),
 i64ok (34:Int),
 (0:Int)<(1:Int)∧(1:Int)<(9223372036854775808:Int),
 (0:Int)<(1:Int)∧(1:Int)<(9223372036854775808:Int),
 (0:Int)≤(1:Int),
 (1:Int)≤(2:Int),
 (0:Int)≤(0:Int),
 (0:Int)≤(2:Int),
 (0:Int)≤(1:Int),
 (1:Int)<(5:Int),
 (1:Nat)<(5:Nat),
 (1:Nat)≤(1000000:Nat),
 (0:Nat)≤(2:Nat),
 (0:Int)≤(2:Int),
 (2:Int)<(5:Int),
 (2:Nat)<(5:Nat),
 (2:Nat)≤(1000000:Nat),
 (1:Nat)≤(1:Nat),
 (0:Int)≤(0:Int),
 (0:Int)<(2:Int),
 (0:Nat)<(2:Nat),
 (0:Int)≤(0:Int),
 (0:Int)<(2:Int),
 (1:Nat)≤(1000000:Nat),
 (0:Int)≤(1:Int),
 (1:Int)<(2:Int),
 (1:Nat)<(2:Nat),
 (0:Int)≤(0:Int),
 (0:Int)<(2:Int),
 (2:Nat)≤(1000000:Nat),
 (1:Nat)≤(1:Nat),
 (0:Int)≤(0:Int),
 (0:Int)<(2:Int),
 (0:Nat)<(2:Nat),
 (0:Int)≤(1:Int),
 (1:Int)<(2:Int),
 (1:Nat)≤(1000000:Nat),
 (0:Int)≤(1:Int),
 (1:Int)<(2:Int),
 (1:Nat)<(2:Nat),
 (0:Int)≤(1:Int),
 (1:Int)<(2:Int),
 (2:Nat)≤(1000000:Nat),
 (1:Nat)≤(1:Nat),
 (2:Nat)≤(2:Nat),
 (2:Nat)≤(2:Nat),
 Enc.Is eI (2:Nat) (Enc.F eI [(3:Int),(2:Int)]),
 (0:Nat)<List.length (Enc.list eI (2:Nat) (Enc.F eI [(3:Int),(2:Int)])),
 List.length (Enc.list eI (2:Nat) (Enc.F eI [(3:Int),(2:Int)]))≤(1000000:Nat),
 (0:Int)≤(0:Int),
 (0:Int)<(2:Int),
 (0:Nat)<(2:Nat),
 (0:Int)≤(0:Int),
 (0:Int)<(2:Int),
 (0:Int)≤(1:Int),
 (1:Int)<(2:Int),
 (1:Nat)<(2:Nat),
 (0:Int)≤(1:Int),
 (1:Int)<(2:Int),
 i64ok (50:Int),
 i64ok (34:Int),
 (0:Int)<(1:Int)∧(1:Int)<(9223372036854775808:Int),
 (0:Int)<(1:Int)∧(1:Int)<(9223372036854775808:Int),
 (0:Int)≤(1:Int),
 (1:Int)≤(2:Int),
 (0:Int)≤(3:Int),
 (3:Int)<(5:Int),
 (3:Nat)<(5:Nat),
 (2:Nat)≤(1000000:Nat),
 (1:Nat)≤(2:Nat),
 (0:Int)≤(0:Int),
 (0:Int)<(2:Int),
 (0:Nat)<(2:Nat),
 (0:Int)≤(0:Int),
 (0:Int)<(2:Int),
 (1:Nat)≤(1000000:Nat),
 (0:Int)≤(1:Int),
 (1:Int)<(2:Int),
 (1:Nat)<(2:Nat),
 (0:Int)≤(0:Int),
 (0:Int)<(2:Int),
 (2:Nat)≤(1000000:Nat),
 (1:Nat)≤(1:Nat),
 (0:Int)≤(0:Int),
 (0:Int)<(2:Int),
 (0:Nat)<(2:Nat),
 (0:Int)≤(1:Int),
 (1:Int)<(2:Int),
 (1:Nat)≤(1000000:Nat),
 (0:Int)≤(1:Int),
 (1:Int)<(2:Int),
 (1:Nat)<(2:Nat),
 (0:Int)≤(1:Int),
 (1:Int)<(2:Int),
 (2:Nat)≤(1000000:Nat),
 (1:Nat)≤(1:Nat),
 (2:Nat)≤(2:Nat),
 (2:Nat)≤(2:Nat),
 (0:Int)≤(1:Int),
 (1:Int)≤(2:Int),
 (0:Int)≤(4:Int),
 (4:Int)<(5:Int),
 (4:Nat)<(5:Nat),
 (2:Nat)≤(1000000:Nat),
 (1:Nat)≤(2:Nat),
 (0:Int)≤(0:Int),
 (0:Int)<(2:Int),
 (0:Nat)<(2:Nat),
 (0:Int)≤(0:Int),
 (0:Int)<(2:Int),
 (1:Nat)≤(1000000:Nat),
 (0:Int)≤(1:Int),
 (1:Int)<(2:Int),
 (1:Nat)<(2:Nat),
 (0:Int)≤(0:Int),
 (0:Int)<(2:Int),
 (2:Nat)≤(1000000:Nat),
 (1:Nat)≤(1:Nat),
 (0:Int)≤(0:Int),
 (0:Int)<(2:Int),
 (0:Nat)<(2:Nat),
 (0:Int)≤(1:Int),
 (1:Int)<(2:Int),
 (1:Nat)≤(1000000:Nat),
 (0:Int)≤(1:Int),
 (1:Int)<(2:Int),
 (1:Nat)<(2:Nat),
 (0:Int)≤(1:Int),
 (1:Int)<(2:Int),
 (2:Nat)≤(1000000:Nat),
 (1:Nat)≤(1:Nat),
 (2:Nat)≤(2:Nat),
 (2:Nat)≤(2:Nat),
 Enc.Is eI (2:Nat) (Enc.F eI [(3:Int),(-2:Int)]),
 (0:Nat)<List.length (Enc.list eI (2:Nat) (Enc.F eI [(3:Int),(-2:Int)])),
 List.length (Enc.list eI (2:Nat) (Enc.F eI [(3:Int),(-2:Int)]))≤(1000000:Nat),
 (0:Int)≤(1:Int),
 (1:Int)≤(2:Int),
 (0:Int)≤(0:Int),
 (0:Int)≤(2:Int),
 (0:Int)≤(2:Int),
 (2:Int)<(5:Int),
 (2:Nat)<(5:Nat),
 (1:Nat)≤(1000000:Nat),
 (0:Nat)≤(2:Nat),
 (0:Int)≤(3:Int),
 (3:Int)<(5:Int),
 (3:Nat)<(5:Nat),
 (2:Nat)≤(1000000:Nat),
 (1:Nat)≤(1:Nat),
 (0:Int)≤(0:Int),
 (0:Int)<(2:Int),
 (0:Nat)<(2:Nat),
 (0:Int)≤(0:Int),
 (0:Int)<(2:Int),
 (1:Nat)≤(1000000:Nat),
 (0:Int)≤(1:Int),
 (1:Int)<(2:Int),
 (1:Nat)<(2:Nat),
 (0:Int)≤(0:Int),
 (0:Int)<(2:Int),
 (2:Nat)≤(1000000:Nat),
 (1:Nat)≤(1:Nat),
 (0:Int)≤(0:Int),
 (0:Int)<(2:Int),
 (0:Nat)<(2:Nat),
 (0:Int)≤(1:Int),
 (1:Int)<(2:Int),
 (1:Nat)≤(1000000:Nat),
 (0:Int)≤(1:Int),
 (1:Int)<(2:Int),
 (1:Nat)<(2:Nat),
 (0:Int)≤(1:Int),
 (1:Int)<(2:Int),
 (2:Nat)≤(1000000:Nat),
 (1:Nat)≤(1:Nat),
 (2:Nat)≤(2:Nat),
 (2:Nat)≤(2:Nat),
 Enc.Is eI (2:Nat) (Enc.F eI [(2:Int),(-3:Int)]),
 (0:Nat)<List.length (Enc.list eI (2:Nat) (Enc.F eI [(2:Int),(-3:Int)])),
 List.length (Enc.list eI (2:Nat) (Enc.F eI [(2:Int),(-3:Int)]))≤(1000000:Nat),
 (0:Int)≤(1:Int),
 (1:Int)≤(2:Int),
 (0:Int)≤(4:Int),
 (4:Int)<(5:Int),
 (4:Nat)<(5:Nat),
 (2:Nat)≤(1000000:Nat),
 (1:Nat)≤(2:Nat),
 (0:Int)≤(0:Int),
 (0:Int)<(2:Int),
 (0:Nat)<(2:Nat),
 (0:Int)≤(0:Int),
 (0:Int)<(2:Int),
 (1:Nat)≤(1000000:Nat),
 (0:Int)≤(1:Int),
 (1:Int)<(2:Int),
 (1:Nat)<(2:Nat),
 (0:Int)≤(0:Int),
 (0:Int)<(2:Int),
 (2:Nat)≤(1000000:Nat),
 (1:Nat)≤(1:Nat),
 (0:Int)≤(0:Int),
 (0:Int)<(2:Int),
 (0:Nat)<(2:Nat),
 (0:Int)≤(1:Int),
 (1:Int)<(2:Int),
 (1:Nat)≤(1000000:Nat),
 (0:Int)≤(1:Int),
 (1:Int)<(2:Int),
 (1:Nat)<(2:Nat),
 (0:Int)≤(1:Int),
 (1:Int)<(2:Int),
 (2:Nat)≤(1000000:Nat),
 (1:Nat)≤(1:Nat),
 (2:Nat)≤(2:Nat),
 (2:Nat)≤(2:Nat),
 (0:Int)≤(1:Int),
 (1:Int)≤(2:Int),
 (0:Int)≤(0:Int),
 (0:Int)≤(2:Int),
 (0:Int)≤(3:Int),
 (3:Int)<(5:Int),
 (3:Nat)<(5:Nat),
 (1:Nat)≤(1000000:Nat),
 (0:Nat)≤(2:Nat),
 (0:Int)≤(4:Int),
 (4:Int)<(5:Int),
 (4:Nat)<(5:Nat),
 (2:Nat)≤(1000000:Nat),
 (1:Nat)≤(1:Nat),
 (0:Int)≤(0:Int),
 (0:Int)<(2:Int),
 (0:Nat)<(2:Nat),
 (0:Int)≤(0:Int),
 (0:Int)<(2:Int),
 (1:Nat)≤(1000000:Nat),
 (0:Int)≤(1:Int),
 (1:Int)<(2:Int),
 (1:Nat)<(2:Nat),
 (0:Int)≤(0:Int),
 (0:Int)<(2:Int),
 (2:Nat)≤(1000000:Nat),
 (1:Nat)≤(1:Nat),
 (0:Int)≤(0:Int),
 (0:Int)<(2:Int),
 (0:Nat)<(2:Nat),
 (0:Int)≤(1:Int),
 (1:Int)<(2:Int),
 (1:Nat)≤(1000000:Nat),
 (0:Int)≤(1:Int),
 (1:Int)<(2:Int),
 (1:Nat)<(2:Nat),
 (0:Int)≤(1:Int),
 (1:Int)<(2:Int),
 (2:Nat)≤(1000000:Nat),
 (1:Nat)≤(1:Nat),
 (2:Nat)≤(2:Nat),
 (2:Nat)≤(2:Nat),
 Enc.Is eI (2:Nat) (Enc.F eI [(-3:Int),(-2:Int)]),
 (0:Nat)<List.length (Enc.list eI (2:Nat) (Enc.F eI [(-3:Int),(-2:Int)])),
 List.length (Enc.list eI (2:Nat) (Enc.F eI [(-3:Int),(-2:Int)]))≤(1000000:Nat),
 (0:Int)≤(1:Int),
 (1:Int)≤(2:Int),
 (0:Int)≤(0:Int),
 (0:Int)≤(2:Int),
 (1:Nat)≤(1:Nat),
 (2:Nat)≤(2:Nat)]
theorem t86c:runFnX Tryz.prog G0 (lookS [v182,v139,v154c,v131,v151,v155]) (fun _=>[(999999,[],none)]) [141,188,147,191,192,148,193,187,210] 4 200 30 98 Tryz.f98 [.agg [.sl true 2 1 (eI.F [10,10]),.sl true 2 1 (eI.F [3,2]),.sl true 1 3 (eDm.F [⟨⟨#[97]⟩,[1,1],12⟩])],.c (.sl true 2 1 (eI.F [3,2])),.c (.sl false 0 0 (fun _ _=>.nilp))] =
  T.needs nd_t86c (T.ret [Ar.agg [D.int IntKind.i64 (34:Int),D.int IntKind.i64 (1:Int)],Ar.agg [D.int IntKind.i64 (1:Int),D.sl true (1:Nat) (1:Nat) (putF (0:Nat) (0:Nat) (List.length [C.int IntKind.i64 (2:Int)]) [D.int IntKind.i64 (2:Int)] fun(x j:Nat)=>List.getD [D.int IntKind.i64 (0:Int)] j D.nilp),D.sl true (2:Nat) (1:Nat) (putF (0:Nat) (0:Nat) (List.length [C.int IntKind.i64 (1:Int)]) [D.int IntKind.i64 (1:Int)] fun(x j:Nat)=>List.getD [D.int IntKind.i64 (0:Int)] j D.nilp)]]):=by kernel_rfl
theorem all_t86c:All nd_t86c:=by
 unfold nd_t86c
 repeat (refine⟨(by first|exact of_decide_eq_true rfl|exact fun i j _ _=>D.eqv_refl _|exact Enc.is_F _ _ _|exact fun i j hi _=>absurd hi (Nat.not_lt_zero i)),?_⟩)
 trivial
theorem w_t86c:(T.needs nd_t86c (T.ret [Ar.agg [D.int IntKind.i64 (34:Int),D.int IntKind.i64 (1:Int)],Ar.agg [D.int IntKind.i64 (1:Int),D.sl true (1:Nat) (1:Nat) (putF (0:Nat) (0:Nat) (List.length [C.int IntKind.i64 (2:Int)]) [D.int IntKind.i64 (2:Int)] fun(x j:Nat)=>List.getD [D.int IntKind.i64 (0:Int)] j D.nilp),D.sl true (2:Nat) (1:Nat) (putF (0:Nat) (0:Nat) (List.length [C.int IntKind.i64 (1:Int)]) [D.int IntKind.i64 (1:Int)] fun(x j:Nat)=>List.getD [D.int IntKind.i64 (0:Int)] j D.nilp)]])).wp (fun rs=>rsEqv rs [.agg [dI 34,dI 1],.agg [dI 1,dT [2],dT [1,0]]]):=by
 refine T.needs_wp all_t86c ?_
 refine⟨⟨rfl,rfl,trivial⟩,⟨rfl,dT_ok rfl rfl (fun i hi=>?_),dT_ok rfl rfl (fun i hi=>?_),trivial⟩,trivial⟩
 ·match i,hi with
  |0,_=>exact D.eqv_refl _
 ·match i,hi with
  |0,_=>exact D.eqv_refl _
  |1,_=>exact D.eqv_refl _
def dom86c:DomF
 |[.agg ds,.c a,.c m]=>some ([Same [.agg ds,.c a,.c m] [.agg two,.c (dT [3,2]),.c (.sl false 0 0 (fun _ _=>.nilp))]],[.agg [dI 34,dI 1],.agg [dI 1,dT [2],dT [1,0]]])
 |_=>none
def v86c:Nat×Sm:=(98,fokSm dom86c)
theorem C86c:FOK Tryz.prog G0 gw 98 dom86c:=by
 intro ags p r hd hp κ w xs hw hl hG hx
 unfold dom86c at hd
 split at hd
 ·simp only[Option.some.injEq,Prod.mk.injEq]at hd
  obtain⟨rfl,rfl⟩:=hd
  exact fokX_fin mixed gw_stable (sl:=[v182,v139,v154c,v131,v151,v155]) ⟨S182,S139,S154c,S131,S151,S155,trivial⟩ Tryz.func98 hw hl hG hx hp.1.h rfl t86c w_t86c
 ·cases hd
theorem S86c:SumOK Tryz.prog G0 gw 98 (fokSm dom86c):=fok_sum Tryz.func98 rfl C86c
end Go.Pl
end
section
set_option maxRecDepth 100000
namespace Go.Pl
open Go.Gd
open Go.V Go.Proofs
abbrev qt84c_14:=Dem.co {nm:={data:={toList:=[(97:UInt8)]}},co:=[(1:Int),(1:Int)],am:=(12:Int)}
abbrev qt84c_1:=List.append (Enc.list eI (List.length qt84c_14) (Enc.F eI qt84c_14)) (Enc.list eI (0:Nat) fun(x x_1:Nat)=>D.nilp)
abbrev qt84c_2:=Enc.list eI (2:Nat) (Enc.F eI [(10:Int),(2:Int)])
abbrev qt84c_3:=Enc.list eI (2:Nat) fun(i j:Nat)=>List.getD [D.int IntKind.i64 (1:Int),D.int IntKind.i64 (0:Int)] (i*(1:Nat)+j) D.nilp
abbrev qt84c_4:=Enc.list eI (2:Nat) fun(i j:Nat)=>List.getD [D.int IntKind.i64 (0:Int),D.int IntKind.i64 (1:Int)] (i*(1:Nat)+j) D.nilp
abbrev qt84c_5:=Enc.list eI (2:Nat) fun(i j:Nat)=>List.getD [D.int IntKind.i64 (-1:Int),D.int IntKind.i64 (0:Int)] (i*(1:Nat)+j) D.nilp
abbrev qt84c_6:=Enc.list eI (2:Nat) fun(i j:Nat)=>List.getD [D.int IntKind.i64 (0:Int),D.int IntKind.i64 (-1:Int)] (i*(1:Nat)+j) D.nilp
abbrev qt84c_7:=Enc.list eI (List.length qt84c_2) fun(i x:Nat)=>dI (List.getD qt84c_2 i (0:Int))
abbrev qt84c_8:=Enc.list eI (List.length qt84c_1) (Enc.F eI qt84c_1)
abbrev qt84c_9:=Enc.list eI (2:Nat) (Enc.F eI [(3:Int),(2:Int)])
abbrev qt84c_10:=rowI (Enc.list eI (List.length [(10:Int),(2:Int)]) (Enc.F eI [(10:Int),(2:Int)]))
abbrev qt84c_11:=Enc.F eI [(2:Int),(10:Int)]
abbrev qt84c_12:=Enc.F eI [(10:Int),(0:Int)]
abbrev qt84c_13:=Enc.F eI [(0:Int),(10:Int)]
abbrev qt84c_15:=Enc.F eI [(0:Int),(0:Int)]
def nd_t84c:List Prop:=[
 (0:Int)≤(0:Int),
 (0:Int)<(1:Int),
 Enc.Is eI (List.length qt84c_14) (Enc.F eI qt84c_14),
 Enc.Is eI (0:Nat) fun(x x_1:Nat)=>D.nilp,
 (0:Nat)<List.length qt84c_14+(0:Nat),
 List.length qt84c_14+(0:Nat)≤(1000000:Nat),
 (1:Nat)≤(1000000:Nat),
 (0:Int)≤(0:Int),
 (0:Int)<(2:Int),
 (2:Nat)≤(1000000:Nat),
 (1:Nat)≤(1:Nat),
 (0:Int)≤(1:Int),
 (1:Int)<(2:Int),
 (3:Nat)≤(1000000:Nat),
 (2:Nat)≤(2:Nat),
 (4:Nat)≤(1000000:Nat),
 (3:Nat)≤(3:Nat),
 (5:Nat)≤(1000000:Nat),
 (4:Nat)≤(4:Nat),
 (0:Int)≤(0:Int),
 (0:Int)<(5:Int),
 (0:Nat)<(5:Nat),
 (1:Nat)≤(1000000:Nat),
 (0:Int)≤(1:Int),
 (1:Int)<(5:Int),
 (1:Nat)<(5:Nat),
 (2:Nat)≤(1000000:Nat),
 (1:Nat)≤(1:Nat),
 (0:Int)≤(0:Int),
 (0:Int)<(2:Int),
 (0:Nat)<(2:Nat),
 (1:Nat)≤(1000000:Nat),
 (1:Nat)≤(1000000:Nat),
 (0:Int)≤(1:Int),
 (1:Int)<(2:Int),
 (1:Nat)<(2:Nat),
 (2:Nat)≤(1000000:Nat),
 (1:Nat)≤(1:Nat),
 (2:Nat)≤(1000000:Nat),
 (1:Nat)≤(1:Nat),
 (2:Nat)≤(2:Nat),
 (2:Nat)≤(2:Nat),
 (0:Int)≤(0:Int),
 (0:Int)<(5:Int),
 (0:Nat)<(5:Nat),
 Enc.Is eI (List.length qt84c_1) (Enc.F eI qt84c_1),
 Enc.Is eI (2:Nat) (Enc.F eI [(10:Int),(2:Int)]),
 List.length qt84c_8≤(1000000:Nat),
 List.length qt84c_8≤List.length qt84c_2,
 (0:Int)≤(1:Int),
 (1:Int)<(5:Int),
 (1:Nat)<(5:Nat),
 Enc.Is eI (2:Nat) fun(i j:Nat)=>List.getD [D.int IntKind.i64 (1:Int),D.int IntKind.i64 (0:Int)] (i*(1:Nat)+j) D.nilp,
 Enc.Is eI (2:Nat) (Enc.F eI [(10:Int),(2:Int)]),
 List.length qt84c_3≤(1000000:Nat),
 List.length qt84c_3≤List.length qt84c_2,
 (0:Int)≤(2:Int),
 (2:Int)<(5:Int),
 (2:Nat)<(5:Nat),
 Enc.Is eI (2:Nat) fun(i j:Nat)=>List.getD [D.int IntKind.i64 (0:Int),D.int IntKind.i64 (1:Int)] (i*(1:Nat)+j) D.nilp,
 Enc.Is eI (2:Nat) (Enc.F eI [(10:Int),(2:Int)]),
 List.length qt84c_4≤(1000000:Nat),
 List.length qt84c_4≤List.length qt84c_2,
 (0:Int)≤(3:Int),
 (3:Int)<(5:Int),
 (3:Nat)<(5:Nat),
 Enc.Is eI (2:Nat) fun(i j:Nat)=>List.getD [D.int IntKind.i64 (-1:Int),D.int IntKind.i64 (0:Int)] (i*(1:Nat)+j) D.nilp,
 Enc.Is eI (2:Nat) (Enc.F eI [(10:Int),(2:Int)]),
 List.length qt84c_5≤(1000000:Nat),
 List.length qt84c_5≤List.length qt84c_2,
 (0:Int)≤(4:Int),
 (4:Int)<(5:Int),
 (4:Nat)<(5:Nat),
 Enc.Is eI (2:Nat) fun(i j:Nat)=>List.getD [D.int IntKind.i64 (0:Int),D.int IntKind.i64 (-1:Int)] (i*(1:Nat)+j) D.nilp,
 Enc.Is eI (2:Nat) (Enc.F eI [(10:Int),(2:Int)]),
 List.length qt84c_6≤(1000000:Nat),
 List.length qt84c_6≤List.length qt84c_2,
 Enc.Is eI (2:Nat) (Enc.F eI [(3:Int),(2:Int)]),
 Enc.Is eI (2:Nat) (Enc.F eI [(10:Int),(2:Int)]),
 List.length qt84c_9≤(1000000:Nat),
 List.length qt84c_9≤List.length qt84c_2,
 Enc.Is eI (2:Nat) (Enc.F eI [(10:Int),(2:Int)]),
 (2:Nat)≤(1000000:Nat),
 (0:Int)≤(1:Int),
 (1:Int)≤(2:Int),
 (0:Int)≤(2:Int),
 (2:Int)<(5:Int),
 (2:Nat)<(5:Nat),
 (2:Nat)≤(1000000:Nat),
 (1:Nat)≤(2:Nat),
 (0:Int)≤(0:Int),
 (0:Int)<(2:Int),
 (0:Nat)<(2:Nat),
 (1:Nat)≤(1000000:Nat),
 (1:Nat)≤(1000000:Nat),
 (0:Int)≤(1:Int),
 (1:Int)<(2:Int),
 (1:Nat)<(2:Nat),
 (2:Nat)≤(1000000:Nat),
 (1:Nat)≤(1:Nat),
 (2:Nat)≤(1000000:Nat),
 (1:Nat)≤(1:Nat),
 (2:Nat)≤(2:Nat),
 (2:Nat)≤(2:Nat),
 (0:Int)≤(0:Int),
 (0:Int)<(5:Int),
 (0:Nat)<(5:Nat),
 Enc.Is eI (List.length qt84c_1) (Enc.F eI qt84c_1),
 Enc.Is eI (2:Nat) qt84c_11,
 List.length qt84c_8≤(1000000:Nat),
 List.length qt84c_8≤List.length (Enc.list eI (2:Nat) qt84c_11),
 (0:Int)≤(1:Int),
 (1:Int)<(5:Int),
 (1:Nat)<(5:Nat),
 Enc.Is eI (2:Nat) fun(i j:Nat)=>List.getD [D.int IntKind.i64 (1:Int),D.int IntKind.i64 (0:Int)] (i*(1:Nat)+j) D.nilp,
 Enc.Is eI (2:Nat) qt84c_11,
 List.length qt84c_3≤(1000000:Nat),
 List.length qt84c_3≤List.length (Enc.list eI (2:Nat) qt84c_11),
 (0:Int)≤(2:Int),
 (2:Int)<(5:Int),
 (2:Nat)<(5:Nat),
 Enc.Is eI (2:Nat) fun(i j:Nat)=>List.getD [D.int IntKind.i64 (0:Int),D.int IntKind.i64 (1:Int)] (i*(1:Nat)+j) D.nilp,
 Enc.Is eI (2:Nat) qt84c_11,
 List.length qt84c_4≤(1000000:Nat),
 List.length qt84c_4≤List.length (Enc.list eI (2:Nat) qt84c_11),
 (0:Int)≤(3:Int),
 (3:Int)<(5:Int),
 (3:Nat)<(5:Nat),
 Enc.Is eI (2:Nat) fun(i j:Nat)=>List.getD [D.int IntKind.i64 (-1:Int),D.int IntKind.i64 (0:Int)] (i*(1:Nat)+j) D.nilp,
 Enc.Is eI (2:Nat) qt84c_11,
 List.length qt84c_5≤(1000000:Nat),
 List.length qt84c_5≤List.length (Enc.list eI (2:Nat) qt84c_11),
 (0:Int)≤(4:Int),
 (4:Int)<(5:Int),
 (4:Nat)<(5:Nat),
 Enc.Is eI (2:Nat) fun(i j:Nat)=>List.getD [D.int IntKind.i64 (0:Int),D.int IntKind.i64 (-1:Int)] (i*(1:Nat)+j) D.nilp,
 Enc.Is eI (2:Nat) qt84c_11,
 List.length qt84c_6≤(1000000:Nat),
 List.length qt84c_6≤List.length (Enc.list eI (2:Nat) qt84c_11),
 Enc.Is eI (2:Nat) (Enc.F eI [(3:Int),(2:Int)]),
 Enc.Is eI (2:Nat) qt84c_11,
 List.length qt84c_9≤(1000000:Nat),
 List.length qt84c_9≤List.length (Enc.list eI (2:Nat) qt84c_11),
 i64ok (34:Int),
 i64ok (26:Int),
 (0:Int)<(1:Int)∧(1:Int)<(9223372036854775808:Int),
 (0:Int)<(1:Int)∧(1:Int)<(9223372036854775808:Int),
 (0:Int)≤(1:Int),
 (1:Int)≤(2:Int),
 (0:Int)≤(3:Int),
 (3:Int)<(5:Int),
 (3:Nat)<(5:Nat),
 (2:Nat)≤(1000000:Nat),
 (1:Nat)≤(2:Nat),
 (0:Int)≤(0:Int),
 (0:Int)<(2:Int),
 (0:Nat)<(2:Nat),
 (1:Nat)≤(1000000:Nat),
 (1:Nat)≤(1000000:Nat),
 (0:Int)≤(1:Int),
 (1:Int)<(2:Int),
 (1:Nat)<(2:Nat),
 (2:Nat)≤(1000000:Nat),
 (1:Nat)≤(1:Nat),
 (2:Nat)≤(1000000:Nat),
 (1:Nat)≤(1:Nat),
 (2:Nat)≤(2:Nat),
 (2:Nat)≤(2:Nat),
 (0:Int)≤(0:Int),
 (0:Int)<(5:Int),
 (0:Nat)<(5:Nat),
 Enc.Is eI (List.length qt84c_1) (Enc.F eI qt84c_1),
 Enc.Is eI (2:Nat) (Enc.F eI [(0:Int),(12:Int)]),
 List.length qt84c_8≤(1000000:Nat),
 List.length qt84c_8≤List.length (Enc.list eI (2:Nat) (Enc.F eI [(0:Int),(12:Int)])),
 (0:Int)≤(1:Int),
 (1:Int)<(5:Int),
 (1:Nat)<(5:Nat),
 Enc.Is eI (2:Nat) fun(i j:Nat)=>List.getD [D.int IntKind.i64 (1:Int),D.int IntKind.i64 (0:Int)] (i*(1:Nat)+j) D.nilp,
 Enc.Is eI (2:Nat) (Enc.F eI [(0:Int),(12:Int)]),
 List.length qt84c_3≤(1000000:Nat),
 List.length qt84c_3≤List.length (Enc.list eI (2:Nat) (Enc.F eI [(0:Int),(12:Int)])),
 (0:Int)≤(2:Int),
 (2:Int)<(5:Int),
 (2:Nat)<(5:Nat),
 Enc.Is eI (2:Nat) fun(i j:Nat)=>List.getD [D.int IntKind.i64 (0:Int),D.int IntKind.i64 (1:Int)] (i*(1:Nat)+j) D.nilp,
 Enc.Is eI (2:Nat) (Enc.F eI [(0:Int),(12:Int)]),
 List.length qt84c_4≤(1000000:Nat),
 List.length qt84c_4≤List.length (Enc.list eI (2:Nat) (Enc.F eI [(0:Int),(12:Int)])),
 (0:Int)≤(1:Int),
 (1:Int)≤(2:Int),
 (0:Int)≤(4:Int),
 (4:Int)<(5:Int),
 (4:Nat)<(5:Nat),
 (2:Nat)≤(1000000:Nat),
 (1:Nat)≤(2:Nat),
 (0:Int)≤(0:Int),
 (0:Int)<(2:Int),
 (0:Nat)<(2:Nat),
 (1:Nat)≤(1000000:Nat),
 (1:Nat)≤(1000000:Nat),
 (0:Int)≤(1:Int),
 (1:Int)<(2:Int),
 (1:Nat)<(2:Nat),
 (2:Nat)≤(1000000:Nat),
 (1:Nat)≤(1:Nat),
 (2:Nat)≤(1000000:Nat),
 (1:Nat)≤(1:Nat),
 (2:Nat)≤(2:Nat),
 (2:Nat)≤(2:Nat),
 (0:Int)≤(0:Int),
 (0:Int)<(5:Int),
 (0:Nat)<(5:Nat),
 Enc.Is eI (List.length qt84c_1) (Enc.F eI qt84c_1),
 Enc.Is eI (2:Nat) (Enc.F eI [(12:Int),(0:Int)]),
 List.length qt84c_8≤(1000000:Nat),
 List.length qt84c_8≤List.length (Enc.list eI (2:Nat) (Enc.F eI [(12:Int),(0:Int)])),
 (0:Int)≤(1:Int),
 (1:Int)<(5:Int),
 (1:Nat)<(5:Nat),
 Enc.Is eI (2:Nat) fun(i j:Nat)=>List.getD [D.int IntKind.i64 (1:Int),D.int IntKind.i64 (0:Int)] (i*(1:Nat)+j) D.nilp,
 Enc.Is eI (2:Nat) (Enc.F eI [(12:Int),(0:Int)]),
 List.length qt84c_3≤(1000000:Nat),
 List.length qt84c_3≤List.length (Enc.list eI (2:Nat) (Enc.F eI [(12:Int),(0:Int)])),
 (0:Int)≤(1:Int),
 (1:Int)≤(2:Int),
 (0:Int)≤(0:Int),
 (0:Int)≤(2:Int),
 (0:Int)≤(1:Int),
 (1:Int)<(5:Int),
 (1:Nat)<(5:Nat),
 (1:Nat)≤(1000000:Nat),
 (0:Nat)≤(2:Nat),
 (0:Int)≤(2:Int),
 (2:Int)<(5:Int),
 (2:Nat)<(5:Nat),
 (2:Nat)≤(1000000:Nat),
 (1:Nat)≤(1:Nat),
 (0:Int)≤(0:Int),
 (0:Int)<(2:Int),
 (0:Nat)<(2:Nat),
 (1:Nat)≤(1000000:Nat),
 (1:Nat)≤(1000000:Nat),
 (0:Int)≤(1:Int),
 (1:Int)<(2:Int),
 (1:Nat)<(2:Nat),
 (2:Nat)≤(1000000:Nat),
 (1:Nat)≤(1:Nat),
 (2:Nat)≤(1000000:Nat),
 (1:Nat)≤(1:Nat),
 (2:Nat)≤(2:Nat),
 (2:Nat)≤(2:Nat),
 (0:Int)≤(0:Int),
 (0:Int)<(5:Int),
 (0:Nat)<(5:Nat),
 Enc.Is eI (List.length qt84c_1) (Enc.F eI qt84c_1),
 Enc.Is eI (2:Nat) (Enc.F eI [(10:Int),(10:Int)]),
 List.length qt84c_8≤(1000000:Nat),
 List.length qt84c_8≤List.length (Enc.list eI (2:Nat) (Enc.F eI [(10:Int),(10:Int)])),
 (0:Int)≤(1:Int),
 (1:Int)≤(2:Int),
 (0:Int)≤(3:Int),
 (3:Int)<(5:Int),
 (3:Nat)<(5:Nat),
 (2:Nat)≤(1000000:Nat),
 (1:Nat)≤(2:Nat),
 (0:Int)≤(0:Int),
 (0:Int)<(2:Int),
 (0:Nat)<(2:Nat),
 (1:Nat)≤(1000000:Nat),
 (1:Nat)≤(1000000:Nat),
 (0:Int)≤(1:Int),
 (1:Int)<(2:Int),
 (1:Nat)<(2:Nat),
 (2:Nat)≤(1000000:Nat),
 (1:Nat)≤(1:Nat),
 (2:Nat)≤(1000000:Nat),
 (1:Nat)≤(1:Nat),
 (2:Nat)≤(2:Nat),
 (2:Nat)≤(2:Nat),
 (0:Int)≤(1:Int),
 (1:Int)≤(2:Int),
 (0:Int)≤(4:Int),
 (4:Int)<(5:Int),
 (4:Nat)<(5:Nat),
 (2:Nat)≤(1000000:Nat),
 (1:Nat)≤(2:Nat),
 (0:Int)≤(0:Int),
 (0:Int)<(2:Int),
 (0:Nat)<(2:Nat),
 (1:Nat)≤(1000000:Nat),
 (1:Nat)≤(1000000:Nat),
 (0:Int)≤(1:Int),
 (1:Int)<(2:Int),
 (1:Nat)<(2:Nat),
 (2:Nat)≤(1000000:Nat),
 (1:Nat)≤(1:Nat),
 (2:Nat)≤(1000000:Nat),
 (1:Nat)≤(1:Nat),
 (2:Nat)≤(2:Nat),
 (2:Nat)≤(2:Nat),
 (0:Int)≤(0:Int),
 (0:Int)<(5:Int),
 (0:Nat)<(5:Nat),
 Enc.Is eI (List.length qt84c_1) (Enc.F eI qt84c_1),
 Enc.Is eI (2:Nat) qt84c_12,
 List.length qt84c_8≤(1000000:Nat),
 List.length qt84c_8≤List.length (Enc.list eI (2:Nat) qt84c_12),
 (0:Int)≤(1:Int),
 (1:Int)<(5:Int),
 (1:Nat)<(5:Nat),
 Enc.Is eI (2:Nat) fun(i j:Nat)=>List.getD [D.int IntKind.i64 (1:Int),D.int IntKind.i64 (0:Int)] (i*(1:Nat)+j) D.nilp,
 Enc.Is eI (2:Nat) qt84c_12,
 List.length qt84c_3≤(1000000:Nat),
 List.length qt84c_3≤List.length (Enc.list eI (2:Nat) qt84c_12),
 (0:Int)≤(2:Int),
 (2:Int)<(5:Int),
 (2:Nat)<(5:Nat),
 Enc.Is eI (2:Nat) fun(i j:Nat)=>List.getD [D.int IntKind.i64 (0:Int),D.int IntKind.i64 (1:Int)] (i*(1:Nat)+j) D.nilp,
 Enc.Is eI (2:Nat) qt84c_12,
 List.length qt84c_4≤(1000000:Nat),
 List.length qt84c_4≤List.length (Enc.list eI (2:Nat) qt84c_12),
 (0:Int)≤(3:Int),
 (3:Int)<(5:Int),
 (3:Nat)<(5:Nat),
 Enc.Is eI (2:Nat) fun(i j:Nat)=>List.getD [D.int IntKind.i64 (-1:Int),D.int IntKind.i64 (0:Int)] (i*(1:Nat)+j) D.nilp,
 Enc.Is eI (2:Nat) qt84c_12,
 List.length qt84c_5≤(1000000:Nat),
 List.length qt84c_5≤List.length (Enc.list eI (2:Nat) qt84c_12),
 (0:Int)≤(4:Int),
 (4:Int)<(5:Int),
 (4:Nat)<(5:Nat),
 Enc.Is eI (2:Nat) fun(i j:Nat)=>List.getD [D.int IntKind.i64 (0:Int),D.int IntKind.i64 (-1:Int)] (i*(1:Nat)+j) D.nilp,
 Enc.Is eI (2:Nat) qt84c_12,
 List.length qt84c_6≤(1000000:Nat),
 List.length qt84c_6≤List.length (Enc.list eI (2:Nat) qt84c_12),
 Enc.Is eI (2:Nat) (Enc.F eI [(3:Int),(2:Int)]),
 Enc.Is eI (2:Nat) qt84c_12,
 List.length qt84c_9≤(1000000:Nat),
 List.length qt84c_9≤List.length (Enc.list eI (2:Nat) qt84c_12),
 i64ok (34:Int),
 i64ok (30:Int),
 (0:Int)<(1:Int)∧(1:Int)<(9223372036854775808:Int),
 (0:Int)<(1:Int)∧(1:Int)<(9223372036854775808:Int),
 (0:Int)≤(1:Int),
 (1:Int)≤(2:Int),
 (0:Int)≤(0:Int),
 (0:Int)≤(2:Int),
 (0:Int)≤(2:Int),
 (2:Int)<(5:Int),
 (2:Nat)<(5:Nat),
 (1:Nat)≤(1000000:Nat),
 (0:Nat)≤(2:Nat),
 (0:Int)≤(3:Int),
 (3:Int)<(5:Int),
 (3:Nat)<(5:Nat),
 (2:Nat)≤(1000000:Nat),
 (1:Nat)≤(1:Nat),
 (0:Int)≤(0:Int),
 (0:Int)<(2:Int),
 (0:Nat)<(2:Nat),
 (1:Nat)≤(1000000:Nat),
 (1:Nat)≤(1000000:Nat),
 (0:Int)≤(1:Int),
 (1:Int)<(2:Int),
 (1:Nat)<(2:Nat),
 (2:Nat)≤(1000000:Nat),
 (1:Nat)≤(1:Nat),
 (2:Nat)≤(1000000:Nat),
 (1:Nat)≤(1:Nat),
 (2:Nat)≤(2:Nat),
 (2:Nat)≤(2:Nat),
 (0:Int)≤(0:Int),
 (0:Int)<(5:Int),
 (0:Nat)<(5:Nat),
 Enc.Is eI (List.length qt84c_1) (Enc.F eI qt84c_1),
 Enc.Is eI (2:Nat) qt84c_13,
 List.length qt84c_8≤(1000000:Nat),
 List.length qt84c_8≤List.length (Enc.list eI (2:Nat) qt84c_13),
 (0:Int)≤(1:Int),
 (1:Int)<(5:Int),
 (1:Nat)<(5:Nat),
 Enc.Is eI (2:Nat) fun(i j:Nat)=>List.getD [D.int IntKind.i64 (1:Int),D.int IntKind.i64 (0:Int)] (i*(1:Nat)+j) D.nilp,
 Enc.Is eI (2:Nat) qt84c_13,
 List.length qt84c_3≤(1000000:Nat),
 List.length qt84c_3≤List.length (Enc.list eI (2:Nat) qt84c_13),
 (0:Int)≤(2:Int),
 (2:Int)<(5:Int),
 (2:Nat)<(5:Nat),
 Enc.Is eI (2:Nat) fun(i j:Nat)=>List.getD [D.int IntKind.i64 (0:Int),D.int IntKind.i64 (1:Int)] (i*(1:Nat)+j) D.nilp,
 Enc.Is eI (2:Nat) qt84c_13,
 List.length qt84c_4≤(1000000:Nat),
 List.length qt84c_4≤List.length (Enc.list eI (2:Nat) qt84c_13),
 (0:Int)≤(3:Int),
 (3:Int)<(5:Int),
 (3:Nat)<(5:Nat),
 Enc.Is eI (2:Nat) fun(i j:Nat)=>List.getD [D.int IntKind.i64 (-1:Int),D.int IntKind.i64 (0:Int)] (i*(1:Nat)+j) D.nilp,
 Enc.Is eI (2:Nat) qt84c_13,
 List.length qt84c_5≤(1000000:Nat),
 List.length qt84c_5≤List.length (Enc.list eI (2:Nat) qt84c_13),
 (0:Int)≤(4:Int),
 (4:Int)<(5:Int),
 (4:Nat)<(5:Nat),
 Enc.Is eI (2:Nat) fun(i j:Nat)=>List.getD [D.int IntKind.i64 (0:Int),D.int IntKind.i64 (-1:Int)] (i*(1:Nat)+j) D.nilp,
 Enc.Is eI (2:Nat) qt84c_13,
 List.length qt84c_6≤(1000000:Nat),
 List.length qt84c_6≤List.length (Enc.list eI (2:Nat) qt84c_13),
 Enc.Is eI (2:Nat) (Enc.F eI [(3:Int),(2:Int)]),
 Enc.Is eI (2:Nat) qt84c_13,
 List.length qt84c_9≤(1000000:Nat),
 List.length qt84c_9≤List.length (Enc.list eI (2:Nat) qt84c_13),
 i64ok (34:Int),
 i64ok (20:Int),
 (0:Int)<(1:Int)∧(1:Int)<(9223372036854775808:Int),
 (0:Int)<(1:Int)∧(1:Int)<(9223372036854775808:Int),
 (0:Int)≤(1:Int),
 (1:Int)≤(2:Int),
 (0:Int)≤(4:Int),
 (4:Int)<(5:Int),
 (4:Nat)<(5:Nat),
 (2:Nat)≤(1000000:Nat),
 (1:Nat)≤(2:Nat),
 (0:Int)≤(0:Int),
 (0:Int)<(2:Int),
 (0:Nat)<(2:Nat),
 (1:Nat)≤(1000000:Nat),
 (1:Nat)≤(1000000:Nat),
 (0:Int)≤(1:Int),
 (1:Int)<(2:Int),
 (1:Nat)<(2:Nat),
 (2:Nat)≤(1000000:Nat),
 (1:Nat)≤(1:Nat),
 (2:Nat)≤(1000000:Nat),
 (1:Nat)≤(1:Nat),
 (2:Nat)≤(2:Nat),
 (2:Nat)≤(2:Nat),
 (0:Int)≤(1:Int),
 (1:Int)≤(2:Int),
 (0:Int)≤(0:Int),
 (0:Int)≤(2:Int),
 (0:Int)≤(3:Int),
 (3:Int)<(5:Int),
 (3:Nat)<(5:Nat),
 (1:Nat)≤(1000000:Nat),
 (0:Nat)≤(2:Nat),
 (0:Int)≤(4:Int),
 (4:Int)<(5:Int),
 (4:Nat)<(5:Nat),
 (2:Nat)≤(1000000:Nat),
 (1:Nat)≤(1:Nat),
 (0:Int)≤(0:Int),
 (0:Int)<(2:Int),
 (0:Nat)<(2:Nat),
 (1:Nat)≤(1000000:Nat),
 (1:Nat)≤(1000000:Nat),
 (0:Int)≤(1:Int),
 (1:Int)<(2:Int),
 (1:Nat)<(2:Nat),
 (2:Nat)≤(1000000:Nat),
 (1:Nat)≤(1:Nat),
 (2:Nat)≤(1000000:Nat),
 (1:Nat)≤(1:Nat),
 (2:Nat)≤(2:Nat),
 (2:Nat)≤(2:Nat),
 (0:Int)≤(0:Int),
 (0:Int)<(5:Int),
 (0:Nat)<(5:Nat),
 Enc.Is eI (List.length qt84c_1) (Enc.F eI qt84c_1),
 Enc.Is eI (2:Nat) qt84c_15,
 List.length qt84c_8≤(1000000:Nat),
 List.length qt84c_8≤List.length (Enc.list eI (2:Nat) qt84c_15),
 (0:Int)≤(1:Int),
 (1:Int)<(5:Int),
 (1:Nat)<(5:Nat),
 Enc.Is eI (2:Nat) fun(i j:Nat)=>List.getD [D.int IntKind.i64 (1:Int),D.int IntKind.i64 (0:Int)] (i*(1:Nat)+j) D.nilp,
 Enc.Is eI (2:Nat) qt84c_15,
 List.length qt84c_3≤(1000000:Nat),
 List.length qt84c_3≤List.length (Enc.list eI (2:Nat) qt84c_15),
 (0:Int)≤(2:Int),
 (2:Int)<(5:Int),
 (2:Nat)<(5:Nat),
 Enc.Is eI (2:Nat) fun(i j:Nat)=>List.getD [D.int IntKind.i64 (0:Int),D.int IntKind.i64 (1:Int)] (i*(1:Nat)+j) D.nilp,
 Enc.Is eI (2:Nat) qt84c_15,
 List.length qt84c_4≤(1000000:Nat),
 List.length qt84c_4≤List.length (Enc.list eI (2:Nat) qt84c_15),
 (0:Int)≤(3:Int),
 (3:Int)<(5:Int),
 (3:Nat)<(5:Nat),
 Enc.Is eI (2:Nat) fun(i j:Nat)=>List.getD [D.int IntKind.i64 (-1:Int),D.int IntKind.i64 (0:Int)] (i*(1:Nat)+j) D.nilp,
 Enc.Is eI (2:Nat) qt84c_15,
 List.length qt84c_5≤(1000000:Nat),
 List.length qt84c_5≤List.length (Enc.list eI (2:Nat) qt84c_15),
 (0:Int)≤(4:Int),
 (4:Int)<(5:Int),
 (4:Nat)<(5:Nat),
 Enc.Is eI (2:Nat) fun(i j:Nat)=>List.getD [D.int IntKind.i64 (0:Int),D.int IntKind.i64 (-1:Int)] (i*(1:Nat)+j) D.nilp,
 Enc.Is eI (2:Nat) qt84c_15,
 List.length qt84c_6≤(1000000:Nat),
 List.length qt84c_6≤List.length (Enc.list eI (2:Nat) qt84c_15),
 Enc.Is eI (2:Nat) (Enc.F eI [(3:Int),(2:Int)]),
 Enc.Is eI (2:Nat) qt84c_15,
 List.length qt84c_9≤(1000000:Nat),
 List.length qt84c_9≤List.length (Enc.list eI (2:Nat) qt84c_15),
 i64ok (34:Int),
 i64ok (0:Int),
 (0:Int)<(1:Int)∧(1:Int)<(9223372036854775808:Int),
 (0:Int)<(1:Int)∧(1:Int)<(9223372036854775808:Int),
 (0:Int)≤(1:Int),
 (1:Int)≤(2:Int),
 (0:Int)≤(0:Int),
 (0:Int)≤(2:Int),
 List.length qt84c_2≤List.length qt84c_2,
 Enc.Is eI (List.length qt84c_2) fun(i x:Nat)=>dI (List.getD qt84c_2 i (0:Int)),
 List.length qt84c_2≤(1000000:Nat),
 List.length qt84c_7+(1:Nat)≤(1000000:Nat),
 List.length qt84c_7≤List.length qt84c_7,
 List.length qt84c_7+(1:Nat)≤List.length qt84c_7+(1:Nat),
 Enc.Is eI (List.length qt84c_7+(1:Nat)) (joinF (List.length qt84c_7) (fun(i x:Nat)=>dI (List.getD qt84c_7 i (0:Int))) fun(i j:Nat)=>List.getD [D.int IntKind.i64 (1:Int)] (i*(1:Nat)+j) D.nilp),
 List.length (Enc.list eI (List.length qt84c_7+(1:Nat)) (joinF (List.length qt84c_7) (fun(i x:Nat)=>dI (List.getD qt84c_7 i (0:Int))) fun(i j:Nat)=>List.getD [D.int IntKind.i64 (1:Int)] (i*(1:Nat)+j) D.nilp))≤(1000000:Nat),
 ∀(x:Int),x∈Enc.list eI (RowR.n (rowI (Enc.list eI (RowR.n qt84c_10) (RowR.F qt84c_10)))+(1:Nat)) (joinF (RowR.n (rowI (Enc.list eI (RowR.n qt84c_10) (RowR.F qt84c_10)))) (RowR.F (rowI (Enc.list eI (RowR.n qt84c_10) (RowR.F qt84c_10)))) fun(i j:Nat)=>List.getD [D.int IntKind.i64 (1:Int)] (i*TypeInfo.size (Tables.types (Program.toTables Tryz.prog))[(3:Nat)]+j) D.nilp)→i64ok x,
 (0:Int)≤(0:Int),
 (0:Int)<(2:Int),
 (0:Nat)<List.length qt84c_2,
 (0:Int)≤(0:Int),
 (0:Int)<(2:Int),
 (0:Nat)<List.length qt84c_2,
 (0:Int)≤(1:Int),
 (1:Int)<(2:Int),
 (1:Nat)<List.length qt84c_2,
 (0:Int)≤(1:Int),
 (1:Int)<(2:Int),
 (1:Nat)<List.length qt84c_2,
 List.length qt84c_2≤List.length qt84c_2]
theorem t84c:runFnX Tryz.prog G0 (lookS [v182,v139,v154c,v131,v151,v155,v150r]) (fun _=>[(999999,[],none)]) [141,188,147,191,192,148,193,187,210] 4 200 30 96 Tryz.f96 [.agg [.sl true 2 1 (eI.F [10,10]),.sl true 2 1 (eI.F [3,2]),.sl true 1 3 (eDm.F [⟨⟨#[97]⟩,[1,1],12⟩])]] =
  T.needs nd_t84c (T.ret [Ar.agg [D.int IntKind.i64 (34:Int),D.int IntKind.i64 (1:Int)],Ar.agg [D.int IntKind.i64 (1:Int),D.sl true (List.length (Enc.list eI (2:Nat) (Enc.F eI [(10:Int),(2:Int)]))) (1:Nat) (putF (1:Nat) (0:Nat) (List.length [C.num IntKind.i64 (2:Int)]) [D.int IntKind.i64 (2:Int)] (putF (0:Nat) (0:Nat) (List.length [C.num IntKind.i64 (10:Int)]) [D.int IntKind.i64 (10:Int)] fun(i x:Nat)=>dI (List.getD (Enc.list eI (2:Nat) (Enc.F eI [(10:Int),(2:Int)])) i (0:Int))))],Ar.c (D.bool true)]):=by kernel_rfl
theorem all_t84c:All nd_t84c:=by
 unfold nd_t84c
 repeat (refine⟨(by first|exact of_decide_eq_true rfl|exact fun i j _ _=>D.eqv_refl _|exact Enc.is_F _ _ _|exact fun i j hi _=>absurd hi (Nat.not_lt_zero i)|exact is_lit2 (D.eqv_refl _) (D.eqv_refl _)|exact is_lit3 (D.eqv_refl _) (D.eqv_refl _) (D.eqv_refl _)),?_⟩)
 trivial
theorem w_t84c:(T.needs nd_t84c (T.ret [Ar.agg [D.int IntKind.i64 (34:Int),D.int IntKind.i64 (1:Int)],Ar.agg [D.int IntKind.i64 (1:Int),D.sl true (List.length (Enc.list eI (2:Nat) (Enc.F eI [(10:Int),(2:Int)]))) (1:Nat) (putF (1:Nat) (0:Nat) (List.length [C.num IntKind.i64 (2:Int)]) [D.int IntKind.i64 (2:Int)] (putF (0:Nat) (0:Nat) (List.length [C.num IntKind.i64 (10:Int)]) [D.int IntKind.i64 (10:Int)] fun(i x:Nat)=>dI (List.getD (Enc.list eI (2:Nat) (Enc.F eI [(10:Int),(2:Int)])) i (0:Int))))],Ar.c (D.bool true)])).wp (fun rs=>rsEqv rs [.agg [dI 34,dI 1],.agg [dI 1,dT [10,2]],rB true]):=by
 refine T.needs_wp all_t84c ?_
 refine⟨⟨rfl,rfl,trivial⟩,⟨rfl,dT_ok rfl rfl (fun i hi=>?_),trivial⟩,rfl,trivial⟩
 match i,hi with
 |0,_=>exact D.eqv_refl _
 |1,_=>exact D.eqv_refl _
def dom84c:DomF
 |[.agg ds]=>some ([Same [.agg ds] [.agg two]],[.agg [dI 34,dI 1],.agg [dI 1,dT [10,2]],rB true])
 |_=>none
def v84c:Nat×Sm:=(96,fokSm dom84c)
theorem C84c:FOK Tryz.prog G0 gw 96 dom84c:=by
 intro ags p r hd hp κ w xs hw hl hG hx
 unfold dom84c at hd
 split at hd
 ·simp only[Option.some.injEq,Prod.mk.injEq]at hd
  obtain⟨rfl,rfl⟩:=hd
  exact fokX_fin mixed gw_stable (sl:=[v182,v139,v154c,v131,v151,v155,v150r]) ⟨S182,S139,S154c,S131,S151,S155,S150r,trivial⟩ Tryz.func96 hw hl hG hx hp.1.h rfl t84c w_t84c
 ·cases hd
theorem S84c:SumOK Tryz.prog G0 gw 96 (fokSm dom84c):=fok_sum Tryz.func96 rfl C84c
end Go.Pl
end
section
set_option maxRecDepth 100000
namespace Go.Pl
open Go.Gd
open Go.V Go.Proofs
def canon(g:Nat)(i d:Int):List Ag:=[.agg [.sl true 2 4 (eSc.F [⟨1000,0,0,20000⟩,⟨1000,0,0,10000⟩]),dI 0],.c (dI i),.c (.fc g 1 (fun _=>dR [⟨d,d⟩,⟨d,d⟩]))]
def nd_t110_185_0_78:List Prop:=[
 Enc.Is eRg (List.length [(Rg.mk (78:Int) (78:Int)),(Rg.mk (78:Int) (78:Int))]) (Enc.F eRg [(Rg.mk (78:Int) (78:Int)),(Rg.mk (78:Int) (78:Int))]),
 (0:Int)≤(0:Int),
 (0:Int)<(2:Int),
 (0:Int)≤(0:Int),
 (0:Int)<(2:Int),
 (78:Int)≠(0:Int),
 (78:Int)≠(0:Int),
 (78:Int)≠(0:Int),
 Enc.Is eRg (List.length [(Rg.mk (78:Int) (78:Int)),(Rg.mk (78:Int) (78:Int))]) (Enc.F eRg [(Rg.mk (78:Int) (78:Int)),(Rg.mk (78:Int) (78:Int))]),
 (0:Int)≤(1:Int),
 (1:Int)<(2:Int),
 (0:Int)≤(1:Int),
 (1:Int)<(2:Int),
 (78:Int)≠(0:Int),
 (78:Int)≠(0:Int),
 (78:Int)≠(0:Int),
 i64ok (40:Int),
 i64ok (38:Int),
 (0:Int)<(78:Int)∧(78:Int)<(9223372036854775808:Int),
 (0:Int)<(78:Int)∧(78:Int)<(9223372036854775808:Int),
 i64ok (40:Int),
 i64ok (38:Int),
 (0:Int)<(78:Int)∧(78:Int)<(9223372036854775808:Int),
 (0:Int)<(78:Int)∧(78:Int)<(9223372036854775808:Int),
 i64ok (38:Int),
 i64ok (40:Int),
 (0:Int)<(78:Int)∧(78:Int)<(9223372036854775808:Int),
 (0:Int)<(78:Int)∧(78:Int)<(9223372036854775808:Int)]
theorem t110_185_0_78:runFnX Tryz.prog G0 (lookS [v131,v185]) (fun _=>[(999999,[],none)]) [] 1 60 3 108 Tryz.f108 (canon 197 0 78) =
  T.needs nd_t110_185_0_78 (T.ret [Ar.agg [D.int IntKind.i64 (25641:Int),D.int IntKind.i64 (25642:Int)]]):=by kernel_rfl
theorem all_t110_185_0_78:All nd_t110_185_0_78:=by
 unfold nd_t110_185_0_78
 repeat (refine⟨(by first|exact of_decide_eq_true rfl|exact fun i j _ _=>D.eqv_refl _|exact Enc.is_F _ _ _|exact fun i j hi _=>absurd hi (Nat.not_lt_zero i)),?_⟩)
 trivial
theorem w_t110_185_0_78:(T.needs nd_t110_185_0_78 (T.ret [Ar.agg [D.int IntKind.i64 (25641:Int),D.int IntKind.i64 (25642:Int)]])).wp (fun rs=>rsEqv rs [.agg [dI 25641,dI 25642]]):=by
 refine T.needs_wp all_t110_185_0_78 ?_
 exact rsEqv_refl _
def nd_t110_185_0_97:List Prop:=[
 Enc.Is eRg (List.length [(Rg.mk (97:Int) (97:Int)),(Rg.mk (97:Int) (97:Int))]) (Enc.F eRg [(Rg.mk (97:Int) (97:Int)),(Rg.mk (97:Int) (97:Int))]),
 (0:Int)≤(0:Int),
 (0:Int)<(2:Int),
 (0:Int)≤(0:Int),
 (0:Int)<(2:Int),
 (97:Int)≠(0:Int),
 (97:Int)≠(0:Int),
 (97:Int)≠(0:Int),
 Enc.Is eRg (List.length [(Rg.mk (97:Int) (97:Int)),(Rg.mk (97:Int) (97:Int))]) (Enc.F eRg [(Rg.mk (97:Int) (97:Int)),(Rg.mk (97:Int) (97:Int))]),
 (0:Int)≤(1:Int),
 (1:Int)<(2:Int),
 (0:Int)≤(1:Int),
 (1:Int)<(2:Int),
 (97:Int)≠(0:Int),
 (97:Int)≠(0:Int),
 (97:Int)≠(0:Int),
 i64ok (27:Int),
 i64ok (70:Int),
 (0:Int)<(97:Int)∧(97:Int)<(9223372036854775808:Int),
 (0:Int)<(97:Int)∧(97:Int)<(9223372036854775808:Int),
 i64ok (27:Int),
 i64ok (70:Int),
 (0:Int)<(97:Int)∧(97:Int)<(9223372036854775808:Int),
 (0:Int)<(97:Int)∧(97:Int)<(9223372036854775808:Int)]
theorem t110_185_0_97:runFnX Tryz.prog G0 (lookS [v131,v185]) (fun _=>[(999999,[],none)]) [] 1 60 3 108 Tryz.f108 (canon 197 0 97) =
  T.needs nd_t110_185_0_97 (T.ret [Ar.agg [D.int IntKind.i64 (20618:Int),D.int IntKind.i64 (20619:Int)]]):=by kernel_rfl
theorem all_t110_185_0_97:All nd_t110_185_0_97:=by
 unfold nd_t110_185_0_97
 repeat (refine⟨(by first|exact of_decide_eq_true rfl|exact fun i j _ _=>D.eqv_refl _|exact Enc.is_F _ _ _|exact fun i j hi _=>absurd hi (Nat.not_lt_zero i)),?_⟩)
 trivial
theorem w_t110_185_0_97:(T.needs nd_t110_185_0_97 (T.ret [Ar.agg [D.int IntKind.i64 (20618:Int),D.int IntKind.i64 (20619:Int)]])).wp (fun rs=>rsEqv rs [.agg [dI 20618,dI 20619]]):=by
 refine T.needs_wp all_t110_185_0_97 ?_
 exact rsEqv_refl _
def nd_t110_185_0_99:List Prop:=[
 Enc.Is eRg (List.length [(Rg.mk (99:Int) (99:Int)),(Rg.mk (99:Int) (99:Int))]) (Enc.F eRg [(Rg.mk (99:Int) (99:Int)),(Rg.mk (99:Int) (99:Int))]),
 (0:Int)≤(0:Int),
 (0:Int)<(2:Int),
 (0:Int)≤(0:Int),
 (0:Int)<(2:Int),
 (99:Int)≠(0:Int),
 (99:Int)≠(0:Int),
 (99:Int)≠(0:Int),
 Enc.Is eRg (List.length [(Rg.mk (99:Int) (99:Int)),(Rg.mk (99:Int) (99:Int))]) (Enc.F eRg [(Rg.mk (99:Int) (99:Int)),(Rg.mk (99:Int) (99:Int))]),
 (0:Int)≤(1:Int),
 (1:Int)<(2:Int),
 (0:Int)≤(1:Int),
 (1:Int)<(2:Int),
 (99:Int)≠(0:Int),
 (99:Int)≠(0:Int),
 (99:Int)≠(0:Int),
 i64ok (1:Int),
 i64ok (98:Int),
 (0:Int)<(99:Int)∧(99:Int)<(9223372036854775808:Int),
 (0:Int)<(99:Int)∧(99:Int)<(9223372036854775808:Int),
 i64ok (1:Int),
 i64ok (98:Int),
 (0:Int)<(99:Int)∧(99:Int)<(9223372036854775808:Int),
 (0:Int)<(99:Int)∧(99:Int)<(9223372036854775808:Int)]
theorem t110_185_0_99:runFnX Tryz.prog G0 (lookS [v131,v185]) (fun _=>[(999999,[],none)]) [] 1 60 3 108 Tryz.f108 (canon 197 0 99) =
  T.needs nd_t110_185_0_99 (T.ret [Ar.agg [D.int IntKind.i64 (20202:Int),D.int IntKind.i64 (20203:Int)]]):=by kernel_rfl
theorem all_t110_185_0_99:All nd_t110_185_0_99:=by
 unfold nd_t110_185_0_99
 repeat (refine⟨(by first|exact of_decide_eq_true rfl|exact fun i j _ _=>D.eqv_refl _|exact Enc.is_F _ _ _|exact fun i j hi _=>absurd hi (Nat.not_lt_zero i)),?_⟩)
 trivial
theorem w_t110_185_0_99:(T.needs nd_t110_185_0_99 (T.ret [Ar.agg [D.int IntKind.i64 (20202:Int),D.int IntKind.i64 (20203:Int)]])).wp (fun rs=>rsEqv rs [.agg [dI 20202,dI 20203]]):=by
 refine T.needs_wp all_t110_185_0_99 ?_
 exact rsEqv_refl _
def nd_t110_185_0_100:List Prop:=[
 Enc.Is eRg (List.length [(Rg.mk (100:Int) (100:Int)),(Rg.mk (100:Int) (100:Int))]) (Enc.F eRg [(Rg.mk (100:Int) (100:Int)),(Rg.mk (100:Int) (100:Int))]),
 (0:Int)≤(0:Int),
 (0:Int)<(2:Int),
 (0:Int)≤(0:Int),
 (0:Int)<(2:Int),
 (100:Int)≠(0:Int),
 (100:Int)≠(0:Int),
 (100:Int)≠(0:Int),
 Enc.Is eRg (List.length [(Rg.mk (100:Int) (100:Int)),(Rg.mk (100:Int) (100:Int))]) (Enc.F eRg [(Rg.mk (100:Int) (100:Int)),(Rg.mk (100:Int) (100:Int))]),
 (0:Int)≤(1:Int),
 (1:Int)<(2:Int),
 (0:Int)≤(1:Int),
 (1:Int)<(2:Int),
 (100:Int)≠(0:Int),
 (100:Int)≠(0:Int),
 (100:Int)≠(0:Int),
 i64ok (0:Int),
 i64ok (100:Int),
 (0:Int)<(100:Int)∧(100:Int)<(9223372036854775808:Int),
 (0:Int)<(100:Int)∧(100:Int)<(9223372036854775808:Int)]
theorem t110_185_0_100:runFnX Tryz.prog G0 (lookS [v131,v185]) (fun _=>[(999999,[],none)]) [] 1 60 3 108 Tryz.f108 (canon 197 0 100) =
  T.needs nd_t110_185_0_100 (T.ret [Ar.agg [D.int IntKind.i64 (20000:Int),D.int IntKind.i64 (20000:Int)]]):=by kernel_rfl
theorem all_t110_185_0_100:All nd_t110_185_0_100:=by
 unfold nd_t110_185_0_100
 repeat (refine⟨(by first|exact of_decide_eq_true rfl|exact fun i j _ _=>D.eqv_refl _|exact Enc.is_F _ _ _|exact fun i j hi _=>absurd hi (Nat.not_lt_zero i)),?_⟩)
 trivial
theorem w_t110_185_0_100:(T.needs nd_t110_185_0_100 (T.ret [Ar.agg [D.int IntKind.i64 (20000:Int),D.int IntKind.i64 (20000:Int)]])).wp (fun rs=>rsEqv rs [.agg [dI 20000,dI 20000]]):=by
 refine T.needs_wp all_t110_185_0_100 ?_
 exact rsEqv_refl _
def nd_t110_185_0_101:List Prop:=[
 Enc.Is eRg (List.length [(Rg.mk (101:Int) (101:Int)),(Rg.mk (101:Int) (101:Int))]) (Enc.F eRg [(Rg.mk (101:Int) (101:Int)),(Rg.mk (101:Int) (101:Int))]),
 (0:Int)≤(0:Int),
 (0:Int)<(2:Int),
 (0:Int)≤(0:Int),
 (0:Int)<(2:Int),
 (101:Int)≠(0:Int),
 (101:Int)≠(0:Int),
 (101:Int)≠(0:Int),
 Enc.Is eRg (List.length [(Rg.mk (101:Int) (101:Int)),(Rg.mk (101:Int) (101:Int))]) (Enc.F eRg [(Rg.mk (101:Int) (101:Int)),(Rg.mk (101:Int) (101:Int))]),
 (0:Int)≤(1:Int),
 (1:Int)<(2:Int),
 (0:Int)≤(1:Int),
 (1:Int)<(2:Int),
 (101:Int)≠(0:Int),
 (101:Int)≠(0:Int),
 (101:Int)≠(0:Int),
 i64ok (100:Int),
 i64ok (1:Int),
 (0:Int)<(101:Int)∧(101:Int)<(9223372036854775808:Int),
 (0:Int)<(101:Int)∧(101:Int)<(9223372036854775808:Int),
 i64ok (100:Int),
 i64ok (1:Int),
 (0:Int)<(101:Int)∧(101:Int)<(9223372036854775808:Int),
 (0:Int)<(101:Int)∧(101:Int)<(9223372036854775808:Int),
 i64ok (1:Int),
 i64ok (100:Int),
 (0:Int)<(101:Int)∧(101:Int)<(9223372036854775808:Int),
 (0:Int)<(101:Int)∧(101:Int)<(9223372036854775808:Int)]
theorem t110_185_0_101:runFnX Tryz.prog G0 (lookS [v131,v185]) (fun _=>[(999999,[],none)]) [] 1 60 3 108 Tryz.f108 (canon 197 0 101) =
  T.needs nd_t110_185_0_101 (T.ret [Ar.agg [D.int IntKind.i64 (19801:Int),D.int IntKind.i64 (19802:Int)]]):=by kernel_rfl
theorem all_t110_185_0_101:All nd_t110_185_0_101:=by
 unfold nd_t110_185_0_101
 repeat (refine⟨(by first|exact of_decide_eq_true rfl|exact fun i j _ _=>D.eqv_refl _|exact Enc.is_F _ _ _|exact fun i j hi _=>absurd hi (Nat.not_lt_zero i)),?_⟩)
 trivial
theorem w_t110_185_0_101:(T.needs nd_t110_185_0_101 (T.ret [Ar.agg [D.int IntKind.i64 (19801:Int),D.int IntKind.i64 (19802:Int)]])).wp (fun rs=>rsEqv rs [.agg [dI 19801,dI 19802]]):=by
 refine T.needs_wp all_t110_185_0_101 ?_
 exact rsEqv_refl _
def nd_t110_185_0_102:List Prop:=[
 Enc.Is eRg (List.length [(Rg.mk (102:Int) (102:Int)),(Rg.mk (102:Int) (102:Int))]) (Enc.F eRg [(Rg.mk (102:Int) (102:Int)),(Rg.mk (102:Int) (102:Int))]),
 (0:Int)≤(0:Int),
 (0:Int)<(2:Int),
 (0:Int)≤(0:Int),
 (0:Int)<(2:Int),
 (102:Int)≠(0:Int),
 (102:Int)≠(0:Int),
 (102:Int)≠(0:Int),
 Enc.Is eRg (List.length [(Rg.mk (102:Int) (102:Int)),(Rg.mk (102:Int) (102:Int))]) (Enc.F eRg [(Rg.mk (102:Int) (102:Int)),(Rg.mk (102:Int) (102:Int))]),
 (0:Int)≤(1:Int),
 (1:Int)<(2:Int),
 (0:Int)≤(1:Int),
 (1:Int)<(2:Int),
 (102:Int)≠(0:Int),
 (102:Int)≠(0:Int),
 (102:Int)≠(0:Int),
 i64ok (94:Int),
 i64ok (8:Int),
 (0:Int)<(102:Int)∧(102:Int)<(9223372036854775808:Int),
 (0:Int)<(102:Int)∧(102:Int)<(9223372036854775808:Int),
 i64ok (94:Int),
 i64ok (8:Int),
 (0:Int)<(102:Int)∧(102:Int)<(9223372036854775808:Int),
 (0:Int)<(102:Int)∧(102:Int)<(9223372036854775808:Int),
 i64ok (8:Int),
 i64ok (94:Int),
 (0:Int)<(102:Int)∧(102:Int)<(9223372036854775808:Int),
 (0:Int)<(102:Int)∧(102:Int)<(9223372036854775808:Int)]
theorem t110_185_0_102:runFnX Tryz.prog G0 (lookS [v131,v185]) (fun _=>[(999999,[],none)]) [] 1 60 3 108 Tryz.f108 (canon 197 0 102) =
  T.needs nd_t110_185_0_102 (T.ret [Ar.agg [D.int IntKind.i64 (19607:Int),D.int IntKind.i64 (19608:Int)]]):=by kernel_rfl
theorem all_t110_185_0_102:All nd_t110_185_0_102:=by
 unfold nd_t110_185_0_102
 repeat (refine⟨(by first|exact of_decide_eq_true rfl|exact fun i j _ _=>D.eqv_refl _|exact Enc.is_F _ _ _|exact fun i j hi _=>absurd hi (Nat.not_lt_zero i)),?_⟩)
 trivial
theorem w_t110_185_0_102:(T.needs nd_t110_185_0_102 (T.ret [Ar.agg [D.int IntKind.i64 (19607:Int),D.int IntKind.i64 (19608:Int)]])).wp (fun rs=>rsEqv rs [.agg [dI 19607,dI 19608]]):=by
 refine T.needs_wp all_t110_185_0_102 ?_
 exact rsEqv_refl _
def nd_t110_185_0_107:List Prop:=[
 Enc.Is eRg (List.length [(Rg.mk (107:Int) (107:Int)),(Rg.mk (107:Int) (107:Int))]) (Enc.F eRg [(Rg.mk (107:Int) (107:Int)),(Rg.mk (107:Int) (107:Int))]),
 (0:Int)≤(0:Int),
 (0:Int)<(2:Int),
 (0:Int)≤(0:Int),
 (0:Int)<(2:Int),
 (107:Int)≠(0:Int),
 (107:Int)≠(0:Int),
 (107:Int)≠(0:Int),
 Enc.Is eRg (List.length [(Rg.mk (107:Int) (107:Int)),(Rg.mk (107:Int) (107:Int))]) (Enc.F eRg [(Rg.mk (107:Int) (107:Int)),(Rg.mk (107:Int) (107:Int))]),
 (0:Int)≤(1:Int),
 (1:Int)<(2:Int),
 (0:Int)≤(1:Int),
 (1:Int)<(2:Int),
 (107:Int)≠(0:Int),
 (107:Int)≠(0:Int),
 (107:Int)≠(0:Int),
 i64ok (85:Int),
 i64ok (22:Int),
 (0:Int)<(107:Int)∧(107:Int)<(9223372036854775808:Int),
 (0:Int)<(107:Int)∧(107:Int)<(9223372036854775808:Int),
 i64ok (85:Int),
 i64ok (22:Int),
 (0:Int)<(107:Int)∧(107:Int)<(9223372036854775808:Int),
 (0:Int)<(107:Int)∧(107:Int)<(9223372036854775808:Int),
 i64ok (22:Int),
 i64ok (85:Int),
 (0:Int)<(107:Int)∧(107:Int)<(9223372036854775808:Int),
 (0:Int)<(107:Int)∧(107:Int)<(9223372036854775808:Int)]
theorem t110_185_0_107:runFnX Tryz.prog G0 (lookS [v131,v185]) (fun _=>[(999999,[],none)]) [] 1 60 3 108 Tryz.f108 (canon 197 0 107) =
  T.needs nd_t110_185_0_107 (T.ret [Ar.agg [D.int IntKind.i64 (18691:Int),D.int IntKind.i64 (18692:Int)]]):=by kernel_rfl
theorem all_t110_185_0_107:All nd_t110_185_0_107:=by
 unfold nd_t110_185_0_107
 repeat (refine⟨(by first|exact of_decide_eq_true rfl|exact fun i j _ _=>D.eqv_refl _|exact Enc.is_F _ _ _|exact fun i j hi _=>absurd hi (Nat.not_lt_zero i)),?_⟩)
 trivial
theorem w_t110_185_0_107:(T.needs nd_t110_185_0_107 (T.ret [Ar.agg [D.int IntKind.i64 (18691:Int),D.int IntKind.i64 (18692:Int)]])).wp (fun rs=>rsEqv rs [.agg [dI 18691,dI 18692]]):=by
 refine T.needs_wp all_t110_185_0_107 ?_
 exact rsEqv_refl _
def nd_t110_185_0_117:List Prop:=[
 Enc.Is eRg (List.length [(Rg.mk (117:Int) (117:Int)),(Rg.mk (117:Int) (117:Int))]) (Enc.F eRg [(Rg.mk (117:Int) (117:Int)),(Rg.mk (117:Int) (117:Int))]),
 (0:Int)≤(0:Int),
 (0:Int)<(2:Int),
 (0:Int)≤(0:Int),
 (0:Int)<(2:Int),
 (117:Int)≠(0:Int),
 (117:Int)≠(0:Int),
 (117:Int)≠(0:Int),
 Enc.Is eRg (List.length [(Rg.mk (117:Int) (117:Int)),(Rg.mk (117:Int) (117:Int))]) (Enc.F eRg [(Rg.mk (117:Int) (117:Int)),(Rg.mk (117:Int) (117:Int))]),
 (0:Int)≤(1:Int),
 (1:Int)<(2:Int),
 (0:Int)≤(1:Int),
 (1:Int)<(2:Int),
 (117:Int)≠(0:Int),
 (117:Int)≠(0:Int),
 (117:Int)≠(0:Int),
 i64ok (1:Int),
 i64ok (116:Int),
 (0:Int)<(117:Int)∧(117:Int)<(9223372036854775808:Int),
 (0:Int)<(117:Int)∧(117:Int)<(9223372036854775808:Int),
 i64ok (1:Int),
 i64ok (116:Int),
 (0:Int)<(117:Int)∧(117:Int)<(9223372036854775808:Int),
 (0:Int)<(117:Int)∧(117:Int)<(9223372036854775808:Int)]
theorem t110_185_0_117:runFnX Tryz.prog G0 (lookS [v131,v185]) (fun _=>[(999999,[],none)]) [] 1 60 3 108 Tryz.f108 (canon 197 0 117) =
  T.needs nd_t110_185_0_117 (T.ret [Ar.agg [D.int IntKind.i64 (17094:Int),D.int IntKind.i64 (17095:Int)]]):=by kernel_rfl
theorem all_t110_185_0_117:All nd_t110_185_0_117:=by
 unfold nd_t110_185_0_117
 repeat (refine⟨(by first|exact of_decide_eq_true rfl|exact fun i j _ _=>D.eqv_refl _|exact Enc.is_F _ _ _|exact fun i j hi _=>absurd hi (Nat.not_lt_zero i)),?_⟩)
 trivial
theorem w_t110_185_0_117:(T.needs nd_t110_185_0_117 (T.ret [Ar.agg [D.int IntKind.i64 (17094:Int),D.int IntKind.i64 (17095:Int)]])).wp (fun rs=>rsEqv rs [.agg [dI 17094,dI 17095]]):=by
 refine T.needs_wp all_t110_185_0_117 ?_
 exact rsEqv_refl _
def nd_t110_185_0_156:List Prop:=[
 Enc.Is eRg (List.length [(Rg.mk (156:Int) (156:Int)),(Rg.mk (156:Int) (156:Int))]) (Enc.F eRg [(Rg.mk (156:Int) (156:Int)),(Rg.mk (156:Int) (156:Int))]),
 (0:Int)≤(0:Int),
 (0:Int)<(2:Int),
 (0:Int)≤(0:Int),
 (0:Int)<(2:Int),
 (156:Int)≠(0:Int),
 (156:Int)≠(0:Int),
 (156:Int)≠(0:Int),
 Enc.Is eRg (List.length [(Rg.mk (156:Int) (156:Int)),(Rg.mk (156:Int) (156:Int))]) (Enc.F eRg [(Rg.mk (156:Int) (156:Int)),(Rg.mk (156:Int) (156:Int))]),
 (0:Int)≤(1:Int),
 (1:Int)<(2:Int),
 (0:Int)≤(1:Int),
 (1:Int)<(2:Int),
 (156:Int)≠(0:Int),
 (156:Int)≠(0:Int),
 (156:Int)≠(0:Int),
 i64ok (40:Int),
 i64ok (116:Int),
 (0:Int)<(156:Int)∧(156:Int)<(9223372036854775808:Int),
 (0:Int)<(156:Int)∧(156:Int)<(9223372036854775808:Int),
 i64ok (40:Int),
 i64ok (116:Int),
 (0:Int)<(156:Int)∧(156:Int)<(9223372036854775808:Int),
 (0:Int)<(156:Int)∧(156:Int)<(9223372036854775808:Int)]
theorem t110_185_0_156:runFnX Tryz.prog G0 (lookS [v131,v185]) (fun _=>[(999999,[],none)]) [] 1 60 3 108 Tryz.f108 (canon 197 0 156) =
  T.needs nd_t110_185_0_156 (T.ret [Ar.agg [D.int IntKind.i64 (12820:Int),D.int IntKind.i64 (12821:Int)]]):=by kernel_rfl
theorem all_t110_185_0_156:All nd_t110_185_0_156:=by
 unfold nd_t110_185_0_156
 repeat (refine⟨(by first|exact of_decide_eq_true rfl|exact fun i j _ _=>D.eqv_refl _|exact Enc.is_F _ _ _|exact fun i j hi _=>absurd hi (Nat.not_lt_zero i)),?_⟩)
 trivial
theorem w_t110_185_0_156:(T.needs nd_t110_185_0_156 (T.ret [Ar.agg [D.int IntKind.i64 (12820:Int),D.int IntKind.i64 (12821:Int)]])).wp (fun rs=>rsEqv rs [.agg [dI 12820,dI 12821]]):=by
 refine T.needs_wp all_t110_185_0_156 ?_
 exact rsEqv_refl _
def nd_t110_185_0_312:List Prop:=[
 Enc.Is eRg (List.length [(Rg.mk (312:Int) (312:Int)),(Rg.mk (312:Int) (312:Int))]) (Enc.F eRg [(Rg.mk (312:Int) (312:Int)),(Rg.mk (312:Int) (312:Int))]),
 (0:Int)≤(0:Int),
 (0:Int)<(2:Int),
 (0:Int)≤(0:Int),
 (0:Int)<(2:Int),
 (312:Int)≠(0:Int),
 (312:Int)≠(0:Int),
 (312:Int)≠(0:Int),
 Enc.Is eRg (List.length [(Rg.mk (312:Int) (312:Int)),(Rg.mk (312:Int) (312:Int))]) (Enc.F eRg [(Rg.mk (312:Int) (312:Int)),(Rg.mk (312:Int) (312:Int))]),
 (0:Int)≤(1:Int),
 (1:Int)<(2:Int),
 (0:Int)≤(1:Int),
 (1:Int)<(2:Int),
 (312:Int)≠(0:Int),
 (312:Int)≠(0:Int),
 (312:Int)≠(0:Int),
 i64ok (40:Int),
 i64ok (272:Int),
 (0:Int)<(312:Int)∧(312:Int)<(9223372036854775808:Int),
 (0:Int)<(312:Int)∧(312:Int)<(9223372036854775808:Int),
 i64ok (40:Int),
 i64ok (272:Int),
 (0:Int)<(312:Int)∧(312:Int)<(9223372036854775808:Int),
 (0:Int)<(312:Int)∧(312:Int)<(9223372036854775808:Int)]
theorem t110_185_0_312:runFnX Tryz.prog G0 (lookS [v131,v185]) (fun _=>[(999999,[],none)]) [] 1 60 3 108 Tryz.f108 (canon 197 0 312) =
  T.needs nd_t110_185_0_312 (T.ret [Ar.agg [D.int IntKind.i64 (6410:Int),D.int IntKind.i64 (6411:Int)]]):=by kernel_rfl
theorem all_t110_185_0_312:All nd_t110_185_0_312:=by
 unfold nd_t110_185_0_312
 repeat (refine⟨(by first|exact of_decide_eq_true rfl|exact fun i j _ _=>D.eqv_refl _|exact Enc.is_F _ _ _|exact fun i j hi _=>absurd hi (Nat.not_lt_zero i)),?_⟩)
 trivial
theorem w_t110_185_0_312:(T.needs nd_t110_185_0_312 (T.ret [Ar.agg [D.int IntKind.i64 (6410:Int),D.int IntKind.i64 (6411:Int)]])).wp (fun rs=>rsEqv rs [.agg [dI 6410,dI 6411]]):=by
 refine T.needs_wp all_t110_185_0_312 ?_
 exact rsEqv_refl _
def nd_t110_185_0_625:List Prop:=[
 Enc.Is eRg (List.length [(Rg.mk (625:Int) (625:Int)),(Rg.mk (625:Int) (625:Int))]) (Enc.F eRg [(Rg.mk (625:Int) (625:Int)),(Rg.mk (625:Int) (625:Int))]),
 (0:Int)≤(0:Int),
 (0:Int)<(2:Int),
 (0:Int)≤(0:Int),
 (0:Int)<(2:Int),
 (625:Int)≠(0:Int),
 (625:Int)≠(0:Int),
 (625:Int)≠(0:Int),
 Enc.Is eRg (List.length [(Rg.mk (625:Int) (625:Int)),(Rg.mk (625:Int) (625:Int))]) (Enc.F eRg [(Rg.mk (625:Int) (625:Int)),(Rg.mk (625:Int) (625:Int))]),
 (0:Int)≤(1:Int),
 (1:Int)<(2:Int),
 (0:Int)≤(1:Int),
 (1:Int)<(2:Int),
 (625:Int)≠(0:Int),
 (625:Int)≠(0:Int),
 (625:Int)≠(0:Int),
 i64ok (0:Int),
 i64ok (625:Int),
 (0:Int)<(625:Int)∧(625:Int)<(9223372036854775808:Int),
 (0:Int)<(625:Int)∧(625:Int)<(9223372036854775808:Int)]
theorem t110_185_0_625:runFnX Tryz.prog G0 (lookS [v131,v185]) (fun _=>[(999999,[],none)]) [] 1 60 3 108 Tryz.f108 (canon 197 0 625) =
  T.needs nd_t110_185_0_625 (T.ret [Ar.agg [D.int IntKind.i64 (3200:Int),D.int IntKind.i64 (3200:Int)]]):=by kernel_rfl
theorem all_t110_185_0_625:All nd_t110_185_0_625:=by
 unfold nd_t110_185_0_625
 repeat (refine⟨(by first|exact of_decide_eq_true rfl|exact fun i j _ _=>D.eqv_refl _|exact Enc.is_F _ _ _|exact fun i j hi _=>absurd hi (Nat.not_lt_zero i)),?_⟩)
 trivial
theorem w_t110_185_0_625:(T.needs nd_t110_185_0_625 (T.ret [Ar.agg [D.int IntKind.i64 (3200:Int),D.int IntKind.i64 (3200:Int)]])).wp (fun rs=>rsEqv rs [.agg [dI 3200,dI 3200]]):=by
 refine T.needs_wp all_t110_185_0_625 ?_
 exact rsEqv_refl _
def nd_t110_185_1_78:List Prop:=[
 Enc.Is eRg (List.length [(Rg.mk (78:Int) (78:Int)),(Rg.mk (78:Int) (78:Int))]) (Enc.F eRg [(Rg.mk (78:Int) (78:Int)),(Rg.mk (78:Int) (78:Int))]),
 (0:Int)≤(1:Int),
 (1:Int)<(2:Int),
 (0:Int)≤(1:Int),
 (1:Int)<(2:Int),
 (78:Int)≠(0:Int),
 (78:Int)≠(0:Int),
 (78:Int)≠(0:Int),
 i64ok (0:Int),
 i64ok (38:Int),
 (0:Int)<(1:Int)∧(1:Int)<(9223372036854775808:Int),
 (0:Int)<(78:Int)∧(78:Int)<(9223372036854775808:Int),
 i64ok (0:Int),
 i64ok (38:Int),
 (0:Int)<(1:Int)∧(1:Int)<(9223372036854775808:Int),
 (0:Int)<(78:Int)∧(78:Int)<(9223372036854775808:Int)]
theorem t110_185_1_78:runFnX Tryz.prog G0 (lookS [v131,v185]) (fun _=>[(999999,[],none)]) [] 1 60 3 108 Tryz.f108 (canon 197 1 78) =
  T.needs nd_t110_185_1_78 (T.ret [Ar.agg [D.int IntKind.i64 (12820:Int),D.int IntKind.i64 (12821:Int)]]):=by kernel_rfl
theorem all_t110_185_1_78:All nd_t110_185_1_78:=by
 unfold nd_t110_185_1_78
 repeat (refine⟨(by first|exact of_decide_eq_true rfl|exact fun i j _ _=>D.eqv_refl _|exact Enc.is_F _ _ _|exact fun i j hi _=>absurd hi (Nat.not_lt_zero i)),?_⟩)
 trivial
theorem w_t110_185_1_78:(T.needs nd_t110_185_1_78 (T.ret [Ar.agg [D.int IntKind.i64 (12820:Int),D.int IntKind.i64 (12821:Int)]])).wp (fun rs=>rsEqv rs [.agg [dI 12820,dI 12821]]):=by
 refine T.needs_wp all_t110_185_1_78 ?_
 exact rsEqv_refl _
def nd_t110_185_1_97:List Prop:=[
 Enc.Is eRg (List.length [(Rg.mk (97:Int) (97:Int)),(Rg.mk (97:Int) (97:Int))]) (Enc.F eRg [(Rg.mk (97:Int) (97:Int)),(Rg.mk (97:Int) (97:Int))]),
 (0:Int)≤(1:Int),
 (1:Int)<(2:Int),
 (0:Int)≤(1:Int),
 (1:Int)<(2:Int),
 (97:Int)≠(0:Int),
 (97:Int)≠(0:Int),
 (97:Int)≠(0:Int),
 i64ok (0:Int),
 i64ok (70:Int),
 (0:Int)<(1:Int)∧(1:Int)<(9223372036854775808:Int),
 (0:Int)<(97:Int)∧(97:Int)<(9223372036854775808:Int),
 i64ok (0:Int),
 i64ok (70:Int),
 (0:Int)<(1:Int)∧(1:Int)<(9223372036854775808:Int),
 (0:Int)<(97:Int)∧(97:Int)<(9223372036854775808:Int)]
theorem t110_185_1_97:runFnX Tryz.prog G0 (lookS [v131,v185]) (fun _=>[(999999,[],none)]) [] 1 60 3 108 Tryz.f108 (canon 197 1 97) =
  T.needs nd_t110_185_1_97 (T.ret [Ar.agg [D.int IntKind.i64 (10309:Int),D.int IntKind.i64 (10310:Int)]]):=by kernel_rfl
theorem all_t110_185_1_97:All nd_t110_185_1_97:=by
 unfold nd_t110_185_1_97
 repeat (refine⟨(by first|exact of_decide_eq_true rfl|exact fun i j _ _=>D.eqv_refl _|exact Enc.is_F _ _ _|exact fun i j hi _=>absurd hi (Nat.not_lt_zero i)),?_⟩)
 trivial
theorem w_t110_185_1_97:(T.needs nd_t110_185_1_97 (T.ret [Ar.agg [D.int IntKind.i64 (10309:Int),D.int IntKind.i64 (10310:Int)]])).wp (fun rs=>rsEqv rs [.agg [dI 10309,dI 10310]]):=by
 refine T.needs_wp all_t110_185_1_97 ?_
 exact rsEqv_refl _
def nd_t110_185_1_99:List Prop:=[
 Enc.Is eRg (List.length [(Rg.mk (99:Int) (99:Int)),(Rg.mk (99:Int) (99:Int))]) (Enc.F eRg [(Rg.mk (99:Int) (99:Int)),(Rg.mk (99:Int) (99:Int))]),
 (0:Int)≤(1:Int),
 (1:Int)<(2:Int),
 (0:Int)≤(1:Int),
 (1:Int)<(2:Int),
 (99:Int)≠(0:Int),
 (99:Int)≠(0:Int),
 (99:Int)≠(0:Int),
 i64ok (0:Int),
 i64ok (98:Int),
 (0:Int)<(1:Int)∧(1:Int)<(9223372036854775808:Int),
 (0:Int)<(99:Int)∧(99:Int)<(9223372036854775808:Int),
 i64ok (0:Int),
 i64ok (98:Int),
 (0:Int)<(1:Int)∧(1:Int)<(9223372036854775808:Int),
 (0:Int)<(99:Int)∧(99:Int)<(9223372036854775808:Int)]
theorem t110_185_1_99:runFnX Tryz.prog G0 (lookS [v131,v185]) (fun _=>[(999999,[],none)]) [] 1 60 3 108 Tryz.f108 (canon 197 1 99) =
  T.needs nd_t110_185_1_99 (T.ret [Ar.agg [D.int IntKind.i64 (10101:Int),D.int IntKind.i64 (10102:Int)]]):=by kernel_rfl
theorem all_t110_185_1_99:All nd_t110_185_1_99:=by
 unfold nd_t110_185_1_99
 repeat (refine⟨(by first|exact of_decide_eq_true rfl|exact fun i j _ _=>D.eqv_refl _|exact Enc.is_F _ _ _|exact fun i j hi _=>absurd hi (Nat.not_lt_zero i)),?_⟩)
 trivial
theorem w_t110_185_1_99:(T.needs nd_t110_185_1_99 (T.ret [Ar.agg [D.int IntKind.i64 (10101:Int),D.int IntKind.i64 (10102:Int)]])).wp (fun rs=>rsEqv rs [.agg [dI 10101,dI 10102]]):=by
 refine T.needs_wp all_t110_185_1_99 ?_
 exact rsEqv_refl _
def nd_t110_185_1_100:List Prop:=[
 Enc.Is eRg (List.length [(Rg.mk (100:Int) (100:Int)),(Rg.mk (100:Int) (100:Int))]) (Enc.F eRg [(Rg.mk (100:Int) (100:Int)),(Rg.mk (100:Int) (100:Int))]),
 (0:Int)≤(1:Int),
 (1:Int)<(2:Int),
 (0:Int)≤(1:Int),
 (1:Int)<(2:Int),
 (100:Int)≠(0:Int),
 (100:Int)≠(0:Int),
 (100:Int)≠(0:Int),
 i64ok (0:Int),
 i64ok (100:Int),
 (0:Int)<(1:Int)∧(1:Int)<(9223372036854775808:Int),
 (0:Int)<(100:Int)∧(100:Int)<(9223372036854775808:Int)]
theorem t110_185_1_100:runFnX Tryz.prog G0 (lookS [v131,v185]) (fun _=>[(999999,[],none)]) [] 1 60 3 108 Tryz.f108 (canon 197 1 100) =
  T.needs nd_t110_185_1_100 (T.ret [Ar.agg [D.int IntKind.i64 (10000:Int),D.int IntKind.i64 (10000:Int)]]):=by kernel_rfl
theorem all_t110_185_1_100:All nd_t110_185_1_100:=by
 unfold nd_t110_185_1_100
 repeat (refine⟨(by first|exact of_decide_eq_true rfl|exact fun i j _ _=>D.eqv_refl _|exact Enc.is_F _ _ _|exact fun i j hi _=>absurd hi (Nat.not_lt_zero i)),?_⟩)
 trivial
theorem w_t110_185_1_100:(T.needs nd_t110_185_1_100 (T.ret [Ar.agg [D.int IntKind.i64 (10000:Int),D.int IntKind.i64 (10000:Int)]])).wp (fun rs=>rsEqv rs [.agg [dI 10000,dI 10000]]):=by
 refine T.needs_wp all_t110_185_1_100 ?_
 exact rsEqv_refl _
def nd_t110_111_0_100:List Prop:=[
 Enc.Is eRg (List.length [(Rg.mk (100:Int) (100:Int)),(Rg.mk (100:Int) (100:Int))]) (Enc.F eRg [(Rg.mk (100:Int) (100:Int)),(Rg.mk (100:Int) (100:Int))]),
 (0:Int)≤(0:Int),
 (0:Int)<(2:Int),
 (0:Int)≤(0:Int),
 (0:Int)<(2:Int),
 (100:Int)≠(0:Int),
 (100:Int)≠(0:Int),
 (100:Int)≠(0:Int),
 Enc.Is eRg (List.length [(Rg.mk (100:Int) (100:Int)),(Rg.mk (100:Int) (100:Int))]) (Enc.F eRg [(Rg.mk (100:Int) (100:Int)),(Rg.mk (100:Int) (100:Int))]),
 (0:Int)≤(1:Int),
 (1:Int)<(2:Int),
 (0:Int)≤(1:Int),
 (1:Int)<(2:Int),
 (100:Int)≠(0:Int),
 (100:Int)≠(0:Int),
 (100:Int)≠(0:Int),
 i64ok (0:Int),
 i64ok (100:Int),
 (0:Int)<(100:Int)∧(100:Int)<(9223372036854775808:Int),
 (0:Int)<(100:Int)∧(100:Int)<(9223372036854775808:Int)]
theorem t110_111_0_100:runFnX Tryz.prog G0 (lookS [v131,v111]) (fun _=>[(999999,[],none)]) [] 1 60 3 108 Tryz.f108 (canon 109 0 100) =
  T.needs nd_t110_111_0_100 (T.ret [Ar.agg [D.int IntKind.i64 (20000:Int),D.int IntKind.i64 (20000:Int)]]):=by kernel_rfl
theorem all_t110_111_0_100:All nd_t110_111_0_100:=by
 unfold nd_t110_111_0_100
 repeat (refine⟨(by first|exact of_decide_eq_true rfl|exact fun i j _ _=>D.eqv_refl _|exact Enc.is_F _ _ _|exact fun i j hi _=>absurd hi (Nat.not_lt_zero i)),?_⟩)
 trivial
theorem w_t110_111_0_100:(T.needs nd_t110_111_0_100 (T.ret [Ar.agg [D.int IntKind.i64 (20000:Int),D.int IntKind.i64 (20000:Int)]])).wp (fun rs=>rsEqv rs [.agg [dI 20000,dI 20000]]):=by
 refine T.needs_wp all_t110_111_0_100 ?_
 exact rsEqv_refl _
def nd_t110_111_1_100:List Prop:=[
 Enc.Is eRg (List.length [(Rg.mk (100:Int) (100:Int)),(Rg.mk (100:Int) (100:Int))]) (Enc.F eRg [(Rg.mk (100:Int) (100:Int)),(Rg.mk (100:Int) (100:Int))]),
 (0:Int)≤(1:Int),
 (1:Int)<(2:Int),
 (0:Int)≤(1:Int),
 (1:Int)<(2:Int),
 (100:Int)≠(0:Int),
 (100:Int)≠(0:Int),
 (100:Int)≠(0:Int),
 i64ok (0:Int),
 i64ok (100:Int),
 (0:Int)<(1:Int)∧(1:Int)<(9223372036854775808:Int),
 (0:Int)<(100:Int)∧(100:Int)<(9223372036854775808:Int)]
theorem t110_111_1_100:runFnX Tryz.prog G0 (lookS [v131,v111]) (fun _=>[(999999,[],none)]) [] 1 60 3 108 Tryz.f108 (canon 109 1 100) =
  T.needs nd_t110_111_1_100 (T.ret [Ar.agg [D.int IntKind.i64 (10000:Int),D.int IntKind.i64 (10000:Int)]]):=by kernel_rfl
theorem all_t110_111_1_100:All nd_t110_111_1_100:=by
 unfold nd_t110_111_1_100
 repeat (refine⟨(by first|exact of_decide_eq_true rfl|exact fun i j _ _=>D.eqv_refl _|exact Enc.is_F _ _ _|exact fun i j hi _=>absurd hi (Nat.not_lt_zero i)),?_⟩)
 trivial
theorem w_t110_111_1_100:(T.needs nd_t110_111_1_100 (T.ret [Ar.agg [D.int IntKind.i64 (10000:Int),D.int IntKind.i64 (10000:Int)]])).wp (fun rs=>rsEqv rs [.agg [dI 10000,dI 10000]]):=by
 refine T.needs_wp all_t110_111_1_100 ?_
 exact rsEqv_refl _
def nd_t110_112_0_100:List Prop:=[
 Enc.Is eRg (List.length [(Rg.mk (100:Int) (100:Int)),(Rg.mk (100:Int) (100:Int))]) (Enc.F eRg [(Rg.mk (100:Int) (100:Int)),(Rg.mk (100:Int) (100:Int))]),
 (0:Int)≤(0:Int),
 (0:Int)<(2:Int),
 (0:Int)≤(0:Int),
 (0:Int)<(2:Int),
 (100:Int)≠(0:Int),
 (100:Int)≠(0:Int),
 (100:Int)≠(0:Int),
 Enc.Is eRg (List.length [(Rg.mk (100:Int) (100:Int)),(Rg.mk (100:Int) (100:Int))]) (Enc.F eRg [(Rg.mk (100:Int) (100:Int)),(Rg.mk (100:Int) (100:Int))]),
 (0:Int)≤(1:Int),
 (1:Int)<(2:Int),
 (0:Int)≤(1:Int),
 (1:Int)<(2:Int),
 (100:Int)≠(0:Int),
 (100:Int)≠(0:Int),
 (100:Int)≠(0:Int),
 i64ok (0:Int),
 i64ok (100:Int),
 (0:Int)<(100:Int)∧(100:Int)<(9223372036854775808:Int),
 (0:Int)<(100:Int)∧(100:Int)<(9223372036854775808:Int)]
theorem t110_112_0_100:runFnX Tryz.prog G0 (lookS [v131,v112]) (fun _=>[(999999,[],none)]) [] 1 60 3 108 Tryz.f108 (canon 110 0 100) =
  T.needs nd_t110_112_0_100 (T.ret [Ar.agg [D.int IntKind.i64 (20000:Int),D.int IntKind.i64 (20000:Int)]]):=by kernel_rfl
theorem all_t110_112_0_100:All nd_t110_112_0_100:=by
 unfold nd_t110_112_0_100
 repeat (refine⟨(by first|exact of_decide_eq_true rfl|exact fun i j _ _=>D.eqv_refl _|exact Enc.is_F _ _ _|exact fun i j hi _=>absurd hi (Nat.not_lt_zero i)),?_⟩)
 trivial
theorem w_t110_112_0_100:(T.needs nd_t110_112_0_100 (T.ret [Ar.agg [D.int IntKind.i64 (20000:Int),D.int IntKind.i64 (20000:Int)]])).wp (fun rs=>rsEqv rs [.agg [dI 20000,dI 20000]]):=by
 refine T.needs_wp all_t110_112_0_100 ?_
 exact rsEqv_refl _
def nd_t110_112_1_100:List Prop:=[
 Enc.Is eRg (List.length [(Rg.mk (100:Int) (100:Int)),(Rg.mk (100:Int) (100:Int))]) (Enc.F eRg [(Rg.mk (100:Int) (100:Int)),(Rg.mk (100:Int) (100:Int))]),
 (0:Int)≤(1:Int),
 (1:Int)<(2:Int),
 (0:Int)≤(1:Int),
 (1:Int)<(2:Int),
 (100:Int)≠(0:Int),
 (100:Int)≠(0:Int),
 (100:Int)≠(0:Int),
 i64ok (0:Int),
 i64ok (100:Int),
 (0:Int)<(1:Int)∧(1:Int)<(9223372036854775808:Int),
 (0:Int)<(100:Int)∧(100:Int)<(9223372036854775808:Int)]
theorem t110_112_1_100:runFnX Tryz.prog G0 (lookS [v131,v112]) (fun _=>[(999999,[],none)]) [] 1 60 3 108 Tryz.f108 (canon 110 1 100) =
  T.needs nd_t110_112_1_100 (T.ret [Ar.agg [D.int IntKind.i64 (10000:Int),D.int IntKind.i64 (10000:Int)]]):=by kernel_rfl
theorem all_t110_112_1_100:All nd_t110_112_1_100:=by
 unfold nd_t110_112_1_100
 repeat (refine⟨(by first|exact of_decide_eq_true rfl|exact fun i j _ _=>D.eqv_refl _|exact Enc.is_F _ _ _|exact fun i j hi _=>absurd hi (Nat.not_lt_zero i)),?_⟩)
 trivial
theorem w_t110_112_1_100:(T.needs nd_t110_112_1_100 (T.ret [Ar.agg [D.int IntKind.i64 (10000:Int),D.int IntKind.i64 (10000:Int)]])).wp (fun rs=>rsEqv rs [.agg [dI 10000,dI 10000]]):=by
 refine T.needs_wp all_t110_112_1_100 ?_
 exact rsEqv_refl _
structure Row110 where
 g:Nat
 i:Int
 d:Int
 lo:Int
 hi:Int
def tab110:List Row110:=[⟨197,0,78,25641,25642⟩,⟨197,0,97,20618,20619⟩,⟨197,0,99,20202,20203⟩,⟨197,0,100,20000,20000⟩,⟨197,0,101,19801,19802⟩,⟨197,0,102,19607,19608⟩,⟨197,0,107,18691,18692⟩,⟨197,0,117,17094,17095⟩,⟨197,0,156,12820,12821⟩,⟨197,0,312,6410,6411⟩,⟨197,0,625,3200,3200⟩,⟨197,1,78,12820,12821⟩,⟨197,1,97,10309,10310⟩,⟨197,1,99,10101,10102⟩,⟨197,1,100,10000,10000⟩,⟨109,0,100,20000,20000⟩,⟨109,1,100,10000,10000⟩,⟨110,0,100,20000,20000⟩,⟨110,1,100,10000,10000⟩]
def find110:List Row110→Nat→Int→Int→Option Row110
 |[],_,_,_=>none
 |r::l,g,i,d=>(match Nat.beq r.g g&&decide (r.i=i)&&decide (r.d=d)with|true=>some r|false=>find110 l g i d)
theorem find110_spec:∀{l:List Row110} {g:Nat} {i d:Int} {r:Row110},find110 l g i d=some r→r∈l∧r.g=g∧r.i=i∧r.d=d:=by
 intro l
 induction l with
 |nil=>intro g i d r h;cases h
 |cons x l ih=>
  intro g i d r h
  simp only[find110]at h
  split at h
  ·rename_i hx
   simp only[Bool.and_eq_true,decide_eq_true_eq]at hx
   simp only[Option.some.injEq]at h
   subst h
   exact⟨List.mem_cons_self ..,Nat.eq_of_beq_eq_true hx.1.1,hx.1.2,hx.2⟩
  ·obtain⟨h1,h2⟩:=ih h
   exact⟨List.mem_cons_of_mem _ h1,h2⟩
def dom110c:DomF
 |[.agg ds,.c (.int .i64 i),.c (.fc g n G)]=>(match G 0 with
  |.sl q k st F=>(match F 0 0 with
   |.int _ d=>(match find110 tab110 g i d with
    |some r=>some ([Same [.agg ds,.c (.int .i64 i),.c (.fc g n G)] (canon r.g r.i r.d)],[.agg [dI r.lo,dI r.hi]])
    |none=>none)
   |_=>none)
  |_=>none)
 |_=>none
def v110c:Nat×Sm:=(108,fokSm dom110c)
theorem C110c:FOK Tryz.prog G0 gw 108 dom110c:=by
 intro ags p r hd hp κ w xs hw hl hG hx
 unfold dom110c at hd
 split at hd
 ·split at hd
  ·split at hd
   ·split at hd
    ·rename_i rw0 hf
     simp only[Option.some.injEq,Prod.mk.injEq]at hd
     obtain⟨rfl,rfl⟩:=hd
     have heq:=hp.1.h
     have hm:=(find110_spec hf).1
     simp only[tab110,List.mem_cons,List.not_mem_nil,or_false]at hm
     rcases hm with rfl|rfl|rfl|rfl|rfl|rfl|rfl|rfl|rfl|rfl|rfl|rfl|rfl|rfl|rfl|rfl|rfl|rfl|rfl
     ·exact fokX_fin mixed gw_stable (sl:=[v131,v185]) ⟨S131,S185,trivial⟩ Tryz.func108 hw hl hG hx heq rfl t110_185_0_78 w_t110_185_0_78
     ·exact fokX_fin mixed gw_stable (sl:=[v131,v185]) ⟨S131,S185,trivial⟩ Tryz.func108 hw hl hG hx heq rfl t110_185_0_97 w_t110_185_0_97
     ·exact fokX_fin mixed gw_stable (sl:=[v131,v185]) ⟨S131,S185,trivial⟩ Tryz.func108 hw hl hG hx heq rfl t110_185_0_99 w_t110_185_0_99
     ·exact fokX_fin mixed gw_stable (sl:=[v131,v185]) ⟨S131,S185,trivial⟩ Tryz.func108 hw hl hG hx heq rfl t110_185_0_100 w_t110_185_0_100
     ·exact fokX_fin mixed gw_stable (sl:=[v131,v185]) ⟨S131,S185,trivial⟩ Tryz.func108 hw hl hG hx heq rfl t110_185_0_101 w_t110_185_0_101
     ·exact fokX_fin mixed gw_stable (sl:=[v131,v185]) ⟨S131,S185,trivial⟩ Tryz.func108 hw hl hG hx heq rfl t110_185_0_102 w_t110_185_0_102
     ·exact fokX_fin mixed gw_stable (sl:=[v131,v185]) ⟨S131,S185,trivial⟩ Tryz.func108 hw hl hG hx heq rfl t110_185_0_107 w_t110_185_0_107
     ·exact fokX_fin mixed gw_stable (sl:=[v131,v185]) ⟨S131,S185,trivial⟩ Tryz.func108 hw hl hG hx heq rfl t110_185_0_117 w_t110_185_0_117
     ·exact fokX_fin mixed gw_stable (sl:=[v131,v185]) ⟨S131,S185,trivial⟩ Tryz.func108 hw hl hG hx heq rfl t110_185_0_156 w_t110_185_0_156
     ·exact fokX_fin mixed gw_stable (sl:=[v131,v185]) ⟨S131,S185,trivial⟩ Tryz.func108 hw hl hG hx heq rfl t110_185_0_312 w_t110_185_0_312
     ·exact fokX_fin mixed gw_stable (sl:=[v131,v185]) ⟨S131,S185,trivial⟩ Tryz.func108 hw hl hG hx heq rfl t110_185_0_625 w_t110_185_0_625
     ·exact fokX_fin mixed gw_stable (sl:=[v131,v185]) ⟨S131,S185,trivial⟩ Tryz.func108 hw hl hG hx heq rfl t110_185_1_78 w_t110_185_1_78
     ·exact fokX_fin mixed gw_stable (sl:=[v131,v185]) ⟨S131,S185,trivial⟩ Tryz.func108 hw hl hG hx heq rfl t110_185_1_97 w_t110_185_1_97
     ·exact fokX_fin mixed gw_stable (sl:=[v131,v185]) ⟨S131,S185,trivial⟩ Tryz.func108 hw hl hG hx heq rfl t110_185_1_99 w_t110_185_1_99
     ·exact fokX_fin mixed gw_stable (sl:=[v131,v185]) ⟨S131,S185,trivial⟩ Tryz.func108 hw hl hG hx heq rfl t110_185_1_100 w_t110_185_1_100
     ·exact fokX_fin mixed gw_stable (sl:=[v131,v111]) ⟨S131,S111,trivial⟩ Tryz.func108 hw hl hG hx heq rfl t110_111_0_100 w_t110_111_0_100
     ·exact fokX_fin mixed gw_stable (sl:=[v131,v111]) ⟨S131,S111,trivial⟩ Tryz.func108 hw hl hG hx heq rfl t110_111_1_100 w_t110_111_1_100
     ·exact fokX_fin mixed gw_stable (sl:=[v131,v112]) ⟨S131,S112,trivial⟩ Tryz.func108 hw hl hG hx heq rfl t110_112_0_100 w_t110_112_0_100
     ·exact fokX_fin mixed gw_stable (sl:=[v131,v112]) ⟨S131,S112,trivial⟩ Tryz.func108 hw hl hG hx heq rfl t110_112_1_100 w_t110_112_1_100
    ·cases hd
   ·cases hd
  ·cases hd
 ·cases hd
theorem S110c:SumOK Tryz.prog G0 gw 108 (fokSm dom110c):=fok_sum Tryz.func108 rfl C110c
end Go.Pl
end
section
set_option maxRecDepth 100000
namespace Go.Pl
open Go.Gd
open Go.V Go.Proofs
def four:List D:=[.sl true 2 4 (eSc.F [⟨1000,0,0,20000⟩,⟨1000,0,0,10000⟩]),dI 0]
abbrev qt28c_1:=Enc.F eSc (Enc.list eSc (2:Nat) (Enc.F eSc [(Scale.mk (1000:Int) (0:Int) (0:Int) (20000:Int)),(Scale.mk (1000:Int) (0:Int) (0:Int) (10000:Int))]))
abbrev qt28c_2:=Enc.list eSc (2:Nat) qt28c_1
abbrev qt28c_3:=M.flows qt28c_2 (101:Int)
def nd_t28c:List Prop:=[
 Enc.Is eSc (2:Nat) (Enc.F eSc [(Scale.mk (1000:Int) (0:Int) (0:Int) (20000:Int)),(Scale.mk (1000:Int) (0:Int) (0:Int) (10000:Int))]),
 (2:Nat)≤(100000:Nat),
 Enc.Is eSc (2:Nat) qt28c_1,
 List.length qt28c_2≤(100000:Nat),
 Enc.Is eSc (2:Nat) qt28c_1,
 Enc.Is eRg (List.length (M.flows qt28c_2 (0:Int))) (Enc.F eRg (M.flows qt28c_2 (0:Int))),
 List.length (Enc.list eRg (List.length (M.flows qt28c_2 (0:Int))) (Enc.F eRg (M.flows qt28c_2 (0:Int))))≤List.length qt28c_2,
 List.length qt28c_2≤(100000:Nat),
 (0:Int)≤(0:Int),
 (0:Int)<(2:Int),
 (0:Int)≤(1:Int),
 (1:Int)<(2:Int),
 Enc.Is eSc (2:Nat) qt28c_1,
 List.length qt28c_2≤(100000:Nat),
 Enc.Is eSc (2:Nat) qt28c_1,
 Enc.Is eRg (List.length (M.flows qt28c_2 (10000:Int))) (Enc.F eRg (M.flows qt28c_2 (10000:Int))),
 List.length (Enc.list eRg (List.length (M.flows qt28c_2 (10000:Int))) (Enc.F eRg (M.flows qt28c_2 (10000:Int))))≤List.length qt28c_2,
 List.length qt28c_2≤(100000:Nat),
 (0:Int)≤(0:Int),
 (0:Int)<(2:Int),
 Enc.Is eSc (2:Nat) qt28c_1,
 List.length qt28c_2≤(100000:Nat),
 Enc.Is eSc (2:Nat) qt28c_1,
 Enc.Is eRg (List.length (M.flows qt28c_2 (5000:Int))) (Enc.F eRg (M.flows qt28c_2 (5000:Int))),
 List.length (Enc.list eRg (List.length (M.flows qt28c_2 (5000:Int))) (Enc.F eRg (M.flows qt28c_2 (5000:Int))))≤List.length qt28c_2,
 List.length qt28c_2≤(100000:Nat),
 (0:Int)≤(0:Int),
 (0:Int)<(2:Int),
 Enc.Is eSc (2:Nat) qt28c_1,
 List.length qt28c_2≤(100000:Nat),
 Enc.Is eSc (2:Nat) qt28c_1,
 Enc.Is eRg (List.length (M.flows qt28c_2 (2500:Int))) (Enc.F eRg (M.flows qt28c_2 (2500:Int))),
 List.length (Enc.list eRg (List.length (M.flows qt28c_2 (2500:Int))) (Enc.F eRg (M.flows qt28c_2 (2500:Int))))≤List.length qt28c_2,
 List.length qt28c_2≤(100000:Nat),
 (0:Int)≤(0:Int),
 (0:Int)<(2:Int),
 Enc.Is eSc (2:Nat) qt28c_1,
 List.length qt28c_2≤(100000:Nat),
 Enc.Is eSc (2:Nat) qt28c_1,
 Enc.Is eRg (List.length (M.flows qt28c_2 (1250:Int))) (Enc.F eRg (M.flows qt28c_2 (1250:Int))),
 List.length (Enc.list eRg (List.length (M.flows qt28c_2 (1250:Int))) (Enc.F eRg (M.flows qt28c_2 (1250:Int))))≤List.length qt28c_2,
 List.length qt28c_2≤(100000:Nat),
 (0:Int)≤(0:Int),
 (0:Int)<(2:Int),
 Enc.Is eSc (2:Nat) qt28c_1,
 List.length qt28c_2≤(100000:Nat),
 Enc.Is eSc (2:Nat) qt28c_1,
 Enc.Is eRg (List.length (M.flows qt28c_2 (625:Int))) (Enc.F eRg (M.flows qt28c_2 (625:Int))),
 List.length (Enc.list eRg (List.length (M.flows qt28c_2 (625:Int))) (Enc.F eRg (M.flows qt28c_2 (625:Int))))≤List.length qt28c_2,
 List.length qt28c_2≤(100000:Nat),
 (0:Int)≤(0:Int),
 (0:Int)<(2:Int),
 Same [Ag.agg [D.sl true (2:Nat) (4:Nat) qt28c_1,D.int IntKind.i64 (0:Int)],Ag.c (D.int IntKind.i64 (0:Int)),Ag.c (D.fc (197:Nat) (List.length [D.sl false (List.length (M.flows qt28c_2 (625:Int))) (2:Nat) (Enc.F eRg (M.flows qt28c_2 (625:Int)))]) fun(j:Nat)=>List.getD [D.sl false (List.length (M.flows qt28c_2 (625:Int))) (2:Nat) (Enc.F eRg (M.flows qt28c_2 (625:Int)))] j D.nilp)] (canon (Row110.g {g:=(197:Nat),i:=(0:Int),d:=(625:Int),lo:=(3200:Int),hi:=(3200:Int)}) (0:Int) (625:Int)),
 (0:Int)≤(0:Int),
 (0:Int)<(2:Int),
 Enc.Is eSc (2:Nat) qt28c_1,
 List.length qt28c_2≤(100000:Nat),
 Enc.Is eSc (2:Nat) qt28c_1,
 Enc.Is eRg (List.length (M.flows qt28c_2 (312:Int))) (Enc.F eRg (M.flows qt28c_2 (312:Int))),
 List.length (Enc.list eRg (List.length (M.flows qt28c_2 (312:Int))) (Enc.F eRg (M.flows qt28c_2 (312:Int))))≤List.length qt28c_2,
 List.length qt28c_2≤(100000:Nat),
 (0:Int)≤(0:Int),
 (0:Int)<(2:Int),
 Same [Ag.agg [D.sl true (2:Nat) (4:Nat) qt28c_1,D.int IntKind.i64 (0:Int)],Ag.c (D.int IntKind.i64 (0:Int)),Ag.c (D.fc (197:Nat) (List.length [D.sl false (List.length (M.flows qt28c_2 (312:Int))) (2:Nat) (Enc.F eRg (M.flows qt28c_2 (312:Int)))]) fun(j:Nat)=>List.getD [D.sl false (List.length (M.flows qt28c_2 (312:Int))) (2:Nat) (Enc.F eRg (M.flows qt28c_2 (312:Int)))] j D.nilp)] (canon (Row110.g {g:=(197:Nat),i:=(0:Int),d:=(312:Int),lo:=(6410:Int),hi:=(6411:Int)}) (0:Int) (312:Int)),
 (0:Int)≤(0:Int),
 (0:Int)<(2:Int),
 Enc.Is eSc (2:Nat) qt28c_1,
 List.length qt28c_2≤(100000:Nat),
 Enc.Is eSc (2:Nat) qt28c_1,
 Enc.Is eRg (List.length (M.flows qt28c_2 (156:Int))) (Enc.F eRg (M.flows qt28c_2 (156:Int))),
 List.length (Enc.list eRg (List.length (M.flows qt28c_2 (156:Int))) (Enc.F eRg (M.flows qt28c_2 (156:Int))))≤List.length qt28c_2,
 List.length qt28c_2≤(100000:Nat),
 (0:Int)≤(0:Int),
 (0:Int)<(2:Int),
 Same [Ag.agg [D.sl true (2:Nat) (4:Nat) qt28c_1,D.int IntKind.i64 (0:Int)],Ag.c (D.int IntKind.i64 (0:Int)),Ag.c (D.fc (197:Nat) (List.length [D.sl false (List.length (M.flows qt28c_2 (156:Int))) (2:Nat) (Enc.F eRg (M.flows qt28c_2 (156:Int)))]) fun(j:Nat)=>List.getD [D.sl false (List.length (M.flows qt28c_2 (156:Int))) (2:Nat) (Enc.F eRg (M.flows qt28c_2 (156:Int)))] j D.nilp)] (canon (Row110.g {g:=(197:Nat),i:=(0:Int),d:=(156:Int),lo:=(12820:Int),hi:=(12821:Int)}) (0:Int) (156:Int)),
 (0:Int)≤(0:Int),
 (0:Int)<(2:Int),
 Enc.Is eSc (2:Nat) qt28c_1,
 List.length qt28c_2≤(100000:Nat),
 Enc.Is eSc (2:Nat) qt28c_1,
 Enc.Is eRg (List.length (M.flows qt28c_2 (78:Int))) (Enc.F eRg (M.flows qt28c_2 (78:Int))),
 List.length (Enc.list eRg (List.length (M.flows qt28c_2 (78:Int))) (Enc.F eRg (M.flows qt28c_2 (78:Int))))≤List.length qt28c_2,
 List.length qt28c_2≤(100000:Nat),
 (0:Int)≤(0:Int),
 (0:Int)<(2:Int),
 Same [Ag.agg [D.sl true (2:Nat) (4:Nat) qt28c_1,D.int IntKind.i64 (0:Int)],Ag.c (D.int IntKind.i64 (0:Int)),Ag.c (D.fc (197:Nat) (List.length [D.sl false (List.length (M.flows qt28c_2 (78:Int))) (2:Nat) (Enc.F eRg (M.flows qt28c_2 (78:Int)))]) fun(j:Nat)=>List.getD [D.sl false (List.length (M.flows qt28c_2 (78:Int))) (2:Nat) (Enc.F eRg (M.flows qt28c_2 (78:Int)))] j D.nilp)] (canon (Row110.g {g:=(197:Nat),i:=(0:Int),d:=(78:Int),lo:=(25641:Int),hi:=(25642:Int)}) (0:Int) (78:Int)),
 (0:Int)≤(0:Int),
 (0:Int)<(2:Int),
 (0:Int)≤(1:Int),
 (1:Int)<(2:Int),
 Same [Ag.agg [D.sl true (2:Nat) (4:Nat) qt28c_1,D.int IntKind.i64 (0:Int)],Ag.c (D.int IntKind.i64 (1:Int)),Ag.c (D.fc (197:Nat) (List.length [D.sl false (List.length (M.flows qt28c_2 (78:Int))) (2:Nat) (Enc.F eRg (M.flows qt28c_2 (78:Int)))]) fun(j:Nat)=>List.getD [D.sl false (List.length (M.flows qt28c_2 (78:Int))) (2:Nat) (Enc.F eRg (M.flows qt28c_2 (78:Int)))] j D.nilp)] (canon (Row110.g {g:=(197:Nat),i:=(1:Int),d:=(78:Int),lo:=(12820:Int),hi:=(12821:Int)}) (1:Int) (78:Int)),
 (0:Int)≤(1:Int),
 (1:Int)<(2:Int),
 Enc.Is eSc (2:Nat) qt28c_1,
 List.length qt28c_2≤(100000:Nat),
 Enc.Is eSc (2:Nat) qt28c_1,
 Enc.Is eRg (List.length (M.flows qt28c_2 (117:Int))) (Enc.F eRg (M.flows qt28c_2 (117:Int))),
 List.length (Enc.list eRg (List.length (M.flows qt28c_2 (117:Int))) (Enc.F eRg (M.flows qt28c_2 (117:Int))))≤List.length qt28c_2,
 List.length qt28c_2≤(100000:Nat),
 (0:Int)≤(0:Int),
 (0:Int)<(2:Int),
 Same [Ag.agg [D.sl true (2:Nat) (4:Nat) qt28c_1,D.int IntKind.i64 (0:Int)],Ag.c (D.int IntKind.i64 (0:Int)),Ag.c (D.fc (197:Nat) (List.length [D.sl false (List.length (M.flows qt28c_2 (117:Int))) (2:Nat) (Enc.F eRg (M.flows qt28c_2 (117:Int)))]) fun(j:Nat)=>List.getD [D.sl false (List.length (M.flows qt28c_2 (117:Int))) (2:Nat) (Enc.F eRg (M.flows qt28c_2 (117:Int)))] j D.nilp)] (canon (Row110.g {g:=(197:Nat),i:=(0:Int),d:=(117:Int),lo:=(17094:Int),hi:=(17095:Int)}) (0:Int) (117:Int)),
 (0:Int)≤(0:Int),
 (0:Int)<(2:Int),
 Enc.Is eSc (2:Nat) qt28c_1,
 List.length qt28c_2≤(100000:Nat),
 Enc.Is eSc (2:Nat) qt28c_1,
 Enc.Is eRg (List.length (M.flows qt28c_2 (97:Int))) (Enc.F eRg (M.flows qt28c_2 (97:Int))),
 List.length (Enc.list eRg (List.length (M.flows qt28c_2 (97:Int))) (Enc.F eRg (M.flows qt28c_2 (97:Int))))≤List.length qt28c_2,
 List.length qt28c_2≤(100000:Nat),
 (0:Int)≤(0:Int),
 (0:Int)<(2:Int),
 Same [Ag.agg [D.sl true (2:Nat) (4:Nat) qt28c_1,D.int IntKind.i64 (0:Int)],Ag.c (D.int IntKind.i64 (0:Int)),Ag.c (D.fc (197:Nat) (List.length [D.sl false (List.length (M.flows qt28c_2 (97:Int))) (2:Nat) (Enc.F eRg (M.flows qt28c_2 (97:Int)))]) fun(j:Nat)=>List.getD [D.sl false (List.length (M.flows qt28c_2 (97:Int))) (2:Nat) (Enc.F eRg (M.flows qt28c_2 (97:Int)))] j D.nilp)] (canon (Row110.g {g:=(197:Nat),i:=(0:Int),d:=(97:Int),lo:=(20618:Int),hi:=(20619:Int)}) (0:Int) (97:Int)),
 (0:Int)≤(0:Int),
 (0:Int)<(2:Int),
 (0:Int)≤(1:Int),
 (1:Int)<(2:Int),
 Same [Ag.agg [D.sl true (2:Nat) (4:Nat) qt28c_1,D.int IntKind.i64 (0:Int)],Ag.c (D.int IntKind.i64 (1:Int)),Ag.c (D.fc (197:Nat) (List.length [D.sl false (List.length (M.flows qt28c_2 (97:Int))) (2:Nat) (Enc.F eRg (M.flows qt28c_2 (97:Int)))]) fun(j:Nat)=>List.getD [D.sl false (List.length (M.flows qt28c_2 (97:Int))) (2:Nat) (Enc.F eRg (M.flows qt28c_2 (97:Int)))] j D.nilp)] (canon (Row110.g {g:=(197:Nat),i:=(1:Int),d:=(97:Int),lo:=(10309:Int),hi:=(10310:Int)}) (1:Int) (97:Int)),
 (0:Int)≤(1:Int),
 (1:Int)<(2:Int),
 Enc.Is eSc (2:Nat) qt28c_1,
 List.length qt28c_2≤(100000:Nat),
 Enc.Is eSc (2:Nat) qt28c_1,
 Enc.Is eRg (List.length (M.flows qt28c_2 (107:Int))) (Enc.F eRg (M.flows qt28c_2 (107:Int))),
 List.length (Enc.list eRg (List.length (M.flows qt28c_2 (107:Int))) (Enc.F eRg (M.flows qt28c_2 (107:Int))))≤List.length qt28c_2,
 List.length qt28c_2≤(100000:Nat),
 (0:Int)≤(0:Int),
 (0:Int)<(2:Int),
 Same [Ag.agg [D.sl true (2:Nat) (4:Nat) qt28c_1,D.int IntKind.i64 (0:Int)],Ag.c (D.int IntKind.i64 (0:Int)),Ag.c (D.fc (197:Nat) (List.length [D.sl false (List.length (M.flows qt28c_2 (107:Int))) (2:Nat) (Enc.F eRg (M.flows qt28c_2 (107:Int)))]) fun(j:Nat)=>List.getD [D.sl false (List.length (M.flows qt28c_2 (107:Int))) (2:Nat) (Enc.F eRg (M.flows qt28c_2 (107:Int)))] j D.nilp)] (canon (Row110.g {g:=(197:Nat),i:=(0:Int),d:=(107:Int),lo:=(18691:Int),hi:=(18692:Int)}) (0:Int) (107:Int)),
 (0:Int)≤(0:Int),
 (0:Int)<(2:Int),
 Enc.Is eSc (2:Nat) qt28c_1,
 List.length qt28c_2≤(100000:Nat),
 Enc.Is eSc (2:Nat) qt28c_1,
 Enc.Is eRg (List.length (M.flows qt28c_2 (102:Int))) (Enc.F eRg (M.flows qt28c_2 (102:Int))),
 List.length (Enc.list eRg (List.length (M.flows qt28c_2 (102:Int))) (Enc.F eRg (M.flows qt28c_2 (102:Int))))≤List.length qt28c_2,
 List.length qt28c_2≤(100000:Nat),
 (0:Int)≤(0:Int),
 (0:Int)<(2:Int),
 Same [Ag.agg [D.sl true (2:Nat) (4:Nat) qt28c_1,D.int IntKind.i64 (0:Int)],Ag.c (D.int IntKind.i64 (0:Int)),Ag.c (D.fc (197:Nat) (List.length [D.sl false (List.length (M.flows qt28c_2 (102:Int))) (2:Nat) (Enc.F eRg (M.flows qt28c_2 (102:Int)))]) fun(j:Nat)=>List.getD [D.sl false (List.length (M.flows qt28c_2 (102:Int))) (2:Nat) (Enc.F eRg (M.flows qt28c_2 (102:Int)))] j D.nilp)] (canon (Row110.g {g:=(197:Nat),i:=(0:Int),d:=(102:Int),lo:=(19607:Int),hi:=(19608:Int)}) (0:Int) (102:Int)),
 (0:Int)≤(0:Int),
 (0:Int)<(2:Int),
 Enc.Is eSc (2:Nat) qt28c_1,
 List.length qt28c_2≤(100000:Nat),
 Enc.Is eSc (2:Nat) qt28c_1,
 Enc.Is eRg (List.length (M.flows qt28c_2 (99:Int))) (Enc.F eRg (M.flows qt28c_2 (99:Int))),
 List.length (Enc.list eRg (List.length (M.flows qt28c_2 (99:Int))) (Enc.F eRg (M.flows qt28c_2 (99:Int))))≤List.length qt28c_2,
 List.length qt28c_2≤(100000:Nat),
 (0:Int)≤(0:Int),
 (0:Int)<(2:Int),
 Same [Ag.agg [D.sl true (2:Nat) (4:Nat) qt28c_1,D.int IntKind.i64 (0:Int)],Ag.c (D.int IntKind.i64 (0:Int)),Ag.c (D.fc (197:Nat) (List.length [D.sl false (List.length (M.flows qt28c_2 (99:Int))) (2:Nat) (Enc.F eRg (M.flows qt28c_2 (99:Int)))]) fun(j:Nat)=>List.getD [D.sl false (List.length (M.flows qt28c_2 (99:Int))) (2:Nat) (Enc.F eRg (M.flows qt28c_2 (99:Int)))] j D.nilp)] (canon (Row110.g {g:=(197:Nat),i:=(0:Int),d:=(99:Int),lo:=(20202:Int),hi:=(20203:Int)}) (0:Int) (99:Int)),
 (0:Int)≤(0:Int),
 (0:Int)<(2:Int),
 (0:Int)≤(1:Int),
 (1:Int)<(2:Int),
 Same [Ag.agg [D.sl true (2:Nat) (4:Nat) qt28c_1,D.int IntKind.i64 (0:Int)],Ag.c (D.int IntKind.i64 (1:Int)),Ag.c (D.fc (197:Nat) (List.length [D.sl false (List.length (M.flows qt28c_2 (99:Int))) (2:Nat) (Enc.F eRg (M.flows qt28c_2 (99:Int)))]) fun(j:Nat)=>List.getD [D.sl false (List.length (M.flows qt28c_2 (99:Int))) (2:Nat) (Enc.F eRg (M.flows qt28c_2 (99:Int)))] j D.nilp)] (canon (Row110.g {g:=(197:Nat),i:=(1:Int),d:=(99:Int),lo:=(10101:Int),hi:=(10102:Int)}) (1:Int) (99:Int)),
 (0:Int)≤(1:Int),
 (1:Int)<(2:Int),
 Enc.Is eSc (2:Nat) qt28c_1,
 List.length qt28c_2≤(100000:Nat),
 Enc.Is eSc (2:Nat) qt28c_1,
 Enc.Is eRg (List.length (M.flows qt28c_2 (100:Int))) (Enc.F eRg (M.flows qt28c_2 (100:Int))),
 List.length (Enc.list eRg (List.length (M.flows qt28c_2 (100:Int))) (Enc.F eRg (M.flows qt28c_2 (100:Int))))≤List.length qt28c_2,
 List.length qt28c_2≤(100000:Nat),
 (0:Int)≤(0:Int),
 (0:Int)<(2:Int),
 Same [Ag.agg [D.sl true (2:Nat) (4:Nat) qt28c_1,D.int IntKind.i64 (0:Int)],Ag.c (D.int IntKind.i64 (0:Int)),Ag.c (D.fc (197:Nat) (List.length [D.sl false (List.length (M.flows qt28c_2 (100:Int))) (2:Nat) (Enc.F eRg (M.flows qt28c_2 (100:Int)))]) fun(j:Nat)=>List.getD [D.sl false (List.length (M.flows qt28c_2 (100:Int))) (2:Nat) (Enc.F eRg (M.flows qt28c_2 (100:Int)))] j D.nilp)] (canon (Row110.g {g:=(197:Nat),i:=(0:Int),d:=(100:Int),lo:=(20000:Int),hi:=(20000:Int)}) (0:Int) (100:Int)),
 (0:Int)≤(0:Int),
 (0:Int)<(2:Int),
 (0:Int)≤(1:Int),
 (1:Int)<(2:Int),
 Same [Ag.agg [D.sl true (2:Nat) (4:Nat) qt28c_1,D.int IntKind.i64 (0:Int)],Ag.c (D.int IntKind.i64 (1:Int)),Ag.c (D.fc (197:Nat) (List.length [D.sl false (List.length (M.flows qt28c_2 (100:Int))) (2:Nat) (Enc.F eRg (M.flows qt28c_2 (100:Int)))]) fun(j:Nat)=>List.getD [D.sl false (List.length (M.flows qt28c_2 (100:Int))) (2:Nat) (Enc.F eRg (M.flows qt28c_2 (100:Int)))] j D.nilp)] (canon (Row110.g {g:=(197:Nat),i:=(1:Int),d:=(100:Int),lo:=(10000:Int),hi:=(10000:Int)}) (1:Int) (100:Int)),
 (0:Int)≤(1:Int),
 (1:Int)<(2:Int),
 Enc.Is eSc (2:Nat) qt28c_1,
 List.length qt28c_2≤(100000:Nat),
 Enc.Is eSc (2:Nat) qt28c_1,
 Enc.Is eRg (List.length qt28c_3) (Enc.F eRg qt28c_3),
 List.length (Enc.list eRg (List.length qt28c_3) (Enc.F eRg qt28c_3))≤List.length qt28c_2,
 List.length qt28c_2≤(100000:Nat),
 (0:Int)≤(0:Int),
 (0:Int)<(2:Int),
 Same [Ag.agg [D.sl true (2:Nat) (4:Nat) qt28c_1,D.int IntKind.i64 (0:Int)],Ag.c (D.int IntKind.i64 (0:Int)),Ag.c (D.fc (197:Nat) (List.length [D.sl false (List.length qt28c_3) (2:Nat) (Enc.F eRg qt28c_3)]) fun(j:Nat)=>List.getD [D.sl false (List.length qt28c_3) (2:Nat) (Enc.F eRg qt28c_3)] j D.nilp)] (canon (Row110.g {g:=(197:Nat),i:=(0:Int),d:=(101:Int),lo:=(19801:Int),hi:=(19802:Int)}) (0:Int) (101:Int)),
 (0:Int)≤(0:Int),
 (0:Int)<(2:Int),
 Enc.Is eSc (2:Nat) qt28c_1,
 List.length qt28c_2≤(100000:Nat),
 Enc.Is eSc (2:Nat) qt28c_1,
 Enc.Is eRg (List.length qt28c_3) (Enc.F eRg qt28c_3),
 List.length (Enc.list eRg (List.length qt28c_3) (Enc.F eRg qt28c_3))≤List.length qt28c_2,
 List.length qt28c_2≤(100000:Nat),
 (0:Int)≤(0:Int),
 (0:Int)<(2:Int),
 Same [Ag.agg [D.sl true (2:Nat) (4:Nat) qt28c_1,D.int IntKind.i64 (0:Int)],Ag.c (D.int IntKind.i64 (0:Int)),Ag.c (D.fc (197:Nat) (List.length [D.sl false (List.length qt28c_3) (2:Nat) (Enc.F eRg qt28c_3)]) fun(j:Nat)=>List.getD [D.sl false (List.length qt28c_3) (2:Nat) (Enc.F eRg qt28c_3)] j D.nilp)] (canon (Row110.g {g:=(197:Nat),i:=(0:Int),d:=(101:Int),lo:=(19801:Int),hi:=(19802:Int)}) (0:Int) (101:Int)),
 (0:Int)≤(0:Int),
 (0:Int)<(2:Int)]
theorem t28c:runFnX Tryz.prog G0 (lookS [v95,v108,v109,v110c]) (fun _=>[(999999,[],none)]) [103,153] 1 200 6 55 Tryz.f55 [.agg [.sl true 2 4 (eSc.F [⟨1000,0,0,20000⟩,⟨1000,0,0,10000⟩]),dI 0]] =
  T.needs nd_t28c (T.ret [Ar.c (D.int IntKind.i64 (100:Int)),Ar.c (D.int IntKind.i64 (0:Int)),Ar.c (D.int IntKind.i64 (0:Int))]):=by kernel_rfl
theorem all_t28c:All nd_t28c:=by
 unfold nd_t28c
 repeat (refine⟨(by first|exact of_decide_eq_true rfl|exact fun i j _ _=>D.eqv_refl _|exact Enc.is_F _ _ _|exact fun i j hi _=>absurd hi (Nat.not_lt_zero i)|exact⟨⟨ag_of_eq (by kernel_rfl),ag_of_eq (by kernel_rfl),⟨rfl,rfl,fun j hj=>by obtain rfl:j=0:=Nat.lt_one_iff.1 hj;exact D.eqv_of_eq (by kernel_rfl)⟩,trivial⟩⟩),?_⟩)
 trivial
theorem w_t28c:(T.needs nd_t28c (T.ret [Ar.c (D.int IntKind.i64 (100:Int)),Ar.c (D.int IntKind.i64 (0:Int)),Ar.c (D.int IntKind.i64 (0:Int))])).wp (fun rs=>rsEqv rs [rI 100,rI 0,rI 0]):=by
 refine T.needs_wp all_t28c ?_
 exact rsEqv_refl _
abbrev qt35c_1:=Enc.F eSc (Enc.list eSc (2:Nat) (Enc.F eSc [(Scale.mk (1000:Int) (0:Int) (0:Int) (20000:Int)),(Scale.mk (1000:Int) (0:Int) (0:Int) (10000:Int))]))
abbrev qt35c_2:=M.flows (Enc.list eSc (2:Nat) qt35c_1) (100:Int)
def nd_t35c:List Prop:=[
 Enc.Is eSc (2:Nat) (Enc.F eSc [(Scale.mk (1000:Int) (0:Int) (0:Int) (20000:Int)),(Scale.mk (1000:Int) (0:Int) (0:Int) (10000:Int))]),
 (2:Nat)≤(100000:Nat),
 Enc.Is eSc (2:Nat) qt35c_1,
 List.length (Enc.list eSc (2:Nat) qt35c_1)≤(100000:Nat),
 (0:Int)≤(0:Int),
 (0:Int)<(2:Int),
 (0:Int)≤(1:Int),
 (1:Int)<(2:Int),
 Enc.Is eSc (2:Nat) qt35c_1,
 Enc.Is eRg (List.length qt35c_2) (Enc.F eRg qt35c_2),
 List.length (Enc.list eRg (List.length qt35c_2) (Enc.F eRg qt35c_2))≤List.length (Enc.list eSc (2:Nat) qt35c_1),
 List.length (Enc.list eSc (2:Nat) qt35c_1)≤(100000:Nat),
 Same [Ag.agg [D.sl true (2:Nat) (4:Nat) qt35c_1,D.int IntKind.i64 (0:Int)],Ag.c (D.int IntKind.i64 (0:Int)),Ag.c (D.fc (109:Nat) (List.length [D.sl false (List.length qt35c_2) (2:Nat) (Enc.F eRg qt35c_2)]) fun(j:Nat)=>List.getD [D.sl false (List.length qt35c_2) (2:Nat) (Enc.F eRg qt35c_2)] j D.nilp)] (canon (Row110.g {g:=(109:Nat),i:=(0:Int),d:=(100:Int),lo:=(20000:Int),hi:=(20000:Int)}) (0:Int) (100:Int)),
 Same [Ag.agg [D.sl true (2:Nat) (4:Nat) qt35c_1,D.int IntKind.i64 (0:Int)],Ag.c (D.int IntKind.i64 (0:Int)),Ag.c (D.fc (110:Nat) (List.length [D.sl false (List.length qt35c_2) (2:Nat) (Enc.F eRg qt35c_2)]) fun(j:Nat)=>List.getD [D.sl false (List.length qt35c_2) (2:Nat) (Enc.F eRg qt35c_2)] j D.nilp)] (canon (Row110.g {g:=(110:Nat),i:=(0:Int),d:=(100:Int),lo:=(20000:Int),hi:=(20000:Int)}) (0:Int) (100:Int)),
 (1:Nat)≤(1000000:Nat),
 Same [Ag.agg [D.sl true (2:Nat) (4:Nat) qt35c_1,D.int IntKind.i64 (0:Int)],Ag.c (D.int IntKind.i64 (1:Int)),Ag.c (D.fc (109:Nat) (List.length [D.sl false (List.length qt35c_2) (2:Nat) (Enc.F eRg qt35c_2)]) fun(j:Nat)=>List.getD [D.sl false (List.length qt35c_2) (2:Nat) (Enc.F eRg qt35c_2)] j D.nilp)] (canon (Row110.g {g:=(109:Nat),i:=(1:Int),d:=(100:Int),lo:=(10000:Int),hi:=(10000:Int)}) (1:Int) (100:Int)),
 Same [Ag.agg [D.sl true (2:Nat) (4:Nat) qt35c_1,D.int IntKind.i64 (0:Int)],Ag.c (D.int IntKind.i64 (1:Int)),Ag.c (D.fc (110:Nat) (List.length [D.sl false (List.length qt35c_2) (2:Nat) (Enc.F eRg qt35c_2)]) fun(j:Nat)=>List.getD [D.sl false (List.length qt35c_2) (2:Nat) (Enc.F eRg qt35c_2)] j D.nilp)] (canon (Row110.g {g:=(110:Nat),i:=(1:Int),d:=(100:Int),lo:=(10000:Int),hi:=(10000:Int)}) (1:Int) (100:Int)),
 (2:Nat)≤(1000000:Nat),
 (1:Nat)≤(1:Nat),
 (2:Nat)≤(2:Nat)]
theorem t35c:runFnX Tryz.prog G0 (lookS [v103,v104,v95,v107,v108,v109,v110c]) (fun _=>[(999999,[],none)]) [] 1 60 3 57 Tryz.f57 [.agg [.sl true 2 4 (eSc.F [⟨1000,0,0,20000⟩,⟨1000,0,0,10000⟩]),dI 0],.c (dI 100)] =
  T.needs nd_t35c (T.ret [Ar.c (D.sl true (2:Nat) (2:Nat) (joinF (1:Nat) (joinF (0:Nat) (fun(x x_1:Nat)=>D.nilp) fun(i j:Nat)=>List.getD [D.int IntKind.i64 (20000:Int),D.int IntKind.i64 (20000:Int)] (i*(2:Nat)+j) D.nilp) fun(i j:Nat)=>List.getD [D.int IntKind.i64 (10000:Int),D.int IntKind.i64 (10000:Int)] (i*(2:Nat)+j) D.nilp)),Ar.c (D.int IntKind.i64 (0:Int))]):=by kernel_rfl
theorem all_t35c:All nd_t35c:=by
 unfold nd_t35c
 repeat (refine⟨(by first|exact of_decide_eq_true rfl|exact fun i j _ _=>D.eqv_refl _|exact Enc.is_F _ _ _|exact fun i j hi _=>absurd hi (Nat.not_lt_zero i)|exact⟨⟨ag_of_eq (by kernel_rfl),ag_of_eq (by kernel_rfl),⟨rfl,rfl,fun j hj=>by obtain rfl:j=0:=Nat.lt_one_iff.1 hj;exact D.eqv_of_eq (by kernel_rfl)⟩,trivial⟩⟩),?_⟩)
 trivial
theorem w_t35c:(T.needs nd_t35c (T.ret [Ar.c (D.sl true (2:Nat) (2:Nat) (joinF (1:Nat) (joinF (0:Nat) (fun(x x_1:Nat)=>D.nilp) fun(i j:Nat)=>List.getD [D.int IntKind.i64 (20000:Int),D.int IntKind.i64 (20000:Int)] (i*(2:Nat)+j) D.nilp) fun(i j:Nat)=>List.getD [D.int IntKind.i64 (10000:Int),D.int IntKind.i64 (10000:Int)] (i*(2:Nat)+j) D.nilp)),Ar.c (D.int IntKind.i64 (0:Int))])).wp (fun rs=>rsEqv rs [.c (.sl true 2 2 (eRg.F [⟨20000,20000⟩,⟨10000,10000⟩])),rI 0]):=by
 refine T.needs_wp all_t35c ?_
 refine⟨⟨fun _=>rfl,rfl,fun _=>rfl,fun i j hi hj=>?_⟩,rfl,trivial⟩
 match i,hi,j,hj with
 |0,_,0,_=>exact D.eqv_refl _
 |0,_,1,_=>exact D.eqv_refl _
 |1,_,0,_=>exact D.eqv_refl _
 |1,_,1,_=>exact D.eqv_refl _
def dom28c:DomF
 |[.agg ds]=>some ([Same [.agg ds] [.agg four]],[rI 100,rI 0,rI 0])
 |_=>none
def v28c:Nat×Sm:=(55,fokSm dom28c)
theorem C28c:FOK Tryz.prog G0 gw 55 dom28c:=by
 intro ags p r hd hp κ w xs hw hl hG hx
 unfold dom28c at hd
 split at hd
 ·simp only[Option.some.injEq,Prod.mk.injEq]at hd
  obtain⟨rfl,rfl⟩:=hd
  exact fokX_fin mixed gw_stable (sl:=[v95,v108,v109,v110c]) ⟨S95,S108,S109,S110c,trivial⟩ Tryz.func55 hw hl hG hx hp.1.h rfl t28c w_t28c
 ·cases hd
theorem S28c:SumOK Tryz.prog G0 gw 55 (fokSm dom28c):=fok_sum Tryz.func55 rfl C28c
def dom35c:DomF
 |[.agg ds,.c d]=>some ([Same [.agg ds,.c d] [.agg four,.c (dI 100)]],[.c (.sl true 2 2 (eRg.F [⟨20000,20000⟩,⟨10000,10000⟩])),rI 0])
 |_=>none
def v35c:Nat×Sm:=(57,fokSm dom35c)
theorem C35c:FOK Tryz.prog G0 gw 57 dom35c:=by
 intro ags p r hd hp κ w xs hw hl hG hx
 unfold dom35c at hd
 split at hd
 ·simp only[Option.some.injEq,Prod.mk.injEq]at hd
  obtain⟨rfl,rfl⟩:=hd
  exact fokX_fin mixed gw_stable (sl:=[v103,v104,v95,v107,v108,v109,v110c]) ⟨S103,S104,S95,S107,S108,S109,S110c,trivial⟩ Tryz.func57 hw hl hG hx hp.1.h rfl t35c w_t35c
 ·cases hd
theorem S35c:SumOK Tryz.prog G0 gw 57 (fokSm dom35c):=fok_sum Tryz.func57 rfl C35c
end Go.Pl
end
section
set_option maxRecDepth 100000
namespace Go.Pl
open Go.Gd
open Go.V Go.Proofs
namespace M
def frac(n d:Int):Int×Int×Int:=cond (small (told1 n d) 1000000000) (cond (decide (told2 n d>1000000000)) (0,0,8) (told1 n d,told2 n d,0)) (0,0,8)
end M
def resF(x:Int×Int×Int):List Ar:=[.agg [dI x.1,dI x.2.1],rI x.2.2]
theorem gcdL2(n d:Int):M.gcdL [n,d]=Int.gcd n d:=by
 unfold M.gcdL Int.gcd
 simp
def tr85(n d:Int):T (List Ar):=
  T.need (Enc.Is eI (2:Nat) fun(i j:Nat)=>List.getD [D.int IntKind.i64 n,D.int IntKind.i64 d] (i*(1:Nat)+j) D.nilp) (T.need (List.length (Enc.list eI (2:Nat) fun(i j:Nat)=>List.getD [D.int IntKind.i64 n,D.int IntKind.i64 d] (i*(1:Nat)+j) D.nilp)≤(1000000:Nat)) (T.need (∀(x:Int),(x∈Enc.list eI (2:Nat) fun(i j:Nat)=>List.getD [D.int IntKind.i64 n,D.int IntKind.i64 d] (i*(nat_lit 0+(1:Nat))+j) D.nilp)→i64ok x) (T.need ((Nat.cast (R:=Int) (M.gcdL (Enc.list eI (2:Nat) fun(i j:Nat)=>List.getD [D.int IntKind.i64 n,D.int IntKind.i64 d] (i*(1:Nat)+j) D.nilp)))≠(0:Int)) (T.need ((Nat.cast (R:=Int) (M.gcdL (Enc.list eI (2:Nat) fun(i j:Nat)=>List.getD [D.int IntKind.i64 n,D.int IntKind.i64 d] (i*(1:Nat)+j) D.nilp)))≠(0:Int)) (T.need ((0:Int)≤(1000000000:Int)∧(1000000000:Int)<(9223372036854775808:Int)) (T.br (!M.small (IntKind.wrap IntKind.i64 (Int.tdiv n (Nat.cast (R:=Int) (M.gcdL (Enc.list eI (2:Nat) fun(i j:Nat)=>List.getD [D.int IntKind.i64 n,D.int IntKind.i64 d] (i*(1:Nat)+j) D.nilp))))) (1000000000:Int)) (T.ret [Ar.agg [D.int IntKind.i64 (0:Int),D.int IntKind.i64 (0:Int)],Ar.c (D.int IntKind.i64 (8:Int))]) (T.br (decide (IntKind.wrap IntKind.i64 (Int.tdiv d (Nat.cast (R:=Int) (M.gcdL (Enc.list eI (2:Nat) fun(i j:Nat)=>List.getD [D.int IntKind.i64 n,D.int IntKind.i64 d] (i*(1:Nat)+j) D.nilp))))>(1000000000:Int))) (T.ret [Ar.agg [D.int IntKind.i64 (0:Int),D.int IntKind.i64 (0:Int)],Ar.c (D.int IntKind.i64 (8:Int))]) (T.ret [Ar.agg [D.int IntKind.i64 (IntKind.wrap IntKind.i64 (Int.tdiv n (Nat.cast (R:=Int) (M.gcdL (Enc.list eI (2:Nat) fun(i j:Nat)=>List.getD [D.int IntKind.i64 n,D.int IntKind.i64 d] (i*(1:Nat)+j) D.nilp))))),D.int IntKind.i64 (IntKind.wrap IntKind.i64 (Int.tdiv d (Nat.cast (R:=Int) (M.gcdL (Enc.list eI (2:Nat) fun(i j:Nat)=>List.getD [D.int IntKind.i64 n,D.int IntKind.i64 d] (i*(1:Nat)+j) D.nilp)))))],Ar.c (D.int IntKind.i64 (0:Int))]))))))))
theorem t85(n d:Int):runFnX Tryz.prog G0 (lookS [v121,v151]) (fun _=>[]) [] 1 40 3 97 Tryz.f97 [.agg [dI n,dI d]] =
  tr85 n d:=by kernel_rfl
theorem w85(n d:Int)(hn:i64ok n)(hd:i64ok d)(h0:0<d):(tr85 n d).wp (fun rs=>rsEqv rs (resF (M.frac n d))):=by
 unfold tr85
 have hl:(eI.list 2 fun(i j:Nat)=>List.getD [D.int IntKind.i64 n,D.int IntKind.i64 d] (i*1+j) D.nilp)=[n,d]:=rfl
 have hl2:(eI.list 2 fun(i j:Nat)=>List.getD [D.int IntKind.i64 n,D.int IntKind.i64 d] (i*(0+1)+j) D.nilp)=[n,d]:=rfl
 have hg:Int.gcd n d≠0:=by
  intro h
  have:=Int.gcd_eq_zero_iff.1 h
  omega
 have w1:=tdiv_ok (n:=n) (g:=Int.gcd n d) hn
 have w2:=tdiv_ok (n:=d) (g:=Int.gcd n d) hd
 simp only[hl,gcdL2,w1,w2]
 refine⟨is_lit2 (D.eqv_refl _) (D.eqv_refl _),of_decide_eq_true rfl,fun x hx=>?_,by omega,by omega,by decide,?_⟩
 ·have hx:x∈ [n,d]:=hx
  simp only[List.mem_cons,List.not_mem_nil,or_false]at hx
  rcases hx with rfl|rfl
  ·exact hn
  ·exact hd
 ·refine wp_br (fun a=>?_) (fun a=>wp_br (fun b=>?_) (fun b=>?_))
  ·have a:(!M.small (M.told1 n d) 1000000000)=true:=a
   rw[Bool.not_eq_true']at a
   have e:M.frac n d=(0,0,8):=by unfold M.frac;rw[a];rfl
   rw[e];exact rsEqv_refl _
  ·have a:(!M.small (M.told1 n d) 1000000000)=false:=a
   rw[Bool.not_eq_false']at a
   have b:decide (M.told2 n d>1000000000)=true:=b
   have e:M.frac n d=(0,0,8):=by unfold M.frac;rw[a,b];rfl
   rw[e];exact rsEqv_refl _
  ·have a:(!M.small (M.told1 n d) 1000000000)=false:=a
   rw[Bool.not_eq_false']at a
   have b:decide (M.told2 n d>1000000000)=false:=b
   have e:M.frac n d=(M.told1 n d,M.told2 n d,0):=by unfold M.frac;rw[a,b];rfl
   rw[e];exact rsEqv_refl _
def dom85:DomF
 |[.agg [.int .i64 n,.int .i64 d]]=>some ([i64ok n,i64ok d,0<d],resF (M.frac n d))
 |_=>none
def v85:Nat×Sm:=(97,fokSm dom85)
theorem C85:FOK Tryz.prog G0 gw 97 dom85:=by
 intro ags p r hd hp κ w xs hw hl hG hx
 unfold dom85 at hd
 split at hd
 ·rename_i n d
  simp only[Option.some.injEq,Prod.mk.injEq]at hd
  obtain⟨rfl,rfl⟩:=hd
  exact fokX_fin mixed gw_stable (sl:=[v121,v151]) ⟨S121,S151,trivial⟩ Tryz.func97 hw hl hG hx (agsEqv_refl _) rfl (t85 n d) (w85 n d hp.1 hp.2.1 hp.2.2.1)
 ·cases hd
theorem S85:SumOK Tryz.prog G0 gw 97 (fokSm dom85):=fok_sum Tryz.func97 rfl C85
def tr83(q_mo:Bool)(mo:List Int)(q_ga:Bool)(ga:List Int)(q_de:Bool)(de:List Dem):T (List Ar):=
  T.need (Enc.Is eI (List.length mo) (Enc.F eI mo)) (T.need (Enc.Is eI (List.length ga) (Enc.F eI ga)) (T.need (Enc.Is eDm (List.length de) (Enc.F eDm de)) (T.need (List.length (Enc.list eI (List.length mo) (Enc.F eI mo))≤(1000000:Nat)) (T.need (List.length (Enc.list eI (List.length ga) (Enc.F eI ga))≤(1000000:Nat)) (T.need (List.length (Enc.list eDm (List.length de) (Enc.F eDm de))≤(1000000:Nat)) (T.need (∀(d:Dem),d∈Enc.list eDm (List.length de) (Enc.F eDm de)→ByteArray.size (Dem.nm d)≤(1000000:Nat)∧List.length (Dem.co d)≤(1000000:Nat)) (T.ret [Ar.agg [D.sl q_mo (List.length mo) (1:Nat) (Enc.F eI mo),D.sl q_ga (List.length ga) (1:Nat) (Enc.F eI ga),D.sl q_de (List.length de) (3:Nat) (Enc.F eDm de)],Ar.c (D.int IntKind.i64 (Prod.snd (M.checkProg (Enc.list eI (List.length mo) (Enc.F eI mo)) (Enc.list eI (List.length ga) (Enc.F eI ga)) (Enc.list eDm (List.length de) (Enc.F eDm de)))))])))))))
theorem t83(q_mo:Bool)(mo:List Int)(q_ga:Bool)(ga:List Int)(q_de:Bool)(de:List Dem):runFnX Tryz.prog G0 (lookS [v42]) (fun _=>[]) [] 1 40 3 95 Tryz.f95 [.agg [.sl q_mo mo.length 1 (eI.F mo),.sl q_ga ga.length 1 (eI.F ga),.sl q_de de.length 3 (eDm.F de)]] =
  tr83 q_mo mo q_ga ga q_de de:=by kernel_rfl
theorem w83(qm:Bool)(mo:List Int)(qg:Bool)(ga:List Int)(qd:Bool)(de:List Dem)(h1:mo.length≤1000000)(h2:ga.length≤1000000)(h3:de.length≤1000000)(hn:∀d,d∈de→d.nm.size≤1000000∧d.co.length≤1000000):(tr83 qm mo qg ga qd de).wp (fun rs=>rsEqv rs [.agg [.sl qm mo.length 1 (eI.F mo),.sl qg ga.length 1 (eI.F ga),.sl qd de.length 3 (eDm.F de)],rI (M.checkProg mo ga de).2]):=by
 unfold tr83
 simp only[Enc.list_F]
 exact⟨Enc.is_F _ _ _,Enc.is_F _ _ _,Enc.is_F _ _ _,h1,h2,h3,hn,rsEqv_refl _⟩
def dom83:DomF
 |[.agg [.sl qm n1 st1 F1,.sl qg n2 st2 F2,.sl qd n3 st3 F3]]=>(match Nat.beq st1 1&&Nat.beq st2 1&&Nat.beq st3 3 with
  |true=>some ([eI.Is n1 F1,eI.Is n2 F2,eDm.Is n3 F3,n1≤1000000,n2≤1000000,n3≤1000000,∀d,d∈eDm.list n3 F3→d.nm.size≤1000000∧d.co.length≤1000000],[.agg [.sl qm n1 1 (eI.F (eI.list n1 F1)),.sl qg n2 1 (eI.F (eI.list n2 F2)),.sl qd n3 3 (eDm.F (eDm.list n3 F3))],rI (M.checkProg (eI.list n1 F1) (eI.list n2 F2) (eDm.list n3 F3)).2])
  |_=>none)
 |_=>none
def v83:Nat×Sm:=(95,fokSm dom83)
theorem C83:FOK Tryz.prog G0 gw 95 dom83:=by
 intro ags p r hd hp κ w xs hw hl hG hx
 unfold dom83 at hd
 split at hd
 ·rename_i qm n1 st1 F1 qg n2 st2 F2 qd n3 st3 F3
  split at hd
  ·rename_i hst
   simp only[Bool.and_eq_true]at hst
   have g1:=Nat.eq_of_beq_eq_true hst.1.1
   have g2:=Nat.eq_of_beq_eq_true hst.1.2
   have g3:=Nat.eq_of_beq_eq_true hst.2
   subst g1 g2 g3
   simp only[Option.some.injEq,Prod.mk.injEq]at hd
   obtain⟨rfl,rfl⟩:=hd
   obtain⟨i1,i2,i3,l1,l2,l3,hn,_⟩:=hp
   have heq:agsEqv [.agg [.sl qm n1 1 F1,.sl qg n2 1 F2,.sl qd n3 3 F3]] [.agg [.sl qm (eI.list n1 F1).length 1 (eI.F (eI.list n1 F1)),.sl qg (eI.list n2 F2).length 1 (eI.F (eI.list n2 F2)),.sl qd (eDm.list n3 F3).length 3 (eDm.F (eDm.list n3 F3))]]:=⟨⟨eI.to id i1,eI.to id i2,eDm.to id i3,trivial⟩,trivial⟩
   have e1:(eI.list n1 F1).length=n1:=Enc.list_len _
   have e2:(eI.list n2 F2).length=n2:=Enc.list_len _
   have e3:(eDm.list n3 F3).length=n3:=Enc.list_len _
   have hw0:=w83 qm (eI.list n1 F1) qg (eI.list n2 F2) qd (eDm.list n3 F3) (by omega) (by omega) (by omega) hn
   rw[e1,e2,e3]at hw0
   exact fokX_fin mixed gw_stable (sl:=[v42]) ⟨S42,trivial⟩ Tryz.func95 hw hl hG hx heq rfl (t83 qm _ qg _ qd _) hw0
  ·cases hd
 ·cases hd
theorem S83:SumOK Tryz.prog G0 gw 95 (fokSm dom83):=fok_sum Tryz.func95 rfl C83
end Go.Pl
end
section
set_option maxRecDepth 100000
namespace Go.Pl
open Go.Gd
open Go.V Go.Proofs
def best2:List Ar:=[.agg [dI 34,dI 1,dI 1,dT [10,2],dI 1,dT [2],dT [1,0]],rI 0]
def two':List D:=[D.sl true 2 1 (eI.F (eI.list 2 (eI.F [10,10]))),D.sl true 2 1 (eI.F (eI.list 2 (eI.F [3,2]))),D.sl true 1 3 (eDm.F (eDm.list 1 (eDm.F [⟨⟨#[97]⟩,[1,1],12⟩])))]
theorem two'_eq:two'=two:=by kernel_rfl
theorem two1:Same [.agg two'] [.agg two]:=⟨by rw[two'_eq];exact agsEqv_refl _⟩
theorem two3:Same [.agg two',.c (.sl true 2 1 (eI.F (eI.list 2 (eI.F [3,2])))),.c (.sl false 0 0 (fun _ _=>.nilp))] [.agg two,.c (dT [3,2]),.c (.sl false 0 0 (fun _ _=>.nilp))]:=⟨by rw[two'_eq];exact⟨Ag.eqv_refl _,ag_of_eq (by kernel_rfl),Ag.eqv_refl _,trivial⟩⟩
def nd_t17c:List Prop:=[
 Enc.Is eI (2:Nat) (Enc.F eI [(10:Int),(10:Int)]),
 Enc.Is eI (2:Nat) (Enc.F eI [(3:Int),(2:Int)]),
 Enc.Is eDm (1:Nat) (Enc.F eDm [{nm:={data:={toList:=[(97:UInt8)]}},co:=[(1:Int),(1:Int)],am:=(12:Int)}]),
 (2:Nat)≤(1000000:Nat),
 (2:Nat)≤(1000000:Nat),
 (1:Nat)≤(1000000:Nat),
 ∀(d:Dem),d∈Enc.list eDm (1:Nat) (Enc.F eDm [{nm:={data:= #[(97:UInt8)]},co:=[(1:Int),(1:Int)],am:=(12:Int)}])→ByteArray.size (Dem.nm d)≤(1000000:Nat)∧List.length (Dem.co d)≤(1000000:Nat),
 Same [Ag.agg [D.sl true (2:Nat) (1:Nat) (Enc.F eI (Enc.list eI (2:Nat) (Enc.F eI [(10:Int),(10:Int)]))),D.sl true (2:Nat) (1:Nat) (Enc.F eI (Enc.list eI (2:Nat) (Enc.F eI [(3:Int),(2:Int)]))),D.sl true (1:Nat) (3:Nat) (Enc.F eDm (Enc.list eDm (1:Nat) (Enc.F eDm [{nm:={data:={toList:=[(97:UInt8)]}},co:=[(1:Int),(1:Int)],am:=(12:Int)}])))]] [Ag.agg two],
 i64ok (34:Int),
 i64ok (1:Int),
 (0:Int)<(1:Int),
 Same [Ag.agg [D.sl true (2:Nat) (1:Nat) (Enc.F eI (Enc.list eI (2:Nat) (Enc.F eI [(10:Int),(10:Int)]))),D.sl true (2:Nat) (1:Nat) (Enc.F eI (Enc.list eI (2:Nat) (Enc.F eI [(3:Int),(2:Int)]))),D.sl true (1:Nat) (3:Nat) (Enc.F eDm (Enc.list eDm (1:Nat) (Enc.F eDm [{nm:={data:={toList:=[(97:UInt8)]}},co:=[(1:Int),(1:Int)],am:=(12:Int)}])))],Ag.c (D.sl true (2:Nat) (1:Nat) (Enc.F eI [(3:Int),(2:Int)])),Ag.c (D.sl false (0:Nat) (0:Nat) fun(x x_1:Nat)=>D.nilp)] [Ag.agg two,Ag.c (dT [(3:Int),(2:Int)]),Ag.c (D.sl false (0:Nat) (0:Nat) fun(x x_1:Nat)=>D.nilp)]]
theorem t17c:runFnX Tryz.prog G0 (lookS [v83,v84c,v85,v86c]) (fun _=>[(999999,[],none)]) [] 1 60 3 52 Tryz.f52 [.agg two] =
  T.needs nd_t17c (T.ret [Ar.agg [D.int IntKind.i64 (34:Int),D.int IntKind.i64 (1:Int),D.int IntKind.i64 (1:Int),D.sl true (2:Nat) (1:Nat) (Enc.F eI [(10:Int),(2:Int)]),D.int IntKind.i64 (1:Int),D.sl true (1:Nat) (1:Nat) (Enc.F eI [(2:Int)]),D.sl true (2:Nat) (1:Nat) (Enc.F eI [(1:Int),(0:Int)])],Ar.c (D.int IntKind.i64 (0:Int))]):=by kernel_rfl
theorem all_t17c:All nd_t17c:=by
 unfold nd_t17c
 repeat (refine⟨(by first|exact of_decide_eq_true rfl|exact fun i j _ _=>D.eqv_refl _|exact Enc.is_F _ _ _|exact fun i j hi _=>absurd hi (Nat.not_lt_zero i)|exact two1|exact two3|exact of_decide_eq_true (by kernel_rfl)),?_⟩)
 trivial
theorem w_t17c:(T.needs nd_t17c (T.ret [Ar.agg [D.int IntKind.i64 (34:Int),D.int IntKind.i64 (1:Int),D.int IntKind.i64 (1:Int),D.sl true (2:Nat) (1:Nat) (Enc.F eI [(10:Int),(2:Int)]),D.int IntKind.i64 (1:Int),D.sl true (1:Nat) (1:Nat) (Enc.F eI [(2:Int)]),D.sl true (2:Nat) (1:Nat) (Enc.F eI [(1:Int),(0:Int)])],Ar.c (D.int IntKind.i64 (0:Int))])).wp (fun rs=>rsEqv rs best2):=by
 refine T.needs_wp all_t17c ?_
 exact rsEqv_refl _
def nd_t53c:List Prop:=[
 Enc.Is eI (2:Nat) (Enc.F eI [(10:Int),(10:Int)]),
 Enc.Is eI (2:Nat) (Enc.F eI [(3:Int),(2:Int)]),
 Enc.Is eDm (1:Nat) (Enc.F eDm [{nm:={data:={toList:=[(97:UInt8)]}},co:=[(1:Int),(1:Int)],am:=(12:Int)}]),
 (2:Nat)≤(1000000:Nat),
 (2:Nat)≤(1000000:Nat),
 (1:Nat)≤(1000000:Nat),
 ∀(d:Dem),d∈Enc.list eDm (1:Nat) (Enc.F eDm [{nm:={data:= #[(97:UInt8)]},co:=[(1:Int),(1:Int)],am:=(12:Int)}])→ByteArray.size (Dem.nm d)≤(1000000:Nat)∧List.length (Dem.co d)≤(1000000:Nat),
 ((1:Int)==(1:Int))=true,
 M.within (1:Int) (1:Int) (100000000000:Int)=true,
 Enc.Is eI (1:Nat) (Enc.F eI [(2:Int)]),
 (1:Nat)≤(1000000:Nat),
 (!(badF (170:Nat) (2:Int)||false))=true,
 Enc.Is eI (2:Nat) (Enc.F eI [(1:Int),(0:Int)]),
 (2:Nat)≤(1000000:Nat),
 Enc.Is eI (2:Nat) (Enc.F eI [(1:Int),(0:Int)]),
 Enc.Is eI (2:Nat) (Enc.F eI (Enc.list eI (2:Nat) (Enc.F eI [(10:Int),(10:Int)]))),
 List.length (Enc.list eI (2:Nat) (Enc.F eI [(1:Int),(0:Int)]))≤(1000000:Nat),
 List.length (Enc.list eI (2:Nat) (Enc.F eI [(1:Int),(0:Int)]))≤List.length (Enc.list eI (2:Nat) (Enc.F eI (Enc.list eI (2:Nat) (Enc.F eI [(10:Int),(10:Int)])))),
 (0:Int)≤(0:Int),
 (0:Int)<(1:Int),
 (0:Int)≤(0:Int),
 (0:Int)<(1:Int),
 (0:Int)≤(0:Int),
 (0:Int)<(2:Int),
 (0:Int)≤(0:Int),
 (0:Int)<(1:Int),
 (0:Int)≤(0:Int),
 (0:Int)<(1:Int),
 (0:Int)≤(0:Int),
 (0:Int)<(2:Int),
 (0:Int)≤(0:Int),
 (0:Int)<(2:Int),
 (0:Int)≤(1:Int),
 (1:Int)<(2:Int),
 (0:Int)≤(0:Int),
 (0:Int)<(1:Int),
 (0:Int)≤(0:Int),
 (0:Int)<(1:Int),
 (0:Int)≤(1:Int),
 (1:Int)<(2:Int),
 (0:Int)≤(1:Int),
 (1:Int)<(2:Int),
 i64ok (34:Int),
 i64ok (1:Int),
 (0:Int)<(1:Int)]
theorem t53c:runFnX Tryz.prog G0 (lookS [v83,v85,v103,v104,v105,v118,v139]) (fun _=>[(999999,[],none)]) [99,100,101] 1 60 6 54 Tryz.f54 [.agg two,.agg [dI 1,dT [2],dT [1,0]]] =
  T.needs nd_t53c (T.ret [Ar.agg [D.int IntKind.i64 (34:Int),D.int IntKind.i64 (1:Int)],Ar.c (D.int IntKind.i64 (0:Int))]):=by kernel_rfl
theorem all_t53c:All nd_t53c:=by
 unfold nd_t53c
 repeat (refine⟨(by first|exact of_decide_eq_true rfl|exact fun i j _ _=>D.eqv_refl _|exact Enc.is_F _ _ _|exact fun i j hi _=>absurd hi (Nat.not_lt_zero i)|exact of_decide_eq_true (by kernel_rfl)),?_⟩)
 trivial
theorem w_t53c:(T.needs nd_t53c (T.ret [Ar.agg [D.int IntKind.i64 (34:Int),D.int IntKind.i64 (1:Int)],Ar.c (D.int IntKind.i64 (0:Int))])).wp (fun rs=>rsEqv rs [.agg [dI 34,dI 1],rI 0]):=by
 refine T.needs_wp all_t53c ?_
 exact rsEqv_refl _
def dom17c:DomF
 |[.agg ds]=>some ([Same [.agg ds] [.agg two]],best2)
 |_=>none
def v17c:Nat×Sm:=(52,fokSm dom17c)
theorem C17c:FOK Tryz.prog G0 gw 52 dom17c:=by
 intro ags p r hd hp κ w xs hw hl hG hx
 unfold dom17c at hd
 split at hd
 ·simp only[Option.some.injEq,Prod.mk.injEq]at hd
  obtain⟨rfl,rfl⟩:=hd
  exact fokX_fin mixed gw_stable (sl:=[v83,v84c,v85,v86c]) ⟨S83,S84c,S85,S86c,trivial⟩ Tryz.func52 hw hl hG hx hp.1.h rfl t17c w_t17c
 ·cases hd
theorem S17c:SumOK Tryz.prog G0 gw 52 (fokSm dom17c):=fok_sum Tryz.func52 rfl C17c
def dom53c:DomF
 |[.agg ds,.agg ws]=>some ([Same [.agg ds,.agg ws] [.agg two,.agg [dI 1,dT [2],dT [1,0]]]],[.agg [dI 34,dI 1],rI 0])
 |_=>none
def v53c:Nat×Sm:=(54,fokSm dom53c)
theorem C53c:FOK Tryz.prog G0 gw 54 dom53c:=by
 intro ags p r hd hp κ w xs hw hl hG hx
 unfold dom53c at hd
 split at hd
 ·simp only[Option.some.injEq,Prod.mk.injEq]at hd
  obtain⟨rfl,rfl⟩:=hd
  exact fokX_fin mixed gw_stable (sl:=[v83,v85,v103,v104,v105,v118,v139]) ⟨S83,S85,S103,S104,S105,S118,S139,trivial⟩ Tryz.func54 hw hl hG hx hp.1.h rfl t53c w_t53c
 ·cases hd
theorem S53c:SumOK Tryz.prog G0 gw 54 (fokSm dom53c):=fok_sum Tryz.func54 rfl C53c
def tr80:T (List Ar):=
  T.ret [Ar.agg [D.sl true (2:Nat) (1:Nat) fun(i' j:Nat)=>List.getD [D.int IntKind.i64 (10:Int),D.int IntKind.i64 (10:Int)] (i'*(1:Nat)+j) D.nilp,D.sl true (2:Nat) (1:Nat) fun(i' j:Nat)=>List.getD [D.int IntKind.i64 (3:Int),D.int IntKind.i64 (2:Int)] (i'*(1:Nat)+j) D.nilp,D.sl true (1:Nat) (3:Nat) fun(i' j:Nat)=>List.getD [D.str {data:={toList:=[(97:UInt8)]}},D.sl true (2:Nat) (1:Nat) fun(i' j:Nat)=>List.getD [D.int IntKind.i64 (1:Int),D.int IntKind.i64 (1:Int)] (i'*(1:Nat)+j) D.nilp,D.int IntKind.i64 (12:Int)] (i'*(3:Nat)+j) D.nilp]]
theorem t80:runFnX Tryz.prog G0 (lookS []) (fun _=>[]) [] 1 40 6 53 Tryz.f53 [] =
  tr80:=by kernel_rfl
def tr81:T (List Ar):=
  T.ret [Ar.agg [D.sl true (2:Nat) (4:Nat) fun(i' j:Nat)=>List.getD [D.int IntKind.i64 (1000:Int),D.int IntKind.i64 (0:Int),D.int IntKind.i64 (0:Int),D.int IntKind.i64 (20000:Int),D.int IntKind.i64 (1000:Int),D.int IntKind.i64 (0:Int),D.int IntKind.i64 (0:Int),D.int IntKind.i64 (10000:Int)] (i'*(4:Nat)+j) D.nilp,D.int IntKind.i64 (0:Int)]]
theorem t81:runFnX Tryz.prog G0 (lookS []) (fun _=>[]) [] 1 40 6 56 Tryz.f56 [] =
  tr81:=by kernel_rfl
def tr82(n:Int):T (List Ar):=
  T.ret [Ar.agg [D.int IntKind.i64 n,D.int IntKind.i64 (1:Int)]]
theorem t82(n:Int):runFnX Tryz.prog G0 (lookS []) (fun _=>[]) [] 1 40 3 58 Tryz.f58 [.c (dI n)] =
  tr82 n:=by kernel_rfl
theorem w80:(tr80).wp (fun rs=>rsEqv rs [.agg two]):=by
 unfold tr80
 refine⟨⟨dT_ok rfl rfl (fun i hi=>?_),dT_ok rfl rfl (fun i hi=>?_),⟨fun _=>rfl,rfl,fun _=>rfl,fun i j hi hj=>?_⟩,trivial⟩,trivial⟩
 ·match i,hi with
  |0,_=>exact D.eqv_refl _
  |1,_=>exact D.eqv_refl _
 ·match i,hi with
  |0,_=>exact D.eqv_refl _
  |1,_=>exact D.eqv_refl _
 ·match i,hi,j,hj with
  |0,_,0,_=>exact D.eqv_refl _
  |0,_,1,_=>
   refine⟨fun _=>rfl,rfl,fun _=>rfl,fun i j hi hj=>?_⟩
   obtain rfl:j=0:=Nat.lt_one_iff.1 hj
   match i,hi with
   |0,_=>exact D.eqv_refl _
   |1,_=>exact D.eqv_refl _
  |0,_,2,_=>exact D.eqv_refl _
def dom80:DomF
 |[]=>some ([],[.agg two])
 |_=>none
def v80:Nat×Sm:=(53,fokSm dom80)
theorem C80:FOK Tryz.prog G0 gw 53 dom80:=by
 intro ags p r hd hp κ w xs hw hl hG hx
 unfold dom80 at hd
 split at hd
 ·simp only[Option.some.injEq,Prod.mk.injEq]at hd
  obtain⟨rfl,rfl⟩:=hd
  exact fokX_fin mixed gw_stable (sl:=[]) trivial Tryz.func53 hw hl hG hx (agsEqv_refl _) rfl t80 w80
 ·cases hd
theorem S80:SumOK Tryz.prog G0 gw 53 (fokSm dom80):=fok_sum Tryz.func53 rfl C80
theorem w81:(tr81).wp (fun rs=>rsEqv rs [.agg four]):=by
 unfold tr81
 refine⟨⟨⟨fun _=>rfl,rfl,fun _=>rfl,fun i j hi hj=>?_⟩,rfl,trivial⟩,trivial⟩
 match i,hi,j,hj with
 |0,_,0,_=>exact D.eqv_refl _
 |0,_,1,_=>exact D.eqv_refl _
 |0,_,2,_=>exact D.eqv_refl _
 |0,_,3,_=>exact D.eqv_refl _
 |1,_,0,_=>exact D.eqv_refl _
 |1,_,1,_=>exact D.eqv_refl _
 |1,_,2,_=>exact D.eqv_refl _
 |1,_,3,_=>exact D.eqv_refl _
def dom81:DomF
 |[]=>some ([],[.agg four])
 |_=>none
def v81:Nat×Sm:=(56,fokSm dom81)
theorem C81:FOK Tryz.prog G0 gw 56 dom81:=by
 intro ags p r hd hp κ w xs hw hl hG hx
 unfold dom81 at hd
 split at hd
 ·simp only[Option.some.injEq,Prod.mk.injEq]at hd
  obtain⟨rfl,rfl⟩:=hd
  exact fokX_fin mixed gw_stable (sl:=[]) trivial Tryz.func56 hw hl hG hx (agsEqv_refl _) rfl t81 w81
 ·cases hd
theorem S81:SumOK Tryz.prog G0 gw 56 (fokSm dom81):=fok_sum Tryz.func56 rfl C81
def dom82:DomF
 |[.c (.int .i64 n)]=>some ([],[.agg [dI n,dI 1]])
 |_=>none
def v82:Nat×Sm:=(58,fokSm dom82)
theorem C82:FOK Tryz.prog G0 gw 58 dom82:=by
 intro ags p r hd hp κ w xs hw hl hG hx
 unfold dom82 at hd
 split at hd
 ·rename_i n
  simp only[Option.some.injEq,Prod.mk.injEq]at hd
  obtain⟨rfl,rfl⟩:=hd
  have heq:agsEqv [.c (.int .i64 n)] [.c (.int .i64 n)]:=⟨Ag.eqv_refl _,trivial⟩
  exact fokX_fin mixed gw_stable (sl:=[]) trivial Tryz.func58 hw hl hG hx heq rfl (t82 _) (rsEqv_refl _)
 ·cases hd
theorem S82:SumOK Tryz.prog G0 gw 58 (fokSm dom82):=fok_sum Tryz.func58 rfl C82
end Go.Pl
end
section
set_option maxRecDepth 100000
namespace Go.Pl
open Go.Gd
open Go.V Go.Proofs
theorem sw:Same [.agg two,.agg [dI 1,D.sl true 1 1 fun(i j:Nat)=>List.getD [dI 2] (i*1+j) D.nilp,D.sl true 2 1 fun(i j:Nat)=>List.getD [dI 1,dI 0] (i*1+j) D.nilp]] [.agg two,.agg [dI 1,dT [2],dT [1,0]]]:=by
 refine⟨⟨Ag.eqv_refl _,⟨rfl,dT_ok rfl rfl (fun i hi=>?_),dT_ok rfl rfl (fun i hi=>?_),trivial⟩,trivial⟩⟩
 ·match i,hi with
  |0,_=>exact D.eqv_refl _
 ·match i,hi with
  |0,_=>exact D.eqv_refl _
  |1,_=>exact D.eqv_refl _
def nd_t15:List Prop:=[
 Same [Ag.agg [D.sl true (2:Nat) (1:Nat) (Enc.F eI [(10:Int),(10:Int)]),D.sl true (2:Nat) (1:Nat) (Enc.F eI [(3:Int),(2:Int)]),D.sl true (1:Nat) (3:Nat) (Enc.F eDm [{nm:={data:={toList:=[(97:UInt8)]}},co:=[(1:Int),(1:Int)],am:=(12:Int)}])]] [Ag.agg two],
 Same [Ag.agg [D.sl true (2:Nat) (1:Nat) (Enc.F eI [(10:Int),(10:Int)]),D.sl true (2:Nat) (1:Nat) (Enc.F eI [(3:Int),(2:Int)]),D.sl true (1:Nat) (3:Nat) (Enc.F eDm [{nm:={data:={toList:=[(97:UInt8)]}},co:=[(1:Int),(1:Int)],am:=(12:Int)}])],Ag.agg [D.int IntKind.i64 (1:Int),D.sl true (1:Nat) (1:Nat) fun(i j:Nat)=>List.getD [D.int IntKind.i64 (2:Int)] (i*(1:Nat)+j) D.nilp,D.sl true (2:Nat) (1:Nat) fun(i j:Nat)=>List.getD [D.int IntKind.i64 (1:Int),D.int IntKind.i64 (0:Int)] (i*(1:Nat)+j) D.nilp]] [Ag.agg two,Ag.agg [dI (1:Int),dT [(2:Int)],dT [(1:Int),(0:Int)]]],
 Same [Ag.agg [D.sl true (2:Nat) (4:Nat) (Enc.F eSc [(Scale.mk (1000:Int) (0:Int) (0:Int) (20000:Int)),(Scale.mk (1000:Int) (0:Int) (0:Int) (10000:Int))]),D.int IntKind.i64 (0:Int)]] [Ag.agg four],
 Same [Ag.agg [D.sl true (2:Nat) (4:Nat) (Enc.F eSc [(Scale.mk (1000:Int) (0:Int) (0:Int) (20000:Int)),(Scale.mk (1000:Int) (0:Int) (0:Int) (10000:Int))]),D.int IntKind.i64 (0:Int)],Ag.c (D.int IntKind.i64 (100:Int))] [Ag.agg four,Ag.c (dI (100:Int))],
 ((34:Int)==(34:Int)&&((1:Int)==(1:Int)&&true))=true,
 ((34:Int)==(34:Int)&&((1:Int)==(1:Int)&&true))=true,
 ((2:Int)==(2:Int))=true,
 (0:Int)≤(0:Int),
 (0:Int)<(2:Int)]
theorem t15:runFnX Tryz.prog G0 (lookS [v17c,v53c,v28c,v35c,v80,v81,v82]) (fun _=>[(999999,[],none)]) [] 1 60 3 13 Tryz.f13 [] =
  T.needs nd_t15 (T.ret [Ar.c (D.bool ((20000:Int)==(20000:Int)&&((20000:Int)==(20000:Int)&&true)))]):=by kernel_rfl
theorem all_t15:All nd_t15:=by
 unfold nd_t15
 repeat (refine⟨(by first|exact of_decide_eq_true rfl|exact fun i j _ _=>D.eqv_refl _|exact Enc.is_F _ _ _|exact fun i j hi _=>absurd hi (Nat.not_lt_zero i)|exact Same.mk (agsEqv_refl _)|exact sw),?_⟩)
 trivial
theorem w_t15:(T.needs nd_t15 (T.ret [Ar.c (D.bool ((20000:Int)==(20000:Int)&&((20000:Int)==(20000:Int)&&true)))])).wp (fun rs=>rsEqv rs [rB true]):=by
 refine T.needs_wp all_t15 ?_
 exact rsEqv_refl _
def dom15:DomF
 |[]=>some ([],[rB true])
 |_=>none
theorem C15:FOK Tryz.prog G0 gw 13 dom15:=by
 intro ags p r hd hp κ w xs hw hl hG hx
 unfold dom15 at hd
 split at hd
 ·simp only[Option.some.injEq,Prod.mk.injEq]at hd
  obtain⟨rfl,rfl⟩:=hd
  exact fokX_fin mixed gw_stable (sl:=[v17c,v53c,v28c,v35c,v80,v81,v82]) ⟨S17c,S53c,S28c,S35c,S80,S81,S82,trivial⟩ Tryz.func13 hw hl hG hx (agsEqv_refl _) rfl t15 w_t15
 ·cases hd
theorem S15:SumOK Tryz.prog G0 gw 13 (fokSm dom15):=fok_sum Tryz.func13 rfl C15
end Go.Pl
end
section
set_option maxRecDepth 100000
namespace Go.Pl
open Go.Gd
open Go.V Go.Proofs
namespace M
end M
def tr27(q_sc:Bool)(sc:List Scale)(new:Int):T (List Ar):=
  T.ret [Ar.c (D.bool (decide ((Nat.cast (R:=Int) (List.length sc))≤(6:Int))))]
theorem t27(q_sc:Bool)(sc:List Scale)(new:Int):runFnX Tryz.prog G0 (lookS []) (fun _=>[]) [] 1 40 3 14 Tryz.f14 [.agg [.sl q_sc sc.length 4 (eSc.F sc),dI new]] =
  tr27 q_sc sc new:=by kernel_rfl
def tr29(q_sc:Bool)(sc:List Scale)(new:Int):T (List Ar):=
  T.need ((0:Nat)+List.length sc≤(1000000:Nat)) (T.need ((0:Nat)+List.length sc≤(0:Nat)+List.length sc) (T.ret [Ar.agg [D.sl true ((0:Nat)+List.length sc) (4:Nat) (joinF (0:Nat) (fun(i j:Nat)=>List.getD [] (i*(4:Nat)+j) D.nilp) (Enc.F eSc sc)),D.int IntKind.i64 new]]))
theorem t29(q_sc:Bool)(sc:List Scale)(new:Int):runFnX Tryz.prog G0 (lookS []) (fun _=>[]) [] 1 40 3 16 Tryz.f16 [.agg [.sl q_sc sc.length 4 (eSc.F sc),dI new]] =
  tr29 q_sc sc new:=by kernel_rfl
theorem w29(q:Bool)(sc:List Scale)(nw:Int)(h:sc.length≤100000):(tr29 q sc nw).wp (fun rs=>rsEqv rs [.agg [.sl true sc.length 4 (eSc.F sc),dI nw]]):=by
 unfold tr29
 refine⟨by omega,Nat.le_refl _,?_⟩
 simp only[Nat.zero_add,join0]
 exact rsEqv_refl _
def dom27:DomF
 |[.agg [.sl _ n_sc st_sc F_sc,.int .i64 new]]=>(match Nat.beq st_sc 4 with
  |true=>some ([eSc.Is n_sc F_sc],[rB (decide (((eSc.list n_sc F_sc).length:Int)≤6))])
  |_=>none)
 |_=>none
theorem C27:FOK Tryz.prog G0 gw 14 dom27:=by
 intro ags p r hd hp κ w xs hw hl hG hx
 unfold dom27 at hd
 split at hd
 ·rename_i q_sc n_sc st_sc F_sc new
  split at hd
  ·rename_i hst
   have g1:=hst
   have g1:=Nat.eq_of_beq_eq_true g1
   subst g1
   simp only[Option.some.injEq,Prod.mk.injEq]at hd
   obtain⟨rfl,rfl⟩:=hd
   obtain⟨hI_sc,hp⟩:=hp
   have heq:agsEqv [.agg [.sl q_sc n_sc 4 F_sc,.int .i64 new]] [.agg [.sl q_sc (eSc.list n_sc F_sc).length 4 (eSc.F (eSc.list n_sc F_sc)),.int .i64 new]]:=⟨⟨eSc.to id hI_sc,rfl,trivial⟩,trivial⟩
   have len_sc:(eSc.list n_sc F_sc).length=n_sc:=eSc.list_len
   generalize eSc.list n_sc F_sc=sc at *
   subst len_sc
   exact fokX_fin mixed gw_stable (sl:=[]) trivial Tryz.func14 hw hl hG hx heq rfl (t27 _ _ _) (rsEqv_refl _)
  ·cases hd
 ·cases hd
theorem S27:SumOK Tryz.prog G0 gw 14 (fokSm dom27):=fok_sum Tryz.func14 rfl C27
def dom29:DomF
 |[.agg [.sl _ n_sc st_sc F_sc,.int .i64 new]]=>(match Nat.beq st_sc 4 with
  |true=>some ([eSc.Is n_sc F_sc,(eSc.list n_sc F_sc).length≤100000],[.agg [.sl true (eSc.list n_sc F_sc).length 4 (eSc.F (eSc.list n_sc F_sc)),dI new]])
  |_=>none)
 |_=>none
theorem C29:FOK Tryz.prog G0 gw 16 dom29:=by
 intro ags p r hd hp κ w xs hw hl hG hx
 unfold dom29 at hd
 split at hd
 ·rename_i q_sc n_sc st_sc F_sc new
  split at hd
  ·rename_i hst
   have g1:=hst
   have g1:=Nat.eq_of_beq_eq_true g1
   subst g1
   simp only[Option.some.injEq,Prod.mk.injEq]at hd
   obtain⟨rfl,rfl⟩:=hd
   obtain⟨hI_sc,hp⟩:=hp
   have heq:agsEqv [.agg [.sl q_sc n_sc 4 F_sc,.int .i64 new]] [.agg [.sl q_sc (eSc.list n_sc F_sc).length 4 (eSc.F (eSc.list n_sc F_sc)),.int .i64 new]]:=⟨⟨eSc.to id hI_sc,rfl,trivial⟩,trivial⟩
   have len_sc:(eSc.list n_sc F_sc).length=n_sc:=eSc.list_len
   generalize eSc.list n_sc F_sc=sc at *
   subst len_sc
   exact fokX_fin mixed gw_stable (sl:=[]) trivial Tryz.func16 hw hl hG hx heq rfl (t29 _ _ _) (w29 _ _ _ hp.1)
  ·cases hd
 ·cases hd
theorem S29:SumOK Tryz.prog G0 gw 16 (fokSm dom29):=fok_sum Tryz.func16 rfl C29
end Go.Pl
end
section
set_option maxRecDepth 100000
namespace Go.Tx
open Go.Gd
open Go.V Go.Proofs Go.Lib
open Go.RowKit (Below)
theorem to4{q:Bool}{n st:Nat}{F:Nat→Nat→D}(hst:(Nat.beq st 4||Nat.beq n 0)=true)(hI:Go.Pl.eSc.Is n F):(D.sl q n st F).eqv (.sl q (Go.Pl.eSc.list n F).length 4 (Go.Pl.eSc.F (Go.Pl.eSc.list n F))):=by
 rw[Bool.or_eq_true]at hst
 rcases hst with h|h
 ·have h:=Nat.eq_of_beq_eq_true h
  subst h
  exact Go.Pl.eSc.to (q:=q) (q':=q) id hI
 ·have h:=Nat.eq_of_beq_eq_true h
  subst h
  exact⟨id,by simp[Enc.list],fun h=>absurd h (Nat.lt_irrefl 0),fun i j hi=>absurd hi (Nat.not_lt_zero i)⟩
def dom60r:DomF
 |[.agg [.sl q_sc n_sc st_sc F_sc,.int .i64 new]]=>(match (Nat.beq st_sc 4||Nat.beq n_sc 0)with
  |true=>some ([Go.Pl.eSc.Is n_sc F_sc,(Go.Pl.eSc.list n_sc F_sc).length≤100000],Go.Pl.resP (Go.Pl.M.checkSys (Go.Pl.eSc.list n_sc F_sc) new))
  |_=>none)
 |_=>none
def v60r:Nat×Sm:=(60,fokSm dom60r)
theorem C60r:FOK Tryz.prog G0 gw 60 dom60r:=by
 intro ags p r hd hp κ w xs hw hl hG hx
 unfold dom60r at hd
 split at hd
 ·rename_i q_sc n_sc st_sc F_sc new
  split at hd
  ·rename_i hst
   have gz_sc:=hst
   simp only[Option.some.injEq,Prod.mk.injEq]at hd
   obtain⟨rfl,rfl⟩:=hd
   obtain⟨hI_sc,hp⟩:=hp
   have heq:agsEqv [.agg [.sl q_sc n_sc st_sc F_sc,.int .i64 new]] [.agg [.sl q_sc (Go.Pl.eSc.list n_sc F_sc).length 4 (Go.Pl.eSc.F (Go.Pl.eSc.list n_sc F_sc)),.int .i64 new]]:=⟨⟨to4 gz_sc hI_sc,rfl,trivial⟩,trivial⟩
   generalize Go.Pl.eSc.list n_sc F_sc=sc at *
   exact fokX_fin mixed gw_stable (sl:=[Go.Pl.v103,Go.Pl.v104,Go.Pl.v105,Go.Pl.v106]) ⟨Go.Pl.S103,Go.Pl.S104,Go.Pl.S105,Go.Pl.S106,trivial⟩ Tryz.func60 hw hl hG hx heq rfl (Go.Pl.t33 _ _ _) (Go.Pl.w33 _ _ _ hp.1)
  ·cases hd
 ·cases hd
theorem S60r:SumOK Tryz.prog G0 gw 60 (fokSm dom60r):=fok_sum Tryz.func60 rfl C60r
def dom21r:DomF
 |[.agg [.sl q_sc n_sc st_sc F_sc,.int .i64 new]]=>(match (Nat.beq st_sc 4||Nat.beq n_sc 0)with
  |true=>some ([Go.Pl.eSc.Is n_sc F_sc,(Go.Pl.eSc.list n_sc F_sc).length≤100000],[rI (Go.Pl.M.checkSys (Go.Pl.eSc.list n_sc F_sc) new).2])
  |_=>none)
 |_=>none
def v21r:Nat×Sm:=(21,fokSm dom21r)
theorem C21r:FOK Tryz.prog G0 gw 21 dom21r:=by
 intro ags p r hd hp κ w xs hw hl hG hx
 unfold dom21r at hd
 split at hd
 ·rename_i q_sc n_sc st_sc F_sc new
  split at hd
  ·rename_i hst
   have gz_sc:=hst
   simp only[Option.some.injEq,Prod.mk.injEq]at hd
   obtain⟨rfl,rfl⟩:=hd
   obtain⟨hI_sc,hp⟩:=hp
   have heq:agsEqv [.agg [.sl q_sc n_sc st_sc F_sc,.int .i64 new]] [.agg [.sl q_sc (Go.Pl.eSc.list n_sc F_sc).length 4 (Go.Pl.eSc.F (Go.Pl.eSc.list n_sc F_sc)),.int .i64 new]]:=⟨⟨to4 gz_sc hI_sc,rfl,trivial⟩,trivial⟩
   generalize Go.Pl.eSc.list n_sc F_sc=sc at *
   exact fokX_fin mixed gw_stable (sl:=[Go.Pl.v36]) ⟨Go.Pl.S36,trivial⟩ Tryz.func21 hw hl hG hx heq rfl (Go.Pl.t30 _ _ _) (Go.Pl.w30 true _ _ hp.1)
  ·cases hd
 ·cases hd
theorem S21r:SumOK Tryz.prog G0 gw 21 (fokSm dom21r):=fok_sum Tryz.func21 rfl C21r
end Go.Tx
end
section
set_option maxRecDepth 100000
namespace Go.Tx
open Go.Gd
open Go.V Go.Proofs Go.Lib
open Go.RowKit (Below)
def semi:ByteArray:=⟨#[59]⟩
abbrev dfC:Go.Pl.Scale:=Go.Pl.eSc.dflt
namespace M
def scL(c:Go.Pl.Scale):List Int:=[c.vol,c.l,c.h,c.least]
def scB(c:Go.Pl.Scale):ByteArray:=joined (scL c)
def fmtS(sc:List Go.Pl.Scale)(new:Int):ByteArray:=join (decimal new::sc.map scB) semi
end M
structure SysOK(sc:List Go.Pl.Scale)(new:Int):Prop where
 new:inI new
 len:sc.length≤6
 sc:∀c,c∈sc→∀v,v∈M.scL c→inI v
theorem lA_scB(c:Go.Pl.Scale):lA (M.scB c)=itoa c.vol++32::(itoa c.l++32::(itoa c.h++32::itoa c.least)):=by
 unfold M.scB M.joined M.scL
 rw[lA_bA]
 simp only[List.map_cons,List.map_nil,join_cons,joinTail,List.flatten_cons,List.flatten_nil,List.append_nil,List.append_assoc,List.cons_append,List.nil_append,List.singleton_append]
theorem scB_size{c:Go.Pl.Scale}(h:∀v,v∈M.scL c→inI v):(M.scB c).size≤88:=joined_size (M.scL c) h
theorem dec_size{n:Int}(h:inI n):(M.decimal n).size≤21:=decimal_size h
theorem fmtS_step{sc:List Go.Pl.Scale}{new:Int}{k:Nat}(h:k<sc.length) :
  M.join (M.decimal new::(sc.map M.scB).take (k+1)) semi=catS (catS (M.join (M.decimal new::(sc.map M.scB).take k) semi) semi) (M.scB (sc.getD k dfC)):=by
 rw[take_push (d:=.empty) (by rw[List.length_map];exact h),←List.cons_append,mjoin_snoc (by simp)]
 congr 1
 rw[List.getD_eq_getElem?_getD,List.getElem?_map,List.getD_eq_getElem?_getD,List.getElem?_eq_getElem h]
 rfl
theorem fmtS_size{sc:List Go.Pl.Scale}{new:Int}(h:SysOK sc new):∀k,k≤sc.length→(M.join (M.decimal new::(sc.map M.scB).take k) semi).size≤21+90*k
 |0,_=>by rw[List.take_zero,mjoin_one];have:=dec_size h.new;omega
 |k+1,hk=>by
  have ih:=fmtS_size h k (by omega)
  have h1:k<sc.length:=by omega
  rw[fmtS_step h1,cat_size,cat_size]
  have:=scB_size (h.sc _ (mem_getD (d:=dfC) h1))
  have e:semi.size=1:=rfl
  omega
theorem four_is(a b c d:ByteArray):eS.Is 4 (joinF 3 (joinF 2 (joinF 1 (joinF 0 nilF (oneS a)) (oneS b)) (oneS c)) (oneS d))∧eS.list 4 (joinF 3 (joinF 2 (joinF 1 (joinF 0 nilF (oneS a)) (oneS b)) (oneS c)) (oneS d))=[a,b,c,d]:=
 ⟨fun i j hi hj=>by
  have hj:j<1:=hj
  obtain rfl:j=0:=by omega
  match i,hi with
  |0,_=>exact D.eqv_refl _
  |1,_=>exact D.eqv_refl _
  |2,_=>exact D.eqv_refl _
  |3,_=>exact D.eqv_refl _,rfl⟩
def tr19r(sc:List Go.Pl.Scale)(new:Int):T (List Ar):=T.need (inI new) (.loop (Int×ByteArray×PUnit) ((0:Int),M.decimal new,PUnit.unit) fun x=>.br (decide (x.1<(sc.length:Int))) (T.needs [0≤x.1,x.1<(sc.length:Int),(x.2.1).size+1≤9223372036854775807,inI (sc.getD x.1.toNat dfC).vol,(catS x.2.1 semi).size+(M.decimal (sc.getD x.1.toNat dfC).vol).size≤9223372036854775807,(catS (catS x.2.1 semi) (M.decimal (sc.getD x.1.toNat dfC).vol)).size+1≤9223372036854775807,inI (sc.getD x.1.toNat dfC).l,(catS (catS (catS x.2.1 semi) (M.decimal (sc.getD x.1.toNat dfC).vol)) sp).size+(M.decimal (sc.getD x.1.toNat dfC).l).size≤9223372036854775807,(catS (catS (catS (catS x.2.1 semi) (M.decimal (sc.getD x.1.toNat dfC).vol)) sp) (M.decimal (sc.getD x.1.toNat dfC).l)).size+1≤9223372036854775807,inI (sc.getD x.1.toNat dfC).h,(catS (catS (catS (catS (catS x.2.1 semi) (M.decimal (sc.getD x.1.toNat dfC).vol)) sp) (M.decimal (sc.getD x.1.toNat dfC).l)) sp).size+(M.decimal (sc.getD x.1.toNat dfC).h).size≤9223372036854775807,(catS (catS (catS (catS (catS (catS x.2.1 semi) (M.decimal (sc.getD x.1.toNat dfC).vol)) sp) (M.decimal (sc.getD x.1.toNat dfC).l)) sp) (M.decimal (sc.getD x.1.toNat dfC).h)).size+1≤9223372036854775807,inI (sc.getD x.1.toNat dfC).least,(catS (catS (catS (catS (catS (catS (catS x.2.1 semi) (M.decimal (sc.getD x.1.toNat dfC).vol)) sp) (M.decimal (sc.getD x.1.toNat dfC).l)) sp) (M.decimal (sc.getD x.1.toNat dfC).h)) sp).size+(M.decimal (sc.getD x.1.toNat dfC).least).size≤9223372036854775807] (.ret (.inl (w64 (x.1+1),catS (catS (catS (catS (catS (catS (catS (catS x.2.1 semi) (M.decimal (sc.getD x.1.toNat dfC).vol)) sp) (M.decimal (sc.getD x.1.toNat dfC).l)) sp) (M.decimal (sc.getD x.1.toNat dfC).h)) sp) (M.decimal (sc.getD x.1.toNat dfC).least),PUnit.unit)))) (.ret (.inr [rS x.2.1])))
theorem t19r(q_sc:Bool)(sc:List Go.Pl.Scale)(new:Int):runFnX Tryz.prog G0 (lookS [v52]) (fun _=>[(3,[.slot 4 (.int .i64),.slot 3 .str],none)]) [] 0 60 3 19 Tryz.f19 [.agg [.sl q_sc sc.length 4 (Go.Pl.eSc.F sc),dI new]]=tr19r sc new:=by kernel_rfl
theorem chain_eq(s:ByteArray)(c:Go.Pl.Scale):catS (catS (catS (catS (catS (catS (catS (catS s semi) (M.decimal c.vol)) sp) (M.decimal c.l)) sp) (M.decimal c.h)) sp) (M.decimal c.least)=catS (catS s semi) (M.scB c):=by
 apply lA_inj
 have e:lA sp=[32]:=rfl
 simp only[lA_cat,lA_scB,e]
 unfold M.decimal
 simp only[lA_bA,List.append_assoc,List.singleton_append,List.cons_append,List.nil_append]
theorem w19r(sc:List Go.Pl.Scale)(new:Int)(h:SysOK sc new):(tr19r sc new).wp (fun rs=>rsEqv rs [rS (M.fmtS sc new)]):=by
 have hl:=h.len
 refine⟨h.new,?_⟩
 refine Go.Bl.range_wp (n:=sc.length) (fun k s=>s.1=M.join (M.decimal new::(sc.map M.scB).take k) semi) (by show M.decimal new=_;rw[List.take_zero,mjoin_one]) ?_
 rintro k ⟨s,u⟩ hk hI
 have hI:s=_:=hI
 have hsz:s.size≤21+90*k:=by rw[hI];exact fmtS_size h k hk
 have sp1:sp.size=1:=rfl
 have se1:semi.size=1:=rfl
 refine⟨fun hb=>?_,fun hb=>?_⟩
 ·have hlt:(k:Int)<sc.length:=of_decide_eq_true hb
  have hk1:k<sc.length:=by omega
  have hc:=h.sc _ (mem_getD (d:=dfC) hk1)
  have i0:inI (sc.getD k dfC).vol:=hc _ (by simp[M.scL])
  have i1:inI (sc.getD k dfC).l:=hc _ (by simp[M.scL])
  have i2:inI (sc.getD k dfC).h:=hc _ (by simp[M.scL])
  have i3:inI (sc.getD k dfC).least:=hc _ (by simp[M.scL])
  have z0:=dec_size i0
  have z1:=dec_size i1
  have z2:=dec_size i2
  have z3:=dec_size i3
  have q1:(catS s semi).size=s.size+1:=by rw[cat_size,se1]
  have q2:(catS (catS s semi) (M.decimal (sc.getD k dfC).vol)).size=(catS s semi).size+(M.decimal (sc.getD k dfC).vol).size:=by rw[cat_size]
  have q3:(catS (catS (catS s semi) (M.decimal (sc.getD k dfC).vol)) sp).size=(catS (catS s semi) (M.decimal (sc.getD k dfC).vol)).size+1:=by rw[cat_size,sp1]
  have q4:(catS (catS (catS (catS s semi) (M.decimal (sc.getD k dfC).vol)) sp) (M.decimal (sc.getD k dfC).l)).size=(catS (catS (catS s semi) (M.decimal (sc.getD k dfC).vol)) sp).size+(M.decimal (sc.getD k dfC).l).size:=by rw[cat_size]
  have q5:(catS (catS (catS (catS (catS s semi) (M.decimal (sc.getD k dfC).vol)) sp) (M.decimal (sc.getD k dfC).l)) sp).size=(catS (catS (catS (catS s semi) (M.decimal (sc.getD k dfC).vol)) sp) (M.decimal (sc.getD k dfC).l)).size+1:=by rw[cat_size,sp1]
  have q6:(catS (catS (catS (catS (catS (catS s semi) (M.decimal (sc.getD k dfC).vol)) sp) (M.decimal (sc.getD k dfC).l)) sp) (M.decimal (sc.getD k dfC).h)).size=(catS (catS (catS (catS (catS s semi) (M.decimal (sc.getD k dfC).vol)) sp) (M.decimal (sc.getD k dfC).l)) sp).size+(M.decimal (sc.getD k dfC).h).size:=by rw[cat_size]
  have q7:(catS (catS (catS (catS (catS (catS (catS s semi) (M.decimal (sc.getD k dfC).vol)) sp) (M.decimal (sc.getD k dfC).l)) sp) (M.decimal (sc.getD k dfC).h)) sp).size=(catS (catS (catS (catS (catS (catS s semi) (M.decimal (sc.getD k dfC).vol)) sp) (M.decimal (sc.getD k dfC).l)) sp) (M.decimal (sc.getD k dfC).h)).size+1:=by rw[cat_size,sp1]
  refine⟨by show(0:Int)≤k;omega,hlt,by show s.size+1≤_;omega,i0,by show(catS s semi).size+(M.decimal (sc.getD k dfC).vol).size≤_;omega,by show(catS (catS s semi) (M.decimal (sc.getD k dfC).vol)).size+1≤_;omega,i1,by show(catS (catS (catS s semi) (M.decimal (sc.getD k dfC).vol)) sp).size+(M.decimal (sc.getD k dfC).l).size≤_;omega,by show(catS (catS (catS (catS s semi) (M.decimal (sc.getD k dfC).vol)) sp) (M.decimal (sc.getD k dfC).l)).size+1≤_;omega,i2,by show(catS (catS (catS (catS (catS s semi) (M.decimal (sc.getD k dfC).vol)) sp) (M.decimal (sc.getD k dfC).l)) sp).size+(M.decimal (sc.getD k dfC).h).size≤_;omega,by show(catS (catS (catS (catS (catS (catS s semi) (M.decimal (sc.getD k dfC).vol)) sp) (M.decimal (sc.getD k dfC).l)) sp) (M.decimal (sc.getD k dfC).h)).size+1≤_;omega,i3,by show(catS (catS (catS (catS (catS (catS (catS s semi) (M.decimal (sc.getD k dfC).vol)) sp) (M.decimal (sc.getD k dfC).l)) sp) (M.decimal (sc.getD k dfC).h)) sp).size+(M.decimal (sc.getD k dfC).least).size≤_;omega,hk1,by show w64 ((k:Int)+1)=_;rw[w64_id (by omega) (by omega)];omega,?_⟩
  show catS (catS (catS (catS (catS (catS (catS (catS s semi) (M.decimal (sc.getD k dfC).vol)) sp) (M.decimal (sc.getD k dfC).l)) sp) (M.decimal (sc.getD k dfC).h)) sp) (M.decimal (sc.getD k dfC).least)=_
  rw[chain_eq,fmtS_step hk1,hI]
 ·have hge:¬(k:Int)<sc.length:=of_decide_eq_false hb
  obtain rfl:k=sc.length:=by omega
  show rsEqv [rS s] _
  rw[hI,List.take_of_length_le (by rw[List.length_map];omega)]
  exact rsEqv_refl _
def dom19r:DomF
 |[.agg [.sl q_sc n_sc st_sc F_sc,.int .i64 new]]=>(match (Nat.beq st_sc 4||Nat.beq n_sc 0)with
  |true=>some ([Go.Pl.eSc.Is n_sc F_sc,SysOK (Go.Pl.eSc.list n_sc F_sc) new],[rS (M.fmtS (Go.Pl.eSc.list n_sc F_sc) new)])
  |_=>none)
 |_=>none
def v19r:Nat×Sm:=(19,fokSm dom19r)
theorem C19r:FOK Tryz.prog G0 gw 19 dom19r:=by
 intro ags p r hd hp κ w xs hw hl hG hx
 unfold dom19r at hd
 split at hd
 ·rename_i q_sc n_sc st_sc F_sc new
  split at hd
  ·rename_i hst
   have gz_sc:=hst
   simp only[Option.some.injEq,Prod.mk.injEq]at hd
   obtain⟨rfl,rfl⟩:=hd
   obtain⟨hI_sc,hp⟩:=hp
   have heq:agsEqv [.agg [.sl q_sc n_sc st_sc F_sc,.int .i64 new]] [.agg [.sl q_sc (Go.Pl.eSc.list n_sc F_sc).length 4 (Go.Pl.eSc.F (Go.Pl.eSc.list n_sc F_sc)),.int .i64 new]]:=⟨⟨to4 gz_sc hI_sc,rfl,trivial⟩,trivial⟩
   generalize Go.Pl.eSc.list n_sc F_sc=sc at *
   exact fokX_fin mixed gw_stable (sl:=[v52]) ⟨S52,trivial⟩ Tryz.func19 hw hl hG hx heq rfl (t19r q_sc sc new) (w19r sc new hp.1)
  ·cases hd
 ·cases hd
theorem S19r:SumOK Tryz.prog G0 gw 19 (fokSm dom19r):=fok_sum Tryz.func19 rfl C19r
def tr15r(sc:List Go.Pl.Scale)(new:Int):T (List Ar):=T.need (inI new) (.loop (Int×ByteArray×PUnit) ((0:Int),M.decimal new,PUnit.unit) fun x=>.br (decide (x.1<(sc.length:Int))) (T.needs [0≤x.1,x.1<(sc.length:Int),inI (sc.getD x.1.toNat dfC).vol,(1:Nat)≤1000000,inI (sc.getD x.1.toNat dfC).l,(2:Nat)≤1000000,(1:Nat)≤1,inI (sc.getD x.1.toNat dfC).h,(3:Nat)≤1000000,(2:Nat)≤2,inI (sc.getD x.1.toNat dfC).least,(4:Nat)≤1000000,(3:Nat)≤3,(4:Nat)≤4,eS.Is 4 (joinF 3 (joinF 2 (joinF 1 (joinF 0 nilF (oneS (M.decimal (sc.getD x.1.toNat dfC).vol))) (oneS (M.decimal (sc.getD x.1.toNat dfC).l))) (oneS (M.decimal (sc.getD x.1.toNat dfC).h))) (oneS (M.decimal (sc.getD x.1.toNat dfC).least))),(1:Nat)≤4,(4:Nat)≤900000,(M.join (eS.list 4 (joinF 3 (joinF 2 (joinF 1 (joinF 0 nilF (oneS (M.decimal (sc.getD x.1.toNat dfC).vol))) (oneS (M.decimal (sc.getD x.1.toNat dfC).l))) (oneS (M.decimal (sc.getD x.1.toNat dfC).h))) (oneS (M.decimal (sc.getD x.1.toNat dfC).least)))) sp).size≤1000000000,1+(M.join (eS.list 4 (joinF 3 (joinF 2 (joinF 1 (joinF 0 nilF (oneS (M.decimal (sc.getD x.1.toNat dfC).vol))) (oneS (M.decimal (sc.getD x.1.toNat dfC).l))) (oneS (M.decimal (sc.getD x.1.toNat dfC).h))) (oneS (M.decimal (sc.getD x.1.toNat dfC).least)))) sp).size≤9223372036854775807,x.2.1.size+(catS semi (M.join (eS.list 4 (joinF 3 (joinF 2 (joinF 1 (joinF 0 nilF (oneS (M.decimal (sc.getD x.1.toNat dfC).vol))) (oneS (M.decimal (sc.getD x.1.toNat dfC).l))) (oneS (M.decimal (sc.getD x.1.toNat dfC).h))) (oneS (M.decimal (sc.getD x.1.toNat dfC).least)))) sp)).size≤9223372036854775807] (.ret (.inl (w64 (x.1+1),catS x.2.1 (catS semi (M.join (eS.list 4 (joinF 3 (joinF 2 (joinF 1 (joinF 0 nilF (oneS (M.decimal (sc.getD x.1.toNat dfC).vol))) (oneS (M.decimal (sc.getD x.1.toNat dfC).l))) (oneS (M.decimal (sc.getD x.1.toNat dfC).h))) (oneS (M.decimal (sc.getD x.1.toNat dfC).least)))) sp)),PUnit.unit)))) (.ret (.inr [rS x.2.1])))
theorem t15r(q_sc:Bool)(sc:List Go.Pl.Scale)(new:Int):runFnX Tryz.prog G0 (lookS [v45,v46]) (fun _=>[(3,[.slot 15 (.int .i64),.slot 3 .str],none)]) [] 0 60 3 15 Tryz.f15 [.agg [.sl q_sc sc.length 4 (Go.Pl.eSc.F sc),dI new]]=tr15r sc new:=by kernel_rfl
theorem four_join(c:Go.Pl.Scale):M.join [M.decimal c.vol,M.decimal c.l,M.decimal c.h,M.decimal c.least] sp=M.scB c:=join_dec (M.scL c)
theorem w15r(sc:List Go.Pl.Scale)(new:Int)(h:SysOK sc new):(tr15r sc new).wp (fun rs=>rsEqv rs [rS (M.fmtS sc new)]):=by
 have hl:=h.len
 refine⟨h.new,?_⟩
 refine Go.Bl.range_wp (n:=sc.length) (fun k s=>s.1=M.join (M.decimal new::(sc.map M.scB).take k) semi) (by show M.decimal new=_;rw[List.take_zero,mjoin_one]) ?_
 rintro k ⟨s,u⟩ hk hI
 have hI:s=_:=hI
 have hsz:s.size≤21+90*k:=by rw[hI];exact fmtS_size h k hk
 have se1:semi.size=1:=rfl
 refine⟨fun hb=>?_,fun hb=>?_⟩
 ·have hlt:(k:Int)<sc.length:=of_decide_eq_true hb
  have hk1:k<sc.length:=by omega
  have hc:=h.sc _ (mem_getD (d:=dfC) hk1)
  have i0:inI (sc.getD k dfC).vol:=hc _ (by simp[M.scL])
  have i1:inI (sc.getD k dfC).l:=hc _ (by simp[M.scL])
  have i2:inI (sc.getD k dfC).h:=hc _ (by simp[M.scL])
  have i3:inI (sc.getD k dfC).least:=hc _ (by simp[M.scL])
  have hf:=four_is (M.decimal (sc.getD k dfC).vol) (M.decimal (sc.getD k dfC).l) (M.decimal (sc.getD k dfC).h) (M.decimal (sc.getD k dfC).least)
  have hz:=scB_size hc
  have hj:M.join (eS.list 4 (joinF 3 (joinF 2 (joinF 1 (joinF 0 nilF (oneS (M.decimal (sc.getD k dfC).vol))) (oneS (M.decimal (sc.getD k dfC).l))) (oneS (M.decimal (sc.getD k dfC).h))) (oneS (M.decimal (sc.getD k dfC).least)))) sp=M.scB (sc.getD k dfC):=by rw[hf.2,four_join]
  have hcz:(catS semi (M.scB (sc.getD k dfC))).size=1+(M.scB (sc.getD k dfC)).size:=by rw[cat_size,se1]
  refine⟨by show(0:Int)≤k;omega,hlt,i0,by decide,i1,by decide,Nat.le_refl _,i2,by decide,Nat.le_refl _,i3,by decide,Nat.le_refl _,Nat.le_refl _,hf.1,by decide,by decide,?_⟩
  simp only[Int.toNat_natCast]
  rw[hj]
  refine⟨by omega,by omega,by omega,hk1,by show w64 ((k:Int)+1)=_;rw[w64_id (by omega) (by omega)];omega,?_⟩
  show catS s (catS semi (M.scB (sc.getD k dfC)))=_
  rw[fmtS_step hk1,hI,cat_assoc]
 ·have hge:¬(k:Int)<sc.length:=of_decide_eq_false hb
  obtain rfl:k=sc.length:=by omega
  show rsEqv [rS s] _
  rw[hI,List.take_of_length_le (by rw[List.length_map];omega)]
  exact rsEqv_refl _
def dom15r:DomF
 |[.agg [.sl q_sc n_sc st_sc F_sc,.int .i64 new]]=>(match (Nat.beq st_sc 4||Nat.beq n_sc 0)with
  |true=>some ([Go.Pl.eSc.Is n_sc F_sc,SysOK (Go.Pl.eSc.list n_sc F_sc) new],[rS (M.fmtS (Go.Pl.eSc.list n_sc F_sc) new)])
  |_=>none)
 |_=>none
def v15r:Nat×Sm:=(15,fokSm dom15r)
theorem C15r:FOK Tryz.prog G0 gw 15 dom15r:=by
 intro ags p r hd hp κ w xs hw hl hG hx
 unfold dom15r at hd
 split at hd
 ·rename_i q_sc n_sc st_sc F_sc new
  split at hd
  ·rename_i hst
   have gz_sc:=hst
   simp only[Option.some.injEq,Prod.mk.injEq]at hd
   obtain⟨rfl,rfl⟩:=hd
   obtain⟨hI_sc,hp⟩:=hp
   have heq:agsEqv [.agg [.sl q_sc n_sc st_sc F_sc,.int .i64 new]] [.agg [.sl q_sc (Go.Pl.eSc.list n_sc F_sc).length 4 (Go.Pl.eSc.F (Go.Pl.eSc.list n_sc F_sc)),.int .i64 new]]:=⟨⟨to4 gz_sc hI_sc,rfl,trivial⟩,trivial⟩
   generalize Go.Pl.eSc.list n_sc F_sc=sc at *
   exact fokX_fin mixed gw_stable (sl:=[v45,v46]) ⟨S45,S46,trivial⟩ Tryz.func15 hw hl hG hx heq rfl (t15r q_sc sc new) (w15r sc new hp.1)
  ·cases hd
 ·cases hd
theorem S15r:SumOK Tryz.prog G0 gw 15 (fokSm dom15r):=fok_sum Tryz.func15 rfl C15r
end Go.Tx
end
section
set_option maxRecDepth 100000
namespace Go.Tx
open Go.Gd
open Go.V Go.Proofs Go.Lib
open Go.RowKit (Below)
abbrev Sc:Type:=Go.Pl.Scale
namespace M
def scOf(l:List Int):Sc:=⟨l.getD 0 0,l.getD 1 0,l.getD 2 0,l.getD 3 0⟩
def partC(p:ByteArray):Option Sc:=cond (decide ((words p 32).length=4)) (match numbers (words p 32)with|some l=>some (scOf l)|none=>none) none
def partsC:List ByteArray→Option (List Sc)
 |[]=>some []
 |p::r=>match partC p,partsC r with|some c,some l=>some (c::l)|_,_=>none
def parseS(s:ByteArray):Int×List Sc×Int:=match words s 59 with
 |p::r=>(match number p 9 with
  |some n=>(match partsC r with
   |some l=>cond (decide ((Go.Pl.M.checkSys l n).2=0)) (0,l,n) ((Go.Pl.M.checkSys l n).2,[],0)
   |none=>(7,[],0))
  |none=>(7,[],0))
 |[]=>(7,[],0)
end M
theorem partsC_snoc:∀(w:List ByteArray) (s:ByteArray),M.partsC (w++ [s])=(match M.partsC w,M.partC s with|some l,some c=>some (l++ [c])|_,_=>none)
 |[],s=>by
  show(match M.partC s,some ([]:List Sc)with|some c,some l=>some (c::l)|_,_=>none)=(match some ([]:List Sc),M.partC s with|some l,some c=>some (l++ [c])|_,_=>none)
  cases M.partC s <;>rfl
 |w::r,s=>by
  have ih:=partsC_snoc r s
  show(match M.partC w,M.partsC (r++ [s])with|some c,some l=>some (c::l)|_,_=>none)=(match (match M.partC w,M.partsC r with|some c,some l=>some (c::l)|_,_=>none),M.partC s with|some l,some c=>some (l++ [c])|_,_=>none)
  rw[ih]
  cases M.partC w <;>cases M.partsC r <;>cases M.partC s <;>rfl
theorem partsC_none{w:List ByteArray}{s:ByteArray}(h:s∈w)(hs:M.partC s=none):M.partsC w=none:=by
 induction w with
 |nil=>cases h
 |cons a r ih=>
  show(match M.partC a,M.partsC r with|some c,some l=>some (c::l)|_,_=>none)=none
  rcases List.mem_cons.1 h with rfl|h
  ·rw[hs]
  ·rw[ih h];cases M.partC a <;>rfl
theorem partsC_len:∀{w:List ByteArray} {l:List Sc},M.partsC w=some l→l.length=w.length
 |[],l,h=>by
  have h:some ([]:List Sc)=some l:=h
  simp only[Option.some.injEq]at h
  subst h;rfl
 |a::r,l,h=>by
  have h:(match M.partC a,M.partsC r with|some c,some l=>some (c::l)|_,_=>none)=some l:=h
  cases ha:M.partC a with
  |none=>rw[ha]at h;cases h
  |some x=>
   cases hr:M.partsC r with
   |none=>rw[ha,hr]at h;cases h
   |some z=>
    rw[ha,hr]at h
    simp only[Option.some.injEq]at h
    subst h
    have:=partsC_len hr
    simp only[List.length_cons];omega
abbrev eC4:Enc Sc:=Go.Pl.eSc
abbrev oneC(a b c d:Int):Nat→Nat→D:=fun i j=>List.getD [dI a,dI b,dI c,dI d] (i*4+j) .nilp
theorem firstC(a b c d:Int):eC4.Is 1 (joinF 0 nilF (oneC a b c d))∧eC4.list 1 (joinF 0 nilF (oneC a b c d))=[⟨a,b,c,d⟩]:=
 ⟨fun i j hi hj=>by
  have hj:j<4:=hj
  obtain rfl:i=0:=by omega
  match j,hj with
  |0,_=>exact D.eqv_refl _
  |1,_=>exact D.eqv_refl _
  |2,_=>exact D.eqv_refl _
  |3,_=>exact D.eqv_refl _,rfl⟩
theorem pushC(l:List Sc)(a b c d:Int):eC4.Is (l.length+1) (joinF l.length (eC4.F l) (oneC a b c d))∧eC4.list (l.length+1) (joinF l.length (eC4.F l) (oneC a b c d))=l++ [⟨a,b,c,d⟩]:=
 Enc.push eC4 (a:=⟨a,b,c,d⟩) (fun j hj=>by
  have hj:j<4:=hj
  match j,hj with
  |0,_=>exact D.eqv_refl _
  |1,_=>exact D.eqv_refl _
  |2,_=>exact D.eqv_refl _
  |3,_=>exact D.eqv_refl _) rfl
abbrev XS:Type:=Int×Bool×PUnit.{1}×Int×PUnit.{1}×Int×PUnit.{1}
abbrev YS:Type:=Int×Bool×List Sc×Int×PUnit.{1}×Int×PUnit.{1}
abbrev RS:Type:=(XS ⊕ YS) ⊕ List Ar
def zeroS:Ar:=.agg [.sl false 0 0 nilF,.int .i64 0]
def rndX(x:XS)(ok:Bool)(a b c d:Int):T RS:=T.needs [(1:Nat)≤1000000,eC4.Is 1 (joinF 0 nilF (oneC a b c d)),(1:Nat)≤1] (.ret (.inl (.inr (w64 (x.1+1),ok,eC4.list 1 (joinF 0 nilF (oneC a b c d)),x.2.2.2.1,PUnit.unit,x.2.2.2.2.2.1,PUnit.unit))))
def rndY(y:YS)(ok:Bool)(a b c d:Int):T RS:=T.needs [y.2.2.1.length+1≤1000000,y.2.2.1.length≤y.2.2.1.length,eC4.Is (y.2.2.1.length+1) (joinF y.2.2.1.length (eC4.F y.2.2.1) (oneC a b c d)),y.2.2.1.length+1≤y.2.2.1.length+1] (.ret (.inl (.inr (w64 (y.1+1),ok,eC4.list (y.2.2.1.length+1) (joinF y.2.2.1.length (eC4.F y.2.2.1) (oneC a b c d)),y.2.2.2.1,PUnit.unit,y.2.2.2.2.2.1,PUnit.unit))))
def lpS(n i0:Int)(ok:Bool)(dr:Int)(wT:Int→Bool→(Bool→Int→Int→Int→Int→T RS)→T RS)(eX:Bool→Int→T RS)(eY:Bool→List Sc→Int→T RS):T (List Ar):=
 .loop2 XS YS (.inl (i0,ok,PUnit.unit,dr,PUnit.unit,0,PUnit.unit))
  (fun x=>.br (decide (x.1<n)) (T.needs [0≤x.1,x.1<n] (wT x.1 x.2.1 (rndX x))) (eX x.2.1 x.2.2.2.1))
  (fun y=>.br (decide (y.1<n)) (T.needs [0≤y.1,y.1<n] (wT y.1 y.2.1 (rndY y))) (eY y.2.1 y.2.2.1 y.2.2.2.1))
theorem lpS_wp{S B:Prop}{rest:List ByteArray}{n i0:Int}{ok0:Bool}{dr:Int}{wT:Int→Bool→(Bool→Int→Int→Int→Int→T RS)→T RS}{eX:Bool→Int→T RS}{eY:Bool→List Sc→Int→T RS}{Q:List Ar→Prop}
  (hi:0≤i0) (hi1:i0≤1) (hn:n=i0+rest.length) (hl:rest.length≤900000) (h0:ok0=true∨(ok0=false∧B∧¬S)) (h1:B→Q [zeroS,rI 7])
  (hw:∀k:Nat,k<rest.length→∀(ok:Bool) (next:Bool→Int→Int→Int→Int→T RS) (Q':RS→Prop),(ok=true∨(ok=false∧B∧¬S))→(B→Q' (.inr [zeroS,rI 7])) →
   (∀a b c d,ok=true→M.partC (rest.getD k .empty)=some ⟨a,b,c,d⟩→(next true a b c d).wp Q')→(¬S→B→∀a b c d,(next false a b c d).wp Q')→(wT (i0+k) ok next).wp Q')
  (hX:rest=[]→∀(ok:Bool) (Q':RS→Prop),((ok=true∧ok0=true)∨(ok=false∧B∧¬S))→(∀a,Q a→Q' (.inr a))→(eX ok dr).wp Q')
  (hY:∀(ok:Bool) (l:List Sc) (Q':RS→Prop),l.length=rest.length→((ok=true∧ok0=true∧M.partsC rest=some l)∨(ok=false∧B∧¬S))→(∀a,Q a→Q' (.inr a))→(eY ok l dr).wp Q'):(lpS n i0 ok0 dr wT eX eY).wp Q:=by
 refine⟨fun z=>match z with
  |.inl x=>x.1=i0∧((x.2.1=true∧ok0=true)∨(x.2.1=false∧B∧¬S))∧x.2.2.2.1=dr
  |.inr y=>∃k:Nat,k≤rest.length∧y.1=i0+k∧y.2.2.1.length=k∧y.2.2.2.1=dr∧((y.2.1=true∧ok0=true∧M.partsC (rest.take k)=some y.2.2.1)∨(y.2.1=false∧B∧¬S)),fun z=>match z with|.inl x=>n.toNat-x.1.toNat|.inr y=>n.toNat-y.1.toNat,⟨rfl,h0.imp (fun h=>⟨h,h⟩) id,rfl⟩,?_,?_⟩
 ·rintro ⟨i,ok,u1,dr',u2,z,u3⟩ ⟨hi',hok,hd⟩
  simp only at hi' hok hd
  subst hi' hd
  refine⟨fun hlt=>?_,fun hge=>?_⟩
  ·have hlt:i<n:=of_decide_eq_true hlt
   have h0:0<rest.length:=by omega
   have hw0:=hw 0 h0
   rw[show i+((0:Nat):Int)=i by omega]at hw0
   have hws:w64 (i+1)=i+((1:Nat):Int):=by rw[w64_id (by omega) (by omega)];omega
   have hm:n.toNat-(w64 (i+1)).toNat<n.toNat-i.toNat:=by rw[hws];omega
   refine⟨hi,hlt,hw0 ok _ _ (hok.imp (fun h=>h.1) id) (fun hB=>h1 hB) (fun a b c d ht hp=>?_) (fun hS hB a b c d=>?_)⟩
   ·have hk0:ok0=true:=by
     rcases hok with h|h
     ·exact h.2
     ·rw[h.1]at ht;cases ht
    refine⟨by decide,(firstC a b c d).1,Nat.le_refl _,⟨1,h0,hws,?_,rfl,.inl ⟨rfl,hk0,?_⟩⟩,hm⟩
    ·show(eC4.list 1 _).length=1;rw[Enc.list_len]
    ·show M.partsC (rest.take (0+1))=some (eC4.list 1 _)
     rw[(firstC a b c d).2,take_push (d:=.empty) h0,partsC_snoc,List.take_zero,hp]
     rfl
   ·refine⟨by decide,(firstC a b c d).1,Nat.le_refl _,⟨1,h0,hws,?_,rfl,.inr ⟨rfl,hB,hS⟩⟩,hm⟩
    show(eC4.list 1 _).length=1;rw[Enc.list_len]
  ·have hge:¬i<n:=of_decide_eq_false hge
   exact hX (List.length_eq_zero_iff.1 (by omega)) ok _ hok (fun a h=>h)
 ·rintro ⟨i,ok,l,dr',u2,z,u3⟩ ⟨k,hk,hi',hlk,hd,hI⟩
  simp only at hi' hlk hd hI
  subst hi' hd
  refine⟨fun hlt=>?_,fun hge=>?_⟩
  ·have hlt:i0+(k:Int)<n:=of_decide_eq_true hlt
   have hk1:k<rest.length:=by omega
   have hws:w64 (i0+(k:Int)+1)=i0+((k+1:Nat):Int):=by rw[w64_id (by omega) (by omega)];omega
   have hm:n.toNat-(w64 (i0+(k:Int)+1)).toNat<n.toNat-(i0+(k:Int)).toNat:=by rw[hws];omega
   refine⟨by show(0:Int)≤i0+k;omega,hlt,hw k hk1 ok _ _ (hI.imp (fun h=>h.1) id) (fun hB=>h1 hB) (fun a b c d ht hp=>?_) (fun hS hB a b c d=>?_)⟩
   ·have hlm:ok0=true∧M.partsC (rest.take k)=some l:=by
     rcases hI with h|h
     ·exact h.2
     ·rw[h.1]at ht;cases ht
    refine⟨by show l.length+1≤_;omega,Nat.le_refl _,(pushC l a b c d).1,Nat.le_refl _,⟨k+1,hk1,hws,?_,rfl,.inl ⟨rfl,hlm.1,?_⟩⟩,hm⟩
    ·show(eC4.list (l.length+1) _).length=k+1;rw[Enc.list_len];omega
    ·show M.partsC (rest.take (k+1))=some (eC4.list _ _)
     rw[(pushC l a b c d).2,take_push (d:=.empty) hk1,partsC_snoc,hlm.2,hp]
   ·refine⟨by show l.length+1≤_;omega,Nat.le_refl _,(pushC l a b c d).1,Nat.le_refl _,⟨k+1,hk1,hws,?_,rfl,.inr ⟨rfl,hB,hS⟩⟩,hm⟩
    show(eC4.list (l.length+1) _).length=k+1;rw[Enc.list_len];omega
  ·have hge:¬i0+(k:Int)<n:=of_decide_eq_false hge
   have hk2:k=rest.length:=by omega
   subst hk2
   rw[List.take_length]at hI
   exact hY ok l _ hlk hI (fun a h=>h)
end Go.Tx
end
section
set_option maxRecDepth 100000
namespace Go.Tx
open Go.Gd
open Go.V Go.Proofs Go.Lib
open Go.RowKit (Below)
theorem numB_some{w:ByteArray}(h:(!M.numB w 9)=false):M.number w 9=some (M.numI w 9):=by
 unfold M.numB at h
 unfold M.numI
 cases e:M.number w 9 with
 |none=>rw[e]at h;cases h
 |some n=>rfl
theorem numB_none{w:ByteArray}(h:(!M.numB w 9)=true):M.number w 9=none:=by
 unfold M.numB at h
 cases e:M.number w 9 with
 |none=>rfl
 |some n=>rw[e]at h;cases h
theorem partC_len{p:ByteArray}(h:(M.words p 32).length≠4):M.partC p=none:=by unfold M.partC;rw[decide_eq_false h];rfl
theorem partC_no{p:ByteArray}(h:M.numbers (M.words p 32)=none):M.partC p=none:=by unfold M.partC;rw[h];cases decide ((M.words p 32).length=4) <;>rfl
theorem partC_yes{p:ByteArray}{l:List Int}(h:(M.words p 32).length=4)(hl:M.numbers (M.words p 32)=some l):M.partC p=some (M.scOf l):=by unfold M.partC;rw[decide_eq_true h,hl];rfl
def rp18{α:Type}(p:ByteArray)(no:T α)(k:Bool→Int→Int→Int→Int→T α):T α:=
 T.needs [(0:Int)≤32,(32:Int)<256,p.size≤900000] (.br (((M.words p 32).length:Int) != 4) no
  (T.needs [(0:Int)≤0,0<((M.words p 32).length:Int),(0:Int)≤9,(9:Int)≤18,((M.words p 32).getD 0 .empty).size≤1000000] (.br (!M.numB ((M.words p 32).getD 0 .empty) 9) no
  (T.needs [(0:Int)≤1,1<((M.words p 32).length:Int),(0:Int)≤9,(9:Int)≤18,((M.words p 32).getD 1 .empty).size≤1000000] (.br (!M.numB ((M.words p 32).getD 1 .empty) 9) no
  (T.needs [(0:Int)≤2,2<((M.words p 32).length:Int),(0:Int)≤9,(9:Int)≤18,((M.words p 32).getD 2 .empty).size≤1000000] (.br (!M.numB ((M.words p 32).getD 2 .empty) 9) no
  (T.needs [(0:Int)≤3,3<((M.words p 32).length:Int),(0:Int)≤9,(9:Int)≤18,((M.words p 32).getD 3 .empty).size≤1000000] (.br (!M.numB ((M.words p 32).getD 3 .empty) 9) no
   (k (M.numB ((M.words p 32).getD 3 .empty) 9) (M.numI ((M.words p 32).getD 0 .empty) 9) (M.numI ((M.words p 32).getD 1 .empty) 9) (M.numI ((M.words p 32).getD 2 .empty) 9) (M.numI ((M.words p 32).getD 3 .empty) 9)))))))))))
theorem four_of{α:Type}{l:List α}(h:l.length=4):∃a b c d,l=[a,b,c,d]:=by
 match l,h with
 |[a,b,c,d],_=>exact⟨a,b,c,d,rfl⟩
theorem rp18_wp{α:Type}{p:ByteArray}{no:T α}{k:Bool→Int→Int→Int→Int→T α}{Q:α→Prop}(hs:p.size≤900000)(h1:M.partC p=none→no.wp Q)(h2:∀a b c d,M.partC p=some ⟨a,b,c,d⟩→(k true a b c d).wp Q):(rp18 p no k).wp Q:=by
 have hsz:=words_size p 32
 unfold rp18
 refine⟨by decide,by decide,hs,fun hb=>h1 (partC_len fun e=>?_),fun hb=>?_⟩
 ·rw[e]at hb;exact absurd hb (by decide)
 ·have hl:(M.words p 32).length=4:=by simp at hb;omega
  obtain⟨w0,w1,w2,w3,e⟩:=four_of hl
  have hN:∀w,w∈ [w0,w1,w2,w3]→M.number w 9=none→M.partC p=none:=fun w hw hn=>by
   refine partC_no ?_
   rw[e]
   obtain⟨j,hj,rfl⟩:=(mem_iff (d:=ByteArray.empty)).1 hw
   exact numbers_none (k:=j) hj hn
  have hY:∀l,M.numbers [w0,w1,w2,w3]=some l→M.partC p=some (M.scOf l):=fun l h=>partC_yes hl (by rw[e];exact h)
  rw[e]at hsz ⊢
  have z0:w0.size≤p.size:=hsz 0 (by simp)
  have z1:w1.size≤p.size:=hsz 1 (by simp)
  have z2:w2.size≤p.size:=hsz 2 (by simp)
  have z3:w3.size≤p.size:=hsz 3 (by simp)
  refine⟨by decide,by show(0:Int)<(4:Nat);decide,by decide,by decide,by show w0.size≤_;omega,fun hb=>h1 (hN w0 (by simp) (numB_none hb)),fun b0=>?_⟩
  refine⟨by decide,by show(1:Int)<(4:Nat);decide,by decide,by decide,by show w1.size≤_;omega,fun hb=>h1 (hN w1 (by simp) (numB_none hb)),fun b1=>?_⟩
  refine⟨by decide,by show(2:Int)<(4:Nat);decide,by decide,by decide,by show w2.size≤_;omega,fun hb=>h1 (hN w2 (by simp) (numB_none hb)),fun b2=>?_⟩
  refine⟨by decide,by show(3:Int)<(4:Nat);decide,by decide,by decide,by show w3.size≤_;omega,fun hb=>h1 (hN w3 (by simp) (numB_none hb)),fun b3=>?_⟩
  have b0:(!M.numB w0 9)=false:=b0
  have b1:(!M.numB w1 9)=false:=b1
  have b2:(!M.numB w2 9)=false:=b2
  have b3:(!M.numB w3 9)=false:=b3
  have bt:M.numB w3 9=true:=by
   cases h:M.numB w3 9 with
   |true=>rfl
   |false=>rw[h]at b3;cases b3
  show T.wp (k (M.numB w3 9) (M.numI w0 9) (M.numI w1 9) (M.numI w2 9) (M.numI w3 9)) Q
  rw[bt]
  refine h2 _ _ _ _ (hY [M.numI w0 9,M.numI w1 9,M.numI w2 9,M.numI w3 9] ?_)
  simp only[M.numbers,numB_some b0,numB_some b1,numB_some b2,numB_some b3]
def chE(l:List Sc)(dr:Int):Int:=(Go.Pl.M.checkSys l dr).2
def eX18(ok:Bool)(dr:Int):T RS:=T.needs [eC4.Is 0 nilF,(eC4.list 0 nilF).length≤100000] (.br (chE (eC4.list 0 nilF) dr != 0) (.ret (.inr [zeroS,rI (chE (eC4.list 0 nilF) dr)])) (.ret (.inr [.agg [.sl false 0 0 nilF,dI dr],rI 0])))
def eY18(ok:Bool)(l:List Sc)(dr:Int):T RS:=T.needs [l.length≤l.length,eC4.Is l.length (eC4.F l),(eC4.list l.length (eC4.F l)).length≤100000] (.br (chE (eC4.list l.length (eC4.F l)) dr != 0) (.ret (.inr [zeroS,rI (chE (eC4.list l.length (eC4.F l)) dr)])) (T.needs [l.length≤l.length] (.ret (.inr [.agg [.sl true l.length 4 (eC4.F l),dI dr],rI 0]))))
def noS:T RS:=.ret (.inr [zeroS,rI 7])
def tr18r(s:ByteArray):T (List Ar):=T.needs [(0:Int)≤59,(59:Int)<256,s.size≤900000,(0:Int)≤0,0<((M.words s 59).length:Int),(0:Int)≤9,(9:Int)≤18,((M.words s 59).getD 0 .empty).size≤1000000] (.br (!M.numB ((M.words s 59).getD 0 .empty) 9) (.ret [zeroS,rI 7])
 (lpS (M.words s 59).length 1 (M.numB ((M.words s 59).getD 0 .empty) 9) (M.numI ((M.words s 59).getD 0 .empty) 9) (fun i _ k=>rp18 ((M.words s 59).getD i.toNat .empty) noS k) eX18 eY18))
theorem t18r(s:ByteArray):runFnX Tryz.prog G0 (lookS [v26,v51,v21r]) (fun _=>[(7,[.slot 8 (.int .i64),.slot 6 .bool,.blk 7 [.nsl,.int .i64],.blk 2 [.nsl,.int .i64]],some [.slot 8 (.int .i64),.slot 6 .bool,.blk 7 [.rowE 122 eC4,.int .i64],.blk 2 [.nsl,.int .i64]])]) [] 0 60 3 18 Tryz.f18 [.c (.str s)]=tr18r s:=by kernel_rfl
def resS(p:Int×List Sc×Int):List Ar:=[.agg [.sl false p.2.1.length 4 (eC4.F p.2.1),dI p.2.2],rI p.1]
theorem nilC_to:(D.sl false 0 0 nilF).eqv (.sl false ([]:List Sc).length 4 (eC4.F [])):=
 ⟨id,rfl,fun h=>absurd h (Nat.lt_irrefl 0),fun i j hi=>absurd hi (Nat.not_lt_zero i)⟩
theorem zeroS_to(e:Int):rsEqv [zeroS,rI e] (resS (e,[],0)):=⟨⟨nilC_to,rfl,trivial⟩,D.eqv_refl _,trivial⟩
theorem nilS_res(n:Int):rsEqv [.agg [.sl false 0 0 nilF,dI n],rI 0] (resS (0,[],n)):=⟨⟨nilC_to,rfl,trivial⟩,D.eqv_refl _,trivial⟩
theorem fullS_res(l:List Sc)(n:Int):rsEqv [.agg [.sl true l.length 4 (eC4.F l),dI n],rI 0] (resS (0,l,n)):=
 ⟨⟨⟨fun h=>(by cases h),rfl,fun _=>rfl,fun i j _ _=>D.eqv_refl _⟩,rfl,trivial⟩,D.eqv_refl _,trivial⟩
theorem wordsS_ne(s:ByteArray):∃p rest,M.words s 59=p::rest:=by
 unfold M.words
 cases h:cutL (UInt8.ofNat (59:Int).toNat) (lA s)with
 |nil=>exact absurd h (cutL_ne _ _)
 |cons a r=>exact⟨_,_,rfl⟩
section
variable {s p : ByteArray} {rest : List ByteArray}
theorem parseS_num(h:M.words s 59=p::rest)(hp:M.number p 9=none):M.parseS s=(7,[],0):=by
 unfold M.parseS;simp only[h,hp]
theorem parseS_bad(h:M.words s 59=p::rest)(hr:M.partsC rest=none):M.parseS s=(7,[],0):=by
 unfold M.parseS;simp only[h,hr];cases M.number p 9 <;>rfl
theorem parseS_err{n:Int}{l:List Sc}(h:M.words s 59=p::rest)(hp:M.number p 9=some n)(hr:M.partsC rest=some l)(he:chE l n≠0):M.parseS s=(chE l n,[],0):=by
 unfold M.parseS;simp only[h,hp,hr]
 show cond (decide (chE l n=0)) _ _=_
 rw[decide_eq_false he];rfl
theorem parseS_ok{n:Int}{l:List Sc}(h:M.words s 59=p::rest)(hp:M.number p 9=some n)(hr:M.partsC rest=some l)(he:chE l n=0):M.parseS s=(0,l,n):=by
 unfold M.parseS;simp only[h,hp,hr]
 show cond (decide (chE l n=0)) _ _=_
 rw[decide_eq_true he];rfl
end
theorem w18r(s:ByteArray)(hs:s.size≤80000):(tr18r s).wp (fun rs=>rsEqv rs (resS (M.parseS s))):=by
 obtain⟨p,rest,hW⟩:=wordsS_ne s
 have hmany:=words_many s 59
 have hsz:=words_size s 59
 unfold tr18r
 rw[hW]at hmany hsz ⊢
 have hp:p.size≤s.size:=hsz 0 (by simp)
 have hrs:∀k,k<rest.length→(rest.getD k .empty).size≤s.size:=fun k hk=>hsz (k+1) (by simp only[List.length_cons];omega)
 simp only[List.length_cons]at hmany
 have hpos:(0:Int)<((p::rest).length:Int):=by simp only[List.length_cons];omega
 refine⟨by decide,by decide,by omega,by decide,hpos,by decide,by decide,by show p.size≤_;omega,fun h0=>?_,fun h0=>?_⟩
 ·rw[parseS_num hW (numB_none h0)];exact zeroS_to 7
 ·have h0:(!M.numB p 9)=false:=h0
  have hn:=numB_some h0
  have ht:M.numB p 9=true:=by
   cases h:M.numB p 9 with
   |true=>rfl
   |false=>rw[h]at h0;cases h0
  show T.wp (lpS _ 1 (M.numB p 9) (M.numI p 9) _ _ _) _
  refine lpS_wp (S:=True) (B:=M.parseS s=(7,[],0)) (rest:=rest) (by decide) (by decide) (by simp only[List.length_cons];omega) (by omega) (.inl ht) (fun hB=>?_) (fun k hk ok next Q' hok hB hy hno=>?_) (fun hr ok Q' hok hQ=>?_) (fun ok l Q' hlen hok hQ=>?_)
  ·rw[hB];exact zeroS_to 7
  ·have e:(p::rest).getD ((1:Int)+(k:Int)).toNat .empty=rest.getD k .empty:=by
    rw[show((1:Int)+(k:Int)).toNat=k+1 by omega];rfl
   show T.wp (rp18 ((p::rest).getD ((1:Int)+(k:Int)).toNat .empty) noS next) Q'
   rw[e]
   have:=hrs k hk
   have hok:ok=true:=hok.elim id fun h=>absurd trivial h.2.2
   exact rp18_wp (by omega) (fun hno'=>hB (parseS_bad hW (partsC_none (mem_getD (d:=ByteArray.empty) hk) hno'))) (fun a b c d h=>hy a b c d hok h)
  ·have hr':M.partsC rest=some []:=by rw[hr];rfl
   refine⟨fun i j hi=>absurd hi (Nat.not_lt_zero i),Nat.zero_le _,fun he=>hQ _ ?_,fun he=>hQ _ ?_⟩
   ·have he:(chE [] (M.numI p 9) != 0)=true:=he
    have he:chE [] (M.numI p 9)≠0:=by simpa using he
    rw[parseS_err hW hn hr' he];exact zeroS_to _
   ·have he:(chE [] (M.numI p 9) != 0)=false:=he
    have he:chE [] (M.numI p 9)=0:=by simpa using he
    rw[parseS_ok hW hn hr' he];exact nilS_res _
  ·unfold eY18
   rw[Enc.list_F]
   rcases hok with⟨_,_,hr⟩|⟨_,_,hS⟩
   ·refine⟨Nat.le_refl _,Enc.is_F _ _ _,by omega,fun he=>hQ _ ?_,fun he=>⟨Nat.le_refl _,hQ _ ?_⟩⟩
    ·have he:chE l (M.numI p 9)≠0:=by simpa using he
     rw[parseS_err hW hn hr he];exact zeroS_to _
    ·have he:chE l (M.numI p 9)=0:=by simpa using he
     rw[parseS_ok hW hn hr he];exact fullS_res _ _
   ·exact absurd trivial hS
def dom18r:DomF
 |[.c (.str s)]=>some ([s.size≤80000],resS (M.parseS s))
 |_=>none
def v18r:Nat×Sm:=(18,fokSm dom18r)
theorem C18r:FOK Tryz.prog G0 gw 18 dom18r:=by
 intro ags p r hd hp κ w xs hw hl hG hx
 unfold dom18r at hd
 split at hd
 ·rename_i s
  simp only[Option.some.injEq,Prod.mk.injEq]at hd
  obtain⟨rfl,rfl⟩:=hd
  have heq:agsEqv [.c (.str s)] [.c (.str s)]:=⟨rfl,trivial⟩
  exact fokX_fin mixed gw_stable (sl:=[v26,v51,v21r]) ⟨S26,S51,S21r,trivial⟩ Tryz.func18 hw hl hG hx heq rfl (t18r s) (w18r s hp.1)
 ·cases hd
theorem S18r:SumOK Tryz.prog G0 gw 18 (fokSm dom18r):=fok_sum Tryz.func18 rfl C18r
end Go.Tx
end
section
set_option maxRecDepth 100000
namespace Go.Tx
open Go.Gd
open Go.V Go.Proofs Go.Lib
open Go.RowKit (Below)
def rd2{α:Type}(len:Int)(get:Nat→ByteArray)(no tail:List Int→T α):Nat→Nat→List Int→T α
 |0,i,acc=>.br (decide ((i:Int)<len)) (T.needs [(0:Int)≤i,(i:Int)<len] (wordT (get i) (no acc) .fail)) (tail acc)
 |n+1,i,acc=>.br (decide ((i:Int)<len)) (T.needs [(0:Int)≤i,(i:Int)<len] (wordT (get i) (no acc) (rd2 len get no tail n (i+1) (acc++ [M.atoiN (get i)])))) (tail acc)
theorem rd2_wp{α:Type}{L:List ByteArray}{len:Int}{get:Nat→ByteArray}{no tail:List Int→T α}{Q:α→Prop}(hlen:len=L.length)(hget:∀k,k<L.length→get k=L.getD k .empty)(hs:∀k,k<L.length→(L.getD k .empty).size≤1000000)(h1:M.numbers L=none→∀acc,(no acc).wp Q)(h2:∀l,M.numbers L=some l→(tail l).wp Q) :
  ∀(n i:Nat) (acc:List Int),i+n=L.length→M.numbers (L.take i)=some acc→(rd2 len get no tail n i acc).wp Q
 |0,i,acc,hi,ha=>by
  refine⟨fun h=>?_,fun h=>?_⟩
  ·have:=of_decide_eq_true h;omega
  ·obtain rfl:i=L.length:=by omega
   rw[List.take_length]at ha
   exact h2 acc ha
 |n+1,i,acc,hi,ha=>by
  have hk:i<L.length:=by omega
  refine⟨fun h=>⟨by omega,by omega,?_⟩,fun h=>?_⟩
  ·rw[hget i hk]
   refine wordT_wp (hs i hk) (fun hn=>h1 (numbers_none (k:=i) hk hn) acc) fun m hm hv=>?_
   refine rd2_wp hlen hget hs h1 h2 n (i+1) _ (by omega) ?_
   rw[take_push (d:=.empty) hk,numbers_snoc,ha,hm,hv]
  ·have:=of_decide_eq_false h;omega
def rp17{α:Type}(p:ByteArray)(ok:Bool)(k:Bool→Int→Int→Int→Int→T α):T α:=
 .br ok (T.needs [p.size≤900000] (.br (((M.words p 32).length:Int) != 4) (k false 0 0 0 0)
  (rd2 (M.words p 32).length (fun i=>(M.words p 32).getD i .empty) (fun acc=>k false (acc.getD 0 0) (acc.getD 1 0) (acc.getD 2 0) (acc.getD 3 0)) (fun acc=>k true (acc.getD 0 0) (acc.getD 1 0) (acc.getD 2 0) (acc.getD 3 0)) 4 0 []))) (k false 0 0 0 0)
theorem rp17_wp{α:Type}{p:ByteArray}{ok:Bool}{k:Bool→Int→Int→Int→Int→T α}{Q:α→Prop}(hs:p.size≤900000)(h0:ok=false→∀a b c d,(k false a b c d).wp Q)(h1:M.partC p=none→∀a b c d,(k false a b c d).wp Q)(h2:∀a b c d,ok=true→M.partC p=some ⟨a,b,c,d⟩→(k true a b c d).wp Q):(rp17 p ok k).wp Q:=by
 have hsz:=words_size p 32
 refine⟨fun hok=>⟨hs,fun hb=>h1 (partC_len fun e=>?_) _ _ _ _,fun hb=>?_⟩,fun hok=>h0 hok _ _ _ _⟩
 ·rw[e]at hb;exact absurd hb (by decide)
 ·have hl:(M.words p 32).length=4:=by simp at hb;omega
  refine rd2_wp (L:=M.words p 32) rfl (fun _ _=>rfl) (fun k hk=>by have:=hsz k hk;omega) (fun hn acc=>h1 (partC_no hn) _ _ _ _) (fun l hn=>h2 _ _ _ _ hok (partC_yes hl hn)) 4 0 [] (by omega) ?_
  rw[List.take_zero];rfl
def eX17(ok:Bool)(dr:Int):T RS:=.br (!ok) noS (T.needs [eC4.Is 0 nilF,(eC4.list 0 nilF).length≤100000] (.br (chE (eC4.list 0 nilF) dr != 0) (.ret (.inr [zeroS,rI (chE (eC4.list 0 nilF) dr)])) (.ret (.inr [.agg [.sl false 0 0 nilF,dI dr],rI 0]))))
def eY17(ok:Bool)(l:List Sc)(dr:Int):T RS:=.br (!ok) noS (T.needs [l.length≤l.length,eC4.Is l.length (eC4.F l),(eC4.list l.length (eC4.F l)).length≤100000] (.br (chE (eC4.list l.length (eC4.F l)) dr != 0) (.ret (.inr [zeroS,rI (chE (eC4.list l.length (eC4.F l)) dr)])) (T.needs [l.length≤l.length] (.ret (.inr [.agg [.sl true l.length 4 (eC4.F l),dI dr],rI 0])))))
def cont17(s:ByteArray)(ok:Bool)(dr:Int):T (List Ar):=T.needs [(0:Int)≤1,1≤((M.words s 59).length:Int),((M.words s 59).length:Int)≤((M.words s 59).length:Int)]
 (lpS ((((M.words s 59).length:Int)-1).toNat:Int) 0 ok dr (fun i ok k=>rp17 ((M.words s 59).getD (1+i.toNat) .empty) ok k) eX17 eY17)
def tr17r(s:ByteArray):T (List Ar):=T.needs [s.size≤900000,(0:Int)≤0,(0:Int)≤1,1≤((M.words s 59).length:Int)] (.br ((((1:Int)-0).toNat:Int) != 1) (cont17 s false 0)
 (rd2 (((1:Int)-0).toNat:Int) (fun i=>(M.words s 59).getD (0+i) .empty) (fun acc=>cont17 s false (acc.getD 0 0)) (fun acc=>cont17 s true (acc.getD 0 0)) 1 0 []))
theorem t17r(s:ByteArray):runFnX Tryz.prog G0 (lookS [v24,v47,v45,v48,v60r]) (fun _=>[(5,[.slot 22 (.int .i64),.slot 6 .bool,.blk 5 [.nsl,.int .i64],.blk 2 [.nsl,.int .i64]],some [.slot 22 (.int .i64),.slot 6 .bool,.blk 5 [.rowE 122 eC4,.int .i64],.blk 2 [.nsl,.int .i64]])]) [59] 1 60 6 17 Tryz.f17 [.c (.str s)]=tr17r s:=by kernel_rfl
theorem cont17_wp{s p:ByteArray}{rest:List ByteArray}{ok:Bool}{dr:Int}(hs:s.size≤80000)(hW:M.words s 59=p::rest)(h0:(ok=true∧M.number p 9=some dr)∨(ok=false∧M.number p 9=none)):(cont17 s ok dr).wp (fun rs=>rsEqv rs (resS (M.parseS s))):=by
 have hmany:=words_many s 59
 have hsz:=words_size s 59
 unfold cont17
 rw[hW]at hmany hsz ⊢
 have hrs:∀k,k<rest.length→(rest.getD k .empty).size≤s.size:=fun k hk=>hsz (k+1) (by simp only[List.length_cons];omega)
 simp only[List.length_cons]at hmany
 refine⟨by decide,by show(1:Int)≤((p::rest).length:Int);simp only[List.length_cons];omega,Int.le_refl _,?_⟩
 refine lpS_wp (S:=False) (B:=M.parseS s=(7,[],0)) (rest:=rest) (by decide) (by decide) (by simp only[List.length_cons];omega) (by omega) (h0.imp (fun h=>h.1) fun h=>⟨h.1,parseS_num hW h.2,id⟩) (fun hB=>?_) (fun k hk ok next Q' hok hB hy hno=>?_) (fun hr ok' Q' hok hQ=>?_) (fun ok' l Q' hlen hok hQ=>?_)
 ·rw[hB];exact zeroS_to 7
 ·have e:(p::rest).getD (1+((0:Int)+(k:Int)).toNat) .empty=rest.getD k .empty:=by
   rw[show 1+((0:Int)+(k:Int)).toNat=k+1 by omega];rfl
  show T.wp (rp17 ((p::rest).getD (1+((0:Int)+(k:Int)).toNat) .empty) ok next) Q'
  rw[e]
  have:=hrs k hk
  refine rp17_wp (by omega) (fun hf=>?_) (fun hn=>hno id (parseS_bad hW (partsC_none (mem_getD (d:=ByteArray.empty) hk) hn))) (fun a b c d ht h=>hy a b c d ht h)
  rcases hok with h|h
  ·rw[h]at hf;cases hf
  ·exact hno id h.2.1
 ·have hr':M.partsC rest=some []:=by rw[hr];rfl
  have hbad:M.parseS s=(7,[],0)→(noS).wp Q':=fun hB=>hQ _ (by rw[hB];exact zeroS_to 7)
  refine⟨fun hb=>?_,fun hb=>?_⟩
  ·rcases hok with h|h
   ·rw[h.1]at hb;cases hb
   ·exact hbad h.2.1
  ·have hn:M.number p 9=some dr:=by
    rcases hok with h|h
    ·rcases h0 with g|g
     ·exact g.2
     ·rw[h.2]at g;cases g.1
    ·rw[h.1]at hb;cases hb
   refine⟨fun i j hi=>absurd hi (Nat.not_lt_zero i),Nat.zero_le _,fun he=>hQ _ ?_,fun he=>hQ _ ?_⟩
   ·have he:(chE [] dr != 0)=true:=he
    have he:chE [] dr≠0:=by simpa using he
    rw[parseS_err hW hn hr' he];exact zeroS_to _
   ·have he:(chE [] dr != 0)=false:=he
    have he:chE [] dr=0:=by simpa using he
    rw[parseS_ok hW hn hr' he];exact nilS_res _
 ·unfold eY17
  rw[Enc.list_F]
  refine⟨fun hb=>?_,fun hb=>?_⟩
  ·rcases hok with h|h
   ·rw[h.1]at hb;cases hb
   ·exact hQ _ (by rw[h.2.1];exact zeroS_to 7)
  ·rcases hok with⟨_,hk0,hr⟩|h
   ·have hn:M.number p 9=some dr:=by
     rcases h0 with g|g
     ·exact g.2
     ·rw[hk0]at g;cases g.1
    refine⟨Nat.le_refl _,Enc.is_F _ _ _,by omega,fun he=>hQ _ ?_,fun he=>⟨Nat.le_refl _,hQ _ ?_⟩⟩
    ·have he:chE l dr≠0:=by simpa using he
     rw[parseS_err hW hn hr he];exact zeroS_to _
    ·have he:chE l dr=0:=by simpa using he
     rw[parseS_ok hW hn hr he];exact fullS_res _ _
   ·rw[h.1]at hb;cases hb
theorem w17r(s:ByteArray)(hs:s.size≤80000):(tr17r s).wp (fun rs=>rsEqv rs (resS (M.parseS s))):=by
 obtain⟨p,rest,hW⟩:=wordsS_ne s
 have hsz:=words_size s 59
 rw[hW]at hsz
 have hp:p.size≤s.size:=hsz 0 (by simp)
 have hpos:(1:Int)≤((M.words s 59).length:Int):=by rw[hW];simp only[List.length_cons];omega
 have hg:(M.words s 59).getD (0+0) .empty=p:=by rw[hW];rfl
 refine⟨by omega,by decide,by decide,hpos,fun h=>absurd h (by decide),fun _=>?_⟩
 refine rd2_wp (L:=[p]) rfl (fun k hk=>?_) (fun k hk=>?_) (fun hn acc=>?_) (fun l hl=>?_) 1 0 [] rfl rfl
 ·have hk:k<1:=hk
  obtain rfl:k=0:=by omega
  exact hg
 ·have hk:k<1:=hk
  obtain rfl:k=0:=by omega
  show p.size≤_
  omega
 ·have hn:M.number p 9=none:=by
   cases e:M.number p 9 with
   |none=>rfl
   |some n=>simp only[M.numbers,e]at hn;cases hn
  exact cont17_wp hs hW (.inr ⟨rfl,hn⟩)
 ·cases e:M.number p 9 with
  |none=>simp only[M.numbers,e]at hl;cases hl
  |some n=>
   simp only[M.numbers,e,Option.some.injEq]at hl
   subst hl
   exact cont17_wp hs hW (.inl ⟨rfl,e⟩)
def dom17r:DomF
 |[.c (.str s)]=>some ([s.size≤80000],resS (M.parseS s))
 |_=>none
def v17r:Nat×Sm:=(17,fokSm dom17r)
theorem C17r:FOK Tryz.prog G0 gw 17 dom17r:=by
 intro ags p r hd hp κ w xs hw hl hG hx
 unfold dom17r at hd
 split at hd
 ·rename_i s
  simp only[Option.some.injEq,Prod.mk.injEq]at hd
  obtain⟨rfl,rfl⟩:=hd
  have heq:agsEqv [.c (.str s)] [.c (.str s)]:=⟨rfl,trivial⟩
  exact fokX_fin mixed gw_stable (sl:=[v24,v47,v45,v48,v60r]) ⟨S24,S47,S45,S48,S60r,trivial⟩ Tryz.func17 hw hl hG hx heq rfl (t17r s) (w17r s hp.1)
 ·cases hd
theorem S17r:SumOK Tryz.prog G0 gw 17 (fokSm dom17r):=fok_sum Tryz.func17 rfl C17r
end Go.Tx
end
section
set_option maxRecDepth 100000
namespace Go.Tx
open Go.Gd
open Go.V Go.Proofs Go.Lib
open Go.RowKit (Below)
namespace M
def eqC(a b:Sc):Bool:=a.vol==b.vol&&(a.l==b.l&&(a.h==b.h&&true)&&(a.least==b.least&&true))
def eqLC(a b:List Sc):Nat→Nat→Bool
 |0,_=>true
 |n+1,i=>cond (eqC (a.getD i dfC) (b.getD i dfC)) (eqLC a b n (i+1)) false
def sameS(a:List Sc)(n:Int)(b:List Sc)(m:Int):Bool:=cond (n != m) false (cond ((a.length:Int) != (b.length:Int)) false (eqLC a b a.length 0))
end M
theorem eqC_refl(a:Sc):M.eqC a a=true:=by unfold M.eqC;simp
theorem eqLC_refl(a:List Sc):∀n i,M.eqLC a a n i=true
 |0,_=>rfl
 |n+1,i=>by
  show cond (M.eqC (a.getD i dfC) (a.getD i dfC)) (M.eqLC a a n (i+1)) false=true
  rw[eqC_refl,eqLC_refl a n (i+1)];rfl
theorem sameS_refl(a:List Sc)(n:Int):M.sameS a n a n=true:=by
 unfold M.sameS
 rw[eqLC_refl];simp
theorem eqLC_from{a b:List Sc}{n k:Nat}(hk:k<n):M.eqLC a b (n-k) k=cond (M.eqC (a.getD k dfC) (b.getD k dfC)) (M.eqLC a b (n-(k+1)) (k+1)) false:=by
 rw[show n-k=(n-(k+1))+1 by omega]
 rfl
def tr20r(sc:List Sc)(new:Int)(sd:List Sc)(n2:Int):T (List Ar):=.br (new != n2) (.ret [rB false]) (.br ((sc.length:Int) != (sd.length:Int)) (.ret [rB false]) (.loop (Int×PUnit.{1}) ((0:Int),PUnit.unit) fun x=>.br (decide (x.1<(sc.length:Int))) (T.needs [0≤x.1,x.1<(sc.length:Int),0≤x.1,x.1<(sd.length:Int)] (.br (!M.eqC (sc.getD x.1.toNat dfC) (sd.getD x.1.toNat dfC)) (.ret (.inr [rB false])) (.ret (.inl (w64 (x.1+1),PUnit.unit))))) (.ret (.inr [rB true]))))
theorem t20r(q_sc:Bool)(sc:List Go.Pl.Scale)(new:Int)(q_sd:Bool)(sd:List Go.Pl.Scale)(n2:Int):runFnX Tryz.prog G0 (lookS []) (fun _=>[(4,[.slot 5 (.int .i64)],none)]) [] 0 60 3 20 Tryz.f20 [.agg [.sl q_sc sc.length 4 (Go.Pl.eSc.F sc),dI new],.agg [.sl q_sd sd.length 4 (Go.Pl.eSc.F sd),dI n2]]=tr20r sc new sd n2:=by kernel_rfl
theorem w20r(sc:List Sc)(new:Int)(sd:List Sc)(n2:Int)(hl:sc.length≤1000000):(tr20r sc new sd n2).wp (fun rs=>rsEqv rs [rB (M.sameS sc new sd n2)]):=by
 refine⟨fun h1=>?_,fun h1=>⟨fun h2=>?_,fun h2=>?_⟩⟩
 ·unfold M.sameS;rw[h1];exact rsEqv_refl _
 ·unfold M.sameS;rw[h1,h2];exact rsEqv_refl _
 ·have hlen:sc.length=sd.length:=by simp at h2;omega
  have hs:M.sameS sc new sd n2=M.eqLC sc sd sc.length 0:=by unfold M.sameS;rw[h1,h2];rfl
  rw[hs]
  refine Go.Bl.range_wp (n:=sc.length) (fun k _=>M.eqLC sc sd (sc.length-k) k=M.eqLC sc sd sc.length 0) rfl ?_
  rintro k u hk hI
  refine⟨fun hb=>?_,fun hb=>?_⟩
  ·have hlt:(k:Int)<sc.length:=of_decide_eq_true hb
   have hk1:k<sc.length:=by omega
   have hf:=eqLC_from (a:=sc) (b:=sd) hk1
   rw[hI]at hf
   refine⟨by show(0:Int)≤k;omega,hlt,by show(0:Int)≤k;omega,by show(k:Int)<sd.length;omega,fun he=>?_,fun he=>?_⟩
   ·have he:(!M.eqC (sc.getD k dfC) (sd.getD k dfC))=true:=he
    cases e:M.eqC (sc.getD k dfC) (sd.getD k dfC)with
    |true=>rw[e]at he;cases he
    |false=>
     rw[e]at hf
     rw[hf];exact rsEqv_refl _
   ·have he:(!M.eqC (sc.getD k dfC) (sd.getD k dfC))=false:=he
    cases e:M.eqC (sc.getD k dfC) (sd.getD k dfC)with
    |false=>rw[e]at he;cases he
    |true=>
     rw[e]at hf
     exact⟨hk1,by show w64 ((k:Int)+1)=_;rw[w64_id (by omega) (by omega)];omega,hf.symm⟩
  ·have hge:¬(k:Int)<sc.length:=of_decide_eq_false hb
   have e:sc.length-k=0:=by omega
   rw[e]at hI
   rw[←hI];exact rsEqv_refl _
def dom20r:DomF
 |[.agg [.sl q_sc n_sc st_sc F_sc,.int .i64 new],.agg [.sl q_sd n_sd st_sd F_sd,.int .i64 n2]]=>(match (Nat.beq st_sc 4||Nat.beq n_sc 0)&&(Nat.beq st_sd 4||Nat.beq n_sd 0)with
  |true=>some ([Go.Pl.eSc.Is n_sc F_sc,Go.Pl.eSc.Is n_sd F_sd,(Go.Pl.eSc.list n_sc F_sc).length≤100000],[rB (M.sameS (Go.Pl.eSc.list n_sc F_sc) new (Go.Pl.eSc.list n_sd F_sd) n2)])
  |_=>none)
 |_=>none
def v20r:Nat×Sm:=(20,fokSm dom20r)
theorem C20r:FOK Tryz.prog G0 gw 20 dom20r:=by
 intro ags p r hd hp κ w xs hw hl hG hx
 unfold dom20r at hd
 split at hd
 ·rename_i q_sc n_sc st_sc F_sc new q_sd n_sd st_sd F_sd n2
  split at hd
  ·rename_i hst
   rw[Bool.and_eq_true]at hst
   obtain⟨gz_sc,gz_sd⟩:=hst
   simp only[Option.some.injEq,Prod.mk.injEq]at hd
   obtain⟨rfl,rfl⟩:=hd
   obtain⟨hI_sc,hI_sd,hp⟩:=hp
   have heq:agsEqv [.agg [.sl q_sc n_sc st_sc F_sc,.int .i64 new],.agg [.sl q_sd n_sd st_sd F_sd,.int .i64 n2]] [.agg [.sl q_sc (Go.Pl.eSc.list n_sc F_sc).length 4 (Go.Pl.eSc.F (Go.Pl.eSc.list n_sc F_sc)),.int .i64 new],.agg [.sl q_sd (Go.Pl.eSc.list n_sd F_sd).length 4 (Go.Pl.eSc.F (Go.Pl.eSc.list n_sd F_sd)),.int .i64 n2]]:=⟨⟨to4 gz_sc hI_sc,rfl,trivial⟩,⟨to4 gz_sd hI_sd,rfl,trivial⟩,trivial⟩
   generalize Go.Pl.eSc.list n_sc F_sc=sc at *
   generalize Go.Pl.eSc.list n_sd F_sd=sd at *
   exact fokX_fin mixed gw_stable (sl:=[]) trivial Tryz.func20 hw hl hG hx heq rfl (t20r q_sc sc new q_sd sd n2) (w20r sc new sd n2 (by have:=hp.1;omega))
  ·cases hd
 ·cases hd
theorem S20r:SumOK Tryz.prog G0 gw 20 (fokSm dom20r):=fok_sum Tryz.func20 rfl C20r
abbrev cC(l:List Sc):List Sc:=eC4.list l.length (eC4.F l)
theorem cC_eq(l:List Sc):cC l=l:=Enc.list_F eC4 l
def no4:T (List Ar):=.ret [rB false]
def yes4:T (List Ar):=.ret [rB true]
def rest4(sc:List Sc)(new:Int)(s:ByteArray):T (List Ar):=
 T.needs [eC4.Is sc.length (eC4.F sc),(cC sc).length≤100000,eC4.Is (cC sc).length (eC4.F (cC sc)),SysOK (cC (cC sc)) new,s.size≤80000,s.size≤80000,eC4.Is sc.length (eC4.F sc),SysOK (cC sc) new]
 (.br (!(M.fmtS (cC (cC sc)) new).toList==(M.fmtS (cC sc) new).toList) no4 (.br ((M.parseS s).1 != (M.parseS s).1) no4
  (T.needs [eC4.Is (M.parseS s).2.1.length (eC4.F (M.parseS s).2.1),eC4.Is (M.parseS s).2.1.length (eC4.F (M.parseS s).2.1),(cC (M.parseS s).2.1).length≤100000]
  (.br (!M.sameS (cC (M.parseS s).2.1) (M.parseS s).2.2 (cC (M.parseS s).2.1) (M.parseS s).2.2) no4 (T.needs [(M.fmtS (cC (cC sc)) new).size≤80000,eC4.Is sc.length (eC4.F sc),(cC sc).length≤100000]
  (.br (chE (cC sc) new != 0) yes4 (.br ((M.parseS (M.fmtS (cC (cC sc)) new)).1==0) (T.needs [eC4.Is (M.parseS (M.fmtS (cC (cC sc)) new)).2.1.length (eC4.F (M.parseS (M.fmtS (cC (cC sc)) new)).2.1),eC4.Is sc.length (eC4.F sc),(cC (M.parseS (M.fmtS (cC (cC sc)) new)).2.1).length≤100000] (.ret [rB (M.sameS (cC (M.parseS (M.fmtS (cC (cC sc)) new)).2.1) (M.parseS (M.fmtS (cC (cC sc)) new)).2.2 (cC sc) new)])) no4)))))))
def tr4r(sc:List Sc)(new:Int)(s:ByteArray):T (List Ar):=.br (!true) no4 (T.need (eC4.Is sc.length (eC4.F sc)) (.br (!decide (((cC sc).length:Int)≤6)) yes4 (.br (decide ((s.size:Int)>120)) yes4 (rest4 sc new s))))
theorem t4r(q_sc:Bool)(sc:List Go.Pl.Scale)(new:Int)(s:ByteArray):runFnX Tryz.prog G0 (lookS [(13,fokSm Go.Pl.dom15),(14,fokSm Go.Pl.dom27),(16,fokSm Go.Pl.dom29),v15r,v17r,v18r,v19r,v20r,v21r]) (fun _=>[]) [] 0 60 3 4 Tryz.f4 [.agg [.sl q_sc sc.length 4 (Go.Pl.eSc.F sc),dI new],.c (.str s)]=tr4r sc new s:=by kernel_rfl
theorem parts_map:∀(sc:List Sc),(∀c,c∈sc→M.partC (M.scB c)=some c)→M.partsC (sc.map M.scB)=some sc
 |[],_=>rfl
 |c::r,h=>by
  show(match M.partC (M.scB c),M.partsC (r.map M.scB)with|some c,some l=>some (c::l)|_,_=>none)=_
  rw[h c (List.mem_cons_self ..),parts_map r fun d hd=>h d (List.mem_cons_of_mem _ hd)]
theorem not_in_scB{b:UInt8}(h1:b≠45)(h2:¬(48≤b.toNat∧b.toNat≤57))(h3:b≠32)(c:Sc):b∉lA (M.scB c):=by
 rw[lA_scB]
 intro h
 rcases List.mem_append.1 h with h|h
 ·exact not_itoa h1 h2 _ h
 ·rcases List.mem_cons.1 h with h|h
  ·exact h3 h
  ·rcases List.mem_append.1 h with h|h
   ·exact not_itoa h1 h2 _ h
   ·rcases List.mem_cons.1 h with h|h
    ·exact h3 h
    ·rcases List.mem_append.1 h with h|h
     ·exact not_itoa h1 h2 _ h
     ·rcases List.mem_cons.1 h with h|h
      ·exact h3 h
      ·exact not_itoa h1 h2 _ h
theorem words_scB(c:Sc):M.words (M.scB c) 32=[M.decimal c.vol,M.decimal c.l,M.decimal c.h,M.decimal c.least]:=by
 have e32:UInt8.ofNat (32:Int).toNat=32:=rfl
 have n32:∀n,(32:UInt8)∉itoa n:=not_itoa (c:=32) (by decide) (by decide)
 unfold M.words
 rw[e32,lA_scB,cutL_piece _ _ (n32 _),cutL_piece _ _ (n32 _),cutL_piece _ _ (n32 _),cutL_last _ (n32 _)]
 rfl
theorem words_fmtS(sc:List Sc)(new:Int):M.words (M.fmtS sc new) 59=M.decimal new::sc.map M.scB:=by
 have e59:UInt8.ofNat (59:Int).toNat=59:=rfl
 have es:lA semi=[59]:=rfl
 unfold M.words M.fmtS M.join
 rw[e59,lA_bA,es,cut_join 59 _ (by simp) ?_]
 ·rw[List.map_map]
  refine List.map_id'' (fun x=>?_) _
  exact bA_lA x
 ·intro p hp'
  obtain⟨q,hq,rfl⟩:=List.mem_map.1 hp'
  rcases List.mem_cons.1 hq with rfl|hq
  ·unfold M.decimal;rw[lA_bA];exact not_itoa (c:=59) (by decide) (by decide) new
  ·obtain⟨c,_,rfl⟩:=List.mem_map.1 hq
   exact not_in_scB (by decide) (by decide) (by decide) c
theorem within_of{n a b:Int}(h:Go.Pl.M.within n a b=true):a≤n∧n≤b:=by
 unfold Go.Pl.M.within at h
 rw[Bool.and_eq_true]at h
 exact⟨of_decide_eq_true h.1,of_decide_eq_true h.2⟩
theorem first_zero:∀{l:List Int},Go.Pl.M.first l=0→∀x,x∈l→x=0
 |[],_,x,hx=>by cases hx
 |y::l,h,x,hx=>by
  have h:cond (y != 0) y (Go.Pl.M.first l)=0:=h
  by_cases hy:y=0
  ·subst hy
   have h:Go.Pl.M.first l=0:=h
   rcases List.mem_cons.1 hx with rfl|hx
   ·rfl
   ·exact first_zero h x hx
  ·have:(y != 0)=true:=bne_iff_ne.2 hy
   rw[this]at h
   exact absurd h hy
theorem unl_zero{b:Bool}{e:Int}(he:e≠0)(h:Go.Pl.M.unl b e=0):b=true:=by
 cases b with
 |true=>rfl
 |false=>exact absurd h he
theorem bad_zero{f:Nat→Int}:∀{n k:Nat},(Go.Pl.M.badFrom f n k).2=0→∀j,j<n→f (k+j)=0
 |0,_,_,j,hj=>by omega
 |n+1,k,h,j,hj=>by
  have h:(cond (f k != 0) ((k:Int),f k) (Go.Pl.M.badFrom f n (k+1))).2=0:=h
  by_cases hf:f k=0
  ·have e:(f k != 0)=false:=by rw[hf];rfl
   rw[e]at h
   cases j with
   |zero=>exact hf
   |succ j=>
    have:=bad_zero h j (by omega)
    rw[show k+(j+1)=k+1+j by omega]
    exact this
  ·have e:(f k != 0)=true:=bne_iff_ne.2 hf
   rw[e]at h
   exact absurd h hf
structure SmallC(c:Sc):Prop where
 a:0≤c.vol∧c.vol<1000000000
 b:0≤c.l∧c.l<1000000000
 d:0≤c.h∧c.h<1000000000
 e:0≤c.least∧c.least<1000000000
theorem small_of{c:Sc}(h:Go.Pl.M.scaleErr c=0):SmallC c:=by
 have hz:=first_zero h
 have h1:=within_of (unl_zero (by decide) (hz _ (List.mem_cons_self ..)))
 have h2:=hz (Go.Pl.M.rgErr c.l c.h c.vol) (by simp)
 have h3:=within_of (unl_zero (by decide) (hz (Go.Pl.M.unl (Go.Pl.M.within c.least 0 100000) 2) (by simp)))
 have hz2:=first_zero h2
 have h4:=unl_zero (by decide) (hz2 _ (List.mem_cons_self ..))
 rw[Bool.and_eq_true]at h4
 have h5:=within_of h4.1
 have h6:=within_of h4.2
 exact⟨⟨by omega,by omega⟩,⟨by omega,by omega⟩,⟨by omega,by omega⟩,⟨by omega,by omega⟩⟩
theorem chE_zero{sc:List Sc}{new:Int}(h:chE sc new=0):(0≤new∧new<1000000000)∧∀c,c∈sc→SmallC c:=by
 have h:(cond (Go.Pl.M.sysErr0 sc new != 0) ((0:Int),Go.Pl.M.sysErr0 sc new) (Go.Pl.M.badFrom (fun k=>Go.Pl.M.scaleErr (sc.getD k Go.Pl.dfS)) sc.length 0)).2=0:=h
 by_cases h0:Go.Pl.M.sysErr0 sc new=0
 ·have e:(Go.Pl.M.sysErr0 sc new != 0)=false:=by rw[h0];rfl
  rw[e]at h
  have hz:=first_zero h0
  have h1:=within_of (unl_zero (by decide) (hz (Go.Pl.M.unl (Go.Pl.M.within new 0 100000) 2) (by simp)))
  refine⟨⟨by omega,by omega⟩,fun c hc=>?_⟩
  obtain⟨j,hj,rfl⟩:=(mem_iff (d:=Go.Pl.dfS)).1 hc
  have:=bad_zero h j hj
  rw[Nat.zero_add]at this
  exact small_of this
 ·have e:(Go.Pl.M.sysErr0 sc new != 0)=true:=bne_iff_ne.2 h0
  rw[e]at h
  exact absurd h h0
theorem partC_scB{c:Sc}(h:SmallC c):M.partC (M.scB c)=some c:=by
 have hw:=words_scB c
 have hn:M.numbers (M.words (M.scB c) 32)=some [c.vol,c.l,c.h,c.least]:=by
  rw[hw]
  simp only[M.numbers,number_small h.a.1 h.a.2,number_small h.b.1 h.b.2,number_small h.d.1 h.d.2,number_small h.e.1 h.e.2]
 exact partC_yes (by rw[hw];rfl) hn
theorem parse_fmtS{sc:List Sc}{new:Int}(h:chE sc new=0):M.parseS (M.fmtS sc new)=(0,sc,new):=by
 obtain⟨h1,h2⟩:=chE_zero h
 exact parseS_ok (words_fmtS sc new) (number_small h1.1 h1.2) (parts_map sc fun c hc=>partC_scB (h2 c hc)) h
theorem parseS_len(s:ByteArray):(M.parseS s).2.1.length≤s.size+1:=by
 obtain⟨p,rest,hW⟩:=wordsS_ne s
 have hmany:=words_many s 59
 rw[hW]at hmany
 simp only[List.length_cons]at hmany
 have zero:∀e:Int,M.parseS s=(e,[],0)→(M.parseS s).2.1.length≤s.size+1:=fun e h=>by
  rw[h];exact Nat.zero_le _
 cases hp:M.number p 9 with
 |none=>exact zero _ (parseS_num hW hp)
 |some n=>
  cases hr:M.partsC rest with
  |none=>exact zero _ (parseS_bad hW hr)
  |some l=>
   by_cases he:chE l n=0
   ·rw[parseS_ok hW hp hr he]
    have:=partsC_len hr
    show l.length≤_
    omega
   ·exact zero _ (parseS_err hW hp hr he)
theorem fmtS_le{sc:List Sc}{new:Int}(h:SysOK sc new):(M.fmtS sc new).size≤80000:=by
 have hk:=fmtS_size h sc.length (Nat.le_refl _)
 rw[List.take_of_length_le (by rw[List.length_map];omega)]at hk
 have hl:=h.len
 show(M.join (M.decimal new::sc.map M.scB) semi).size≤_
 omega
theorem rest4_wp(sc:List Sc)(new:Int)(s:ByteArray)(h:SysOK sc new)(hs:s.size≤120):(rest4 sc new s).wp (fun rs=>rsEqv rs [rB true]):=by
 have hl:=h.len
 have hp:=parseS_len s
 unfold rest4
 rw[cC_eq,cC_eq sc,cC_eq,cC_eq]
 refine⟨Enc.is_F _ _ _,by omega,Enc.is_F _ _ _,h,by omega,by omega,Enc.is_F _ _ _,h,fun hb=>?_,fun _=>⟨fun hb=>?_,fun _=>⟨Enc.is_F _ _ _,Enc.is_F _ _ _,by omega,fun hb=>?_,fun _=>⟨fmtS_le h,Enc.is_F _ _ _,by omega,fun _=>rsEqv_refl _,fun he=>?_⟩⟩⟩⟩
 ·simp at hb
 ·simp at hb
 ·rw[sameS_refl]at hb;cases hb
 ·have he:chE sc new=0:=by simpa using he
  rw[parse_fmtS he]
  refine⟨fun _=>⟨Enc.is_F _ _ _,Enc.is_F _ _ _,by show sc.length≤_;omega,?_⟩,fun hb=>absurd hb (by show ¬(((0:Int)==0)=false);decide)⟩
  show rsEqv [rB (M.sameS sc new sc new)] _
  rw[sameS_refl];exact rsEqv_refl _
theorem w4r(sc:List Sc)(new:Int)(s:ByteArray)(hn:inI new)(hc:∀c,c∈sc→∀v,v∈M.scL c→inI v):(tr4r sc new s).wp (fun rs=>rsEqv rs [rB true]):=by
 refine⟨fun h=>(by cases h),fun _=>⟨Enc.is_F _ _ _,fun _=>rsEqv_refl _,fun h1=>⟨fun _=>rsEqv_refl _,fun h2=>?_⟩⟩⟩
 rw[cC_eq]at h1
 have h1:(sc.length:Int)≤6:=by simpa using h1
 have h2:¬(s.size:Int)>120:=of_decide_eq_false h2
 exact rest4_wp sc new s ⟨hn,by omega,hc⟩ (by omega)
def dom4r:DomF
 |[.agg [.sl q_sc n_sc st_sc F_sc,.int .i64 new],.c (.str s)]=>(match (Nat.beq st_sc 4||Nat.beq n_sc 0)with
  |true=>some ([Go.Pl.eSc.Is n_sc F_sc,inI new,∀c,c∈(Go.Pl.eSc.list n_sc F_sc)→∀v,v∈M.scL c→inI v],[rB true])
  |_=>none)
 |_=>none
theorem C4r:FOK Tryz.prog G0 gw 4 dom4r:=by
 intro ags p r hd hp κ w xs hw hl hG hx
 unfold dom4r at hd
 split at hd
 ·rename_i q_sc n_sc st_sc F_sc new s
  split at hd
  ·rename_i hst
   have gz_sc:=hst
   simp only[Option.some.injEq,Prod.mk.injEq]at hd
   obtain⟨rfl,rfl⟩:=hd
   obtain⟨hI_sc,hp⟩:=hp
   have heq:agsEqv [.agg [.sl q_sc n_sc st_sc F_sc,.int .i64 new],.c (.str s)] [.agg [.sl q_sc (Go.Pl.eSc.list n_sc F_sc).length 4 (Go.Pl.eSc.F (Go.Pl.eSc.list n_sc F_sc)),.int .i64 new],.c (.str s)]:=⟨⟨to4 gz_sc hI_sc,rfl,trivial⟩,rfl,trivial⟩
   generalize Go.Pl.eSc.list n_sc F_sc=sc at *
   exact fokX_fin mixed gw_stable (sl:=[(13,fokSm Go.Pl.dom15),(14,fokSm Go.Pl.dom27),(16,fokSm Go.Pl.dom29),v15r,v17r,v18r,v19r,v20r,v21r]) ⟨Go.Pl.S15,Go.Pl.S27,Go.Pl.S29,S15r,S17r,S18r,S19r,S20r,S21r,trivial⟩ Tryz.func4 hw hl hG hx heq rfl (t4r q_sc sc new s) (w4r sc new s hp.1 hp.2.1)
  ·cases hd
 ·cases hd
end Go.Tx
end
section
namespace Go.Rw
open Go Go.ChangeShapes Go.WideShapes Go.RowKit Go.ChangeAt
open Go.V (F2 D fullK fullK_cell f2_append f2_len f2_get)
section
variable {H : Type} {enc : TypeId × Value → H} {P : Program} {w : World} {base : Nat} {sp : Nat → Bool} {hd : Bool}
theorem trodAll_below(hl:laidOutB P=true){W W':World}(hb:Below W.heap.size W W'):∀{ts:List TypeId} {vs:List Value} {ds:List (DataW H)} {ps:List MemPlace},
  (∀t∈ts,P.readableRec t=true∧t<P.types.size)→DataW.TrodAll enc P W 0 (fun _=>true) true ts vs ds ps→(∀x∈ps,x.block<W.heap.size) →
  DataW.TrodAll enc P W' 0 (fun b=>decide (b<W.heap.size)) true ts vs ds ps
 |[],_,_,_,_,h,_=>by
  obtain⟨rfl,rfl,rfl⟩:=trodAll_nil h
  exact trodAll_mk0
 |t::ts,_,_,_,hr,h,hlt=>by
  obtain⟨v,vs1,d,ds1,a,b,rfl,rfl,rfl,h1,h2⟩:=trodAll_cons h
  refine⟨a,b,?_,trodAll_below hl hb (fun u hu=>hr u (List.mem_cons_of_mem _ hu)) h2 fun x hx=>hlt x (List.mem_append_right _ hx),rfl⟩
  have ht:=hr t (List.mem_cons_self ..)
  exact Below.trod hl ht.1 ht.2 h1 hb fun x hx=>hlt x (List.mem_append_left _ hx)
theorem law_post{fn:Func}{s:ChangeSpec}{apart fresh handsOn:Bool}{W W':World}{args:Array Value}{ds gs:List (DataW H)}{before:List MemPlace}{tb:TypeId}(hl:laidOutB P=true)
  (hr:∀t∈fn.params.toList,P.readableRec t=true∧t<P.types.size) (hv:s.vars=[]) (hrt:fn.resultTypes= #[tb]) (hbool:P.underlying tb=some .bool)
  (hfn:s.fn H ds={results:=[.lit (.bool true)],args:=ds})
  (hW:DataW.Whole enc P fn.params.toList s.vars apart W args.toList ds gs before) (hb:Below W.heap.size W W'):s.post enc P fn apart fresh handsOn false W args (.bool true) W':=by
 have hW':=hW
 obtain⟨p,q,hA,hV,rfl,_,_⟩:=hW'
 have hlt:∀x∈p++q,x.block<W.heap.size:=fun x hx=>hW.lt x hx
 rw[hv]at hV
 have hgs:gs=[]∧q=[]:=by
  cases gs with
  |nil=>exact⟨rfl,hV⟩
  |cons g r=>exact absurd hV (by intro h;cases h)
 obtain⟨rfl,rfl⟩:=hgs
 have e:s.fn H (ds++ [])={results:=[.lit (.bool true)],args:=ds}:=by rw[List.append_nil];exact hfn
 refine⟨ds,[],_,[],p,[],hW,?_,?_,?_,hb.frame _,fun h=>by cases h⟩
 ·rw[e,hrt]
  exact trodAll_mk1 (shut_bool hbool true)
 ·rw[e]
  exact trodAll_below hl hb hr hA fun x hx=>hlt x (List.mem_append_left _ hx)
 ·rw[e,hv]
  rfl
end
end Go.Rw
end
section
namespace Go.Rw
open Go Go.ChangeShapes Go.WideShapes Go.RowKit Go.ChangeAt
open Go.V (F2 D fullK fullK_cell f2_append f2_len f2_get)
inductive SK where
 |i
 |s
 |sl (sh:List SK)
theorem wf_i64{n:Int}(h:(Lit.int .i64 n).wf=true): -9223372036854775808≤n∧n≤9223372036854775807:=by
 unfold Lit.wf at h
 rw[Bool.and_eq_true]at h
 have h1:IntKind.i64.min≤n:=of_decide_eq_true h.1
 have h2:n≤IntKind.i64.max:=of_decide_eq_true h.2
 rw[show IntKind.i64.min= -9223372036854775808 by decide]at h1
 rw[show IntKind.i64.max=9223372036854775807 by decide]at h2
 exact⟨h1,h2⟩
inductive DG:SK→D→Prop where
 |i (n:Int) (h: -9223372036854775808≤n∧n≤9223372036854775807):DG .i (.int .i64 n)
 |s (t:ByteArray):DG .s (.str t)
 |sl (sh:List SK) (len:Nat) (F:Nat→Nat→D) (h:∀i j k,i<len→sh[j]? = some k→DG k (F i j)):DG (.sl sh) (.sl false len sh.length F)
def MG(w:World)(k:SK)(v:Value):Prop:=∃d,DG k d∧D.rel (fullK w) d v
def sgFs(P:Program)(g:TypeId→Option (List SK)):List Field→Nat→Nat→Option (List SK)
 |[],o,c=>(match Nat.beq o c with|true=>some []|false=>none)
 |f::fs,o,c=>(match Nat.beq f.offset o,g f.type,sgFs P g fs (o+P.cellsOf f.type) c with
  |true,some a,some b=>some (a++b)
  |_,_,_=>none)
def sgArr(l:List SK):Nat→List SK
 |0=>[]
 |n+1=>l++sgArr l n
def sg(P:Program):Nat→TypeId→Option (List SK)
 |0,_=>none
 |k+1,t=>match P.underlying t with
  |some (.int .i64)=>some [.i]
  |some .string=>some [.s]
  |some (.struct fs)=>sgFs P (sg P k) fs.toList 0 (P.cellsOf t)
  |some (.array n e)=>(match sg P k e,Nat.beq (P.cellsOf t) (n*P.cellsOf e)with|some l,true=>some (sgArr l n)|_,_=>none)
  |some (.slice e)=>(match sg P k e with|some sh=>(match Nat.beq (P.cellsOf e) sh.length&&Nat.blt 0 sh.length with|true=>some [.sl sh]|false=>none)|none=>none)
  |_=>none
section
variable {H : Type} {enc : TypeId × Value → H} {P : Program} {w : World} {base : Nat} {sp : Nat → Bool} {hd : Bool}
theorem sgFs_spec{R:SK→Value→Prop}{g:TypeId→Option (List SK)}:∀(fs:List Field) (o c:Nat) (cs:List Value) {l:List SK},sgFs P g fs o c=some l→cs.length=c →
  (∀f∈fs,∀l',g f.type=some l'→F2 R l' ((cs.drop f.offset).take (P.cellsOf f.type)))→F2 R l (cs.drop o)
 |[],o,c,cs,l,h,hl,_=>by
  unfold sgFs at h
  split at h
  ·rename_i hb
   have:o=c:=Nat.eq_of_beq_eq_true hb
   simp only[Option.some.injEq]at h
   subst h
   rw[this,←hl,List.drop_length]
   exact .nil
  ·cases h
 |f::fs,o,c,cs,l,h,hl,hf=>by
  simp only[sgFs]at h
  split at h
  ·rename_i a b hb ha hrest
   have ho:f.offset=o:=Nat.eq_of_beq_eq_true hb
   simp only[Option.some.injEq]at h
   subst h
   have h1:=hf f (List.mem_cons_self ..) a ha
   have h2:=sgFs_spec fs _ c cs hrest hl fun g hg=>hf g (List.mem_cons_of_mem _ hg)
   rw[ho]at h1
   have e:cs.drop o=(cs.drop o).take (P.cellsOf f.type)++(cs.drop o).drop (P.cellsOf f.type):=(List.take_append_drop _ _).symm
   rw[e,List.drop_drop]
   exact f2_append h1 h2
  ·cases h
theorem sgArr_spec{R:SK→Value→Prop}{l:List SK}{c:Nat}:∀(n:Nat) (cs:List Value),cs.length=n*c→(∀i,i<n→F2 R l ((cs.drop (i*c)).take c))→F2 R (sgArr l n) cs
 |0,cs,h,_=>by
  have:cs=[]:=List.length_eq_zero_iff.1 (by simpa using h)
  subst this
  exact .nil
 |n+1,cs,h,hf=>by
  have h0:=hf 0 (by omega)
  rw[Nat.zero_mul,List.drop_zero]at h0
  have hr:=sgArr_spec (c:=c) n (cs.drop c) (by rw[List.length_drop,h,Nat.succ_mul];omega) fun i hi=>by
   have:=hf (i+1) (by omega)
   rw[List.drop_drop,show c+i*c=(i+1)*c by rw[Nat.succ_mul];omega]
   exact this
  rw[←List.take_append_drop c cs]
  exact f2_append h0 hr
theorem trod_sg:∀(k fuel:Nat) (t:TypeId) (cs:List Value) (x:DataW H×List MemPlace) {l:List SK},sg P k t=some l→DataW.trod enc P w base sp hd fuel t cs=some x→F2 (MG w) l cs
 |0,_,_,_,_,_,h,_=>by cases h
 |k+1,fuel,t,cs,x,l,h,hx=>by
  unfold sg at h
  split at h
  ·rename_i ht
   simp only[Option.some.injEq]at h
   subst h
   obtain⟨n,rfl,rfl,hwf⟩:=DataW.trod_int ht hx
   exact .cons ⟨.int .i64 n,.i n (wf_i64 hwf),rfl⟩ .nil
  ·rename_i ht
   simp only[Option.some.injEq]at h
   subst h
   obtain⟨s,rfl,rfl,_⟩:=DataW.trod_string ht hx
   exact .cons ⟨.str s,.s s,rfl⟩ .nil
  ·rename_i fs ht
   obtain⟨xs,n,_,rfl,hl,hlen,hf⟩:=DataW.trod_struct ht hx
   have:=sgFs_spec (P:=P) (R:=MG w) fs.toList 0 (P.cellsOf t) cs h hl (by
    intro f hm l' hl'
    obtain⟨i,hi,hi'⟩:=List.getElem_of_mem hm
    have hgi:fs[i]? = some f:=by rw[←Array.getElem?_toList,List.getElem?_eq_getElem hi,hi']
    have hlt:i<xs.length:=by rw[hlen];exact(Array.getElem?_eq_some_iff.1 hgi).1
    have hy:xs[i]? = some xs[i]:=List.getElem?_eq_getElem hlt
    have:=hf i f hgi
    rw[hy]at this
    exact trod_sg k n f.type _ _ hl' this)
   simpa using this
  ·rename_i n e ht
   split at h
   ·rename_i l' hl' hcb
    simp only[Option.some.injEq]at h
    subst h
    obtain⟨xs,m,_,ex,hlen,hl,hel⟩:=DataW.trod_array ht hx
    have hcz:P.cellsOf t=n*P.cellsOf e:=Nat.eq_of_beq_eq_true hcb
    refine sgArr_spec (c:=P.cellsOf e) n cs (by rw[←hcz];exact hlen) fun i hi=>?_
    have hlt:i<xs.length:=by omega
    have hy:xs[i]? = some xs[i]:=List.getElem?_eq_getElem hlt
    have:=hel i hi
    rw[hy]at this
    exact trod_sg k m e _ _ hl' this
   ·cases h
  ·rename_i e ht
   split at h
   ·rename_i sh hsh
    split at h
    ·rename_i hc
     simp only[Option.some.injEq]at h
     subst h
     rw[Bool.and_eq_true]at hc
     have hn:P.cellsOf e=sh.length:=Nat.eq_of_beq_eq_true hc.1
     have hn0:0<sh.length:=Nat.le_of_ble_eq_true hc.2
     rcases DataW.trod_slice ht hx with⟨h1,_⟩|⟨a,len0,cap0,elems,rest,n',_,h1,_,_,hlc,_,hel,hget,_⟩
     ·rw[h1]
      exact .cons ⟨.sl false 0 sh.length (fun _ _=>.nilp),.sl sh 0 _ (fun i j k hi=>by omega),.inl ⟨rfl,rfl,rfl⟩⟩ .nil
     ·rw[h1]
      rw[hn]at hget
      have each:∀i,i<len0→∀j,j<sh.length→∃d,(∀k',sh[j]? = some k'→DG k' d)∧∃y,w.cell? ((a.add (i*sh.length)).add j)=some y∧D.rel (fullK w) d y:=by
       intro i hi j hj
       have hg:=hget i hi
       have hlt:i<elems.length:=by omega
       rw[List.getElem?_eq_getElem hlt]at hg
       simp only[Option.bind_eq_some_iff]at hg
       obtain⟨cs,hcs,hx⟩:=hg
       have hF:=trod_sg k n' e cs _ hsh hx
       obtain⟨_,hl,hcell⟩:=World.cells?_some hcs
       obtain⟨y,hy,hm⟩:=f2_get hF (i:=j) (List.getElem?_eq_getElem hj)
       obtain⟨d,hd1,hd2⟩:=hm
       have hcj:=hcell j hj
       exact⟨d,fun k' hk'=>by rw[List.getElem?_eq_getElem hj]at hk';cases hk';exact hd1,y,by rw[hcj,hy],hd2⟩
      have spot0:0<len0→a.spot=none:=by
       intro hp
       obtain⟨_,_,y,hy,_⟩:=each 0 hp 0 hn0
       have:=World.cell?_spot hy
       simpa[Addr.add]using this
      refine .cons ⟨.sl false len0 sh.length (fun i j=>if h:i<len0∧j<sh.length then Classical.choose (each i h.1 j h.2)else .nilp),.sl sh len0 _ (fun i j k' hi hk'=>?_),.inr ⟨a,cap0,rfl,hlc,spot0,fun i j hi hj=>?_⟩⟩ .nil
      ·have hj:j<sh.length:=(List.getElem?_eq_some_iff.1 hk').1
       simp only[dif_pos (And.intro hi hj)]
       exact(Classical.choose_spec (each i hi j hj)).1 k' hk'
      ·obtain⟨_,y,hy,hr⟩:=Classical.choose_spec (each i hi j hj)
       have hp:a.spot=none:=spot0 (by omega)
       have e1:(a.add (i*sh.length)).add j=⟨a.block,a.off+i*sh.length+j,none⟩:=by
        obtain⟨b,off,spot⟩:=a
        simp only at hp
        subst hp
        rw[Go.WideShapes.add_plain,Go.WideShapes.add_plain]
       rw[e1]at hy
       refine⟨_,fullK_cell hy,?_⟩
       simp only[dif_pos (And.intro hi hj)]
       exact hr
    ·cases h
   ·cases h
  ·cases h
theorem open_st{r:Reach}{b0:Nat}{t:TypeId}{fs:Array Field}{v:Value}{d:DataW H}{p:List MemPlace}(k:Nat){l:List SK}(ht:P.underlying t=some (.struct fs))(ha:sg P k t=some l)
  (hv:Value.okWide P w r b0 t v) (h:DataW.Trod enc P w base sp hd t v d p):∃cs:List Value,F2 (MG w) l cs∧v=.agg cs.toArray:=by
 obtain⟨cs,rfl,hsz⟩:=okWide_struct ht hv
 obtain⟨fuel,hf⟩:=h
 have hF:F2 (MG w) l cs.toList:=trod_sg k fuel t _ _ ha hf
 exact⟨cs.toList,hF,by rw[Array.toArray_toList]⟩
theorem mg_i{v:Value}(h:MG w .i v):∃n,v=.int .i64 n∧ -9223372036854775808≤n∧n≤9223372036854775807:=by
 obtain⟨d,hd,hr⟩:=h
 cases hd with
 |i n hn=>exact⟨n,hr,hn⟩
theorem mg_sl{sh:List SK}{v:Value}(h:MG w (.sl sh) v):∃(len:Nat) (F:Nat→Nat→D),(D.sl false len sh.length F).rel (fullK w) v∧∀i j k,i<len→sh[j]? = some k→DG k (F i j):=by
 obtain⟨d,hd,hr⟩:=h
 cases hd with
 |sl _ len F hF=>exact⟨len,F,hr,hF⟩
theorem dg_i{d:D}(h:DG .i d):∃n,d=.int .i64 n∧ -9223372036854775808≤n∧n≤9223372036854775807:=by cases h with|i n hn=>exact⟨n,rfl,hn⟩
theorem dg_s{d:D}(h:DG .s d):∃n,d=.str n:=by cases h with|s n=>exact⟨n,rfl⟩
end
end Go.Rw
end
section
namespace Go.Proofs.YtbjimhgjbhlmnaaGreatDoor
open Go Go.ChangeShapes Go.WideShapes Go.ChangeAt Go.RowKit
theorem own:ownKnob Tryz.prog.godebug=none:=by kernel_rfl
theorem laidOut:laidOutB Tryz.prog=true:=by kernel_rfl
def laid7:List (String×DataW Unit):=[("math/bits.deBruijn32tab",Rows.laid_math_bits_deBruijn32tab),("math/bits.deBruijn64tab",Rows.laid_math_bits_deBruijn64tab),("internal/strconv.uint64pow10",Rows.laid_internal_strconv_uint64pow10),("unicode/utf8.acceptRanges",Rows.laid_unicode_utf8_acceptRanges),("strconv.ErrRange",Rows.laid_strconv_ErrRange),("strconv.ErrSyntax",Rows.laid_strconv_ErrSyntax),("unicode/utf8.first",Rows.laid_unicode_utf8_first)]
theorem plain7:laid7.filter (fun x=>x.2.handleName?.isNone)=laid7:=by kernel_rfl
theorem laid_met{W:World}(h:laidMetH Tryz.prog laid7 W):laidMet Tryz.prog laid7 W:=by
 have:=(laidMetH_iff.1 h).1
 rwa [plain7]at this
theorem one_of{W:World}(h:laidMetH Tryz.prog laid7 W)(n:String)(d:DataW Unit)(hf:laid7.filter (fun x=>x.1==n)=[(n,d)]):laidMet Tryz.prog [(n,d)] W:=by
 have:=(laid_met h).filter (fun x=>x.1==n)
 rwa [hf]at this
theorem star: "*" ++ "errors.errorString" = "*errors.errorString" := by decide
theorem row283(u:TypeId)(h:Tryz.prog.typeName? 3 u=some "*errors.errorString"):u=283:=
 typeName_ptr_named (nm:= "errors.errorString") (by rw[star];kernel_rfl) (by kernel_rfl) (by decide) u (by rw[star];exact h)
theorem gin_of_laid{W:World}(h:laidMetH Tryz.prog laid7 W):V.GIn Gd.G0 (V.fullK W):=fun _ _ _ e=>by cases e
theorem err_of{W:World}{n:String}{g:Nat}{text:List UInt8}(hL:laidMet Tryz.prog [(n,.iface "*errors.errorString" (.ptr (.agg [.lit (.string text)])))] W)
  (hg:Tryz.prog.globalNamed n=some g) (ht:(Tryz.prog.globals[g]?).map (·.type)=some 84):Gd.isErr W g:=by
 obtain⟨a0,s0,hv0, -, -, -⟩:=laid_sentinel hL hg ht Tryz.underlying84 row283 Tryz.underlying283 Tryz.underlying285 rfl rfl Tryz.underlying9 (by kernel_rfl) (by kernel_rfl)
 have h0:=World.var?_cell hg hv0 0
 exact⟨_,by simpa using h0,.inr ⟨_,_,rfl⟩⟩
theorem gw_of_laid{W:World}(h:laidMetH Tryz.prog laid7 W)(hsh:W.ShapedOpen Tryz.prog):Gd.gw W where
 tab:=by
  have h1:=one_of h "internal/strconv.uint64pow10" Rows.laid_internal_strconv_uint64pow10 (by kernel_rfl)
  exact Lib.tabIs_of_head (g:=3) (k:=.u64) (zs:=Lib.pow10Tab) (rest:=[]) (by kernel_rfl) (by kernel_rfl) Tryz.underlying276 Tryz.underlying245 (by kernel_rfl) (by kernel_rfl) h1
 syn:=err_of (one_of h "strconv.ErrSyntax" Rows.laid_strconv_ErrSyntax (by kernel_rfl)) (by kernel_rfl) (by kernel_rfl)
 rng:=err_of (one_of h "strconv.ErrRange" Rows.laid_strconv_ErrRange (by kernel_rfl)) (by kernel_rfl) (by kernel_rfl)
 mx:=cell_of_shapedOpen_int (g:=0) (t:=3) (k:=.i64) (zero:= #[.int .i64 0]) hsh (by decide +kernel) (by kernel_rfl) rfl (by kernel_rfl) (by kernel_rfl) Tryz.underlying3
theorem handed_and{H:Type}{enc:TypeId×Value→H}{a:Assume}{C:Checked}{os:Os}{f:FuncId}{fn:Func}{s:ChangeSpec}{conds:List PathCond}{apart fresh handsOn again:Bool}{X:World→Array Value→Prop}
  (hX:∀(w w':World) (args:Array Value),w.heap=w'.heap→X w args→X w' args)
  (own:ownKnob C.prog.godebug=none) (started:os.Started) (noInit:C.prog.inits.idxOf? f=none) (hfn:C.prog.funcs[f]? = some fn)
  (witness:∃(w:World) (tape:Tape) (i:Input),w.os=os∧(w.forCall tape i).Shaped C.prog∧i.vars=[]∧Input.okWide C.prog (w.forCall tape i) .any w.heap.size f i ∧
   ((s.pre enc C.prog fn conds apart (w.forCall tape i).memory i.args∧X (w.forCall tape i).memory i.args)∧sizedMet enc C.prog fn (OpenSpec.ofChange s) apart (w.forCall tape i).memory i.args)∧a.holds C.prog (lone (Frame.enter C.prog f i.args .normal) [] (w.forCall tape i)))
  (contract:∀(W:World) (base:Nat) (args:Array Value) (ds gs:List (DataW H)) (before:List MemPlace),
   (∀(j:Nat) t v,fn.params[j]? = some t→args[j]? = some v→Value.okWide C.prog W .any base t v) →
   DataW.Whole enc C.prog fn.params.toList s.vars apart W args.toList ds gs before →
   W.ShapedOpen C.prog→X W args →
   Calls C.prog f args W fun e W'=>∃v,e=.returned v∧s.post enc C.prog fn apart fresh handsOn again W args v W') :
  ReturnsInHanded a C os f .any (fun w args=>(s.pre enc C.prog fn conds apart w args∧X w args)∧sizedMet enc C.prog fn (OpenSpec.ofChange s) apart w args) (s.post enc C.prog fn apart fresh handsOn again):=by
 refine returnsInHanded_of_calls own started noInit witness ?_
 intro w tape i _ hsh _ hok hpre hholds
 obtain⟨_,_,_,fn',hfn',_,_,_,_,hval⟩:=hok
 have e:fn'=fn:=Option.some.inj (hfn'.symm.trans hfn)
 subst e
 obtain⟨⟨⟨ds,gs,before,hw,hc⟩,hx⟩,hz⟩:=hpre
 have hw':=DataW.Whole.of_heap (w':=w.forCall tape i) (by rfl) hw
 refine(contract (w.forCall tape i) w.heap.size i.args ds gs before hval hw' hsh (hX _ _ _ (by rfl) hx)).mono fun e W' ⟨v,he,hp⟩=>?_
 subst he
 exact ChangeSpec.post_blind hp
theorem door_met(os:Os)(args:Array Value):laidMetH Tryz.prog laid7 ((World.laidAll Tryz.prog os laid7).forCall (fun _ _=>0) ⟨#[],args,[]⟩).memory:=by
 refine laidMetH_of_parts3 (fuel:=8) ?_ (by kernel_rfl) (by kernel_rfl)
 rw[plain7]
 exact laidMet_laidAll args (by kernel_rfl) (by kernel_rfl)
end Go.Proofs.YtbjimhgjbhlmnaaGreatDoor
end
