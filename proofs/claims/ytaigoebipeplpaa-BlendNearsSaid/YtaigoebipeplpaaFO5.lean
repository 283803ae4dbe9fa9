/- The parts of the engines, of their contracts and of the plain laws that the claim rests on: P2, P3, P4, B16, B17, B19, B7, B8, B9, B20, B11_66_1, B11_66_2, B11_66_3, B11_66_4, B11_82_1, B11_82_2, B11_82_3, B11_82_4, B21, B22, B24, B25, B26. -/
import Derived.Test.YtaigoebipeplpaaFO4
set_option linter.unusedVariables false
set_option linter.unusedSimpArgs false
section
namespace Go.Lp
def sm{α:Type}(g:α→Rat):List α→Rat
 |[]=>0
 |a::l=>g a+sm g l
section
variable {α β : Type}
theorem sm_congr{g h:α→Rat}:∀{l:List α},(∀a,a∈l→g a=h a)→sm g l=sm h l:=by
 intro l
 induction l with
 |nil=>intro _;rfl
 |cons a l ih=>intro e;simp only[sm];rw[e a (List.mem_cons_self ..),ih fun b hb=>e b (List.mem_cons_of_mem _ hb)]
theorem sm_append{g:α→Rat}:∀{l k:List α},sm g (l++k)=sm g l+sm g k:=by
 intro l
 induction l with
 |nil=>intro k;simp only[List.nil_append,sm];grind
 |cons a l ih=>intro k;simp only[List.cons_append,sm];rw[ih];grind
theorem sm_add{g h:α→Rat}:∀{l:List α},sm (fun a=>g a+h a) l=sm g l+sm h l:=by
 intro l
 induction l with
 |nil=>simp only[sm];grind
 |cons a l ih=>simp only[sm];rw[ih];grind
theorem sm_smul{k:Rat}{g:α→Rat}:∀{l:List α},sm (fun a=>k*g a) l=k*sm g l:=by
 intro l
 induction l with
 |nil=>simp only[sm];grind
 |cons a l ih=>simp only[sm];rw[ih];grind
theorem sm_zero:∀{l:List α},sm (fun _=>(0:Rat)) l=0:=by
 intro l
 induction l with
 |nil=>rfl
 |cons a l ih=>simp only[sm];rw[ih];grind
theorem sm_comm{F:α→β→Rat}:∀{l:List α} {k:List β},sm (fun a=>sm (F a) k) l=sm (fun b=>sm (fun a=>F a b) l) k:=by
 intro l
 induction l with
 |nil=>intro k;simp only[sm];rw[sm_zero]
 |cons a l ih=>intro k;simp only[sm];rw[ih,sm_add]
theorem sm_le{g h:α→Rat}:∀{l:List α},(∀a,a∈l→g a≤h a)→sm g l≤sm h l:=by
 intro l
 induction l with
 |nil=>intro _;exact Rat.le_refl
 |cons a l ih=>
  intro e
  have h1:=e a (List.mem_cons_self ..)
  have h2:=ih fun b hb=>e b (List.mem_cons_of_mem _ hb)
  simp only[sm]
  grind
theorem sm_perm{g:α→Rat}{l k:List α}(h:l.Perm k):sm g l=sm g k:=by
 induction h with
 |nil=>rfl
 |cons a _ ih=>simp only[sm];rw[ih]
 |swap a b l=>simp only[sm];grind
 |trans _ _ h1 h2=>rw[h1,h2]
theorem D_map{f:α→β→Rat}:∀{rows:List α} {cols:List β},D f rows cols=D (fun(r:β→Rat) c=>r c) (rows.map f) cols:=by
 intro rows
 induction rows with
 |nil=>intro cols;rfl
 |cons r rs ih=>
  intro cols
  simp only[List.map_cons,D]
  exact alt_congr fun c cs _=>by rw[ih]
theorem Dv_swap{u v:β→Rat}{A B:List (β→Rat)}{cols:List β}:D (fun(r:β→Rat) c=>r c) (A++u::v::B) cols= - D (fun(r:β→Rat) c=>r c) (A++v::u::B) cols:=by
 have h0:D (fun(r:β→Rat) c=>r c) (A++(fun c=>u c+v c)::(fun c=>u c+v c)::B) cols=0:=D_twin (fun _=>rfl)
 have h1:=D_lin (f:=fun(r:β→Rat) c=>r c) (u:=u) (v:=v) (w:=fun c=>u c+v c) (a:=1) (b:=1) (fun c=>by grind) (A:=A) (B:=(fun c=>u c+v c)::B) (cols:=cols)
 have h2:=D_lin (f:=fun(r:β→Rat) c=>r c) (u:=u) (v:=v) (w:=fun c=>u c+v c) (a:=1) (b:=1) (fun c=>by grind) (A:=A++ [u]) (B:=B) (cols:=cols)
 have h3:=D_lin (f:=fun(r:β→Rat) c=>r c) (u:=u) (v:=v) (w:=fun c=>u c+v c) (a:=1) (b:=1) (fun c=>by grind) (A:=A++ [v]) (B:=B) (cols:=cols)
 have h4:D (fun(r:β→Rat) c=>r c) (A++u::u::B) cols=0:=D_twin (fun _=>rfl)
 have h5:D (fun(r:β→Rat) c=>r c) (A++v::v::B) cols=0:=D_twin (fun _=>rfl)
 simp only[List.append_assoc,List.singleton_append]at h2 h3
 grind
variable {f : α → β → Rat}
theorem Df_swap{u v:α}{A B:List α}{cols:List β}:D f (A++u::v::B) cols= - D f (A++v::u::B) cols:=by
 rw[D_map (f:=f) (rows:=A++u::v::B),D_map (f:=f) (rows:=A++v::u::B)];simp only[List.map_append,List.map_cons];exact Dv_swap
theorem Df_same{u v:α}(hu:∀c,f u c=f v c):∀{C A B:List α} {cols:List β},D f (A++u::(C++v::B)) cols=0:=by
 intro C
 induction C with
 |nil=>intro A B cols;exact D_twin hu
 |cons r C ih=>
  intro A B cols
  rw[List.cons_append,Df_swap]
  have:=ih (A:=A++ [r]) (B:=B) (cols:=cols)
  simp only[List.append_assoc,List.singleton_append]at this
  rw[this];grind
theorem Df_perm{l k:List α}(h:l.Perm k):∀{A:List α} {cols:List β},D f (A++l) cols=D f (A++k) cols∨D f (A++l) cols= - D f (A++k) cols:=by
 induction h with
 |nil=>intro A cols;exact .inl rfl
 |cons a _ ih=>
  intro A cols
  have:=ih (A:=A++ [a]) (cols:=cols)
  simpa using this
 |swap a b l=>intro A cols;exact .inr Df_swap
 |trans _ _ h1 h2=>
  intro A cols
  rcases h1 (A:=A) (cols:=cols)with e|e <;>rcases h2 (A:=A) (cols:=cols)with e'|e' <;>rw[e,e'] <;>grind
theorem Df_perm_ne{l k:List α}(h:l.Perm k){cols:List β}(hn:D f l cols≠0):D f k cols≠0:=by
 rcases Df_perm (f:=f) h (A:=[]) (cols:=cols)with e|e <;>simp only[List.nil_append]at e <;>grind
theorem Df_nodup{cols:List β}:∀{M A:List α},D f (A++M) cols≠0→M.Nodup:=by
 intro M
 induction M with
 |nil=>intro A _;exact List.nodup_nil
 |cons a M ih=>
  intro A h
  refine List.nodup_cons.2 ⟨fun hm=>?_,ih (A:=A++ [a]) (by simpa using h)⟩
  obtain⟨C,B,rfl⟩:=List.append_of_mem hm
  exact h (Df_same fun _=>rfl)
theorem Df_repl{cols:List β}{P Q:List α}{j v:α}{y:α→Rat}(hv:∀c,c∈cols→f v c=sm (fun a=>y a*f a c) (P++j::Q)):D f (P++v::Q) cols=y j*D f (P++j::Q) cols:=by
 rw[D_map (f:=f) (rows:=P++v::Q),D_map (f:=f) (rows:=P++j::Q)]
 simp only[List.map_append,List.map_cons]
 have hcol:∀{A B:List (β→Rat)} {u u':β→Rat} {cols:List β},(∀c,c∈cols→u c=u' c)→D (fun(r:β→Rat) c=>r c) (A++u::B) cols=D (fun(r:β→Rat) c=>r c) (A++u'::B) cols:=by
  intro A
  have halt:∀{l:List β} {g h:β→List β→Rat},(∀c cs,c∈l→(∀d,d∈cs→d∈l)→g c cs=h c cs)→alt g l=alt h l:=by
   intro l
   induction l with
   |nil=>intro g h _;rfl
   |cons c cs ih=>
    intro g h e
    simp only[alt]
    rw[e c cs (List.mem_cons_self ..) (fun d hd=>List.mem_cons_of_mem _ hd),ih fun d ds hd hds=>e d (c::ds) (List.mem_cons_of_mem _ hd) (fun x hx=>by
     rcases List.mem_cons.1 hx with rfl|hx
     ·exact List.mem_cons_self ..
     ·exact List.mem_cons_of_mem _ (hds x hx))]
  induction A with
  |nil=>
   intro B u u' cols e
   simp only[List.nil_append,D]
   exact halt fun c cs hc _=>by rw[e c hc]
  |cons r A ih=>
   intro B u u' cols e
   simp only[List.cons_append,D]
   exact halt fun c cs _ hcs=>by rw[ih fun d hd=>e d (hcs d hd)]
 rw[hcol hv]
 have lin:∀(l:List α),D (fun(r:β→Rat) c=>r c) (P.map f++(fun c=>sm (fun a=>y a*f a c) l)::Q.map f) cols=sm (fun a=>y a*D (fun(r:β→Rat) c=>r c) (P.map f++f a::Q.map f) cols) l:=by
  intro l
  induction l with
  |nil=>
   simp only[sm]
   have:=D_lin (f:=fun(r:β→Rat) c=>r c) (u:=fun _=>0) (v:=fun _=>0) (w:=fun _=>0) (a:=0) (b:=0) (fun c=>by grind) (A:=P.map f) (B:=Q.map f) (cols:=cols)
   grind
  |cons a l ih=>
   simp only[sm]
   rw[D_lin (f:=fun(r:β→Rat) c=>r c) (u:=f a) (v:=fun c=>sm (fun a=>y a*f a c) l) (a:=y a) (b:=1) (fun c=>by grind),ih]
   grind
 rw[lin,sm_append]
 simp only[sm]
 have hP:sm (fun a=>y a*D (fun(r:β→Rat) c=>r c) (P.map f++f a::Q.map f) cols) P=0:=by
  rw[sm_congr (h:=fun _=>0),sm_zero]
  intro a ha
  obtain⟨A,B,rfl⟩:=List.append_of_mem ha
  have:=Df_same (f:=fun(r:β→Rat) c=>r c) (u:=f a) (v:=f a) (fun _=>rfl) (C:=B.map f) (A:=A.map f) (B:=Q.map f) (cols:=cols)
  simp only[List.map_append,List.map_cons,List.append_assoc,List.cons_append]at this ⊢
  rw[this];grind
 have hQ:sm (fun a=>y a*D (fun(r:β→Rat) c=>r c) (P.map f++f a::Q.map f) cols) Q=0:=by
  rw[sm_congr (h:=fun _=>0),sm_zero]
  intro a ha
  obtain⟨A,B,rfl⟩:=List.append_of_mem ha
  have:=Df_same (f:=fun(r:β→Rat) c=>r c) (u:=f a) (v:=f a) (fun _=>rfl) (C:=A.map f) (A:=P.map f) (B:=B.map f) (cols:=cols)
  simp only[List.map_append,List.map_cons]at this ⊢
  rw[this];grind
 rw[hP,hQ];grind
def turn(f:α→β→Rat)(cols:List β)(v:α)(g:α→Rat):List α→List α→Rat
 |_,[]=>0
 |A,r::Q=>g r*D f (A++v::Q) cols+turn f cols v g (A++ [r]) Q
theorem alt_turn{cols:List β}{v:α}{g:α→Rat}:∀{M A:List α},alt (fun r rs=>g r*D f (A++v::rs) cols) M=turn f cols v g A M:=by
 intro M
 induction M with
 |nil=>intro A;rfl
 |cons m Q ih=>
  intro A
  simp only[alt,turn]
  rw[←ih (A:=A++ [m])]
  rw[alt_congr (g:=fun r rs=>(-1)*(g r*D f (A++ [m]++v::rs) cols)) (fun r rs _=>by
   rw[Df_swap];simp only[List.append_assoc,List.singleton_append];grind),alt_smul]
  grind
theorem cramer{M:List α}{cols:List β}{v:α}(hl:M.length=cols.length){c0:β}(hc:c0∈cols):f v c0*D f M cols=turn f cols v (fun r=>f r c0) [] M:=by
 obtain⟨A,B,rfl⟩:=List.append_of_mem hc
 have h0:D f (v::M) (c0::(A++c0::B))=0:=by
  rw[D_turn (by simp[hl])]
  exact Df_same (f:=fun b a=>f a b) (u:=c0) (v:=c0) (fun _=>rfl) (A:=[]) (C:=A) (B:=B)
 rw[D_col (by simp[hl])]at h0
 simp only[alt]at h0
 have:=alt_turn (f:=f) (cols:=A++c0::B) (v:=v) (g:=fun r=>f r c0) (M:=M) (A:=[])
 simp only[List.nil_append]at this
 grind
theorem turn_sm{cols:List β}{v:α}:∀{M A:List α},M.Nodup→∃y:α→Rat,∀g:α→Rat,turn f cols v g A M=sm (fun a=>y a*g a) M:=by
 intro M
 induction M with
 |nil=>intro A _;exact⟨fun _=>0,fun g=>rfl⟩
 |cons r Q ih=>
  intro A hn
  obtain⟨h1,h2⟩:=List.nodup_cons.1 hn
  obtain⟨y,hy⟩:=ih (A:=A++ [r]) h2
  have:=Classical.propDecidable
  refine⟨fun a=>if a=r then D f (A++v::Q) cols else y a,fun g=>?_⟩
  simp only[turn,sm,if_true]
  rw[hy g,sm_congr (g:=fun a=>y a*g a) (h:=fun a=>(if a=r then D f (A++v::Q) cols else y a)*g a) (fun a ha=>by
   have hne:a≠r:=fun e=>h1 (by rw[←e];exact ha)
   simp only[if_neg hne])]
  grind
end
theorem span{α β:Type}{f:α→β→Rat}{M:List α}{cols:List β}(hl:M.length=cols.length)(hD:D f M cols≠0)(v:β→Rat):∃y:α→Rat,∀c,c∈cols→v c=sm (fun a=>y a*f a c) M:=by
 obtain⟨f',hf'⟩:∃f':Option α→β→Rat,f'=fun o=>match o with|some a=>f a|none=>v:=⟨_,rfl⟩
 have hmap:∀{l:List α} {cols:List β},D f' (l.map some) cols=D f l cols:=by
  intro l
  induction l with
  |nil=>intro cols;rfl
  |cons a l ih=>
   intro cols
   simp only[List.map_cons,D]
   exact alt_congr fun c cs _=>by rw[ih,hf']
 have hn:(M.map some).Nodup:=by
  have:=Df_nodup (f:=f) (A:=[]) (M:=M) (cols:=cols) (by simpa using hD)
  refine List.pairwise_map.2 (this.imp fun h e=>h (Option.some.inj e))
 obtain⟨y,hy⟩:=turn_sm (f:=f') (cols:=cols) (v:=none) (A:=[]) hn
 refine⟨fun a=>y (some a)/D f M cols,fun c hc=>?_⟩
 have h1:=cramer (f:=f') (M:=M.map some) (cols:=cols) (v:=none) (by simpa using hl) hc
 rw[hmap,hy]at h1
 have h2:f' none c=v c:=by rw[hf']
 rw[h2]at h1
 have h3:∀(l:List α),sm (fun o=>y o*f' o c) (l.map some)=D f M cols*sm (fun a=>y (some a)/D f M cols*f a c) l:=by
  intro l
  induction l with
  |nil=>simp only[List.map_nil,sm];grind
  |cons a l ih=>
   simp only[List.map_cons,sm]
   rw[ih,show f' (some a) c=f a c by rw[hf']]
   grind
 rw[h3]at h1
 grind
end Go.Lp
end
section
namespace Go.Lp
section
variable {α β : Type} (f : α → β → Rat) (b : α → Rat) (w : β → Rat) (cols : List β)
def dt(a:α)(x:β→Rat):Rat:=sm (fun c=>f a c*x c) cols
def Dual(E S:List α):Prop:=∃y:α→Rat,(∀a,a∈S→y a≤0)∧∀c,c∈cols→w c=sm (fun a=>y a*f a c) (E++S)
def Feas(E L:List α)(x:β→Rat):Prop:=(∀a,a∈E→dt f cols a x=b a)∧∀a,a∈L→dt f cols a x≤b a
end
section
variable {α β : Type} {f : α → β → Rat} {b : α → Rat} {w : β → Rat} {cols : List β}
theorem dt_sum{M:List α}{y:α→Rat}{v:β→Rat}(h:∀c,c∈cols→v c=sm (fun a=>y a*f a c) M)(x:β→Rat):sm (fun c=>v c*x c) cols=sm (fun a=>y a*dt f cols a x) M:=by
 rw[sm_congr (h:=fun c=>sm (fun a=>x c*(y a*f a c)) M) (fun c hc=>by rw[h c hc,sm_smul];grind),sm_comm]
 refine sm_congr fun a _=>?_
 unfold dt
 rw[←sm_smul]
 exact sm_congr fun c _=>by grind
theorem dt_row{M:List α}{y:α→Rat}{v:α}(h:∀c,c∈cols→f v c=sm (fun a=>y a*f a c) M)(x:β→Rat):dt f cols v x=sm (fun a=>y a*dt f cols a x) M:=dt_sum h x
theorem corner_ex{M:List α}(hl:M.length=cols.length)(hD:D f M cols≠0)(r:α→Rat):∃x:β→Rat,∀a,a∈M→dt f cols a x=r a:=by
 rw[D_turn hl]at hD
 obtain⟨x,hx⟩:=span (f:=fun c a=>f a c) (M:=cols) (cols:=M) hl.symm hD r
 refine⟨x,fun a ha=>?_⟩
 rw[hx a ha]
 exact sm_congr fun c _=>by grind
theorem corner_un{M:List α}(hl:M.length=cols.length)(hD:D f M cols≠0){x z:β→Rat}(h:∀a,a∈M→dt f cols a x=dt f cols a z):∀c,c∈cols→x c=z c:=by
 intro c hc
 have hn:cols.Nodup:=by
  rw[D_turn hl]at hD
  exact Df_nodup (A:=[]) (by simpa using hD)
 have:=Classical.propDecidable
 obtain⟨y,hy⟩:=span hl hD (fun d=>if d=c then 1 else 0)
 have unit:∀(x:β→Rat),sm (fun d=>(if d=c then(1:Rat)else 0)*x d) cols=x c:=by
  intro x
  obtain⟨A,B,rfl⟩:=List.append_of_mem hc
  rw[List.nodup_append]at hn
  obtain⟨_,h2,h3⟩:=hn
  obtain⟨h4,_⟩:=List.nodup_cons.1 h2
  rw[sm_append]
  simp only[sm,if_true]
  rw[sm_congr (l:=A) (h:=fun _=>0) (fun d hd=>by
   have:d≠c:=h3 d hd c (List.mem_cons_self ..)
   simp only[if_neg this];grind),sm_congr (l:=B) (h:=fun _=>0) (fun d hd=>by
   have:d≠c:=fun e=>h4 (e ▸ hd)
   simp only[if_neg this];grind),sm_zero,sm_zero]
  grind
 have h1:=dt_sum hy x
 have h2:=dt_sum hy z
 rw[unit]at h1 h2
 rw[h1,h2]
 exact sm_congr fun a ha=>by rw[h a ha]
theorem dt_congr{a:α}{x z:β→Rat}(h:∀c,c∈cols→x c=z c):dt f cols a x=dt f cols a z:=sm_congr fun c hc=>by rw[h c hc]
theorem weak{E S:List α}{y:α→Rat}(hy:∀a,a∈S→y a≤0)(hw:∀c,c∈cols→w c=sm (fun a=>y a*f a c) (E++S)){x:β→Rat}(hE:∀a,a∈E→dt f cols a x=b a)(hS:∀a,a∈S→dt f cols a x≤b a) :
  sm (fun a=>y a*b a) (E++S)≤sm (fun c=>w c*x c) cols:=by
 rw[dt_sum hw x]
 refine sm_le fun a ha=>?_
 rcases List.mem_append.1 ha with h|h
 ·rw[hE a h];exact Rat.le_refl
 ·have h1:=hy a h
  have h2:=hS a h
  have:0≤(-(y a))*(b a-dt f cols a x):=Rat.mul_nonneg (by grind) (by grind)
  grind
theorem worth{E S:List α}{y:α→Rat}(hw:∀c,c∈cols→w c=sm (fun a=>y a*f a c) (E++S)){x:β→Rat}(hE:∀a,a∈E++S→dt f cols a x=b a):sm (fun c=>w c*x c) cols=sm (fun a=>y a*b a) (E++S):=by
 rw[dt_sum hw x]
 exact sm_congr fun a ha=>by rw[hE a ha]
theorem ratio(y β':α→Rat):∀(l:List α),(∃a,a∈l∧0<β' a)→∃j,j∈l∧0<β' j∧∀a,a∈l→0<β' a→y a*β' j≤y j*β' a:=by
 intro l
 induction l with
 |nil=>rintro ⟨a,h,_⟩;cases h
 |cons x l ih=>
  intro h
  by_cases hl:∃a,a∈l∧0<β' a
  ·obtain⟨j,hj,hp,hm⟩:=ih hl
   by_cases hx:0<β' x∧¬y x*β' j≤y j*β' x
   ·obtain⟨hx,hlt⟩:=hx
    refine⟨x,List.mem_cons_self ..,hx,fun a ha hpa=>?_⟩
    rcases List.mem_cons.1 ha with rfl|ha
    ·exact Rat.le_refl
    ·have h1:=hm a ha hpa
     have h2:y j*β' x<y x*β' j:=by grind
     have h3:y a*β' j*β' x≤y j*β' a*β' x:=Rat.mul_le_mul_of_nonneg_right h1 (by grind)
     have h4:y j*β' x*β' a≤y x*β' j*β' a:=Rat.mul_le_mul_of_nonneg_right (by grind) (by grind)
     have h5:y a*β' x*β' j≤y x*β' a*β' j:=by grind
     exact Rat.le_of_mul_le_mul_right h5 hp
   ·refine⟨j,List.mem_cons_of_mem _ hj,hp,fun a ha hpa=>?_⟩
    rcases List.mem_cons.1 ha with rfl|ha
    ·apply Classical.byContradiction;intro hn;exact hx ⟨hpa,hn⟩
    ·exact hm a ha hpa
  ·obtain⟨a,ha,hp⟩:=h
   have hax:a=x:=by
    rcases List.mem_cons.1 ha with h|h
    ·exact h
    ·exact absurd ⟨a,h,hp⟩ hl
   subst hax
   refine⟨a,List.mem_cons_self ..,hp,fun d hd hpd=>?_⟩
   rcases List.mem_cons.1 hd with rfl|hd
   ·exact Rat.le_refl
   ·exact absurd ⟨d,hd,hpd⟩ hl
theorem opt(f:α→β→Rat)(b:α→Rat)(w:β→Rat)(cols:List β):∀(n:Nat) (R E B:List α),B.length=n→E.length+n=cols.length→D f (E++B) cols≠0→Dual f w cols E B →
  (∀x,¬Feas f b cols E (B++R) x)∨∃S,(∀a,a∈S→a∈B++R)∧S.length=n∧D f (E++S) cols≠0∧Dual f w cols E S∧∃x,(∀a,a∈E++S→dt f cols a x=b a)∧∀a,a∈B++R→dt f cols a x≤b a:=by
 intro n
 induction n with
 |zero=>
  intro R E B hB hE hD hdual
  have hB:B=[]:=List.length_eq_zero_iff.1 hB
  subst hB
  simp only[List.append_nil,List.nil_append]at hD ⊢
  obtain⟨x,hx⟩:=corner_ex (by simpa using hE) hD b
  by_cases hR:∀a,a∈R→dt f cols a x≤b a
  ·exact .inr ⟨[],(fun a h=>(by cases h)),rfl,by simpa using hD,hdual,x,by simpa using hx,hR⟩
  ·refine .inl fun z hz=>hR fun a ha=>?_
   have:=corner_un (by simpa using hE) hD (x:=x) (z:=z) (fun a ha=>by rw[hx a ha,hz.1 a ha])
   rw[dt_congr this]
   exact hz.2 a ha
 |succ n ihn=>
  intro R
  induction R with
  |nil=>
   intro E B hB hE hD hdual
   obtain⟨x,hx⟩:=corner_ex (by simp[hB];omega) hD b
   refine .inr ⟨B,fun a h=>by simpa using h,hB,hD,hdual,x,hx,fun a ha=>?_⟩
   have ha:a∈B:=by simpa using ha
   rw[hx a (List.mem_append_right _ ha)]
   exact Rat.le_refl
  |cons v R ihR=>
   intro E B hB hE hD hdual
   have sub:∀a,a∈B++R→a∈B++v::R:=fun a ha=>by
    rcases List.mem_append.1 ha with h|h
    ·exact List.mem_append_left _ h
    ·exact List.mem_append_right _ (List.mem_cons_of_mem _ h)
   rcases ihR E B hB hE hD hdual with hno|⟨S,hS,hSl,hSD,⟨y,hy,hw⟩,x,hx,hxf⟩
   ·exact .inl fun z hz=>hno z ⟨hz.1,fun a ha=>hz.2 a (sub a ha)⟩
   ·by_cases hv:dt f cols v x≤b v
    ·refine .inr ⟨S,fun a ha=>sub a (hS a ha),hSl,hSD,⟨y,hy,hw⟩,x,hx,fun a ha=>?_⟩
     rcases List.mem_append.1 ha with h|h
     ·exact hxf a (List.mem_append_left _ h)
     ·rcases List.mem_cons.1 h with rfl|h
      ·exact hv
      ·exact hxf a (List.mem_append_right _ h)
    ·have hv:b v<dt f cols v x:=by grind
     have hlen:(E++S).length=cols.length:=by simp[hSl];omega
     obtain⟨β',hβ⟩:=span hlen hSD (f v)
     by_cases hpos:∃a,a∈S∧0<β' a
     ·obtain⟨j,hj,hpj,hmax⟩:=ratio y β' S hpos
      obtain⟨P,Q,rfl⟩:=List.append_of_mem hj
      have hnd:(E++(P++j::Q)).Nodup:=Df_nodup (A:=[]) (by simpa using hSD)
      have hDr:=Df_repl (f:=f) (cols:=cols) (P:=E++P) (Q:=Q) (j:=j) (v:=v) (y:=β') (by simpa using hβ)
      have hD1:D f (E++P++v::Q) cols≠0:=by
       rw[hDr]
       simp only[List.append_assoc]at hSD ⊢
       intro h0
       rcases Rat.mul_eq_zero.1 h0 with h|h
       ·grind
       ·exact hSD h
      have hperm:List.Perm (E++P++v::Q) ((E++ [v])++(P++Q)):=by
       simp only[List.append_assoc,List.singleton_append]
       exact List.Perm.append_left E List.perm_middle
      have hD2:=Df_perm_ne (f:=f) hperm hD1
      have hnd2:(E++P++v::Q).Nodup:=Df_nodup (A:=[]) (by simpa using hD1)
      have hlP:(P++Q).length=n:=by simp at hSl ⊢;omega
      have hdual2:Dual f w cols (E++ [v]) (P++Q):=by
       have:=Classical.propDecidable
       obtain⟨k,hk⟩:∃k,k=y j/β' j:=⟨_,rfl⟩
       have hkj:k*β' j=y j:=by rw[hk];grind
       have hvn:v∉E++P∧v∉Q:=by
        rw[List.nodup_append]at hnd2
        obtain⟨_,h2,h3⟩:=hnd2
        exact⟨fun h=>h3 v h v (List.mem_cons_self ..) rfl,(List.nodup_cons.1 h2).1⟩
       refine⟨fun a=>if a=v then k else y a-k*β' a,fun a ha=>?_,fun c hc=>?_⟩
       ·have hav:a≠v:=by
         rintro rfl
         rcases List.mem_append.1 ha with h|h
         ·exact hvn.1 (List.mem_append_right _ h)
         ·exact hvn.2 h
        simp only[if_neg hav]
        have haS:a∈P++j::Q:=by
         rcases List.mem_append.1 ha with h|h
         ·exact List.mem_append_left _ h
         ·exact List.mem_append_right _ (List.mem_cons_of_mem _ h)
        have h1:=hy a haS
        have h2:=hy j hj
        have hk0:k≤0:=by
         rcases @Rat.le_total k 0 with h|h
         ·exact h
         ·have:=Rat.mul_nonneg h (Rat.le_of_lt hpj)
          by_cases hk00:k=0
          ·grind
          ·have hkp:0<k:=by grind
           have:=Rat.mul_pos hkp hpj
           grind
        by_cases hb:0<β' a
        ·have h3:=hmax a haS hb
         have h4:y a*β' j≤k*β' a*β' j:=by rw[←hkj]at h3;grind
         have:=Rat.le_of_mul_le_mul_right h4 hpj
         grind
        ·have:0≤(-k)*(-(β' a)):=Rat.mul_nonneg (by grind) (by grind)
         grind
       ·have hsplit:sm (fun a=>(if a=v then k else y a-k*β' a)*f a c) ((E++ [v])++(P++Q))=k*f v c+sm (fun a=>(y a-k*β' a)*f a c) (E++P++Q):=by
         rw[sm_append,sm_append,sm_append]
         rw[sm_congr (l:=E) (h:=fun a=>(y a-k*β' a)*f a c) (fun a ha=>by
          have:a≠v:=fun e=>hvn.1 (by rw[←e];exact List.mem_append_left _ ha)
          simp only[if_neg this])]
         rw[sm_congr (l:=P) (h:=fun a=>(y a-k*β' a)*f a c) (fun a ha=>by
          have:a≠v:=fun e=>hvn.1 (by rw[←e];exact List.mem_append_right _ ha)
          simp only[if_neg this])]
         rw[sm_congr (l:=Q) (h:=fun a=>(y a-k*β' a)*f a c) (fun a ha=>by
          have:a≠v:=fun e=>hvn.2 (by rw[←e];exact ha)
          simp only[if_neg this])]
         simp only[sm,if_true]
         rw[sm_append,sm_append]
         grind
        rw[hsplit]
        have hsub:sm (fun a=>(y a-k*β' a)*f a c) (E++P++Q)=sm (fun a=>y a*f a c) (E++P++Q)-k*sm (fun a=>β' a*f a c) (E++P++Q):=by
         rw[←sm_smul]
         have:sm (fun a=>(y a-k*β' a)*f a c) (E++P++Q)+sm (fun a=>k*(β' a*f a c)) (E++P++Q)=sm (fun a=>y a*f a c) (E++P++Q):=by
          rw[←sm_add];exact sm_congr fun a _=>by grind
         grind
        have e1:=hw c hc
        have e2:=hβ c hc
        rw[sm_append,sm_append]at e1 e2
        simp only[sm]at e1 e2
        rw[hsub,sm_append,sm_append,sm_append,sm_append]
        grind
      rcases ihn (B++R) (E++ [v]) (P++Q) hlP (by simp;omega) hD2 hdual2 with hno|⟨S2,hS2,hS2l,hS2D,⟨y2,hy2,hw2⟩,x2,hx2,hx2f⟩
      ·
       refine .inl fun z hz=>?_
       have hzv:dt f cols v z≤b v:=hz.2 v (List.mem_append_right _ (List.mem_cons_self ..))
       obtain⟨t,ht⟩:∃t,t=(b v-dt f cols v z)/(dt f cols v x-dt f cols v z):=⟨_,rfl⟩
       have hden:0<dt f cols v x-dt f cols v z:=by grind
       have htm:t*(dt f cols v x-dt f cols v z)=b v-dt f cols v z:=by rw[ht];grind
       have ht0:0≤t:=by
        rcases @Rat.le_total 0 t with h|h
        ·exact h
        ·by_cases h0:t=0
         ·grind
         ·have:0<(-t)*(dt f cols v x-dt f cols v z):=Rat.mul_pos (by grind) hden
          grind
       have ht1:t≤1:=by
        rcases @Rat.le_total t 1 with h|h
        ·exact h
        ·by_cases h0:t=1
         ·grind
         ·have:0<(t-1)*(dt f cols v x-dt f cols v z):=Rat.mul_pos (by grind) hden
          grind
       obtain⟨p,hp⟩:∃p:β→Rat,p=fun c=>z c+t*(x c-z c):=⟨_,rfl⟩
       have hdp:∀a,dt f cols a p=dt f cols a z+t*(dt f cols a x-dt f cols a z):=by
        intro a
        unfold dt
        have:sm (fun c=>f a c*x c) cols=sm (fun c=>f a c*z c) cols+sm (fun c=>f a c*(x c-z c)) cols:=by
         rw[←sm_add];exact sm_congr fun c _=>by grind
        rw[this,hp,sm_congr (h:=fun c=>f a c*z c+t*(f a c*(x c-z c))) (fun c _=>by grind),sm_add,sm_smul]
        grind
       have conv:∀a,dt f cols a z≤b a→dt f cols a x≤b a→dt f cols a p≤b a:=by
        intro a h1 h2
        rw[hdp]
        have g1:0≤(1-t)*(b a-dt f cols a z):=Rat.mul_nonneg (by grind) (by grind)
        have g2:0≤t*(b a-dt f cols a x):=Rat.mul_nonneg ht0 (by grind)
        grind
       refine hno p ⟨fun a ha=>?_,fun a ha=>?_⟩
       ·rcases List.mem_append.1 ha with h|h
        ·rw[hdp,hz.1 a h,hx a (List.mem_append_left _ h)];grind
        ·rw[List.mem_singleton.1 h,hdp,htm];grind
       ·have ha':a∈B++R:=by
         rcases List.mem_append.1 ha with h|h
         ·refine hS a ?_
          rcases List.mem_append.1 h with h|h
          ·exact List.mem_append_left _ h
          ·exact List.mem_append_right _ (List.mem_cons_of_mem _ h)
         ·exact h
        exact conv a (hz.2 a (sub a ha')) (hxf a ha')
      ·have memS2:∀a,a∈S2→a∈B++R:=by
        intro a ha
        rcases List.mem_append.1 (hS2 a ha)with h|h
        ·refine hS a ?_
         rcases List.mem_append.1 h with h|h
         ·exact List.mem_append_left _ h
         ·exact List.mem_append_right _ (List.mem_cons_of_mem _ h)
        ·exact h
       have hBR:∀a,a∈B++R→dt f cols a x2≤b a:=fun a ha=>hx2f a (List.mem_append_right _ ha)
       have hvx:dt f cols v x2=b v:=hx2 v (by simp)
       have hyv:y2 v≤0:=by
        have o1:sm (fun c=>w c*x c) cols≤sm (fun c=>w c*x2 c) cols:=by
         rw[worth hw hx]
         exact weak hy hw (fun a ha=>hx2 a (by simp[ha])) fun a ha=>hBR a (hS a ha)
        have o2:=worth hw2 hx2
        have o3:=dt_sum hw2 x
        rw[sm_append,sm_append]at o2 o3
        simp only[sm]at o2 o3
        have o4:sm (fun a=>y2 a*b a) S2≤sm (fun a=>y2 a*dt f cols a x) S2:=sm_le fun a ha=>by
         have h1:=hy2 a ha
         have h2:=hxf a (memS2 a ha)
         have:0≤(-(y2 a))*(b a-dt f cols a x):=Rat.mul_nonneg (by grind) (by grind)
         grind
        have o5:sm (fun a=>y2 a*dt f cols a x) E=sm (fun a=>y2 a*b a) E:=sm_congr fun a ha=>by rw[hx a (List.mem_append_left _ ha)]
        rcases @Rat.le_total (y2 v) 0 with h|h
        ·exact h
        ·by_cases h0:y2 v=0
         ·grind
         ·have:0<y2 v*(dt f cols v x-b v):=Rat.mul_pos (by grind) (by grind)
          grind
       refine .inr ⟨v::S2,fun a ha=>?_,by simp[hS2l],by simpa using hS2D,⟨y2,fun a ha=>?_,by simpa using hw2⟩,x2,by simpa using hx2,fun a ha=>?_⟩
       ·rcases List.mem_cons.1 ha with rfl|h
        ·simp
        ·exact sub a (memS2 a h)
       ·rcases List.mem_cons.1 ha with rfl|h
        ·exact hyv
        ·exact hy2 a h
       ·rcases List.mem_append.1 ha with h|h
        ·exact hBR a (List.mem_append_left _ h)
        ·rcases List.mem_cons.1 h with rfl|h
         ·rw[hvx];exact Rat.le_refl
         ·exact hBR a (List.mem_append_right _ h)
     ·
      refine .inl fun z hz=>?_
      have h1:=dt_row hβ z
      have h2:=dt_row hβ x
      have hzv:dt f cols v z≤b v:=hz.2 v (List.mem_append_right _ (List.mem_cons_self ..))
      have:sm (fun a=>β' a*dt f cols a x) (E++S)≤sm (fun a=>β' a*dt f cols a z) (E++S):=sm_le fun a ha=>by
       rcases List.mem_append.1 ha with h|h
       ·rw[hx a ha,hz.1 a h];exact Rat.le_refl
       ·have g1:¬0<β' a:=fun g=>hpos ⟨a,h,g⟩
        have g2:=hz.2 a (sub a (hS a h))
        rw[hx a ha]
        have:0≤(-(β' a))*(b a-dt f cols a z):=Rat.mul_nonneg (by grind) (by grind)
        grind
      grind
end
end Go.Lp
end
section
namespace Go.Lp
def altI{α:Type}(f:α→List α→Int):List α→Int
 |[]=>0
 |c::cs=>f c cs-altI (fun d ds=>f d (c::ds)) cs
def DI{α β:Type}(f:α→β→Int):List α→List β→Int
 |[],_=>1
 |r::rs,cols=>altI (fun c cs=>f r c*DI f rs cs) cols
section
variable {α β : Type}
theorem altI_congr:∀{l:List α} {f g:α→List α→Int},(∀c cs,cs.length+1=l.length→f c cs=g c cs)→altI f l=altI g l:=by
 intro l
 induction l with
 |nil=>intro f g _;rfl
 |cons c cs ih=>
  intro f g h
  simp only[altI]
  rw[h c cs rfl,ih (fun d ds hd=>h d (c::ds) (by simp;omega))]
theorem alt_cast{f:α→List α→Int}{l:List α}:((altI f l:Int):Rat)=alt (fun c cs=>((f c cs:Int):Rat)) l:=by
 induction l generalizing f with
 |nil=>rfl
 |cons c cs ih=>simp only[altI,alt];rw[Rat.intCast_sub,ih]
theorem D_cast{f:α→β→Int}:∀{rows:List α} {cols:List β},((DI f rows cols:Int):Rat)=D (fun a c=>((f a c:Int):Rat)) rows cols:=by
 intro rows
 induction rows with
 |nil=>intro cols;rfl
 |cons r rs ih=>
  intro cols
  simp only[DI,D]
  rw[alt_cast]
  exact alt_congr fun c cs _=>by rw[Rat.intCast_mul,ih]
theorem D_ne{f:α→β→Int}{rows:List α}{cols:List β}:D (fun a c=>((f a c:Int):Rat)) rows cols≠0↔DI f rows cols≠0:=by
 rw[←D_cast]
 constructor
 ·intro h e;exact h (by rw[e];rfl)
 ·intro h e;exact h (Rat.intCast_inj.1 (by rw[e];rfl))
def pK(K:β→Nat):List β→Nat
 |[]=>1
 |c::cs=>K c*pK K cs
def fact:Nat→Nat
 |0=>1
 |n+1=>(n+1)*fact n
theorem pK_perm{K:β→Nat}{l k:List β}(h:l.Perm k):pK K l=pK K k:=by
 induction h with
 |nil=>rfl
 |cons a _ ih=>simp only[pK];rw[ih]
 |swap a b l=>simp only[pK];rw[←Nat.mul_assoc,←Nat.mul_assoc,Nat.mul_comm (K a)]
 |trans _ _ h1 h2=>rw[h1,h2]
theorem altI_bound{T:Nat}:∀{l:List β} {f:β→List β→Int},(∀c cs,(c::cs).Perm l→(f c cs).natAbs≤T)→(altI f l).natAbs≤l.length*T:=by
 intro l
 induction l with
 |nil=>intro f _;simp[altI]
 |cons c cs ih=>
  intro f h
  simp only[altI]
  have h1:=h c cs (List.Perm.refl _)
  have h2:=ih (f:=fun d ds=>f d (c::ds)) (fun d ds hd=>h d (c::ds) ((List.Perm.swap c d ds).trans (hd.cons c)))
  rw[List.length_cons,Nat.succ_mul]
  omega
theorem DI_bound{f:α→β→Int}{K:β→Nat}:∀{rows:List α} {cols:List β},rows.length=cols.length→(∀r,r∈rows→∀c,c∈cols→(f r c).natAbs≤K c)→(DI f rows cols).natAbs≤fact cols.length*pK K cols:=by
 intro rows
 induction rows with
 |nil=>intro cols h _;simp at h;have:cols=[]:=List.length_eq_zero_iff.1 h.symm;subst this;simp[DI,fact,pK]
 |cons r rs ih=>
  intro cols h hb
  simp only[DI]
  have hl:cols.length=rs.length+1:=by simpa using h.symm
  have:=altI_bound (l:=cols) (T:=fact rs.length*pK K cols) (f:=fun c cs=>f r c*DI f rs cs) (fun c cs hp=>by
   have hlen:=hp.length_eq
   simp only[List.length_cons]at hlen
   have h1:=hb r (List.mem_cons_self ..) c (hp.subset (List.mem_cons_self ..))
   have h2:=ih (cols:=cs) (by omega) (fun q hq d hd=>hb q (List.mem_cons_of_mem _ hq) d (hp.subset (List.mem_cons_of_mem _ hd)))
   have h3:=pK_perm (K:=K) hp
   simp only[pK]at h3
   rw[Int.natAbs_mul,←h3,show cs.length=rs.length by omega]at *
   calc (f r c).natAbs*(DI f rs cs).natAbs≤K c*(fact rs.length*pK K cs):=Nat.mul_le_mul h1 h2
    _=fact rs.length*(K c*pK K cs):=by rw[Nat.mul_left_comm])
  rw[hl]at this ⊢
  simp only[fact]
  rw[Nat.mul_assoc]
  exact this
end
end Go.Lp
end
section
set_option maxRecDepth 100000
namespace Go.Bl
open Go.V Go.Proofs Go.Lp
def en(r:List Int)(c:Nat):Int:=r.getD c 0
theorem isUsed_eq:∀u,u<32→∀k,k<5→M.isUsed (u:Nat) (k:Nat)=u.testBit k:=by decide +kernel
theorem use_eq:∀u,u<32→∀k,k<5→M.use (u:Nat) (k:Nat)=((u |||2^k:Nat):Int):=by decide +kernel
theorem or_lt:∀u,u<32→∀k,k<5→(u |||2^k)<32:=by decide +kernel
def unlt(u k:Nat):List Nat:=(List.range k).filter fun j=> !u.testBit j
def unge(n u k:Nat):List Nat:=(List.range' k (n-k)).filter fun j=> !u.testBit j
def un(n u:Nat):List Nat:=(List.range n).filter fun j=> !u.testBit j
theorem un_ge(n u:Nat):unge n u 0=un n u:=by unfold unge un;rw[List.range_eq_range'];rfl
theorem un_or:∀n,n≤5→∀u,u<32→∀k,k<n→u.testBit k=false→un n (u |||2^k)=unlt u k++unge n u (k+1):=by decide +kernel
theorem unlt_succ(u k:Nat):unlt u (k+1)=unlt u k++(if u.testBit k then[]else[k]):=by
 unfold unlt
 rw[List.range_succ,List.filter_append]
 congr 1
 by_cases h:u.testBit k <;>simp[h]
theorem unge_cons{n u k:Nat}(h:k<n):unge n u k=(if u.testBit k then[]else[k])++unge n u (k+1):=by
 unfold unge
 obtain⟨d,hd⟩:∃d,n-k=d+1:=⟨n-k-1,by omega⟩
 rw[hd,show n-(k+1)=d by omega,List.range'_succ,List.filter_cons]
 by_cases h:u.testBit k <;>simp[h]
theorem wrap64{n:Int}(h:n.natAbs<9223372036854775808):IntKind.wrap IntKind.i64 n=n:=wrap_id (by omega) (by omega)
theorem drop_cons{α:Type}{l:List α}{d:α}{k:Nat}(h:k<l.length):l.drop k=l.getD k d::l.drop (k+1):=getD_drop h
theorem row_eq{n:Nat}{r:List Int}{u:Nat}{rec:Int→Int}{F:List Nat→Int}{T:Nat}(hn:n≤5)(hu:u<32)(hr:r.length=n)
  (hrec:∀k,k<n→u.testBit k=false→rec (M.use u k)=F (un n (u |||2^k)))
  (hT:∀k,k<n→u.testBit k=false→(en r k*F (un n (u |||2^k))).natAbs≤T)
  (hbig:(un n u).length*T<9223372036854775808) (hent:∀k,k<n→u.testBit k=false→(en r k).natAbs<9223372036854775808) :
  ∀(d k:Nat) (out sign:Int),k+d=n→(sign=1∨sign= -1)→out.natAbs≤(unlt u k).length*T →
   M.minorRow rec u (r.drop k) k out sign=out+sign*altI (fun c cs=>en r c*F (unlt u k++cs)) (unge n u k):=by
 have hlen:∀k,k≤n→(unlt u k).length+(unge n u k).length=(un n u).length:=by
  intro k hk
  unfold unlt unge un
  rw[←List.length_append,←List.filter_append]
  congr 2
  rw[List.range_eq_range',List.range_eq_range']
  have:=List.range'_append_1 (s:=0) (m:=k) (n:=n-k)
  rw[Nat.zero_add]at this
  rw[this,Nat.add_sub_cancel' hk]
 intro d
 induction d with
 |zero=>
  intro k out sign hk _ _
  have h1:r.drop k=[]:=List.drop_of_length_le (by omega)
  have h2:unge n u k=[]:=by unfold unge;rw[show n-k=0 by omega];rfl
  rw[h1,h2]
  simp[M.minorRow,altI]
 |succ d ih=>
  intro k out sign hk hs ho
  have hkn:k<n:=by omega
  rw[drop_cons (d:=0) (by omega:k<r.length)]
  simp only[M.minorRow]
  rw[isUsed_eq u hu k (by omega)]
  have hcast:((k:Nat):Int)+1=((k+1:Nat):Int):=by omega
  rw[hcast]
  have hl:=hlen k (by omega)
  by_cases hb:u.testBit k=true
  ·rw[hb,cond_true,ih (k+1) out sign (by omega) hs (by rw[unlt_succ,hb];simpa using ho)]
   rw[unlt_succ,unge_cons hkn,hb]
   simp
  ·have hb:u.testBit k=false:=by simpa using hb
   rw[hb,cond_false]
   have ht:=hT k hkn hb
   have he:=hent k hkn hb
   have hre:=hrec k hkn hb
   have hun:=un_or n hn u hu k hkn hb
   have hge:unge n u k=k::unge n u (k+1):=by rw[unge_cons hkn,hb];rfl
   have hltk:unlt u (k+1)=unlt u k++ [k]:=by rw[unlt_succ,hb];rfl
   have hl1:(unlt u k).length+1≤(un n u).length:=by rw[hge]at hl;simp at hl;omega
   have hout2:((unlt u k).length+1)*T<9223372036854775808:=Nat.lt_of_le_of_lt (Nat.mul_le_mul_right _ hl1) hbig
   rw[Nat.succ_mul]at hout2
   obtain⟨t,htt⟩:∃t,t=en r k*F (un n (u |||2^k)):=⟨_,rfl⟩
   rw[←htt]at ht
   have hn':IntKind.i64.wrap (sign*r.getD k 0)=sign*en r k:=by
    refine wrap64 ?_
    rcases hs with rfl|rfl
    ·show(1*en r k).natAbs<_;omega
    ·show(-1*en r k).natAbs<_;omega
   have hp:sign*en r k*rec (M.use u k)=sign*t:=by rw[hre,htt,Int.mul_assoc]
   have hst:(sign*t).natAbs≤T:=by rcases hs with rfl|rfl <;>omega
   have hterm:(cond (r.getD k 0 != 0) (IntKind.i64.wrap (out+IntKind.i64.wrap (IntKind.i64.wrap (sign*r.getD k 0)*rec (M.use u k)))) out)=out+sign*t:=by
    by_cases hz:r.getD k 0=0
    ·rw[hz]
     have:t=0:=by rw[htt];show r.getD k 0*_=0;rw[hz];simp
     rw[this];simp
    ·have hnz:(r.getD k 0 != 0)=true:=by simpa using hz
     rw[hnz,cond_true,hn',hp,wrap64 (n:=sign*t) (by omega),wrap64 (by omega)]
   rw[hterm]
   have hneg:IntKind.i64.wrap (0-sign)= -sign:=by rcases hs with rfl|rfl <;>decide
   rw[hneg,ih (k+1) (out+sign*t) (-sign) (by omega) (by rcases hs with rfl|rfl <;>simp) (by rw[hltk];simp only[List.length_append,List.length_singleton];rw[Nat.succ_mul];omega)]
   rw[hge,hltk]
   simp only[altI,List.append_assoc,List.singleton_append]
   rw[←hun,←htt]
   grind
theorem pK_pos{K:Nat→Nat}(hK:∀c,1≤K c):∀l:List Nat,1≤pK K l:=by
 intro l
 induction l with
 |nil=>exact Nat.le_refl _
 |cons c l ih=>exact Nat.mul_pos (hK c) ih
theorem fact_pos:∀n,1≤fact n:=by
 intro n
 induction n with
 |zero=>exact Nat.le_refl _
 |succ n ih=>exact Nat.mul_pos (Nat.succ_pos n) ih
theorem un_perm{n u k:Nat}(hn:n≤5)(hu:u<32)(hk:k<n)(hb:u.testBit k=false):(k::un n (u |||2^k)).Perm (un n u):=by
 rw[un_or n hn u hu k hk hb,←un_ge n u]
 have h:∀j,j≤n→unge n u 0=unlt u j++unge n u j:=by
  intro j hj
  unfold unge unlt
  rw[←List.filter_append,List.range_eq_range']
  congr 1
  have:=List.range'_append_1 (s:=0) (m:=j) (n:=n-j)
  rw[Nat.zero_add]at this
  rw[this,Nat.add_sub_cancel' hj,Nat.sub_zero]
 rw[h k (by omega),unge_cons hk,hb]
 simp only[Bool.false_eq_true,if_false,List.singleton_append]
 exact List.perm_middle.symm
theorem minor_eq{n:Nat}{m:List (List Int)}{K:Nat→Nat}(hn:n≤5)(hK:∀c,1≤K c)(hrow:∀r,r∈m→r.length=n)(hent:∀r,r∈m→∀c,c<n→(en r c).natAbs≤K c) :
  ∀(d i u:Nat),i+d=m.length→u<32→(un n u).length=d→fact d*pK K (un n u)<9223372036854775808→M.minor m d i u=DI en (m.drop i) (un n u):=by
 intro d
 induction d with
 |zero=>
  intro i u hi hu hl _
  have h1:m.drop i=[]:=List.drop_of_length_le (by omega)
  rw[h1]
  rfl
 |succ d ih=>
  intro i u hi hu hl hb
  have him:i<m.length:=by omega
  rw[drop_cons (d:=[]) him]
  simp only[M.minor,DI]
  have hmem:m.getD i []∈m:=by rw[List.getD_eq_getElem?_getD,List.getElem?_eq_getElem him];exact List.getElem_mem him
  have hcast:((i:Nat):Int)+1=((i+1:Nat):Int):=by omega
  rw[hcast,show((i:Nat):Int).toNat=i by omega]
  have hperm:∀k,k<n→u.testBit k=false→(k::un n (u |||2^k)).Perm (un n u):=fun k hk hbit=>un_perm hn hu hk hbit
  have hlen:∀k,k<n→u.testBit k=false→(un n (u |||2^k)).length=d:=by
   intro k hk hbit
   have:=(hperm k hk hbit).length_eq
   simp at this;omega
  have hpk:∀k,k<n→u.testBit k=false→K k*pK K (un n (u |||2^k))=pK K (un n u):=fun k hk hbit=>pK_perm (K:=K) (hperm k hk hbit)
  have hinner:∀k,k<n→u.testBit k=false→M.minor m d ((i+1:Nat):Int) (M.use u k)=DI en (m.drop (i+1)) (un n (u |||2^k)):=by
   intro k hk hbit
   rw[use_eq u hu k (by omega)]
   refine ih (i+1) _ (by omega) (or_lt u hu k (by omega)) (hlen k hk hbit) ?_
   refine Nat.lt_of_le_of_lt ?_ hb
   rw[←hpk k hk hbit]
   have:fact d≤fact (d+1):=by simp only[fact];rw[Nat.succ_mul];omega
   calc fact d*pK K (un n (u |||2^k))≤fact (d+1)*pK K (un n (u |||2^k)):=Nat.mul_le_mul_right _ this
    _≤fact (d+1)*(K k*pK K (un n (u |||2^k))):=Nat.mul_le_mul_left _ (Nat.le_mul_of_pos_left _ (hK k))
  have key:=row_eq (n:=n) (r:=m.getD i []) (u:=u) (rec:=fun u=>M.minor m d ((i+1:Nat):Int) u) (F:=fun cs=>DI en (m.drop (i+1)) cs) (T:=fact d*pK K (un n u)) hn hu (hrow _ hmem) hinner
   (fun k hk hbit=>by
    have h1:=hent _ hmem k hk
    have h2:=DI_bound (f:=en) (K:=K) (rows:=m.drop (i+1)) (cols:=un n (u |||2^k)) (by rw[hlen k hk hbit];simp;omega) (fun r hr c hc=>hent r (List.mem_of_mem_drop hr) c (by
     have:c∈un n (u |||2^k):=hc
     unfold un at this
     exact List.mem_range.1 (List.mem_filter.1 this).1))
    rw[hlen k hk hbit]at h2
    rw[Int.natAbs_mul,←hpk k hk hbit]
    calc (en (m.getD i []) k).natAbs*(DI en (m.drop (i+1)) (un n (u |||2^k))).natAbs≤K k*(fact d*pK K (un n (u |||2^k))):=Nat.mul_le_mul h1 h2
     _=fact d*(K k*pK K (un n (u |||2^k))):=Nat.mul_left_comm _ _ _)
   (by rw[hl,←Nat.mul_assoc];exact hb)
   (fun k hk hbit=>Nat.lt_of_le_of_lt (hent _ hmem k hk) (by
    refine Nat.lt_of_le_of_lt ?_ hb
    rw[←hpk k hk hbit]
    calc K k≤K k*pK K (un n (u |||2^k)):=Nat.le_mul_of_pos_right _ (pK_pos hK _)
     _≤fact (d+1)*(K k*pK K (un n (u |||2^k))):=Nat.le_mul_of_pos_left _ (fact_pos _)))
   n 0 0 1 (by omega) (.inl rfl) (by simp)
  rw[List.drop_zero,un_ge]at key
  rw[show((0:Nat):Int)=0 from rfl]at key
  rw[key]
  simp only[Int.zero_add,Int.one_mul]
  rfl
theorem det_eq{n:Nat}{m:List (List Int)}{K:Nat→Nat}(hn:n≤5)(hK:∀c,1≤K c)(hl:m.length=n)(hrow:∀r,r∈m→r.length=n)(hent:∀r,r∈m→∀c,c<n→(en r c).natAbs≤K c)
  (hb:fact n*pK K (List.range n)<9223372036854775808):M.det m=DI en m (List.range n):=by
 have h0:un n 0=List.range n:=by unfold un;simp
 have:=minor_eq hn hK hrow hent n 0 0 (by omega) (by decide) (by rw[h0];simp) (by rw[h0];exact hb)
 rw[h0,List.drop_zero]at this
 unfold M.det
 rw[hl]
 exact this
end Go.Bl
end
section
set_option maxRecDepth 100000
namespace Go.Bl
open Go.V Go.Proofs Go.Lp
section
variable {α β γ : Type}
theorem altI_congr_mem{f g:β→List β→Int}:∀{l:List β},(∀c cs,c∈l→(∀d,d∈cs→d∈l)→f c cs=g c cs)→altI f l=altI g l:=by
 intro l
 induction l generalizing f g with
 |nil=>intro _;rfl
 |cons c cs ih=>
  intro e
  simp only[altI]
  rw[e c cs (List.mem_cons_self ..) (fun d hd=>List.mem_cons_of_mem _ hd),ih (f:=fun d ds=>f d (c::ds)) (g:=fun d ds=>g d (c::ds)) fun d ds hd hds=>e d (c::ds) (List.mem_cons_of_mem _ hd) (fun x hx=>by
   rcases List.mem_cons.1 hx with rfl|hx
   ·exact List.mem_cons_self ..
   ·exact List.mem_cons_of_mem _ (hds x hx))]
theorem DI_congr{f g:α→β→Int}:∀{rows:List α} {cols:List β},(∀r,r∈rows→∀c,c∈cols→f r c=g r c)→DI f rows cols=DI g rows cols:=by
 intro rows
 induction rows with
 |nil=>intro cols _;rfl
 |cons r rs ih=>
  intro cols h
  simp only[DI]
  exact altI_congr_mem fun c cs hc hcs=>by rw[h r (List.mem_cons_self ..) c hc,ih fun q hq d hd=>h q (List.mem_cons_of_mem _ hq) d (hcs d hd)]
theorem DI_map{f:α→β→Int}{g:γ→α}:∀{rows:List γ} {cols:List β},DI f (rows.map g) cols=DI (fun r c=>f (g r) c) rows cols:=by
 intro rows
 induction rows with
 |nil=>intro cols;rfl
 |cons r rs ih=>intro cols;simp only[List.map_cons,DI];exact altI_congr fun c cs _=>by rw[ih]
theorem altI_map{g:γ→β}:∀{l:List γ} {f:β→List β→Int},altI f (l.map g)=altI (fun c cs=>f (g c) (cs.map g)) l:=by
 intro l
 induction l with
 |nil=>intro f;rfl
 |cons c cs ih=>intro f;simp only[List.map_cons,altI];rw[ih]
theorem DI_mapc{f:α→β→Int}{g:γ→β}:∀{rows:List α} {cols:List γ},DI f rows (cols.map g)=DI (fun r c=>f r (g c)) rows cols:=by
 intro rows
 induction rows with
 |nil=>intro cols;rfl
 |cons r rs ih=>intro cols;simp only[DI];rw[altI_map];exact altI_congr fun c cs _=>by rw[ih]
theorem DI_turn{f:α→β→Int}{rows:List α}{cols:List β}(h:rows.length=cols.length):DI f rows cols=DI (fun b a=>f a b) cols rows:=by
 apply Rat.intCast_inj.1
 rw[D_cast,D_cast,D_turn h]
end
theorem range_getD{α:Type}{l:List α}{d:α}:(List.range l.length).map (fun i=>l.getD i d)=l:=by
 apply List.ext_getElem
 ·simp
 ·intro i h1 h2;simp[h2]
theorem turned_DI{n:Nat}{m:List (List Int)}(hl:m.length=n):DI en (M.turned m) (List.range n)=DI en m (List.range n):=by
 rw[DI_turn (f:=en) (rows:=m) (by simp[hl])]
 conv=>rhs;rw[←range_getD (l:=m) (d:=[]),hl,DI_mapc]
 unfold M.turned
 rw[hl,DI_map]
 refine DI_congr fun k hk i hi=>?_
 have hi:=List.mem_range.1 hi
 have hk:=List.mem_range.1 hk
 simp only[en]
 rw[List.getD_eq_getElem?_getD,List.getElem?_map,List.getElem?_range hi]
 rfl
theorem det_small{n:Nat}{m:List (List Int)}(hn:n≤5)(hl:m.length=n)(hrow:∀r,r∈m→r.length=n)(hent:∀r,r∈m→∀c,(en r c).natAbs≤1000):M.det m=DI en m (List.range n):=by
 refine det_eq (K:=fun _=>1000) hn (fun _=>by decide) hl hrow (fun r hr c _=>hent r hr c) ?_
 match n,hn with
 |0,_=>decide
 |1,_=>decide
 |2,_=>decide
 |3,_=>decide
 |4,_=>decide
 |5,_=>decide
theorem getD_small{l:List Int}{K:Nat}(h:∀x,x∈l→x.natAbs≤K)(c:Nat):(en l c).natAbs≤K:=by
 unfold en
 rw[List.getD_eq_getElem?_getD]
 cases hg:l[c]? with
 |none=>simp
 |some x=>exact h x (List.mem_of_getElem? hg)
theorem turnOK{sh:List Int}{cs:List Cond}(hn:sh.length≤5)(hs:∀x,x∈sh→x.natAbs≤1000)(hc:∀c,c∈cs→c.coefs.length=sh.length∧∀x,x∈c.coefs→x.natAbs≤1000):TurnOK sh cs:=by
 intro set hset hmem hd
 have hl:(M.mat sh set).length=sh.length:=by simp[M.mat];omega
 have hrow:∀r,r∈M.mat sh set→r.length=sh.length:=by
  intro r hr
  rcases List.mem_cons.1 hr with rfl|hr
  ·rfl
  ·obtain⟨c,hcm,rfl⟩:=List.mem_map.1 hr
   exact(hc c (hmem c hcm)).1
 have hent:∀r,r∈M.mat sh set→∀c,(en r c).natAbs≤1000:=by
  intro r hr c
  rcases List.mem_cons.1 hr with rfl|hr
  ·exact getD_small hs c
  ·obtain⟨d,hcm,rfl⟩:=List.mem_map.1 hr
   exact getD_small (hc d (hmem d hcm)).2 c
 rw[det_small hn hl hrow hent]at hd
 rw[det_small hn (turned_len.1.trans hl) (fun r hr=>(turned_len.2 r hr).trans hl) ?_,turned_DI hl]
 ·exact hd
 ·intro r hr c
  refine getD_small (fun x hx=>?_) c
  unfold M.turned at hr
  obtain⟨k,_,rfl⟩:=List.mem_map.1 hr
  obtain⟨i,hi,rfl⟩:=List.mem_map.1 hx
  have hi:=List.mem_range.1 hi
  have:(M.mat sh set).getD i []∈M.mat sh set:=by rw[List.getD_eq_getElem?_getD,List.getElem?_eq_getElem hi];exact List.getElem_mem hi
  exact hent _ this k
end Go.Bl
end
section
set_option maxRecDepth 100000
namespace Go.Bl
open Go.V Go.Proofs
namespace M
def OkB(k:Nat)(b:Int):Prop:=(97≤b∧b≤122)∨(65≤b∧b≤90)∨(k≠0∧(b=45∨(48≤b∧b≤57)))
instance (k:Nat) (b:Int):Decidable (OkB k b):=by unfold OkB;infer_instance
def isName(s:ByteArray):Bool:=decide (1≤s.size∧s.size≤12∧∀k,k<s.size→OkB k (byteAt s k))
end M
theorem name_no{s:ByteArray}(h:¬(1≤s.size∧s.size≤12∧∀k,k<s.size→M.OkB k (byteAt s k))):rsEqv [rB false] [rB (M.isName s)]:=by
 have:M.isName s=false:=decide_eq_false h
 rw[this];exact rsEqv_refl _
theorem name_yes{s:ByteArray}(h:1≤s.size∧s.size≤12∧∀k,k<s.size→M.OkB k (byteAt s k)):rsEqv [rB true] [rB (M.isName s)]:=by
 have:M.isName s=true:=decide_eq_true h
 rw[this];exact rsEqv_refl _
theorem ba_loop(bs:ByteArray):∀(d i:Nat) (r:List UInt8),bs.size-i=d→ByteArray.toList.loop bs i r=r.reverse++bs.data.toList.drop i:=by
 intro d
 induction d with
 |zero=>
  intro i r h
  rw[ByteArray.toList.loop]
  have hs:bs.size=bs.data.toList.length:=rfl
  rw[if_neg (by omega),List.drop_of_length_le (by omega),List.append_nil]
 |succ d ih=>
  intro i r h
  rw[ByteArray.toList.loop]
  have hs:bs.size=bs.data.toList.length:=rfl
  rw[if_pos (by omega),ih (i+1) _ (by omega)]
  have hi:i<bs.data.toList.length:=by omega
  rw[List.drop_eq_getElem_cons hi,List.reverse_cons,List.append_assoc]
  congr 2
  have hi':i<bs.data.size:=hi
  simp only[List.singleton_append]
  congr 1
  show bs.data[i]! = _
  rw[getElem!_pos bs.data i hi']
  simp
theorem ba_toList(bs:ByteArray):bs.toList=bs.data.toList:=by
 unfold ByteArray.toList
 rw[ba_loop bs _ 0 [] rfl]
 simp
theorem ba_size(s:ByteArray):s.size=s.data.toList.length:=rfl
theorem ba_ne(s:ByteArray):(!s.toList==ByteArray.toList {data:={toList:=[]}})=decide (s.size≠0):=by
 rw[ba_toList,ba_toList,ba_size]
 cases s.data.toList <;>rfl
def tr104(s:ByteArray):T (List Ar):=
  T.loop (Int×PUnit) ((0:Int),PUnit.unit) fun(x:Int×PUnit)=>T.br (decide (x.1<(Nat.cast (R:=Int) (ByteArray.size s)))) (T.need ((0:Int)≤x.1) (T.need (x.1<(Nat.cast (R:=Int) (ByteArray.size s))) (T.br (decide ((byteAt s (Nat.cast (R:=Int) x.1.toNat))≥(97:Int))) (T.br (decide ((byteAt s (Nat.cast (R:=Int) x.1.toNat))≤122)) (T.ret (Sum.inl (IntKind.i64.wrap (x.1+1),PUnit.unit))) (T.br (decide ((byteAt s (Nat.cast (R:=Int) x.1.toNat))≥(65:Int))) (T.br (!decide ((byteAt s (Nat.cast (R:=Int) x.1.toNat))≤90)) (T.br (x.1==0) (T.ret (Sum.inr [Ar.c (D.bool false)])) (T.br ((byteAt s (Nat.cast (R:=Int) x.1.toNat)) != (45:Int)) (T.br (decide ((byteAt s (Nat.cast (R:=Int) x.1.toNat))<48)) (T.ret (Sum.inr [Ar.c (D.bool false)])) (T.br (decide ((byteAt s (Nat.cast (R:=Int) x.1.toNat))>(57:Int))) (T.ret (Sum.inr [Ar.c (D.bool false)])) (T.ret (Sum.inl (IntKind.i64.wrap (x.1+1),PUnit.unit))))) (T.ret (Sum.inl (IntKind.i64.wrap (x.1+1),PUnit.unit))))) (T.ret (Sum.inl (IntKind.i64.wrap (x.1+1),PUnit.unit)))) (T.br (x.1==0) (T.ret (Sum.inr [Ar.c (D.bool false)])) (T.br ((byteAt s (Nat.cast (R:=Int) x.1.toNat)) != (45:Int)) (T.br (decide ((byteAt s (Nat.cast (R:=Int) x.1.toNat))<48)) (T.ret (Sum.inr [Ar.c (D.bool false)])) (T.br (decide ((byteAt s (Nat.cast (R:=Int) x.1.toNat))>(57:Int))) (T.ret (Sum.inr [Ar.c (D.bool false)])) (T.ret (Sum.inl (IntKind.i64.wrap (x.1+1),PUnit.unit))))) (T.ret (Sum.inl (IntKind.i64.wrap (x.1+1),PUnit.unit))))))) (T.br (decide ((byteAt s (Nat.cast (R:=Int) x.1.toNat))≥(65:Int))) (T.br (!decide ((byteAt s (Nat.cast (R:=Int) x.1.toNat))≤90)) (T.br (x.1==0) (T.ret (Sum.inr [Ar.c (D.bool false)])) (T.br ((byteAt s (Nat.cast (R:=Int) x.1.toNat)) != (45:Int)) (T.br (decide ((byteAt s (Nat.cast (R:=Int) x.1.toNat))<48)) (T.ret (Sum.inr [Ar.c (D.bool false)])) (T.br (decide ((byteAt s (Nat.cast (R:=Int) x.1.toNat))>(57:Int))) (T.ret (Sum.inr [Ar.c (D.bool false)])) (T.ret (Sum.inl (IntKind.i64.wrap (x.1+1),PUnit.unit))))) (T.ret (Sum.inl (IntKind.i64.wrap (x.1+1),PUnit.unit))))) (T.ret (Sum.inl (IntKind.i64.wrap (x.1+1),PUnit.unit)))) (T.br (x.1==0) (T.ret (Sum.inr [Ar.c (D.bool false)])) (T.br ((byteAt s (Nat.cast (R:=Int) x.1.toNat)) != (45:Int)) (T.br (decide ((byteAt s (Nat.cast (R:=Int) x.1.toNat))<48)) (T.ret (Sum.inr [Ar.c (D.bool false)])) (T.br (decide ((byteAt s (Nat.cast (R:=Int) x.1.toNat))>(57:Int))) (T.ret (Sum.inr [Ar.c (D.bool false)])) (T.ret (Sum.inl (IntKind.i64.wrap (x.1+1),PUnit.unit))))) (T.ret (Sum.inl (IntKind.i64.wrap (x.1+1),PUnit.unit))))))))) (T.br (!ByteArray.toList s==ByteArray.toList {data:={toList:=[]}}) (T.ret (Sum.inr [Ar.c (D.bool (decide ((Nat.cast (R:=Int) (ByteArray.size s))≤12)))])) (T.ret (Sum.inr [Ar.c (D.bool false)])))
theorem t104(s:ByteArray):runFnX Try.prog G0 (lookS []) (fun _=>[(2,[.slot 9 (.int .i64)],none)]) [] 1 40 3 104 Try.f104 [.c (.str s)] =
  tr104 s:=by kernel_rfl
def tr105(s:ByteArray):T (List Ar):=
  T.br (decide ((Nat.cast (R:=Int) (ByteArray.size s))<1)) (T.ret [Ar.c (D.bool false)]) (T.br (decide ((Nat.cast (R:=Int) (ByteArray.size s))>(12:Int))) (T.ret [Ar.c (D.bool false)]) (T.loop (Int×PUnit) ((0:Int),PUnit.unit) fun(x:Int×PUnit)=>T.br (decide (x.1<(Nat.cast (R:=Int) (ByteArray.size s)))) (T.need ((0:Int)≤x.1) (T.need (x.1<(Nat.cast (R:=Int) (ByteArray.size s))) (T.br (decide ((byteAt s x.1)≥(97:Int))) (T.br (decide ((byteAt s x.1)≤122)) (T.ret (Sum.inl (IntKind.i64.wrap (x.1+1),PUnit.unit))) (T.br (decide ((byteAt s x.1)≥(65:Int))) (T.br (!decide ((byteAt s x.1)≤90)) (T.br (x.1==0) (T.ret (Sum.inr [Ar.c (D.bool false)])) (T.br ((byteAt s x.1) != (45:Int)) (T.br (decide ((byteAt s x.1)<48)) (T.ret (Sum.inr [Ar.c (D.bool false)])) (T.br (decide ((byteAt s x.1)>(57:Int))) (T.ret (Sum.inr [Ar.c (D.bool false)])) (T.ret (Sum.inl (IntKind.i64.wrap (x.1+1),PUnit.unit))))) (T.ret (Sum.inl (IntKind.i64.wrap (x.1+1),PUnit.unit))))) (T.ret (Sum.inl (IntKind.i64.wrap (x.1+1),PUnit.unit)))) (T.br (x.1==0) (T.ret (Sum.inr [Ar.c (D.bool false)])) (T.br ((byteAt s x.1) != (45:Int)) (T.br (decide ((byteAt s x.1)<48)) (T.ret (Sum.inr [Ar.c (D.bool false)])) (T.br (decide ((byteAt s x.1)>(57:Int))) (T.ret (Sum.inr [Ar.c (D.bool false)])) (T.ret (Sum.inl (IntKind.i64.wrap (x.1+1),PUnit.unit))))) (T.ret (Sum.inl (IntKind.i64.wrap (x.1+1),PUnit.unit))))))) (T.br (decide ((byteAt s x.1)≥(65:Int))) (T.br (!decide ((byteAt s x.1)≤90)) (T.br (x.1==0) (T.ret (Sum.inr [Ar.c (D.bool false)])) (T.br ((byteAt s x.1) != (45:Int)) (T.br (decide ((byteAt s x.1)<48)) (T.ret (Sum.inr [Ar.c (D.bool false)])) (T.br (decide ((byteAt s x.1)>(57:Int))) (T.ret (Sum.inr [Ar.c (D.bool false)])) (T.ret (Sum.inl (IntKind.i64.wrap (x.1+1),PUnit.unit))))) (T.ret (Sum.inl (IntKind.i64.wrap (x.1+1),PUnit.unit))))) (T.ret (Sum.inl (IntKind.i64.wrap (x.1+1),PUnit.unit)))) (T.br (x.1==0) (T.ret (Sum.inr [Ar.c (D.bool false)])) (T.br ((byteAt s x.1) != (45:Int)) (T.br (decide ((byteAt s x.1)<48)) (T.ret (Sum.inr [Ar.c (D.bool false)])) (T.br (decide ((byteAt s x.1)>(57:Int))) (T.ret (Sum.inr [Ar.c (D.bool false)])) (T.ret (Sum.inl (IntKind.i64.wrap (x.1+1),PUnit.unit))))) (T.ret (Sum.inl (IntKind.i64.wrap (x.1+1),PUnit.unit))))))))) (T.ret (Sum.inr [Ar.c (D.bool true)]))))
theorem t105(s:ByteArray):runFnX Try.prog G0 (lookS []) (fun _=>[(4,[.slot 3 (.int .i64)],none)]) [] 1 40 3 105 Try.f105 [.c (.str s)] =
  tr105 s:=by kernel_rfl
theorem loop_name{s:ByteArray}(h12:s.size≤1000000){k:Nat}(hlt:k<s.size)(hI:∀j,j<k→M.OkB j (byteAt s j)){b:Int}(hb:byteAt s k=b)(hok:M.OkB k b):k<s.size∧IntKind.i64.wrap ((k:Int)+1)=((k+1:Nat):Int)∧∀j,j<k+1→M.OkB j (byteAt s j):=by
 refine⟨hlt,wrap_succ (by omega),fun j hj=>?_⟩
 rcases Nat.lt_or_ge j k with h|h
 ·exact hI j h
 ·obtain rfl:j=k:=by omega
  rw[hb];exact hok
theorem w104(s:ByteArray)(h:s.size≤1000000):(tr104 s).wp (fun rs=>rsEqv rs [rB (M.isName s)]):=by
 unfold tr104
 refine range_wp (n:=s.size) (fun k _=>∀j,j<k→M.OkB j (byteAt s j)) (fun j hj=>by omega) ?_
 rintro k u hk hI
 simp only[Int.toNat_natCast,ba_ne]
 refine⟨fun hb=>?_,fun hb=>?_⟩
 ·have hlt:=lt_of_dec hb
  refine⟨by omega,by omega,?_⟩
  clear hb
  obtain⟨b,hbb⟩:∃b,byteAt s k=b:=⟨_,rfl⟩
  simp only[hbb]
  repeat' (refine wp_br (fun hh=>?_) (fun hh=>?_))
  all_goals(simp only[decide_eq_true_eq,decide_eq_false_iff_not,bne_iff_ne,ne_eq,beq_iff_eq,Bool.not_eq_true',bne_eq_false_iff_eq,beq_eq_false_iff_ne,Bool.not_eq_false',Int.natCast_eq_zero]at *)
  all_goals first
   |exact loop_name h hlt hI hbb (by unfold M.OkB;omega)
   |exact name_no (fun⟨_,_,g⟩=>by have:=g k hlt;rw[hbb]at this;unfold M.OkB at this;omega)
 ·have hge:=ge_of_dec hb
  obtain rfl:k=s.size:=by omega
  clear hb
  refine⟨fun h1=>?_,fun h1=>?_⟩
  ·have h1:s.size≠0:=of_decide_eq_true h1
   by_cases h2:s.size≤12
   ·have e:decide ((s.size:Int)≤12)=true:=by simpa using(by omega:(s.size:Int)≤12)
    show rsEqv [rB (decide ((s.size:Int)≤12))] _
    rw[e]
    exact name_yes ⟨by omega,h2,hI⟩
   ·have e:decide ((s.size:Int)≤12)=false:=by simpa using(by omega:¬(s.size:Int)≤12)
    show rsEqv [rB (decide ((s.size:Int)≤12))] _
    rw[e]
    exact name_no (fun⟨_,g,_⟩=>h2 g)
  ·have h1:s.size=0:=Decidable.not_not.1 (of_decide_eq_false h1)
   exact name_no (fun⟨g,_,_⟩=>by omega)
def dom104:DomF
 |[.c (.str s)]=>some ([s.size≤1000000],[rB (M.isName s)])
 |_=>none
def v104:Nat×Sm:=(104,fokSm dom104)
theorem C104:FOK Try.prog G0 gw 104 dom104:=by
 intro ags p r hd hp κ w xs hw hl hG hx
 unfold dom104 at hd
 split at hd
 ·rename_i s
  simp only[Option.some.injEq,Prod.mk.injEq]at hd
  obtain⟨rfl,rfl⟩:=hd
  exact fokX_fin mixed gw_stable (sl:=[]) trivial Try.func104 hw hl hG hx (agsEqv_refl _) rfl (t104 s) (w104 s hp.1)
 ·cases hd
theorem S104:SumOK Try.prog G0 gw 104 (fokSm dom104):=fok_sum Try.func104 rfl C104
theorem w105(s:ByteArray)(h:s.size≤1000000):(tr105 s).wp (fun rs=>rsEqv rs [rB (M.isName s)]):=by
 unfold tr105
 refine⟨fun h1=>?_,fun h1=>?_⟩
 ·have h1:(s.size:Int)<1:=by simpa using h1
  exact name_no (fun⟨g,_,_⟩=>by omega)
 have h1:¬(s.size:Int)<1:=by simpa using h1
 refine⟨fun h2=>?_,fun h2=>?_⟩
 ·have h2:(s.size:Int)>12:=by simpa using h2
  exact name_no (fun⟨_,g,_⟩=>by omega)
 have h2:¬(s.size:Int)>12:=by simpa using h2
 refine range_wp (n:=s.size) (fun k _=>∀j,j<k→M.OkB j (byteAt s j)) (fun j hj=>by omega) ?_
 rintro k u hk hI
 refine⟨fun hb=>?_,fun hb=>?_⟩
 ·have hlt:=lt_of_dec hb
  refine⟨by omega,by omega,?_⟩
  clear hb
  obtain⟨b,hbb⟩:∃b,byteAt s k=b:=⟨_,rfl⟩
  simp only[hbb]
  repeat' (refine wp_br (fun hh=>?_) (fun hh=>?_))
  all_goals(simp only[decide_eq_true_eq,decide_eq_false_iff_not,bne_iff_ne,ne_eq,beq_iff_eq,Bool.not_eq_true',bne_eq_false_iff_eq,beq_eq_false_iff_ne,Bool.not_eq_false',Int.natCast_eq_zero]at *)
  all_goals first
   |exact loop_name h hlt hI hbb (by unfold M.OkB;omega)
   |exact name_no (fun⟨_,_,g⟩=>by have:=g k hlt;rw[hbb]at this;unfold M.OkB at this;omega)
 ·have hge:=ge_of_dec hb
  obtain rfl:k=s.size:=by omega
  exact name_yes ⟨by omega,by omega,hI⟩
def dom105:DomF
 |[.c (.str s)]=>some ([s.size≤1000000],[rB (M.isName s)])
 |_=>none
def v105:Nat×Sm:=(105,fokSm dom105)
theorem C105:FOK Try.prog G0 gw 105 dom105:=by
 intro ags p r hd hp κ w xs hw hl hG hx
 unfold dom105 at hd
 split at hd
 ·rename_i s
  simp only[Option.some.injEq,Prod.mk.injEq]at hd
  obtain⟨rfl,rfl⟩:=hd
  exact fokX_fin mixed gw_stable (sl:=[]) trivial Try.func105 hw hl hG hx (agsEqv_refl _) rfl (t105 s) (w105 s hp.1)
 ·cases hd
theorem S105:SumOK Try.prog G0 gw 105 (fokSm dom105):=fok_sum Try.func105 rfl C105
end Go.Bl
end
section
set_option maxRecDepth 100000
namespace Go.Bl
open Go.V Go.Proofs
theorem t64(q:Bool)(l:List Int):runFnX Try.prog G0 (lookS []) (fun _=>[(2,[.slot 7 (.int .i64)],none)]) [] 1 40 3 64 Try.f64 [.c (.sl q l.length 1 (eI.F l))] =
  T.loop (Int×PUnit) ((0:Int),PUnit.unit) fun(x:Int×PUnit)=>T.br (decide (x.1<(l.length:Int))) (T.need ((0:Int)≤x.1) (T.need (x.1<(l.length:Int)) (T.br (l.getD x.1.toNat (0:Int) != (0:Int)) (T.ret (Sum.inr [Ar.c (D.int IntKind.i64 (l.getD x.1.toNat (0:Int)))])) (T.ret (Sum.inl (IntKind.i64.wrap (x.1+1),PUnit.unit)))))) (T.ret (Sum.inr [Ar.c (D.int IntKind.i64 (0:Int))])):=by kernel_rfl
theorem C64:FOK Try.prog G0 gw 64 dom64:=by
 intro ags p r hd hp κ w xs hw hl hG hx
 unfold dom64 at hd
 split at hd
 ·rename_i q len st F
  split at hd
  ·rename_i l hst hls
   simp only[Bool.and_eq_true]at hst
   have h1:=Nat.eq_of_beq_eq_true hst.1
   have h2:=Nat.le_of_ble_eq_true hst.2
   subst h1
   obtain⟨hlen,hF⟩:=intsL_spec hls
   simp only[Option.some.injEq,Prod.mk.injEq]at hd
   obtain⟨rfl,rfl⟩:=hd
   subst hlen
   refine fokX_fin mixed gw_stable (sl:=[]) trivial Try.func64 hw hl hG hx (ags':=[.c (.sl q l.length 1 (eI.F l))]) ⟨⟨id,rfl,fun _=>rfl,fun i j hi hj=>?_⟩,trivial⟩ rfl (t64 q l) ?_
   ·obtain rfl:j=0:=by omega
    rw[hF i hi];exact D.eqv_refl _
   ·refine⟨fun x=>0≤x.1∧x.1≤l.length∧M.first l=M.first (l.drop x.1.toNat),fun x=>l.length-x.1.toNat,⟨Int.le_refl _,by simp,by simp⟩,fun x ⟨g1,g2,g3⟩=>?_⟩
    obtain⟨k,u⟩:=x
    simp only at g1 g2 g3
    simp only[T.wp,LoopP,decide_eq_true_eq,decide_eq_false_iff_not,bne_iff_ne,ne_eq,bne_eq_false_iff_eq]
    refine⟨fun hlt=>⟨g1,hlt,fun hne=>?_,fun heq=>?_⟩,fun hge=>?_⟩
    ·have hk:k.toNat<l.length:=by omega
     rw[g3,getD_drop (d:=0) hk]
     have:(l.getD k.toNat 0 != 0)=true:=by simpa using hne
     simp only[M.first,this,cond_true]
     exact rsEqv_refl _
    ·have hk:k.toNat<l.length:=by omega
     rw[wrap_id (by omega) (by omega)]
     refine⟨⟨by omega,by omega,?_⟩,by omega⟩
     rw[g3,getD_drop (d:=0) hk,show(k+1).toNat=k.toNat+1 by omega]
     simp only[M.first]
     rw[heq];rfl
    ·have hk:l.length≤k.toNat:=by omega
     rw[g3,List.drop_of_length_le hk]
     exact rsEqv_refl _
  ·cases hd
 ·cases hd
theorem S64:SumOK Try.prog G0 gw 64 (fokSm dom64):=fok_sum Try.func64 rfl C64
theorem t80(b:Bool)(e:Int):runFnX Try.prog G0 (lookS []) (fun _=>[]) [] 1 40 3 80 Try.f80 [.c (.bool b),.c (dI e)] =
  T.br b (T.ret [Ar.c (D.int IntKind.i64 (0:Int))]) (T.ret [Ar.c (D.int IntKind.i64 e)]):=by kernel_rfl
theorem C80:FOK Try.prog G0 gw 80 dom80:=by
 intro ags p r hd hp κ w xs hw hl hG hx
 unfold dom80 at hd
 split at hd
 ·rename_i b e
  simp only[Option.some.injEq,Prod.mk.injEq]at hd
  obtain⟨rfl,rfl⟩:=hd
  refine fokX_fin mixed gw_stable (sl:=[]) trivial Try.func80 hw hl hG hx (agsEqv_refl _) rfl (t80 b e) ?_
  exact⟨fun h=>by subst h;exact rsEqv_refl _,fun h=>by subst h;exact rsEqv_refl _⟩
 ·cases hd
theorem S80:SumOK Try.prog G0 gw 80 (fokSm dom80):=fok_sum Try.func80 rfl C80
theorem t102(n lo hi:Int):runFnX Try.prog G0 (lookS []) (fun _=>[]) [] 1 40 3 102 Try.f102 [.c (dI n),.c (dI lo),.c (dI hi)] =
  T.br (decide (lo≤n)) (T.ret [Ar.c (D.bool (decide (n≤hi)))]) (T.ret [Ar.c (D.bool false)]):=by kernel_rfl
theorem C102:FOK Try.prog G0 gw 102 dom102:=by
 intro ags p r hd hp κ w xs hw hl hG hx
 unfold dom102 at hd
 split at hd
 ·rename_i n lo hi
  simp only[Option.some.injEq,Prod.mk.injEq]at hd
  obtain⟨rfl,rfl⟩:=hd
  refine fokX_fin mixed gw_stable (sl:=[]) trivial Try.func102 hw hl hG hx (agsEqv_refl _) rfl (t102 n lo hi) ?_
  exact⟨fun h=>by unfold M.within;rw[h];exact rsEqv_refl _,fun h=>by unfold M.within;rw[h];exact rsEqv_refl _⟩
 ·cases hd
theorem S102:SumOK Try.prog G0 gw 102 (fokSm dom102):=fok_sum Try.func102 rfl C102
end Go.Bl
end
section
set_option maxRecDepth 100000
namespace Go.Bl
open Go.V Go.Proofs
def dom95:DomF
 |[.c (.int .i64 n)]=>some ([],[rB (M.within n 0 1000)])
 |_=>none
def v95:Nat×Sm:=(95,fokSm dom95)
def dom101:DomF
 |[.c (.int .i64 n)]=>some ([],[rB (M.within n 0 10000)])
 |_=>none
def v101:Nat×Sm:=(101,fokSm dom101)
namespace M
def allB(is:Int→Bool):List Int→Bool
 |[]=>true
 |n::l=>cond (is n) (allB is l) false
def isValue(n:Int):Bool:=within n 0 1000
end M
def dom103(f:Nat)(is:Int→Bool):DomF
 |[.c (.sl _ len st F),.c (.op (.func (.func g) a b))]=>(match Nat.beq st 1&&Nat.beq g f,a.toList,b.toList with
  |true,[],[]=>some ([eI.Is len F,len≤1000000],[rB (M.allB is (eI.list len F))])
  |_,_,_=>none)
 |_=>none
def v103:Nat×Sm:=(103,fokSm (dom103 95 M.isValue))
end Go.Bl
end
section
set_option maxRecDepth 100000
namespace Go.Bl
open Go.V Go.Proofs
theorem t95(n:Int):runFnX Try.prog G0 (lookS [v102]) (fun _=>[]) [] 1 40 3 95 Try.f95 [.c (dI n)] =
  T.ret [Ar.c (D.bool (M.within n (0:Int) (1000:Int)))]:=by kernel_rfl
theorem C95:FOK Try.prog G0 gw 95 dom95:=by
 intro ags p r hd hp κ w xs hw hl hG hx
 unfold dom95 at hd
 split at hd
 ·rename_i n
  simp only[Option.some.injEq,Prod.mk.injEq]at hd
  obtain⟨rfl,rfl⟩:=hd
  refine fokX_fin mixed gw_stable (sl:=[v102]) ⟨S102,trivial⟩ Try.func95 hw hl hG hx (agsEqv_refl _) rfl (t95 n) ?_
  exact rsEqv_refl _
 ·cases hd
theorem S95:SumOK Try.prog G0 gw 95 (fokSm dom95):=fok_sum Try.func95 rfl C95
theorem t101(n:Int):runFnX Try.prog G0 (lookS [v102]) (fun _=>[]) [] 1 40 3 101 Try.f101 [.c (dI n)] =
  T.ret [Ar.c (D.bool (M.within n (0:Int) (10000:Int)))]:=by kernel_rfl
theorem C101:FOK Try.prog G0 gw 101 dom101:=by
 intro ags p r hd hp κ w xs hw hl hG hx
 unfold dom101 at hd
 split at hd
 ·rename_i n
  simp only[Option.some.injEq,Prod.mk.injEq]at hd
  obtain⟨rfl,rfl⟩:=hd
  refine fokX_fin mixed gw_stable (sl:=[v102]) ⟨S102,trivial⟩ Try.func101 hw hl hG hx (agsEqv_refl _) rfl (t101 n) ?_
  exact rsEqv_refl _
 ·cases hd
theorem S101:SumOK Try.prog G0 gw 101 (fokSm dom101):=fok_sum Try.func101 rfl C101
theorem t103(q:Bool)(l:List Int):runFnX Try.prog G0 (lookS [v95]) (fun _=>[(2,[.slot 8 (.int .i64)],none)]) [127,146,128] 1 40 6 103 Try.f103 [.c (.sl q l.length 1 (eI.F l)),.c (.op (.func (.func 95) #[] #[]))] =
  T.loop (Int×PUnit) ((0:Int),PUnit.unit) fun(x:Int×PUnit)=>T.br (decide (x.1<(l.length:Int))) (T.need ((0:Int)≤x.1) (T.need (x.1<(l.length:Int)) (T.br (!M.within (l.getD x.1.toNat (0:Int)) (0:Int) (1000:Int)) (T.ret (Sum.inr [Ar.c (D.bool !decide (x.1≥(0:Int)))])) (T.ret (Sum.inl (IntKind.i64.wrap (x.1+1),PUnit.unit)))))) (T.ret (Sum.inr [Ar.c (D.bool !decide ((-1:Int)≥(0:Int)))])):=by kernel_rfl
theorem C103:FOK Try.prog G0 gw 103 (dom103 95 M.isValue):=by
 intro ags p r hd hp κ w xs hw hl hG hx
 unfold dom103 at hd
 split at hd
 ·rename_i q len st F g a b
  split at hd
  ·rename_i hst ha hb
   simp only[Bool.and_eq_true]at hst
   have h1:=Nat.eq_of_beq_eq_true hst.1
   have h2:=Nat.eq_of_beq_eq_true hst.2
   have ea:a= #[]:=by apply Array.ext';simpa using ha
   have eb:b= #[]:=by apply Array.ext';simpa using hb
   subst h1 h2 ea eb
   simp only[Option.some.injEq,Prod.mk.injEq]at hd
   obtain⟨rfl,rfl⟩:=hd
   obtain⟨hIs,hn,_⟩:=hp
   obtain⟨l,hll⟩:∃l,l=eI.list len F:=⟨_,rfl⟩
   have hlen:len=l.length:=by rw[hll,Enc.list_len]
   have heq:agsEqv [.c (.sl q len 1 F),.c (.op (.func (.func 95) #[] #[]))] [.c (.sl q l.length 1 (eI.F l)),.c (.op (.func (.func 95) #[] #[]))]:=by
    refine⟨?_,Ag.eqv_refl _,trivial⟩
    rw[hll];exact eI.to id hIs
   rw[←hll]
   refine fokX_fin mixed gw_stable (sl:=[v95]) ⟨S95,trivial⟩ Try.func103 hw hl hG hx heq rfl (t103 q l) ?_
   clear heq hx hIs hll hl hG
   subst hlen
   refine⟨fun x=>0≤x.1∧x.1≤l.length∧M.allB M.isValue l=M.allB M.isValue (l.drop x.1.toNat),fun x=>l.length-x.1.toNat,⟨Int.le_refl _,by simp,by simp⟩,?_⟩
   rintro ⟨k,u⟩ ⟨g1,g2,g3⟩
   simp only at g1 g2 g3
   refine⟨fun hlt=>?_,fun hge=>?_⟩
   ·have hlt:k<l.length:=by simpa using hlt
    have hk:k.toNat<l.length:=by omega
    have hdrop:M.allB M.isValue l=cond (M.within (l.getD k.toNat 0) 0 1000) (M.allB M.isValue (l.drop (k.toNat+1))) false:=by
     rw[g3,getD_drop (d:=0) hk];rfl
    refine⟨g1,hlt,fun hb=>?_,fun hb=>?_⟩
    ·have hb:M.within (l.getD k.toNat 0) 0 1000=false:=by simpa using hb
     rw[hdrop,hb]
     have hk0:(!decide (k≥0))=false:=by simp[g1]
     show rsEqv [Ar.c (D.bool (!decide (k≥0)))] _
     rw[hk0]
     exact rsEqv_refl _
    ·have hb:M.within (l.getD k.toNat 0) 0 1000=true:=by simpa using hb
     show _∧_
     have e2:IntKind.wrap IntKind.i64 (k+1)=k+1:=wrap_id (by omega) (by omega)
     simp only[e2]
     refine⟨⟨by omega,by omega,?_⟩,by omega⟩
     rw[hdrop,hb,show(k+1).toNat=k.toNat+1 by omega]
     rfl
   ·have hge:¬k<l.length:=by simpa using hge
    rw[g3,List.drop_of_length_le (l:=l) (by omega)]
    exact rsEqv_refl _
  ·cases hd
 ·cases hd
theorem S103:SumOK Try.prog G0 gw 103 (fokSm (dom103 95 M.isValue)):=fok_sum Try.func103 rfl C103
end Go.Bl
end
section
set_option maxRecDepth 100000
namespace Go.Bl
open Go.V Go.Proofs
def cAt(l:List Cask)(x:Int):Cask:=l.getD x.toNat dfC
theorem cAt_nat(l:List Cask)(k:Nat):cAt l (k:Int)=l.getD k dfC:=rfl
def kF(c:Cask):Nat→Nat→D:=fun i j=>List.getD [D.str c.nm,dI c.vol,dI c.cost,dI c.k0,dI c.k1,dI c.k2,dI c.k3] (3+(i+j)) .nilp
namespace M
def same(a b:Cask):Bool:=a.nm.data.toList==b.nm.data.toList
def dup(l:List Cask)(i:Nat):Bool:=(List.range i).any fun j=>same (l.getD j dfC) (l.getD i dfC)
def kindsOk(c:Cask):Bool:=allB isValue [c.k0,c.k1,c.k2,c.k3]
def rightC(c:Cask):Bool:=cond (within c.vol 0 10000) (cond (within c.cost 0 1000) (kindsOk c) false) false
def caskErr(l:List Cask)(i:Nat):Int:=first [unl (isName (l.getD i dfC).nm) 4,unl (!dup l i) 5,unl (rightC (l.getD i dfC)) 2]
def casksFrom(l:List Cask):Nat→Nat→Int×Int
 |0,_=>(0,0)
 |n+1,i=>cond (caskErr l i != 0) ((i:Int),caskErr l i) (casksFrom l n (i+1))
def checkCasks(l:List Cask):Int×Int:=cond (decide (l.length=0)) (0,10) (cond (decide (10<l.length)) (0,8) (casksFrom l l.length 0))
end M
theorem same_eq(a b:Cask):(a.nm.toList==b.nm.toList)=M.same a b:=by unfold M.same;rw[ba_toList,ba_toList]
theorem dup_yes{l:List Cask}{i j:Nat}(hj:j<i)(h:M.same (l.getD j dfC) (l.getD i dfC)=true):M.dup l i=true:=List.any_eq_true.2 ⟨j,List.mem_range.2 hj,h⟩
theorem dup_no{l:List Cask}{i:Nat}(h:∀j,j<i→M.same (l.getD j dfC) (l.getD i dfC)=false):M.dup l i=false:=by
 apply Bool.eq_false_iff.2
 intro e
 obtain⟨j,hj,h'⟩:=List.any_eq_true.1 e
 rw[h j (List.mem_range.1 hj)]at h'
 cases h'
theorem caskErr_eq{l:List Cask}{k:Nat}{a b c:Bool}(h1:M.isName (l.getD k dfC).nm=a)(h2:M.dup l k=b)(h3:M.rightC (l.getD k dfC)=c):M.caskErr l k=M.first [M.unl a 4,M.unl (!b) 5,M.unl c 2]:=by
 unfold M.caskErr;rw[h1,h2,h3]
theorem from_hit{l:List Cask}{n k:Nat}(hk:k<n)(h:M.caskErr l k≠0):M.casksFrom l (n-k) k=((k:Int),M.caskErr l k):=by
 obtain⟨m,hm⟩:∃m,n-k=m+1:=⟨n-k-1,by omega⟩
 rw[hm]
 have:(M.caskErr l k != 0)=true:=bne_iff_ne.2 h
 simp only[M.casksFrom,this,cond_true]
theorem from_next{l:List Cask}{n k:Nat}(hk:k<n)(h:M.caskErr l k=0):M.casksFrom l (n-k) k=M.casksFrom l (n-(k+1)) (k+1):=by
 obtain⟨m,hm⟩:∃m,n-k=m+1:=⟨n-k-1,by omega⟩
 rw[hm,show n-(k+1)=m by omega]
 have:(M.caskErr l k != 0)=false:=by rw[h];rfl
 simp only[M.casksFrom,this,cond_false]
theorem t35(n lo hi:Int):runFnX Try.prog G0 (lookS []) (fun _=>[]) [] 1 40 3 35 Try.f35 [.c (dI n),.c (dI lo),.c (dI hi)] =
  T.br (decide (lo≤n)) (T.ret [Ar.c (D.bool (decide (n≤hi)))]) (T.ret [Ar.c (D.bool false)]):=by kernel_rfl
def v35:Nat×Sm:=(35,fokSm dom102)
theorem C35:FOK Try.prog G0 gw 35 dom102:=by
 intro ags p r hd hp κ w xs hw hl hG hx
 unfold dom102 at hd
 split at hd
 ·rename_i n lo hi
  simp only[Option.some.injEq,Prod.mk.injEq]at hd
  obtain⟨rfl,rfl⟩:=hd
  refine fokX_fin mixed gw_stable (sl:=[]) trivial Try.func35 hw hl hG hx (agsEqv_refl _) rfl (t35 n lo hi) ⟨fun h=>?_,fun h=>?_⟩
  ·unfold M.within;rw[h];exact rsEqv_refl _
  ·unfold M.within;rw[h];exact rsEqv_refl _
 ·cases hd
theorem S35:SumOK Try.prog G0 gw 35 (fokSm dom102):=fok_sum Try.func35 rfl C35
def tr47(l:List Cask):T (List Ar):=
  T.br (M.first [M.unl (decide ((l.length:Int)>(0:Int))) (10:Int),M.unl (decide ((l.length:Int)≤10)) (8:Int)] != (0:Int)) (T.ret [Ar.c (D.int IntKind.i64 (0:Int)),Ar.c (D.int IntKind.i64 (M.first [M.unl (decide ((l.length:Int)>(0:Int))) (10:Int),M.unl (decide ((l.length:Int)≤10)) (8:Int)]))]) (T.loop (Int×PUnit) ((0:Int),PUnit.unit) fun(x:Int×PUnit)=>T.br (decide (x.1<(l.length:Int))) (T.needs [(0:Int)≤x.1,x.1<(l.length:Int),(0:Int)≤0,(0:Int)≤x.1,x.1≤(l.length:Int)] (T.loop (Int×PUnit) ((0:Int),PUnit.unit) fun(x_1:Int×PUnit)=>T.br (decide (x_1.1<(Nat.cast (R:=Int) (Int.toNat (x.1-0))))) (T.need ((0:Int)≤x_1.1) (T.need (x_1.1<(Nat.cast (R:=Int) (Int.toNat (x.1-0)))) (T.br (ByteArray.toList (l.getD (0+Int.toNat x_1.1) dfC).1==ByteArray.toList (cAt l x.1).1) (T.br (M.within (cAt l x.1).2 (0:Int) (10000:Int)) (T.br (M.within (cAt l x.1).3 (0:Int) (1000:Int)) (T.needs [Enc.Is eI (4:Nat) (kF (cAt l x.1)),(4:Nat)≤1000000,ByteArray.size (cAt l x.1).1≤1000000] (T.br (M.first [M.unl (M.isName (cAt l x.1).1) (4:Int),M.unl (!decide (x_1.1≥(0:Int))) (5:Int),M.unl (M.allB M.isValue (Enc.list eI (4:Nat) (kF (cAt l x.1)))) (2:Int)] != (0:Int)) (T.ret (Sum.inr (Sum.inr [Ar.c (D.int IntKind.i64 x.1),Ar.c (D.int IntKind.i64 (M.first [M.unl (M.isName (cAt l x.1).1) (4:Int),M.unl (!decide (x_1.1≥(0:Int))) (5:Int),M.unl (M.allB M.isValue (Enc.list eI (4:Nat) (kF (cAt l x.1)))) (2:Int)]))]))) (T.ret (Sum.inr (Sum.inl (IntKind.i64.wrap (x.1+1),PUnit.unit)))))) (T.need (ByteArray.size (cAt l x.1).1≤1000000) (T.br (M.first [M.unl (M.isName (cAt l x.1).1) (4:Int),M.unl (!decide (x_1.1≥(0:Int))) (5:Int),(2:Int)] != (0:Int)) (T.ret (Sum.inr (Sum.inr [Ar.c (D.int IntKind.i64 x.1),Ar.c (D.int IntKind.i64 (M.first [M.unl (M.isName (cAt l x.1).1) (4:Int),M.unl (!decide (x_1.1≥(0:Int))) (5:Int),(2:Int)]))]))) (T.ret (Sum.inr (Sum.inl (IntKind.i64.wrap (x.1+1),PUnit.unit))))))) (T.need (ByteArray.size (cAt l x.1).1≤1000000) (T.br (M.first [M.unl (M.isName (cAt l x.1).1) (4:Int),M.unl (!decide (x_1.1≥(0:Int))) (5:Int),(2:Int)] != (0:Int)) (T.ret (Sum.inr (Sum.inr [Ar.c (D.int IntKind.i64 x.1),Ar.c (D.int IntKind.i64 (M.first [M.unl (M.isName (cAt l x.1).1) (4:Int),M.unl (!decide (x_1.1≥(0:Int))) (5:Int),(2:Int)]))]))) (T.ret (Sum.inr (Sum.inl (IntKind.i64.wrap (x.1+1),PUnit.unit))))))) (T.ret (Sum.inl (IntKind.i64.wrap (x_1.1+1),PUnit.unit)))))) (T.br (M.within (cAt l x.1).2 (0:Int) (10000:Int)) (T.br (M.within (cAt l x.1).3 (0:Int) (1000:Int)) (T.needs [Enc.Is eI (4:Nat) (kF (cAt l x.1)),(4:Nat)≤1000000,ByteArray.size (cAt l x.1).1≤1000000] (T.br (M.first [M.unl (M.isName (cAt l x.1).1) (4:Int),(0:Int),M.unl (M.allB M.isValue (Enc.list eI (4:Nat) (kF (cAt l x.1)))) (2:Int)] != (0:Int)) (T.ret (Sum.inr (Sum.inr [Ar.c (D.int IntKind.i64 x.1),Ar.c (D.int IntKind.i64 (M.first [M.unl (M.isName (cAt l x.1).1) (4:Int),(0:Int),M.unl (M.allB M.isValue (Enc.list eI (4:Nat) (kF (cAt l x.1)))) (2:Int)]))]))) (T.ret (Sum.inr (Sum.inl (IntKind.i64.wrap (x.1+1),PUnit.unit)))))) (T.need (ByteArray.size (cAt l x.1).1≤1000000) (T.br (M.first [M.unl (M.isName (cAt l x.1).1) (4:Int),(0:Int),(2:Int)] != (0:Int)) (T.ret (Sum.inr (Sum.inr [Ar.c (D.int IntKind.i64 x.1),Ar.c (D.int IntKind.i64 (M.first [M.unl (M.isName (cAt l x.1).1) (4:Int),(0:Int),(2:Int)]))]))) (T.ret (Sum.inr (Sum.inl (IntKind.i64.wrap (x.1+1),PUnit.unit))))))) (T.need (ByteArray.size (cAt l x.1).1≤1000000) (T.br (M.first [M.unl (M.isName (cAt l x.1).1) (4:Int),(0:Int),(2:Int)] != (0:Int)) (T.ret (Sum.inr (Sum.inr [Ar.c (D.int IntKind.i64 x.1),Ar.c (D.int IntKind.i64 (M.first [M.unl (M.isName (cAt l x.1).1) (4:Int),(0:Int),(2:Int)]))]))) (T.ret (Sum.inr (Sum.inl (IntKind.i64.wrap (x.1+1),PUnit.unit))))))))) (T.ret (Sum.inr [Ar.c (D.int IntKind.i64 (0:Int)),Ar.c (D.int IntKind.i64 (0:Int))])))
theorem t47(q:Bool)(l:List Cask):runFnX Try.prog G0 (lookS [v64,v80,v101,v102,v103,v104]) (fun f=>match Nat.beq f 47,Nat.beq f 126 with|true,_=>[(5,[.slot 25 (.int .i64)],none)]|_,true=>[(2,[.slot 8 (.int .i64)],none)]|_,_=>[]) [99,126,100] 1 40 6 47 Try.f47 [.c (.sl q l.length 7 (eC.F l))] =
  tr47 l:=by kernel_rfl
def tr48(l:List Cask):T (List Ar):=
  T.br ((l.length:Int)==0) (T.ret [Ar.c (D.int IntKind.i64 (0:Int)),Ar.c (D.int IntKind.i64 (10:Int))]) (T.br (decide ((l.length:Int)>(10:Int))) (T.ret [Ar.c (D.int IntKind.i64 (0:Int)),Ar.c (D.int IntKind.i64 (8:Int))]) (T.loop (Int×PUnit) ((0:Int),PUnit.unit) fun(x:Int×PUnit)=>T.br (decide (x.1<(l.length:Int))) (T.needs [(0:Int)≤x.1,x.1<(l.length:Int),ByteArray.size (cAt l x.1).1≤1000000] (T.br (!M.isName (cAt l x.1).1) (T.ret (Sum.inr [Ar.c (D.int IntKind.i64 x.1),Ar.c (D.int IntKind.i64 (4:Int))])) (T.loop (Int×PUnit) ((0:Int),PUnit.unit) fun(x_1:Int×PUnit)=>T.br (decide (x_1.1<x.1)) (T.needs [(0:Int)≤x_1.1,x_1.1<(l.length:Int),(0:Int)≤x.1,x.1<(l.length:Int)] (T.br (ByteArray.toList (cAt l x_1.1).1==ByteArray.toList (cAt l x.1).1) (T.ret (Sum.inr (Sum.inr [Ar.c (D.int IntKind.i64 x.1),Ar.c (D.int IntKind.i64 (5:Int))]))) (T.ret (Sum.inl (IntKind.i64.wrap (x_1.1+1),PUnit.unit))))) (T.need ((0:Int)≤x.1) (T.need (x.1<(l.length:Int)) (T.br (M.within (cAt l x.1).2 (0:Int) (10000:Int)) (T.need ((0:Int)≤x.1) (T.need (x.1<(l.length:Int)) (T.br (M.within (cAt l x.1).3 (0:Int) (1000:Int)) (T.needs [(0:Int)≤x.1,x.1<(l.length:Int),(0:Int)≤0,(0:Int)<4] (T.br (M.within (cAt l x.1).4 (0:Int) (1000:Int)) (T.needs [(0:Int)≤x.1,x.1<(l.length:Int),(0:Int)≤1,(1:Int)<4] (T.br (M.within (cAt l x.1).5 (0:Int) (1000:Int)) (T.needs [(0:Int)≤x.1,x.1<(l.length:Int),(0:Int)≤2,(2:Int)<4] (T.br (M.within (cAt l x.1).6 (0:Int) (1000:Int)) (T.needs [(0:Int)≤x.1,x.1<(l.length:Int),(0:Int)≤3,(3:Int)<4] (T.br (!M.within (cAt l x.1).7 (0:Int) (1000:Int)) (T.ret (Sum.inr (Sum.inr [Ar.c (D.int IntKind.i64 x.1),Ar.c (D.int IntKind.i64 (2:Int))]))) (T.ret (Sum.inr (Sum.inl (IntKind.i64.wrap (x.1+1),PUnit.unit)))))) (T.ret (Sum.inr (Sum.inr [Ar.c (D.int IntKind.i64 x.1),Ar.c (D.int IntKind.i64 (2:Int))]))))) (T.ret (Sum.inr (Sum.inr [Ar.c (D.int IntKind.i64 x.1),Ar.c (D.int IntKind.i64 (2:Int))]))))) (T.ret (Sum.inr (Sum.inr [Ar.c (D.int IntKind.i64 x.1),Ar.c (D.int IntKind.i64 (2:Int))]))))) (T.ret (Sum.inr (Sum.inr [Ar.c (D.int IntKind.i64 x.1),Ar.c (D.int IntKind.i64 (2:Int))])))))) (T.ret (Sum.inr (Sum.inr [Ar.c (D.int IntKind.i64 x.1),Ar.c (D.int IntKind.i64 (2:Int))]))))))))) (T.ret (Sum.inr [Ar.c (D.int IntKind.i64 (0:Int)),Ar.c (D.int IntKind.i64 (0:Int))]))))
theorem t48(q:Bool)(l:List Cask):runFnX Try.prog G0 (lookS [v35,v105]) (fun _=>[(6,[.slot 4 (.int .i64)],none),(11,[.slot 5 (.int .i64)],none),(1000060,[],none),(3000062,[],none)]) [] 1 40 6 48 Try.f48 [.c (.sl q l.length 7 (eC.F l))] =
  tr48 l:=by kernel_rfl
abbrev resP(x:Int×Int):List Ar:=[rI x.1,rI x.2]
theorem rest47{l:List Cask}{k:Nat}(hk:k<l.length)(hn:∀c,c∈l→c.nm.size≤1000000){b:Bool}(hdup:M.dup l k=b){α:Type}{Q:α→Prop}{yes:Int→α}{no:α}
  (hyes:M.caskErr l k≠0→Q (yes (M.caskErr l k))) (hno:M.caskErr l k=0→Q no) :
  (T.br (M.within (cAt l k).vol 0 10000) (T.br (M.within (cAt l k).cost 0 1000) (T.need (Enc.Is eI 4 (kF (cAt l k))) (T.need ((4:Nat)≤1000000) (T.need ((cAt l k).nm.size≤1000000)
    (T.br (M.first [M.unl (M.isName (cAt l k).nm) 4,M.unl (!b) 5,M.unl (M.allB M.isValue (eI.list 4 (kF (cAt l k)))) 2] != 0) (.ret (yes (M.first [M.unl (M.isName (cAt l k).nm) 4,M.unl (!b) 5,M.unl (M.allB M.isValue (eI.list 4 (kF (cAt l k)))) 2]))) (.ret no)))))
   (T.need ((cAt l k).nm.size≤1000000) (T.br (M.first [M.unl (M.isName (cAt l k).nm) 4,M.unl (!b) 5,2] != 0) (.ret (yes (M.first [M.unl (M.isName (cAt l k).nm) 4,M.unl (!b) 5,2]))) (.ret no))))
   (T.need ((cAt l k).nm.size≤1000000) (T.br (M.first [M.unl (M.isName (cAt l k).nm) 4,M.unl (!b) 5,2] != 0) (.ret (yes (M.first [M.unl (M.isName (cAt l k).nm) 4,M.unl (!b) 5,2]))) (.ret no)))).wp Q:=by
 have hs:(cAt l k).nm.size≤1000000:=hn _ (by rw[cAt_nat,List.getD_eq_getElem?_getD,List.getElem?_eq_getElem hk];exact List.getElem_mem hk)
 have fin:∀e:Int,M.caskErr l k=e→(T.br (e != 0) (.ret (yes e)) (.ret no):T α).wp Q:=by
  intro e he
  refine wp_br (fun h=>?_) (fun h=>?_)
  ·rw[←he]at h ⊢;exact hyes (bne_iff_ne.1 h)
  ·rw[←he]at h;exact hno (by simpa using h)
 refine wp_br (fun h1=>wp_br (fun h2=>⟨?_,by decide,hs,?_⟩) (fun h2=>⟨hs,?_⟩)) (fun h1=>⟨hs,?_⟩)
 ·intro i j hi hj
  obtain rfl:j=0:=Nat.lt_one_iff.1 hj
  match i,hi with
  |0,_=>exact D.eqv_refl _
  |1,_=>exact D.eqv_refl _
  |2,_=>exact D.eqv_refl _
  |3,_=>exact D.eqv_refl _
 ·refine fin _ (caskErr_eq rfl hdup ?_)
  unfold M.rightC
  rw[cAt_nat]at h1 h2
  rw[h1,h2];rfl
 ·refine fin _ (caskErr_eq (c:=false) rfl hdup ?_)
  unfold M.rightC
  rw[cAt_nat]at h1 h2
  rw[h1,h2];rfl
 ·refine fin _ (caskErr_eq (c:=false) rfl hdup ?_)
  unfold M.rightC
  rw[cAt_nat]at h1
  rw[h1];rfl
theorem w47(l:List Cask)(hn:∀c,c∈l→c.nm.size≤1000000):(tr47 l).wp (fun rs=>rsEqv rs (resP (M.checkCasks l))):=by
 unfold tr47
 refine wp_br (fun hb=>?_) (fun hb=>?_)
 ·have:M.checkCasks l=(0,M.first [M.unl (decide ((l.length:Int)>0)) 10,M.unl (decide ((l.length:Int)≤10)) 8]):=by
   unfold M.checkCasks
   by_cases h0:l.length=0
   ·rw[h0];rfl
   ·by_cases h1:10<l.length
    ·rw[decide_eq_false h0,decide_eq_true h1,decide_eq_true (by omega:(l.length:Int)>0),decide_eq_false (by omega:¬(l.length:Int)≤10)];rfl
    ·rw[decide_eq_true (by omega:(l.length:Int)>0),decide_eq_true (by omega:(l.length:Int)≤10)]at hb
     cases hb
  rw[this];exact rsEqv_refl _
 ·have h0:¬l.length=0:=by
   intro h0
   rw[h0]at hb;cases hb
  have h10:¬10<l.length:=by
   intro h1
   rw[decide_eq_true (by omega:(l.length:Int)>0),decide_eq_false (by omega:¬(l.length:Int)≤10)]at hb
   cases hb
  have hchk:M.checkCasks l=M.casksFrom l (l.length-0) 0:=by
   unfold M.checkCasks
   rw[decide_eq_false h0,decide_eq_false h10];rfl
  rw[hchk]
  refine range_wp (n:=l.length) (fun k _=>M.casksFrom l (l.length-0) 0=M.casksFrom l (l.length-k) k) rfl ?_
  rintro k u hk hI
  refine wp_br (fun hb=>?_) (fun hb=>?_)
  ·have hlt:=lt_of_dec hb
   refine⟨by show(0:Int)≤k;omega,by show(k:Int)<l.length;omega,Int.le_refl _,by show(0:Int)≤k;omega,by show(k:Int)≤l.length;omega,?_⟩
   have hyes:∀(b:Bool),M.caskErr l k≠0→rsEqv [Ar.c (dI k),Ar.c (dI (M.caskErr l k))] (resP (M.casksFrom l (l.length-0) 0)):=by
    intro _ h
    rw[hI,from_hit hlt h]
    exact rsEqv_refl _
   have hno:M.caskErr l k=0→k<l.length∧IntKind.i64.wrap ((k:Int)+1)=((k+1:Nat):Int)∧M.casksFrom l (l.length-0) 0=M.casksFrom l (l.length-(k+1)) (k+1):=fun h=>⟨hlt,wrap_succ (by omega),hI.trans (from_next hlt h)⟩
   refine range_wp (n:=k) (fun j _=>∀i,i<j→M.same (l.getD i dfC) (l.getD k dfC)=false) (fun i hi=>by omega) ?_
   rintro j u hj hJ
   have hkk:(Int.toNat ((k:Int)-0))=k:=by omega
   simp only[hkk]
   refine wp_br (fun hb=>?_) (fun hb=>?_)
   ·have hjlt:=lt_of_dec hb
    refine⟨by omega,by omega,?_⟩
    refine wp_br (fun hs=>?_) (fun hs=>?_)
    ·have hs:M.same (l.getD j dfC) (l.getD k dfC)=true:=by rw[Nat.zero_add]at hs;rw[←same_eq];exact hs
     have e:(!decide ((j:Int)≥0))= !true:=by rw[decide_eq_true (by omega)]
     simp only[e]
     exact rest47 (yes:=fun e=>Sum.inr (Sum.inr [Ar.c (dI k),Ar.c (dI e)])) hlt hn (dup_yes hjlt hs) (fun h=>hyes true h) hno
    ·have hs:M.same (l.getD j dfC) (l.getD k dfC)=false:=by rw[Nat.zero_add]at hs;rw[←same_eq];exact hs
     refine⟨hjlt,wrap_succ (by omega),fun i hi=>?_⟩
     rcases Nat.lt_or_ge i j with h|h
     ·exact hJ i h
     ·obtain rfl:i=j:=by omega
      exact hs
   ·have hge:=ge_of_dec hb
    obtain rfl:j=k:=by omega
    exact rest47 (b:=decide ((-1:Int)≥0)) (yes:=fun e=>Sum.inr (Sum.inr [Ar.c (dI j),Ar.c (dI e)])) hlt hn (dup_no hJ) (fun h=>hyes true h) hno
  ·have hge:=ge_of_dec hb
   obtain rfl:k=l.length:=by omega
   show rsEqv _ _
   rw[hI,Nat.sub_self]
   exact rsEqv_refl _
theorem w48(l:List Cask)(hn:∀c,c∈l→c.nm.size≤1000000):(tr48 l).wp (fun rs=>rsEqv rs (resP (M.checkCasks l))):=by
 unfold tr48
 refine wp_br (fun hb=>?_) (fun hb=>wp_br (fun hb1=>?_) (fun hb1=>?_))
 ·have h0:l.length=0:=by simpa using hb
  have:M.checkCasks l=(0,10):=by unfold M.checkCasks;rw[decide_eq_true h0];rfl
  rw[this];exact rsEqv_refl _
 ·have h0:¬l.length=0:=by simpa using hb
  have h1:10<l.length:=by(have h1:(l.length:Int)>10:=by simpa using hb1);omega
  have:M.checkCasks l=(0,8):=by unfold M.checkCasks;rw[decide_eq_false h0,decide_eq_true h1];rfl
  rw[this];exact rsEqv_refl _
 ·have h0:¬l.length=0:=by simpa using hb
  have h1:¬10<l.length:=by(have h1:¬(l.length:Int)>10:=by simpa using hb1);omega
  have hchk:M.checkCasks l=M.casksFrom l (l.length-0) 0:=by
   unfold M.checkCasks
   rw[decide_eq_false h0,decide_eq_false h1];rfl
  rw[hchk]
  refine range_wp (n:=l.length) (fun k _=>M.casksFrom l (l.length-0) 0=M.casksFrom l (l.length-k) k) rfl ?_
  rintro k u hk hI
  refine wp_br (fun hb=>?_) (fun hb=>?_)
  ·have hlt:=lt_of_dec hb
   have g1:(0:Int)≤((k:Int),u).1:=by show(0:Int)≤k;omega
   have g2:((k:Int),u).1<(l.length:Int):=by show(k:Int)<l.length;omega
   have hs:(cAt l k).nm.size≤1000000:=hn _ (by rw[cAt_nat,List.getD_eq_getElem?_getD,List.getElem?_eq_getElem hlt];exact List.getElem_mem hlt)
   have hit:∀e:Int,M.caskErr l k=e→e≠0→rsEqv [Ar.c (dI k),Ar.c (dI e)] (resP (M.casksFrom l (l.length-0) 0)):=by
    intro e he h
    subst he
    rw[hI,from_hit hlt h]
    exact rsEqv_refl _
   refine⟨g1,g2,hs,wp_br (fun hnm=>?_) (fun hnm=>?_)⟩
   ·have hnm:M.isName (l.getD k dfC).nm=false:=by simpa[cAt_nat]using hnm
    refine hit 4 ?_ (by decide)
    rw[caskErr_eq hnm rfl rfl];rfl
   ·have hnm:M.isName (l.getD k dfC).nm=true:=by simpa[cAt_nat]using hnm
    refine range_wp (n:=k) (fun j _=>∀i,i<j→M.same (l.getD i dfC) (l.getD k dfC)=false) (fun i hi=>by omega) ?_
    rintro j u' hj hJ
    refine wp_br (fun hb=>?_) (fun hb=>?_)
    ·have hjlt:=lt_of_dec hb
     refine⟨by show(0:Int)≤j;omega,by show(j:Int)<l.length;omega,g1,g2,wp_br (fun hs=>?_) (fun hs=>?_)⟩
     ·have hs:M.same (l.getD j dfC) (l.getD k dfC)=true:=by rw[←same_eq];exact hs
      refine hit 5 ?_ (by decide)
      rw[caskErr_eq hnm (dup_yes hjlt hs) rfl];rfl
     ·have hs:M.same (l.getD j dfC) (l.getD k dfC)=false:=by rw[←same_eq];exact hs
      refine⟨hjlt,wrap_succ (by omega),fun i hi=>?_⟩
      rcases Nat.lt_or_ge i j with h|h
      ·exact hJ i h
      ·obtain rfl:i=j:=by omega
       exact hs
    ·have hge:=ge_of_dec hb
     obtain rfl:j=k:=by omega
     have hd:=dup_no hJ
     have two:M.rightC (l.getD j dfC)=false→rsEqv [Ar.c (dI j),Ar.c (dI 2)] (resP (M.casksFrom l (l.length-0) 0)):=fun h=>hit 2 (by rw[caskErr_eq hnm hd h];rfl) (by decide)
     refine⟨g1,g2,wp_br (fun a1=>⟨g1,g2,wp_br (fun a2=>⟨g1,g2,by decide,by decide,wp_br (fun a3=>⟨g1,g2,by decide,by decide,wp_br (fun a4=>⟨g1,g2,by decide,by decide,wp_br (fun a5=>⟨g1,g2,by decide,by decide,wp_br (fun a6=>?_) (fun a6=>?_)⟩) (fun a5=>?_)⟩) (fun a4=>?_)⟩) (fun a3=>?_)⟩) (fun a2=>?_)⟩) (fun a1=>?_)⟩
     all_goals(simp only[cAt_nat,Bool.not_eq_true',Bool.not_eq_false']at *)
     ·refine two ?_
      unfold M.rightC M.kindsOk
      simp only[M.allB,M.isValue,a1,a2,a3,a4,a5,a6,cond_true,cond_false]
     ·refine⟨hlt,wrap_succ (by omega),hI.trans (from_next hlt ?_)⟩
      have hr:M.rightC (l.getD j dfC)=true:=by
       unfold M.rightC M.kindsOk
       simp only[M.allB,M.isValue,a1,a2,a3,a4,a5,a6,cond_true,cond_false]
      rw[caskErr_eq hnm hd hr];rfl
     ·refine two ?_
      unfold M.rightC M.kindsOk
      simp only[M.allB,M.isValue,a1,a2,a3,a4,a5,cond_true,cond_false]
     ·refine two ?_
      unfold M.rightC M.kindsOk
      simp only[M.allB,M.isValue,a1,a2,a3,a4,cond_true,cond_false]
     ·refine two ?_
      unfold M.rightC M.kindsOk
      simp only[M.allB,M.isValue,a1,a2,a3,cond_true,cond_false]
     ·refine two ?_
      unfold M.rightC M.kindsOk
      simp only[a1,a2,cond_true,cond_false]
     ·refine two ?_
      unfold M.rightC M.kindsOk
      simp only[a1,cond_true,cond_false]
  ·have hge:=ge_of_dec hb
   obtain rfl:k=l.length:=by omega
   show rsEqv _ _
   rw[hI,Nat.sub_self]
   exact rsEqv_refl _
def dom47:DomF
 |[.c (.sl _ n st F)]=>(match Nat.beq st 7 with
  |true=>some ([eC.Is n F,∀c,c∈eC.list n F→c.nm.size≤1000000],resP (M.checkCasks (eC.list n F)))
  |_=>none)
 |_=>none
def v47:Nat×Sm:=(47,fokSm dom47)
theorem C47:FOK Try.prog G0 gw 47 dom47:=by
 intro ags p r hd hp κ w xs hw hl hG hx
 unfold dom47 at hd
 split at hd
 ·rename_i q n st F
  split at hd
  ·rename_i hst
   have g1:=Nat.eq_of_beq_eq_true hst
   subst g1
   simp only[Option.some.injEq,Prod.mk.injEq]at hd
   obtain⟨rfl,rfl⟩:=hd
   obtain⟨hC,hn,_⟩:=hp
   have heq:agsEqv [.c (.sl q n 7 F)] [.c (.sl q (eC.list n F).length 7 (eC.F (eC.list n F)))]:=⟨eC.to id hC,trivial⟩
   exact fokX_fin mixed gw_stable (sl:=[v64,v80,v101,v102,v103,v104]) ⟨S64,S80,S101,S102,S103,S104,trivial⟩ Try.func47 hw hl hG hx heq rfl (t47 q _) (w47 _ hn)
  ·cases hd
 ·cases hd
theorem S47:SumOK Try.prog G0 gw 47 (fokSm dom47):=fok_sum Try.func47 rfl C47
def dom48:DomF
 |[.c (.sl _ n st F)]=>(match Nat.beq st 7 with
  |true=>some ([eC.Is n F,∀c,c∈eC.list n F→c.nm.size≤1000000],resP (M.checkCasks (eC.list n F)))
  |_=>none)
 |_=>none
def v48:Nat×Sm:=(48,fokSm dom48)
theorem C48:FOK Try.prog G0 gw 48 dom48:=by
 intro ags p r hd hp κ w xs hw hl hG hx
 unfold dom48 at hd
 split at hd
 ·rename_i q n st F
  split at hd
  ·rename_i hst
   have g1:=Nat.eq_of_beq_eq_true hst
   subst g1
   simp only[Option.some.injEq,Prod.mk.injEq]at hd
   obtain⟨rfl,rfl⟩:=hd
   obtain⟨hC,hn,_⟩:=hp
   have heq:agsEqv [.c (.sl q n 7 F)] [.c (.sl q (eC.list n F).length 7 (eC.F (eC.list n F)))]:=⟨eC.to id hC,trivial⟩
   exact fokX_fin mixed gw_stable (sl:=[v35,v105]) ⟨S35,S105,trivial⟩ Try.func48 hw hl hG hx heq rfl (t48 q _) (w48 _ hn)
  ·cases hd
 ·cases hd
theorem S48:SumOK Try.prog G0 gw 48 (fokSm dom48):=fok_sum Try.func48 rfl C48
end Go.Bl
end
section
set_option maxRecDepth 100000
namespace Go.Bl
open Go.V Go.Proofs
def tr66_1(c0:Cask)(sv l0 h0 l1 h1 l2 h2 l3 h3:Int):T (List Ar):=
  T.needs [(1:Nat)≤1000000,(0:Int)≤0,(0:Int)<1,(2:Nat)≤1000000,(1:Nat)≤1,(0:Int)≤0,(0:Int)<1,(0:Int)≤0,(0:Int)<4,(3:Nat)≤1000000,(2:Nat)≤2,(0:Int)≤0,(0:Int)<1,(0:Int)≤0,(0:Int)<4,(4:Nat)≤1000000,(3:Nat)≤3,(0:Int)≤0,(0:Int)<1,(0:Int)≤1,(1:Int)<4,(5:Nat)≤1000000,(4:Nat)≤4,(0:Int)≤0,(0:Int)<1,(0:Int)≤1,(1:Int)<4,(6:Nat)≤1000000,(5:Nat)≤5,(0:Int)≤0,(0:Int)<1,(0:Int)≤2,(2:Int)<4,(7:Nat)≤1000000,(6:Nat)≤6,(0:Int)≤0,(0:Int)<1,(0:Int)≤2,(2:Int)<4,(8:Nat)≤1000000,(7:Nat)≤7,(0:Int)≤0,(0:Int)<1,(0:Int)≤3,(3:Int)<4,(9:Nat)≤1000000,(8:Nat)≤8,(0:Int)≤0,(0:Int)<1,(0:Int)≤3,(3:Int)<4,(10:Nat)≤1000000,(9:Nat)≤9,(0:Int)≤0,(0:Int)<1,(10:Nat)≤10] (T.ret [Ar.agg [D.sl true (1:Nat) (1:Nat) fun(i' j:Nat)=>List.getD [D.int IntKind.i64 (1:Int)] (i'*1+j) D.nilp,D.int IntKind.i64 sv,D.sl true (1:Nat) (1:Nat) fun(i' j:Nat)=>List.getD [D.int IntKind.i64 (List.getD [c0] (Int.toNat (0:Int)) (Enc.dflt eC)).3] (i'*1+j) D.nilp,D.sl true (10:Nat) (4:Nat) (joinF (9:Nat) (joinF (8:Nat) (joinF (7:Nat) (joinF (6:Nat) (joinF (5:Nat) (joinF (4:Nat) (joinF (3:Nat) (joinF (2:Nat) (joinF (1:Nat) (joinF (0:Nat) (fun(x x_1:Nat)=>D.nilp) fun(i j:Nat)=>List.getD [D.int IntKind.i64 (0:Int),D.int IntKind.i64 (0:Int),D.sl true (1:Nat) (1:Nat) fun(i j:Nat)=>List.getD [D.int IntKind.i64 (-1:Int)] (i*1+j) D.nilp,D.int IntKind.i64 (0:Int)] (i*4+j) D.nilp) fun(i j:Nat)=>List.getD [D.int IntKind.i64 (1:Int),D.int IntKind.i64 (0:Int),D.sl true (1:Nat) (1:Nat) fun(i j:Nat)=>List.getD [D.int IntKind.i64 (1:Int)] (i*1+j) D.nilp,D.int IntKind.i64 (List.getD [c0] (Int.toNat (0:Int)) (Enc.dflt eC)).2] (i*4+j) D.nilp) fun(i j:Nat)=>List.getD [D.int IntKind.i64 (2:Int),D.int IntKind.i64 (0:Int),D.sl true (1:Nat) (1:Nat) fun(i j:Nat)=>List.getD [D.int IntKind.i64 (IntKind.i64.wrap ((List.getD [c0] (Int.toNat (0:Int)) (Enc.dflt eC)).4-h0))] (i*1+j) D.nilp,D.int IntKind.i64 (0:Int)] (i*4+j) D.nilp) fun(i j:Nat)=>List.getD [D.int IntKind.i64 (3:Int),D.int IntKind.i64 (0:Int),D.sl true (1:Nat) (1:Nat) fun(i j:Nat)=>List.getD [D.int IntKind.i64 (IntKind.i64.wrap (l0-(List.getD [c0] (Int.toNat (0:Int)) (Enc.dflt eC)).4))] (i*1+j) D.nilp,D.int IntKind.i64 (0:Int)] (i*4+j) D.nilp) fun(i j:Nat)=>List.getD [D.int IntKind.i64 (2:Int),D.int IntKind.i64 (1:Int),D.sl true (1:Nat) (1:Nat) fun(i j:Nat)=>List.getD [D.int IntKind.i64 (IntKind.i64.wrap ((List.getD [c0] (Int.toNat (0:Int)) (Enc.dflt eC)).5-h1))] (i*1+j) D.nilp,D.int IntKind.i64 (0:Int)] (i*4+j) D.nilp) fun(i j:Nat)=>List.getD [D.int IntKind.i64 (3:Int),D.int IntKind.i64 (1:Int),D.sl true (1:Nat) (1:Nat) fun(i j:Nat)=>List.getD [D.int IntKind.i64 (IntKind.i64.wrap (l1-(List.getD [c0] (Int.toNat (0:Int)) (Enc.dflt eC)).5))] (i*1+j) D.nilp,D.int IntKind.i64 (0:Int)] (i*4+j) D.nilp) fun(i j:Nat)=>List.getD [D.int IntKind.i64 (2:Int),D.int IntKind.i64 (2:Int),D.sl true (1:Nat) (1:Nat) fun(i j:Nat)=>List.getD [D.int IntKind.i64 (IntKind.i64.wrap ((List.getD [c0] (Int.toNat (0:Int)) (Enc.dflt eC)).6-h2))] (i*1+j) D.nilp,D.int IntKind.i64 (0:Int)] (i*4+j) D.nilp) fun(i j:Nat)=>List.getD [D.int IntKind.i64 (3:Int),D.int IntKind.i64 (2:Int),D.sl true (1:Nat) (1:Nat) fun(i j:Nat)=>List.getD [D.int IntKind.i64 (IntKind.i64.wrap (l2-(List.getD [c0] (Int.toNat (0:Int)) (Enc.dflt eC)).6))] (i*1+j) D.nilp,D.int IntKind.i64 (0:Int)] (i*4+j) D.nilp) fun(i j:Nat)=>List.getD [D.int IntKind.i64 (2:Int),D.int IntKind.i64 (3:Int),D.sl true (1:Nat) (1:Nat) fun(i j:Nat)=>List.getD [D.int IntKind.i64 (IntKind.i64.wrap ((List.getD [c0] (Int.toNat (0:Int)) (Enc.dflt eC)).7-h3))] (i*1+j) D.nilp,D.int IntKind.i64 (0:Int)] (i*4+j) D.nilp) fun(i j:Nat)=>List.getD [D.int IntKind.i64 (3:Int),D.int IntKind.i64 (3:Int),D.sl true (1:Nat) (1:Nat) fun(i j:Nat)=>List.getD [D.int IntKind.i64 (IntKind.i64.wrap (l3-(List.getD [c0] (Int.toNat (0:Int)) (Enc.dflt eC)).7))] (i*1+j) D.nilp,D.int IntKind.i64 (0:Int)] (i*4+j) D.nilp)]])
theorem t66_1(q:Bool)(c0:Cask)(sv l0 h0 l1 h1 l2 h2 l3 h3:Int):runFnX Try.prog G0 (lookS []) (fun _=>[(999999,[],none)]) [113,133,134,135,136,137,138,139] 1 60 6 66 Try.f66 [.c (.sl q 1 7 (eC.F [c0])),.agg [dI sv,dI l0,dI h0,dI l1,dI h1,dI l2,dI h2,dI l3,dI h3]] =
  tr66_1 c0 sv l0 h0 l1 h1 l2 h2 l3 h3:=by kernel_rfl
theorem w66_1(c0:Cask)(sv l0 h0 l1 h1 l2 h2 l3 h3:Int):(tr66_1 c0 sv l0 h0 l1 h1 l2 h2 l3 h3).wp (fun rs=>rsEqv rs (res66 [c0] ⟨sv,⟨l0,h0⟩,⟨l1,h1⟩,⟨l2,h2⟩,⟨l3,h3⟩⟩)):=by
 unfold tr66_1
 repeat (refine⟨by decide,?_⟩)
 refine⟨⟨?_,rfl,?_,?_,trivial⟩,trivial⟩
 ·refine sl_ints (q':=false) (l:=M.shares [c0] 0) (fun e=>nomatch e) ?_
  kernel_rfl
 ·refine sl_ints (q':=false) (l:=M.costs [c0]) (fun e=>nomatch e) ?_
  kernel_rfl
 ·refine conds_eqv (q':=false) (m:=M.limits [c0] ⟨sv,⟨l0,h0⟩,⟨l1,h1⟩,⟨l2,h2⟩,⟨l3,h3⟩⟩ 0) (fun e=>nomatch e) ?_
  kernel_rfl
end Go.Bl
end
section
set_option maxRecDepth 100000
namespace Go.Bl
open Go.V Go.Proofs
def tr66_2(c0 c1:Cask)(sv l0 h0 l1 h1 l2 h2 l3 h3:Int):T (List Ar):=
  T.needs [(1:Nat)≤1000000,(2:Nat)≤1000000,(1:Nat)≤1,(0:Int)≤0,(0:Int)<2,(3:Nat)≤1000000,(2:Nat)≤2,(0:Int)≤1,(1:Int)<2,(4:Nat)≤1000000,(3:Nat)≤3,(0:Int)≤0,(0:Int)<2,(0:Int)≤0,(0:Int)<4,(0:Int)≤1,(1:Int)<2,(0:Int)≤0,(0:Int)<4,(5:Nat)≤1000000,(4:Nat)≤4,(0:Int)≤0,(0:Int)<2,(0:Int)≤0,(0:Int)<4,(0:Int)≤1,(1:Int)<2,(0:Int)≤0,(0:Int)<4,(6:Nat)≤1000000,(5:Nat)≤5,(0:Int)≤0,(0:Int)<2,(0:Int)≤1,(1:Int)<4,(0:Int)≤1,(1:Int)<2,(0:Int)≤1,(1:Int)<4,(7:Nat)≤1000000,(6:Nat)≤6,(0:Int)≤0,(0:Int)<2,(0:Int)≤1,(1:Int)<4,(0:Int)≤1,(1:Int)<2,(0:Int)≤1,(1:Int)<4,(8:Nat)≤1000000,(7:Nat)≤7,(0:Int)≤0,(0:Int)<2,(0:Int)≤2,(2:Int)<4,(0:Int)≤1,(1:Int)<2,(0:Int)≤2,(2:Int)<4,(9:Nat)≤1000000,(8:Nat)≤8,(0:Int)≤0,(0:Int)<2,(0:Int)≤2,(2:Int)<4,(0:Int)≤1,(1:Int)<2,(0:Int)≤2,(2:Int)<4,(10:Nat)≤1000000,(9:Nat)≤9,(0:Int)≤0,(0:Int)<2,(0:Int)≤3,(3:Int)<4,(0:Int)≤1,(1:Int)<2,(0:Int)≤3,(3:Int)<4,(11:Nat)≤1000000,(10:Nat)≤10,(0:Int)≤0,(0:Int)<2,(0:Int)≤3,(3:Int)<4,(0:Int)≤1,(1:Int)<2,(0:Int)≤3,(3:Int)<4,(12:Nat)≤1000000,(11:Nat)≤11,(0:Int)≤0,(0:Int)<2,(0:Int)≤1,(1:Int)<2,(12:Nat)≤12] (T.ret [Ar.agg [D.sl true (2:Nat) (1:Nat) fun(i' j:Nat)=>List.getD [D.int IntKind.i64 (1:Int),D.int IntKind.i64 (1:Int)] (i'*1+j) D.nilp,D.int IntKind.i64 sv,D.sl true (2:Nat) (1:Nat) fun(i' j:Nat)=>List.getD [D.int IntKind.i64 (List.getD [c0,c1] (Int.toNat (0:Int)) (Enc.dflt eC)).3,D.int IntKind.i64 (List.getD [c0,c1] (Int.toNat (IntKind.i64.wrap ((0:Int)+1))) (Enc.dflt eC)).3] (i'*1+j) D.nilp,D.sl true (12:Nat) (4:Nat) (joinF (11:Nat) (joinF (10:Nat) (joinF (9:Nat) (joinF (8:Nat) (joinF (7:Nat) (joinF (6:Nat) (joinF (5:Nat) (joinF (4:Nat) (joinF (3:Nat) (joinF (2:Nat) (joinF (1:Nat) (joinF (0:Nat) (fun(x x_1:Nat)=>D.nilp) fun(i j:Nat)=>List.getD [D.int IntKind.i64 (0:Int),D.int IntKind.i64 (0:Int),D.sl true (2:Nat) (1:Nat) fun(i j:Nat)=>List.getD [D.int IntKind.i64 (-1:Int),D.int IntKind.i64 (0:Int)] (i*1+j) D.nilp,D.int IntKind.i64 (0:Int)] (i*4+j) D.nilp) fun(i j:Nat)=>List.getD [D.int IntKind.i64 (0:Int),D.int IntKind.i64 (1:Int),D.sl true (2:Nat) (1:Nat) fun(i j:Nat)=>List.getD [D.int IntKind.i64 (0:Int),D.int IntKind.i64 (-1:Int)] (i*1+j) D.nilp,D.int IntKind.i64 (0:Int)] (i*4+j) D.nilp) fun(i j:Nat)=>List.getD [D.int IntKind.i64 (1:Int),D.int IntKind.i64 (0:Int),D.sl true (2:Nat) (1:Nat) fun(i j:Nat)=>List.getD [D.int IntKind.i64 (1:Int),D.int IntKind.i64 (0:Int)] (i*1+j) D.nilp,D.int IntKind.i64 (List.getD [c0,c1] (Int.toNat (0:Int)) (Enc.dflt eC)).2] (i*4+j) D.nilp) fun(i j:Nat)=>List.getD [D.int IntKind.i64 (1:Int),D.int IntKind.i64 (1:Int),D.sl true (2:Nat) (1:Nat) fun(i j:Nat)=>List.getD [D.int IntKind.i64 (0:Int),D.int IntKind.i64 (1:Int)] (i*1+j) D.nilp,D.int IntKind.i64 (List.getD [c0,c1] (Int.toNat (IntKind.i64.wrap ((0:Int)+1))) (Enc.dflt eC)).2] (i*4+j) D.nilp) fun(i j:Nat)=>List.getD [D.int IntKind.i64 (2:Int),D.int IntKind.i64 (0:Int),D.sl true (2:Nat) (1:Nat) fun(i j:Nat)=>List.getD [D.int IntKind.i64 (IntKind.i64.wrap ((List.getD [c0,c1] (Int.toNat (0:Int)) (Enc.dflt eC)).4-h0)),D.int IntKind.i64 (IntKind.i64.wrap ((List.getD [c0,c1] (Int.toNat (IntKind.i64.wrap ((0:Int)+1))) (Enc.dflt eC)).4-h0))] (i*1+j) D.nilp,D.int IntKind.i64 (0:Int)] (i*4+j) D.nilp) fun(i j:Nat)=>List.getD [D.int IntKind.i64 (3:Int),D.int IntKind.i64 (0:Int),D.sl true (2:Nat) (1:Nat) fun(i j:Nat)=>List.getD [D.int IntKind.i64 (IntKind.i64.wrap (l0-(List.getD [c0,c1] (Int.toNat (0:Int)) (Enc.dflt eC)).4)),D.int IntKind.i64 (IntKind.i64.wrap (l0-(List.getD [c0,c1] (Int.toNat (IntKind.i64.wrap ((0:Int)+1))) (Enc.dflt eC)).4))] (i*1+j) D.nilp,D.int IntKind.i64 (0:Int)] (i*4+j) D.nilp) fun(i j:Nat)=>List.getD [D.int IntKind.i64 (2:Int),D.int IntKind.i64 (1:Int),D.sl true (2:Nat) (1:Nat) fun(i j:Nat)=>List.getD [D.int IntKind.i64 (IntKind.i64.wrap ((List.getD [c0,c1] (Int.toNat (0:Int)) (Enc.dflt eC)).5-h1)),D.int IntKind.i64 (IntKind.i64.wrap ((List.getD [c0,c1] (Int.toNat (IntKind.i64.wrap ((0:Int)+1))) (Enc.dflt eC)).5-h1))] (i*1+j) D.nilp,D.int IntKind.i64 (0:Int)] (i*4+j) D.nilp) fun(i j:Nat)=>List.getD [D.int IntKind.i64 (3:Int),D.int IntKind.i64 (1:Int),D.sl true (2:Nat) (1:Nat) fun(i j:Nat)=>List.getD [D.int IntKind.i64 (IntKind.i64.wrap (l1-(List.getD [c0,c1] (Int.toNat (0:Int)) (Enc.dflt eC)).5)),D.int IntKind.i64 (IntKind.i64.wrap (l1-(List.getD [c0,c1] (Int.toNat (IntKind.i64.wrap ((0:Int)+1))) (Enc.dflt eC)).5))] (i*1+j) D.nilp,D.int IntKind.i64 (0:Int)] (i*4+j) D.nilp) fun(i j:Nat)=>List.getD [D.int IntKind.i64 (2:Int),D.int IntKind.i64 (2:Int),D.sl true (2:Nat) (1:Nat) fun(i j:Nat)=>List.getD [D.int IntKind.i64 (IntKind.i64.wrap ((List.getD [c0,c1] (Int.toNat (0:Int)) (Enc.dflt eC)).6-h2)),D.int IntKind.i64 (IntKind.i64.wrap ((List.getD [c0,c1] (Int.toNat (IntKind.i64.wrap ((0:Int)+1))) (Enc.dflt eC)).6-h2))] (i*1+j) D.nilp,D.int IntKind.i64 (0:Int)] (i*4+j) D.nilp) fun(i j:Nat)=>List.getD [D.int IntKind.i64 (3:Int),D.int IntKind.i64 (2:Int),D.sl true (2:Nat) (1:Nat) fun(i j:Nat)=>List.getD [D.int IntKind.i64 (IntKind.i64.wrap (l2-(List.getD [c0,c1] (Int.toNat (0:Int)) (Enc.dflt eC)).6)),D.int IntKind.i64 (IntKind.i64.wrap (l2-(List.getD [c0,c1] (Int.toNat (IntKind.i64.wrap ((0:Int)+1))) (Enc.dflt eC)).6))] (i*1+j) D.nilp,D.int IntKind.i64 (0:Int)] (i*4+j) D.nilp) fun(i j:Nat)=>List.getD [D.int IntKind.i64 (2:Int),D.int IntKind.i64 (3:Int),D.sl true (2:Nat) (1:Nat) fun(i j:Nat)=>List.getD [D.int IntKind.i64 (IntKind.i64.wrap ((List.getD [c0,c1] (Int.toNat (0:Int)) (Enc.dflt eC)).7-h3)),D.int IntKind.i64 (IntKind.i64.wrap ((List.getD [c0,c1] (Int.toNat (IntKind.i64.wrap ((0:Int)+1))) (Enc.dflt eC)).7-h3))] (i*1+j) D.nilp,D.int IntKind.i64 (0:Int)] (i*4+j) D.nilp) fun(i j:Nat)=>List.getD [D.int IntKind.i64 (3:Int),D.int IntKind.i64 (3:Int),D.sl true (2:Nat) (1:Nat) fun(i j:Nat)=>List.getD [D.int IntKind.i64 (IntKind.i64.wrap (l3-(List.getD [c0,c1] (Int.toNat (0:Int)) (Enc.dflt eC)).7)),D.int IntKind.i64 (IntKind.i64.wrap (l3-(List.getD [c0,c1] (Int.toNat (IntKind.i64.wrap ((0:Int)+1))) (Enc.dflt eC)).7))] (i*1+j) D.nilp,D.int IntKind.i64 (0:Int)] (i*4+j) D.nilp)]])
theorem t66_2(q:Bool)(c0 c1:Cask)(sv l0 h0 l1 h1 l2 h2 l3 h3:Int):runFnX Try.prog G0 (lookS []) (fun _=>[(999999,[],none)]) [113,133,134,135,136,137,138,139] 1 60 6 66 Try.f66 [.c (.sl q 2 7 (eC.F [c0,c1])),.agg [dI sv,dI l0,dI h0,dI l1,dI h1,dI l2,dI h2,dI l3,dI h3]] =
  tr66_2 c0 c1 sv l0 h0 l1 h1 l2 h2 l3 h3:=by kernel_rfl
theorem w66_2(c0 c1:Cask)(sv l0 h0 l1 h1 l2 h2 l3 h3:Int):(tr66_2 c0 c1 sv l0 h0 l1 h1 l2 h2 l3 h3).wp (fun rs=>rsEqv rs (res66 [c0,c1] ⟨sv,⟨l0,h0⟩,⟨l1,h1⟩,⟨l2,h2⟩,⟨l3,h3⟩⟩)):=by
 unfold tr66_2
 repeat (refine⟨by decide,?_⟩)
 refine⟨⟨?_,rfl,?_,?_,trivial⟩,trivial⟩
 ·refine sl_ints (q':=false) (l:=M.shares [c0,c1] 0) (fun e=>nomatch e) ?_
  kernel_rfl
 ·refine sl_ints (q':=false) (l:=M.costs [c0,c1]) (fun e=>nomatch e) ?_
  kernel_rfl
 ·refine conds_eqv (q':=false) (m:=M.limits [c0,c1] ⟨sv,⟨l0,h0⟩,⟨l1,h1⟩,⟨l2,h2⟩,⟨l3,h3⟩⟩ 0) (fun e=>nomatch e) ?_
  kernel_rfl
end Go.Bl
end
section
set_option maxRecDepth 100000
namespace Go.Bl
open Go.V Go.Proofs
def tr66_3(c0 c1 c2:Cask)(sv l0 h0 l1 h1 l2 h2 l3 h3:Int):T (List Ar):=
  T.needs [(1:Nat)≤1000000,(2:Nat)≤1000000,(1:Nat)≤1,(3:Nat)≤1000000,(2:Nat)≤2,(0:Int)≤0,(0:Int)<3,(4:Nat)≤1000000,(3:Nat)≤3,(0:Int)≤1,(1:Int)<3,(5:Nat)≤1000000,(4:Nat)≤4,(0:Int)≤2,(2:Int)<3,(6:Nat)≤1000000,(5:Nat)≤5,(0:Int)≤0,(0:Int)<3,(0:Int)≤0,(0:Int)<4,(0:Int)≤1,(1:Int)<3,(0:Int)≤0,(0:Int)<4,(0:Int)≤2,(2:Int)<3,(0:Int)≤0,(0:Int)<4,(7:Nat)≤1000000,(6:Nat)≤6,(0:Int)≤0,(0:Int)<3,(0:Int)≤0,(0:Int)<4,(0:Int)≤1,(1:Int)<3,(0:Int)≤0,(0:Int)<4,(0:Int)≤2,(2:Int)<3,(0:Int)≤0,(0:Int)<4,(8:Nat)≤1000000,(7:Nat)≤7,(0:Int)≤0,(0:Int)<3,(0:Int)≤1,(1:Int)<4,(0:Int)≤1,(1:Int)<3,(0:Int)≤1,(1:Int)<4,(0:Int)≤2,(2:Int)<3,(0:Int)≤1,(1:Int)<4,(9:Nat)≤1000000,(8:Nat)≤8,(0:Int)≤0,(0:Int)<3,(0:Int)≤1,(1:Int)<4,(0:Int)≤1,(1:Int)<3,(0:Int)≤1,(1:Int)<4,(0:Int)≤2,(2:Int)<3,(0:Int)≤1,(1:Int)<4,(10:Nat)≤1000000,(9:Nat)≤9,(0:Int)≤0,(0:Int)<3,(0:Int)≤2,(2:Int)<4,(0:Int)≤1,(1:Int)<3,(0:Int)≤2,(2:Int)<4,(0:Int)≤2,(2:Int)<3,(0:Int)≤2,(2:Int)<4,(11:Nat)≤1000000,(10:Nat)≤10,(0:Int)≤0,(0:Int)<3,(0:Int)≤2,(2:Int)<4,(0:Int)≤1,(1:Int)<3,(0:Int)≤2,(2:Int)<4,(0:Int)≤2,(2:Int)<3,(0:Int)≤2,(2:Int)<4,(12:Nat)≤1000000,(11:Nat)≤11,(0:Int)≤0,(0:Int)<3,(0:Int)≤3,(3:Int)<4,(0:Int)≤1,(1:Int)<3,(0:Int)≤3,(3:Int)<4,(0:Int)≤2,(2:Int)<3,(0:Int)≤3,(3:Int)<4,(13:Nat)≤1000000,(12:Nat)≤12,(0:Int)≤0,(0:Int)<3,(0:Int)≤3,(3:Int)<4,(0:Int)≤1,(1:Int)<3,(0:Int)≤3,(3:Int)<4,(0:Int)≤2,(2:Int)<3,(0:Int)≤3,(3:Int)<4,(14:Nat)≤1000000,(13:Nat)≤13,(0:Int)≤0,(0:Int)<3,(0:Int)≤1,(1:Int)<3,(0:Int)≤2,(2:Int)<3,(14:Nat)≤14] (T.ret [Ar.agg [D.sl true (3:Nat) (1:Nat) fun(i' j:Nat)=>List.getD [D.int IntKind.i64 (1:Int),D.int IntKind.i64 (1:Int),D.int IntKind.i64 (1:Int)] (i'*1+j) D.nilp,D.int IntKind.i64 sv,D.sl true (3:Nat) (1:Nat) fun(i' j:Nat)=>List.getD [D.int IntKind.i64 (List.getD [c0,c1,c2] (Int.toNat (0:Int)) (Enc.dflt eC)).3,D.int IntKind.i64 (List.getD [c0,c1,c2] (Int.toNat (IntKind.i64.wrap ((0:Int)+1))) (Enc.dflt eC)).3,D.int IntKind.i64 (List.getD [c0,c1,c2] (Int.toNat (IntKind.i64.wrap (IntKind.i64.wrap ((0:Int)+1)+1))) (Enc.dflt eC)).3] (i'*1+j) D.nilp,D.sl true (14:Nat) (4:Nat) (joinF (13:Nat) (joinF (12:Nat) (joinF (11:Nat) (joinF (10:Nat) (joinF (9:Nat) (joinF (8:Nat) (joinF (7:Nat) (joinF (6:Nat) (joinF (5:Nat) (joinF (4:Nat) (joinF (3:Nat) (joinF (2:Nat) (joinF (1:Nat) (joinF (0:Nat) (fun(x x_1:Nat)=>D.nilp) fun(i j:Nat)=>List.getD [D.int IntKind.i64 (0:Int),D.int IntKind.i64 (0:Int),D.sl true (3:Nat) (1:Nat) fun(i j:Nat)=>List.getD [D.int IntKind.i64 (-1:Int),D.int IntKind.i64 (0:Int),D.int IntKind.i64 (0:Int)] (i*1+j) D.nilp,D.int IntKind.i64 (0:Int)] (i*4+j) D.nilp) fun(i j:Nat)=>List.getD [D.int IntKind.i64 (0:Int),D.int IntKind.i64 (1:Int),D.sl true (3:Nat) (1:Nat) fun(i j:Nat)=>List.getD [D.int IntKind.i64 (0:Int),D.int IntKind.i64 (-1:Int),D.int IntKind.i64 (0:Int)] (i*1+j) D.nilp,D.int IntKind.i64 (0:Int)] (i*4+j) D.nilp) fun(i j:Nat)=>List.getD [D.int IntKind.i64 (0:Int),D.int IntKind.i64 (2:Int),D.sl true (3:Nat) (1:Nat) fun(i j:Nat)=>List.getD [D.int IntKind.i64 (0:Int),D.int IntKind.i64 (0:Int),D.int IntKind.i64 (-1:Int)] (i*1+j) D.nilp,D.int IntKind.i64 (0:Int)] (i*4+j) D.nilp) fun(i j:Nat)=>List.getD [D.int IntKind.i64 (1:Int),D.int IntKind.i64 (0:Int),D.sl true (3:Nat) (1:Nat) fun(i j:Nat)=>List.getD [D.int IntKind.i64 (1:Int),D.int IntKind.i64 (0:Int),D.int IntKind.i64 (0:Int)] (i*1+j) D.nilp,D.int IntKind.i64 (List.getD [c0,c1,c2] (Int.toNat (0:Int)) (Enc.dflt eC)).2] (i*4+j) D.nilp) fun(i j:Nat)=>List.getD [D.int IntKind.i64 (1:Int),D.int IntKind.i64 (1:Int),D.sl true (3:Nat) (1:Nat) fun(i j:Nat)=>List.getD [D.int IntKind.i64 (0:Int),D.int IntKind.i64 (1:Int),D.int IntKind.i64 (0:Int)] (i*1+j) D.nilp,D.int IntKind.i64 (List.getD [c0,c1,c2] (Int.toNat (IntKind.i64.wrap ((0:Int)+1))) (Enc.dflt eC)).2] (i*4+j) D.nilp) fun(i j:Nat)=>List.getD [D.int IntKind.i64 (1:Int),D.int IntKind.i64 (2:Int),D.sl true (3:Nat) (1:Nat) fun(i j:Nat)=>List.getD [D.int IntKind.i64 (0:Int),D.int IntKind.i64 (0:Int),D.int IntKind.i64 (1:Int)] (i*1+j) D.nilp,D.int IntKind.i64 (List.getD [c0,c1,c2] (Int.toNat (IntKind.i64.wrap (IntKind.i64.wrap ((0:Int)+1)+1))) (Enc.dflt eC)).2] (i*4+j) D.nilp) fun(i j:Nat)=>List.getD [D.int IntKind.i64 (2:Int),D.int IntKind.i64 (0:Int),D.sl true (3:Nat) (1:Nat) fun(i j:Nat)=>List.getD [D.int IntKind.i64 (IntKind.i64.wrap ((List.getD [c0,c1,c2] (Int.toNat (0:Int)) (Enc.dflt eC)).4-h0)),D.int IntKind.i64 (IntKind.i64.wrap ((List.getD [c0,c1,c2] (Int.toNat (IntKind.i64.wrap ((0:Int)+1))) (Enc.dflt eC)).4-h0)),D.int IntKind.i64 (IntKind.i64.wrap ((List.getD [c0,c1,c2] (Int.toNat (IntKind.i64.wrap (IntKind.i64.wrap ((0:Int)+1)+1))) (Enc.dflt eC)).4-h0))] (i*1+j) D.nilp,D.int IntKind.i64 (0:Int)] (i*4+j) D.nilp) fun(i j:Nat)=>List.getD [D.int IntKind.i64 (3:Int),D.int IntKind.i64 (0:Int),D.sl true (3:Nat) (1:Nat) fun(i j:Nat)=>List.getD [D.int IntKind.i64 (IntKind.i64.wrap (l0-(List.getD [c0,c1,c2] (Int.toNat (0:Int)) (Enc.dflt eC)).4)),D.int IntKind.i64 (IntKind.i64.wrap (l0-(List.getD [c0,c1,c2] (Int.toNat (IntKind.i64.wrap ((0:Int)+1))) (Enc.dflt eC)).4)),D.int IntKind.i64 (IntKind.i64.wrap (l0-(List.getD [c0,c1,c2] (Int.toNat (IntKind.i64.wrap (IntKind.i64.wrap ((0:Int)+1)+1))) (Enc.dflt eC)).4))] (i*1+j) D.nilp,D.int IntKind.i64 (0:Int)] (i*4+j) D.nilp) fun(i j:Nat)=>List.getD [D.int IntKind.i64 (2:Int),D.int IntKind.i64 (1:Int),D.sl true (3:Nat) (1:Nat) fun(i j:Nat)=>List.getD [D.int IntKind.i64 (IntKind.i64.wrap ((List.getD [c0,c1,c2] (Int.toNat (0:Int)) (Enc.dflt eC)).5-h1)),D.int IntKind.i64 (IntKind.i64.wrap ((List.getD [c0,c1,c2] (Int.toNat (IntKind.i64.wrap ((0:Int)+1))) (Enc.dflt eC)).5-h1)),D.int IntKind.i64 (IntKind.i64.wrap ((List.getD [c0,c1,c2] (Int.toNat (IntKind.i64.wrap (IntKind.i64.wrap ((0:Int)+1)+1))) (Enc.dflt eC)).5-h1))] (i*1+j) D.nilp,D.int IntKind.i64 (0:Int)] (i*4+j) D.nilp) fun(i j:Nat)=>List.getD [D.int IntKind.i64 (3:Int),D.int IntKind.i64 (1:Int),D.sl true (3:Nat) (1:Nat) fun(i j:Nat)=>List.getD [D.int IntKind.i64 (IntKind.i64.wrap (l1-(List.getD [c0,c1,c2] (Int.toNat (0:Int)) (Enc.dflt eC)).5)),D.int IntKind.i64 (IntKind.i64.wrap (l1-(List.getD [c0,c1,c2] (Int.toNat (IntKind.i64.wrap ((0:Int)+1))) (Enc.dflt eC)).5)),D.int IntKind.i64 (IntKind.i64.wrap (l1-(List.getD [c0,c1,c2] (Int.toNat (IntKind.i64.wrap (IntKind.i64.wrap ((0:Int)+1)+1))) (Enc.dflt eC)).5))] (i*1+j) D.nilp,D.int IntKind.i64 (0:Int)] (i*4+j) D.nilp) fun(i j:Nat)=>List.getD [D.int IntKind.i64 (2:Int),D.int IntKind.i64 (2:Int),D.sl true (3:Nat) (1:Nat) fun(i j:Nat)=>List.getD [D.int IntKind.i64 (IntKind.i64.wrap ((List.getD [c0,c1,c2] (Int.toNat (0:Int)) (Enc.dflt eC)).6-h2)),D.int IntKind.i64 (IntKind.i64.wrap ((List.getD [c0,c1,c2] (Int.toNat (IntKind.i64.wrap ((0:Int)+1))) (Enc.dflt eC)).6-h2)),D.int IntKind.i64 (IntKind.i64.wrap ((List.getD [c0,c1,c2] (Int.toNat (IntKind.i64.wrap (IntKind.i64.wrap ((0:Int)+1)+1))) (Enc.dflt eC)).6-h2))] (i*1+j) D.nilp,D.int IntKind.i64 (0:Int)] (i*4+j) D.nilp) fun(i j:Nat)=>List.getD [D.int IntKind.i64 (3:Int),D.int IntKind.i64 (2:Int),D.sl true (3:Nat) (1:Nat) fun(i j:Nat)=>List.getD [D.int IntKind.i64 (IntKind.i64.wrap (l2-(List.getD [c0,c1,c2] (Int.toNat (0:Int)) (Enc.dflt eC)).6)),D.int IntKind.i64 (IntKind.i64.wrap (l2-(List.getD [c0,c1,c2] (Int.toNat (IntKind.i64.wrap ((0:Int)+1))) (Enc.dflt eC)).6)),D.int IntKind.i64 (IntKind.i64.wrap (l2-(List.getD [c0,c1,c2] (Int.toNat (IntKind.i64.wrap (IntKind.i64.wrap ((0:Int)+1)+1))) (Enc.dflt eC)).6))] (i*1+j) D.nilp,D.int IntKind.i64 (0:Int)] (i*4+j) D.nilp) fun(i j:Nat)=>List.getD [D.int IntKind.i64 (2:Int),D.int IntKind.i64 (3:Int),D.sl true (3:Nat) (1:Nat) fun(i j:Nat)=>List.getD [D.int IntKind.i64 (IntKind.i64.wrap ((List.getD [c0,c1,c2] (Int.toNat (0:Int)) (Enc.dflt eC)).7-h3)),D.int IntKind.i64 (IntKind.i64.wrap ((List.getD [c0,c1,c2] (Int.toNat (IntKind.i64.wrap ((0:Int)+1))) (Enc.dflt eC)).7-h3)),D.int IntKind.i64 (IntKind.i64.wrap ((List.getD [c0,c1,c2] (Int.toNat (IntKind.i64.wrap (IntKind.i64.wrap ((0:Int)+1)+1))) (Enc.dflt eC)).7-h3))] (i*1+j) D.nilp,D.int IntKind.i64 (0:Int)] (i*4+j) D.nilp) fun(i j:Nat)=>List.getD [D.int IntKind.i64 (3:Int),D.int IntKind.i64 (3:Int),D.sl true (3:Nat) (1:Nat) fun(i j:Nat)=>List.getD [D.int IntKind.i64 (IntKind.i64.wrap (l3-(List.getD [c0,c1,c2] (Int.toNat (0:Int)) (Enc.dflt eC)).7)),D.int IntKind.i64 (IntKind.i64.wrap (l3-(List.getD [c0,c1,c2] (Int.toNat (IntKind.i64.wrap ((0:Int)+1))) (Enc.dflt eC)).7)),D.int IntKind.i64 (IntKind.i64.wrap (l3-(List.getD [c0,c1,c2] (Int.toNat (IntKind.i64.wrap (IntKind.i64.wrap ((0:Int)+1)+1))) (Enc.dflt eC)).7))] (i*1+j) D.nilp,D.int IntKind.i64 (0:Int)] (i*4+j) D.nilp)]])
theorem t66_3(q:Bool)(c0 c1 c2:Cask)(sv l0 h0 l1 h1 l2 h2 l3 h3:Int):runFnX Try.prog G0 (lookS []) (fun _=>[(999999,[],none)]) [113,133,134,135,136,137,138,139] 1 60 6 66 Try.f66 [.c (.sl q 3 7 (eC.F [c0,c1,c2])),.agg [dI sv,dI l0,dI h0,dI l1,dI h1,dI l2,dI h2,dI l3,dI h3]] =
  tr66_3 c0 c1 c2 sv l0 h0 l1 h1 l2 h2 l3 h3:=by kernel_rfl
theorem w66_3(c0 c1 c2:Cask)(sv l0 h0 l1 h1 l2 h2 l3 h3:Int):(tr66_3 c0 c1 c2 sv l0 h0 l1 h1 l2 h2 l3 h3).wp (fun rs=>rsEqv rs (res66 [c0,c1,c2] ⟨sv,⟨l0,h0⟩,⟨l1,h1⟩,⟨l2,h2⟩,⟨l3,h3⟩⟩)):=by
 unfold tr66_3
 repeat (refine⟨by decide,?_⟩)
 refine⟨⟨?_,rfl,?_,?_,trivial⟩,trivial⟩
 ·refine sl_ints (q':=false) (l:=M.shares [c0,c1,c2] 0) (fun e=>nomatch e) ?_
  kernel_rfl
 ·refine sl_ints (q':=false) (l:=M.costs [c0,c1,c2]) (fun e=>nomatch e) ?_
  kernel_rfl
 ·refine conds_eqv (q':=false) (m:=M.limits [c0,c1,c2] ⟨sv,⟨l0,h0⟩,⟨l1,h1⟩,⟨l2,h2⟩,⟨l3,h3⟩⟩ 0) (fun e=>nomatch e) ?_
  kernel_rfl
end Go.Bl
end
section
set_option maxRecDepth 100000
namespace Go.Bl
open Go.V Go.Proofs
def tr66_4(c0 c1 c2 c3:Cask)(sv l0 h0 l1 h1 l2 h2 l3 h3:Int):T (List Ar):=
  T.needs [(1:Nat)≤1000000,(2:Nat)≤1000000,(1:Nat)≤1,(3:Nat)≤1000000,(2:Nat)≤2,(4:Nat)≤1000000,(3:Nat)≤3,(0:Int)≤0,(0:Int)<4,(5:Nat)≤1000000,(4:Nat)≤4,(0:Int)≤1,(1:Int)<4,(6:Nat)≤1000000,(5:Nat)≤5,(0:Int)≤2,(2:Int)<4,(7:Nat)≤1000000,(6:Nat)≤6,(0:Int)≤3,(3:Int)<4,(8:Nat)≤1000000,(7:Nat)≤7,(0:Int)≤0,(0:Int)<4,(0:Int)≤0,(0:Int)<4,(0:Int)≤1,(1:Int)<4,(0:Int)≤0,(0:Int)<4,(0:Int)≤2,(2:Int)<4,(0:Int)≤0,(0:Int)<4,(0:Int)≤3,(3:Int)<4,(0:Int)≤0,(0:Int)<4,(9:Nat)≤1000000,(8:Nat)≤8,(0:Int)≤0,(0:Int)<4,(0:Int)≤0,(0:Int)<4,(0:Int)≤1,(1:Int)<4,(0:Int)≤0,(0:Int)<4,(0:Int)≤2,(2:Int)<4,(0:Int)≤0,(0:Int)<4,(0:Int)≤3,(3:Int)<4,(0:Int)≤0,(0:Int)<4,(10:Nat)≤1000000,(9:Nat)≤9,(0:Int)≤0,(0:Int)<4,(0:Int)≤1,(1:Int)<4,(0:Int)≤1,(1:Int)<4,(0:Int)≤1,(1:Int)<4,(0:Int)≤2,(2:Int)<4,(0:Int)≤1,(1:Int)<4,(0:Int)≤3,(3:Int)<4,(0:Int)≤1,(1:Int)<4,(11:Nat)≤1000000,(10:Nat)≤10,(0:Int)≤0,(0:Int)<4,(0:Int)≤1,(1:Int)<4,(0:Int)≤1,(1:Int)<4,(0:Int)≤1,(1:Int)<4,(0:Int)≤2,(2:Int)<4,(0:Int)≤1,(1:Int)<4,(0:Int)≤3,(3:Int)<4,(0:Int)≤1,(1:Int)<4,(12:Nat)≤1000000,(11:Nat)≤11,(0:Int)≤0,(0:Int)<4,(0:Int)≤2,(2:Int)<4,(0:Int)≤1,(1:Int)<4,(0:Int)≤2,(2:Int)<4,(0:Int)≤2,(2:Int)<4,(0:Int)≤2,(2:Int)<4,(0:Int)≤3,(3:Int)<4,(0:Int)≤2,(2:Int)<4,(13:Nat)≤1000000,(12:Nat)≤12,(0:Int)≤0,(0:Int)<4,(0:Int)≤2,(2:Int)<4,(0:Int)≤1,(1:Int)<4,(0:Int)≤2,(2:Int)<4,(0:Int)≤2,(2:Int)<4,(0:Int)≤2,(2:Int)<4,(0:Int)≤3,(3:Int)<4,(0:Int)≤2,(2:Int)<4,(14:Nat)≤1000000,(13:Nat)≤13,(0:Int)≤0,(0:Int)<4,(0:Int)≤3,(3:Int)<4,(0:Int)≤1,(1:Int)<4,(0:Int)≤3,(3:Int)<4,(0:Int)≤2,(2:Int)<4,(0:Int)≤3,(3:Int)<4,(0:Int)≤3,(3:Int)<4,(0:Int)≤3,(3:Int)<4,(15:Nat)≤1000000,(14:Nat)≤14,(0:Int)≤0,(0:Int)<4,(0:Int)≤3,(3:Int)<4,(0:Int)≤1,(1:Int)<4,(0:Int)≤3,(3:Int)<4,(0:Int)≤2,(2:Int)<4,(0:Int)≤3,(3:Int)<4,(0:Int)≤3,(3:Int)<4,(0:Int)≤3,(3:Int)<4,(16:Nat)≤1000000,(15:Nat)≤15,(0:Int)≤0,(0:Int)<4,(0:Int)≤1,(1:Int)<4,(0:Int)≤2,(2:Int)<4,(0:Int)≤3,(3:Int)<4,(16:Nat)≤16] (T.ret [Ar.agg [D.sl true (4:Nat) (1:Nat) fun(i' j:Nat)=>List.getD [D.int IntKind.i64 (1:Int),D.int IntKind.i64 (1:Int),D.int IntKind.i64 (1:Int),D.int IntKind.i64 (1:Int)] (i'*1+j) D.nilp,D.int IntKind.i64 sv,D.sl true (4:Nat) (1:Nat) fun(i' j:Nat)=>List.getD [D.int IntKind.i64 (List.getD [c0,c1,c2,c3] (Int.toNat (0:Int)) (Enc.dflt eC)).3,D.int IntKind.i64 (List.getD [c0,c1,c2,c3] (Int.toNat (IntKind.i64.wrap ((0:Int)+1))) (Enc.dflt eC)).3,D.int IntKind.i64 (List.getD [c0,c1,c2,c3] (Int.toNat (IntKind.i64.wrap (IntKind.i64.wrap ((0:Int)+1)+1))) (Enc.dflt eC)).3,D.int IntKind.i64 (List.getD [c0,c1,c2,c3] (Int.toNat (IntKind.i64.wrap (IntKind.i64.wrap (IntKind.i64.wrap ((0:Int)+1)+1)+1))) (Enc.dflt eC)).3] (i'*1+j) D.nilp,D.sl true (16:Nat) (4:Nat) (joinF (15:Nat) (joinF (14:Nat) (joinF (13:Nat) (joinF (12:Nat) (joinF (11:Nat) (joinF (10:Nat) (joinF (9:Nat) (joinF (8:Nat) (joinF (7:Nat) (joinF (6:Nat) (joinF (5:Nat) (joinF (4:Nat) (joinF (3:Nat) (joinF (2:Nat) (joinF (1:Nat) (joinF (0:Nat) (fun(x x_1:Nat)=>D.nilp) fun(i j:Nat)=>List.getD [D.int IntKind.i64 (0:Int),D.int IntKind.i64 (0:Int),D.sl true (4:Nat) (1:Nat) fun(i j:Nat)=>List.getD [D.int IntKind.i64 (-1:Int),D.int IntKind.i64 (0:Int),D.int IntKind.i64 (0:Int),D.int IntKind.i64 (0:Int)] (i*1+j) D.nilp,D.int IntKind.i64 (0:Int)] (i*4+j) D.nilp) fun(i j:Nat)=>List.getD [D.int IntKind.i64 (0:Int),D.int IntKind.i64 (1:Int),D.sl true (4:Nat) (1:Nat) fun(i j:Nat)=>List.getD [D.int IntKind.i64 (0:Int),D.int IntKind.i64 (-1:Int),D.int IntKind.i64 (0:Int),D.int IntKind.i64 (0:Int)] (i*1+j) D.nilp,D.int IntKind.i64 (0:Int)] (i*4+j) D.nilp) fun(i j:Nat)=>List.getD [D.int IntKind.i64 (0:Int),D.int IntKind.i64 (2:Int),D.sl true (4:Nat) (1:Nat) fun(i j:Nat)=>List.getD [D.int IntKind.i64 (0:Int),D.int IntKind.i64 (0:Int),D.int IntKind.i64 (-1:Int),D.int IntKind.i64 (0:Int)] (i*1+j) D.nilp,D.int IntKind.i64 (0:Int)] (i*4+j) D.nilp) fun(i j:Nat)=>List.getD [D.int IntKind.i64 (0:Int),D.int IntKind.i64 (3:Int),D.sl true (4:Nat) (1:Nat) fun(i j:Nat)=>List.getD [D.int IntKind.i64 (0:Int),D.int IntKind.i64 (0:Int),D.int IntKind.i64 (0:Int),D.int IntKind.i64 (-1:Int)] (i*1+j) D.nilp,D.int IntKind.i64 (0:Int)] (i*4+j) D.nilp) fun(i j:Nat)=>List.getD [D.int IntKind.i64 (1:Int),D.int IntKind.i64 (0:Int),D.sl true (4:Nat) (1:Nat) fun(i j:Nat)=>List.getD [D.int IntKind.i64 (1:Int),D.int IntKind.i64 (0:Int),D.int IntKind.i64 (0:Int),D.int IntKind.i64 (0:Int)] (i*1+j) D.nilp,D.int IntKind.i64 (List.getD [c0,c1,c2,c3] (Int.toNat (0:Int)) (Enc.dflt eC)).2] (i*4+j) D.nilp) fun(i j:Nat)=>List.getD [D.int IntKind.i64 (1:Int),D.int IntKind.i64 (1:Int),D.sl true (4:Nat) (1:Nat) fun(i j:Nat)=>List.getD [D.int IntKind.i64 (0:Int),D.int IntKind.i64 (1:Int),D.int IntKind.i64 (0:Int),D.int IntKind.i64 (0:Int)] (i*1+j) D.nilp,D.int IntKind.i64 (List.getD [c0,c1,c2,c3] (Int.toNat (IntKind.i64.wrap ((0:Int)+1))) (Enc.dflt eC)).2] (i*4+j) D.nilp) fun(i j:Nat)=>List.getD [D.int IntKind.i64 (1:Int),D.int IntKind.i64 (2:Int),D.sl true (4:Nat) (1:Nat) fun(i j:Nat)=>List.getD [D.int IntKind.i64 (0:Int),D.int IntKind.i64 (0:Int),D.int IntKind.i64 (1:Int),D.int IntKind.i64 (0:Int)] (i*1+j) D.nilp,D.int IntKind.i64 (List.getD [c0,c1,c2,c3] (Int.toNat (IntKind.i64.wrap (IntKind.i64.wrap ((0:Int)+1)+1))) (Enc.dflt eC)).2] (i*4+j) D.nilp) fun(i j:Nat)=>List.getD [D.int IntKind.i64 (1:Int),D.int IntKind.i64 (3:Int),D.sl true (4:Nat) (1:Nat) fun(i j:Nat)=>List.getD [D.int IntKind.i64 (0:Int),D.int IntKind.i64 (0:Int),D.int IntKind.i64 (0:Int),D.int IntKind.i64 (1:Int)] (i*1+j) D.nilp,D.int IntKind.i64 (List.getD [c0,c1,c2,c3] (Int.toNat (IntKind.i64.wrap (IntKind.i64.wrap (IntKind.i64.wrap ((0:Int)+1)+1)+1))) (Enc.dflt eC)).2] (i*4+j) D.nilp) fun(i j:Nat)=>List.getD [D.int IntKind.i64 (2:Int),D.int IntKind.i64 (0:Int),D.sl true (4:Nat) (1:Nat) fun(i j:Nat)=>List.getD [D.int IntKind.i64 (IntKind.i64.wrap ((List.getD [c0,c1,c2,c3] (Int.toNat (0:Int)) (Enc.dflt eC)).4-h0)),D.int IntKind.i64 (IntKind.i64.wrap ((List.getD [c0,c1,c2,c3] (Int.toNat (IntKind.i64.wrap ((0:Int)+1))) (Enc.dflt eC)).4-h0)),D.int IntKind.i64 (IntKind.i64.wrap ((List.getD [c0,c1,c2,c3] (Int.toNat (IntKind.i64.wrap (IntKind.i64.wrap ((0:Int)+1)+1))) (Enc.dflt eC)).4-h0)),D.int IntKind.i64 (IntKind.i64.wrap ((List.getD [c0,c1,c2,c3] (Int.toNat (IntKind.i64.wrap (IntKind.i64.wrap (IntKind.i64.wrap ((0:Int)+1)+1)+1))) (Enc.dflt eC)).4-h0))] (i*1+j) D.nilp,D.int IntKind.i64 (0:Int)] (i*4+j) D.nilp) fun(i j:Nat)=>List.getD [D.int IntKind.i64 (3:Int),D.int IntKind.i64 (0:Int),D.sl true (4:Nat) (1:Nat) fun(i j:Nat)=>List.getD [D.int IntKind.i64 (IntKind.i64.wrap (l0-(List.getD [c0,c1,c2,c3] (Int.toNat (0:Int)) (Enc.dflt eC)).4)),D.int IntKind.i64 (IntKind.i64.wrap (l0-(List.getD [c0,c1,c2,c3] (Int.toNat (IntKind.i64.wrap ((0:Int)+1))) (Enc.dflt eC)).4)),D.int IntKind.i64 (IntKind.i64.wrap (l0-(List.getD [c0,c1,c2,c3] (Int.toNat (IntKind.i64.wrap (IntKind.i64.wrap ((0:Int)+1)+1))) (Enc.dflt eC)).4)),D.int IntKind.i64 (IntKind.i64.wrap (l0-(List.getD [c0,c1,c2,c3] (Int.toNat (IntKind.i64.wrap (IntKind.i64.wrap (IntKind.i64.wrap ((0:Int)+1)+1)+1))) (Enc.dflt eC)).4))] (i*1+j) D.nilp,D.int IntKind.i64 (0:Int)] (i*4+j) D.nilp) fun(i j:Nat)=>List.getD [D.int IntKind.i64 (2:Int),D.int IntKind.i64 (1:Int),D.sl true (4:Nat) (1:Nat) fun(i j:Nat)=>List.getD [D.int IntKind.i64 (IntKind.i64.wrap ((List.getD [c0,c1,c2,c3] (Int.toNat (0:Int)) (Enc.dflt eC)).5-h1)),D.int IntKind.i64 (IntKind.i64.wrap ((List.getD [c0,c1,c2,c3] (Int.toNat (IntKind.i64.wrap ((0:Int)+1))) (Enc.dflt eC)).5-h1)),D.int IntKind.i64 (IntKind.i64.wrap ((List.getD [c0,c1,c2,c3] (Int.toNat (IntKind.i64.wrap (IntKind.i64.wrap ((0:Int)+1)+1))) (Enc.dflt eC)).5-h1)),D.int IntKind.i64 (IntKind.i64.wrap ((List.getD [c0,c1,c2,c3] (Int.toNat (IntKind.i64.wrap (IntKind.i64.wrap (IntKind.i64.wrap ((0:Int)+1)+1)+1))) (Enc.dflt eC)).5-h1))] (i*1+j) D.nilp,D.int IntKind.i64 (0:Int)] (i*4+j) D.nilp) fun(i j:Nat)=>List.getD [D.int IntKind.i64 (3:Int),D.int IntKind.i64 (1:Int),D.sl true (4:Nat) (1:Nat) fun(i j:Nat)=>List.getD [D.int IntKind.i64 (IntKind.i64.wrap (l1-(List.getD [c0,c1,c2,c3] (Int.toNat (0:Int)) (Enc.dflt eC)).5)),D.int IntKind.i64 (IntKind.i64.wrap (l1-(List.getD [c0,c1,c2,c3] (Int.toNat (IntKind.i64.wrap ((0:Int)+1))) (Enc.dflt eC)).5)),D.int IntKind.i64 (IntKind.i64.wrap (l1-(List.getD [c0,c1,c2,c3] (Int.toNat (IntKind.i64.wrap (IntKind.i64.wrap ((0:Int)+1)+1))) (Enc.dflt eC)).5)),D.int IntKind.i64 (IntKind.i64.wrap (l1-(List.getD [c0,c1,c2,c3] (Int.toNat (IntKind.i64.wrap (IntKind.i64.wrap (IntKind.i64.wrap ((0:Int)+1)+1)+1))) (Enc.dflt eC)).5))] (i*1+j) D.nilp,D.int IntKind.i64 (0:Int)] (i*4+j) D.nilp) fun(i j:Nat)=>List.getD [D.int IntKind.i64 (2:Int),D.int IntKind.i64 (2:Int),D.sl true (4:Nat) (1:Nat) fun(i j:Nat)=>List.getD [D.int IntKind.i64 (IntKind.i64.wrap ((List.getD [c0,c1,c2,c3] (Int.toNat (0:Int)) (Enc.dflt eC)).6-h2)),D.int IntKind.i64 (IntKind.i64.wrap ((List.getD [c0,c1,c2,c3] (Int.toNat (IntKind.i64.wrap ((0:Int)+1))) (Enc.dflt eC)).6-h2)),D.int IntKind.i64 (IntKind.i64.wrap ((List.getD [c0,c1,c2,c3] (Int.toNat (IntKind.i64.wrap (IntKind.i64.wrap ((0:Int)+1)+1))) (Enc.dflt eC)).6-h2)),D.int IntKind.i64 (IntKind.i64.wrap ((List.getD [c0,c1,c2,c3] (Int.toNat (IntKind.i64.wrap (IntKind.i64.wrap (IntKind.i64.wrap ((0:Int)+1)+1)+1))) (Enc.dflt eC)).6-h2))] (i*1+j) D.nilp,D.int IntKind.i64 (0:Int)] (i*4+j) D.nilp) fun(i j:Nat)=>List.getD [D.int IntKind.i64 (3:Int),D.int IntKind.i64 (2:Int),D.sl true (4:Nat) (1:Nat) fun(i j:Nat)=>List.getD [D.int IntKind.i64 (IntKind.i64.wrap (l2-(List.getD [c0,c1,c2,c3] (Int.toNat (0:Int)) (Enc.dflt eC)).6)),D.int IntKind.i64 (IntKind.i64.wrap (l2-(List.getD [c0,c1,c2,c3] (Int.toNat (IntKind.i64.wrap ((0:Int)+1))) (Enc.dflt eC)).6)),D.int IntKind.i64 (IntKind.i64.wrap (l2-(List.getD [c0,c1,c2,c3] (Int.toNat (IntKind.i64.wrap (IntKind.i64.wrap ((0:Int)+1)+1))) (Enc.dflt eC)).6)),D.int IntKind.i64 (IntKind.i64.wrap (l2-(List.getD [c0,c1,c2,c3] (Int.toNat (IntKind.i64.wrap (IntKind.i64.wrap (IntKind.i64.wrap ((0:Int)+1)+1)+1))) (Enc.dflt eC)).6))] (i*1+j) D.nilp,D.int IntKind.i64 (0:Int)] (i*4+j) D.nilp) fun(i j:Nat)=>List.getD [D.int IntKind.i64 (2:Int),D.int IntKind.i64 (3:Int),D.sl true (4:Nat) (1:Nat) fun(i j:Nat)=>List.getD [D.int IntKind.i64 (IntKind.i64.wrap ((List.getD [c0,c1,c2,c3] (Int.toNat (0:Int)) (Enc.dflt eC)).7-h3)),D.int IntKind.i64 (IntKind.i64.wrap ((List.getD [c0,c1,c2,c3] (Int.toNat (IntKind.i64.wrap ((0:Int)+1))) (Enc.dflt eC)).7-h3)),D.int IntKind.i64 (IntKind.i64.wrap ((List.getD [c0,c1,c2,c3] (Int.toNat (IntKind.i64.wrap (IntKind.i64.wrap ((0:Int)+1)+1))) (Enc.dflt eC)).7-h3)),D.int IntKind.i64 (IntKind.i64.wrap ((List.getD [c0,c1,c2,c3] (Int.toNat (IntKind.i64.wrap (IntKind.i64.wrap (IntKind.i64.wrap ((0:Int)+1)+1)+1))) (Enc.dflt eC)).7-h3))] (i*1+j) D.nilp,D.int IntKind.i64 (0:Int)] (i*4+j) D.nilp) fun(i j:Nat)=>List.getD [D.int IntKind.i64 (3:Int),D.int IntKind.i64 (3:Int),D.sl true (4:Nat) (1:Nat) fun(i j:Nat)=>List.getD [D.int IntKind.i64 (IntKind.i64.wrap (l3-(List.getD [c0,c1,c2,c3] (Int.toNat (0:Int)) (Enc.dflt eC)).7)),D.int IntKind.i64 (IntKind.i64.wrap (l3-(List.getD [c0,c1,c2,c3] (Int.toNat (IntKind.i64.wrap ((0:Int)+1))) (Enc.dflt eC)).7)),D.int IntKind.i64 (IntKind.i64.wrap (l3-(List.getD [c0,c1,c2,c3] (Int.toNat (IntKind.i64.wrap (IntKind.i64.wrap ((0:Int)+1)+1))) (Enc.dflt eC)).7)),D.int IntKind.i64 (IntKind.i64.wrap (l3-(List.getD [c0,c1,c2,c3] (Int.toNat (IntKind.i64.wrap (IntKind.i64.wrap (IntKind.i64.wrap ((0:Int)+1)+1)+1))) (Enc.dflt eC)).7))] (i*1+j) D.nilp,D.int IntKind.i64 (0:Int)] (i*4+j) D.nilp)]])
theorem t66_4(q:Bool)(c0 c1 c2 c3:Cask)(sv l0 h0 l1 h1 l2 h2 l3 h3:Int):runFnX Try.prog G0 (lookS []) (fun _=>[(999999,[],none)]) [113,133,134,135,136,137,138,139] 1 60 6 66 Try.f66 [.c (.sl q 4 7 (eC.F [c0,c1,c2,c3])),.agg [dI sv,dI l0,dI h0,dI l1,dI h1,dI l2,dI h2,dI l3,dI h3]] =
  tr66_4 c0 c1 c2 c3 sv l0 h0 l1 h1 l2 h2 l3 h3:=by kernel_rfl
theorem w66_4(c0 c1 c2 c3:Cask)(sv l0 h0 l1 h1 l2 h2 l3 h3:Int):(tr66_4 c0 c1 c2 c3 sv l0 h0 l1 h1 l2 h2 l3 h3).wp (fun rs=>rsEqv rs (res66 [c0,c1,c2,c3] ⟨sv,⟨l0,h0⟩,⟨l1,h1⟩,⟨l2,h2⟩,⟨l3,h3⟩⟩)):=by
 unfold tr66_4
 repeat (refine⟨by decide,?_⟩)
 refine⟨⟨?_,rfl,?_,?_,trivial⟩,trivial⟩
 ·refine sl_ints (q':=false) (l:=M.shares [c0,c1,c2,c3] 0) (fun e=>nomatch e) ?_
  kernel_rfl
 ·refine sl_ints (q':=false) (l:=M.costs [c0,c1,c2,c3]) (fun e=>nomatch e) ?_
  kernel_rfl
 ·refine conds_eqv (q':=false) (m:=M.limits [c0,c1,c2,c3] ⟨sv,⟨l0,h0⟩,⟨l1,h1⟩,⟨l2,h2⟩,⟨l3,h3⟩⟩ 0) (fun e=>nomatch e) ?_
  kernel_rfl
end Go.Bl
end
section
set_option maxRecDepth 100000
namespace Go.Bl
open Go.V Go.Proofs
def tr82_1(c0:Cask)(sv l0 h0 l1 h1 l2 h2 l3 h3:Int):T (List Ar):=
  T.needs [(1:Nat)≤1000000,(2:Nat)≤1000000,(1:Nat)≤1,(0:Int)≤0,(0:Int)<1,(3:Nat)≤1000000,(2:Nat)≤2,(0:Int)≤0,(0:Int)<1,(0:Int)≤0,(0:Int)<4,(4:Nat)≤1000000,(3:Nat)≤3,(0:Int)≤0,(0:Int)<1,(0:Int)≤0,(0:Int)<4,(5:Nat)≤1000000,(4:Nat)≤4,(0:Int)≤0,(0:Int)<1,(0:Int)≤1,(1:Int)<4,(6:Nat)≤1000000,(5:Nat)≤5,(0:Int)≤0,(0:Int)<1,(0:Int)≤1,(1:Int)<4,(7:Nat)≤1000000,(6:Nat)≤6,(0:Int)≤0,(0:Int)<1,(0:Int)≤2,(2:Int)<4,(8:Nat)≤1000000,(7:Nat)≤7,(0:Int)≤0,(0:Int)<1,(0:Int)≤2,(2:Int)<4,(9:Nat)≤1000000,(8:Nat)≤8,(0:Int)≤0,(0:Int)<1,(0:Int)≤3,(3:Int)<4,(10:Nat)≤1000000,(9:Nat)≤9,(0:Int)≤0,(0:Int)<1,(0:Int)≤3,(3:Int)<4,(11:Nat)≤1000000,(10:Nat)≤10,(11:Nat)≤11] (T.ret [Ar.agg [D.sl true (2:Nat) (1:Nat) fun(i' j:Nat)=>List.getD [D.int IntKind.i64 (1:Int),D.int IntKind.i64 (0:Int)] (i'*1+j) D.nilp,D.int IntKind.i64 sv,D.sl true (2:Nat) (1:Nat) fun(i' j:Nat)=>List.getD [D.int IntKind.i64 (0:Int),D.int IntKind.i64 (1:Int)] (i'*1+j) D.nilp,D.sl true (11:Nat) (4:Nat) (joinF (10:Nat) (joinF (9:Nat) (joinF (8:Nat) (joinF (7:Nat) (joinF (6:Nat) (joinF (5:Nat) (joinF (4:Nat) (joinF (3:Nat) (joinF (2:Nat) (joinF (1:Nat) (joinF (0:Nat) (fun(x x_1:Nat)=>D.nilp) fun(i j:Nat)=>List.getD [D.int IntKind.i64 (0:Int),D.int IntKind.i64 (0:Int),D.sl true (2:Nat) (1:Nat) fun(i j:Nat)=>List.getD [D.int IntKind.i64 (-1:Int),D.int IntKind.i64 (0:Int)] (i*1+j) D.nilp,D.int IntKind.i64 (0:Int)] (i*4+j) D.nilp) fun(i j:Nat)=>List.getD [D.int IntKind.i64 (0:Int),D.int IntKind.i64 (1:Int),D.sl true (2:Nat) (1:Nat) fun(i j:Nat)=>List.getD [D.int IntKind.i64 (0:Int),D.int IntKind.i64 (-1:Int)] (i*1+j) D.nilp,D.int IntKind.i64 (0:Int)] (i*4+j) D.nilp) fun(i j:Nat)=>List.getD [D.int IntKind.i64 (1:Int),D.int IntKind.i64 (0:Int),D.sl true (2:Nat) (1:Nat) fun(i j:Nat)=>List.getD [D.int IntKind.i64 (1:Int),D.int IntKind.i64 (0:Int)] (i*1+j) D.nilp,D.int IntKind.i64 (List.getD [c0] (Int.toNat (0:Int)) (Enc.dflt eC)).2] (i*4+j) D.nilp) fun(i j:Nat)=>List.getD [D.int IntKind.i64 (2:Int),D.int IntKind.i64 (0:Int),D.sl true (2:Nat) (1:Nat) fun(i j:Nat)=>List.getD [D.int IntKind.i64 (IntKind.i64.wrap ((List.getD [c0] (Int.toNat (0:Int)) (Enc.dflt eC)).4-h0)),D.int IntKind.i64 (-1:Int)] (i*1+j) D.nilp,D.int IntKind.i64 (0:Int)] (i*4+j) D.nilp) fun(i j:Nat)=>List.getD [D.int IntKind.i64 (3:Int),D.int IntKind.i64 (0:Int),D.sl true (2:Nat) (1:Nat) fun(i j:Nat)=>List.getD [D.int IntKind.i64 (IntKind.i64.wrap (l0-(List.getD [c0] (Int.toNat (0:Int)) (Enc.dflt eC)).4)),D.int IntKind.i64 (-1:Int)] (i*1+j) D.nilp,D.int IntKind.i64 (0:Int)] (i*4+j) D.nilp) fun(i j:Nat)=>List.getD [D.int IntKind.i64 (2:Int),D.int IntKind.i64 (1:Int),D.sl true (2:Nat) (1:Nat) fun(i j:Nat)=>List.getD [D.int IntKind.i64 (IntKind.i64.wrap ((List.getD [c0] (Int.toNat (0:Int)) (Enc.dflt eC)).5-h1)),D.int IntKind.i64 (-1:Int)] (i*1+j) D.nilp,D.int IntKind.i64 (0:Int)] (i*4+j) D.nilp) fun(i j:Nat)=>List.getD [D.int IntKind.i64 (3:Int),D.int IntKind.i64 (1:Int),D.sl true (2:Nat) (1:Nat) fun(i j:Nat)=>List.getD [D.int IntKind.i64 (IntKind.i64.wrap (l1-(List.getD [c0] (Int.toNat (0:Int)) (Enc.dflt eC)).5)),D.int IntKind.i64 (-1:Int)] (i*1+j) D.nilp,D.int IntKind.i64 (0:Int)] (i*4+j) D.nilp) fun(i j:Nat)=>List.getD [D.int IntKind.i64 (2:Int),D.int IntKind.i64 (2:Int),D.sl true (2:Nat) (1:Nat) fun(i j:Nat)=>List.getD [D.int IntKind.i64 (IntKind.i64.wrap ((List.getD [c0] (Int.toNat (0:Int)) (Enc.dflt eC)).6-h2)),D.int IntKind.i64 (-1:Int)] (i*1+j) D.nilp,D.int IntKind.i64 (0:Int)] (i*4+j) D.nilp) fun(i j:Nat)=>List.getD [D.int IntKind.i64 (3:Int),D.int IntKind.i64 (2:Int),D.sl true (2:Nat) (1:Nat) fun(i j:Nat)=>List.getD [D.int IntKind.i64 (IntKind.i64.wrap (l2-(List.getD [c0] (Int.toNat (0:Int)) (Enc.dflt eC)).6)),D.int IntKind.i64 (-1:Int)] (i*1+j) D.nilp,D.int IntKind.i64 (0:Int)] (i*4+j) D.nilp) fun(i j:Nat)=>List.getD [D.int IntKind.i64 (2:Int),D.int IntKind.i64 (3:Int),D.sl true (2:Nat) (1:Nat) fun(i j:Nat)=>List.getD [D.int IntKind.i64 (IntKind.i64.wrap ((List.getD [c0] (Int.toNat (0:Int)) (Enc.dflt eC)).7-h3)),D.int IntKind.i64 (-1:Int)] (i*1+j) D.nilp,D.int IntKind.i64 (0:Int)] (i*4+j) D.nilp) fun(i j:Nat)=>List.getD [D.int IntKind.i64 (3:Int),D.int IntKind.i64 (3:Int),D.sl true (2:Nat) (1:Nat) fun(i j:Nat)=>List.getD [D.int IntKind.i64 (IntKind.i64.wrap (l3-(List.getD [c0] (Int.toNat (0:Int)) (Enc.dflt eC)).7)),D.int IntKind.i64 (-1:Int)] (i*1+j) D.nilp,D.int IntKind.i64 (0:Int)] (i*4+j) D.nilp)]])
theorem t82_1(q:Bool)(c0:Cask)(sv l0 h0 l1 h1 l2 h2 l3 h3:Int):runFnX Try.prog G0 (lookS []) (fun _=>[(999999,[],none)]) [113,133,134,135,136,137,138,139] 1 60 6 82 Try.f82 [.c (.sl q 1 7 (eC.F [c0])),.agg [dI sv,dI l0,dI h0,dI l1,dI h1,dI l2,dI h2,dI l3,dI h3]] =
  tr82_1 c0 sv l0 h0 l1 h1 l2 h2 l3 h3:=by kernel_rfl
theorem w82_1(c0:Cask)(sv l0 h0 l1 h1 l2 h2 l3 h3:Int):(tr82_1 c0 sv l0 h0 l1 h1 l2 h2 l3 h3).wp (fun rs=>rsEqv rs (res82 [c0] ⟨sv,⟨l0,h0⟩,⟨l1,h1⟩,⟨l2,h2⟩,⟨l3,h3⟩⟩)):=by
 unfold tr82_1
 repeat (refine⟨by decide,?_⟩)
 refine⟨⟨?_,rfl,?_,?_,trivial⟩,trivial⟩
 ·refine sl_ints (q':=false) (l:=M.shares [c0] 1) (fun e=>nomatch e) ?_
  kernel_rfl
 ·refine sl_ints (q':=false) (l:=M.far [c0]) (fun e=>nomatch e) ?_
  kernel_rfl
 ·refine conds_eqv (q':=false) (m:=M.limits [c0] ⟨sv,⟨l0,h0⟩,⟨l1,h1⟩,⟨l2,h2⟩,⟨l3,h3⟩⟩ 1) (fun e=>nomatch e) ?_
  kernel_rfl
end Go.Bl
end
section
set_option maxRecDepth 100000
namespace Go.Bl
open Go.V Go.Proofs
def tr82_2(c0 c1:Cask)(sv l0 h0 l1 h1 l2 h2 l3 h3:Int):T (List Ar):=
  T.needs [(1:Nat)≤1000000,(2:Nat)≤1000000,(1:Nat)≤1,(3:Nat)≤1000000,(2:Nat)≤2,(0:Int)≤0,(0:Int)<2,(4:Nat)≤1000000,(3:Nat)≤3,(0:Int)≤1,(1:Int)<2,(5:Nat)≤1000000,(4:Nat)≤4,(0:Int)≤0,(0:Int)<2,(0:Int)≤0,(0:Int)<4,(0:Int)≤1,(1:Int)<2,(0:Int)≤0,(0:Int)<4,(6:Nat)≤1000000,(5:Nat)≤5,(0:Int)≤0,(0:Int)<2,(0:Int)≤0,(0:Int)<4,(0:Int)≤1,(1:Int)<2,(0:Int)≤0,(0:Int)<4,(7:Nat)≤1000000,(6:Nat)≤6,(0:Int)≤0,(0:Int)<2,(0:Int)≤1,(1:Int)<4,(0:Int)≤1,(1:Int)<2,(0:Int)≤1,(1:Int)<4,(8:Nat)≤1000000,(7:Nat)≤7,(0:Int)≤0,(0:Int)<2,(0:Int)≤1,(1:Int)<4,(0:Int)≤1,(1:Int)<2,(0:Int)≤1,(1:Int)<4,(9:Nat)≤1000000,(8:Nat)≤8,(0:Int)≤0,(0:Int)<2,(0:Int)≤2,(2:Int)<4,(0:Int)≤1,(1:Int)<2,(0:Int)≤2,(2:Int)<4,(10:Nat)≤1000000,(9:Nat)≤9,(0:Int)≤0,(0:Int)<2,(0:Int)≤2,(2:Int)<4,(0:Int)≤1,(1:Int)<2,(0:Int)≤2,(2:Int)<4,(11:Nat)≤1000000,(10:Nat)≤10,(0:Int)≤0,(0:Int)<2,(0:Int)≤3,(3:Int)<4,(0:Int)≤1,(1:Int)<2,(0:Int)≤3,(3:Int)<4,(12:Nat)≤1000000,(11:Nat)≤11,(0:Int)≤0,(0:Int)<2,(0:Int)≤3,(3:Int)<4,(0:Int)≤1,(1:Int)<2,(0:Int)≤3,(3:Int)<4,(13:Nat)≤1000000,(12:Nat)≤12,(13:Nat)≤13] (T.ret [Ar.agg [D.sl true (3:Nat) (1:Nat) fun(i' j:Nat)=>List.getD [D.int IntKind.i64 (1:Int),D.int IntKind.i64 (1:Int),D.int IntKind.i64 (0:Int)] (i'*1+j) D.nilp,D.int IntKind.i64 sv,D.sl true (3:Nat) (1:Nat) fun(i' j:Nat)=>List.getD [D.int IntKind.i64 (0:Int),D.int IntKind.i64 (0:Int),D.int IntKind.i64 (1:Int)] (i'*1+j) D.nilp,D.sl true (13:Nat) (4:Nat) (joinF (12:Nat) (joinF (11:Nat) (joinF (10:Nat) (joinF (9:Nat) (joinF (8:Nat) (joinF (7:Nat) (joinF (6:Nat) (joinF (5:Nat) (joinF (4:Nat) (joinF (3:Nat) (joinF (2:Nat) (joinF (1:Nat) (joinF (0:Nat) (fun(x x_1:Nat)=>D.nilp) fun(i j:Nat)=>List.getD [D.int IntKind.i64 (0:Int),D.int IntKind.i64 (0:Int),D.sl true (3:Nat) (1:Nat) fun(i j:Nat)=>List.getD [D.int IntKind.i64 (-1:Int),D.int IntKind.i64 (0:Int),D.int IntKind.i64 (0:Int)] (i*1+j) D.nilp,D.int IntKind.i64 (0:Int)] (i*4+j) D.nilp) fun(i j:Nat)=>List.getD [D.int IntKind.i64 (0:Int),D.int IntKind.i64 (1:Int),D.sl true (3:Nat) (1:Nat) fun(i j:Nat)=>List.getD [D.int IntKind.i64 (0:Int),D.int IntKind.i64 (-1:Int),D.int IntKind.i64 (0:Int)] (i*1+j) D.nilp,D.int IntKind.i64 (0:Int)] (i*4+j) D.nilp) fun(i j:Nat)=>List.getD [D.int IntKind.i64 (0:Int),D.int IntKind.i64 (2:Int),D.sl true (3:Nat) (1:Nat) fun(i j:Nat)=>List.getD [D.int IntKind.i64 (0:Int),D.int IntKind.i64 (0:Int),D.int IntKind.i64 (-1:Int)] (i*1+j) D.nilp,D.int IntKind.i64 (0:Int)] (i*4+j) D.nilp) fun(i j:Nat)=>List.getD [D.int IntKind.i64 (1:Int),D.int IntKind.i64 (0:Int),D.sl true (3:Nat) (1:Nat) fun(i j:Nat)=>List.getD [D.int IntKind.i64 (1:Int),D.int IntKind.i64 (0:Int),D.int IntKind.i64 (0:Int)] (i*1+j) D.nilp,D.int IntKind.i64 (List.getD [c0,c1] (Int.toNat (0:Int)) (Enc.dflt eC)).2] (i*4+j) D.nilp) fun(i j:Nat)=>List.getD [D.int IntKind.i64 (1:Int),D.int IntKind.i64 (1:Int),D.sl true (3:Nat) (1:Nat) fun(i j:Nat)=>List.getD [D.int IntKind.i64 (0:Int),D.int IntKind.i64 (1:Int),D.int IntKind.i64 (0:Int)] (i*1+j) D.nilp,D.int IntKind.i64 (List.getD [c0,c1] (Int.toNat (IntKind.i64.wrap ((0:Int)+1))) (Enc.dflt eC)).2] (i*4+j) D.nilp) fun(i j:Nat)=>List.getD [D.int IntKind.i64 (2:Int),D.int IntKind.i64 (0:Int),D.sl true (3:Nat) (1:Nat) fun(i j:Nat)=>List.getD [D.int IntKind.i64 (IntKind.i64.wrap ((List.getD [c0,c1] (Int.toNat (0:Int)) (Enc.dflt eC)).4-h0)),D.int IntKind.i64 (IntKind.i64.wrap ((List.getD [c0,c1] (Int.toNat (IntKind.i64.wrap ((0:Int)+1))) (Enc.dflt eC)).4-h0)),D.int IntKind.i64 (-1:Int)] (i*1+j) D.nilp,D.int IntKind.i64 (0:Int)] (i*4+j) D.nilp) fun(i j:Nat)=>List.getD [D.int IntKind.i64 (3:Int),D.int IntKind.i64 (0:Int),D.sl true (3:Nat) (1:Nat) fun(i j:Nat)=>List.getD [D.int IntKind.i64 (IntKind.i64.wrap (l0-(List.getD [c0,c1] (Int.toNat (0:Int)) (Enc.dflt eC)).4)),D.int IntKind.i64 (IntKind.i64.wrap (l0-(List.getD [c0,c1] (Int.toNat (IntKind.i64.wrap ((0:Int)+1))) (Enc.dflt eC)).4)),D.int IntKind.i64 (-1:Int)] (i*1+j) D.nilp,D.int IntKind.i64 (0:Int)] (i*4+j) D.nilp) fun(i j:Nat)=>List.getD [D.int IntKind.i64 (2:Int),D.int IntKind.i64 (1:Int),D.sl true (3:Nat) (1:Nat) fun(i j:Nat)=>List.getD [D.int IntKind.i64 (IntKind.i64.wrap ((List.getD [c0,c1] (Int.toNat (0:Int)) (Enc.dflt eC)).5-h1)),D.int IntKind.i64 (IntKind.i64.wrap ((List.getD [c0,c1] (Int.toNat (IntKind.i64.wrap ((0:Int)+1))) (Enc.dflt eC)).5-h1)),D.int IntKind.i64 (-1:Int)] (i*1+j) D.nilp,D.int IntKind.i64 (0:Int)] (i*4+j) D.nilp) fun(i j:Nat)=>List.getD [D.int IntKind.i64 (3:Int),D.int IntKind.i64 (1:Int),D.sl true (3:Nat) (1:Nat) fun(i j:Nat)=>List.getD [D.int IntKind.i64 (IntKind.i64.wrap (l1-(List.getD [c0,c1] (Int.toNat (0:Int)) (Enc.dflt eC)).5)),D.int IntKind.i64 (IntKind.i64.wrap (l1-(List.getD [c0,c1] (Int.toNat (IntKind.i64.wrap ((0:Int)+1))) (Enc.dflt eC)).5)),D.int IntKind.i64 (-1:Int)] (i*1+j) D.nilp,D.int IntKind.i64 (0:Int)] (i*4+j) D.nilp) fun(i j:Nat)=>List.getD [D.int IntKind.i64 (2:Int),D.int IntKind.i64 (2:Int),D.sl true (3:Nat) (1:Nat) fun(i j:Nat)=>List.getD [D.int IntKind.i64 (IntKind.i64.wrap ((List.getD [c0,c1] (Int.toNat (0:Int)) (Enc.dflt eC)).6-h2)),D.int IntKind.i64 (IntKind.i64.wrap ((List.getD [c0,c1] (Int.toNat (IntKind.i64.wrap ((0:Int)+1))) (Enc.dflt eC)).6-h2)),D.int IntKind.i64 (-1:Int)] (i*1+j) D.nilp,D.int IntKind.i64 (0:Int)] (i*4+j) D.nilp) fun(i j:Nat)=>List.getD [D.int IntKind.i64 (3:Int),D.int IntKind.i64 (2:Int),D.sl true (3:Nat) (1:Nat) fun(i j:Nat)=>List.getD [D.int IntKind.i64 (IntKind.i64.wrap (l2-(List.getD [c0,c1] (Int.toNat (0:Int)) (Enc.dflt eC)).6)),D.int IntKind.i64 (IntKind.i64.wrap (l2-(List.getD [c0,c1] (Int.toNat (IntKind.i64.wrap ((0:Int)+1))) (Enc.dflt eC)).6)),D.int IntKind.i64 (-1:Int)] (i*1+j) D.nilp,D.int IntKind.i64 (0:Int)] (i*4+j) D.nilp) fun(i j:Nat)=>List.getD [D.int IntKind.i64 (2:Int),D.int IntKind.i64 (3:Int),D.sl true (3:Nat) (1:Nat) fun(i j:Nat)=>List.getD [D.int IntKind.i64 (IntKind.i64.wrap ((List.getD [c0,c1] (Int.toNat (0:Int)) (Enc.dflt eC)).7-h3)),D.int IntKind.i64 (IntKind.i64.wrap ((List.getD [c0,c1] (Int.toNat (IntKind.i64.wrap ((0:Int)+1))) (Enc.dflt eC)).7-h3)),D.int IntKind.i64 (-1:Int)] (i*1+j) D.nilp,D.int IntKind.i64 (0:Int)] (i*4+j) D.nilp) fun(i j:Nat)=>List.getD [D.int IntKind.i64 (3:Int),D.int IntKind.i64 (3:Int),D.sl true (3:Nat) (1:Nat) fun(i j:Nat)=>List.getD [D.int IntKind.i64 (IntKind.i64.wrap (l3-(List.getD [c0,c1] (Int.toNat (0:Int)) (Enc.dflt eC)).7)),D.int IntKind.i64 (IntKind.i64.wrap (l3-(List.getD [c0,c1] (Int.toNat (IntKind.i64.wrap ((0:Int)+1))) (Enc.dflt eC)).7)),D.int IntKind.i64 (-1:Int)] (i*1+j) D.nilp,D.int IntKind.i64 (0:Int)] (i*4+j) D.nilp)]])
theorem t82_2(q:Bool)(c0 c1:Cask)(sv l0 h0 l1 h1 l2 h2 l3 h3:Int):runFnX Try.prog G0 (lookS []) (fun _=>[(999999,[],none)]) [113,133,134,135,136,137,138,139] 1 60 6 82 Try.f82 [.c (.sl q 2 7 (eC.F [c0,c1])),.agg [dI sv,dI l0,dI h0,dI l1,dI h1,dI l2,dI h2,dI l3,dI h3]] =
  tr82_2 c0 c1 sv l0 h0 l1 h1 l2 h2 l3 h3:=by kernel_rfl
theorem w82_2(c0 c1:Cask)(sv l0 h0 l1 h1 l2 h2 l3 h3:Int):(tr82_2 c0 c1 sv l0 h0 l1 h1 l2 h2 l3 h3).wp (fun rs=>rsEqv rs (res82 [c0,c1] ⟨sv,⟨l0,h0⟩,⟨l1,h1⟩,⟨l2,h2⟩,⟨l3,h3⟩⟩)):=by
 unfold tr82_2
 repeat (refine⟨by decide,?_⟩)
 refine⟨⟨?_,rfl,?_,?_,trivial⟩,trivial⟩
 ·refine sl_ints (q':=false) (l:=M.shares [c0,c1] 1) (fun e=>nomatch e) ?_
  kernel_rfl
 ·refine sl_ints (q':=false) (l:=M.far [c0,c1]) (fun e=>nomatch e) ?_
  kernel_rfl
 ·refine conds_eqv (q':=false) (m:=M.limits [c0,c1] ⟨sv,⟨l0,h0⟩,⟨l1,h1⟩,⟨l2,h2⟩,⟨l3,h3⟩⟩ 1) (fun e=>nomatch e) ?_
  kernel_rfl
end Go.Bl
end
section
set_option maxRecDepth 100000
namespace Go.Bl
open Go.V Go.Proofs
def tr82_3(c0 c1 c2:Cask)(sv l0 h0 l1 h1 l2 h2 l3 h3:Int):T (List Ar):=
  T.needs [(1:Nat)≤1000000,(2:Nat)≤1000000,(1:Nat)≤1,(3:Nat)≤1000000,(2:Nat)≤2,(4:Nat)≤1000000,(3:Nat)≤3,(0:Int)≤0,(0:Int)<3,(5:Nat)≤1000000,(4:Nat)≤4,(0:Int)≤1,(1:Int)<3,(6:Nat)≤1000000,(5:Nat)≤5,(0:Int)≤2,(2:Int)<3,(7:Nat)≤1000000,(6:Nat)≤6,(0:Int)≤0,(0:Int)<3,(0:Int)≤0,(0:Int)<4,(0:Int)≤1,(1:Int)<3,(0:Int)≤0,(0:Int)<4,(0:Int)≤2,(2:Int)<3,(0:Int)≤0,(0:Int)<4,(8:Nat)≤1000000,(7:Nat)≤7,(0:Int)≤0,(0:Int)<3,(0:Int)≤0,(0:Int)<4,(0:Int)≤1,(1:Int)<3,(0:Int)≤0,(0:Int)<4,(0:Int)≤2,(2:Int)<3,(0:Int)≤0,(0:Int)<4,(9:Nat)≤1000000,(8:Nat)≤8,(0:Int)≤0,(0:Int)<3,(0:Int)≤1,(1:Int)<4,(0:Int)≤1,(1:Int)<3,(0:Int)≤1,(1:Int)<4,(0:Int)≤2,(2:Int)<3,(0:Int)≤1,(1:Int)<4,(10:Nat)≤1000000,(9:Nat)≤9,(0:Int)≤0,(0:Int)<3,(0:Int)≤1,(1:Int)<4,(0:Int)≤1,(1:Int)<3,(0:Int)≤1,(1:Int)<4,(0:Int)≤2,(2:Int)<3,(0:Int)≤1,(1:Int)<4,(11:Nat)≤1000000,(10:Nat)≤10,(0:Int)≤0,(0:Int)<3,(0:Int)≤2,(2:Int)<4,(0:Int)≤1,(1:Int)<3,(0:Int)≤2,(2:Int)<4,(0:Int)≤2,(2:Int)<3,(0:Int)≤2,(2:Int)<4,(12:Nat)≤1000000,(11:Nat)≤11,(0:Int)≤0,(0:Int)<3,(0:Int)≤2,(2:Int)<4,(0:Int)≤1,(1:Int)<3,(0:Int)≤2,(2:Int)<4,(0:Int)≤2,(2:Int)<3,(0:Int)≤2,(2:Int)<4,(13:Nat)≤1000000,(12:Nat)≤12,(0:Int)≤0,(0:Int)<3,(0:Int)≤3,(3:Int)<4,(0:Int)≤1,(1:Int)<3,(0:Int)≤3,(3:Int)<4,(0:Int)≤2,(2:Int)<3,(0:Int)≤3,(3:Int)<4,(14:Nat)≤1000000,(13:Nat)≤13,(0:Int)≤0,(0:Int)<3,(0:Int)≤3,(3:Int)<4,(0:Int)≤1,(1:Int)<3,(0:Int)≤3,(3:Int)<4,(0:Int)≤2,(2:Int)<3,(0:Int)≤3,(3:Int)<4,(15:Nat)≤1000000,(14:Nat)≤14,(15:Nat)≤15] (T.ret [Ar.agg [D.sl true (4:Nat) (1:Nat) fun(i' j:Nat)=>List.getD [D.int IntKind.i64 (1:Int),D.int IntKind.i64 (1:Int),D.int IntKind.i64 (1:Int),D.int IntKind.i64 (0:Int)] (i'*1+j) D.nilp,D.int IntKind.i64 sv,D.sl true (4:Nat) (1:Nat) fun(i' j:Nat)=>List.getD [D.int IntKind.i64 (0:Int),D.int IntKind.i64 (0:Int),D.int IntKind.i64 (0:Int),D.int IntKind.i64 (1:Int)] (i'*1+j) D.nilp,D.sl true (15:Nat) (4:Nat) (joinF (14:Nat) (joinF (13:Nat) (joinF (12:Nat) (joinF (11:Nat) (joinF (10:Nat) (joinF (9:Nat) (joinF (8:Nat) (joinF (7:Nat) (joinF (6:Nat) (joinF (5:Nat) (joinF (4:Nat) (joinF (3:Nat) (joinF (2:Nat) (joinF (1:Nat) (joinF (0:Nat) (fun(x x_1:Nat)=>D.nilp) fun(i j:Nat)=>List.getD [D.int IntKind.i64 (0:Int),D.int IntKind.i64 (0:Int),D.sl true (4:Nat) (1:Nat) fun(i j:Nat)=>List.getD [D.int IntKind.i64 (-1:Int),D.int IntKind.i64 (0:Int),D.int IntKind.i64 (0:Int),D.int IntKind.i64 (0:Int)] (i*1+j) D.nilp,D.int IntKind.i64 (0:Int)] (i*4+j) D.nilp) fun(i j:Nat)=>List.getD [D.int IntKind.i64 (0:Int),D.int IntKind.i64 (1:Int),D.sl true (4:Nat) (1:Nat) fun(i j:Nat)=>List.getD [D.int IntKind.i64 (0:Int),D.int IntKind.i64 (-1:Int),D.int IntKind.i64 (0:Int),D.int IntKind.i64 (0:Int)] (i*1+j) D.nilp,D.int IntKind.i64 (0:Int)] (i*4+j) D.nilp) fun(i j:Nat)=>List.getD [D.int IntKind.i64 (0:Int),D.int IntKind.i64 (2:Int),D.sl true (4:Nat) (1:Nat) fun(i j:Nat)=>List.getD [D.int IntKind.i64 (0:Int),D.int IntKind.i64 (0:Int),D.int IntKind.i64 (-1:Int),D.int IntKind.i64 (0:Int)] (i*1+j) D.nilp,D.int IntKind.i64 (0:Int)] (i*4+j) D.nilp) fun(i j:Nat)=>List.getD [D.int IntKind.i64 (0:Int),D.int IntKind.i64 (3:Int),D.sl true (4:Nat) (1:Nat) fun(i j:Nat)=>List.getD [D.int IntKind.i64 (0:Int),D.int IntKind.i64 (0:Int),D.int IntKind.i64 (0:Int),D.int IntKind.i64 (-1:Int)] (i*1+j) D.nilp,D.int IntKind.i64 (0:Int)] (i*4+j) D.nilp) fun(i j:Nat)=>List.getD [D.int IntKind.i64 (1:Int),D.int IntKind.i64 (0:Int),D.sl true (4:Nat) (1:Nat) fun(i j:Nat)=>List.getD [D.int IntKind.i64 (1:Int),D.int IntKind.i64 (0:Int),D.int IntKind.i64 (0:Int),D.int IntKind.i64 (0:Int)] (i*1+j) D.nilp,D.int IntKind.i64 (List.getD [c0,c1,c2] (Int.toNat (0:Int)) (Enc.dflt eC)).2] (i*4+j) D.nilp) fun(i j:Nat)=>List.getD [D.int IntKind.i64 (1:Int),D.int IntKind.i64 (1:Int),D.sl true (4:Nat) (1:Nat) fun(i j:Nat)=>List.getD [D.int IntKind.i64 (0:Int),D.int IntKind.i64 (1:Int),D.int IntKind.i64 (0:Int),D.int IntKind.i64 (0:Int)] (i*1+j) D.nilp,D.int IntKind.i64 (List.getD [c0,c1,c2] (Int.toNat (IntKind.i64.wrap ((0:Int)+1))) (Enc.dflt eC)).2] (i*4+j) D.nilp) fun(i j:Nat)=>List.getD [D.int IntKind.i64 (1:Int),D.int IntKind.i64 (2:Int),D.sl true (4:Nat) (1:Nat) fun(i j:Nat)=>List.getD [D.int IntKind.i64 (0:Int),D.int IntKind.i64 (0:Int),D.int IntKind.i64 (1:Int),D.int IntKind.i64 (0:Int)] (i*1+j) D.nilp,D.int IntKind.i64 (List.getD [c0,c1,c2] (Int.toNat (IntKind.i64.wrap (IntKind.i64.wrap ((0:Int)+1)+1))) (Enc.dflt eC)).2] (i*4+j) D.nilp) fun(i j:Nat)=>List.getD [D.int IntKind.i64 (2:Int),D.int IntKind.i64 (0:Int),D.sl true (4:Nat) (1:Nat) fun(i j:Nat)=>List.getD [D.int IntKind.i64 (IntKind.i64.wrap ((List.getD [c0,c1,c2] (Int.toNat (0:Int)) (Enc.dflt eC)).4-h0)),D.int IntKind.i64 (IntKind.i64.wrap ((List.getD [c0,c1,c2] (Int.toNat (IntKind.i64.wrap ((0:Int)+1))) (Enc.dflt eC)).4-h0)),D.int IntKind.i64 (IntKind.i64.wrap ((List.getD [c0,c1,c2] (Int.toNat (IntKind.i64.wrap (IntKind.i64.wrap ((0:Int)+1)+1))) (Enc.dflt eC)).4-h0)),D.int IntKind.i64 (-1:Int)] (i*1+j) D.nilp,D.int IntKind.i64 (0:Int)] (i*4+j) D.nilp) fun(i j:Nat)=>List.getD [D.int IntKind.i64 (3:Int),D.int IntKind.i64 (0:Int),D.sl true (4:Nat) (1:Nat) fun(i j:Nat)=>List.getD [D.int IntKind.i64 (IntKind.i64.wrap (l0-(List.getD [c0,c1,c2] (Int.toNat (0:Int)) (Enc.dflt eC)).4)),D.int IntKind.i64 (IntKind.i64.wrap (l0-(List.getD [c0,c1,c2] (Int.toNat (IntKind.i64.wrap ((0:Int)+1))) (Enc.dflt eC)).4)),D.int IntKind.i64 (IntKind.i64.wrap (l0-(List.getD [c0,c1,c2] (Int.toNat (IntKind.i64.wrap (IntKind.i64.wrap ((0:Int)+1)+1))) (Enc.dflt eC)).4)),D.int IntKind.i64 (-1:Int)] (i*1+j) D.nilp,D.int IntKind.i64 (0:Int)] (i*4+j) D.nilp) fun(i j:Nat)=>List.getD [D.int IntKind.i64 (2:Int),D.int IntKind.i64 (1:Int),D.sl true (4:Nat) (1:Nat) fun(i j:Nat)=>List.getD [D.int IntKind.i64 (IntKind.i64.wrap ((List.getD [c0,c1,c2] (Int.toNat (0:Int)) (Enc.dflt eC)).5-h1)),D.int IntKind.i64 (IntKind.i64.wrap ((List.getD [c0,c1,c2] (Int.toNat (IntKind.i64.wrap ((0:Int)+1))) (Enc.dflt eC)).5-h1)),D.int IntKind.i64 (IntKind.i64.wrap ((List.getD [c0,c1,c2] (Int.toNat (IntKind.i64.wrap (IntKind.i64.wrap ((0:Int)+1)+1))) (Enc.dflt eC)).5-h1)),D.int IntKind.i64 (-1:Int)] (i*1+j) D.nilp,D.int IntKind.i64 (0:Int)] (i*4+j) D.nilp) fun(i j:Nat)=>List.getD [D.int IntKind.i64 (3:Int),D.int IntKind.i64 (1:Int),D.sl true (4:Nat) (1:Nat) fun(i j:Nat)=>List.getD [D.int IntKind.i64 (IntKind.i64.wrap (l1-(List.getD [c0,c1,c2] (Int.toNat (0:Int)) (Enc.dflt eC)).5)),D.int IntKind.i64 (IntKind.i64.wrap (l1-(List.getD [c0,c1,c2] (Int.toNat (IntKind.i64.wrap ((0:Int)+1))) (Enc.dflt eC)).5)),D.int IntKind.i64 (IntKind.i64.wrap (l1-(List.getD [c0,c1,c2] (Int.toNat (IntKind.i64.wrap (IntKind.i64.wrap ((0:Int)+1)+1))) (Enc.dflt eC)).5)),D.int IntKind.i64 (-1:Int)] (i*1+j) D.nilp,D.int IntKind.i64 (0:Int)] (i*4+j) D.nilp) fun(i j:Nat)=>List.getD [D.int IntKind.i64 (2:Int),D.int IntKind.i64 (2:Int),D.sl true (4:Nat) (1:Nat) fun(i j:Nat)=>List.getD [D.int IntKind.i64 (IntKind.i64.wrap ((List.getD [c0,c1,c2] (Int.toNat (0:Int)) (Enc.dflt eC)).6-h2)),D.int IntKind.i64 (IntKind.i64.wrap ((List.getD [c0,c1,c2] (Int.toNat (IntKind.i64.wrap ((0:Int)+1))) (Enc.dflt eC)).6-h2)),D.int IntKind.i64 (IntKind.i64.wrap ((List.getD [c0,c1,c2] (Int.toNat (IntKind.i64.wrap (IntKind.i64.wrap ((0:Int)+1)+1))) (Enc.dflt eC)).6-h2)),D.int IntKind.i64 (-1:Int)] (i*1+j) D.nilp,D.int IntKind.i64 (0:Int)] (i*4+j) D.nilp) fun(i j:Nat)=>List.getD [D.int IntKind.i64 (3:Int),D.int IntKind.i64 (2:Int),D.sl true (4:Nat) (1:Nat) fun(i j:Nat)=>List.getD [D.int IntKind.i64 (IntKind.i64.wrap (l2-(List.getD [c0,c1,c2] (Int.toNat (0:Int)) (Enc.dflt eC)).6)),D.int IntKind.i64 (IntKind.i64.wrap (l2-(List.getD [c0,c1,c2] (Int.toNat (IntKind.i64.wrap ((0:Int)+1))) (Enc.dflt eC)).6)),D.int IntKind.i64 (IntKind.i64.wrap (l2-(List.getD [c0,c1,c2] (Int.toNat (IntKind.i64.wrap (IntKind.i64.wrap ((0:Int)+1)+1))) (Enc.dflt eC)).6)),D.int IntKind.i64 (-1:Int)] (i*1+j) D.nilp,D.int IntKind.i64 (0:Int)] (i*4+j) D.nilp) fun(i j:Nat)=>List.getD [D.int IntKind.i64 (2:Int),D.int IntKind.i64 (3:Int),D.sl true (4:Nat) (1:Nat) fun(i j:Nat)=>List.getD [D.int IntKind.i64 (IntKind.i64.wrap ((List.getD [c0,c1,c2] (Int.toNat (0:Int)) (Enc.dflt eC)).7-h3)),D.int IntKind.i64 (IntKind.i64.wrap ((List.getD [c0,c1,c2] (Int.toNat (IntKind.i64.wrap ((0:Int)+1))) (Enc.dflt eC)).7-h3)),D.int IntKind.i64 (IntKind.i64.wrap ((List.getD [c0,c1,c2] (Int.toNat (IntKind.i64.wrap (IntKind.i64.wrap ((0:Int)+1)+1))) (Enc.dflt eC)).7-h3)),D.int IntKind.i64 (-1:Int)] (i*1+j) D.nilp,D.int IntKind.i64 (0:Int)] (i*4+j) D.nilp) fun(i j:Nat)=>List.getD [D.int IntKind.i64 (3:Int),D.int IntKind.i64 (3:Int),D.sl true (4:Nat) (1:Nat) fun(i j:Nat)=>List.getD [D.int IntKind.i64 (IntKind.i64.wrap (l3-(List.getD [c0,c1,c2] (Int.toNat (0:Int)) (Enc.dflt eC)).7)),D.int IntKind.i64 (IntKind.i64.wrap (l3-(List.getD [c0,c1,c2] (Int.toNat (IntKind.i64.wrap ((0:Int)+1))) (Enc.dflt eC)).7)),D.int IntKind.i64 (IntKind.i64.wrap (l3-(List.getD [c0,c1,c2] (Int.toNat (IntKind.i64.wrap (IntKind.i64.wrap ((0:Int)+1)+1))) (Enc.dflt eC)).7)),D.int IntKind.i64 (-1:Int)] (i*1+j) D.nilp,D.int IntKind.i64 (0:Int)] (i*4+j) D.nilp)]])
theorem t82_3(q:Bool)(c0 c1 c2:Cask)(sv l0 h0 l1 h1 l2 h2 l3 h3:Int):runFnX Try.prog G0 (lookS []) (fun _=>[(999999,[],none)]) [113,133,134,135,136,137,138,139] 1 60 6 82 Try.f82 [.c (.sl q 3 7 (eC.F [c0,c1,c2])),.agg [dI sv,dI l0,dI h0,dI l1,dI h1,dI l2,dI h2,dI l3,dI h3]] =
  tr82_3 c0 c1 c2 sv l0 h0 l1 h1 l2 h2 l3 h3:=by kernel_rfl
theorem w82_3(c0 c1 c2:Cask)(sv l0 h0 l1 h1 l2 h2 l3 h3:Int):(tr82_3 c0 c1 c2 sv l0 h0 l1 h1 l2 h2 l3 h3).wp (fun rs=>rsEqv rs (res82 [c0,c1,c2] ⟨sv,⟨l0,h0⟩,⟨l1,h1⟩,⟨l2,h2⟩,⟨l3,h3⟩⟩)):=by
 unfold tr82_3
 repeat (refine⟨by decide,?_⟩)
 refine⟨⟨?_,rfl,?_,?_,trivial⟩,trivial⟩
 ·refine sl_ints (q':=false) (l:=M.shares [c0,c1,c2] 1) (fun e=>nomatch e) ?_
  kernel_rfl
 ·refine sl_ints (q':=false) (l:=M.far [c0,c1,c2]) (fun e=>nomatch e) ?_
  kernel_rfl
 ·refine conds_eqv (q':=false) (m:=M.limits [c0,c1,c2] ⟨sv,⟨l0,h0⟩,⟨l1,h1⟩,⟨l2,h2⟩,⟨l3,h3⟩⟩ 1) (fun e=>nomatch e) ?_
  kernel_rfl
end Go.Bl
end
section
set_option maxRecDepth 100000
namespace Go.Bl
open Go.V Go.Proofs
def tr82_4(c0 c1 c2 c3:Cask)(sv l0 h0 l1 h1 l2 h2 l3 h3:Int):T (List Ar):=
  T.needs [(1:Nat)≤1000000,(2:Nat)≤1000000,(1:Nat)≤1,(3:Nat)≤1000000,(2:Nat)≤2,(4:Nat)≤1000000,(3:Nat)≤3,(5:Nat)≤1000000,(4:Nat)≤4,(0:Int)≤0,(0:Int)<4,(6:Nat)≤1000000,(5:Nat)≤5,(0:Int)≤1,(1:Int)<4,(7:Nat)≤1000000,(6:Nat)≤6,(0:Int)≤2,(2:Int)<4,(8:Nat)≤1000000,(7:Nat)≤7,(0:Int)≤3,(3:Int)<4,(9:Nat)≤1000000,(8:Nat)≤8,(0:Int)≤0,(0:Int)<4,(0:Int)≤0,(0:Int)<4,(0:Int)≤1,(1:Int)<4,(0:Int)≤0,(0:Int)<4,(0:Int)≤2,(2:Int)<4,(0:Int)≤0,(0:Int)<4,(0:Int)≤3,(3:Int)<4,(0:Int)≤0,(0:Int)<4,(10:Nat)≤1000000,(9:Nat)≤9,(0:Int)≤0,(0:Int)<4,(0:Int)≤0,(0:Int)<4,(0:Int)≤1,(1:Int)<4,(0:Int)≤0,(0:Int)<4,(0:Int)≤2,(2:Int)<4,(0:Int)≤0,(0:Int)<4,(0:Int)≤3,(3:Int)<4,(0:Int)≤0,(0:Int)<4,(11:Nat)≤1000000,(10:Nat)≤10,(0:Int)≤0,(0:Int)<4,(0:Int)≤1,(1:Int)<4,(0:Int)≤1,(1:Int)<4,(0:Int)≤1,(1:Int)<4,(0:Int)≤2,(2:Int)<4,(0:Int)≤1,(1:Int)<4,(0:Int)≤3,(3:Int)<4,(0:Int)≤1,(1:Int)<4,(12:Nat)≤1000000,(11:Nat)≤11,(0:Int)≤0,(0:Int)<4,(0:Int)≤1,(1:Int)<4,(0:Int)≤1,(1:Int)<4,(0:Int)≤1,(1:Int)<4,(0:Int)≤2,(2:Int)<4,(0:Int)≤1,(1:Int)<4,(0:Int)≤3,(3:Int)<4,(0:Int)≤1,(1:Int)<4,(13:Nat)≤1000000,(12:Nat)≤12,(0:Int)≤0,(0:Int)<4,(0:Int)≤2,(2:Int)<4,(0:Int)≤1,(1:Int)<4,(0:Int)≤2,(2:Int)<4,(0:Int)≤2,(2:Int)<4,(0:Int)≤2,(2:Int)<4,(0:Int)≤3,(3:Int)<4,(0:Int)≤2,(2:Int)<4,(14:Nat)≤1000000,(13:Nat)≤13,(0:Int)≤0,(0:Int)<4,(0:Int)≤2,(2:Int)<4,(0:Int)≤1,(1:Int)<4,(0:Int)≤2,(2:Int)<4,(0:Int)≤2,(2:Int)<4,(0:Int)≤2,(2:Int)<4,(0:Int)≤3,(3:Int)<4,(0:Int)≤2,(2:Int)<4,(15:Nat)≤1000000,(14:Nat)≤14,(0:Int)≤0,(0:Int)<4,(0:Int)≤3,(3:Int)<4,(0:Int)≤1,(1:Int)<4,(0:Int)≤3,(3:Int)<4,(0:Int)≤2,(2:Int)<4,(0:Int)≤3,(3:Int)<4,(0:Int)≤3,(3:Int)<4,(0:Int)≤3,(3:Int)<4,(16:Nat)≤1000000,(15:Nat)≤15,(0:Int)≤0,(0:Int)<4,(0:Int)≤3,(3:Int)<4,(0:Int)≤1,(1:Int)<4,(0:Int)≤3,(3:Int)<4,(0:Int)≤2,(2:Int)<4,(0:Int)≤3,(3:Int)<4,(0:Int)≤3,(3:Int)<4,(0:Int)≤3,(3:Int)<4,(17:Nat)≤1000000,(16:Nat)≤16,(17:Nat)≤17] (T.ret [Ar.agg [D.sl true (5:Nat) (1:Nat) fun(i' j:Nat)=>List.getD [D.int IntKind.i64 (1:Int),D.int IntKind.i64 (1:Int),D.int IntKind.i64 (1:Int),D.int IntKind.i64 (1:Int),D.int IntKind.i64 (0:Int)] (i'*1+j) D.nilp,D.int IntKind.i64 sv,D.sl true (5:Nat) (1:Nat) fun(i' j:Nat)=>List.getD [D.int IntKind.i64 (0:Int),D.int IntKind.i64 (0:Int),D.int IntKind.i64 (0:Int),D.int IntKind.i64 (0:Int),D.int IntKind.i64 (1:Int)] (i'*1+j) D.nilp,D.sl true (17:Nat) (4:Nat) (joinF (16:Nat) (joinF (15:Nat) (joinF (14:Nat) (joinF (13:Nat) (joinF (12:Nat) (joinF (11:Nat) (joinF (10:Nat) (joinF (9:Nat) (joinF (8:Nat) (joinF (7:Nat) (joinF (6:Nat) (joinF (5:Nat) (joinF (4:Nat) (joinF (3:Nat) (joinF (2:Nat) (joinF (1:Nat) (joinF (0:Nat) (fun(x x_1:Nat)=>D.nilp) fun(i j:Nat)=>List.getD [D.int IntKind.i64 (0:Int),D.int IntKind.i64 (0:Int),D.sl true (5:Nat) (1:Nat) fun(i j:Nat)=>List.getD [D.int IntKind.i64 (-1:Int),D.int IntKind.i64 (0:Int),D.int IntKind.i64 (0:Int),D.int IntKind.i64 (0:Int),D.int IntKind.i64 (0:Int)] (i*1+j) D.nilp,D.int IntKind.i64 (0:Int)] (i*4+j) D.nilp) fun(i j:Nat)=>List.getD [D.int IntKind.i64 (0:Int),D.int IntKind.i64 (1:Int),D.sl true (5:Nat) (1:Nat) fun(i j:Nat)=>List.getD [D.int IntKind.i64 (0:Int),D.int IntKind.i64 (-1:Int),D.int IntKind.i64 (0:Int),D.int IntKind.i64 (0:Int),D.int IntKind.i64 (0:Int)] (i*1+j) D.nilp,D.int IntKind.i64 (0:Int)] (i*4+j) D.nilp) fun(i j:Nat)=>List.getD [D.int IntKind.i64 (0:Int),D.int IntKind.i64 (2:Int),D.sl true (5:Nat) (1:Nat) fun(i j:Nat)=>List.getD [D.int IntKind.i64 (0:Int),D.int IntKind.i64 (0:Int),D.int IntKind.i64 (-1:Int),D.int IntKind.i64 (0:Int),D.int IntKind.i64 (0:Int)] (i*1+j) D.nilp,D.int IntKind.i64 (0:Int)] (i*4+j) D.nilp) fun(i j:Nat)=>List.getD [D.int IntKind.i64 (0:Int),D.int IntKind.i64 (3:Int),D.sl true (5:Nat) (1:Nat) fun(i j:Nat)=>List.getD [D.int IntKind.i64 (0:Int),D.int IntKind.i64 (0:Int),D.int IntKind.i64 (0:Int),D.int IntKind.i64 (-1:Int),D.int IntKind.i64 (0:Int)] (i*1+j) D.nilp,D.int IntKind.i64 (0:Int)] (i*4+j) D.nilp) fun(i j:Nat)=>List.getD [D.int IntKind.i64 (0:Int),D.int IntKind.i64 (4:Int),D.sl true (5:Nat) (1:Nat) fun(i j:Nat)=>List.getD [D.int IntKind.i64 (0:Int),D.int IntKind.i64 (0:Int),D.int IntKind.i64 (0:Int),D.int IntKind.i64 (0:Int),D.int IntKind.i64 (-1:Int)] (i*1+j) D.nilp,D.int IntKind.i64 (0:Int)] (i*4+j) D.nilp) fun(i j:Nat)=>List.getD [D.int IntKind.i64 (1:Int),D.int IntKind.i64 (0:Int),D.sl true (5:Nat) (1:Nat) fun(i j:Nat)=>List.getD [D.int IntKind.i64 (1:Int),D.int IntKind.i64 (0:Int),D.int IntKind.i64 (0:Int),D.int IntKind.i64 (0:Int),D.int IntKind.i64 (0:Int)] (i*1+j) D.nilp,D.int IntKind.i64 (List.getD [c0,c1,c2,c3] (Int.toNat (0:Int)) (Enc.dflt eC)).2] (i*4+j) D.nilp) fun(i j:Nat)=>List.getD [D.int IntKind.i64 (1:Int),D.int IntKind.i64 (1:Int),D.sl true (5:Nat) (1:Nat) fun(i j:Nat)=>List.getD [D.int IntKind.i64 (0:Int),D.int IntKind.i64 (1:Int),D.int IntKind.i64 (0:Int),D.int IntKind.i64 (0:Int),D.int IntKind.i64 (0:Int)] (i*1+j) D.nilp,D.int IntKind.i64 (List.getD [c0,c1,c2,c3] (Int.toNat (IntKind.i64.wrap ((0:Int)+1))) (Enc.dflt eC)).2] (i*4+j) D.nilp) fun(i j:Nat)=>List.getD [D.int IntKind.i64 (1:Int),D.int IntKind.i64 (2:Int),D.sl true (5:Nat) (1:Nat) fun(i j:Nat)=>List.getD [D.int IntKind.i64 (0:Int),D.int IntKind.i64 (0:Int),D.int IntKind.i64 (1:Int),D.int IntKind.i64 (0:Int),D.int IntKind.i64 (0:Int)] (i*1+j) D.nilp,D.int IntKind.i64 (List.getD [c0,c1,c2,c3] (Int.toNat (IntKind.i64.wrap (IntKind.i64.wrap ((0:Int)+1)+1))) (Enc.dflt eC)).2] (i*4+j) D.nilp) fun(i j:Nat)=>List.getD [D.int IntKind.i64 (1:Int),D.int IntKind.i64 (3:Int),D.sl true (5:Nat) (1:Nat) fun(i j:Nat)=>List.getD [D.int IntKind.i64 (0:Int),D.int IntKind.i64 (0:Int),D.int IntKind.i64 (0:Int),D.int IntKind.i64 (1:Int),D.int IntKind.i64 (0:Int)] (i*1+j) D.nilp,D.int IntKind.i64 (List.getD [c0,c1,c2,c3] (Int.toNat (IntKind.i64.wrap (IntKind.i64.wrap (IntKind.i64.wrap ((0:Int)+1)+1)+1))) (Enc.dflt eC)).2] (i*4+j) D.nilp) fun(i j:Nat)=>List.getD [D.int IntKind.i64 (2:Int),D.int IntKind.i64 (0:Int),D.sl true (5:Nat) (1:Nat) fun(i j:Nat)=>List.getD [D.int IntKind.i64 (IntKind.i64.wrap ((List.getD [c0,c1,c2,c3] (Int.toNat (0:Int)) (Enc.dflt eC)).4-h0)),D.int IntKind.i64 (IntKind.i64.wrap ((List.getD [c0,c1,c2,c3] (Int.toNat (IntKind.i64.wrap ((0:Int)+1))) (Enc.dflt eC)).4-h0)),D.int IntKind.i64 (IntKind.i64.wrap ((List.getD [c0,c1,c2,c3] (Int.toNat (IntKind.i64.wrap (IntKind.i64.wrap ((0:Int)+1)+1))) (Enc.dflt eC)).4-h0)),D.int IntKind.i64 (IntKind.i64.wrap ((List.getD [c0,c1,c2,c3] (Int.toNat (IntKind.i64.wrap (IntKind.i64.wrap (IntKind.i64.wrap ((0:Int)+1)+1)+1))) (Enc.dflt eC)).4-h0)),D.int IntKind.i64 (-1:Int)] (i*1+j) D.nilp,D.int IntKind.i64 (0:Int)] (i*4+j) D.nilp) fun(i j:Nat)=>List.getD [D.int IntKind.i64 (3:Int),D.int IntKind.i64 (0:Int),D.sl true (5:Nat) (1:Nat) fun(i j:Nat)=>List.getD [D.int IntKind.i64 (IntKind.i64.wrap (l0-(List.getD [c0,c1,c2,c3] (Int.toNat (0:Int)) (Enc.dflt eC)).4)),D.int IntKind.i64 (IntKind.i64.wrap (l0-(List.getD [c0,c1,c2,c3] (Int.toNat (IntKind.i64.wrap ((0:Int)+1))) (Enc.dflt eC)).4)),D.int IntKind.i64 (IntKind.i64.wrap (l0-(List.getD [c0,c1,c2,c3] (Int.toNat (IntKind.i64.wrap (IntKind.i64.wrap ((0:Int)+1)+1))) (Enc.dflt eC)).4)),D.int IntKind.i64 (IntKind.i64.wrap (l0-(List.getD [c0,c1,c2,c3] (Int.toNat (IntKind.i64.wrap (IntKind.i64.wrap (IntKind.i64.wrap ((0:Int)+1)+1)+1))) (Enc.dflt eC)).4)),D.int IntKind.i64 (-1:Int)] (i*1+j) D.nilp,D.int IntKind.i64 (0:Int)] (i*4+j) D.nilp) fun(i j:Nat)=>List.getD [D.int IntKind.i64 (2:Int),D.int IntKind.i64 (1:Int),D.sl true (5:Nat) (1:Nat) fun(i j:Nat)=>List.getD [D.int IntKind.i64 (IntKind.i64.wrap ((List.getD [c0,c1,c2,c3] (Int.toNat (0:Int)) (Enc.dflt eC)).5-h1)),D.int IntKind.i64 (IntKind.i64.wrap ((List.getD [c0,c1,c2,c3] (Int.toNat (IntKind.i64.wrap ((0:Int)+1))) (Enc.dflt eC)).5-h1)),D.int IntKind.i64 (IntKind.i64.wrap ((List.getD [c0,c1,c2,c3] (Int.toNat (IntKind.i64.wrap (IntKind.i64.wrap ((0:Int)+1)+1))) (Enc.dflt eC)).5-h1)),D.int IntKind.i64 (IntKind.i64.wrap ((List.getD [c0,c1,c2,c3] (Int.toNat (IntKind.i64.wrap (IntKind.i64.wrap (IntKind.i64.wrap ((0:Int)+1)+1)+1))) (Enc.dflt eC)).5-h1)),D.int IntKind.i64 (-1:Int)] (i*1+j) D.nilp,D.int IntKind.i64 (0:Int)] (i*4+j) D.nilp) fun(i j:Nat)=>List.getD [D.int IntKind.i64 (3:Int),D.int IntKind.i64 (1:Int),D.sl true (5:Nat) (1:Nat) fun(i j:Nat)=>List.getD [D.int IntKind.i64 (IntKind.i64.wrap (l1-(List.getD [c0,c1,c2,c3] (Int.toNat (0:Int)) (Enc.dflt eC)).5)),D.int IntKind.i64 (IntKind.i64.wrap (l1-(List.getD [c0,c1,c2,c3] (Int.toNat (IntKind.i64.wrap ((0:Int)+1))) (Enc.dflt eC)).5)),D.int IntKind.i64 (IntKind.i64.wrap (l1-(List.getD [c0,c1,c2,c3] (Int.toNat (IntKind.i64.wrap (IntKind.i64.wrap ((0:Int)+1)+1))) (Enc.dflt eC)).5)),D.int IntKind.i64 (IntKind.i64.wrap (l1-(List.getD [c0,c1,c2,c3] (Int.toNat (IntKind.i64.wrap (IntKind.i64.wrap (IntKind.i64.wrap ((0:Int)+1)+1)+1))) (Enc.dflt eC)).5)),D.int IntKind.i64 (-1:Int)] (i*1+j) D.nilp,D.int IntKind.i64 (0:Int)] (i*4+j) D.nilp) fun(i j:Nat)=>List.getD [D.int IntKind.i64 (2:Int),D.int IntKind.i64 (2:Int),D.sl true (5:Nat) (1:Nat) fun(i j:Nat)=>List.getD [D.int IntKind.i64 (IntKind.i64.wrap ((List.getD [c0,c1,c2,c3] (Int.toNat (0:Int)) (Enc.dflt eC)).6-h2)),D.int IntKind.i64 (IntKind.i64.wrap ((List.getD [c0,c1,c2,c3] (Int.toNat (IntKind.i64.wrap ((0:Int)+1))) (Enc.dflt eC)).6-h2)),D.int IntKind.i64 (IntKind.i64.wrap ((List.getD [c0,c1,c2,c3] (Int.toNat (IntKind.i64.wrap (IntKind.i64.wrap ((0:Int)+1)+1))) (Enc.dflt eC)).6-h2)),D.int IntKind.i64 (IntKind.i64.wrap ((List.getD [c0,c1,c2,c3] (Int.toNat (IntKind.i64.wrap (IntKind.i64.wrap (IntKind.i64.wrap ((0:Int)+1)+1)+1))) (Enc.dflt eC)).6-h2)),D.int IntKind.i64 (-1:Int)] (i*1+j) D.nilp,D.int IntKind.i64 (0:Int)] (i*4+j) D.nilp) fun(i j:Nat)=>List.getD [D.int IntKind.i64 (3:Int),D.int IntKind.i64 (2:Int),D.sl true (5:Nat) (1:Nat) fun(i j:Nat)=>List.getD [D.int IntKind.i64 (IntKind.i64.wrap (l2-(List.getD [c0,c1,c2,c3] (Int.toNat (0:Int)) (Enc.dflt eC)).6)),D.int IntKind.i64 (IntKind.i64.wrap (l2-(List.getD [c0,c1,c2,c3] (Int.toNat (IntKind.i64.wrap ((0:Int)+1))) (Enc.dflt eC)).6)),D.int IntKind.i64 (IntKind.i64.wrap (l2-(List.getD [c0,c1,c2,c3] (Int.toNat (IntKind.i64.wrap (IntKind.i64.wrap ((0:Int)+1)+1))) (Enc.dflt eC)).6)),D.int IntKind.i64 (IntKind.i64.wrap (l2-(List.getD [c0,c1,c2,c3] (Int.toNat (IntKind.i64.wrap (IntKind.i64.wrap (IntKind.i64.wrap ((0:Int)+1)+1)+1))) (Enc.dflt eC)).6)),D.int IntKind.i64 (-1:Int)] (i*1+j) D.nilp,D.int IntKind.i64 (0:Int)] (i*4+j) D.nilp) fun(i j:Nat)=>List.getD [D.int IntKind.i64 (2:Int),D.int IntKind.i64 (3:Int),D.sl true (5:Nat) (1:Nat) fun(i j:Nat)=>List.getD [D.int IntKind.i64 (IntKind.i64.wrap ((List.getD [c0,c1,c2,c3] (Int.toNat (0:Int)) (Enc.dflt eC)).7-h3)),D.int IntKind.i64 (IntKind.i64.wrap ((List.getD [c0,c1,c2,c3] (Int.toNat (IntKind.i64.wrap ((0:Int)+1))) (Enc.dflt eC)).7-h3)),D.int IntKind.i64 (IntKind.i64.wrap ((List.getD [c0,c1,c2,c3] (Int.toNat (IntKind.i64.wrap (IntKind.i64.wrap ((0:Int)+1)+1))) (Enc.dflt eC)).7-h3)),D.int IntKind.i64 (IntKind.i64.wrap ((List.getD [c0,c1,c2,c3] (Int.toNat (IntKind.i64.wrap (IntKind.i64.wrap (IntKind.i64.wrap ((0:Int)+1)+1)+1))) (Enc.dflt eC)).7-h3)),D.int IntKind.i64 (-1:Int)] (i*1+j) D.nilp,D.int IntKind.i64 (0:Int)] (i*4+j) D.nilp) fun(i j:Nat)=>List.getD [D.int IntKind.i64 (3:Int),D.int IntKind.i64 (3:Int),D.sl true (5:Nat) (1:Nat) fun(i j:Nat)=>List.getD [D.int IntKind.i64 (IntKind.i64.wrap (l3-(List.getD [c0,c1,c2,c3] (Int.toNat (0:Int)) (Enc.dflt eC)).7)),D.int IntKind.i64 (IntKind.i64.wrap (l3-(List.getD [c0,c1,c2,c3] (Int.toNat (IntKind.i64.wrap ((0:Int)+1))) (Enc.dflt eC)).7)),D.int IntKind.i64 (IntKind.i64.wrap (l3-(List.getD [c0,c1,c2,c3] (Int.toNat (IntKind.i64.wrap (IntKind.i64.wrap ((0:Int)+1)+1))) (Enc.dflt eC)).7)),D.int IntKind.i64 (IntKind.i64.wrap (l3-(List.getD [c0,c1,c2,c3] (Int.toNat (IntKind.i64.wrap (IntKind.i64.wrap (IntKind.i64.wrap ((0:Int)+1)+1)+1))) (Enc.dflt eC)).7)),D.int IntKind.i64 (-1:Int)] (i*1+j) D.nilp,D.int IntKind.i64 (0:Int)] (i*4+j) D.nilp)]])
theorem t82_4(q:Bool)(c0 c1 c2 c3:Cask)(sv l0 h0 l1 h1 l2 h2 l3 h3:Int):runFnX Try.prog G0 (lookS []) (fun _=>[(999999,[],none)]) [113,133,134,135,136,137,138,139] 1 60 6 82 Try.f82 [.c (.sl q 4 7 (eC.F [c0,c1,c2,c3])),.agg [dI sv,dI l0,dI h0,dI l1,dI h1,dI l2,dI h2,dI l3,dI h3]] =
  tr82_4 c0 c1 c2 c3 sv l0 h0 l1 h1 l2 h2 l3 h3:=by kernel_rfl
theorem w82_4(c0 c1 c2 c3:Cask)(sv l0 h0 l1 h1 l2 h2 l3 h3:Int):(tr82_4 c0 c1 c2 c3 sv l0 h0 l1 h1 l2 h2 l3 h3).wp (fun rs=>rsEqv rs (res82 [c0,c1,c2,c3] ⟨sv,⟨l0,h0⟩,⟨l1,h1⟩,⟨l2,h2⟩,⟨l3,h3⟩⟩)):=by
 unfold tr82_4
 repeat (refine⟨by decide,?_⟩)
 refine⟨⟨?_,rfl,?_,?_,trivial⟩,trivial⟩
 ·refine sl_ints (q':=false) (l:=M.shares [c0,c1,c2,c3] 1) (fun e=>nomatch e) ?_
  kernel_rfl
 ·refine sl_ints (q':=false) (l:=M.far [c0,c1,c2,c3]) (fun e=>nomatch e) ?_
  kernel_rfl
 ·refine conds_eqv (q':=false) (m:=M.limits [c0,c1,c2,c3] ⟨sv,⟨l0,h0⟩,⟨l1,h1⟩,⟨l2,h2⟩,⟨l3,h3⟩⟩ 1) (fun e=>nomatch e) ?_
  kernel_rfl
end Go.Bl
end
section
set_option maxRecDepth 100000
namespace Go.Bl
open Go.V Go.Proofs
theorem C66:FOK Try.prog G0 gw 66 dom66:=by
 intro ags p r hd hp κ w xs hw hl hG hx
 unfold dom66 at hd
 split at hd
 ·rename_i q n st F sv l0 h0 l1 h1 l2 h2 l3 h3
  split at hd
  ·rename_i hst
   have e1:=Nat.eq_of_beq_eq_true hst
   subst e1
   simp only[Option.some.injEq,Prod.mk.injEq]at hd
   obtain⟨rfl,rfl⟩:=hd
   obtain⟨hC,hn1,hn4,_⟩:=hp
   have heq:agsEqv [.c (.sl q n 7 F),.agg [.int .i64 sv,.int .i64 l0,.int .i64 h0,.int .i64 l1,.int .i64 h1,.int .i64 l2,.int .i64 h2,.int .i64 l3,.int .i64 h3]] [.c (.sl q (eC.list n F).length 7 (eC.F (eC.list n F))),.agg [.int .i64 sv,.int .i64 l0,.int .i64 h0,.int .i64 l1,.int .i64 h1,.int .i64 l2,.int .i64 h2,.int .i64 l3,.int .i64 h3]]:=⟨eC.to id hC,Ag.eqv_refl _,trivial⟩
   have l1':(eC.list n F).length=n:=eC.list_len
   generalize eC.list n F=l at *
   match n,hn1,hn4 with
   |1,_,_=>
    obtain⟨c0,rfl⟩:=len1 l1'
    exact fokX_fin mixed gw_stable (sl:=[]) trivial Try.func66 hw hl hG hx heq rfl (t66_1 q c0 sv l0 h0 l1 h1 l2 h2 l3 h3) (w66_1 c0 sv l0 h0 l1 h1 l2 h2 l3 h3)
   |2,_,_=>
    obtain⟨c0,c1,rfl⟩:=len2 l1'
    exact fokX_fin mixed gw_stable (sl:=[]) trivial Try.func66 hw hl hG hx heq rfl (t66_2 q c0 c1 sv l0 h0 l1 h1 l2 h2 l3 h3) (w66_2 c0 c1 sv l0 h0 l1 h1 l2 h2 l3 h3)
   |3,_,_=>
    obtain⟨c0,c1,c2,rfl⟩:=len3 l1'
    exact fokX_fin mixed gw_stable (sl:=[]) trivial Try.func66 hw hl hG hx heq rfl (t66_3 q c0 c1 c2 sv l0 h0 l1 h1 l2 h2 l3 h3) (w66_3 c0 c1 c2 sv l0 h0 l1 h1 l2 h2 l3 h3)
   |4,_,_=>
    obtain⟨c0,c1,c2,c3,rfl⟩:=len4 l1'
    exact fokX_fin mixed gw_stable (sl:=[]) trivial Try.func66 hw hl hG hx heq rfl (t66_4 q c0 c1 c2 c3 sv l0 h0 l1 h1 l2 h2 l3 h3) (w66_4 c0 c1 c2 c3 sv l0 h0 l1 h1 l2 h2 l3 h3)
  ·cases hd
 ·cases hd
theorem S66:SumOK Try.prog G0 gw 66 (fokSm dom66):=fok_sum Try.func66 rfl C66
theorem C82:FOK Try.prog G0 gw 82 dom82:=by
 intro ags p r hd hp κ w xs hw hl hG hx
 unfold dom82 at hd
 split at hd
 ·rename_i q n st F sv l0 h0 l1 h1 l2 h2 l3 h3
  split at hd
  ·rename_i hst
   have e1:=Nat.eq_of_beq_eq_true hst
   subst e1
   simp only[Option.some.injEq,Prod.mk.injEq]at hd
   obtain⟨rfl,rfl⟩:=hd
   obtain⟨hC,hn1,hn4,_⟩:=hp
   have heq:agsEqv [.c (.sl q n 7 F),.agg [.int .i64 sv,.int .i64 l0,.int .i64 h0,.int .i64 l1,.int .i64 h1,.int .i64 l2,.int .i64 h2,.int .i64 l3,.int .i64 h3]] [.c (.sl q (eC.list n F).length 7 (eC.F (eC.list n F))),.agg [.int .i64 sv,.int .i64 l0,.int .i64 h0,.int .i64 l1,.int .i64 h1,.int .i64 l2,.int .i64 h2,.int .i64 l3,.int .i64 h3]]:=⟨eC.to id hC,Ag.eqv_refl _,trivial⟩
   have l1':(eC.list n F).length=n:=eC.list_len
   generalize eC.list n F=l at *
   match n,hn1,hn4 with
   |1,_,_=>
    obtain⟨c0,rfl⟩:=len1 l1'
    exact fokX_fin mixed gw_stable (sl:=[]) trivial Try.func82 hw hl hG hx heq rfl (t82_1 q c0 sv l0 h0 l1 h1 l2 h2 l3 h3) (w82_1 c0 sv l0 h0 l1 h1 l2 h2 l3 h3)
   |2,_,_=>
    obtain⟨c0,c1,rfl⟩:=len2 l1'
    exact fokX_fin mixed gw_stable (sl:=[]) trivial Try.func82 hw hl hG hx heq rfl (t82_2 q c0 c1 sv l0 h0 l1 h1 l2 h2 l3 h3) (w82_2 c0 c1 sv l0 h0 l1 h1 l2 h2 l3 h3)
   |3,_,_=>
    obtain⟨c0,c1,c2,rfl⟩:=len3 l1'
    exact fokX_fin mixed gw_stable (sl:=[]) trivial Try.func82 hw hl hG hx heq rfl (t82_3 q c0 c1 c2 sv l0 h0 l1 h1 l2 h2 l3 h3) (w82_3 c0 c1 c2 sv l0 h0 l1 h1 l2 h2 l3 h3)
   |4,_,_=>
    obtain⟨c0,c1,c2,c3,rfl⟩:=len4 l1'
    exact fokX_fin mixed gw_stable (sl:=[]) trivial Try.func82 hw hl hG hx heq rfl (t82_4 q c0 c1 c2 c3 sv l0 h0 l1 h1 l2 h2 l3 h3) (w82_4 c0 c1 c2 c3 sv l0 h0 l1 h1 l2 h2 l3 h3)
  ·cases hd
 ·cases hd
theorem S82:SumOK Try.prog G0 gw 82 (fokSm dom82):=fok_sum Try.func82 rfl C82
end Go.Bl
end
section
set_option maxRecDepth 100000
namespace Go.Bl
open Go.V Go.Proofs
namespace M
def rgErr(r:Rg):Int:=first [unl (within r.lo 0 1000&&within r.hi 0 1000) 2,unl (decide (r.lo≤r.hi)) 9]
def checkSample(s:Sample):Int:=cond (within s.vol 1 10000) (first [rgErr s.r0,rgErr s.r1,rgErr s.r2,rgErr s.r3]) 2
def wholeErr(l:List Cask):Int:=(checkCasks l).2
def casksErr(l:List Cask):Int:=first [(checkCasks l).2,unl (decide ((l.length:Int)≤4)) 8]
def taskErr(l:List Cask)(s:Sample):Int:=first [casksErr l,checkSample s]
def volumes(l:List Cask):Int:=(List.range l.length).foldl (fun a i=>IntKind.i64.wrap (a+(l.getD i dfC).vol)) 0
def mx(a b:Int):Int:=if b>a then b else a
def awayK(V n:Int)(r:Rg)(a:Int):Int:=mx (mx a (IntKind.i64.wrap (IntKind.i64.wrap (r.lo*V)-n))) (IntKind.i64.wrap (n-IntKind.i64.wrap (r.hi*V)))
def away(l:List Cask)(ps:List Int)(s:Sample):Int:=
 awayK (sumP (fun _=>1) l ps) (sumP (kOf 3) l ps) s.r3 (awayK (sumP (fun _=>1) l ps) (sumP (kOf 2) l ps) s.r2 (awayK (sumP (fun _=>1) l ps) (sumP (kOf 1) l ps) s.r1 (awayK (sumP (fun _=>1) l ps) (sumP (kOf 0) l ps) s.r0 0)))
end M
theorem first_cons(x:Int)(l:List Int):M.first (x::l)=if x=0 then M.first l else x:=by
 by_cases h:x=0
 ·rw[if_pos h,h];rfl
 ·rw[if_neg h]
  have:(x != 0)=true:=bne_iff_ne.2 h
  simp only[M.first,this,cond_true]
def pieceB{α:Type}(lo hi:Int)(bad:Int→α)(rest:T α):T α:=
 .br (M.within lo 0 1000) (.need (M.within lo 0 1000=true) (.br (M.first [M.unl (M.within hi 0 1000) 2,M.unl (decide (lo≤hi)) 9] != 0) (.ret (bad (M.first [M.unl (M.within hi 0 1000) 2,M.unl (decide (lo≤hi)) 9]))) rest))
  (.need (M.within lo 0 1000=false) (.br (M.first [2,M.unl (decide (lo≤hi)) 9] != 0) (.ret (bad (M.first [2,M.unl (decide (lo≤hi)) 9]))) rest))
def pieceR{α:Type}(lo hi:Int)(bad:Int→α)(rest:T α):T α:=
 .br (!M.within lo 0 1000) (.ret (bad 2)) (.br (!M.within hi 0 1000) (.ret (bad 2)) (.br (decide (lo>hi)) (.ret (bad 9)) rest))
theorem pieceB_wp{α:Type}{lo hi:Int}{bad:Int→α}{rest:T α}{Q:α→Prop}(h1:M.rgErr ⟨lo,hi⟩≠0→Q (bad (M.rgErr ⟨lo,hi⟩)))(h2:M.rgErr ⟨lo,hi⟩=0→rest.wp Q):(pieceB lo hi bad rest).wp Q:=by
 have fin:∀e:Int,M.rgErr ⟨lo,hi⟩=e→(T.br (e != 0) (.ret (bad e)) rest:T α).wp Q:=by
  intro e he
  refine wp_br (fun h=>?_) (fun h=>?_)
  ·rw[←he]at h ⊢;exact h1 (bne_iff_ne.1 h)
  ·rw[←he]at h;exact h2 (by simpa using h)
 refine wp_br (fun h=>⟨h,fin _ ?_⟩) (fun h=>⟨h,fin _ ?_⟩)
 ·unfold M.rgErr;rw[h];rfl
 ·unfold M.rgErr;rw[h];rfl
theorem pieceR_wp{α:Type}{lo hi:Int}{bad:Int→α}{rest:T α}{Q:α→Prop}(h1:M.rgErr ⟨lo,hi⟩≠0→Q (bad (M.rgErr ⟨lo,hi⟩)))(h2:M.rgErr ⟨lo,hi⟩=0→rest.wp Q):(pieceR lo hi bad rest).wp Q:=by
 have fin:∀e:Int,M.rgErr ⟨lo,hi⟩=e→e≠0→Q (bad e):=fun e he hn=>by subst he;exact h1 hn
 refine wp_br (fun a=>?_) (fun a=>wp_br (fun b=>?_) (fun b=>wp_br (fun c=>?_) (fun c=>?_)))
 ·have a:M.within lo 0 1000=false:=by simpa using a
  exact fin 2 (by unfold M.rgErr;rw[a];rfl) (by decide)
 ·have a:M.within lo 0 1000=true:=by simpa using a
  have b:M.within hi 0 1000=false:=by simpa using b
  exact fin 2 (by unfold M.rgErr;rw[a,b];rfl) (by decide)
 ·have a:M.within lo 0 1000=true:=by simpa using a
  have b:M.within hi 0 1000=true:=by simpa using b
  have c:decide (lo≤hi)=false:=decide_eq_false (by have:=of_decide_eq_true c;omega)
  exact fin 9 (by unfold M.rgErr;rw[a,b,c];rfl) (by decide)
 ·have a:M.within lo 0 1000=true:=by simpa using a
  have b:M.within hi 0 1000=true:=by simpa using b
  have c:decide (lo≤hi)=true:=decide_eq_true (by have:=of_decide_eq_false c;omega)
  exact h2 (by unfold M.rgErr;rw[a,b,c];rfl)
def tr49(sv l0 h0 l1 h1 l2 h2 l3 h3:Int):T (List Ar):=
 .br (!M.within sv 1 10000) (.ret [rI 2]) (pieceB l0 h0 (fun e=>[rI e]) (pieceB l1 h1 (fun e=>[rI e]) (pieceB l2 h2 (fun e=>[rI e]) (pieceB l3 h3 (fun e=>[rI e]) (.ret [rI 0])))))
theorem t49(sv l0 h0 l1 h1 l2 h2 l3 h3:Int):runFnX Try.prog G0 (lookS [v64,v80,v95,v102]) (fun _=>[(1000013,[],none),(3000012,[],none),(3000035,[],none)]) [] 1 40 3 49 Try.f49 [.agg [dI sv,dI l0,dI h0,dI l1,dI h1,dI l2,dI h2,dI l3,dI h3]] =
  tr49 sv l0 h0 l1 h1 l2 h2 l3 h3:=by kernel_rfl
theorem w49(sv l0 h0 l1 h1 l2 h2 l3 h3:Int):(tr49 sv l0 h0 l1 h1 l2 h2 l3 h3).wp (fun rs=>rsEqv rs [rI (M.checkSample ⟨sv,⟨l0,h0⟩,⟨l1,h1⟩,⟨l2,h2⟩,⟨l3,h3⟩⟩)]):=by
 have fin:∀e:Int,M.checkSample ⟨sv,⟨l0,h0⟩,⟨l1,h1⟩,⟨l2,h2⟩,⟨l3,h3⟩⟩=e→rsEqv [rI e] [rI (M.checkSample ⟨sv,⟨l0,h0⟩,⟨l1,h1⟩,⟨l2,h2⟩,⟨l3,h3⟩⟩)]:=fun e he=>by rw[he];exact rsEqv_refl _
 refine wp_br (fun a=>?_) (fun a=>?_)
 ·have a:M.within sv 1 10000=false:=by simpa using a
  exact fin 2 (by unfold M.checkSample;rw[a];rfl)
 ·have a:M.within sv 1 10000=true:=by simpa using a
  refine pieceB_wp (fun h=>fin _ ?_) (fun b0=>pieceB_wp (fun h=>fin _ ?_) (fun b1=>pieceB_wp (fun h=>fin _ ?_) (fun b2=>pieceB_wp (fun h=>fin _ ?_) (fun b3=>fin _ ?_))))
  all_goals(unfold M.checkSample;simp only[a,cond_true,first_cons])
  ·rw[if_neg h]
  ·rw[b0,if_pos rfl,if_neg h]
  ·rw[b0,b1,if_pos rfl,if_pos rfl,if_neg h]
  ·rw[b0,b1,b2,if_pos rfl,if_pos rfl,if_pos rfl,if_neg h]
  ·rw[b0,b1,b2,b3,if_pos rfl,if_pos rfl,if_pos rfl,if_pos rfl];rfl
def dom49:DomF
 |[.agg [.int .i64 sv,.int .i64 l0,.int .i64 h0,.int .i64 l1,.int .i64 h1,.int .i64 l2,.int .i64 h2,.int .i64 l3,.int .i64 h3]]=>some ([],[rI (M.checkSample ⟨sv,⟨l0,h0⟩,⟨l1,h1⟩,⟨l2,h2⟩,⟨l3,h3⟩⟩)])
 |_=>none
def v49:Nat×Sm:=(49,fokSm dom49)
theorem C49:FOK Try.prog G0 gw 49 dom49:=by
 intro ags p r hd hp κ w xs hw hl hG hx
 unfold dom49 at hd
 split at hd
 ·rename_i sv l0 h0 l1 h1 l2 h2 l3 h3
  simp only[Option.some.injEq,Prod.mk.injEq]at hd
  obtain⟨rfl,rfl⟩:=hd
  have heq:agsEqv [.agg [.int .i64 sv,.int .i64 l0,.int .i64 h0,.int .i64 l1,.int .i64 h1,.int .i64 l2,.int .i64 h2,.int .i64 l3,.int .i64 h3]] [.agg [.int .i64 sv,.int .i64 l0,.int .i64 h0,.int .i64 l1,.int .i64 h1,.int .i64 l2,.int .i64 h2,.int .i64 l3,.int .i64 h3]]:=⟨Ag.eqv_refl _,trivial⟩
  exact fokX_fin mixed gw_stable (sl:=[v64,v80,v95,v102]) ⟨S64,S80,S95,S102,trivial⟩ Try.func49 hw hl hG hx heq rfl (t49 sv l0 h0 l1 h1 l2 h2 l3 h3) (w49 sv l0 h0 l1 h1 l2 h2 l3 h3)
 ·cases hd
theorem S49:SumOK Try.prog G0 gw 49 (fokSm dom49):=fok_sum Try.func49 rfl C49
def tr32(sv l0 h0 l1 h1 l2 h2 l3 h3:Int):T (List Ar):=
 .br (!M.within sv 1 10000) (.ret [rI 2]) (pieceR l0 h0 (fun e=>[rI e]) (pieceR l1 h1 (fun e=>[rI e]) (pieceR l2 h2 (fun e=>[rI e]) (pieceR l3 h3 (fun e=>[rI e]) (.ret [rI 0])))))
theorem t32(sv l0 h0 l1 h1 l2 h2 l3 h3:Int):runFnX Try.prog G0 (lookS [v35]) (fun _=>[(1000010,[],none),(3000012,[],none)]) [] 1 40 3 32 Try.f32 [.agg [dI sv,dI l0,dI h0,dI l1,dI h1,dI l2,dI h2,dI l3,dI h3]] =
  tr32 sv l0 h0 l1 h1 l2 h2 l3 h3:=by kernel_rfl
theorem w32(sv l0 h0 l1 h1 l2 h2 l3 h3:Int):(tr32 sv l0 h0 l1 h1 l2 h2 l3 h3).wp (fun rs=>rsEqv rs [rI (M.checkSample ⟨sv,⟨l0,h0⟩,⟨l1,h1⟩,⟨l2,h2⟩,⟨l3,h3⟩⟩)]):=by
 have fin:∀e:Int,M.checkSample ⟨sv,⟨l0,h0⟩,⟨l1,h1⟩,⟨l2,h2⟩,⟨l3,h3⟩⟩=e→rsEqv [rI e] [rI (M.checkSample ⟨sv,⟨l0,h0⟩,⟨l1,h1⟩,⟨l2,h2⟩,⟨l3,h3⟩⟩)]:=fun e he=>by rw[he];exact rsEqv_refl _
 refine wp_br (fun a=>?_) (fun a=>?_)
 ·have a:M.within sv 1 10000=false:=by simpa using a
  exact fin 2 (by unfold M.checkSample;rw[a];rfl)
 ·have a:M.within sv 1 10000=true:=by simpa using a
  refine pieceR_wp (fun h=>fin _ ?_) (fun b0=>pieceR_wp (fun h=>fin _ ?_) (fun b1=>pieceR_wp (fun h=>fin _ ?_) (fun b2=>pieceR_wp (fun h=>fin _ ?_) (fun b3=>fin _ ?_))))
  all_goals(unfold M.checkSample;simp only[a,cond_true,first_cons])
  ·rw[if_neg h]
  ·rw[b0,if_pos rfl,if_neg h]
  ·rw[b0,b1,if_pos rfl,if_pos rfl,if_neg h]
  ·rw[b0,b1,b2,if_pos rfl,if_pos rfl,if_pos rfl,if_neg h]
  ·rw[b0,b1,b2,b3,if_pos rfl,if_pos rfl,if_pos rfl,if_pos rfl];rfl
def dom32:DomF
 |[.agg [.int .i64 sv,.int .i64 l0,.int .i64 h0,.int .i64 l1,.int .i64 h1,.int .i64 l2,.int .i64 h2,.int .i64 l3,.int .i64 h3]]=>some ([],[rI (M.checkSample ⟨sv,⟨l0,h0⟩,⟨l1,h1⟩,⟨l2,h2⟩,⟨l3,h3⟩⟩)])
 |_=>none
def v32:Nat×Sm:=(32,fokSm dom32)
theorem C32:FOK Try.prog G0 gw 32 dom32:=by
 intro ags p r hd hp κ w xs hw hl hG hx
 unfold dom32 at hd
 split at hd
 ·rename_i sv l0 h0 l1 h1 l2 h2 l3 h3
  simp only[Option.some.injEq,Prod.mk.injEq]at hd
  obtain⟨rfl,rfl⟩:=hd
  have heq:agsEqv [.agg [.int .i64 sv,.int .i64 l0,.int .i64 h0,.int .i64 l1,.int .i64 h1,.int .i64 l2,.int .i64 h2,.int .i64 l3,.int .i64 h3]] [.agg [.int .i64 sv,.int .i64 l0,.int .i64 h0,.int .i64 l1,.int .i64 h1,.int .i64 l2,.int .i64 h2,.int .i64 l3,.int .i64 h3]]:=⟨Ag.eqv_refl _,trivial⟩
  exact fokX_fin mixed gw_stable (sl:=[v35]) ⟨S35,trivial⟩ Try.func32 hw hl hG hx heq rfl (t32 sv l0 h0 l1 h1 l2 h2 l3 h3) (w32 sv l0 h0 l1 h1 l2 h2 l3 h3)
 ·cases hd
theorem S32:SumOK Try.prog G0 gw 32 (fokSm dom32):=fok_sum Try.func32 rfl C32
theorem t65(q_l:Bool)(l:List Cask):runFnX Try.prog G0 (lookS [v64,v80,v47]) (fun _=>[]) [] 1 40 3 65 Try.f65 [.c (.sl q_l l.length 7 (eC.F l))] =
  T.need (eC.Is l.length (eC.F l)) (T.need (∀c,c∈eC.list l.length (eC.F l)→c.nm.size≤1000000) (T.ret [rI (M.first [(M.checkCasks (eC.list l.length (eC.F l))).2,M.unl (decide ((l.length:Int)≤4)) 8])])):=by kernel_rfl
def dom65:DomF
 |[.c (.sl _ n_l st_l F_l)]=>(match Nat.beq st_l 7 with
  |true=>some ([eC.Is n_l F_l,∀c,c∈(eC.list n_l F_l)→c.nm.size≤1000000],[rI (M.casksErr (eC.list n_l F_l))])
  |_=>none)
 |_=>none
def v65:Nat×Sm:=(65,fokSm dom65)
theorem C65:FOK Try.prog G0 gw 65 dom65:=by
 intro ags p r hd hp κ w xs hw hl hG hx
 unfold dom65 at hd
 split at hd
 ·rename_i q_l n_l st_l F_l
  split at hd
  ·rename_i hst
   have g1:=hst
   have g1:=Nat.eq_of_beq_eq_true g1
   subst g1
   simp only[Option.some.injEq,Prod.mk.injEq]at hd
   obtain⟨rfl,rfl⟩:=hd
   obtain⟨hI_l,hp⟩:=hp
   have heq:agsEqv [.c (.sl q_l n_l 7 F_l)] [.c (.sl q_l (eC.list n_l F_l).length 7 (eC.F (eC.list n_l F_l)))]:=⟨eC.to id hI_l,trivial⟩
   have len_l:(eC.list n_l F_l).length=n_l:=eC.list_len
   generalize eC.list n_l F_l=l at *
   subst len_l
   exact fokX_fin mixed gw_stable (sl:=[v64,v80,v47]) ⟨S64,S80,S47,trivial⟩ Try.func65 hw hl hG hx heq rfl (t65 q_l l) ((by rw[Enc.list_F];exact⟨Enc.is_F _ _ _,hp.1,rsEqv_refl _⟩))
  ·cases hd
 ·cases hd
theorem S65:SumOK Try.prog G0 gw 65 (fokSm dom65):=fok_sum Try.func65 rfl C65
theorem t31(q_l:Bool)(l:List Cask):runFnX Try.prog G0 (lookS [v48]) (fun _=>[]) [] 1 40 3 31 Try.f31 [.c (.sl q_l l.length 7 (eC.F l))] =
  T.need (eC.Is l.length (eC.F l)) (T.need (∀c,c∈eC.list l.length (eC.F l)→c.nm.size≤1000000) (T.ret [rI (M.checkCasks (eC.list l.length (eC.F l))).2])):=by kernel_rfl
def dom31:DomF
 |[.c (.sl _ n_l st_l F_l)]=>(match Nat.beq st_l 7 with
  |true=>some ([eC.Is n_l F_l,∀c,c∈(eC.list n_l F_l)→c.nm.size≤1000000],[rI (M.wholeErr (eC.list n_l F_l))])
  |_=>none)
 |_=>none
def v31:Nat×Sm:=(31,fokSm dom31)
theorem C31:FOK Try.prog G0 gw 31 dom31:=by
 intro ags p r hd hp κ w xs hw hl hG hx
 unfold dom31 at hd
 split at hd
 ·rename_i q_l n_l st_l F_l
  split at hd
  ·rename_i hst
   have g1:=hst
   have g1:=Nat.eq_of_beq_eq_true g1
   subst g1
   simp only[Option.some.injEq,Prod.mk.injEq]at hd
   obtain⟨rfl,rfl⟩:=hd
   obtain⟨hI_l,hp⟩:=hp
   have heq:agsEqv [.c (.sl q_l n_l 7 F_l)] [.c (.sl q_l (eC.list n_l F_l).length 7 (eC.F (eC.list n_l F_l)))]:=⟨eC.to id hI_l,trivial⟩
   have len_l:(eC.list n_l F_l).length=n_l:=eC.list_len
   generalize eC.list n_l F_l=l at *
   subst len_l
   exact fokX_fin mixed gw_stable (sl:=[v48]) ⟨S48,trivial⟩ Try.func31 hw hl hG hx heq rfl (t31 q_l l) ((by rw[Enc.list_F];exact⟨Enc.is_F _ _ _,hp.1,rsEqv_refl _⟩))
  ·cases hd
 ·cases hd
theorem S31:SumOK Try.prog G0 gw 31 (fokSm dom31):=fok_sum Try.func31 rfl C31
theorem t81(q_l:Bool)(l:List Cask)(sv l0 h0 l1 h1 l2 h2 l3 h3:Int):runFnX Try.prog G0 (lookS []) (fun _=>[(3,[.slot 10 (.int .i64),.slot 5 (.int .i64)],none)]) [] 1 40 3 81 Try.f81 [.c (.sl q_l l.length 7 (eC.F l)),.agg [dI sv,dI l0,dI h0,dI l1,dI h1,dI l2,dI h2,dI l3,dI h3]] =
  T.loop (Int×Int×PUnit) (0,0,PUnit.unit) fun x=>T.br (decide (x.1<(l.length:Int))) (T.need (0≤x.1) (T.need (x.1<(l.length:Int)) (T.ret (.inl (IntKind.i64.wrap (x.1+1),IntKind.i64.wrap (x.2.1+(l.getD x.1.toNat dfC).vol),PUnit.unit))))) (T.ret (.inr [rB (decide (x.2.1≥sv))])):=by kernel_rfl
theorem w81(l:List Cask)(sv:Int)(hl:l.length≤1000000):(T.loop (Int×Int×PUnit) (0,0,PUnit.unit) fun x=>T.br (decide (x.1<(l.length:Int))) (T.need (0≤x.1) (T.need (x.1<(l.length:Int)) (T.ret (.inl (IntKind.i64.wrap (x.1+1),IntKind.i64.wrap (x.2.1+(l.getD x.1.toNat dfC).vol),PUnit.unit))))) (T.ret (.inr [rB (decide (x.2.1≥sv))])):T (List Ar)).wp (fun rs=>rsEqv rs [rB (decide (M.volumes l≥sv))]):=by
 refine range_wp (n:=l.length) (fun k s=>s.1=(List.range k).foldl (fun a i=>IntKind.i64.wrap (a+(l.getD i dfC).vol)) 0) rfl ?_
 rintro k ⟨a,u⟩ hk hI
 simp only at hI
 refine⟨fun hb=>?_,fun hb=>?_⟩
 ·have hlt:=lt_of_dec hb
  refine⟨by show(0:Int)≤k;omega,by show(k:Int)<l.length;omega,hlt,wrap_succ (by omega),?_⟩
  rw[foldl_succ,←hI]
  rfl
 ·have hge:=ge_of_dec hb
  obtain rfl:k=l.length:=by omega
  have e:a=M.volumes l:=hI
  subst e
  exact rsEqv_refl _
def dom81:DomF
 |[.c (.sl _ n_l st_l F_l),.agg [.int .i64 sv,.int .i64 l0,.int .i64 h0,.int .i64 l1,.int .i64 h1,.int .i64 l2,.int .i64 h2,.int .i64 l3,.int .i64 h3]]=>(match Nat.beq st_l 7 with
  |true=>some ([eC.Is n_l F_l,(eC.list n_l F_l).length≤1000000],[rB (decide (M.volumes (eC.list n_l F_l)≥sv))])
  |_=>none)
 |_=>none
def v81:Nat×Sm:=(81,fokSm dom81)
theorem C81:FOK Try.prog G0 gw 81 dom81:=by
 intro ags p r hd hp κ w xs hw hl hG hx
 unfold dom81 at hd
 split at hd
 ·rename_i q_l n_l st_l F_l sv l0 h0 l1 h1 l2 h2 l3 h3
  split at hd
  ·rename_i hst
   have g1:=hst
   have g1:=Nat.eq_of_beq_eq_true g1
   subst g1
   simp only[Option.some.injEq,Prod.mk.injEq]at hd
   obtain⟨rfl,rfl⟩:=hd
   obtain⟨hI_l,hp⟩:=hp
   have heq:agsEqv [.c (.sl q_l n_l 7 F_l),.agg [.int .i64 sv,.int .i64 l0,.int .i64 h0,.int .i64 l1,.int .i64 h1,.int .i64 l2,.int .i64 h2,.int .i64 l3,.int .i64 h3]] [.c (.sl q_l (eC.list n_l F_l).length 7 (eC.F (eC.list n_l F_l))),.agg [.int .i64 sv,.int .i64 l0,.int .i64 h0,.int .i64 l1,.int .i64 h1,.int .i64 l2,.int .i64 h2,.int .i64 l3,.int .i64 h3]]:=⟨eC.to id hI_l,Ag.eqv_refl _,trivial⟩
   have len_l:(eC.list n_l F_l).length=n_l:=eC.list_len
   generalize eC.list n_l F_l=l at *
   subst len_l
   exact fokX_fin mixed gw_stable (sl:=[]) trivial Try.func81 hw hl hG hx heq rfl (t81 q_l l sv l0 h0 l1 h1 l2 h2 l3 h3) (w81 l sv hp.1)
  ·cases hd
 ·cases hd
theorem S81:SumOK Try.prog G0 gw 81 (fokSm dom81):=fok_sum Try.func81 rfl C81
theorem t84(q_l:Bool)(l:List Cask)(den:Int)(q_ps:Bool)(ps:List Int)(sv l0 h0 l1 h1 l2 h2 l3 h3:Int):runFnX Try.prog G0 (lookS [v85,v97]) (fun _=>[(1000015,[],none),(3000014,[],none),(3000035,[],none),(3000019,[],none)]) [] 1 40 3 84 Try.f84 [.agg [.sl q_l l.length 7 (eC.F l),dI den,.sl q_ps ps.length 1 (eI.F ps)],.agg [dI sv,dI l0,dI h0,dI l1,dI h1,dI l2,dI h2,dI l3,dI h3]] =
  T.needs [eC.Is l.length (eC.F l),eI.Is ps.length (eI.F ps),ps.length≤l.length,ps.length≤1000,eC.Is l.length (eC.F l),eI.Is ps.length (eI.F ps),ps.length≤l.length,ps.length≤1000,eC.Is l.length (eC.F l),eI.Is ps.length (eI.F ps),ps.length≤l.length,ps.length≤1000,eC.Is l.length (eC.F l),eI.Is ps.length (eI.F ps),ps.length≤l.length,ps.length≤1000,eC.Is l.length (eC.F l),eI.Is ps.length (eI.F ps),ps.length≤l.length,ps.length≤1000] (T.ret [rI (M.away (eC.list l.length (eC.F l)) (eI.list ps.length (eI.F ps)) ⟨sv,⟨l0,h0⟩,⟨l1,h1⟩,⟨l2,h2⟩,⟨l3,h3⟩⟩)]):=by kernel_rfl
def dom84:DomF
 |[.agg [.sl _ n_l st_l F_l,.int .i64 den,.sl _ n_ps st_ps F_ps],.agg [.int .i64 sv,.int .i64 l0,.int .i64 h0,.int .i64 l1,.int .i64 h1,.int .i64 l2,.int .i64 h2,.int .i64 l3,.int .i64 h3]]=>(match Nat.beq st_l 7&&Nat.beq st_ps 1 with
  |true=>some ([eC.Is n_l F_l,eI.Is n_ps F_ps,(eI.list n_ps F_ps).length≤(eC.list n_l F_l).length,(eI.list n_ps F_ps).length≤1000],[rI (M.away (eC.list n_l F_l) (eI.list n_ps F_ps) ⟨sv,⟨l0,h0⟩,⟨l1,h1⟩,⟨l2,h2⟩,⟨l3,h3⟩⟩)])
  |_=>none)
 |_=>none
def v84:Nat×Sm:=(84,fokSm dom84)
theorem C84:FOK Try.prog G0 gw 84 dom84:=by
 intro ags p r hd hp κ w xs hw hl hG hx
 unfold dom84 at hd
 split at hd
 ·rename_i q_l n_l st_l F_l den q_ps n_ps st_ps F_ps sv l0 h0 l1 h1 l2 h2 l3 h3
  split at hd
  ·rename_i hst
   simp only[Bool.and_eq_true]at hst
   obtain⟨g1,g2⟩:=hst
   have g1:=Nat.eq_of_beq_eq_true g1
   have g2:=Nat.eq_of_beq_eq_true g2
   subst g1 g2
   simp only[Option.some.injEq,Prod.mk.injEq]at hd
   obtain⟨rfl,rfl⟩:=hd
   obtain⟨hI_l,hI_ps,hp⟩:=hp
   have heq:agsEqv [.agg [.sl q_l n_l 7 F_l,.int .i64 den,.sl q_ps n_ps 1 F_ps],.agg [.int .i64 sv,.int .i64 l0,.int .i64 h0,.int .i64 l1,.int .i64 h1,.int .i64 l2,.int .i64 h2,.int .i64 l3,.int .i64 h3]] [.agg [.sl q_l (eC.list n_l F_l).length 7 (eC.F (eC.list n_l F_l)),.int .i64 den,.sl q_ps (eI.list n_ps F_ps).length 1 (eI.F (eI.list n_ps F_ps))],.agg [.int .i64 sv,.int .i64 l0,.int .i64 h0,.int .i64 l1,.int .i64 h1,.int .i64 l2,.int .i64 h2,.int .i64 l3,.int .i64 h3]]:=⟨⟨eC.to id hI_l,rfl,eI.to id hI_ps,trivial⟩,Ag.eqv_refl _,trivial⟩
   have len_l:(eC.list n_l F_l).length=n_l:=eC.list_len
   have len_ps:(eI.list n_ps F_ps).length=n_ps:=eI.list_len
   generalize eC.list n_l F_l=l at *
   generalize eI.list n_ps F_ps=ps at *
   subst len_l len_ps
   have c1:=Enc.is_F eC l l.length
   have c2:=Enc.is_F eI ps ps.length
   obtain⟨c3,c4,_⟩:=hp
   exact fokX_fin mixed gw_stable (sl:=[v85,v97]) ⟨S85,S97,trivial⟩ Try.func84 hw hl hG hx heq rfl (t84 q_l l den q_ps ps sv l0 h0 l1 h1 l2 h2 l3 h3) ((by rw[Enc.list_F,Enc.list_F];exact⟨c1,c2,c3,c4,c1,c2,c3,c4,c1,c2,c3,c4,c1,c2,c3,c4,c1,c2,c3,c4,rsEqv_refl _⟩))
  ·cases hd
 ·cases hd
theorem S84:SumOK Try.prog G0 gw 84 (fokSm dom84):=fok_sum Try.func84 rfl C84
end Go.Bl
end
section
set_option maxRecDepth 100000
namespace Go.Bl
open Go.V Go.Proofs
structure BestR where
 c0:Int
 c1:Int
 den:Int
 pt:List Int
 w:Wts
 e:Int
namespace M
def zeroW:Wts:=⟨0,0,0,0,0,0,0,0,0,0,[]⟩
def pBest(l:List Cask)(s:Sample):Option Corner:=psolve (shares l 0) s.vol (costs l) (limits l s 0)
def wtsOf(x:Corner)(n:Nat):Wts:=weights x.wd x.each x.tight x.by_ n
def bestC(l:List Cask)(x:Corner):BestR:=⟨told1 (sumP Cask.cost l x.pt) x.den,told2 (sumP Cask.cost l x.pt) x.den,x.den,x.pt,wtsOf x l.length,0⟩
def best(l:List Cask)(s:Sample):BestR:=
 cond (taskErr l s != 0) ⟨0,0,0,[],zeroW,taskErr l s⟩ (match pBest l s with|some x=>bestC l x|none=>⟨0,0,0,[],zeroW,12⟩)
end M
def resB(b:BestR):List Ar:=[.agg [dI b.c0,dI b.c1,dI b.den,dL b.pt,dI b.w.den,dI b.w.each,dI b.w.x0,dI b.w.x1,dI b.w.x2,dI b.w.x3,dI b.w.y0,dI b.w.y1,dI b.w.y2,dI b.w.y3,dL b.w.casks],rI b.e]
def CornerOK(l:List Cask)(n:Nat)(x:M.Corner):Prop:=
 x.pt.length≤n∧x.den≠0∧i64ok x.den∧x.tight.length≤x.by_.length∧x.tight.length≤1000∧WhichOK l.length x.tight
def BestOK(l:List Cask)(s:Sample):Prop:=M.taskErr l s=0→1≤l.length∧l.length≤4∧(∀c,c∈M.limits l s 0→c.coefs.length=(M.shares l 0).length)∧TurnOK (M.shares l 0) (M.limits l s 0) ∧
 ∀x,M.pBest l s=some x→CornerOK l l.length x∧i64ok (M.sumP Cask.cost l x.pt)
theorem shares_len(l:List Cask)(k:Nat):(M.shares l k).length=l.length+k:=by simp[M.shares]
theorem costs_len(l:List Cask):(M.costs l).length=l.length:=by simp[M.costs]
theorem far_len(l:List Cask):(M.far l).length=l.length+1:=by simp[M.far]
theorem limits_len(l:List Cask)(s:Sample)(k:Nat):(M.limits l s k).length=2*l.length+k+8:=by
 simp only[M.limits,List.length_append,List.length_map,List.length_range]
 have:((List.range 4).flatMap fun(k':Nat)=>[(⟨2,k',M.by_ l (l.length+k) fun c=>IntKind.i64.wrap (M.val c k'-(M.rg s k').hi),0⟩:Cond),⟨3,k',M.by_ l (l.length+k) fun c=>IntKind.i64.wrap ((M.rg s k').lo-M.val c k'),0⟩]).length=8:=rfl
 rw[this];omega
def P20(LL:List Cask)(SS:Sample):Option M.Corner:=(M.psolve (Enc.list eI (List.length (M.shares LL (0:Nat))) (Enc.F eI (M.shares LL (0:Nat)))) (Sample.vol SS) (Enc.list eI (List.length (M.costs LL)) (Enc.F eI (M.costs LL))) (Enc.list eK (List.length (M.limits LL SS (0:Nat))) (Enc.F eK (M.limits LL SS (0:Nat)))))
def tr20(l:List Cask)(s:Sample):T (List Ar):=
  T.need (Enc.Is eC l.length (Enc.F eC l)) (T.need (∀(c:Cask),c∈(Enc.list eC l.length (Enc.F eC l))→ByteArray.size (Cask.nm c)≤1000000) (T.br (M.first [M.casksErr (Enc.list eC l.length (Enc.F eC l)),M.checkSample s] != (0:Int)) (T.ret [Ar.agg [D.int IntKind.i64 (0:Int),D.int IntKind.i64 (0:Int),D.int IntKind.i64 (0:Int),D.sl false (0:Nat) (0:Nat) fun(x x_1:Nat)=>D.nilp,D.int IntKind.i64 (0:Int),D.int IntKind.i64 (0:Int),D.int IntKind.i64 (0:Int),D.int IntKind.i64 (0:Int),D.int IntKind.i64 (0:Int),D.int IntKind.i64 (0:Int),D.int IntKind.i64 (0:Int),D.int IntKind.i64 (0:Int),D.int IntKind.i64 (0:Int),D.int IntKind.i64 (0:Int),D.sl false (0:Nat) (0:Nat) fun(x x_1:Nat)=>D.nilp],Ar.c (D.int IntKind.i64 (M.first [M.casksErr (Enc.list eC l.length (Enc.F eC l)),M.checkSample s]))]) (T.needs [Enc.Is eC l.length (Enc.F eC l),(1:Nat)≤l.length,l.length≤4,Enc.Is eI (List.length (M.shares (Enc.list eC l.length (Enc.F eC l)) (0:Nat))) (Enc.F eI (M.shares (Enc.list eC l.length (Enc.F eC l)) (0:Nat))),Enc.Is eI (List.length (M.costs (Enc.list eC l.length (Enc.F eC l)))) (Enc.F eI (M.costs (Enc.list eC l.length (Enc.F eC l)))),Enc.Is eK (List.length (M.limits (Enc.list eC l.length (Enc.F eC l)) s (0:Nat))) (Enc.F eK (M.limits (Enc.list eC l.length (Enc.F eC l)) s (0:Nat))),(1:Nat)≤List.length (M.shares (Enc.list eC l.length (Enc.F eC l)) (0:Nat)),List.length (M.shares (Enc.list eC l.length (Enc.F eC l)) (0:Nat))≤5,List.length (M.shares (Enc.list eC l.length (Enc.F eC l)) (0:Nat))=List.length (M.costs (Enc.list eC l.length (Enc.F eC l))),List.length (M.limits (Enc.list eC l.length (Enc.F eC l)) s (0:Nat))≤1000,(∀(c:Cond),c∈Enc.list eK (List.length (M.limits (Enc.list eC l.length (Enc.F eC l)) s (0:Nat))) (Enc.F eK (M.limits (Enc.list eC l.length (Enc.F eC l)) s (0:Nat)))→List.length (Cond.coefs c)=List.length (M.shares (Enc.list eC l.length (Enc.F eC l)) (0:Nat))),(∀(set:List Cond),set.length+1=List.length (Enc.list eI (List.length (M.shares (Enc.list eC l.length (Enc.F eC l)) (0:Nat))) (Enc.F eI (M.shares (Enc.list eC l.length (Enc.F eC l)) (0:Nat))))→(∀(c:Cond),c∈set→c∈Enc.list eK (List.length (M.limits (Enc.list eC l.length (Enc.F eC l)) s (0:Nat))) (Enc.F eK (M.limits (Enc.list eC l.length (Enc.F eC l)) s (0:Nat))))→M.det (M.mat (Enc.list eI (List.length (M.shares (Enc.list eC l.length (Enc.F eC l)) (0:Nat))) (Enc.F eI (M.shares (Enc.list eC l.length (Enc.F eC l)) (0:Nat)))) set)≠(0:Int)→M.det (M.turned (M.mat (Enc.list eI (List.length (M.shares (Enc.list eC l.length (Enc.F eC l)) (0:Nat))) (Enc.F eI (M.shares (Enc.list eC l.length (Enc.F eC l)) (0:Nat)))) set))≠(0:Int))] (T.br (!Option.isSome (P20 (Enc.list eC l.length (Enc.F eC l)) s)) (T.ret [Ar.agg [D.int IntKind.i64 (0:Int),D.int IntKind.i64 (0:Int),D.int IntKind.i64 (0:Int),D.sl false (0:Nat) (0:Nat) fun(x x_1:Nat)=>D.nilp,D.int IntKind.i64 (0:Int),D.int IntKind.i64 (0:Int),D.int IntKind.i64 (0:Int),D.int IntKind.i64 (0:Int),D.int IntKind.i64 (0:Int),D.int IntKind.i64 (0:Int),D.int IntKind.i64 (0:Int),D.int IntKind.i64 (0:Int),D.int IntKind.i64 (0:Int),D.int IntKind.i64 (0:Int),D.sl false (0:Nat) (0:Nat) fun(x x_1:Nat)=>D.nilp],Ar.c (D.int IntKind.i64 (12:Int))]) (T.needs [Enc.Is eC l.length (Enc.F eC l),Enc.Is eI (List.length (M.Corner.pt (cOf (P20 (Enc.list eC l.length (Enc.F eC l)) s)))) (Enc.F eI (M.Corner.pt (cOf (P20 (Enc.list eC l.length (Enc.F eC l)) s)))),List.length (M.Corner.pt (cOf (P20 (Enc.list eC l.length (Enc.F eC l)) s)))≤l.length,List.length (M.Corner.pt (cOf (P20 (Enc.list eC l.length (Enc.F eC l)) s)))≤1000,M.Corner.den (cOf (P20 (Enc.list eC l.length (Enc.F eC l)) s))≠(0:Int),Int.natAbs (M.Corner.den (cOf (P20 (Enc.list eC l.length (Enc.F eC l)) s)))<9223372036854775808,Int.natAbs (M.sumP Cask.cost (Enc.list eC l.length (Enc.F eC l)) (Enc.list eI (List.length (M.Corner.pt (cOf (P20 (Enc.list eC l.length (Enc.F eC l)) s)))) (Enc.F eI (M.Corner.pt (cOf (P20 (Enc.list eC l.length (Enc.F eC l)) s))))))<9223372036854775808,Enc.Is eK (List.length (M.Corner.tight (cOf (P20 (Enc.list eC l.length (Enc.F eC l)) s)))) (Enc.F eK (M.Corner.tight (cOf (P20 (Enc.list eC l.length (Enc.F eC l)) s)))),Enc.Is eI (List.length (M.Corner.by_ (cOf (P20 (Enc.list eC l.length (Enc.F eC l)) s)))) (Enc.F eI (M.Corner.by_ (cOf (P20 (Enc.list eC l.length (Enc.F eC l)) s)))),(0:Int)≤(l.length:Int),(l.length:Int)≤1000,List.length (M.Corner.tight (cOf (P20 (Enc.list eC l.length (Enc.F eC l)) s)))≤List.length (M.Corner.by_ (cOf (P20 (Enc.list eC l.length (Enc.F eC l)) s))),List.length (M.Corner.tight (cOf (P20 (Enc.list eC l.length (Enc.F eC l)) s)))≤1000,(∀(c:Cond),c∈Enc.list eK (List.length (M.Corner.tight (cOf (P20 (Enc.list eC l.length (Enc.F eC l)) s)))) (Enc.F eK (M.Corner.tight (cOf (P20 (Enc.list eC l.length (Enc.F eC l)) s))))→(0:Int)≤Cond.which c∧(Cond.kind c=1→Cond.which c<(l.length:Int))∧(Cond.kind c≠(1:Int)→Cond.kind c≠(0:Int)→Cond.which c<4))] (T.ret [Ar.agg [D.int IntKind.i64 (M.told1 (M.sumP (fun(self:Cask)=>self.3) (Enc.list eC l.length (Enc.F eC l)) (Enc.list eI (List.length (M.Corner.pt (cOf (P20 (Enc.list eC l.length (Enc.F eC l)) s)))) (Enc.F eI (M.Corner.pt (cOf (P20 (Enc.list eC l.length (Enc.F eC l)) s)))))) (M.Corner.den (cOf (P20 (Enc.list eC l.length (Enc.F eC l)) s)))),D.int IntKind.i64 (M.told2 (M.sumP (fun(self:Cask)=>self.3) (Enc.list eC l.length (Enc.F eC l)) (Enc.list eI (List.length (M.Corner.pt (cOf (P20 (Enc.list eC l.length (Enc.F eC l)) s)))) (Enc.F eI (M.Corner.pt (cOf (P20 (Enc.list eC l.length (Enc.F eC l)) s)))))) (M.Corner.den (cOf (P20 (Enc.list eC l.length (Enc.F eC l)) s)))),D.int IntKind.i64 (M.Corner.den (cOf (P20 (Enc.list eC l.length (Enc.F eC l)) s))),D.sl false (List.length (M.Corner.pt (cOf (P20 (Enc.list eC l.length (Enc.F eC l)) s)))) (1:Nat) (Enc.F eI (M.Corner.pt (cOf (P20 (Enc.list eC l.length (Enc.F eC l)) s)))),D.int IntKind.i64 (M.weights (M.Corner.wd (cOf (P20 (Enc.list eC l.length (Enc.F eC l)) s))) (M.Corner.each (cOf (P20 (Enc.list eC l.length (Enc.F eC l)) s))) (Enc.list eK (List.length (M.Corner.tight (cOf (P20 (Enc.list eC l.length (Enc.F eC l)) s)))) (Enc.F eK (M.Corner.tight (cOf (P20 (Enc.list eC l.length (Enc.F eC l)) s))))) (Enc.list eI (List.length (M.Corner.by_ (cOf (P20 (Enc.list eC l.length (Enc.F eC l)) s)))) (Enc.F eI (M.Corner.by_ (cOf (P20 (Enc.list eC l.length (Enc.F eC l)) s))))) (Int.toNat (l.length:Int))).1,D.int IntKind.i64 (M.weights (M.Corner.wd (cOf (P20 (Enc.list eC l.length (Enc.F eC l)) s))) (M.Corner.each (cOf (P20 (Enc.list eC l.length (Enc.F eC l)) s))) (Enc.list eK (List.length (M.Corner.tight (cOf (P20 (Enc.list eC l.length (Enc.F eC l)) s)))) (Enc.F eK (M.Corner.tight (cOf (P20 (Enc.list eC l.length (Enc.F eC l)) s))))) (Enc.list eI (List.length (M.Corner.by_ (cOf (P20 (Enc.list eC l.length (Enc.F eC l)) s)))) (Enc.F eI (M.Corner.by_ (cOf (P20 (Enc.list eC l.length (Enc.F eC l)) s))))) (Int.toNat (l.length:Int))).2,D.int IntKind.i64 (M.weights (M.Corner.wd (cOf (P20 (Enc.list eC l.length (Enc.F eC l)) s))) (M.Corner.each (cOf (P20 (Enc.list eC l.length (Enc.F eC l)) s))) (Enc.list eK (List.length (M.Corner.tight (cOf (P20 (Enc.list eC l.length (Enc.F eC l)) s)))) (Enc.F eK (M.Corner.tight (cOf (P20 (Enc.list eC l.length (Enc.F eC l)) s))))) (Enc.list eI (List.length (M.Corner.by_ (cOf (P20 (Enc.list eC l.length (Enc.F eC l)) s)))) (Enc.F eI (M.Corner.by_ (cOf (P20 (Enc.list eC l.length (Enc.F eC l)) s))))) (Int.toNat (l.length:Int))).3,D.int IntKind.i64 (M.weights (M.Corner.wd (cOf (P20 (Enc.list eC l.length (Enc.F eC l)) s))) (M.Corner.each (cOf (P20 (Enc.list eC l.length (Enc.F eC l)) s))) (Enc.list eK (List.length (M.Corner.tight (cOf (P20 (Enc.list eC l.length (Enc.F eC l)) s)))) (Enc.F eK (M.Corner.tight (cOf (P20 (Enc.list eC l.length (Enc.F eC l)) s))))) (Enc.list eI (List.length (M.Corner.by_ (cOf (P20 (Enc.list eC l.length (Enc.F eC l)) s)))) (Enc.F eI (M.Corner.by_ (cOf (P20 (Enc.list eC l.length (Enc.F eC l)) s))))) (Int.toNat (l.length:Int))).4,D.int IntKind.i64 (M.weights (M.Corner.wd (cOf (P20 (Enc.list eC l.length (Enc.F eC l)) s))) (M.Corner.each (cOf (P20 (Enc.list eC l.length (Enc.F eC l)) s))) (Enc.list eK (List.length (M.Corner.tight (cOf (P20 (Enc.list eC l.length (Enc.F eC l)) s)))) (Enc.F eK (M.Corner.tight (cOf (P20 (Enc.list eC l.length (Enc.F eC l)) s))))) (Enc.list eI (List.length (M.Corner.by_ (cOf (P20 (Enc.list eC l.length (Enc.F eC l)) s)))) (Enc.F eI (M.Corner.by_ (cOf (P20 (Enc.list eC l.length (Enc.F eC l)) s))))) (Int.toNat (l.length:Int))).5,D.int IntKind.i64 (M.weights (M.Corner.wd (cOf (P20 (Enc.list eC l.length (Enc.F eC l)) s))) (M.Corner.each (cOf (P20 (Enc.list eC l.length (Enc.F eC l)) s))) (Enc.list eK (List.length (M.Corner.tight (cOf (P20 (Enc.list eC l.length (Enc.F eC l)) s)))) (Enc.F eK (M.Corner.tight (cOf (P20 (Enc.list eC l.length (Enc.F eC l)) s))))) (Enc.list eI (List.length (M.Corner.by_ (cOf (P20 (Enc.list eC l.length (Enc.F eC l)) s)))) (Enc.F eI (M.Corner.by_ (cOf (P20 (Enc.list eC l.length (Enc.F eC l)) s))))) (Int.toNat (l.length:Int))).6,D.int IntKind.i64 (M.weights (M.Corner.wd (cOf (P20 (Enc.list eC l.length (Enc.F eC l)) s))) (M.Corner.each (cOf (P20 (Enc.list eC l.length (Enc.F eC l)) s))) (Enc.list eK (List.length (M.Corner.tight (cOf (P20 (Enc.list eC l.length (Enc.F eC l)) s)))) (Enc.F eK (M.Corner.tight (cOf (P20 (Enc.list eC l.length (Enc.F eC l)) s))))) (Enc.list eI (List.length (M.Corner.by_ (cOf (P20 (Enc.list eC l.length (Enc.F eC l)) s)))) (Enc.F eI (M.Corner.by_ (cOf (P20 (Enc.list eC l.length (Enc.F eC l)) s))))) (Int.toNat (l.length:Int))).7,D.int IntKind.i64 (M.weights (M.Corner.wd (cOf (P20 (Enc.list eC l.length (Enc.F eC l)) s))) (M.Corner.each (cOf (P20 (Enc.list eC l.length (Enc.F eC l)) s))) (Enc.list eK (List.length (M.Corner.tight (cOf (P20 (Enc.list eC l.length (Enc.F eC l)) s)))) (Enc.F eK (M.Corner.tight (cOf (P20 (Enc.list eC l.length (Enc.F eC l)) s))))) (Enc.list eI (List.length (M.Corner.by_ (cOf (P20 (Enc.list eC l.length (Enc.F eC l)) s)))) (Enc.F eI (M.Corner.by_ (cOf (P20 (Enc.list eC l.length (Enc.F eC l)) s))))) (Int.toNat (l.length:Int))).8,D.int IntKind.i64 (M.weights (M.Corner.wd (cOf (P20 (Enc.list eC l.length (Enc.F eC l)) s))) (M.Corner.each (cOf (P20 (Enc.list eC l.length (Enc.F eC l)) s))) (Enc.list eK (List.length (M.Corner.tight (cOf (P20 (Enc.list eC l.length (Enc.F eC l)) s)))) (Enc.F eK (M.Corner.tight (cOf (P20 (Enc.list eC l.length (Enc.F eC l)) s))))) (Enc.list eI (List.length (M.Corner.by_ (cOf (P20 (Enc.list eC l.length (Enc.F eC l)) s)))) (Enc.F eI (M.Corner.by_ (cOf (P20 (Enc.list eC l.length (Enc.F eC l)) s))))) (Int.toNat (l.length:Int))).9,D.int IntKind.i64 (M.weights (M.Corner.wd (cOf (P20 (Enc.list eC l.length (Enc.F eC l)) s))) (M.Corner.each (cOf (P20 (Enc.list eC l.length (Enc.F eC l)) s))) (Enc.list eK (List.length (M.Corner.tight (cOf (P20 (Enc.list eC l.length (Enc.F eC l)) s)))) (Enc.F eK (M.Corner.tight (cOf (P20 (Enc.list eC l.length (Enc.F eC l)) s))))) (Enc.list eI (List.length (M.Corner.by_ (cOf (P20 (Enc.list eC l.length (Enc.F eC l)) s)))) (Enc.F eI (M.Corner.by_ (cOf (P20 (Enc.list eC l.length (Enc.F eC l)) s))))) (Int.toNat (l.length:Int))).10,D.sl false (List.length (M.weights (M.Corner.wd (cOf (P20 (Enc.list eC l.length (Enc.F eC l)) s))) (M.Corner.each (cOf (P20 (Enc.list eC l.length (Enc.F eC l)) s))) (Enc.list eK (List.length (M.Corner.tight (cOf (P20 (Enc.list eC l.length (Enc.F eC l)) s)))) (Enc.F eK (M.Corner.tight (cOf (P20 (Enc.list eC l.length (Enc.F eC l)) s))))) (Enc.list eI (List.length (M.Corner.by_ (cOf (P20 (Enc.list eC l.length (Enc.F eC l)) s)))) (Enc.F eI (M.Corner.by_ (cOf (P20 (Enc.list eC l.length (Enc.F eC l)) s))))) (Int.toNat (l.length:Int))).11) (1:Nat) (Enc.F eI (M.weights (M.Corner.wd (cOf (P20 (Enc.list eC l.length (Enc.F eC l)) s))) (M.Corner.each (cOf (P20 (Enc.list eC l.length (Enc.F eC l)) s))) (Enc.list eK (List.length (M.Corner.tight (cOf (P20 (Enc.list eC l.length (Enc.F eC l)) s)))) (Enc.F eK (M.Corner.tight (cOf (P20 (Enc.list eC l.length (Enc.F eC l)) s))))) (Enc.list eI (List.length (M.Corner.by_ (cOf (P20 (Enc.list eC l.length (Enc.F eC l)) s)))) (Enc.F eI (M.Corner.by_ (cOf (P20 (Enc.list eC l.length (Enc.F eC l)) s))))) (Int.toNat (l.length:Int))).11)],Ar.c (D.int IntKind.i64 (0:Int))]))))))
theorem t20(q_l:Bool)(l:List Cask)(sv l0 h0 l1 h1 l2 h2 l3 h3:Int):runFnX Try.prog G0 (lookS [v65,v49,v64,v66,v67,v68,v69]) (fun _=>[]) [] 1 40 3 20 Try.f20 [.c (.sl q_l l.length 7 (eC.F l)),.agg [dI sv,dI l0,dI h0,dI l1,dI h1,dI l2,dI h2,dI l3,dI h3]] =
  tr20 l (⟨sv,⟨l0,h0⟩,⟨l1,h1⟩,⟨l2,h2⟩,⟨l3,h3⟩⟩:Sample):=by kernel_rfl
theorem w20(l:List Cask)(s:Sample)(hn:∀c,c∈l→c.nm.size≤1000000)(h:BestOK l s):(tr20 l s).wp (fun rs=>rsEqv rs (resB (M.best l s))):=by
 have hP:P20 l s=M.pBest l s:=by unfold P20 M.pBest;simp only[Enc.list_F]
 have z0:(nilD).eqv (dL []):=⟨(fun e=>by cases e),rfl,(fun h=>absurd h (Nat.lt_irrefl 0)),fun i j hi=>absurd hi (Nat.not_lt_zero i)⟩
 unfold tr20
 simp only[Enc.list_F,hP]
 refine⟨Enc.is_F _ _ _,hn,wp_br (fun hb=>?_) (fun hb=>?_)⟩
 ·have:M.best l s=⟨0,0,0,[],M.zeroW,M.taskErr l s⟩:=by
   unfold M.best;rw[show(M.taskErr l s != 0)=true from hb];rfl
  rw[this]
  exact⟨⟨rfl,rfl,rfl,z0,rfl,rfl,rfl,rfl,rfl,rfl,rfl,rfl,rfl,rfl,z0,trivial⟩,rfl,trivial⟩
 ·have hb':(M.taskErr l s != 0)=false:=hb
  have he:M.taskErr l s=0:=by simpa using hb'
  obtain⟨h1,h4,hco,htd,hx⟩:=h he
  have hbest:M.best l s=(match M.pBest l s with|some x=>M.bestC l x|none=>⟨0,0,0,[],M.zeroW,12⟩):=by
   unfold M.best;rw[hb'];rfl
  rw[hbest]
  refine⟨Enc.is_F _ _ _,h1,h4,Enc.is_F _ _ _,Enc.is_F _ _ _,Enc.is_F _ _ _,by rw[shares_len];omega,by rw[shares_len];omega,by rw[shares_len,costs_len];omega,by rw[limits_len];omega,hco,htd,?_⟩
  cases hp:M.pBest l s with
  |none=>
   refine⟨fun _=>?_,(fun h=>(by cases h))⟩
   exact⟨⟨rfl,rfl,rfl,z0,rfl,rfl,rfl,rfl,rfl,rfl,rfl,rfl,rfl,rfl,z0,trivial⟩,rfl,trivial⟩
  |some x=>
   obtain⟨⟨c1,c2,c3,c4,c5,c6⟩,c7⟩:=hx x hp
   refine⟨(fun h=>(by cases h)),fun _=>?_⟩
   refine⟨Enc.is_F _ _ _,Enc.is_F _ _ _,c1,Nat.le_trans c1 (by omega),c2,c3,c7,Enc.is_F _ _ _,Enc.is_F _ _ _,by omega,by omega,c4,c5,c6,?_⟩
   exact⟨⟨rfl,rfl,rfl,D.eqv_refl _,rfl,rfl,rfl,rfl,rfl,rfl,rfl,rfl,rfl,rfl,D.eqv_refl _,trivial⟩,rfl,trivial⟩
def dom20:DomF
 |[.c (.sl _ n_l st_l F_l),.agg [.int .i64 sv,.int .i64 l0,.int .i64 h0,.int .i64 l1,.int .i64 h1,.int .i64 l2,.int .i64 h2,.int .i64 l3,.int .i64 h3]]=>(match Nat.beq st_l 7 with
  |true=>some ([eC.Is n_l F_l,∀c,c∈(eC.list n_l F_l)→c.nm.size≤1000000,BestOK (eC.list n_l F_l) ⟨sv,⟨l0,h0⟩,⟨l1,h1⟩,⟨l2,h2⟩,⟨l3,h3⟩⟩],resB (M.best (eC.list n_l F_l) ⟨sv,⟨l0,h0⟩,⟨l1,h1⟩,⟨l2,h2⟩,⟨l3,h3⟩⟩))
  |_=>none)
 |_=>none
def v20:Nat×Sm:=(20,fokSm dom20)
theorem C20:FOK Try.prog G0 gw 20 dom20:=by
 intro ags p r hd hp κ w xs hw hl hG hx
 unfold dom20 at hd
 split at hd
 ·rename_i q_l n_l st_l F_l sv l0 h0 l1 h1 l2 h2 l3 h3
  split at hd
  ·rename_i hst
   have g1:=hst
   have g1:=Nat.eq_of_beq_eq_true g1
   subst g1
   simp only[Option.some.injEq,Prod.mk.injEq]at hd
   obtain⟨rfl,rfl⟩:=hd
   obtain⟨hI_l,hp⟩:=hp
   have heq:agsEqv [.c (.sl q_l n_l 7 F_l),.agg [.int .i64 sv,.int .i64 l0,.int .i64 h0,.int .i64 l1,.int .i64 h1,.int .i64 l2,.int .i64 h2,.int .i64 l3,.int .i64 h3]] [.c (.sl q_l (eC.list n_l F_l).length 7 (eC.F (eC.list n_l F_l))),.agg [.int .i64 sv,.int .i64 l0,.int .i64 h0,.int .i64 l1,.int .i64 h1,.int .i64 l2,.int .i64 h2,.int .i64 l3,.int .i64 h3]]:=⟨eC.to id hI_l,Ag.eqv_refl _,trivial⟩
   have len_l:(eC.list n_l F_l).length=n_l:=eC.list_len
   generalize eC.list n_l F_l=l at *
   subst len_l
   exact fokX_fin mixed gw_stable (sl:=[v65,v49,v64,v66,v67,v68,v69]) ⟨S65,S49,S64,S66,S67,S68,S69,trivial⟩ Try.func20 hw hl hG hx heq rfl (t20 q_l l sv l0 h0 l1 h1 l2 h2 l3 h3) (w20 l _ hp.1 hp.2.1)
  ·cases hd
 ·cases hd
theorem S20:SumOK Try.prog G0 gw 20 (fokSm dom20):=fok_sum Try.func20 rfl C20
end Go.Bl
end
section
set_option maxRecDepth 100000
namespace Go.Bl
open Go.V Go.Proofs
structure NearR where
 den:Int
 pt:List Int
 d0:Int
 d1:Int
 e:Int
namespace M
def nearErr(l:List Cask)(s:Sample):Int:=first [casksErr l,checkSample s,unl (decide (volumes l≥s.vol)) 24]
def pNear(l:List Cask)(s:Sample):Corner:=cOf (psolve (shares l 1) s.vol (far l) (limits l s 1))
def nearC(l:List Cask)(s:Sample)(x:Corner):NearR:=⟨x.den,x.pt.take l.length,told1 (away l (x.pt.take l.length) s) (sumP (fun _=>1) l (x.pt.take l.length)),told2 (away l (x.pt.take l.length) s) (sumP (fun _=>1) l (x.pt.take l.length)),0⟩
def near(l:List Cask)(s:Sample):NearR:=cond (nearErr l s != 0) ⟨0,[],0,0,nearErr l s⟩ (nearC l s (pNear l s))
end M
def resN(b:NearR):List Ar:=[.agg [dI b.den,dL b.pt],.agg [dI b.d0,dI b.d1],rI b.e]
def NearOK(l:List Cask)(s:Sample):Prop:=M.nearErr l s=0→1≤l.length∧l.length≤4∧(∀c,c∈M.limits l s 1→c.coefs.length=(M.shares l 1).length)∧TurnOK (M.shares l 1) (M.limits l s 1) ∧
 l.length≤(M.pNear l s).pt.length∧M.sumP (fun _=>1) l ((M.pNear l s).pt.take l.length)≠0∧i64ok (M.away l ((M.pNear l s).pt.take l.length) s)∧i64ok (M.sumP (fun _=>1) l ((M.pNear l s).pt.take l.length))
theorem list_take{l:List Int}{n:Nat}(h:n≤l.length):eI.list n (eI.F l)=l.take n:=by
 apply List.ext_getElem
 ·simp[Enc.list];omega
 ·intro i h1 h2
  simp only[Enc.list,List.getElem_map,List.getElem_range,Enc.F,List.getElem_take]
  show l.getD i 0=_
  simp[List.length_take]at h2
  simp[(by omega:i<l.length)]
theorem take_eqv{l:List Int}{n:Nat}(h:n≤l.length):(D.sl false n 1 (eI.F l)).eqv (dL (l.take n)):=by
 refine⟨(fun e=>by cases e),by simp[h],fun _=>rfl,fun i j hi hj=>?_⟩
 obtain rfl:j=0:=Nat.lt_one_iff.1 hj
 show(dI (l.getD i 0)).eqv (dI ((l.take n).getD i 0))
 have:(l.take n).getD i 0=l.getD i 0:=by
  simp only[List.getD_eq_getElem?_getD,List.getElem?_take,if_pos hi]
 rw[this]
 exact D.eqv_refl _
def P26(LL:List Cask)(SS:Sample):Option M.Corner:=(M.psolve (Enc.list eI (List.length (M.shares LL (1:Nat))) (Enc.F eI (M.shares LL (1:Nat)))) (Sample.vol SS) (Enc.list eI (List.length (M.far LL)) (Enc.F eI (M.far LL))) (Enc.list eK (List.length (M.limits LL SS (1:Nat))) (Enc.F eK (M.limits LL SS (1:Nat)))))
def tr26(l:List Cask)(s:Sample):T (List Ar):=
  T.needs [Enc.Is eC l.length (Enc.F eC l),(∀(c:Cask),c∈(Enc.list eC l.length (Enc.F eC l))→ByteArray.size (Cask.nm c)≤1000000),Enc.Is eC l.length (Enc.F eC l),List.length (Enc.list eC l.length (Enc.F eC l))≤1000000] (T.br (M.first [M.casksErr (Enc.list eC l.length (Enc.F eC l)),M.checkSample s,M.unl (decide (M.volumes (Enc.list eC l.length (Enc.F eC l))≥s.vol)) (24:Int)] != (0:Int)) (T.ret [Ar.agg [D.int IntKind.i64 (0:Int),D.sl false (0:Nat) (0:Nat) fun(x x_1:Nat)=>D.nilp],Ar.agg [D.int IntKind.i64 (0:Int),D.int IntKind.i64 (0:Int)],Ar.c (D.int IntKind.i64 (M.first [M.casksErr (Enc.list eC l.length (Enc.F eC l)),M.checkSample s,M.unl (decide (M.volumes (Enc.list eC l.length (Enc.F eC l))≥s.vol)) (24:Int)]))]) (T.needs [Enc.Is eC l.length (Enc.F eC l),(1:Nat)≤l.length,l.length≤4,Enc.Is eI (List.length (M.shares (Enc.list eC l.length (Enc.F eC l)) (1:Nat))) (Enc.F eI (M.shares (Enc.list eC l.length (Enc.F eC l)) (1:Nat))),Enc.Is eI (List.length (M.far (Enc.list eC l.length (Enc.F eC l)))) (Enc.F eI (M.far (Enc.list eC l.length (Enc.F eC l)))),Enc.Is eK (List.length (M.limits (Enc.list eC l.length (Enc.F eC l)) s (1:Nat))) (Enc.F eK (M.limits (Enc.list eC l.length (Enc.F eC l)) s (1:Nat))),(1:Nat)≤List.length (M.shares (Enc.list eC l.length (Enc.F eC l)) (1:Nat)),List.length (M.shares (Enc.list eC l.length (Enc.F eC l)) (1:Nat))≤5,List.length (M.shares (Enc.list eC l.length (Enc.F eC l)) (1:Nat))=List.length (M.far (Enc.list eC l.length (Enc.F eC l))),List.length (M.limits (Enc.list eC l.length (Enc.F eC l)) s (1:Nat))≤1000,(∀(c:Cond),c∈Enc.list eK (List.length (M.limits (Enc.list eC l.length (Enc.F eC l)) s (1:Nat))) (Enc.F eK (M.limits (Enc.list eC l.length (Enc.F eC l)) s (1:Nat)))→List.length (Cond.coefs c)=List.length (M.shares (Enc.list eC l.length (Enc.F eC l)) (1:Nat))),(∀(set:List Cond),set.length+1=List.length (Enc.list eI (List.length (M.shares (Enc.list eC l.length (Enc.F eC l)) (1:Nat))) (Enc.F eI (M.shares (Enc.list eC l.length (Enc.F eC l)) (1:Nat))))→(∀(c:Cond),c∈set→c∈Enc.list eK (List.length (M.limits (Enc.list eC l.length (Enc.F eC l)) s (1:Nat))) (Enc.F eK (M.limits (Enc.list eC l.length (Enc.F eC l)) s (1:Nat))))→M.det (M.mat (Enc.list eI (List.length (M.shares (Enc.list eC l.length (Enc.F eC l)) (1:Nat))) (Enc.F eI (M.shares (Enc.list eC l.length (Enc.F eC l)) (1:Nat)))) set)≠(0:Int)→M.det (M.turned (M.mat (Enc.list eI (List.length (M.shares (Enc.list eC l.length (Enc.F eC l)) (1:Nat))) (Enc.F eI (M.shares (Enc.list eC l.length (Enc.F eC l)) (1:Nat)))) set))≠(0:Int)),(0:Int)≤(l.length:Int),(l.length:Int)=(l.length:Int),(l.length:Int)≤((M.Corner.pt (cOf (P26 (Enc.list eC l.length (Enc.F eC l)) s))).length:Int),Enc.Is eC l.length (Enc.F eC l),Enc.Is eI (Int.toNat (l.length:Int)) (Enc.F eI (M.Corner.pt (cOf (P26 (Enc.list eC l.length (Enc.F eC l)) s)))),List.length (Enc.list eI (Int.toNat (l.length:Int)) (Enc.F eI (M.Corner.pt (cOf (P26 (Enc.list eC l.length (Enc.F eC l)) s)))))≤List.length (Enc.list eC l.length (Enc.F eC l)),List.length (Enc.list eI (Int.toNat (l.length:Int)) (Enc.F eI (M.Corner.pt (cOf (P26 (Enc.list eC l.length (Enc.F eC l)) s)))))≤1000,Enc.Is eC l.length (Enc.F eC l),Enc.Is eI (Int.toNat (l.length:Int)) (Enc.F eI (M.Corner.pt (cOf (P26 (Enc.list eC l.length (Enc.F eC l)) s)))),Int.toNat (l.length:Int)≤l.length,Int.toNat (l.length:Int)≤1000,(M.sumP (fun(x:Cask)=>(1:Int)) (Enc.list eC l.length (Enc.F eC l)) (Enc.list eI (Int.toNat (l.length:Int)) (Enc.F eI (M.Corner.pt (cOf (P26 (Enc.list eC l.length (Enc.F eC l)) s)))))≠(0:Int)),Int.natAbs (M.away (Enc.list eC l.length (Enc.F eC l)) (Enc.list eI (Int.toNat (l.length:Int)) (Enc.F eI (M.Corner.pt (cOf (P26 (Enc.list eC l.length (Enc.F eC l)) s))))) s)<9223372036854775808,(Int.natAbs (M.sumP (fun(x:Cask)=>(1:Int)) (Enc.list eC l.length (Enc.F eC l)) (Enc.list eI (Int.toNat (l.length:Int)) (Enc.F eI (M.Corner.pt (cOf (P26 (Enc.list eC l.length (Enc.F eC l)) s))))))<9223372036854775808)] (T.ret [Ar.agg [D.int IntKind.i64 (M.Corner.den (cOf (P26 (Enc.list eC l.length (Enc.F eC l)) s))),D.sl false (Int.toNat (l.length:Int)) (1:Nat) (Enc.F eI (M.Corner.pt (cOf (P26 (Enc.list eC l.length (Enc.F eC l)) s))))],Ar.agg [D.int IntKind.i64 (M.told1 (M.away (Enc.list eC l.length (Enc.F eC l)) (Enc.list eI (Int.toNat (l.length:Int)) (Enc.F eI (M.Corner.pt (cOf (P26 (Enc.list eC l.length (Enc.F eC l)) s))))) s) (M.sumP (fun(x:Cask)=>(1:Int)) (Enc.list eC l.length (Enc.F eC l)) (Enc.list eI (Int.toNat (l.length:Int)) (Enc.F eI (M.Corner.pt (cOf (P26 (Enc.list eC l.length (Enc.F eC l)) s))))))),D.int IntKind.i64 (M.told2 (M.away (Enc.list eC l.length (Enc.F eC l)) (Enc.list eI (Int.toNat (l.length:Int)) (Enc.F eI (M.Corner.pt (cOf (P26 (Enc.list eC l.length (Enc.F eC l)) s))))) s) (M.sumP (fun(x:Cask)=>(1:Int)) (Enc.list eC l.length (Enc.F eC l)) (Enc.list eI (Int.toNat (l.length:Int)) (Enc.F eI (M.Corner.pt (cOf (P26 (Enc.list eC l.length (Enc.F eC l)) s)))))))],Ar.c (D.int IntKind.i64 (0:Int))])))
theorem t26(q_l:Bool)(l:List Cask)(sv l0 h0 l1 h1 l2 h2 l3 h3:Int):runFnX Try.prog G0 (lookS [v65,v49,v64,v80,v81,v82,v67,v83,v84,v85]) (fun _=>[]) [] 1 40 3 26 Try.f26 [.c (.sl q_l l.length 7 (eC.F l)),.agg [dI sv,dI l0,dI h0,dI l1,dI h1,dI l2,dI h2,dI l3,dI h3]] =
  tr26 l (⟨sv,⟨l0,h0⟩,⟨l1,h1⟩,⟨l2,h2⟩,⟨l3,h3⟩⟩:Sample):=by kernel_rfl
theorem w26(l:List Cask)(s:Sample)(hn:∀c,c∈l→c.nm.size≤1000000)(hl:l.length≤1000000)(h:NearOK l s):(tr26 l s).wp (fun rs=>rsEqv rs (resN (M.near l s))):=by
 have hP:cOf (P26 l s)=M.pNear l s:=by unfold P26 M.pNear;simp only[Enc.list_F]
 have z0:(nilD).eqv (dL []):=⟨(fun e=>by cases e),rfl,(fun h=>absurd h (Nat.lt_irrefl 0)),fun i j hi=>absurd hi (Nat.not_lt_zero i)⟩
 unfold tr26
 simp only[Enc.list_F,hP]
 refine⟨Enc.is_F _ _ _,hn,Enc.is_F _ _ _,hl,wp_br (fun hb=>?_) (fun hb=>?_)⟩
 ·have:M.near l s=⟨0,[],0,0,M.nearErr l s⟩:=by
   unfold M.near;rw[show(M.nearErr l s != 0)=true from hb];rfl
  rw[this]
  exact⟨⟨rfl,z0,trivial⟩,⟨rfl,rfl,trivial⟩,rfl,trivial⟩
 ·have hb':(M.nearErr l s != 0)=false:=hb
  have he:M.nearErr l s=0:=by simpa using hb'
  obtain⟨h1,h4,hco,htd,hx,c1,c2,c3⟩:=h he
  have hnear:M.near l s=M.nearC l s (M.pNear l s):=by
   unfold M.near;rw[hb'];rfl
  rw[hnear]
  have hnn:Int.toNat (l.length:Int)=l.length:=Int.toNat_natCast _
  have htake:=list_take hx
  have hlen:((M.pNear l s).pt.take l.length).length=l.length:=by simp[hx]
  simp only[hnn,htake,hlen]
  refine⟨Enc.is_F _ _ _,h1,h4,Enc.is_F _ _ _,Enc.is_F _ _ _,Enc.is_F _ _ _,by rw[shares_len];omega,by rw[shares_len];omega,by rw[shares_len,far_len],by rw[limits_len];omega,hco,htd,by omega,trivial,by omega,Enc.is_F _ _ _,Enc.is_F _ _ _,Nat.le_refl _,by omega,Enc.is_F _ _ _,Enc.is_F _ _ _,Nat.le_refl _,by omega,c1,c2,c3,?_⟩
  exact⟨⟨rfl,take_eqv hx,trivial⟩,⟨rfl,rfl,trivial⟩,rfl,trivial⟩
def dom26:DomF
 |[.c (.sl _ n_l st_l F_l),.agg [.int .i64 sv,.int .i64 l0,.int .i64 h0,.int .i64 l1,.int .i64 h1,.int .i64 l2,.int .i64 h2,.int .i64 l3,.int .i64 h3]]=>(match Nat.beq st_l 7 with
  |true=>some ([eC.Is n_l F_l,∀c,c∈(eC.list n_l F_l)→c.nm.size≤1000000,(eC.list n_l F_l).length≤1000000,NearOK (eC.list n_l F_l) ⟨sv,⟨l0,h0⟩,⟨l1,h1⟩,⟨l2,h2⟩,⟨l3,h3⟩⟩],resN (M.near (eC.list n_l F_l) ⟨sv,⟨l0,h0⟩,⟨l1,h1⟩,⟨l2,h2⟩,⟨l3,h3⟩⟩))
  |_=>none)
 |_=>none
def v26:Nat×Sm:=(26,fokSm dom26)
theorem C26:FOK Try.prog G0 gw 26 dom26:=by
 intro ags p r hd hp κ w xs hw hl hG hx
 unfold dom26 at hd
 split at hd
 ·rename_i q_l n_l st_l F_l sv l0 h0 l1 h1 l2 h2 l3 h3
  split at hd
  ·rename_i hst
   have g1:=hst
   have g1:=Nat.eq_of_beq_eq_true g1
   subst g1
   simp only[Option.some.injEq,Prod.mk.injEq]at hd
   obtain⟨rfl,rfl⟩:=hd
   obtain⟨hI_l,hp⟩:=hp
   have heq:agsEqv [.c (.sl q_l n_l 7 F_l),.agg [.int .i64 sv,.int .i64 l0,.int .i64 h0,.int .i64 l1,.int .i64 h1,.int .i64 l2,.int .i64 h2,.int .i64 l3,.int .i64 h3]] [.c (.sl q_l (eC.list n_l F_l).length 7 (eC.F (eC.list n_l F_l))),.agg [.int .i64 sv,.int .i64 l0,.int .i64 h0,.int .i64 l1,.int .i64 h1,.int .i64 l2,.int .i64 h2,.int .i64 l3,.int .i64 h3]]:=⟨eC.to id hI_l,Ag.eqv_refl _,trivial⟩
   have len_l:(eC.list n_l F_l).length=n_l:=eC.list_len
   generalize eC.list n_l F_l=l at *
   subst len_l
   exact fokX_fin mixed gw_stable (sl:=[v65,v49,v64,v80,v81,v82,v67,v83,v84,v85]) ⟨S65,S49,S64,S80,S81,S82,S67,S83,S84,S85,trivial⟩ Try.func26 hw hl hG hx heq rfl (t26 q_l l sv l0 h0 l1 h1 l2 h2 l3 h3) (w26 l _ hp.1 hp.2.1 hp.2.2.1)
  ·cases hd
 ·cases hd
theorem S26:SumOK Try.prog G0 gw 26 (fokSm dom26):=fok_sum Try.func26 rfl C26
end Go.Bl
end
section
namespace Go.Bl
open Go.V Go.Proofs
def exC:List Cask:=[⟨⟨#[100,114,121]⟩,100,10,0,0,0,0⟩,⟨⟨#[115,119,101,101,116]⟩,100,30,100,0,0,0⟩,⟨⟨#[114,105,99,104]⟩,50,20,200,0,0,0⟩]
def exS(lo hi:Int):Sample:=⟨100,⟨lo,hi⟩,⟨0,1000⟩,⟨0,1000⟩,⟨0,1000⟩⟩
end Go.Bl
end
