/- The engine, part 9: code, and a function whose result holds no address. -/
import Derived.Test.YtcgdcocmnmkhlaaDoorE8
namespace Go.Eng
open Go.RowKit (Below)

/-- A tree of the ways: a test on a bool, a condition that is owed, an end. -/
inductive T (α : Type) where
  | ret (x : α)
  | br (b : Bool) (t e : T α)
  | need (p : Prop) (t : T α)
  | fail

def T.wp {α : Type} (Q : α → Prop) : T α → Prop
  | .ret x => Q x
  | .br b t e => (b = true → t.wp Q) ∧ (b = false → e.wp Q)
  | .need p t => p ∧ t.wp Q
  | .fail => False

def T.bind {α β : Type} (f : α → T β) : T α → T β
  | .ret x => f x
  | .br b t e => .br b (t.bind f) (e.bind f)
  | .need p t => .need p (t.bind f)
  | .fail => .fail

def T.needs {α : Type} : List Prop → T α → T α
  | [], t => t
  | p :: l, t => .need p (T.needs l t)
theorem T.wp_needs {α : Type} {Q : α → Prop} {t : T α} : ∀ {l : List Prop}, (T.needs l t).wp Q → All l ∧ t.wp Q
  | [], h => ⟨trivial, h⟩
  | _ :: _, h => ⟨⟨h.1, (T.wp_needs h.2).1⟩, (T.wp_needs h.2).2⟩

theorem T.wp_bind {α β : Type} {f : α → T β} {Q : β → Prop} : ∀ {t : T α}, (t.bind f).wp Q → t.wp (fun x => (f x).wp Q) := by
  intro t
  induction t with
  | ret x => exact id
  | br b t e iht ihe => exact fun h => ⟨fun hb => iht (h.1 hb), fun hb => ihe (h.2 hb)⟩
  | need p t ih => exact fun h => ⟨h.1, ih h.2⟩
  | fail => exact id

inductive Ex where
  | normal
  | exit (id : Nat)
  | ret

abbrev St3 := Ex × Nat × S

def setO (orc : Nat → Option Bool) (k : Nat) (b : Bool) : Nat → Option Bool := upd orc k (some b)

section
variable (P : Program) (G n0 N : Nat) (sg : FuncId → Option Sm)

def rtree (ops : Array Oper) (draw : Bool) (c : Nat) (s : S) : Nat → (Nat → Option Bool) → T St3
  | 0, _ => .fail
  | fuel + 1, orc =>
    match rrun P G n0 N sg ops orc ops.toList 0 c s with
    | .done L s' c' p => (match !draw || anyOk ops L with | true => T.needs p (.ret (.normal, c', s')) | false => .fail)
    | .ask k b => .br b (rtree ops draw c s fuel (setO orc k true)) (rtree ops draw c s fuel (setO orc k false))
    | .fail => .fail

def loopN (f : Nat → S → T St3) : Nat → Nat → S → T St3
  | 0, _, _ => .fail
  | n + 1, c, s => (f c s).bind fun r => match r with
    | (.normal, c', s') => loopN f n c' s'
    | r => .ret r

def exec (fuel : Nat) : Code → Nat → S → T St3
  | .skip, c, s => .ret (.normal, c, s)
  | .region _ ops draw, c, s => rtree P G n0 N sg ops draw c s fuel (fun _ => none)
  | .seq x y, c, s => (exec fuel x c s).bind fun r => match r with
    | (.normal, c', s') => exec fuel y c' s'
    | r => .ret r
  | .cond x y z, c, s => (match look G s x with
    | some (.a (.c (.lit true))) => exec fuel y c s
    | some (.a (.c (.lit false))) => exec fuel z c s
    | some (.a (.c (.bool b))) => .br b (exec fuel y c s) (exec fuel z c s)
    | _ => .fail)
  | .block id x, c, s => (exec fuel x c s).bind fun r => match r with
    | (.exit i, c', s') => (match Nat.beq i id with | true => .ret (.normal, c', s') | false => .ret (.exit i, c', s'))
    | r => .ret r
  | .loop x, c, s => loopN (exec fuel x) fuel c s
  | .exit id, c, s => .ret (.exit id, c, s)
  | .ret, c, s => .ret (.ret, c, s)
  | _, _, _ => .fail

end

section
variable {P : Program} {G n0 N : Nat} {sg : FuncId → Option Sm} {gw : World → Prop} {w0 : World}

/-- What the ways' ends say of frame and world. -/
def CP (w0 : World) (n0 N : Nat) (ρ : Ren) (R : St3 → Prop) : Exit → Act → World → Prop
  | .normal, a, w => ∃ c s ρ', R (.normal, c, s) ∧ Rel w0 n0 N ρ' s a w ∧ ρ.le ρ'
  | .exit id, a, w => ∃ c s ρ', R (.exit id, c, s) ∧ Rel w0 n0 N ρ' s a w ∧ ρ.le ρ'
  | .ret, a, w => ∃ c s ρ', R (.ret, c, s) ∧ Rel w0 n0 N ρ' s a w ∧ ρ.le ρ'
  | _, _, _ => False

theorem CP.mono {ρ ρ1 : Ren} {R R' : St3 → Prop} (hle : ρ.le ρ1) (h : ∀ r, R r → R' r) : ∀ e a w, CP w0 n0 N ρ1 R e a w → CP w0 n0 N ρ R' e a w := by
  intro e a w hc
  cases e <;> simp only [CP] at hc ⊢
  all_goals (try exact hc)
  all_goals (obtain ⟨c, s, ρ', h1, h2, h3⟩ := hc; exact ⟨c, s, ρ', h _ h1, h2, Ren.le_trans hle h3⟩)

structure Env (P : Program) (G : Nat) (sg : FuncId → Option Sm) (gw : World → Prop) : Prop where
  mixed : P.follows .mixedOrders = true
  sums : ∀ f σ, sg f = some σ → SumOK P gw f σ
  stable : ∀ w w', gw w → Below w.heap.size w w' → gw w'

theorem Rel.drew {ρ : Ren} {s : S} {a : Act} {w : World} (h : Rel w0 n0 N ρ s a w) : Rel w0 n0 N ρ s a { w with drawn := w.drawn + 1 } where
  sz := h.sz
  df := h.df
  bel := h.bel.trans ⟨rfl, rfl, rfl, Nat.le_refl _, fun _ _ => rfl⟩
  tm := h.tm
  dom := h.dom
  hp := by
    intro m k hk
    obtain ⟨b, h1, h2, h3, h4⟩ := h.hp m k hk
    exact ⟨b, h1, h2, Blk.rel_mono (w := w) (Ren.le_refl _) rfl h3, h4⟩
  inj := h.inj

theorem rtree_sound (E : Env P G sg gw) (hgw0 : gw w0) {id : Nat} {ops : Array Oper} {draw : Bool} {c : Nat} {s : S} {R : St3 → Prop} {ρ : Ren} {a : Act} {w : World} (hrel : Rel w0 n0 N ρ s a w) (hgl : ∀ g, g < G → ρ g = some (g, 0)) :
    ∀ {fuel : Nat} {orc : Nat → Option Bool}, (rtree P G n0 N sg ops draw c s fuel orc).wp R → (Code.region id ops draw).wp P (CP w0 n0 N ρ R) a w := by
  intro fuel
  induction fuel with
  | zero => intro orc h; exact h.elim
  | succ fuel ih =>
    intro orc h
    simp only [rtree] at h
    split at h
    · rename_i L s' c' p hr
      split at h
      · rename_i hok
        obtain ⟨hp, hR⟩ := T.wp_needs h
        have hQ : ∀ a' w' ρ', Rel w0 n0 N ρ' s' a' w' → ρ.le ρ' → CP w0 n0 N ρ R .normal a' w' := fun a' w' ρ' h1 h2 => ⟨c', s', ρ', hR, h1, h2⟩
        cases draw with
        | false => exact wp_region (region_seq E.sums E.stable hgw0 hr hp hrel hgl hQ)
        | true => exact wp_region_any E.mixed (region_any E.sums E.stable hgw0 hr hp (by simpa using hok) hrel.drew hgl hQ)
      · exact h.elim
    · rename_i k b _
      cases b with
      | true => exact ih (h.1 rfl)
      | false => exact ih (h.2 rfl)
    · exact h.elim

theorem exec_sound (E : Env P G sg gw) (hgw0 : gw w0) (fuel : Nat) : ∀ (code : Code) {c : Nat} {s : S} {R : St3 → Prop} {ρ : Ren} {a : Act} {w : World}, Rel w0 n0 N ρ s a w → (∀ g, g < G → ρ g = some (g, 0)) →
    (exec P G n0 N sg fuel code c s).wp R → code.wp P (CP w0 n0 N ρ R) a w := by
  intro code
  induction code with
  | skip => intro c s R ρ a w hrel hgl h; exact wp_skip ⟨c, s, ρ, h, hrel, Ren.le_refl _⟩
  | region id ops draw => intro c s R ρ a w hrel hgl h; exact rtree_sound E hgw0 hrel hgl h
  | seq x y ihx ihy =>
    intro c s R ρ a w hrel hgl h
    simp only [exec] at h
    have h1 := T.wp_bind h
    refine wp_seq (wp_mono (ihx hrel hgl h1) ?_)
    intro e a' w' hc
    cases e <;> simp only [CP, Exit.then] at hc ⊢
    case normal =>
      obtain ⟨c', s', ρ', hr, hrel', hle⟩ := hc
      exact wp_mono (ihy hrel' (fun g hg => hle _ _ (hgl g hg)) hr) (CP.mono hle (fun _ h => h))
    case exit id => exact hc
    case ret => exact hc
  | cond x y z ihy ihz =>
    intro c s R ρ a w hrel hgl h
    simp only [exec] at h
    have hview : View G ρ s a w := ⟨fun t v ht => (hrel.tm t v ht).2, fun m k hk => by obtain ⟨b, h1, h2, h3, _⟩ := hrel.hp m k hk; exact ⟨b, h1, h2, h3⟩, hgl⟩
    split at h
    · rename_i hl; exact wp_cond_true (look_rel hview hl) (ihy hrel hgl h)
    · rename_i hl; exact wp_cond_false (look_rel hview hl) (ihz hrel hgl h)
    · rename_i b hl
      exact wp_cond_split (look_rel hview hl) (fun hb => ihy hrel hgl (h.1 hb)) (fun hb => ihz hrel hgl (h.2 hb))
    · exact h.elim
  | block id x ih =>
    intro c s R ρ a w hrel hgl h
    simp only [exec] at h
    have h1 := T.wp_bind h
    refine wp_block (wp_mono (ih hrel hgl h1) ?_)
    intro e a' w' hc
    cases e <;> simp only [CP, Exit.inBlock] at hc ⊢
    case normal => exact hc
    case ret => exact hc
    case exit i =>
      obtain ⟨c', s', ρ', hr, hrel', hle⟩ := hc
      split at hr
      · rename_i hb
        have := Nat.eq_of_beq_eq_true hb
        rw [if_pos this]
        exact ⟨c', s', ρ', hr, hrel', hle⟩
      · rename_i hb
        rw [if_neg (by intro e; subst e; simp at hb)]
        exact ⟨c', s', ρ', hr, hrel', hle⟩
  | loop x ih =>
    intro c s R ρ a w hrel hgl h
    simp only [exec] at h
    have key : ∀ n c s, (loopN (exec P G n0 N sg fuel x) n c s).wp R → ∀ ρ1 a w, Rel w0 n0 N ρ1 s a w → ρ.le ρ1 → Code.rounds P x (CP w0 n0 N ρ R) n a w := by
      intro n
      induction n with
      | zero => intro c s h; exact h.elim
      | succ n ihn =>
        intro c s h ρ1 a w hrel1 hle1
        simp only [loopN] at h
        have h1 := T.wp_bind h
        rw [rounds_succ]
        refine wp_mono (ih hrel1 (fun g hg => hle1 _ _ (hgl g hg)) h1) ?_
        intro e a' w' hc
        cases e <;> simp only [CP, Exit.then] at hc ⊢
        case normal =>
          obtain ⟨c', s', ρ', hr, hrel', hle⟩ := hc
          exact ihn c' s' hr ρ' a' w' hrel' (Ren.le_trans hle1 hle)
        case exit id => obtain ⟨c', s', ρ', hr, hrel', hle⟩ := hc; exact ⟨c', s', ρ', hr, hrel', Ren.le_trans hle1 hle⟩
        case ret => obtain ⟨c', s', ρ', hr, hrel', hle⟩ := hc; exact ⟨c', s', ρ', hr, hrel', Ren.le_trans hle1 hle⟩
    exact wp_loop_rounds fuel (key fuel c s h ρ a w hrel (Ren.le_refl _))
  | exit id => intro c s R ρ a w hrel hgl h; exact wp_exit ⟨c, s, ρ, h, hrel, Ren.le_refl _⟩
  | ret => intro c s R ρ a w hrel hgl h; exact wp_ret ⟨c, s, ρ, h, hrel, Ren.le_refl _⟩
  | _ => intro c s R ρ a w hrel hgl h; exact h.elim

end

section
variable (P : Program)

/-- A result. -/
def resA (s : S) : ResultVar → Option A
  | .tmp t => (match s.tm t with | some (.a y) => some y | _ => none)
  | .cell t ty => (match s.tm t, P.underlying ty, P.info? ty with
    | some (.a (.c (.ptr m off))), some d, some i => (match s.hp m with
      | some k => (match isAggD d with
        | true => (match readN k off i.size with | some cs => some (.agg cs) | none => none)
        | false => (match k.cell off with | some c => some (.c c) | none => none))
      | none => none)
    | _, _, _ => none)
def resL (s : S) : List ResultVar → Option (List A)
  | [] => some []
  | r :: l => match resA P s r, resL s l with | some a, some k => some (a :: k) | _, _ => none
def resV : List A → V
  | [x] => .a x
  | xs => .tup xs

/-- What 'results' reads of one result. -/
def resOne (a : Act) (r : ResultVar) : Sem Value :=
  match r with
  | .tmp t => pure (a.tmps.getD t undef)
  | .cell c t => do loadVar t (← asAddr (a.tmps.getD c undef))
theorem results_eq (fn : Func) (a : Act) : results fn a.tmps = (do let vs ← fn.results.mapM (resOne a); pure (if h : vs.size = 1 then vs[0] else .tuple vs)) := by
  unfold results resOne
  rfl

theorem resA_sound {G : Nat} {ρ : Ren} {s : S} {a : Act} {w : World} (h : View G ρ s a w) {r : ResultVar} {p : A} (e : resA P s r = some p) :
    ∃ x, (resOne a r).run P w = .ok x w ∧ p.rel ρ x := by
  unfold resOne
  cases r with
  | tmp t =>
    simp only [resA] at e
    split at e
    · rename_i y hy
      simp only [Option.some.injEq] at e; subst e
      exact ⟨_, rfl, h.tm t _ hy⟩
    · cases e
  | cell t ty =>
    simp only [resA] at e
    split at e
    · rename_i m off d i hx hd hi
      obtain ⟨b, hb, hv⟩ := h.tm t _ hx
      split at e
      · rename_i k hk
        obtain ⟨b', hb', hlt, hrel⟩ := h.hp m k hk
        simp only at hb
        rw [hb] at hb'; cases hb'
        split at e
        · rename_i hg
          split at e
          · rename_i cs hcs
            simp only [Option.some.injEq] at e; subst e
            obtain ⟨xs, hf, hl, hc⟩ := readN_sound hrel hcs
            refine ⟨.agg xs.toArray, ?_, xs, hf, rfl⟩
            simp only [hv, asAddr, Sem.run_bind, Sem.run_pure, Result.andThen_ok, run_loadVar_agg hd hi hg hl hc]
          · cases e
        · rename_i hg
          split at e
          · rename_i c hc
            simp only [Option.some.injEq] at e; subst e
            obtain ⟨z, hz, hcell⟩ := Blk.rel_cell hrel hc
            refine ⟨z, ?_, hz⟩
            simp only [hv, asAddr, Sem.run_bind, Sem.run_pure, Result.andThen_ok, run_loadVar_one hd hg hcell]
          · cases e
      · cases e
    · cases e

theorem resL_sound {G : Nat} {ρ : Ren} {s : S} {a : Act} {w : World} (h : View G ρ s a w) : ∀ {l : List ResultVar} {ps : List A}, resL P s l = some ps →
    ∃ xs : List Value, (l.mapM (resOne a)).run P w = .ok xs w ∧ F2 (A.rel ρ) ps xs := by
  intro l
  induction l with
  | nil => intro ps e; simp [resL] at e; subst e; exact ⟨[], rfl, .nil⟩
  | cons r l ih =>
    intro ps e
    simp only [resL] at e
    split at e
    · rename_i p k hp hk
      simp only [Option.some.injEq] at e; subst e
      obtain ⟨x, hx, hr⟩ := resA_sound P h hp
      obtain ⟨xs, hxs, hrs⟩ := ih hk
      refine ⟨x :: xs, ?_, .cons hr hrs⟩
      rw [List.mapM_cons, Sem.run_bind, hx, Result.andThen_ok, Sem.run_bind, hxs]
      rfl
    · cases e

theorem results_sound {G : Nat} {ρ : Ren} {s : S} {a : Act} {w : World} (h : View G ρ s a w) {fn : Func} {ps : List A} (e : resL P s fn.results.toList = some ps) :
    ∃ x, (results fn a.tmps).run P w = .ok x w ∧ (resV ps).rel ρ x := by
  obtain ⟨xs, hx, hr⟩ := resL_sound P h e
  rw [results_eq, Array.mapM_eq_mapM_toList]
  simp only [Sem.run_bind, Sem.run_map, hx, Result.andThen_ok, Sem.run_pure]
  cases hr with
  | nil => exact ⟨_, rfl, [], .nil, by simp⟩
  | cons r0 rs =>
    cases rs with
    | nil => exact ⟨_, rfl, r0⟩
    | cons r1 rs => exact ⟨_, rfl, _, .cons r0 (.cons r1 rs), by simp⟩

/-- Values of results without addresses. -/
def valA : List A → Option (List Value)
  | [] => some []
  | a :: l => match a.val, valA l with | some v, some r => some (v :: r) | _, _ => none
def valR : List A → Option Value
  | [x] => x.val
  | xs => match valA xs with | some l => some (.tuple l.toArray) | none => none

theorem valA_rel {ρ : Ren} : ∀ {ps : List A} {l xs : List Value}, valA ps = some l → F2 (A.rel ρ) ps xs → xs = l := by
  intro ps
  induction ps with
  | nil => intro l xs h r; cases r; simp [valA] at h; exact h.symm
  | cons c ps ih =>
    intro l xs h r
    cases r with
    | cons r0 rs =>
      simp only [valA] at h
      split at h
      · rename_i v r' hv hr
        simp only [Option.some.injEq] at h; subst h
        rw [A.val_rel hv r0, ih hr rs]
      · cases h

theorem valR_rel {ρ : Ren} {ps : List A} {v x : Value} (h : valR ps = some v) (r : (resV ps).rel ρ x) : x = v := by
  match ps, h, r with
  | [p], h, r => exact A.val_rel h r
  | [], h, r =>
    obtain ⟨ys, hf, rfl⟩ := r
    cases hf
    simp [valR, valA] at h; exact h
  | p :: q :: l, h, r =>
    obtain ⟨ys, hf, rfl⟩ := r
    simp only [valR] at h
    split at h
    · rename_i l' hl
      simp only [Option.some.injEq] at h; subst h
      rw [valA_rel hl hf]
    · cases h

variable (G n0 : Nat) (sg : FuncId → Option Sm)

def args0 (args : List A) (bs : List Blk) : S := ⟨fun t => match args[t]? with | some a => some (.a a) | none => none, fun m => bs[m]?⟩

/-- A function's ways to results without addresses. -/
def runFn (fuel : Nat) (fn : Func) (args : List A) (bs : List Blk) : T Value :=
  match fn.body with
  | some code => (exec P G n0 fn.ntmps sg fuel code n0 (args0 args bs)).bind fun r => match r with
    | (.exit _, _, _) => .fail
    | (_, _, s) => (match resL P s fn.results.toList with
      | some ps => (match valR ps with | some v => .ret v | none => .fail)
      | none => .fail)
  | none => .fail

end

/-- A FUNCTION WHOSE RESULT HOLDS NO ADDRESS. bs: the blocks that were there (names 0, 1, ..), at_: where they lie. -/
theorem fn_sound {P : Program} {G : Nat} {sg : FuncId → Option Sm} {gw : World → Prop} (E : Env P G sg gw) {f : FuncId} {fn : Func} (hf : P.funcs[f]? = some fn) {fuel : Nat} {args : List A} {bs : List Blk} {at_ : List Nat} {xs : List Value} {w : World} {Q : Value → Prop}
    (hgw : gw w) (hx : F2 (A.rel fun m => (at_[m]?).map fun b => (b, 0)) args xs) (hlen : xs.length ≤ fn.ntmps) (hbl : at_.length = bs.length)
    (hbs : ∀ (m : Nat) (k : Blk), bs[m]? = some k → ∃ b, at_[m]? = some b ∧ b < w.heap.size ∧ k.rel (fun m => (at_[m]?).map fun b => (b, 0)) b w) (hG : ∀ g : Nat, g < G → at_[g]? = some g)
    (h : (runFn P G bs.length sg fuel fn args bs).wp Q) : Calls P f xs.toArray w (fun e w' => ∃ x, e = .returned x ∧ Q x ∧ Below w.heap.size w w') := by
  unfold runFn at h
  split at h
  · rename_i code hb
    refine calls_of_wp hf hb ?_
    have hrel : Rel w bs.length fn.ntmps (fun m => (at_[m]?).map fun b => (b, 0)) (args0 args bs) { tmps := xs.toArray ++ Array.replicate (fn.ntmps - xs.toArray.size) undef, defers := [] } w := by
      refine ⟨by simp; omega, rfl, Below.refl _ _, ?_, ?_, ?_, ?_⟩
      · intro t v ht
        simp only [args0] at ht
        split at ht
        · rename_i a ha
          simp only [Option.some.injEq] at ht; subst ht
          obtain ⟨x, hxt, hr⟩ := f2_get hx ha
          have hlt : t < xs.length := by
            rcases Nat.lt_or_ge t xs.length with h | h
            · exact h
            · rw [List.getElem?_eq_none h] at hxt; cases hxt
          refine ⟨by omega, ?_⟩
          rw [Array.getD_eq_getD_getElem?, Array.getElem?_append, if_pos (by simpa using hlt)]
          simp only [List.getElem?_toArray, hxt, Option.getD_some]
          exact hr
        · cases ht
      · intro m hm
        simp only [args0] at hm
        have : at_[m]? = none := by
          rw [List.getElem?_eq_none_iff] at hm ⊢; omega
        simp [this]
      · intro m k hm
        simp only [args0] at hm
        obtain ⟨b, h1, h2, h3⟩ := hbs m k hm
        have hlt : m < bs.length := by
          rcases Nat.lt_or_ge m bs.length with h | h
          · exact h
          · rw [List.getElem?_eq_none h] at hm; cases hm
        exact ⟨(b, 0), by simp [h1], h2, h3, fun hge => by omega, fun _ => h2⟩
      · intro m m' b b' hm hm' hn
        exfalso
        have : at_[m]? = none := by rw [List.getElem?_eq_none_iff]; omega
        simp [this] at hm
    have hgl : ∀ g, g < G → (at_[g]?).map (fun b => (b, 0)) = some (g, 0) := fun g hg => by rw [hG g hg]; rfl
    refine wp_mono (exec_sound E hgw fuel code hrel hgl (T.wp_bind h)) ?_
    have fin : ∀ (s : S) (ρ' : Ren) (a' : Act) (w' : World), Rel w bs.length fn.ntmps ρ' s a' w' → Ren.le (fun m => (at_[m]?).map fun b => (b, 0)) ρ' →
        T.wp Q (match resL P s fn.results.toList with | some ps => (match valR ps with | some v => T.ret v | none => T.fail) | none => T.fail) →
        a'.defers = [] ∧ ∃ v, (results fn a'.tmps).run P w' = .ok v w' ∧ ∃ x, Ending.returned v = .returned x ∧ Q x ∧ Below w.heap.size w w' := by
      intro s ρ' a' w' hrel' hle hr
      split at hr
      · rename_i ps hps
        split at hr
        · rename_i v hv
          have hview : View G ρ' s a' w' := ⟨fun t v ht => (hrel'.tm t v ht).2, fun m k hk => by obtain ⟨b, h1, h2, h3, _⟩ := hrel'.hp m k hk; exact ⟨b, h1, h2, h3⟩, fun g hg => hle _ _ (hgl g hg)⟩
          obtain ⟨x, hx1, hx2⟩ := results_sound P hview hps
          have := valR_rel hv hx2
          subst this
          exact ⟨hrel'.df, x, hx1, x, rfl, hr, hrel'.bel⟩
        · exact hr.elim
      · exact hr.elim
    intro e a' w' hc
    cases e <;> simp only [CP, bodyPost] at hc ⊢
    case normal => obtain ⟨c', s', ρ', hr, hrel', hle⟩ := hc; exact fin s' ρ' a' w' hrel' hle hr
    case ret => obtain ⟨c', s', ρ', hr, hrel', hle⟩ := hc; exact fin s' ρ' a' w' hrel' hle hr
    case exit id => obtain ⟨c', s', ρ', hr, hrel', hle⟩ := hc; exact hr.elim
  · exact h.elim
end Go.Eng
