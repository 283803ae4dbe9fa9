/- The engine, part 10: summaries of functions over plain values. -/
import Derived.Test.YtcgdcocmnmkhlaaDoorE9
namespace Go.Eng
open Go.RowKit (Below)

/-- A table of summaries. -/
def lookS : List (Nat × Sm) → FuncId → Option Sm
  | [], _ => none
  | (g, σ) :: l, f => match Nat.beq g f with | true => some σ | false => lookS l f
def AllS (P : Program) (gw : World → Prop) : List (Nat × Sm) → Prop
  | [] => True
  | (f, σ) :: l => SumOK P gw f σ ∧ AllS P gw l
theorem lookS_ok {P : Program} {gw : World → Prop} : ∀ {l : List (Nat × Sm)}, AllS P gw l → ∀ f σ, lookS l f = some σ → SumOK P gw f σ := by
  intro l
  induction l with
  | nil => intro _ f σ h; simp [lookS] at h
  | cons x l ih =>
    intro hl f σ h
    obtain ⟨g, τ⟩ := x
    simp only [lookS] at h
    split at h
    · rename_i hb
      have := Nat.eq_of_beq_eq_true hb
      subst this
      simp only [Option.some.injEq] at h; subst h
      exact hl.1
    · exact ih hl.2 f σ h

/-- Arguments as one list of cells: none: a cell, some n: a struct or array of n cells. -/
def flatArgs : List (Option Nat) → List A → Option (List Value)
  | [], [] => some []
  | none :: sh, .c x :: l => (match x.val, flatArgs sh l with | some v, some r => some (v :: r) | _, _ => none)
  | some n :: sh, .agg cs :: l => (match valL cs, flatArgs sh l with
    | some vs, some r => (match Nat.beq vs.length n with | true => some (vs ++ r) | false => none)
    | _, _ => none)
  | _, _ => none
def unflat : List (Option Nat) → List Value → List Value
  | [], _ => []
  | none :: sh, v :: vs => v :: unflat sh vs
  | none :: _, [] => []
  | some n :: sh, vs => .agg (vs.take n).toArray :: unflat sh (vs.drop n)

theorem flatArgs_rel {ρ : Ren} : ∀ {sh : List (Option Nat)} {args : List A} {vs xs : List Value}, flatArgs sh args = some vs → F2 (A.rel ρ) args xs → xs = unflat sh vs
  | [], [], vs, xs, h, r => by cases r; simp [unflat]
  | none :: sh, .c x :: l, vs, xs, h, r => by
    cases r with
    | cons r0 rs =>
      simp only [flatArgs] at h
      split at h
      · rename_i v r' hv hr
        simp only [Option.some.injEq] at h; subst h
        rw [flatArgs_rel hr rs]
        simp only [unflat]
        rw [C.val_rel hv r0]
      · cases h
  | some n :: sh, .agg cs :: l, vs, xs, h, r => by
    cases r with
    | cons r0 rs =>
      simp only [flatArgs] at h
      split at h
      · rename_i us r' hv hr
        split at h
        · rename_i hn
          have hn' := Nat.eq_of_beq_eq_true hn
          simp only [Option.some.injEq] at h; subst h
          obtain ⟨ys, hf, rfl⟩ := r0
          rw [flatArgs_rel hr rs, valL_rel hv hf]
          simp [unflat, ← hn']
        · cases h
      · cases h
  | [], _ :: _, _, _, h, _ => by simp [flatArgs] at h
  | none :: _, [], _, _, h, _ => by simp [flatArgs] at h
  | some _ :: _, [], _, _, h, _ => by simp [flatArgs] at h
  | none :: _, .agg _ :: _, _, _, h, _ => by simp [flatArgs] at h
  | some _ :: _, .c _ :: _, _, _, h, _ => by simp [flatArgs] at h

abbrev Dom := List Value → Option (List Prop × V)

def flatSm (sh : List (Option Nat)) (dom : Dom) : Sm := fun args _ _ =>
  match flatArgs sh args with
  | some vs => (match dom vs with | some (p, v) => some (p, v, []) | none => none)
  | none => none

/-- A function's contract over plain values. -/
def FlatOK (P : Program) (gw : World → Prop) (f : FuncId) (sh : List (Option Nat)) (dom : Dom) : Prop :=
  ∀ vs p v, dom vs = some (p, v) → All p → ∀ w, gw w → Calls P f (unflat sh vs).toArray w (fun e w' => ∃ x, e = .returned x ∧ (∀ ρ, v.rel ρ x) ∧ Below w.heap.size w w')

def isGo (fn : Func) : Bool := !(fn.name == "runtime.NumGoroutine") && !fn.body.isNone
theorem enter_of {P : Program} {f : FuncId} {fn : Func} (h : P.funcs[f]? = some fn) (hg : isGo fn = true) (args : Array Value) (w : World) : (callFunc f args).run P w = .ok (.enter f args) w := by
  unfold isGo at hg
  simp only [Bool.and_eq_true, Bool.not_eq_true'] at hg
  exact run_callFunc h hg.1 hg.2 args w

theorem ends_flat {ρ : Ren} {c : Nat} {v : V} {w : World} {e : Ending} {w' : World} (h : ∃ x, e = .returned x ∧ (∀ ρ, v.rel ρ x) ∧ Below w.heap.size w w') : Ends ρ c v [] w e w' := by
  obtain ⟨x, rfl, hv, hb⟩ := h
  exact ⟨ρ, x, rfl, Ren.le_refl _, fun m hm _ => hm, hv ρ, hb, fun i k hi => by simp at hi, fun i j b b' hi => by simp at hi⟩

theorem flat_sum {P : Program} {gw : World → Prop} {f : FuncId} {fn : Func} {sh : List (Option Nat)} {dom : Dom} (hf : P.funcs[f]? = some fn) (hg : isGo fn = true) (h : FlatOK P gw f sh dom) : SumOK P gw f (flatSm sh dom) where
  enter := enter_of hf hg
  loc := fun _ _ _ _ _ => rfl
  ok := by
    intro args c hp p v N hs hpr ρ xs w hgw hx _ _
    unfold flatSm at hs
    split at hs
    · rename_i vs hvs
      split at hs
      · rename_i p' v' hd
        simp only [Option.some.injEq, Prod.mk.injEq] at hs
        obtain ⟨rfl, rfl, rfl⟩ := hs
        rw [flatArgs_rel hvs hx]
        exact (h vs _ _ hd hpr w hgw).mono fun e w' he => ends_flat he
      · cases hs
    · cases hs

/-- A summary that reads one slice of plain cells, the whole of its block. -/
def sliceSm (dom : Dom) : Sm := fun args hp _ =>
  match args with
  | [.c (.sl m 0 n n')] =>
    match hp m with
    | some (.known _ cs) =>
      match valL cs with
      | some vs =>
        match Nat.beq vs.length n && Nat.beq n n' with
        | true => (match dom vs with | some (p, v) => some (p, v, []) | none => none)
        | false => none
      | none => none
    | _ => none
  | _ => none

def SliceOK (P : Program) (gw : World → Prop) (f : FuncId) (dom : Dom) : Prop :=
  ∀ vs p v, dom vs = some (p, v) → All p → ∀ w b e, gw w → b < w.heap.size → w.heap[b]? = some (.cells vs.toArray e (0, 0)) →
    Calls P f #[.slice (some ⟨b, 0, none⟩) vs.length vs.length] w (fun e w' => ∃ x, e = .returned x ∧ (∀ ρ, v.rel ρ x) ∧ Below w.heap.size w w')

theorem slice_sum {P : Program} {gw : World → Prop} {f : FuncId} {fn : Func} {dom : Dom} (hf : P.funcs[f]? = some fn) (hg : isGo fn = true) (h : SliceOK P gw f dom) : SumOK P gw f (sliceSm dom) where
  enter := enter_of hf hg
  loc := by
    intro args c hp hp' hm
    unfold sliceSm
    split
    · rename_i m n n'
      rw [hm m (by simp [namesL, A.names])]
    · rfl
  ok := by
    intro args c hp p v N hs hpr ρ xs w hgw hx hhp _
    unfold sliceSm at hs
    split at hs
    · rename_i m n n'
      split at hs
      · rename_i e cs hm
        split at hs
        · rename_i vs hvs
          split at hs
          · rename_i hn
            simp only [Bool.and_eq_true] at hn
            have h1 := Nat.eq_of_beq_eq_true hn.1
            have h2 := Nat.eq_of_beq_eq_true hn.2
            subst h2
            split at hs
            · rename_i p' v' hd
              simp only [Option.some.injEq, Prod.mk.injEq] at hs
              obtain ⟨rfl, rfl, rfl⟩ := hs
              cases hx with
              | cons r0 rs =>
                cases rs
                obtain ⟨b, hb, rfl⟩ := r0
                obtain ⟨b', hb', hlt, ys, hys, hheap⟩ := hhp m _ hm
                rw [hb] at hb'; cases hb'
                rw [valL_rel hvs hys] at hheap
                have := h vs _ _ hd hpr w b.1 e hgw hlt hheap
                rw [h1] at this
                exact this.mono fun e w' he => ends_flat he
            · cases hs
          · cases hs
        · cases hs
      · cases hs
    · cases hs

/-- Arguments that are plain. -/
def C.pv : C → Option Value
  | .op _ => none
  | c => c.val
def pvL : List C → Option (List Value)
  | [] => some []
  | c :: l => match c.pv, pvL l with | some v, some r => some (v :: r) | _, _ => none
def A.pv : A → Option Value
  | .c x => x.pv
  | .agg cs => match pvL cs with | some l => some (.agg l.toArray) | none => none
def pvA : List A → Option (List Value)
  | [] => some []
  | c :: l => match c.pv, pvA l with | some v, some r => some (v :: r) | _, _ => none

theorem C.pv_rel {ρ : Ren} {c : C} {v : Value} (h : c.pv = some v) : c.rel ρ v := by
  cases c <;> simp only [C.pv, C.val, Option.some.injEq, reduceCtorEq] at h <;> subst h <;> rfl
theorem pvL_rel {ρ : Ren} : ∀ {cs : List C} {l : List Value}, pvL cs = some l → F2 (C.rel ρ) cs l := by
  intro cs
  induction cs with
  | nil => intro l h; simp [pvL] at h; subst h; exact .nil
  | cons c cs ih =>
    intro l h
    simp only [pvL] at h
    split at h
    · rename_i v r hv hr
      simp only [Option.some.injEq] at h; subst h
      exact .cons (C.pv_rel hv) (ih hr)
    · cases h
theorem A.pv_rel {ρ : Ren} {c : A} {v : Value} (h : c.pv = some v) : c.rel ρ v := by
  cases c with
  | c x => exact C.pv_rel h
  | agg cs =>
    simp only [A.pv] at h
    split at h
    · rename_i l hl
      simp only [Option.some.injEq] at h; subst h
      exact ⟨l, pvL_rel hl, rfl⟩
    · cases h
theorem pvA_rel {ρ : Ren} : ∀ {cs : List A} {l : List Value}, pvA cs = some l → F2 (A.rel ρ) cs l := by
  intro cs
  induction cs with
  | nil => intro l h; simp [pvA] at h; subst h; exact .nil
  | cons c cs ih =>
    intro l h
    simp only [pvA] at h
    split at h
    · rename_i v r hv hr
      simp only [Option.some.injEq] at h; subst h
      exact .cons (A.pv_rel hv) (ih hr)
    · cases h

theorem T.wp_mono {α : Type} {Q R : α → Prop} (h : ∀ x, Q x → R x) : ∀ {t : T α}, t.wp Q → t.wp R := by
  intro t
  induction t with
  | ret x => exact h x
  | br b t e iht ihe => exact fun k => ⟨fun hb => iht (k.1 hb), fun hb => ihe (k.2 hb)⟩
  | need p t ih => exact fun k => ⟨k.1, ih k.2⟩
  | fail => exact id

end Go.Eng
