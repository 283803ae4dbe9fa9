/- The engine, part 11: contracts of functions over plain values, structs, pointers to plain variables and slices of plain cells. -/
import Derived.Test.YtcgdcocmnmkhlaaDoorE10
namespace Go.Eng
open Go.RowKit (Below)

/-- The shape of an argument. -/
inductive Shp where
  | c
  | agg
  | ptr
  | sl

abbrev DomG := List (List Value) → Option (List Prop × V)

def blkCells : Blk → Option (List C)
  | .known _ cs => some cs
  | .part base cs => match Nat.beq base 0 with | true => some cs | false => none
  | .dead => none

/-- Arguments as groups of plain cells. -/
def groups (hp : Nat → Option Blk) : List Shp → List A → Option (List (List Value))
  | [], [] => some []
  | .c :: sh, .c x :: l => (match x.val, groups hp sh l with | some v, some r => some ([v] :: r) | _, _ => none)
  | .agg :: sh, .agg cs :: l => (match valL cs, groups hp sh l with | some vs, some r => some (vs :: r) | _, _ => none)
  | .ptr :: sh, .c (.ptr m 0) :: l => (match hp m with
    | some k => (match blkCells k with
      | some cs => (match valL cs, groups hp sh l with | some vs, some r => some (vs :: r) | _, _ => none)
      | none => none)
    | none => none)
  | .sl :: sh, .c (.sl m 0 n n') :: l => (match hp m with
    | some k => (match blkCells k with
      | some cs => (match valL cs, groups hp sh l with
        | some vs, some r => (match Nat.beq vs.length n && Nat.beq n n' with | true => some (vs :: r) | false => none)
        | _, _ => none)
      | none => none)
    | none => none)
  | _, _ => none

/-- How arguments stand to their groups. -/
inductive GRel (w : World) : List Shp → List (List Value) → List Value → Prop where
  | nil : GRel w [] [] []
  | c {v : Value} {sh : List Shp} {gs : List (List Value)} {xs : List Value} : GRel w sh gs xs → GRel w (.c :: sh) ([v] :: gs) (v :: xs)
  | agg {g : List Value} {sh : List Shp} {gs : List (List Value)} {xs : List Value} : GRel w sh gs xs → GRel w (.agg :: sh) (g :: gs) (.agg g.toArray :: xs)
  | ptr {g : List Value} {sh : List Shp} {gs : List (List Value)} {xs : List Value} (b : Nat) : b < w.heap.size → (∀ j v, g[j]? = some v → w.cell? ⟨b, j, none⟩ = some v) → GRel w sh gs xs →
      GRel w (.ptr :: sh) (g :: gs) (.pointer (some ⟨b, 0, none⟩) :: xs)
  | sl {g : List Value} {sh : List Shp} {gs : List (List Value)} {xs : List Value} (b : Nat) : b < w.heap.size → (∀ j v, g[j]? = some v → w.cell? ⟨b, j, none⟩ = some v) → GRel w sh gs xs →
      GRel w (.sl :: sh) (g :: gs) (.slice (some ⟨b, 0, none⟩) g.length g.length :: xs)

theorem blkCells_at {ρ : Ren} {b : Nat} {w : World} {k : Blk} {cs : List C} {vs : List Value} (h : k.rel ρ b w) (hc : blkCells k = some cs) (hv : valL cs = some vs) : ∀ j v, vs[j]? = some v → w.cell? ⟨b, j, none⟩ = some v := by
  have hval : ∀ {cs : List C} {vs : List Value}, valL cs = some vs → ∀ (j : Nat) (v : Value), vs[j]? = some v → ∃ c, cs[j]? = some c ∧ c.val = some v := by
    intro cs
    induction cs with
    | nil => intro vs h j v hj; simp [valL] at h; subst h; simp at hj
    | cons c cs ih =>
      intro vs h j v hj
      simp only [valL] at h
      split at h
      · rename_i u r hu hr
        simp only [Option.some.injEq] at h; subst h
        cases j with
        | zero => simp at hj; subst hj; exact ⟨c, rfl, hu⟩
        | succ j => simpa using ih hr j v (by simpa using hj)
      · cases h
  intro j v hj
  obtain ⟨c, hcj, hcv⟩ := hval hv j v hj
  have hcell : k.cell j = some c := by
    cases k with
    | known e cs' => simp only [blkCells, Option.some.injEq] at hc; subst hc; exact hcj
    | part base cs' =>
      simp only [blkCells] at hc
      split at hc
      · rename_i hb
        have := Nat.eq_of_beq_eq_true hb
        subst this
        simp only [Option.some.injEq] at hc; subst hc
        have hz : Nat.ble 0 j = true := by cases j <;> rfl
        simp only [Blk.cell, hz, Nat.sub_zero]; exact hcj
      · cases hc
    | dead => cases hc
  obtain ⟨x, hx, hxc⟩ := Blk.rel_cell h hcell
  rw [hxc, C.val_rel hcv hx]

theorem groups_rel {ρ : Ren} {hp : Nat → Option Blk} {w : World} (hhp : ∀ m k, hp m = some k → ∃ b, ρ m = some b ∧ b.1 < w.heap.size ∧ k.rel ρ b.1 w) :
    ∀ {sh : List Shp} {args : List A} {gs : List (List Value)} {xs : List Value}, groups hp sh args = some gs → F2 (A.rel ρ) args xs → GRel w sh gs xs := by
  intro sh
  induction sh with
  | nil =>
    intro args gs xs h r
    cases args with
    | nil => simp [groups] at h; subst h; cases r; exact .nil
    | cons a l => simp [groups] at h
  | cons s sh ih =>
    intro args gs xs h r
    unfold groups at h
    split at h
    · rename_i e; cases e
    · rename_i sh' x l e1
      cases e1
      cases r with
      | cons r0 rs =>
        split at h
        · rename_i v r' hv hr
          simp only [Option.some.injEq] at h; subst h
          rw [C.val_rel hv r0]
          exact .c (ih hr rs)
        · cases h
    · rename_i sh' cs l e1
      cases e1
      cases r with
      | cons r0 rs =>
        split at h
        · rename_i vs r' hv hr
          simp only [Option.some.injEq] at h; subst h
          obtain ⟨ys, hf, rfl⟩ := r0
          rw [valL_rel hv hf]
          exact .agg (ih hr rs)
        · cases h
    · rename_i sh' m l e1
      cases e1
      cases r with
      | cons r0 rs =>
        split at h
        · rename_i k hk
          split at h
          · rename_i cs hcs
            split at h
            · rename_i vs r' hv hr
              simp only [Option.some.injEq] at h; subst h
              obtain ⟨b, hb, rfl⟩ := r0
              obtain ⟨b', hb', hlt, hrel⟩ := hhp m k hk
              simp only at hb
              rw [hb] at hb'; cases hb'
              exact .ptr b.1 hlt (blkCells_at hrel hcs hv) (ih hr rs)
            · cases h
          · cases h
        · cases h
    · rename_i sh' m n n' l e1
      cases e1
      cases r with
      | cons r0 rs =>
        split at h
        · rename_i k hk
          split at h
          · rename_i cs hcs
            split at h
            · rename_i vs r' hv hr
              split at h
              · rename_i hn
                simp only [Bool.and_eq_true] at hn
                have h1 := Nat.eq_of_beq_eq_true hn.1
                have h2 := Nat.eq_of_beq_eq_true hn.2
                subst h2
                simp only [Option.some.injEq] at h; subst h
                obtain ⟨b, hb, rfl⟩ := r0
                obtain ⟨b', hb', hlt, hrel⟩ := hhp m k hk
                rw [hb] at hb'; cases hb'
                rw [← h1]
                exact .sl b.1 hlt (blkCells_at hrel hcs hv) (ih hr rs)
              · cases h
            · cases h
          · cases h
        · cases h
    · cases h

theorem groups_loc {hp hp' : Nat → Option Blk} : ∀ {sh : List Shp} {args : List A}, (∀ m, m ∈ namesL args → hp m = hp' m) → groups hp sh args = groups hp' sh args := by
  intro sh
  induction sh with
  | nil => intro args h; cases args <;> rfl
  | cons s sh ih =>
    intro args h
    cases args with
    | nil => cases s <;> rfl
    | cons a l =>
      have ihl := ih (args := l) (fun m hm => h m (by simp [namesL, hm]))
      cases s with
      | c => cases a with
        | c x => simp only [groups, ihl]
        | agg cs => rfl
      | agg => cases a with
        | c x => rfl
        | agg cs => simp only [groups, ihl]
      | ptr =>
        cases a with
        | agg cs => rfl
        | c x =>
          cases x with
          | ptr m off =>
            cases off with
            | zero => simp only [groups, ihl, h m (by simp [namesL, A.names])]
            | succ off => rfl
          | _ => rfl
      | sl =>
        cases a with
        | agg cs => rfl
        | c x =>
          cases x with
          | sl m off n n' =>
            cases off with
            | zero => simp only [groups, ihl, h m (by simp [namesL, A.names])]
            | succ off => rfl
          | _ => rfl

def grpSm (sh : List Shp) (dom : DomG) : Sm := fun args hp _ =>
  match groups hp sh args with
  | some gs => (match dom gs with | some (p, v) => some (p, v, []) | none => none)
  | none => none

/-- THE CONTRACT of a function over such arguments. -/
def GOK (P : Program) (gw : World → Prop) (f : FuncId) (sh : List Shp) (dom : DomG) : Prop :=
  ∀ gs p v, dom gs = some (p, v) → All p → ∀ w xs, gw w → GRel w sh gs xs → Calls P f xs.toArray w (fun e w' => ∃ x, e = .returned x ∧ (∀ ρ, v.rel ρ x) ∧ Below w.heap.size w w')

theorem grp_sum {P : Program} {gw : World → Prop} {f : FuncId} {fn : Func} {sh : List Shp} {dom : DomG} (hf : P.funcs[f]? = some fn) (hg : isGo fn = true) (h : GOK P gw f sh dom) : SumOK P gw f (grpSm sh dom) where
  enter := enter_of hf hg
  loc := by intro args c hp hp' hm; unfold grpSm; rw [groups_loc hm]
  ok := by
    intro args c hp p v N hs hpr ρ xs w hgw hx hhp _
    unfold grpSm at hs
    split at hs
    · rename_i gs hgs
      split at hs
      · rename_i p' v' hd
        simp only [Option.some.injEq, Prod.mk.injEq] at hs
        obtain ⟨rfl, rfl, rfl⟩ := hs
        exact (h gs _ _ hd hpr w xs hgw (groups_rel hhp hgs hx)).mono fun e w' he => ends_flat he
      · cases hs
    · cases hs

/-- The same the other way: arguments for the engine, out of groups. -/
def symC : Value → Option C
  | .int k n => some (.int k n)
  | .bool b => some (.bool b)
  | .string s => some (.str s)
  | _ => none
def symL : List Value → Option (List C)
  | [] => some []
  | v :: l => match symC v, symL l with | some c, some r => some (c :: r) | _, _ => none
theorem symC_rel {ρ : Ren} {v : Value} {c : C} (h : symC v = some c) : c.rel ρ v := by
  unfold symC at h
  split at h <;> first | (simp only [Option.some.injEq] at h; subst h; rfl) | cases h
theorem symL_rel {ρ : Ren} : ∀ {vs : List Value} {cs : List C}, symL vs = some cs → F2 (C.rel ρ) cs vs := by
  intro vs
  induction vs with
  | nil => intro cs h; simp [symL] at h; subst h; exact .nil
  | cons v vs ih =>
    intro cs h
    simp only [symL] at h
    split at h
    · rename_i c r hc hr
      simp only [Option.some.injEq] at h; subst h
      exact .cons (symC_rel hc) (ih hr)
    · cases h

def mkArgs : List Shp → List (List Value) → Nat → Option (List A × List Blk)
  | [], [], _ => some ([], [])
  | .c :: sh, [v] :: gs, k => (match symC v, mkArgs sh gs k with | some c, some r => some (.c c :: r.1, r.2) | _, _ => none)
  | .agg :: sh, g :: gs, k => (match symL g, mkArgs sh gs k with | some cs, some r => some (.agg cs :: r.1, r.2) | _, _ => none)
  | .ptr :: sh, g :: gs, k => (match symL g, mkArgs sh gs (k + 1) with | some cs, some r => some (.c (.ptr k 0) :: r.1, .part 0 cs :: r.2) | _, _ => none)
  | .sl :: sh, g :: gs, k => (match symL g, mkArgs sh gs (k + 1) with | some cs, some r => some (.c (.sl k 0 g.length g.length) :: r.1, .part 0 cs :: r.2) | _, _ => none)
  | _, _, _ => none

theorem part_rel {ρ : Ren} {b : Nat} {w : World} {cs : List C} {vs : List Value} (hs : F2 (C.rel ρ) cs vs) (hc : ∀ j v, vs[j]? = some v → w.cell? ⟨b, j, none⟩ = some v) : (Blk.part 0 cs).rel ρ b w := by
  intro j c hj
  obtain ⟨x, hx, hr⟩ := f2_get hs hj
  exact ⟨x, hr, by rw [Nat.zero_add]; exact hc j x hx⟩

/-- The blocks of the arguments, named from k on. -/
theorem mkArgs_rel {w : World} : ∀ {sh : List Shp} {gs : List (List Value)} {xs : List Value} {k : Nat} {args : List A} {bs : List Blk}, GRel w sh gs xs → mkArgs sh gs k = some (args, bs) →
    ∃ at_ : List Nat, at_.length = bs.length ∧ (∀ (i : Nat) (kb : Blk), bs[i]? = some kb → ∃ b, at_[i]? = some b ∧ b < w.heap.size ∧ ∀ ρ, kb.rel ρ b w) ∧
      (∀ ρ : Ren, (∀ (i : Nat) (b : Nat), at_[i]? = some b → ρ (k + i) = some (b, 0)) → F2 (A.rel ρ) args xs) := by
  intro sh gs xs k args bs h
  induction h generalizing k args bs with
  | nil =>
    intro e
    simp only [mkArgs, Option.some.injEq, Prod.mk.injEq] at e
    obtain ⟨rfl, rfl⟩ := e
    exact ⟨[], rfl, fun i kb h => by simp at h, fun ρ _ => .nil⟩
  | c _ ih =>
    intro e
    simp only [mkArgs] at e
    split at e
    · rename_i c r hc hr
      simp only [Option.some.injEq, Prod.mk.injEq] at e
      obtain ⟨rfl, rfl⟩ := e
      obtain ⟨at_, h1, h2, h3⟩ := ih (k := k) (args := r.1) (bs := r.2) hr
      exact ⟨at_, h1, h2, fun ρ hρ => .cons (symC_rel hc) (h3 ρ hρ)⟩
    · cases e
  | agg _ ih =>
    intro e
    simp only [mkArgs] at e
    split at e
    · rename_i c r hc hr
      simp only [Option.some.injEq, Prod.mk.injEq] at e
      obtain ⟨rfl, rfl⟩ := e
      obtain ⟨at_, h1, h2, h3⟩ := ih (k := k) (args := r.1) (bs := r.2) hr
      exact ⟨at_, h1, h2, fun ρ hρ => .cons ⟨_, symL_rel hc, rfl⟩ (h3 ρ hρ)⟩
    · cases e
  | ptr b hb hcell _ ih =>
    intro e
    simp only [mkArgs] at e
    split at e
    · rename_i c r hc hr
      simp only [Option.some.injEq, Prod.mk.injEq] at e
      obtain ⟨rfl, rfl⟩ := e
      obtain ⟨at_, h1, h2, h3⟩ := ih (k := k + 1) (args := r.1) (bs := r.2) hr
      refine ⟨b :: at_, by simp [h1], ?_, fun ρ hρ => .cons ⟨(b, 0), hρ 0 b rfl, rfl⟩ (h3 ρ (fun i b' hi => by rw [show k + 1 + i = k + (i + 1) by omega]; exact hρ (i + 1) b' (by simpa using hi)))⟩
      intro i kb hi
      cases i with
      | zero => simp at hi; subst hi; exact ⟨b, rfl, hb, fun ρ => part_rel (symL_rel hc) hcell⟩
      | succ i => simpa using h2 i kb (by simpa using hi)
    · cases e
  | sl b hb hcell _ ih =>
    intro e
    simp only [mkArgs] at e
    split at e
    · rename_i c r hc hr
      simp only [Option.some.injEq, Prod.mk.injEq] at e
      obtain ⟨rfl, rfl⟩ := e
      obtain ⟨at_, h1, h2, h3⟩ := ih (k := k + 1) (args := r.1) (bs := r.2) hr
      refine ⟨b :: at_, by simp [h1], ?_, fun ρ hρ => .cons ⟨(b, 0), hρ 0 b rfl, rfl⟩ (h3 ρ (fun i b' hi => by rw [show k + 1 + i = k + (i + 1) by omega]; exact hρ (i + 1) b' (by simpa using hi)))⟩
      intro i kb hi
      cases i with
      | zero => simp at hi; subst hi; exact ⟨b, rfl, hb, fun ρ => part_rel (symL_rel hc) hcell⟩
      | succ i => simpa using h2 i kb (by simpa using hi)
    · cases e

/-- The package-level variables that have a name, block by block: what they hold. -/
structure Glob (G : Nat) (gw : World → Prop) (bs : List Blk) : Prop where
  len : bs.length = G
  at_ : ∀ w, gw w → ∀ (i : Nat) (k : Blk), bs[i]? = some k → i < w.heap.size ∧ ∀ ρ, k.rel ρ i w

/-- THE RUN OF A FUNCTION, out of its tree. -/
theorem grp_run {P : Program} {G : Nat} {sg : FuncId → Option Sm} {gw : World → Prop} {gb : List Blk} (E : Env P G sg gw) (hgb : Glob G gw gb) {f : FuncId} {fn : Func} (hf : P.funcs[f]? = some fn) (fuel : Nat) {sh : List Shp} {gs : List (List Value)} {args : List A} {bs : List Blk} {xs : List Value} {w : World} {Q : Value → Prop}
    (hgw : gw w) (hx : GRel w sh gs xs) (hm : mkArgs sh gs G = some (args, bs)) (hlen : Nat.ble args.length fn.ntmps = true)
    (h : (runFn P G (gb ++ bs).length sg fuel fn args (gb ++ bs)).wp Q) : Calls P f xs.toArray w (fun e w' => ∃ x, e = .returned x ∧ Q x ∧ Below w.heap.size w w') := by
  obtain ⟨at_, h1, h2, h3⟩ := mkArgs_rel hx hm
  have hat : ∀ (i : Nat), i < G → (List.range G ++ at_)[i]? = some i := by
    intro i hi
    rw [List.getElem?_append_left (by simpa using hi)]
    simp [hi]
  have hat2 : ∀ (i : Nat), (List.range G ++ at_)[G + i]? = at_[i]? := by
    intro i
    rw [List.getElem?_append_right (by simp)]
    simp
  have hfr : F2 (A.rel fun m => ((List.range G ++ at_)[m]?).map fun b => (b, 0)) args xs := by
    refine h3 _ (fun i b hi => ?_)
    rw [hat2, hi]; rfl
  refine fn_sound E hf (at_ := List.range G ++ at_) (bs := gb ++ bs) hgw hfr ?_ (by simp [h1, hgb.len]) ?_ hat h
  · rw [← f2_len hfr]; exact Nat.le_of_ble_eq_true hlen
  · intro m k hk
    by_cases hm : m < G
    · rw [List.getElem?_append_left (by rw [hgb.len]; exact hm)] at hk
      obtain ⟨g1, g2⟩ := hgb.at_ w hgw m k hk
      exact ⟨m, hat m hm, g1, g2 _⟩
    · rw [List.getElem?_append_right (by rw [hgb.len]; omega), hgb.len] at hk
      obtain ⟨b, k1, k2, k3⟩ := h2 (m - G) k hk
      refine ⟨b, ?_, k2, k3 _⟩
      have := hat2 (m - G)
      rw [show G + (m - G) = m by omega] at this
      rw [this]; exact k1

end Go.Eng
