/- The parts of the engines, of their contracts and of the plain laws that the claim rests on: ZU82, ZU83, ZU9, ZU10, ZU11, ZU12, ZU13, ZU14. -/
import Derived.Test.YtdmmekepjabmnaaFG1
import Derived.Lib.AppendZerosOnto
import Derived.Laws.CopyRow
import Derived.Laws.IdiomStrings
set_option linter.unusedVariables false
set_option linter.unusedSimpArgs false
section
set_option linter.unusedVariables false
set_option linter.unusedSimpArgs false
namespace Go.V
open Go.RowKit (Below)
def stBy (len cap : Nat) : Nat → Option Nat
  | 0 => none
  | k + 1 => match Nat.beq (cap * (k + 1)) len with | true => some (k + 1) | false => stBy len cap k
theorem stBy_spec {len cap st : Nat} : ∀ {k : Nat}, stBy len cap k = some st → cap * st = len := by
  intro k
  induction k with
  | zero => intro h; simp [stBy] at h
  | succ k ih =>
    intro h
    simp only [stBy] at h
    split at h
    · rename_i hbq
      simp only [Option.some.injEq] at h
      subst h
      exact Nat.eq_of_beq_eq_true hbq
    · exact ih h
abbrev Lent := List (Nat × Blk) × Bool
def Lent.join (a b : Lent) : Lent := (a.1 ++ b.1, a.2 || b.2)
abbrev LendF := C → Option (D × Lent × List Prop)
def lendL (g : LendF) : List C → Option (List D × Lent × List Prop)
  | [] => some ([], ([], false), [])
  | c :: l => match g c, lendL g l with | some (d, b, p), some (ds, b', p') => some (d :: ds, b.join b', p ++ p') | _, _ => none
def lend0 : LendF := fun x => match toD x with | some d => some (d, ([], false), []) | none => none
def lendW (g : LendF) (hp : Nat → Option Blk) : LendF
  | .gsl m len => (match hp m with
    | some (.row _ st L F) => some (.sl true len st F, ([(m, .fz st L F)], false), [len ≤ L])
    | some (.fz st L F) => some (.sl true len st F, ([], false), [len ≤ L])
    | _ => none)
  | .sl m 0 n cap => (match hp m with
    | some (.known _ cs) => (match lendL g cs, cap with
      | some _, 0 => (match n with | 0 => some (.sl true 0 0 (fun _ _ => .nilp), ([], false), []) | _ + 1 => none)
      | some (ds, b, p), cap + 1 => (match stBy cs.length (cap + 1) 24, Nat.ble n (cap + 1) with
        | some st, true => some (.sl true n st (fun i j => ds.getD (i * st + j) .nilp), ((m, .fk st (cap + 1) (fun i j => ds.getD (i * st + j) .nilp)) :: b.1, b.2), p)
        | _, _ => none)
      | none, _ => none)
    | some (.fk st L F) => (match Nat.ble n cap with
      | true => some (.sl true n st F, ([], false), [n ≤ L])
      | false => none)
    | _ => none)
  | .sl m (off + 1) n cap => (match hp m with
    | some (.known _ cs) => (match lendL g cs, Nat.ble (off + 1 + n) cs.length && Nat.ble n cap with
      | some (ds, b, p), true => some (.sl true n 1 (fun i j => ds.getD (off + 1 + (i + j)) .nilp), (b.1, true), p)
      | _, _ => none)
    | _ => none)
  | .fn f [(m, 0)] => (match hp m with
    | some (.known _ cs) => (match lendL g cs with
      | some (ds, b, p) => some (.fc f ds.length (fun j => ds.getD j .nilp), (b.1, true), p)
      | none => none)
    | _ => none)
  | x => lend0 x
def lend1 (hp : Nat → Option Blk) : LendF := lendW lend0 hp
def lend (hp : Nat → Option Blk) : LendF := lendW (lend1 hp) hp
def lends (hp : Nat → Option Blk) : List C → Option (List D × Lent × List Prop) := lendL (lend hp)
def fullK (w : World) : Still := fun b o => if b < w.heap.size then w.cell? ⟨b, o, none⟩ else none
theorem fullK_lies (w : World) : Lies (fullK w) w := by
  intro b o v h
  unfold fullK at h
  split at h
  · rename_i hb; exact ⟨hb, h⟩
  · cases h
theorem le_fullK {κ : Still} {w : World} (h : Lies κ w) : κ.le (fullK w) := by
  intro b o v hv
  obtain ⟨h1, h2⟩ := h b o v hv
  unfold fullK; rw [if_pos h1]; exact h2
theorem fullK_cell {w : World} {b o : Nat} {v : Value} (h : w.cell? ⟨b, o, none⟩ = some v) : fullK w b o = some v := by
  have hb : b < w.heap.size := by
    apply Classical.byContradiction
    intro hn
    have hs : w.heap[b]? = none := Array.getElem?_eq_none (by omega)
    simp [World.cell?, hs] at h
  unfold fullK; rw [if_pos hb]; exact h
def LentOK (ρ : Ren) (w : World) (κ : Still) (l : Lent) : Prop :=
  (∀ q, q ∈ l.1 → ∀ b, ρ q.1 = some b → ∀ o v, w.cell? ⟨b.1, o, none⟩ = some v → κ b.1 o = some v) ∧ (l.2 = true → κ = fullK w)
theorem LentOK.join {ρ : Ren} {w : World} {κ : Still} {a b : Lent} (h : LentOK ρ w κ (a.join b)) : LentOK ρ w κ a ∧ LentOK ρ w κ b :=
  ⟨⟨fun q hq => h.1 q (List.mem_append_left _ hq), fun e => h.2 (by simp [Lent.join, e])⟩, ⟨fun q hq => h.1 q (List.mem_append_right _ hq), fun e => h.2 (by simp [Lent.join, e])⟩⟩
theorem lentFull (ρ : Ren) (w : World) (l : Lent) : LentOK ρ w (fullK w) l := ⟨fun _ _ _ _ _ _ h => fullK_cell h, fun _ => rfl⟩
structure LendOK (hp : Nat → Option Blk) (g : LendF) : Prop where
  rel : ∀ {ρ : Ren} {w : World} {κ : Still} {c : C} {d : D} {b : Lent} {p : List Prop} {x : Value}, Lies ρ.κ w → (∀ m k, hp m = some k → ∃ b, ρ m = some b ∧ b.1 < w.heap.size ∧ k.rel ρ b w) → ρ.κ.le κ →
    g c = some (d, b, p) → LentOK ρ w κ b → All p → c.rel ρ x → d.rel κ x
  own : ∀ {c : C} {d : D} {b : Lent} {p : List Prop}, g c = some (d, b, p) → ∀ q, q ∈ b.1 → q.2.own = false ∧ ∃ k, hp q.1 = some k ∧ k.own = true
  fz : ∀ {ρ ρ' : Ren} {w w' : World} {c : C} {d : D} {b : Lent} {p : List Prop}, Lies ρ.κ w → (∀ m k, hp m = some k → ∃ b, ρ m = some b ∧ b.1 < w.heap.size ∧ k.rel ρ b w) → g c = some (d, b, p) → LentOK ρ w ρ'.κ b → All p →
    ∀ q, q ∈ b.1 → ∀ bb, ρ q.1 = some bb → ρ.le ρ' → (∀ o v, w.cell? ⟨bb.1, o, none⟩ = some v → ρ'.κ bb.1 o = some v) → q.2.rel ρ' bb w'
theorem lend0_ok (hp : Nat → Option Blk) : LendOK hp lend0 where
  rel := by
    intro ρ w κ c d b p x hl hhp hle h hb hpp r
    unfold lend0 at h
    split at h
    · rename_i d' hd
      simp only [Option.some.injEq, Prod.mk.injEq] at h
      obtain ⟨rfl, _, _⟩ := h
      exact D.rel_mono hle _ _ (toD_rel hd r)
    · cases h
  own := by
    intro c d b p h q hq
    unfold lend0 at h
    split at h
    · simp only [Option.some.injEq, Prod.mk.injEq] at h
      obtain ⟨_, rfl, _⟩ := h
      cases hq
    · cases h
  fz := by
    intro ρ ρ' w w' c d b p hl hhp h hb hpp q hq
    unfold lend0 at h
    split at h
    · simp only [Option.some.injEq, Prod.mk.injEq] at h
      obtain ⟨_, rfl, _⟩ := h
      cases hq
    · cases h
section
variable {hp : Nat → Option Blk} {g : LendF}
theorem lendL_rel (hg : LendOK hp g) {ρ : Ren} {w : World} {κ : Still} (hl : Lies ρ.κ w) (hhp : ∀ m k, hp m = some k → ∃ b, ρ m = some b ∧ b.1 < w.heap.size ∧ k.rel ρ b w) (hle : ρ.κ.le κ) : ∀ {cs : List C} {ds : List D} {b : Lent} {p : List Prop} {xs : List Value},
    lendL g cs = some (ds, b, p) → LentOK ρ w κ b → All p → F2 (C.rel ρ) cs xs → F2 (D.rel κ) ds xs := by
  intro cs
  induction cs with
  | nil => intro ds b p xs h _ _ r; cases r; simp [lendL] at h; obtain ⟨rfl, _⟩ := h; exact .nil
  | cons c cs ih =>
    intro ds b p xs h hb hp r
    cases r with
    | cons r0 rs =>
      simp only [lendL] at h
      split at h
      · rename_i d b1 p1 ds2 b2 p2 h1 h2
        simp only [Option.some.injEq, Prod.mk.injEq] at h
        obtain ⟨rfl, rfl, rfl⟩ := h
        obtain ⟨hp1, hp2⟩ := All.append.1 hp
        exact .cons (hg.rel hl hhp hle h1 hb.join.1 hp1 r0) (ih h2 hb.join.2 hp2 rs)
      · cases h
theorem lendL_own (hg : LendOK hp g) : ∀ {cs : List C} {ds : List D} {b : Lent} {p : List Prop}, lendL g cs = some (ds, b, p) → ∀ q, q ∈ b.1 → q.2.own = false ∧ ∃ k, hp q.1 = some k ∧ k.own = true := by
  intro cs
  induction cs with
  | nil => intro ds b p h q hq; simp [lendL] at h; obtain ⟨_, rfl, _⟩ := h; cases hq
  | cons c cs ih =>
    intro ds b p h q hq
    simp only [lendL] at h
    split at h
    · rename_i d b1 p1 ds2 b2 p2 h1 h2
      simp only [Option.some.injEq, Prod.mk.injEq] at h
      obtain ⟨_, rfl, _⟩ := h
      rcases List.mem_append.1 hq with hq | hq
      · exact hg.own h1 q hq
      · exact ih h2 q hq
    · cases h
theorem lendL_fz (hg : LendOK hp g) {ρ ρ' : Ren} {w w' : World} (hl : Lies ρ.κ w) (hhp : ∀ m k, hp m = some k → ∃ b, ρ m = some b ∧ b.1 < w.heap.size ∧ k.rel ρ b w) : ∀ {cs : List C} {ds : List D} {b : Lent} {p : List Prop}, lendL g cs = some (ds, b, p) → LentOK ρ w ρ'.κ b → All p →
    ∀ q, q ∈ b.1 → ∀ bb, ρ q.1 = some bb → ρ.le ρ' → (∀ o v, w.cell? ⟨bb.1, o, none⟩ = some v → ρ'.κ bb.1 o = some v) → q.2.rel ρ' bb w' := by
  intro cs
  induction cs with
  | nil => intro ds b p h _ _ q hq; simp [lendL] at h; obtain ⟨_, rfl, _⟩ := h; cases hq
  | cons c cs ih =>
    intro ds b p h hb hp q hq
    simp only [lendL] at h
    split at h
    · rename_i d b1 p1 ds2 b2 p2 h1 h2
      simp only [Option.some.injEq, Prod.mk.injEq] at h
      obtain ⟨_, rfl, rfl⟩ := h
      obtain ⟨hp1, hp2⟩ := All.append.1 hp
      rcases List.mem_append.1 hq with hq | hq
      · exact hg.fz hl hhp h1 hb.join.1 hp1 q hq
      · exact ih h2 hb.join.2 hp2 q hq
    · cases h
theorem lendW_ok (hg : LendOK hp g) : LendOK hp (lendW g hp) where
  rel := by
    intro ρ w κ c d b p x hl hhp hle h hb hpp r
    unfold lendW at h
    split at h
    · rename_i m len
      split at h
      · rename_i e st L F hm
        simp only [Option.some.injEq, Prod.mk.injEq] at h
        obtain ⟨rfl, rfl, rfl⟩ := h
        obtain ⟨bb, hbb, rfl⟩ := r
        obtain ⟨b', hb', hlt, xs, hh, g1, g2, g3, g4⟩ := hhp m _ hm
        rw [hbb] at hb'; cases hb'
        have hL := hpp.1
        refine .inr ⟨⟨bb.1, 0, none⟩, bb.2, rfl, by omega, fun _ => rfl, fun i j hi hj => ?_⟩
        obtain ⟨y, hy, hr⟩ := g4 i j (by omega) hj
        refine ⟨y, ?_, D.rel_mono hle _ _ hr⟩
        rw [Nat.zero_add]
        exact hb.1 (m, .fz st L F) (by simp) bb hbb _ _ (by simp [World.cell?, hh, hy])
      · rename_i st L F hm
        simp only [Option.some.injEq, Prod.mk.injEq] at h
        obtain ⟨rfl, rfl, rfl⟩ := h
        obtain ⟨bb, hbb, rfl⟩ := r
        obtain ⟨b', hb', hlt, g1, g2⟩ := hhp m _ hm
        rw [hbb] at hb'; cases hb'
        have hL := hpp.1
        refine .inr ⟨⟨bb.1, 0, none⟩, bb.2, rfl, by omega, fun _ => rfl, fun i j hi hj => ?_⟩
        obtain ⟨y, hy, hr⟩ := g2 i j (by omega) hj
        exact ⟨y, by rw [Nat.zero_add]; exact hle _ _ _ hy, D.rel_mono hle _ _ hr⟩
      · cases h
    · rename_i m n cap
      split at h
      · rename_i e cs hm
        split at h
        · rename_i ds hds
          split at h
          · simp only [Option.some.injEq, Prod.mk.injEq] at h
            obtain ⟨rfl, rfl, rfl⟩ := h
            obtain ⟨bb, hbb, rfl⟩ := r
            exact .inr ⟨⟨bb.1, 0, none⟩, 0, rfl, Nat.le_refl _, fun _ => rfl, fun i j hi => by omega⟩
          · cases h
        · rename_i ds b0 p0 cap' hds
          split at h
          · rename_i st hst hn
            simp only [Option.some.injEq, Prod.mk.injEq] at h
            obtain ⟨rfl, rfl, rfl⟩ := h
            have hn' := Nat.le_of_ble_eq_true hn
            obtain ⟨bb, hbb, rfl⟩ := r
            obtain ⟨b', hb', hlt, xs, hf, hh⟩ := hhp m _ hm
            rw [hbb] at hb'; cases hb'
            have hlc := f2_len hf
            have hst' : (cap' + 1) * st = cs.length := by
              have : ∀ k, stBy cs.length (cap' + 1) k = some st → (cap' + 1) * st = cs.length := by
                intro k
                induction k with
                | zero => intro h; simp [stBy] at h
                | succ k ih =>
                  intro h
                  simp only [stBy] at h
                  split at h
                  · rename_i hbq
                    simp only [Option.some.injEq] at h
                    subst h
                    exact Nat.eq_of_beq_eq_true hbq
                  · exact ih h
              exact this _ hst
            have hb0 : LentOK ρ w κ b0 := ⟨fun q hq => hb.1 q (List.mem_cons_of_mem _ hq), hb.2⟩
            refine .inr ⟨⟨bb.1, 0, none⟩, cap' + 1, rfl, hn', fun _ => rfl, fun i j hi hj => ?_⟩
            have hlt2 := el_lt hi hj
            have hle2 : n * st ≤ (cap' + 1) * st := Nat.mul_le_mul_right _ hn'
            obtain ⟨y, hy, hr⟩ := getD_rel (lendL_rel hg hl hhp hle hds hb0 hpp hf) (k := i * st + j) (by omega)
            refine ⟨y, ?_, hr⟩
            rw [Nat.zero_add]
            exact hb.1 (m, .fk st (cap' + 1) (fun i j => ds.getD (i * st + j) .nilp)) (by simp) bb hbb _ _ (by simp [World.cell?, hh, hy])
          · cases h
        · cases h
      · rename_i st L F hm
        split at h
        · rename_i hn
          have hn' := Nat.le_of_ble_eq_true hn
          simp only [Option.some.injEq, Prod.mk.injEq] at h
          obtain ⟨rfl, rfl, rfl⟩ := h
          obtain ⟨bb, hbb, rfl⟩ := r
          obtain ⟨b', hb', hlt, g2⟩ := hhp m _ hm
          rw [hbb] at hb'; cases hb'
          have hL := hpp.1
          refine .inr ⟨⟨bb.1, 0, none⟩, cap, rfl, hn', fun _ => rfl, fun i j hi hj => ?_⟩
          obtain ⟨y, hy, hr⟩ := g2 i j (by omega) hj
          exact ⟨y, by rw [Nat.zero_add]; exact hle _ _ _ hy, D.rel_mono hle _ _ hr⟩
        · cases h
      · cases h
    · rename_i m off n cap
      split at h
      · rename_i e cs hm
        split at h
        · rename_i ds b0 p0 hds hn
          simp only [Option.some.injEq, Prod.mk.injEq] at h
          obtain ⟨rfl, rfl, rfl⟩ := h
          rw [Bool.and_eq_true] at hn
          have hn1 := Nat.le_of_ble_eq_true hn.1
          have hn2 := Nat.le_of_ble_eq_true hn.2
          obtain ⟨bb, hbb, rfl⟩ := r
          obtain ⟨b', hb', hlt, xs, hf, hh⟩ := hhp m _ hm
          rw [hbb] at hb'; cases hb'
          have hb0 : LentOK ρ w κ b0 := ⟨hb.1, fun _ => hb.2 rfl⟩
          have hlc := f2_len hf
          refine .inr ⟨⟨bb.1, off + 1, none⟩, cap, rfl, hn2, fun _ => rfl, fun i j hi hj => ?_⟩
          obtain ⟨y, hy, hr⟩ := getD_rel (lendL_rel hg hl hhp hle hds hb0 hpp hf) (k := off + 1 + (i + j)) (by omega)
          refine ⟨y, ?_, hr⟩
          rw [hb.2 rfl, Nat.mul_one, Nat.add_assoc (off + 1) i j]
          exact fullK_cell (by simp [World.cell?, hh, hy])
        · cases h
      · cases h
    · rename_i f m
      split at h
      · rename_i e cs hm
        split at h
        · rename_i ds b0 p0 hds
          simp only [Option.some.injEq, Prod.mk.injEq] at h
          obtain ⟨rfl, rfl, rfl⟩ := h
          obtain ⟨xs0, hx0, rfl⟩ := r
          cases hx0 with
          | cons r0 rs0 =>
            cases rs0
            obtain ⟨bb, hbb, rfl⟩ := r0
            obtain ⟨b', hb', hlt, xs, hf, hh⟩ := hhp m _ hm
            simp only at hbb
            rw [hbb] at hb'; cases hb'
            have hb0 : LentOK ρ w κ b0 := ⟨hb.1, fun _ => hb.2 rfl⟩
            have hfd := lendL_rel hg hl hhp hle hds hb0 hpp hf
            refine ⟨⟨bb.1, 0, none⟩, rfl, rfl, fun j hj => ?_⟩
            obtain ⟨y, hy, hr⟩ := getD_rel hfd (k := j) (by rw [← f2_len hfd]; exact hj)
            refine ⟨y, ?_, hr⟩
            rw [Nat.zero_add, hb.2 rfl]
            exact fullK_cell (by simp [World.cell?, hh, hy])
        · cases h
      · cases h
    · exact (lend0_ok hp).rel hl hhp hle h hb hpp r
  own := by
    intro c d b p h q hq
    unfold lendW at h
    split at h
    · split at h
      · rename_i hm
        simp only [Option.some.injEq, Prod.mk.injEq] at h
        obtain ⟨_, rfl, _⟩ := h
        simp only [List.mem_singleton] at hq
        subst hq
        exact ⟨rfl, _, hm, rfl⟩
      · simp only [Option.some.injEq, Prod.mk.injEq] at h
        obtain ⟨_, rfl, _⟩ := h
        cases hq
      · cases h
    · split at h
      · rename_i hm
        split at h
        · split at h
          · simp only [Option.some.injEq, Prod.mk.injEq] at h
            obtain ⟨_, rfl, _⟩ := h
            cases hq
          · cases h
        · rename_i hds
          split at h
          · simp only [Option.some.injEq, Prod.mk.injEq] at h
            obtain ⟨_, rfl, _⟩ := h
            rcases List.mem_cons.1 hq with rfl | hq
            · exact ⟨rfl, _, hm, rfl⟩
            · exact lendL_own hg hds q hq
          · cases h
        · cases h
      · split at h
        · simp only [Option.some.injEq, Prod.mk.injEq] at h
          obtain ⟨_, rfl, _⟩ := h
          cases hq
        · cases h
      · cases h
    · split at h
      · split at h
        · rename_i hds _
          simp only [Option.some.injEq, Prod.mk.injEq] at h
          obtain ⟨_, rfl, _⟩ := h
          exact lendL_own hg hds q hq
        · cases h
      · cases h
    · split at h
      · split at h
        · rename_i hds
          simp only [Option.some.injEq, Prod.mk.injEq] at h
          obtain ⟨_, rfl, _⟩ := h
          exact lendL_own hg hds q hq
        · cases h
      · cases h
    · exact (lend0_ok hp).own h q hq
  fz := by
    intro ρ ρ' w w' c d b p hl hhp h hlb hpp q hq bb hbb hle hcell
    unfold lendW at h
    split at h
    · split at h
      · rename_i e st L F hm
        simp only [Option.some.injEq, Prod.mk.injEq] at h
        obtain ⟨_, rfl, _⟩ := h
        simp only [List.mem_singleton] at hq
        subst hq
        obtain ⟨b', hb', _, xs, hh, g1, g2, g3, g4⟩ := hhp _ _ hm
        rw [hbb] at hb'; cases hb'
        refine ⟨g2, fun i j hi hj => ?_⟩
        obtain ⟨y, hy, hr⟩ := g4 i j hi hj
        exact ⟨y, hcell _ _ (by simp [World.cell?, hh, hy]), D.rel_mono hle.κ _ _ hr⟩
      · simp only [Option.some.injEq, Prod.mk.injEq] at h
        obtain ⟨_, rfl, _⟩ := h
        cases hq
      · cases h
    · split at h
      · rename_i em0 cs0 hm0
        split at h
        · split at h
          · simp only [Option.some.injEq, Prod.mk.injEq] at h
            obtain ⟨_, rfl, _⟩ := h
            cases hq
          · cases h
        · rename_i ds0 b0 p0 cap' hds
          split at h
          · rename_i st0 hst0 hble0
            simp only [Option.some.injEq, Prod.mk.injEq] at h
            obtain ⟨_, rfl, rfl⟩ := h
            have hlb' : LentOK ρ w ρ'.κ b0 := ⟨fun q hq => hlb.1 q (List.mem_cons_of_mem _ hq), hlb.2⟩
            rcases List.mem_cons.1 hq with rfl | hq
            · obtain ⟨b', hb', hlt, xs, hf, hh⟩ := hhp _ _ hm0
              rw [hbb] at hb'; cases hb'
              have hf' := lendL_rel hg hl hhp hle.κ hds hlb' hpp hf
              have hlen := f2_len hf'
              have hlen2 := f2_len hf
              have hsz := stBy_spec hst0
              intro i j hi hj
              have hlt2 : i * st0 + j < (cap' + 1) * st0 := by
                have : (i + 1) * st0 ≤ (cap' + 1) * st0 := Nat.mul_le_mul_right _ hi
                rw [Nat.succ_mul] at this
                omega
              obtain ⟨y, hy, hr⟩ := getD_rel hf' (k := i * st0 + j) (by omega)
              exact ⟨y, hcell _ _ (by simp [World.cell?, hh, hy]), hr⟩
            · exact lendL_fz hg hl hhp hds hlb' hpp q hq bb hbb hle hcell
          · cases h
        · cases h
      · split at h
        · simp only [Option.some.injEq, Prod.mk.injEq] at h
          obtain ⟨_, rfl, _⟩ := h
          cases hq
        · cases h
      · cases h
    · split at h
      · split at h
        · rename_i hds _
          simp only [Option.some.injEq, Prod.mk.injEq] at h
          obtain ⟨_, rfl, rfl⟩ := h
          exact lendL_fz hg hl hhp hds ⟨hlb.1, fun e => (hlb.2 rfl)⟩ hpp q hq bb hbb hle hcell
        · cases h
      · cases h
    · split at h
      · split at h
        · rename_i hds
          simp only [Option.some.injEq, Prod.mk.injEq] at h
          obtain ⟨_, rfl, rfl⟩ := h
          exact lendL_fz hg hl hhp hds ⟨hlb.1, fun e => (hlb.2 rfl)⟩ hpp q hq bb hbb hle hcell
        · cases h
      · cases h
    · exact (lend0_ok hp).fz hl hhp h hlb hpp q hq bb hbb hle hcell
theorem lend_ok (hp : Nat → Option Blk) : LendOK hp (lend hp) := lendW_ok (lendW_ok (lend0_ok hp))
end
def memP (m : Nat) : List (Nat × Blk) → Bool
  | [] => false
  | q :: l => match Nat.beq q.1 m with | true => true | false => memP m l
theorem memP_iff {m : Nat} : ∀ {l : List (Nat × Blk)}, memP m l = true ↔ ∃ q, q ∈ l ∧ q.1 = m := by
  intro l
  induction l with
  | nil => simp [memP]
  | cons x l ih =>
    simp only [memP]
    split
    · rename_i h; have := Nat.eq_of_beq_eq_true h; subst this; simp
    · rename_i h
      rw [ih]
      constructor
      · rintro ⟨q, hq, e⟩; exact ⟨q, List.mem_cons_of_mem _ hq, e⟩
      · rintro ⟨q, hq, e⟩
        rcases List.mem_cons.1 hq with rfl | hq
        · subst e; simp at h
        · exact ⟨q, hq, e⟩
def hasSl (z : List Value) : Bool := z.any fun v => match v with | .slice .. => true | _ => false
def restEl : List Value → Bool
  | .slice .. :: _ :: _ => false
  | l => hasSl l
def preW (P : Program) (G : GT) (o : Oper) (s : S) : Option (List (Nat × Blk) × Option (Nat × Blk) × List Prop) :=
  match o.op with
  | .slice t x none (some _) (some _) => (match look G s x with
    | some (.a (.c (.gsl m len))) => (match s.hp m with
      | some (.row _ st L F) => some ([(m, .fz st L F)], none, [])
      | _ => none)
    | _ => none)
  | .call cl => (match cl.callee, cl.args.toList with
    | .builtin .append, [x, y] => (match look G s y with
      | some (.a (.c (.sl m 0 n cap))) => (match s.hp m with
        | some (.known e cs) => (match stDs s.hp cs with
          | some _ => none
          | none => (match lends s.hp cs with
            | some (ds, (Z, false), p) => (match memP m Z with
              | false => some (Z, some (m, .known e (ds.map toC)), p)
              | true => none)
            | _ => none))
        | _ => none)
      | _ => none)
    | .builtin .len, [x] => (match look G s x with
      | some (.a (.c (.gsl m len))) => (match s.hp m with
        | some (.row e st L F) => (match (P.info? e).bind (·.zero) with
          | some z => (match restEl z.cells.toList with
            | true => some ([(m, .fz st L F)], none, [])
            | false => none)
          | none => none)
        | _ => none)
      | _ => none)
    | _, _ => none)
  | _ => none
def wrS (W : List (Nat × Blk)) (s : S) : S := { s with hp := wrs W s.hp }
def preL (q : List (Nat × Blk) × Option (Nat × Blk) × List Prop) : List (Nat × Blk) := q.1 ++ (match q.2.1 with | some v => [v] | none => [])
def effY1 (P : Program) (G : GT) (sg : FuncId → Option Sm) (o : Oper) (c : Nat) (s : S) : Option (Eff × List Prop) :=
  match preW P G o s with
  | none => effX P G sg o c s
  | some q => (match effX P G sg o c (wrS (preL q) s) with
    | some (e, p) => some ({ e with wr := preL q ++ e.wr }, q.2.2 ++ p)
    | none => none)
def preX (P : Program) (G : GT) (o : Oper) (s : S) : Option (List (Nat × Blk) × Option (Nat × Blk) × List Prop) :=
  match o.op with
  | .call cl => (match cl.callee, cl.args.toList with
    | .builtin .append, [x, _] => (match look G s x with
      | some (.a (.c (.sl m 0 n cap))) => (match s.hp m with
        | some (.known e cs) => (match stDs s.hp cs with
          | some _ => none
          | none => (match lends s.hp cs with
            | some (ds, (Z, false), p) => (match memP m Z with
              | false => some (Z, some (m, .known e (ds.map toC)), p)
              | true => none)
            | _ => none))
        | _ => none)
      | _ => none)
    | _, _ => none)
  | _ => none
def effY2 (P : Program) (G : GT) (sg : FuncId → Option Sm) (o : Oper) (c : Nat) (s : S) : Option (Eff × List Prop) :=
  match preX P G o s with
  | none => effY1 P G sg o c s
  | some q => (match effY1 P G sg o c (wrS (preL q) s) with
    | some (e, p) => some ({ e with wr := preL q ++ e.wr }, q.2.2 ++ p)
    | none => none)
theorem wrs_append : ∀ {l k : List (Nat × Blk)} {h : Nat → Option Blk}, wrs (l ++ k) h = wrs k (wrs l h) := by
  intro l
  induction l with
  | nil => intro k h; rfl
  | cons q l ih => intro k h; obtain ⟨m, b⟩ := q; simp only [List.cons_append, wrs]; exact ih
theorem act_wrS {dst : Option Tmp} {c : Nat} {e : Eff} {W : List (Nat × Blk)} {s : S} : act dst c e (wrS W s) = act dst c { e with wr := W ++ e.wr } s := by
  unfold act wrS
  simp only [wrs_append]
section
variable {P : Program} {G : GT} {N : Nat} {r : Option Nat} {sg : FuncId → Option Sm} {gw : World → Prop} {w0 : World} {ρ : Ren} {s s' : S} {a : Act} {w : World} {Q : Exit → Act → World → Prop}
theorem Rel.settle (h : Rel w0 N ρ s a w) (Z : List (Nat × Blk)) (V : Option (Nat × Blk))
    (hZ : ∀ q, q ∈ Z → q.2.own = false ∧ ∃ k, s.hp q.1 = some k ∧ k.own = true)
    (hfz : ∀ ρ' : Ren, ρ.le ρ' → LentOK ρ w ρ'.κ (Z, false) → ∀ q, q ∈ Z → ∀ bb, ρ q.1 = some bb → q.2.rel ρ' bb w)
    (hV : ∀ m k', V = some (m, k') → memP m Z = false ∧ (∃ k, s.hp m = some k ∧ k.own = true) ∧ ∀ ρ' : Ren, ρ.le ρ' → LentOK ρ w ρ'.κ (Z, false) → ∀ bb, ρ m = some bb → k'.rel ρ' bb w) :
    ∃ ρ', Rel w0 N ρ' (wrS (preL (Z, V, [])) s) a w ∧ ρ.le ρ' ∧ ∀ p, p ∈ preL (Z, V, []) → ∃ k, s.hp p.1 = some k := by
  obtain ⟨κz, hκz⟩ : ∃ κz : Still, ∀ b o v, κz b o = some v ↔ ρ.κ b o = some v ∨ ((∃ q b0, q ∈ Z ∧ ρ q.1 = some b0 ∧ b = b0.1) ∧ b < w.heap.size ∧ w.cell? ⟨b, o, none⟩ = some v) := by
    refine ⟨fun b o => @ite _ (∃ q b0, q ∈ Z ∧ ρ q.1 = some b0 ∧ b = b0.1) (Classical.propDecidable _) (fullK w b o) (ρ.κ b o), fun b o v => ?_⟩
    dsimp only
    by_cases hz : ∃ q b0, q ∈ Z ∧ ρ q.1 = some b0 ∧ b = b0.1
    · rw [if_pos hz]
      constructor
      · intro hv
        obtain ⟨g1, g2⟩ := fullK_lies w b o v hv
        exact .inr ⟨hz, g1, g2⟩
      · rintro (hv | ⟨_, _, hv⟩)
        · exact le_fullK h.im b o v hv
        · exact fullK_cell hv
    · rw [if_neg hz]
      constructor
      · exact .inl
      · rintro (hv | ⟨hv, _⟩)
        · exact hv
        · exact absurd hv hz
  have hle : ρ.κ.le κz := fun b o v hv => (hκz b o v).2 (.inl hv)
  have hlr : ρ.le { ρ with κ := κz } := ⟨fun _ _ h => h, hle, rfl, rfl, rfl, rfl⟩
  have hlent : LentOK ρ w κz (Z, false) := by
    refine ⟨fun q hq b hb o v hv => (hκz _ _ _).2 (.inr ⟨⟨q, b, hq, hb, rfl⟩, ?_, hv⟩), fun e => by cases e⟩
    obtain ⟨_, k, hk, _⟩ := hZ q hq
    obtain ⟨b', hb', hlt, _⟩ := h.hp _ _ hk
    rw [hb] at hb'; cases hb'; exact hlt
  have hmem : ∀ p, p ∈ preL (Z, V, []) → p ∈ Z ∨ V = some p := by
    intro p hp
    unfold preL at hp
    rcases List.mem_append.1 hp with hp | hp
    · exact .inl hp
    · split at hp
      · rename_i v hv
        simp only [List.mem_singleton] at hp
        subst hp
        exact .inr hv
      · cases hp
  have key := h.step (dst := none) (c := 0) (e := ⟨none, [], preL (Z, V, [])⟩) (ρ' := { ρ with κ := κz }) (x := undef) (w' := w) (fun d hd => by cases hd) hlr rfl rfl rfl (Nat.le_refl _) (fun i _ _ => rfl) (fun m hm _ => hm)
    (fun i hi => by simp at hi) (fun v hv _ => absurd rfl hv) ?_ (fun i k hi => by simp at hi) (fun i j b b' hi => by simp at hi) ?_
  · refine ⟨{ ρ with κ := κz }, key, hlr, fun p hp => ?_⟩
    rcases hmem p hp with hp | hp
    · obtain ⟨_, k, hk, _⟩ := hZ p hp; exact ⟨k, hk⟩
    · obtain ⟨_, ⟨k, hk, _⟩, _⟩ := hV p.1 p.2 hp; exact ⟨k, hk⟩
  · intro p hp
    rcases hmem p hp with hp | hp
    · obtain ⟨_, k, hk, ho⟩ := hZ p hp
      exact ⟨⟨k, hk, ho⟩, fun b hb => hfz _ hlr hlent p hp b hb⟩
    · obtain ⟨m, k'⟩ := p
      obtain ⟨_, h2, h3⟩ := hV m k' hp
      exact ⟨h2, fun b hb => h3 _ hlr hlent b hb⟩
  · intro b o v hv
    rcases (hκz b o v).1 hv with hv | ⟨⟨q, b0, g1, g2, g3⟩, g4, g5⟩
    · exact .inl hv
    · refine .inr ⟨.inr ⟨q, b0, ?_, g2, g3, ?_⟩, g4, g5, fun i k b' hi => by simp at hi⟩
      · exact List.mem_append_left _ g1
      · intro p hp hpq
        rcases hmem p hp with hp | hp
        · exact (hZ p hp).1
        · obtain ⟨m, k'⟩ := p
          obtain ⟨h1, _, _⟩ := hV m k' hp
          have : memP m Z = true := memP_iff.2 ⟨q, g1, hpq.symm⟩
          rw [h1] at this; cases this
theorem wrs_sub {W : List (Nat × Blk)} {h h' : Nat → Option Blk} (hs : ∀ m k, h' m = some k → h m = some k) : ∀ m k, wrs W h' m = some k → wrs W h m = some k := by
  intro m k hk
  by_cases e : ∃ p, p ∈ W ∧ p.1 = m
  · obtain ⟨k2, _, hall⟩ := wrs_in (h := h) e
    rw [hall] at hk ⊢
    exact hk
  · have e' : ∀ p, p ∈ W → p.1 ≠ m := fun p hp he => e ⟨p, hp, he⟩
    rw [wrs_out e'] at hk ⊢
    exact hs m k hk
theorem effY1_sound (hsg : ∀ f σ, sg f = some σ → SumOK P G gw f σ) (h : Rel w0 N ρ s a w) (hcl : ∀ φ x, ρ.cl φ x → CloOK P gw ρ.κ φ x) (hgw : gw w)
    (hview : View G ρ s' a w) (hsub : ∀ m k, s'.hp m = some k → s.hp m = some k)
    {o : Oper} {c : Nat} {e : Eff} {p : List Prop} (he : effY1 P G sg o c s' = some (e, p)) (hp : All p) (hd : ∀ d, o.dst = some d → d < N)
    (hfresh : ∀ i, i < e.nw.length → s.hp (c + i) = none) :
    o.wpIn (Fd r) 0 P a w (fun a' w' => ∃ ρ', Rel w0 N ρ' (act o.dst c e s) a' w' ∧ ρ.le ρ') Q := by
  unfold effY1 at he
  split at he
  · exact effX_sound hsg h hcl hgw hview hsub he hp hd hfresh
  · rename_i q hq
    split at he
    · rename_i e1 p1 he1
      simp only [Option.some.injEq, Prod.mk.injEq] at he
      obtain ⟨rfl, rfl⟩ := he
      obtain ⟨hp0, hp1⟩ := All.append.1 hp
      have hset : ∃ ρ', Rel w0 N ρ' (wrS (preL q) s) a w ∧ ρ.le ρ' ∧ ∀ p, p ∈ preL q → ∃ k, s.hp p.1 = some k := by
        unfold preW at hq
        split at hq
        · split at hq
          · rename_i m len hx
            split at hq
            · rename_i el st L F hm
              simp only [Option.some.injEq] at hq
              subst hq
              refine h.settle [(m, .fz st L F)] none ?_ ?_ (fun m k' he => by cases he)
              · intro q hq
                simp only [List.mem_singleton] at hq
                subst hq
                exact ⟨rfl, _, hsub _ _ hm, rfl⟩
              · intro ρ' hle hl q hq bb hbb
                have hq' := hq
                simp only [List.mem_singleton] at hq
                subst hq
                obtain ⟨b', hb', _, xs, hh, g1, g2, g3, g4⟩ := hview.hp _ _ hm
                rw [hbb] at hb'; cases hb'
                refine ⟨g2, fun i j hi hj => ?_⟩
                obtain ⟨y, hy, hr⟩ := g4 i j hi hj
                exact ⟨y, hl.1 _ hq' bb hbb _ _ (by simp [World.cell?, hh, hy]), D.rel_mono hle.κ _ _ hr⟩
            · cases hq
          · cases hq
        · split at hq
          · split at hq
            · rename_i m n cap hy
              split at hq
              · rename_i el cs hm
                split at hq
                · cases hq
                · split at hq
                  · rename_i ds Z p0 hlend
                    split at hq
                    · rename_i hmem
                      simp only [Option.some.injEq] at hq
                      subst hq
                      have hhp := hview.hp
                      refine h.settle Z (some (m, .known el (ds.map toC))) ?_ ?_ ?_
                      · intro q hq
                        obtain ⟨h1, k, hk, ho⟩ := lendL_own (lend_ok s'.hp) hlend q hq
                        exact ⟨h1, k, hsub _ _ hk, ho⟩
                      · intro ρ' hle hl q hq bb hbb
                        exact lendL_fz (lend_ok s'.hp) hview.im hhp hlend hl hp0 q hq bb hbb hle (fun o v hv => hl.1 q hq bb hbb o v hv)
                      · intro m' k' he
                        simp only [Option.some.injEq, Prod.mk.injEq] at he
                        obtain ⟨rfl, rfl⟩ := he
                        refine ⟨hmem, ⟨_, hsub _ _ hm, rfl⟩, fun ρ' hle hl bb hbb => ?_⟩
                        obtain ⟨b', hb', _, xs, hf, hh⟩ := hhp _ _ hm
                        rw [hbb] at hb'; cases hb'
                        exact ⟨xs, f2_toC (lendL_rel (lend_ok s'.hp) hview.im hhp hle.κ hlend hl hp0 hf), hh⟩
                    · cases hq
                  · cases hq
              · cases hq
            · cases hq
          · split at hq
            · rename_i m len hx
              split at hq
              · rename_i el st L F hm
                split at hq
                · split at hq
                  · simp only [Option.some.injEq] at hq
                    subst hq
                    refine h.settle [(m, .fz st L F)] none ?_ ?_ (fun m k' he => by cases he)
                    · intro q hq
                      simp only [List.mem_singleton] at hq
                      subst hq
                      exact ⟨rfl, _, hsub _ _ hm, rfl⟩
                    · intro ρ' hle hl q hq bb hbb
                      have hq' := hq
                      simp only [List.mem_singleton] at hq
                      subst hq
                      obtain ⟨b', hb', _, xs, hh, g1, g2, g3, g4⟩ := hview.hp _ _ hm
                      rw [hbb] at hb'; cases hb'
                      refine ⟨g2, fun i j hi hj => ?_⟩
                      obtain ⟨y, hy, hr⟩ := g4 i j hi hj
                      exact ⟨y, hl.1 _ hq' bb hbb _ _ (by simp [World.cell?, hh, hy]), D.rel_mono hle.κ _ _ hr⟩
                  · cases hq
                · cases hq
              · cases hq
            · cases hq
          · cases hq
        · cases hq
      obtain ⟨ρ', hrel, hle, hin⟩ := hset
      have hsub' := wrs_sub (W := preL q) hsub
      have hv' : View G ρ' (wrS (preL q) s') a w := ⟨fun t v ht => V.rel_mono hle _ _ (hview.tm t v ht), fun m k hk => by obtain ⟨b, h1, h2, h3, _⟩ := hrel.hp m k (hsub' m k hk); exact ⟨b, h1, h2, h3⟩, hrel.im, fun g n F e => C.rel_mono hle _ _ (hview.gl g n F e)⟩
      have hpres : ∀ m, s.hp m = none → (wrS (preL q) s).hp m = none := by
        intro m hm
        refine (wrs_out fun p hp he => ?_).trans hm
        obtain ⟨k, hk⟩ := hin p hp
        rw [he, hm] at hk
        cases hk
      have key := effX_sound (r := r) (Q := Q) hsg hrel (fun φ x hx => CloOK.mono hle.κ (hcl φ x (by rw [← hle.cl]; exact hx))) hgw hv' hsub' he1 hp1 hd (fun i hi => hpres _ (hfresh i hi))
      refine Oper.wpIn_mono ?_ key
      rintro a' w' ⟨ρ2, g1, g2⟩
      rw [act_wrS] at g1
      exact ⟨ρ2, g1, Ren.le_trans hle g2⟩
    · cases he
theorem effY2_sound (hsg : ∀ f σ, sg f = some σ → SumOK P G gw f σ) (h : Rel w0 N ρ s a w) (hcl : ∀ φ x, ρ.cl φ x → CloOK P gw ρ.κ φ x) (hgw : gw w)
    (hview : View G ρ s' a w) (hsub : ∀ m k, s'.hp m = some k → s.hp m = some k)
    {o : Oper} {c : Nat} {e : Eff} {p : List Prop} (he : effY2 P G sg o c s' = some (e, p)) (hp : All p) (hd : ∀ d, o.dst = some d → d < N)
    (hfresh : ∀ i, i < e.nw.length → s.hp (c + i) = none) :
    o.wpIn (Fd r) 0 P a w (fun a' w' => ∃ ρ', Rel w0 N ρ' (act o.dst c e s) a' w' ∧ ρ.le ρ') Q := by
  unfold effY2 at he
  split at he
  · exact effY1_sound hsg h hcl hgw hview hsub he hp hd hfresh
  · rename_i q hq
    split at he
    · rename_i e1 p1 he1
      simp only [Option.some.injEq, Prod.mk.injEq] at he
      obtain ⟨rfl, rfl⟩ := he
      obtain ⟨hp0, hp1⟩ := All.append.1 hp
      have hset : ∃ ρ', Rel w0 N ρ' (wrS (preL q) s) a w ∧ ρ.le ρ' ∧ ∀ p, p ∈ preL q → ∃ k, s.hp p.1 = some k := by
        unfold preX at hq
        split at hq
        · split at hq
          · split at hq
            · rename_i m n cap hy
              split at hq
              · rename_i el cs hm
                split at hq
                · cases hq
                · split at hq
                  · rename_i ds Z p0 hlend
                    split at hq
                    · rename_i hmem
                      simp only [Option.some.injEq] at hq
                      subst hq
                      have hhp := hview.hp
                      refine h.settle Z (some (m, .known el (ds.map toC))) ?_ ?_ ?_
                      · intro q hq
                        obtain ⟨h1, k, hk, ho⟩ := lendL_own (lend_ok s'.hp) hlend q hq
                        exact ⟨h1, k, hsub _ _ hk, ho⟩
                      · intro ρ' hle hl q hq bb hbb
                        exact lendL_fz (lend_ok s'.hp) hview.im hhp hlend hl hp0 q hq bb hbb hle (fun o v hv => hl.1 q hq bb hbb o v hv)
                      · intro m' k' he
                        simp only [Option.some.injEq, Prod.mk.injEq] at he
                        obtain ⟨rfl, rfl⟩ := he
                        refine ⟨hmem, ⟨_, hsub _ _ hm, rfl⟩, fun ρ' hle hl bb hbb => ?_⟩
                        obtain ⟨b', hb', _, xs, hf, hh⟩ := hhp _ _ hm
                        rw [hbb] at hb'; cases hb'
                        exact ⟨xs, f2_toC (lendL_rel (lend_ok s'.hp) hview.im hhp hle.κ hlend hl hp0 hf), hh⟩
                    · cases hq
                  · cases hq
              · cases hq
            · cases hq
          · cases hq
        · cases hq
      obtain ⟨ρ', hrel, hle, hin⟩ := hset
      have hsub' := wrs_sub (W := preL q) hsub
      have hv' : View G ρ' (wrS (preL q) s') a w := ⟨fun t v ht => V.rel_mono hle _ _ (hview.tm t v ht), fun m k hk => by obtain ⟨b, h1, h2, h3, _⟩ := hrel.hp m k (hsub' m k hk); exact ⟨b, h1, h2, h3⟩, hrel.im, fun g n F e => C.rel_mono hle _ _ (hview.gl g n F e)⟩
      have hpres : ∀ m, s.hp m = none → (wrS (preL q) s).hp m = none := by
        intro m hm
        refine (wrs_out fun p hp he => ?_).trans hm
        obtain ⟨k, hk⟩ := hin p hp
        rw [he, hm] at hk
        cases hk
      have key := effY1_sound (r := r) (Q := Q) hsg hrel (fun φ x hx => CloOK.mono hle.κ (hcl φ x (by rw [← hle.cl]; exact hx))) hgw hv' hsub' he1 hp1 hd (fun i hi => hpres _ (hfresh i hi))
      refine Oper.wpIn_mono ?_ key
      rintro a' w' ⟨ρ2, g1, g2⟩
      rw [act_wrS] at g1
      exact ⟨ρ2, g1, Ren.le_trans hle g2⟩
    · cases he
end
def copyK (P : Program) (G : GT) (o : Oper) (s : S) : Option Eff :=
  match o.op with
  | .call cl => (match cl.callee, cl.args.toList, cl.argTypes.toList with
    | .builtin .copy, [x, y], [t, t'] => (match look G s x, look G s y, P.underlying t with
      | some (.a (.c (.sl m off n cap))), some (.a (.c (.sl m' off' n' cap'))), some (.slice el) => (match P.info? el, s.hp m, s.hp m' with
        | some i, some (.known e cs), some (.known e' cs') => (match Nat.beq i.size 1 && Nat.ble (off + n) cs.length && Nat.ble (off' + n') cs'.length with
          | true => some ⟨some (.a (.c (.num .i64 ((Nat.min n' n : Nat) : Int)))), [], [(m, .known e (cs.take off ++ (cs'.drop off').take (Nat.min n' n) ++ cs.drop (off + Nat.min n' n)))]⟩
          | false => none)
        | _, _, _ => none)
      | _, _, _ => none)
    | _, _, _ => none)
  | _ => none
section
variable {P : Program} {G : GT} {N : Nat} {r : Option Nat} {gw : World → Prop} {w0 : World} {ρ : Ren} {s s' : S} {a : Act} {w : World} {Q : Exit → Act → World → Prop}
theorem copyK_sound (h : Rel w0 N ρ s a w) (hview : View G ρ s' a w) (hsub : ∀ m k, s'.hp m = some k → s.hp m = some k)
    {o : Oper} {c : Nat} {e : Eff} (he : copyK P G o s' = some e) (hd : ∀ d, o.dst = some d → d < N) :
    o.wpIn (Fd r) 0 P a w (fun a' w' => ∃ ρ', Rel w0 N ρ' (act o.dst c e s) a' w' ∧ ρ.le ρ') Q := by
  unfold copyK at he
  split at he
  case h_2 => cases he
  rename_i cl ho
  have hdf : ∀ c, o.op ≠ .defer c := by simp [ho]
  split at he
  case h_2 => cases he
  rename_i x y t t' hcal hargs htys
  split at he
  case h_2 => cases he
  rename_i m off n cap m' off' n' cap' el hx hy hu
  split at he
  case h_2 => cases he
  rename_i i e0 cs e' cs' hi hm hm'
  split at he
  case h_2 => cases he
  rename_i hok
  simp only [Option.some.injEq] at he; subst he
  simp only [Bool.and_eq_true] at hok
  have g1 : i.size = 1 := Nat.eq_of_beq_eq_true hok.1.1
  have g2 := Nat.le_of_ble_eq_true hok.1.2
  have g3 := Nat.le_of_ble_eq_true hok.2
  have ha : cl.args = #[x, y] := by apply Array.ext'; simpa using hargs
  have hat : cl.argTypes = #[t, t'] := by apply Array.ext'; simpa using htys
  obtain ⟨b, hb, hxv⟩ := look_rel hview hx
  have hxv : a.eval x = .slice (some ⟨b.1, off, none⟩) n cap := hxv
  obtain ⟨d, hdb, hyv⟩ := look_rel hview hy
  have hyv : a.eval y = .slice (some ⟨d.1, off', none⟩) n' cap' := hyv
  obtain ⟨b', hb', hlt, xs, hf, hh⟩ := hview.hp m _ hm
  rw [hb] at hb'; cases hb'
  obtain ⟨d', hd2, hlt2, ys, hf2, hh2⟩ := hview.hp m' _ hm'
  rw [hdb] at hd2; cases hd2
  have hfd := f2_take (f2_drop hf2 off') (Nat.min n' n)
  have hk1 : Nat.min n' n ≤ n' := Nat.min_le_left n' n
  have hk2 : Nat.min n' n ≤ n := Nat.min_le_right n' n
  have hlx : cs.length = xs.length := f2_len hf
  have hly : cs'.length = ys.length := f2_len hf2
  obtain ⟨k, hke⟩ : ∃ k, k = Nat.min n' n := ⟨_, rfl⟩
  rw [← hke] at hfd hk1 hk2 ⊢
  have hk : ((ys.drop off').take k).length = k := by rw [List.length_take, List.length_drop]; omega
  have hcopy := run_copy_row P w t t' o.type el b.1 off n cap ⟨d.1, off', none⟩ n' cap' xs.toArray e0 ((ys.drop off').take k) hu (by simp [hi, g1]) hh (by rw [hk]; exact hke)
    (fun j v hj => by
      rw [Addr.add_lit]
      have hj' := (List.getElem?_eq_some_iff.1 hj).1
      rw [hk] at hj'
      rw [List.getElem?_take, if_pos hj', List.getElem?_drop] at hj
      simp [World.cell?, hh2, hj]) (by rw [hk]; simp; omega) (f2_oneCell hfd)
  rw [hk] at hcopy
  have hrun : (execOp a.eval o).run P w = .ok (.value (.int .i64 (k : Int))) (w.setRow b.1 (xs.take off ++ (ys.drop off').take k ++ xs.drop (off + k)).toArray) := by
    simp [execOp, ho, resolve, hcal, ha, hat, invoke, builtin, hxv, hyv, hcopy, goInt]
  refine ow_value hrun hdf ?_
  refine ⟨ρ, ?_, Ren.le_refl _⟩
  refine h.wrote hd (hsub m _ hm) rfl hb rfl rfl rfl (size_setRow _ _ _) ?_ ?_ (fun v' hv' => by cases hv'; rfl)
  · intro j hj; simp [World.setRow, Array.getElem?_modify, Ne.symm hj]
  · exact ⟨_, f2_append (f2_append (f2_take hf off) hfd) (f2_drop hf _), setRow_heap w b.1 xs.toArray _ e0 _ hh⟩
end
def litB (G : GT) (s : S) : Option Operand → Option (Option Nat)
  | none => some none
  | some x => (match look G s x with
    | some (.a (.c (.num _ (.ofNat n)))) => some (some n)
    | _ => none)
def cutK (P : Program) (G : GT) (o : Oper) (s : S) : Option Eff :=
  match o.op with
  | .slice t x lo hi none => (match look G s x, P.underlying t, litB G s lo, litB G s hi with
    | some (.a (.c (.sl m off n cap))), some (.slice e), some (some l), some none => (match P.info? e with
      | some i => (match Nat.ble l n && Nat.blt l cap && Nat.ble n cap with
        | true => some ⟨some (.a (.c (.sl m (off + l * i.size) (n - l) (cap - l)))), [], []⟩
        | false => none)
      | none => none)
    | some (.a (.c (.sl m off n cap))), some (.slice e), some none, some (some h) => (match P.info? e with
      | some i => (match Nat.ble h cap && Nat.blt 0 cap with
        | true => some ⟨some (.a (.c (.sl m off h cap))), [], []⟩
        | false => none)
      | none => none)
    | _, _, _, _ => none)
  | _ => none
section
variable {P : Program} {G : GT} {N : Nat} {r : Option Nat} {gw : World → Prop} {w0 : World} {ρ : Ren} {s s' : S} {a : Act} {w : World} {Q : Exit → Act → World → Prop}
theorem litB_some (h : View G ρ s a w) {o : Option Operand} {n : Nat} (e : litB G s o = some (some n)) : ∃ x k, o = some x ∧ a.eval x = .int k n := by
  unfold litB at e
  split at e
  · cases e
  · rename_i x
    split at e
    · rename_i k m hx
      simp only [Option.some.injEq] at e
      subst e
      exact ⟨x, k, rfl, look_rel h hx⟩
    · cases e
theorem litB_none {o : Option Operand} (e : litB G s o = some none) : o = none := by
  unfold litB at e
  split at e
  · rfl
  · split at e <;> cases e
theorem cutK_sound (h : Rel w0 N ρ s a w) (hview : View G ρ s' a w)
    {o : Oper} {c : Nat} {e : Eff} (he : cutK P G o s' = some e) (hd : ∀ d, o.dst = some d → d < N) :
    o.wpIn (Fd r) 0 P a w (fun a' w' => ∃ ρ', Rel w0 N ρ' (act o.dst c e s) a' w' ∧ ρ.le ρ') Q := by
  unfold cutK at he
  split at he
  case h_2 => cases he
  rename_i t x lo hi ho
  have hdf : ∀ c, o.op ≠ .defer c := by simp [ho]
  split at he
  · rename_i m off n cap el l hx hu hlo hhi
    split at he
    case h_2 => cases he
    rename_i i hi'
    split at he
    case h_2 => cases he
    rename_i hok
    simp only [Option.some.injEq] at he; subst he
    simp only [Bool.and_eq_true] at hok
    have g1 := Nat.le_of_ble_eq_true hok.1.1
    have g2 : l < cap := by simpa [Nat.blt_eq] using hok.1.2
    have g3 := Nat.le_of_ble_eq_true hok.2
    obtain ⟨xl, kl, rfl, hxl⟩ := litB_some hview hlo
    obtain rfl := litB_none hhi
    obtain ⟨b, hb, hxv⟩ := look_rel hview hx
    have hxv : a.eval x = .slice (some ⟨b.1, off, none⟩) n cap := hxv
    have hne : ¬ cap - l = 0 := by omega
    have hne2 : ¬ l = cap := by omega
    have hrun : (execOp a.eval o).run P w = .ok (.value (.slice (some ⟨b.1, off + l * i.size, none⟩) (n - l) (cap - l))) w := by
      simp [execOp, ho, hxv, hxl, Instr.sliceAt, Instr.slice, Instr.sliceBounds, Instr.sliceBound, asIntOf, run_underlying hu, run_sizeOf' P hi', g1, g2, g3, hne, hne2, Addr.add_lit]
      exact fun e => absurd e.symm hne2
    exact ow_value hrun hdf ⟨ρ, h.quiet hd (fun v' hv' => by cases hv'; exact ⟨b, hb, rfl⟩), Ren.le_refl _⟩
  · rename_i m off n cap el l hx hu hlo hhi
    split at he
    case h_2 => cases he
    rename_i i hi'
    split at he
    case h_2 => cases he
    rename_i hok
    simp only [Option.some.injEq] at he; subst he
    simp only [Bool.and_eq_true] at hok
    have g1 := Nat.le_of_ble_eq_true hok.1
    have g2 : 0 < cap := by simpa [Nat.blt_eq] using hok.2
    obtain ⟨xl, kl, rfl, hxl⟩ := litB_some hview hhi
    obtain rfl := litB_none hlo
    obtain ⟨b, hb, hxv⟩ := look_rel hview hx
    have hxv : a.eval x = .slice (some ⟨b.1, off, none⟩) n cap := hxv
    have hne : ¬ cap = 0 := by omega
    have hne2 : ¬ 0 = cap := by omega
    have hrun : (execOp a.eval o).run P w = .ok (.value (.slice (some ⟨b.1, off, none⟩) l cap)) w := by
      have had : (⟨b.1, off, none⟩ : Addr).add 0 = ⟨b.1, off, none⟩ := by simp [Addr.add]
      simp [execOp, ho, hxv, hxl, Instr.sliceAt, Instr.slice, Instr.sliceBounds, Instr.sliceBound, asIntOf, run_underlying hu, run_sizeOf' P hi', g1, g2, hne, hne2, had]
    exact ow_value hrun hdf ⟨ρ, h.quiet hd (fun v' hv' => by cases hv'; exact ⟨b, hb, rfl⟩), Ren.le_refl _⟩
  · cases he
end
def growZ (P : Program) (G : GT) (o : Oper) (c : Nat) (s : S) : Option (Eff × List Prop) :=
  match o.op with
  | .call cl => (match cl.callee, cl.args.toList, cl.argTypes.toList with
    | .builtin .append, [x, y], [t, t'] => (match look G s x, (look G s y).map numC, P.underlying t, P.underlying t' with
      | some (.a (.c .nsl)), some (some (_, n)), some (.slice e), some (.int _) => (match P.info? e with
        | some i => (match i.zero with
          | some z => (match ofCells true z.cells.toList, decide (i.bytes ≤ 1000000) && Nat.beq z.cells.size i.size && Nat.blt 0 i.size with
            | some zl, true => (match toDs zl with
              | some ds => some (⟨some (.a (.c (.gsl c n.toNat))), [.row e i.size n.toNat (fun _ j => ds.getD j .nilp)], []⟩, [0 < n, n ≤ 1000000])
              | none => none)
            | _, _ => none)
          | none => none)
        | none => none)
      | _, _, _, _ => none)
    | _, _, _ => none)
  | .slice t x none hi none => (match look G s x, P.underlying t, bnd1 G s hi with
    | some (.a (.c .nsl)), some (.slice e), some h => (match P.info? e with | some _ => some (⟨some (.a (.c .nsl)), [], []⟩, [h = 0]) | none => none)
    | _, _, _ => none)
  | _ => none
section
variable {P : Program} {G : GT} {N : Nat} {r : Option Nat} {gw : World → Prop} {w0 : World} {ρ : Ren} {s s' : S} {a : Act} {w : World} {Q : Exit → Act → World → Prop}
theorem growZ_sound (h : Rel w0 N ρ s a w) (hview : View G ρ s' a w)
    {o : Oper} {c : Nat} {e : Eff} {p : List Prop} (he : growZ P G o c s' = some (e, p)) (hp : All p) (hd : ∀ d, o.dst = some d → d < N) (hfresh : ∀ i, i < e.nw.length → s.hp (c + i) = none) :
    o.wpIn (Fd r) 0 P a w (fun a' w' => ∃ ρ', Rel w0 N ρ' (act o.dst c e s) a' w' ∧ ρ.le ρ') Q := by
  unfold growZ at he
  split at he
  · rename_i cl ho
    have hdf : ∀ c, o.op ≠ .defer c := by simp [ho]
    split at he
    case h_2 => cases he
    rename_i x y t t' hcal hargs htys
    split at he
    case h_2 => cases he
    rename_i k n el kk hx hy hu hu'
    split at he
    case h_2 => cases he
    rename_i i hi
    split at he
    case h_2 => cases he
    rename_i z hz
    split at he
    case h_2 => cases he
    rename_i zl hzl hok
    split at he
    case h_2 => cases he
    rename_i ds hds
    simp only [Option.some.injEq, Prod.mk.injEq] at he; obtain ⟨rfl, rfl⟩ := he
    obtain ⟨p1, p2, _⟩ := hp
    simp only [Bool.and_eq_true, decide_eq_true_eq] at hok
    have g1 := hok.1.1
    have g2 : z.cells.size = i.size := Nat.eq_of_beq_eq_true hok.1.2
    have g3 : 0 < i.size := by simpa [Nat.blt_eq] using hok.2
    have ha : cl.args = #[x, y] := by apply Array.ext'; simpa using hargs
    have hat : cl.argTypes = #[t, t'] := by apply Array.ext'; simpa using htys
    have hxv : a.eval x = .slice none 0 0 := look_rel hview hx
    obtain ⟨vy, hvy, hny⟩ := Option.map_eq_some_iff.1 hy
    have hyv : a.eval y = .int k n := numC_rel hny (look_rel hview hvy)
    obtain ⟨m, rfl⟩ : ∃ m : Nat, n = (m : Int) := ⟨n.toNat, by omega⟩
    have hm0 : 0 < m := by omega
    have hm1 : m ≤ 1000000 := by omega
    have hfit : Builtin.nextslicecap (0 + m) 0 * i.bytes ≤ 281474976710656 := by
      rw [Nat.zero_add, nextslicecap_zero hm0]
      exact Nat.le_trans (Nat.mul_le_mul hm1 g1) (by decide)
    have hrun0 := Lib.run_append_grow_zeros (P := P) w t t' o.type el i z k kk hu hu' hi hz none 0 0 [] (by simp [Builtin.firstCells]) m hm0 g3 (by omega) (by omega) (Nat.le_trans (Nat.mul_le_mul hm1 g1) (by decide)) hfit
    rw [Nat.zero_add] at hrun0
    have hcap := grownCap_ge w m 0 el
    have hmx : grownCap w m 0 el ≤ maxLen := grownCap_le_maxLen w m 0 el (by simp only [maxLen]; omega)
    obtain ⟨w', hw'⟩ : ∃ w', w' = w.drew.alloc (.cells (([] : List Value).toArray ++ Builtin.zeroCells z.cells m ++ Builtin.zeroCells z.cells (grownCap w m 0 el - m)) el) := ⟨_, rfl⟩
    rw [← hw'] at hrun0
    have hrun : (execOp a.eval o).run P w = .ok (.value (.slice (some ⟨w.heap.size, 0, none⟩) m (grownCap w m 0 el))) w' := by
      simp [execOp, ho, resolve, hcal, ha, hat, invoke, builtin, hxv, hyv, hrun0]
    refine ow_value hrun hdf ?_
    have hf := h.dom c (hfresh 0 (by simp))
    have hnew : w'.heap[w.heap.size]? = some (.cells (([] : List Value).toArray ++ Builtin.zeroCells z.cells m ++ Builtin.zeroCells z.cells (grownCap w m 0 el - m)) el) := by rw [hw']; exact heap_alloc_new w.drew _
    have hgl : w.heap.size < w'.heap.size := (Array.getElem?_eq_some_iff.1 hnew).1
    have hold : ∀ j, j < w.heap.size → w'.heap[j]? = w.heap[j]? := fun j hj => by rw [hw']; exact heap_alloc_old w.drew _ hj
    refine ⟨ρ.new c (w.heap.size, grownCap w m 0 el), h.step hd (new_le hf _) (by rw [hw']; rfl) (by rw [hw']; rfl) (by rw [hw']; rfl) (by omega) ?_ ?_ ?_ ?_ (fun pr hpr => by cases hpr) ?_ ?_ (fun b o v hv => .inl hv), new_le hf _⟩
    · intro j hj _; exact hold j hj
    · intro m' hm' hout
      simp only [List.length_singleton] at hout
      show upd ρ.nm c (some _) m' = none
      rw [upd_ne _ _ (by omega)]; exact hm'
    · intro j hj; simp at hj; subst hj; exact hfresh 0 (by simp)
    · intro u _ hu; cases hu; exact ⟨_, new_same, by simp⟩
    · intro j k' hj
      cases j with
      | succ j => simp at hj
      | zero =>
        simp at hj; subst hj
        refine ⟨_, new_same, hgl, ?_, .inl (Nat.le_refl _)⟩
        have hzc : F2 (D.rel ρ.κ) ds z.cells.toList := toDs_rel hds (ofCells_rel ρ hzl)
        refine ⟨(([] : List Value).toArray ++ Builtin.zeroCells z.cells m ++ Builtin.zeroCells z.cells (grownCap w m 0 el - m)).toList, by rw [Array.toArray_toList]; exact hnew, ?_, by simpa using hcap, hmx, ?_⟩
        · simp [size_zeroCells, g2, ← Nat.add_mul]
          rw [Nat.add_sub_cancel' hcap]
        · intro i' j' hi' hj'
          obtain ⟨u, hu, hr⟩ := getD_rel hzc (k := j') (by simp; omega)
          refine ⟨u, ?_, hr⟩
          have hi' : i' < m := by simpa using hi'
          have hlt : i' * i.size + j' < m * z.cells.size := by rw [g2]; exact el_lt hi' hj'
          have hmod : (i' * i.size + j') % z.cells.size = j' := by rw [g2, Nat.mul_comm, Nat.mul_add_mod]; exact Nat.mod_eq_of_lt hj'
          have hu' : z.cells[j']? = some u := by simpa using hu
          have hsz : i' * i.size + j' < (Builtin.zeroCells z.cells m).toList.length := by simpa [size_zeroCells] using hlt
          rw [Array.toList_append, Array.toList_append]
          simp only [List.nil_append]
          rw [List.getElem?_append_left hsz]
          simp only [Builtin.zeroCells, Array.toList_map, Array.toList_range, List.getElem?_map, List.getElem?_range hlt, Option.map_some, hmod]
          simp [getElem!_def, hu']
    · intro j j' b b' hj hj' hne; simp at hj hj'; omega
  · rename_i t x hi ho
    have hdf : ∀ c, o.op ≠ .defer c := by simp [ho]
    split at he
    case h_2 => cases he
    rename_i el hh hx hu hb
    split at he
    case h_2 => cases he
    rename_i i hi'
    simp only [Option.some.injEq, Prod.mk.injEq] at he; obtain ⟨rfl, rfl⟩ := he
    obtain ⟨p1, _⟩ := hp
    subst p1
    obtain ⟨xh, kh, rfl, hxh⟩ := bnd1_rel hview hb
    have hxv : a.eval x = .slice none 0 0 := look_rel hview hx
    have hrun : (execOp a.eval o).run P w = .ok (.value (.slice none 0 0)) w := by
      simp [execOp, ho, hxv, hxh, Instr.sliceAt, Instr.slice, Instr.sliceBounds, Instr.sliceBound, asIntOf, run_underlying hu, run_sizeOf' P hi']
    exact ow_value hrun hdf ⟨ρ, h.quiet hd (fun v' hv' => by cases hv'; rfl), Ren.le_refl _⟩
  · cases he
end
def noRest (sg : FuncId → Option Sm) (o : Oper) : Bool := match o.op with
  | .call cl => (match cl.callee with
    | .builtin .len => (match sg 2 with | some _ => true | none => false)
    | _ => false)
  | _ => false
def effY (P : Program) (G : GT) (sg : FuncId → Option Sm) (o : Oper) (c : Nat) (s : S) : Option (Eff × List Prop) :=
  match copyK P G o s with
  | some e => some (e, [])
  | none => (match cutK P G o s with
    | some e => some (e, [])
    | none => (match growZ P G o c s with
      | some r => some r
      | none => (match noRest sg o with | true => effX P G sg o c s | false => effY2 P G sg o c s)))
section
variable {P : Program} {G : GT} {N : Nat} {r : Option Nat} {sg : FuncId → Option Sm} {gw : World → Prop} {w0 : World} {ρ : Ren} {s s' : S} {a : Act} {w : World} {Q : Exit → Act → World → Prop}
theorem effY_sound (hsg : ∀ f σ, sg f = some σ → SumOK P G gw f σ) (h : Rel w0 N ρ s a w) (hcl : ∀ φ x, ρ.cl φ x → CloOK P gw ρ.κ φ x) (hgw : gw w)
    (hview : View G ρ s' a w) (hsub : ∀ m k, s'.hp m = some k → s.hp m = some k)
    {o : Oper} {c : Nat} {e : Eff} {p : List Prop} (he : effY P G sg o c s' = some (e, p)) (hp : All p) (hd : ∀ d, o.dst = some d → d < N)
    (hfresh : ∀ i, i < e.nw.length → s.hp (c + i) = none) :
    o.wpIn (Fd r) 0 P a w (fun a' w' => ∃ ρ', Rel w0 N ρ' (act o.dst c e s) a' w' ∧ ρ.le ρ') Q := by
  unfold effY at he
  split at he
  · rename_i e1 he1
    simp only [Option.some.injEq, Prod.mk.injEq] at he
    obtain ⟨rfl, _⟩ := he
    exact copyK_sound h hview hsub he1 hd
  · split at he
    · rename_i e1 he1
      simp only [Option.some.injEq, Prod.mk.injEq] at he
      obtain ⟨rfl, _⟩ := he
      exact cutK_sound h hview he1 hd
    · split at he
      · rename_i e1 he1
        simp only [Option.some.injEq] at he
        subst he
        exact growZ_sound h hview he1 hp hd hfresh
      · split at he
        · exact effX_sound hsg h hcl hgw hview hsub he hp hd hfresh
        · exact effY2_sound hsg h hcl hgw hview hsub he hp hd hfresh
end
end Go.V
end

section
set_option linter.unusedVariables false
set_option linter.unusedSimpArgs false
namespace Go.V
open Go.RowKit (Below)
theorem f2_of_get {α β : Type} {R : α → β → Prop} : ∀ {l : List α} {k : List β}, l.length = k.length → (∀ j, j < l.length → ∃ x y, l[j]? = some x ∧ k[j]? = some y ∧ R x y) → F2 R l k
  | [], [], _, _ => .nil
  | [], _ :: _, h, _ => by cases h
  | _ :: _, [], h, _ => by cases h
  | x :: l, y :: k, h, hg => by
    obtain ⟨x', y', h1, h2, h3⟩ := hg 0 (Nat.succ_pos _)
    simp only [List.getElem?_cons_zero, Option.some.injEq] at h1 h2
    subst h1 h2
    refine .cons h3 (f2_of_get (by simpa using h) fun j hj => ?_)
    obtain ⟨x', y', h1, h2, h3⟩ := hg (j + 1) (by simpa using hj)
    exact ⟨x', y', by simpa using h1, by simpa using h2, h3⟩
def subS (b : ByteArray) (l h : Int) : ByteArray := b.extract l.toNat h.toNat
def catS (a b : ByteArray) : ByteArray := a ++ b
def bndS (o : Option Int) (d : Int) : Int := match o with | some n => n | none => d
def u8s : List C → Option (List UInt8 × List Prop)
  | [] => some ([], [])
  | c :: l => match numC (.a (.c c)), u8s l with
    | some (.u8, v), some (r, p) => some (UInt8.ofNat v.toNat :: r, (0 ≤ v ∧ v < 256) :: p)
    | _, _ => none
theorem u8s_len : ∀ {cs : List C} {bs : List UInt8} {p : List Prop}, u8s cs = some (bs, p) → bs.length = cs.length := by
  intro cs
  induction cs with
  | nil => intro bs p h; simp [u8s] at h; simp [← h.1]
  | cons c l ih =>
    intro bs p h
    unfold u8s at h
    split at h
    · rename_i v r q hv hr
      simp only [Option.some.injEq, Prod.mk.injEq] at h
      obtain ⟨rfl, _⟩ := h
      simp [ih hr]
    · cases h
theorem u8s_rel {ρ : Ren} : ∀ {cs : List C} {bs : List UInt8} {p : List Prop} {xs : List Value}, u8s cs = some (bs, p) → All p → F2 (C.rel ρ) cs xs →
    ∀ j (hj : j < bs.length), xs[j]? = some (.int .u8 (bs[j].toNat : Int)) := by
  intro cs
  induction cs with
  | nil => intro bs p xs h _ _ j hj; simp [u8s] at h; rw [h.1] at hj; exact absurd hj (Nat.not_lt_zero _)
  | cons c l ih =>
    intro bs p xs h hp r j hj
    unfold u8s at h
    split at h
    · rename_i v r' q hv hr
      simp only [Option.some.injEq, Prod.mk.injEq] at h
      obtain ⟨rfl, rfl⟩ := h
      obtain ⟨⟨p0, p1⟩, p2⟩ := hp
      cases r with
      | cons r0 rs =>
        cases j with
        | zero =>
          have := numC_rel (ρ := ρ) hv r0
          subst this
          simp only [List.getElem?_cons_zero, List.getElem_cons_zero, Option.some.injEq, Value.int.injEq, true_and]
          rw [UInt8.toNat_ofNat']
          omega
        | succ j => simpa using ih hr p2 rs j (by simpa using hj)
    · cases h
def boxD (t : TypeId) : V → Option D
  | .a (.agg cs) => (match toDs cs with | some ds => some (.ifd t true ds.length (fun j => ds.getD j .nilp)) | none => none)
  | .a (.c c) => (match toD c with | some d => some (.ifd t false 1 (fun _ => d)) | none => none)
  | .tup _ => none
theorem boxD_rel {ρ : Ren} {t : TypeId} {v : V} {d : D} (h : boxD t v = some d) {x : Value} (r : v.rel ρ x) : d.rel ρ.κ (.iface t x) := by
  unfold boxD at h
  split at h
  · split at h
    · rename_i ds hds
      simp only [Option.some.injEq] at h; subst h
      obtain ⟨xs, hf, rfl⟩ := r
      have hd := toDs_rel hds hf
      refine .inr ⟨rfl, xs, (f2_len hd).symm, rfl, fun j hj => ?_⟩
      have hj' : ds[j]? = some ds[j] := List.getElem?_eq_getElem hj
      obtain ⟨y, hy, hr⟩ := f2_get hd hj'
      exact ⟨y, hy, by simpa [List.getD, hj] using hr⟩
    · cases h
  · split at h
    · rename_i d' hd
      simp only [Option.some.injEq] at h; subst h
      exact .inl ⟨rfl, x, rfl, Nat.zero_lt_one, toD_rel hd r⟩
    · cases h
  · cases h
def unboxD (g : Bool) (n : Nat) (F : Nat → D) : A := match g with
  | true => .agg ((List.range n).map fun j => toC (F j))
  | false => .c (toC (F 0))
theorem unboxD_rel {ρ : Ren} {t : TypeId} {g : Bool} {n : Nat} {F : Nat → D} {x : Value} (r : (D.ifd t g n F).rel ρ.κ x) : ∃ y, x = .iface t y ∧ (unboxD g n F).rel ρ y := by
  rcases r with ⟨rfl, y, rfl, _, h⟩ | ⟨rfl, xs, h1, rfl, h2⟩
  · exact ⟨y, rfl, toC_rel h⟩
  · refine ⟨_, rfl, xs, ?_, rfl⟩
    refine f2_of_get (by simp [h1]) fun j hj => ?_
    simp only [List.length_map, List.length_range] at hj
    obtain ⟨y, hy, hr⟩ := h2 j hj
    exact ⟨_, y, by simp [hj], hy, toC_rel hr⟩
def isIf : TypeDesc → Bool | .interface _ => true | _ => false
def nilI : Operand → Bool
  | .const .nilIface => true
  | _ => false
section
variable (P : Program) (G : GT)
def strK (o : Oper) (c : Nat) (s : S) : Option (Eff × List Prop) :=
  match o.op with
  | .makeInterface t x => (match P.underlying t, look G s x with
    | some d, some v => (match isIf d, boxD t v with
      | false, some d => some (⟨some (.a (.c (.im d))), [], []⟩, [])
      | _, _ => none)
    | _, _ => none)
  | .typeAssert x _ ty ok => (match look G s x, P.underlying ty with
    | some (.a (.c (.im (.ifd t g n F)))), some d => (match isIf d, Nat.beq t ty, ok with
      | false, true, true => some (⟨some (.tup [unboxD g n F, .c (.lit true)]), [], []⟩, [])
      | false, true, false => some (⟨some (.a (unboxD g n F)), [], []⟩, [])
      | false, false, true => (match P.info? ty with
        | some i => (match i.zero with
          | some z => (match ofVal true z with | some a => some (⟨some (.tup [a, .c (.lit false)]), [], []⟩, []) | none => none)
          | none => none)
        | none => none)
      | _, _, _ => none)
    | _, _ => none)
  | .binOp .eql t x y _ => (match look G s x, P.underlying t, nilI y with
    | some (.a (.c (.im (.ifx b)))), some (.interface _), true => some (⟨some (.a (.c (.bool b))), [], []⟩, [])
    | _, _, _ => none)
  | .binOp .neq t x y _ => (match look G s x, P.underlying t, nilI y with
    | some (.a (.c (.im (.ifx b)))), some (.interface _), true => some (⟨some (.a (.c (.bool (!b)))), [], []⟩, [])
    | _, _, _ => none)
  | .binOp .add t x y _ => (match look G s x, look G s y with
    | some (.a (.c (.str a))), some (.a (.c (.str b))) => some (⟨some (.a (.c (.str (catS a b)))), [], []⟩, [a.size + b.size ≤ 9223372036854775807])
    | _, _ => none)
  | .slice t x lo hi none => (match look G s x, P.underlying t, bndOf G s lo, bndOf G s hi with
    | some (.a (.c (.str b))), some .string, some l, some h =>
      some (⟨some (.a (.c (.str (subS b (bndS l 0) (bndS h b.size))))), [], []⟩, [0 ≤ bndS l 0, bndS l 0 ≤ bndS h b.size, bndS h b.size ≤ (b.size : Int)])
    | _, _, _, _ => none)
  | .convert src dst x => (match look G s x, P.underlying src, P.underlying dst with
    | some (.a (.c (.sl m 0 n cap))), some (.slice e), some .string => (match P.underlying e, s.hp m with
      | some (.int .u8), some (.known _ cs) => (match Nat.ble n cs.length, u8s (cs.take n) with
        | true, some (bs, p) => some (⟨some (.a (.c (.str ⟨bs.toArray⟩))), [], []⟩, p)
        | _, _ => none)
      | _, _ => none)
    | _, _, _ => none)
  | _ => none
end
section
variable {P : Program} {G : GT} {N : Nat} {r : Option Nat} {gw : World → Prop} {w0 : World} {ρ : Ren} {s s' : S} {a : Act} {w : World} {Q : Exit → Act → World → Prop}
theorem run_equalIn_nilI {P : Program} (w : World) (d : Nat) (t : TypeId) {ms : Array (String × TypeId)} (h : P.underlying t = some (.interface ms)) : (Op.equalIn (d + 1) t .nilIface .nilIface).run P w = .ok true w := by
  simp [Op.equalIn, run_underlying h]
theorem run_equalIn_someI {P : Program} (w : World) (d : Nat) (t ty : TypeId) (v : Value) {ms : Array (String × TypeId)} (h : P.underlying t = some (.interface ms)) : (Op.equalIn (d + 1) t (.iface ty v) .nilIface).run P w = .ok false w := by
  simp [Op.equalIn, run_underlying h]
theorem nilI_eq {y : Operand} (h : nilI y = true) : y = .const .nilIface := by
  unfold nilI at h
  split at h
  · rfl
  · cases h
theorem run_eqNil {P : Program} (w : World) (op : BinOp) (t : TypeId) (x : Operand) (u : Value) (hu : (∃ ty v, u = .iface ty v) ∨ u = .nilIface) : (eqGuard op t x (.const .nilIface) u .nilIface).run P w = .ok () w := by
  rcases hu with ⟨ty, v, rfl⟩ | rfl <;> unfold eqGuard <;> cases op <;> simp
theorem run_eqlI {P : Program} (w : World) (t : TypeId) {ms : Array (String × TypeId)} (h : P.underlying t = some (.interface ms)) {b : Bool} {u : Value} (hu : (b = true ∧ u = .nilIface) ∨ (b = false ∧ ∃ ty v, u = .iface ty v)) :
    (binOp .eql t u .nilIface).run P w = .ok (.bool b) w ∧ (binOp .neq t u .nilIface).run P w = .ok (.bool (!b)) w := by
  rcases hu with ⟨rfl, rfl⟩ | ⟨rfl, ty, v, rfl⟩
  · constructor <;> (simp only [binOp]; simp [Op.equal, Op.maxDepth, run_equalIn_nilI w 9999 t h])
  · constructor <;> (simp only [binOp]; simp [Op.equal, Op.maxDepth, run_equalIn_someI w 9999 t ty v h])
theorem bnd_rel (hview : View G ρ s' a w) {x : Option Operand} {l : Option Int} (h : bndOf G s' x = some l) : (x = none ∧ l = none) ∨ ∃ y k n, x = some y ∧ l = some n ∧ a.eval y = .int k n := by
  unfold bndOf at h
  split at h
  · simp only [Option.some.injEq] at h; exact .inl ⟨rfl, h.symm⟩
  · rename_i y
    split at h
    · rename_i v hv
      split at h
      · rename_i n hn
        simp only [Option.some.injEq] at h; subst h
        obtain ⟨k, hk⟩ := idxOf_rel (look_rel hview hv) hn
        exact .inr ⟨y, k, n, rfl, rfl, hk⟩
      · cases h
    · cases h
theorem strK_sound (h : Rel w0 N ρ s a w) (hview : View G ρ s' a w) (hsub : ∀ m k, s'.hp m = some k → s.hp m = some k)
    {o : Oper} {c : Nat} {e : Eff} {p : List Prop} (he : strK P G o c s' = some (e, p)) (hp : All p) (hd : ∀ d, o.dst = some d → d < N) :
    o.wpIn (Fd r) 0 P a w (fun a' w' => ∃ ρ', Rel w0 N ρ' (act o.dst c e s) a' w' ∧ ρ.le ρ') Q := by
  unfold strK at he
  split at he
  · rename_i t x ho
    have hdf : ∀ c, o.op ≠ .defer c := by simp [ho]
    split at he
    · rename_i d v hu hx
      split at he
      · rename_i d' hi hb
        simp only [Option.some.injEq, Prod.mk.injEq] at he; obtain ⟨rfl, rfl⟩ := he
        have hrun : (execOp a.eval o).run P w = .ok (.value (.iface t (a.eval x))) w := by
          cases d <;> first | (cases hi; done) | simp [execOp, ho, Instr.makeInterface, run_underlying hu]
        exact ow_value hrun hdf ⟨ρ, h.quiet hd (fun v' hv' => by cases hv'; exact boxD_rel hb (look_rel hview hx)), Ren.le_refl _⟩
      · cases he
    · cases he
  · rename_i x xT ty ok ho
    have hdf : ∀ c, o.op ≠ .defer c := by simp [ho]
    split at he
    · rename_i t g n F d hx hu
      obtain ⟨y, hxv, hy⟩ := unboxD_rel (ρ := ρ) (look_rel hview hx)
      split at he
      · rename_i hi ht
        simp only [Option.some.injEq, Prod.mk.injEq] at he; obtain ⟨rfl, rfl⟩ := he
        have ht := Nat.eq_of_beq_eq_true ht
        subst ht
        have hrun : (execOp a.eval o).run P w = .ok (.value (.tuple #[y, .bool true])) w := by
          cases d <;> first | (cases hi; done) | simp [execOp, ho, hxv, Instr.typeAssert, run_underlying hu]
        exact ow_value hrun hdf ⟨ρ, h.quiet hd (fun v' hv' => by cases hv'; exact ⟨[y, .bool true], .cons hy (.cons rfl .nil), rfl⟩), Ren.le_refl _⟩
      · rename_i hi ht
        simp only [Option.some.injEq, Prod.mk.injEq] at he; obtain ⟨rfl, rfl⟩ := he
        have ht := Nat.eq_of_beq_eq_true ht
        subst ht
        have hrun : (execOp a.eval o).run P w = .ok (.value y) w := by
          cases d <;> first | (cases hi; done) | simp [execOp, ho, hxv, Instr.typeAssert, run_underlying hu]
        exact ow_value hrun hdf ⟨ρ, h.quiet hd (fun v' hv' => by cases hv'; exact hy), Ren.le_refl _⟩
      · rename_i hi ht
        have ht := Nat.ne_of_beq_eq_false ht
        split at he
        · rename_i i hi'
          split at he
          · rename_i z hz
            split at he
            · rename_i b hb
              simp only [Option.some.injEq, Prod.mk.injEq] at he; obtain ⟨rfl, rfl⟩ := he
              have hrun : (execOp a.eval o).run P w = .ok (.value (.tuple #[z, .bool false])) w := by
                cases d <;> first | (cases hi; done) | simp [execOp, ho, hxv, Instr.typeAssert, run_underlying hu, ht, run_zeroValue' P hi' hz]
              exact ow_value hrun hdf ⟨ρ, h.quiet hd (fun v' hv' => by cases hv'; exact ⟨[z, .bool false], .cons (ofVal_rel ρ hb) (.cons rfl .nil), rfl⟩), Ren.le_refl _⟩
            · cases he
          · cases he
        · cases he
      · cases he
    · cases he
  · rename_i t x y yt ho
    have hdf : ∀ c, o.op ≠ .defer c := by simp [ho]
    split at he
    · rename_i b ms hx hu hn
      simp only [Option.some.injEq, Prod.mk.injEq] at he; obtain ⟨rfl, rfl⟩ := he
      have hy := nilI_eq hn
      subst hy
      have hr := look_rel hview hx
      have hk : (∃ ty v, a.eval x = .iface ty v) ∨ a.eval x = .nilIface := by
        rcases hr with ⟨_, h⟩ | ⟨_, h⟩
        · exact .inr h
        · exact .inl h
      have hrun : (execOp a.eval o).run P w = .ok (.value (.bool b)) w := by
        have g := run_eqNil (P := P) w .eql t x _ hk
        have g2 := (run_eqlI (P := P) w t hu hr).1
        have he : a.eval (.const .nilIface) = .nilIface := rfl
        simp only [execOp, ho, he, Sem.run_bind, g, Result.andThen_ok, g2, Sem.run_pure]
      exact ow_value hrun hdf ⟨ρ, h.quiet hd (fun v' hv' => by cases hv'; rfl), Ren.le_refl _⟩
    · cases he
  · rename_i t x y yt ho
    have hdf : ∀ c, o.op ≠ .defer c := by simp [ho]
    split at he
    · rename_i b ms hx hu hn
      simp only [Option.some.injEq, Prod.mk.injEq] at he; obtain ⟨rfl, rfl⟩ := he
      have hy := nilI_eq hn
      subst hy
      have hr := look_rel hview hx
      have hk : (∃ ty v, a.eval x = .iface ty v) ∨ a.eval x = .nilIface := by
        rcases hr with ⟨_, h⟩ | ⟨_, h⟩
        · exact .inr h
        · exact .inl h
      have hrun : (execOp a.eval o).run P w = .ok (.value (.bool (!b))) w := by
        have g := run_eqNil (P := P) w .neq t x _ hk
        have g2 := (run_eqlI (P := P) w t hu hr).2
        have he : a.eval (.const .nilIface) = .nilIface := rfl
        simp only [execOp, ho, he, Sem.run_bind, g, Result.andThen_ok, g2, Sem.run_pure]
      exact ow_value hrun hdf ⟨ρ, h.quiet hd (fun v' hv' => by cases hv'; rfl), Ren.le_refl _⟩
    · cases he
  · rename_i t x y yt ho
    have hdf : ∀ c, o.op ≠ .defer c := by simp [ho]
    split at he
    · rename_i u v hx hy
      simp only [Option.some.injEq, Prod.mk.injEq] at he; obtain ⟨rfl, rfl⟩ := he
      obtain ⟨p1, _⟩ := hp
      have hxv : a.eval x = .string u := look_rel hview hx
      have hyv : a.eval y = .string v := look_rel hview hy
      have hrun : (execOp a.eval o).run P w = .ok (.value (.string (catS u v))) w := by
        unfold catS
        have hm : ¬ (IntKind.i64.max < ((u.size + v.size : Nat) : Int)) := by
          have : IntKind.i64.max = 9223372036854775807 := by decide
          omega
        have g : (eqGuard .add t x y (.string u) (.string v)).run P w = .ok () w := by unfold eqGuard; simp
        simp only [execOp, ho, hxv, hyv, Sem.run_bind, g, Result.andThen_ok, binOp, Op.stringOp, gt_iff_lt, hm, if_false, Sem.run_pure]
      exact ow_value hrun hdf ⟨ρ, h.quiet hd (fun v' hv' => by cases hv'; rfl), Ren.le_refl _⟩
    · cases he
  · rename_i t x lo hi ho
    have hdf : ∀ c, o.op ≠ .defer c := by simp [ho]
    split at he
    · rename_i b l hh hx hu hl hhi
      simp only [Option.some.injEq, Prod.mk.injEq] at he; obtain ⟨rfl, rfl⟩ := he
      obtain ⟨p1, p2, p3, _⟩ := hp
      have hxv : a.eval x = .string b := look_rel hview hx
      have hrun : (execOp a.eval o).run P w = .ok (.value (.string (subS b (bndS l 0) (bndS hh b.size)))) w := by
        unfold subS
        rcases bnd_rel hview hl with ⟨rfl, rfl⟩ | ⟨yl, kl, nl, rfl, rfl, hyl⟩ <;> rcases bnd_rel hview hhi with ⟨rfl, rfl⟩ | ⟨yh, kh, nh, rfl, rfl, hyh⟩
        · simp [execOp, ho, hxv, Instr.sliceAt, Instr.slice, Instr.sliceBounds, run_underlying hu, bndS]
        · simp only [bndS] at p1 p2 p3 ⊢
          simp [execOp, ho, hxv, hyh, Instr.sliceAt, Instr.slice, Instr.sliceBounds, Instr.sliceBound, asIntOf, run_underlying hu, p2, p3]
        · simp only [bndS] at p1 p2 p3 ⊢
          simp [execOp, ho, hxv, hyl, Instr.sliceAt, Instr.slice, Instr.sliceBounds, Instr.sliceBound, asIntOf, run_underlying hu, p1, p2, p3]
        · simp only [bndS] at p1 p2 p3 ⊢
          have q : 0 ≤ nh := by omega
          simp [execOp, ho, hxv, hyl, hyh, Instr.sliceAt, Instr.slice, Instr.sliceBounds, Instr.sliceBound, asIntOf, run_underlying hu, p1, p2, p3, q, Int.max_eq_left q]
      exact ow_value hrun hdf ⟨ρ, h.quiet hd (fun v' hv' => by cases hv'; rfl), Ren.le_refl _⟩
    · cases he
  · rename_i src dst x ho
    have hdf : ∀ c, o.op ≠ .defer c := by simp [ho]
    split at he
    · rename_i m n cap el hx hu hv
      split at he
      · rename_i e' cs he8 hm
        split at he
        · rename_i bs p' hnl hbs
          simp only [Option.some.injEq, Prod.mk.injEq] at he; obtain ⟨rfl, rfl⟩ := he
          obtain ⟨b, hb, hxv⟩ := look_rel hview hx
          obtain ⟨b', hb', _, xs, hf, hheap⟩ := hview.hp m _ hm
          rw [hb] at hb'; cases hb'
          have hn := Nat.le_of_ble_eq_true hnl
          have hlen : bs.length = n := by rw [u8s_len hbs, List.length_take]; omega
          have hg := u8s_rel hbs hp (f2_take hf n)
          have hrun : (execOp a.eval o).run P w = .ok (.value (.string ⟨bs.toArray⟩)) w := by
            have := run_convert_bytes_back (P := P) w src dst el ⟨b.1, 0, none⟩ cap bs hu he8 hv (fun j hj => by
              have g := hg j hj
              rw [List.getElem?_take_of_lt (by omega)] at g
              have e : (⟨b.1, 0, none⟩ : Addr).add j = ⟨b.1, j, none⟩ := by rw [Addr.add_lit]; simp
              rw [e]
              simp [World.cell?, hheap, g])
            rw [hlen] at this
            simp [execOp, ho, hxv, this]
          exact ow_value hrun hdf ⟨ρ, h.quiet hd (fun v' hv' => by cases hv'; rfl), Ren.le_refl _⟩
        · cases he
      · cases he
    · cases he
  · cases he
end
def ftoi (sk : FloatKind) (b : Nat) : Int := ((sk.decode b).toInt .zero).getD 0
def fltK (P : Program) (G : GT) (o : Oper) (s : S) : Option (Eff × List Prop) :=
  match o.op with
  | .convert src dst x => (match look G s x, P.underlying src, P.underlying dst with
    | some (.a (.c (.op (.float sk b)))), some _, some (.int k) => some (⟨some (.a (.c (.int k (ftoi sk b)))), [], []⟩, [((sk.decode b).toInt .zero).isSome = true, k.min ≤ ftoi sk b, ftoi sk b ≤ k.max])
    | some v, some _, some (.float fk) => (match numC v with
      | some (_, n) => some (⟨some (.a (.c (.op (.float fk (fk.nearest n))))), [], []⟩, [])
      | none => none)
    | _, _, _ => none)
  | _ => none
section
variable {P : Program} {G : GT} {N : Nat} {r : Option Nat} {gw : World → Prop} {w0 : World} {ρ : Ren} {s s' : S} {a : Act} {w : World} {Q : Exit → Act → World → Prop}
theorem run_floatToInt {P : Program} (w : World) (src dst : TypeId) (d : TypeDesc) {k : IntKind} {sk : FloatKind} {b : Nat} (hs : P.underlying src = some d) (hd : P.underlying dst = some (.int k))
    (h1 : ((sk.decode b).toInt .zero).isSome = true) (h2 : k.min ≤ ftoi sk b) (h3 : ftoi sk b ≤ k.max) : (convert src dst (.float sk b)).run P w = .ok (.int k (ftoi sk b)) w := by
  obtain ⟨n, hn⟩ := Option.isSome_iff_exists.1 h1
  have e : ftoi sk b = n := by unfold ftoi; rw [hn]; rfl
  rw [e] at h2 h3 ⊢
  unfold convert
  simp only [Sem.run_bind, run_underlying hs, run_underlying hd, Result.andThen_ok]
  cases d <;> simp [Conv.floatToInt, hn, h2, h3]
theorem run_intToFloat {P : Program} (w : World) (src dst : TypeId) (d : TypeDesc) {k : IntKind} {fk : FloatKind} {n : Int} (hs : P.underlying src = some d) (hd : P.underlying dst = some (.float fk)) :
    (convert src dst (.int k n)).run P w = .ok (.float fk (fk.nearest n)) w := by
  unfold convert
  simp only [Sem.run_bind, run_underlying hs, run_underlying hd, Result.andThen_ok]
  cases d <;> simp [Conv.intToFloat]
theorem fltK_sound (h : Rel w0 N ρ s a w) (hview : View G ρ s' a w)
    {o : Oper} {c : Nat} {e : Eff} {p : List Prop} (he : fltK P G o s' = some (e, p)) (hp : All p) (hd : ∀ d, o.dst = some d → d < N) :
    o.wpIn (Fd r) 0 P a w (fun a' w' => ∃ ρ', Rel w0 N ρ' (act o.dst c e s) a' w' ∧ ρ.le ρ') Q := by
  unfold fltK at he
  split at he
  · rename_i src dst x ho
    have hdf : ∀ c, o.op ≠ .defer c := by simp [ho]
    split at he
    · rename_i sk b d k hx hu hv
      simp only [Option.some.injEq, Prod.mk.injEq] at he; obtain ⟨rfl, rfl⟩ := he
      obtain ⟨p1, p2, p3, _⟩ := hp
      have hxv : a.eval x = .float sk b := (look_rel hview hx).1
      have hrun : (execOp a.eval o).run P w = .ok (.value (.int k (ftoi sk b))) w := by
        have := run_floatToInt (P := P) w src dst d hu hv p1 p2 p3
        simp [execOp, ho, hxv, this]
      exact ow_value hrun hdf ⟨ρ, h.quiet hd (fun v' hv' => by cases hv'; rfl), Ren.le_refl _⟩
    · rename_i v d fk hx hu hv
      split at he
      · rename_i k n hn
        simp only [Option.some.injEq, Prod.mk.injEq] at he; obtain ⟨rfl, rfl⟩ := he
        have hxv : a.eval x = .int k n := numC_rel hn (look_rel hview hx)
        have hrun : (execOp a.eval o).run P w = .ok (.value (.float fk (fk.nearest n))) w := by
          have := run_intToFloat (P := P) w src dst d (k := k) (n := n) hu hv
          simp [execOp, ho, hxv, this]
        exact ow_value hrun hdf ⟨ρ, h.quiet hd (fun v' hv' => by cases hv'; exact ⟨rfl, rfl, (fun _ h => by cases h), (fun _ h => by cases h)⟩), Ren.le_refl _⟩
      · cases he
    · cases he
  · cases he
end
def effW (P : Program) (G : GT) (sg : FuncId → Option Sm) (o : Oper) (c : Nat) (s : S) : Option (Eff × List Prop) :=
  match strK P G o c s with
  | some r => some r
  | none => (match fltK P G o s with
    | some r => some r
    | none => effY P G sg o c s)
section
variable {P : Program} {G : GT} {N : Nat} {r : Option Nat} {sg : FuncId → Option Sm} {gw : World → Prop} {w0 : World} {ρ : Ren} {s s' : S} {a : Act} {w : World} {Q : Exit → Act → World → Prop}
theorem effW_sound (hsg : ∀ f σ, sg f = some σ → SumOK P G gw f σ) (h : Rel w0 N ρ s a w) (hcl : ∀ φ x, ρ.cl φ x → CloOK P gw ρ.κ φ x) (hgw : gw w)
    (hview : View G ρ s' a w) (hsub : ∀ m k, s'.hp m = some k → s.hp m = some k)
    {o : Oper} {c : Nat} {e : Eff} {p : List Prop} (he : effW P G sg o c s' = some (e, p)) (hp : All p) (hd : ∀ d, o.dst = some d → d < N)
    (hfresh : ∀ i, i < e.nw.length → s.hp (c + i) = none) :
    o.wpIn (Fd r) 0 P a w (fun a' w' => ∃ ρ', Rel w0 N ρ' (act o.dst c e s) a' w' ∧ ρ.le ρ') Q := by
  unfold effW at he
  split at he
  · rename_i e1 he1
    simp only [Option.some.injEq] at he
    subst he
    exact strK_sound h hview hsub he1 hp hd
  · split at he
    · rename_i e1 he1
      simp only [Option.some.injEq] at he
      subst he
      exact fltK_sound h hview he1 hp hd
    · exact effY_sound hsg h hcl hgw hview hsub he hp hd hfresh
end
end Go.V
end

section
set_option linter.unusedVariables false
set_option linter.unusedSimpArgs false
namespace Go.V
open Go.RowKit (Below)
def memN : List Nat → Nat → Bool
  | [], _ => false
  | x :: l, m => match Nat.beq x m with | true => true | false => memN l m
theorem memN_iff {m : Nat} : ∀ {l : List Nat}, memN l m = true ↔ m ∈ l := by
  intro l
  induction l with
  | nil => simp [memN]
  | cons x l ih =>
    simp only [memN]
    split
    · rename_i h; have := Nat.eq_of_beq_eq_true h; subst this; simp
    · rename_i h
      rw [ih, List.mem_cons]
      constructor
      · exact .inr
      · rintro (rfl | h')
        · simp at h
        · exact h'
def restr (s : S) (ts ms : List Nat) : S :=
  { tm := fun t => match memN ts t with | true => s.tm t | false => none
    hp := fun m => match memN ms m with | true => s.hp m | false => none
    st := fun _ => none }
theorem restr_congr {s s' : S} {ts ms : List Nat} (ht : ∀ t, t ∈ ts → s.tm t = s'.tm t) (hm : ∀ m, m ∈ ms → s.hp m = s'.hp m) : restr s ts ms = restr s' ts ms := by
  unfold restr
  congr 1
  · funext t; split
    · rename_i h; exact ht t (memN_iff.1 h)
    · rfl
  · funext m; split
    · rename_i h; exact hm m (memN_iff.1 h)
    · rfl
def assume (orc : Option Bool) (r : Eff × List Prop) : Eff × List Prop :=
  match orc, r.1.val with
  | some b0, some (.a (.c (.bool b))) => ({ r.1 with val := some (.a (.c (.lit b0))) }, (b = b0) :: r.2)
  | _, _ => r
inductive St where
  | ok (e : Option Eff) (p : List Prop) (rd : List Nat)
  | ask (k : Nat) (b : Bool)
  | fail
def freshB (s : S) : List Nat → Bool
  | [] => true
  | m :: l => match s.hp m with | none => freshB s l | some _ => false
theorem freshB_at {s : S} : ∀ {l : List Nat} {m : Nat}, freshB s l = true → m ∈ l → s.hp m = none := by
  intro l
  induction l with
  | nil => intro m _ h; simp at h
  | cons x l ih =>
    intro m h hm
    simp only [freshB] at h
    split at h
    · rename_i hx
      rcases List.mem_cons.1 hm with rfl | hm
      · exact hx
      · exact ih h hm
    · cases h
def isApp (o : Oper) : Bool := match o.op with | .call cl => (match cl.callee with | .builtin .append => true | .value _ => true | _ => false) | _ => false
def inner (s : S) : List Nat → List Nat
  | [] => []
  | m :: l => (match s.hp m with | some (.known _ cs) => cs.flatMap C.names | _ => []) ++ inner s l
def rdO (G : GT) (o : Oper) (s : S) : List Nat :=
  match rdOf G o (restr s (opTmps o.op.operands.toList) []) with
  | r0 => r0 ++ (match isApp o with | true => inner s r0 | false => [])
theorem inner_congr {s s' : S} : ∀ {l : List Nat}, (∀ m, m ∈ l → s.hp m = s'.hp m) → inner s l = inner s' l
  | [], _ => rfl
  | m :: l, h => by
    simp only [inner, h m (List.mem_cons_self ..)]
    rw [inner_congr fun m' hm => h m' (List.mem_cons_of_mem _ hm)]
theorem rdO_congr {G : GT} {o : Oper} {s s' : S} (h1 : ∀ t, t ∈ opTmps o.op.operands.toList → s.tm t = s'.tm t) (h2 : ∀ m, m ∈ rdO G o s' → s.hp m = s'.hp m) : rdO G o s = rdO G o s' := by
  have e1 : restr s (opTmps o.op.operands.toList) [] = restr s' (opTmps o.op.operands.toList) [] := restr_congr h1 (by simp)
  have hin : ∀ m, m ∈ rdOf G o (restr s' (opTmps o.op.operands.toList) []) → s.hp m = s'.hp m := fun m hm => h2 m (by unfold rdO; exact List.mem_append_left _ hm)
  unfold rdO
  rw [e1]
  simp only
  rw [inner_congr hin]
section
variable (P : Program) (G : GT) (N : Nat) (sg : FuncId → Option Sm) (wk : Nat → Bool)
def opEff (orc : Option Bool) (o : Oper) (c : Nat) (s : S) : St :=
  match rdO G o s with
  | rd =>
    match effW P G sg o c (restr s (opTmps o.op.operands.toList) rd) with
    | some r =>
      match (match o.dst with | some d => Nat.blt d N | none => true) && freshB s (names c r.1.nw.length) && r.1.wr.all (fun p => wk p.1) with
      | true => .ok (some (assume orc r).1) (assume orc r).2 rd
      | false => .fail
    | none => .fail
def skipA (N : Nat) (o : Oper) : St := match (match o.dst with | some d => Nat.blt d N | none => true) with | true => .ok (some ⟨some (.tup []), [], []⟩) [] [] | false => .fail
def stepA (ops : Array Oper) (orc : Nat → Option Bool) (i c : Nat) (o : Oper) (s : S) : St :=
  match o.guard with
  | none => opEff P G N sg wk (orc i) o c s
  | some (k, want) =>
    match dstOf ops k with
    | some d =>
      match s.tm d with
      | some (.a (.c (.lit b))) => (match b == want with
        | true => opEff P G N sg wk (orc i) o c s
        | false => skipA N o)
      | some (.a (.c (.bool b))) => .ask k b
      | some (.tup []) => skipA N o
      | _ => .fail
    | none => .fail
inductive RR where
  | done (L : List Item) (s : S) (c : Nat) (p : List Prop)
  | ask (k : Nat) (b : Bool)
  | fail
def newsOf : Option Eff → Nat
  | some e => e.nw.length
  | none => 0
def rrun (ops : Array Oper) (orc : Nat → Option Bool) : List Oper → Nat → Nat → S → RR
  | [], _, c, s => .done [] s c []
  | o :: l, i, c, s =>
    match stepA P G N sg wk ops orc i c o s with
    | .ok e p rd =>
      (match rrun ops orc l (i + 1) (c + newsOf e) (doit o.dst ⟨c, e, rd⟩ s) with
      | .done L s' c' q => .done ((o.dst, ⟨c, e, rd⟩) :: L) s' c' (p ++ q)
      | r => r)
    | .ask k b => .ask k b
    | .fail => .fail
end
section
variable {P : Program} {G : GT} {N : Nat} {rr : Option Nat} {sg : FuncId → Option Sm} {wk : Nat → Bool} {gw : World → Prop} {w0 : World} {ρ : Ren} {a : Act} {w : World} {Q : Exit → Act → World → Prop}
structure Amb (P : Program) (G : GT) (gw : World → Prop) (ρ : Ren) : Prop where
  gl : ∀ g n F, G g = some (n, F) → (C.ip n F).rel ρ (.pointer (some ⟨g, 0, none⟩))
  cl : ∀ φ x, ρ.cl φ x → CloOK P gw ρ.κ φ x
theorem Amb.mono {ρ' : Ren} (h : Amb P G gw ρ) (hle : ρ.le ρ') : Amb P G gw ρ' where
  gl := fun g n F e => C.rel_mono hle _ _ (h.gl g n F e)
  cl := fun φ x hx => CloOK.mono hle.κ (h.cl φ x (by rw [← hle.cl]; exact hx))
theorem Rel.view {s : S} (h : Rel w0 N ρ s a w) (hgl : Amb P G gw ρ) (ts ms : List Nat) : View G ρ (restr s ts ms) a w where
  tm := by
    intro t v ht
    simp only [restr] at ht
    split at ht
    · exact (h.tm t v ht).2
    · cases ht
  hp := by
    intro m k hk
    simp only [restr] at hk
    split at hk
    · obtain ⟨b, h1, h2, h3, _⟩ := h.hp m k hk; exact ⟨b, h1, h2, h3⟩
    · cases hk
  im := h.im
  gl := hgl.gl
theorem Rel.weaken {s s' : S} (h : Rel w0 N ρ s a w) (ht : ∀ t v', s'.tm t = some v' → ∃ v, s.tm t = some v ∧ ∀ x, v.rel ρ x → v'.rel ρ x) (hm : ∀ m, s'.hp m = s.hp m) (hst : s'.st = s.st) : Rel w0 N ρ s' a w where
  sz := h.sz
  fx := h.fx
  lp := by rw [hst]; exact h.lp
  dfx := h.dfx
  df := h.df
  bel := h.bel
  tm := by
    intro t v' hv
    obtain ⟨v, h1, h2⟩ := ht t v' hv
    obtain ⟨h3, h4⟩ := h.tm t v h1
    exact ⟨h3, h2 _ h4⟩
  dom := fun m hd => h.dom m (by rw [← hm]; exact hd)
  hp := fun m k hk => h.hp m k (by rw [← hm]; exact hk)
  inj := fun m m' k k' b b' h1 h2 => h.inj m m' k k' b b' (by rw [← hm]; exact h1) (by rw [← hm]; exact h2)
  im := h.im
  old := h.old
  dis := fun m k b o h1 => h.dis m k b o (by rw [← hm]; exact h1)
theorem assume_rel {orc : Option Bool} {r : Eff × List Prop} {dst : Option Tmp} {c : Nat} {s : S} (hp : All (assume orc r).2) (h : Rel w0 N ρ (act dst c r.1 s) a w) : Rel w0 N ρ (act dst c (assume orc r).1 s) a w := by
  unfold assume at hp ⊢
  split at hp
  · rename_i b0 b hv
    simp only at hp
    obtain ⟨rfl, _⟩ := hp
    refine h.weaken ?_ (fun m => rfl) rfl
    intro t v' ht
    cases dst with
    | none => simp only [act] at ht ⊢; exact ⟨v', ht, fun x hx => hx⟩
    | some d =>
      simp only [act] at ht ⊢
      by_cases e : t = d
      · subst e
        rw [upd_same] at ht; cases ht
        refine ⟨.a (.c (.bool _)), by rw [upd_same]; exact hv, fun x hx => hx⟩
      · rw [upd_ne _ _ e] at ht ⊢
        exact ⟨v', ht, fun x hx => hx⟩
  · exact h
theorem assume_p {orc : Option Bool} {r : Eff × List Prop} (hp : All (assume orc r).2) : All r.2 := by
  unfold assume at hp
  split at hp
  · exact hp.2
  · exact hp
theorem assume_nw {orc : Option Bool} {r : Eff × List Prop} : (assume orc r).1.nw = r.1.nw ∧ (assume orc r).1.wr = r.1.wr := by
  unfold assume; split <;> exact ⟨rfl, rfl⟩
theorem opEff_sound (hsg : ∀ f σ, sg f = some σ → SumOK P G gw f σ) (hgl : Amb P G gw ρ) (hgw : gw w) {orc : Option Bool} {o : Oper} {c : Nat} {T T' : S} {e : Option Eff} {p : List Prop} {rd : List Nat}
    (he : opEff P G N sg wk orc o c T' = .ok e p rd) (hp : All p) (h : Rel w0 N ρ T a w)
    (h1 : ∀ t, t ∈ opTmps o.op.operands.toList → T.tm t = T'.tm t) (h2 : ∀ m, m ∈ rd → T.hp m = T'.hp m) (h3 : ∀ m, m ∈ (Rec.mk c e rd).touch → T.hp m = T'.hp m) :
    o.wpIn (Fd rr) 0 P a w (fun a' w' => ∃ ρ', Rel w0 N ρ' (doit o.dst ⟨c, e, rd⟩ T) a' w' ∧ ρ.le ρ') Q := by
  unfold opEff at he
  simp only at he
  split at he
  · rename_i r hr
    split at he
    · rename_i hok
      simp only [St.ok.injEq] at he
      obtain ⟨rfl, rfl, rfl⟩ := he
      simp only [Bool.and_eq_true] at hok
      have hd : ∀ d, o.dst = some d → d < N := by
        intro d hd
        have := hok.1.1
        rw [hd] at this
        simpa [Nat.blt_eq] using this
      have e1 : rdO G o T = rdO G o T' := rdO_congr h1 h2
      rw [← e1] at hr h2
      have e2 : restr T (opTmps o.op.operands.toList) (rdO G o T) = restr T' (opTmps o.op.operands.toList) (rdO G o T) := restr_congr h1 h2
      rw [← e2] at hr
      have hfr : ∀ i, i < r.1.nw.length → T.hp (c + i) = none := by
        intro i hi
        have hm : c + i ∈ names c r.1.nw.length := mem_names.2 ⟨by omega, by omega⟩
        rw [h3 (c + i) (by simp only [Rec.touch, assume_nw.1]; exact List.mem_append_right _ hm)]
        exact freshB_at hok.1.2 hm
      have key := effW_sound (r := rr) (Q := Q) hsg h hgl.cl hgw (h.view hgl (opTmps o.op.operands.toList) (rdO G o T)) (fun m k hk => by
        simp only [restr] at hk
        split at hk
        · exact hk
        · cases hk) hr (assume_p hp) hd hfr
      refine Oper.wpIn_mono ?_ key
      rintro a' w' ⟨ρ', hrel, hle⟩
      exact ⟨ρ', assume_rel hp hrel, hle⟩
    · cases he
  · cases he
theorem skipA_sound {c : Nat} {o : Oper} {T : S} {e : Option Eff} {p : List Prop} {rd : List Nat} (he : skipA N o = .ok e p rd) (h : Rel w0 N ρ T a w) :
    ∃ ρ', Rel w0 N ρ' (doit o.dst ⟨c, e, rd⟩ T) (a.put o.dst undef) w ∧ ρ.le ρ' := by
  unfold skipA at he
  split at he
  · rename_i hdn
    simp only [St.ok.injEq] at he
    obtain ⟨rfl, rfl, rfl⟩ := he
    refine ⟨ρ, ?_, Ren.le_refl _⟩
    have hdn' : ∀ d, o.dst = some d → d < N := by
      intro d hd; rw [hd] at hdn; simpa [Nat.blt_eq] using hdn
    have := h.quiet (dst := o.dst) (c := 0) (val := some (.tup [])) (x := undef) hdn' (fun v hv => by cases hv; exact ⟨[], .nil, rfl⟩)
    exact this
  · cases he
theorem stepA_sound (hsg : ∀ f σ, sg f = some σ → SumOK P G gw f σ) (hgl : Amb P G gw ρ) (hgw : gw w) {ops : Array Oper} {orc : Nat → Option Bool} {i c : Nat} {o : Oper} {T T' : S} {e : Option Eff} {p : List Prop} {rd : List Nat}
    (ho : ops[i]? = some o) (he : stepA P G N sg wk ops orc i c o T' = .ok e p rd) (hp : All p) (h : Rel w0 N ρ T a w)
    (h1 : ∀ t, t ∈ uses ops o → T.tm t = T'.tm t) (h2 : ∀ m, m ∈ rd → T.hp m = T'.hp m) (h3 : ∀ m, m ∈ (Rec.mk c e rd).touch → T.hp m = T'.hp m) :
    wpOpIn (Fd rr) 0 P ops Q i (fun a' w' => ∃ ρ', Rel w0 N ρ' (doit o.dst ⟨c, e, rd⟩ T) a' w' ∧ ρ.le ρ') a w := by
  have hu : ∀ t, t ∈ opTmps o.op.operands.toList → T.tm t = T'.tm t := fun t ht => h1 t (by unfold uses; exact List.mem_append_right _ ht)
  unfold wpOpIn
  rw [ho]
  simp only
  unfold stepA at he
  split at he
  · rename_i hg
    rw [if_pos (by simp [Region.wanted, hg])]
    exact opEff_sound hsg hgl hgw he hp h hu h2 h3
  · rename_i k want hg
    split at he
    · rename_i d hd
      have hT : T.tm d = T'.tm d := h1 d (by unfold uses; rw [hg]; simp [hd])
      split at he
      · rename_i b hb
        rw [← hT] at hb
        obtain ⟨hlt, hv⟩ := h.tm d _ hb
        have hv' : a.tmps.getD d undef = .bool b := hv
        have hy : yielded ops a.tmps k = some b := by
          have hd' : (ops[k]?).bind (·.dst) = some d := hd
          have : a.tmps[d]? = some (.bool b) := by
            rw [Array.getD_eq_getD_getElem?] at hv'
            have hlt' : d < a.tmps.size := by rw [h.sz]; exact hlt
            rw [Array.getElem?_eq_getElem hlt'] at hv' ⊢
            simpa using hv'
          simp [yielded, hd', this]
        split at he
        · rename_i hw
          have : b = want := by simpa using hw
          subst this
          rw [if_pos (by simp [Region.wanted, hg, hy])]
          exact opEff_sound hsg hgl hgw he hp h hu h2 h3
        · rename_i hw
          rw [if_neg (by simp [Region.wanted, hg, hy]; simpa using hw)]
          exact ⟨fun _ _ => trivial, skipA_sound he h⟩
      · cases he
      · rename_i hb
        rw [← hT] at hb
        obtain ⟨hlt, hv⟩ := h.tm d _ hb
        have hv' : a.tmps.getD d undef = .tuple #[] := by
          obtain ⟨ys, h1, h2⟩ := hv
          cases h1
          exact h2
        have hy : yielded ops a.tmps k = none := by
          have hd' : (ops[k]?).bind (·.dst) = some d := hd
          have : a.tmps[d]? = some (.tuple #[]) := by
            rw [Array.getD_eq_getD_getElem?] at hv'
            have hlt' : d < a.tmps.size := by rw [h.sz]; exact hlt
            rw [Array.getElem?_eq_getElem hlt'] at hv' ⊢
            simpa using hv'
          simp [yielded, hd', this]
        rw [if_neg (by simp [Region.wanted, hg, hy])]
        exact ⟨fun _ _ => trivial, skipA_sound he h⟩
      · cases he
    · cases he
theorem rrun_spec {ops : Array Oper} {orc : Nat → Option Bool} : ∀ {l : List Oper} {i c : Nat} {s : S} {L : List Item} {s' : S} {c' : Nat} {q : List Prop}, rrun P G N sg wk ops orc l i c s = .done L s' c' q → All q →
    L.length = l.length ∧ s' = runL (fun _ => true) L i s ∧ ∀ j o x, l[j]? = some o → L[j]? = some x →
      x.1 = o.dst ∧ ∃ p, stepA P G N sg wk ops orc (i + j) x.2.c o (runL (fun k => Nat.blt k (i + j)) L i s) = .ok x.2.e p x.2.rd ∧ All p := by
  intro l
  induction l with
  | nil =>
    intro i c s L s' c' q h hq
    simp only [rrun, RR.done.injEq] at h
    obtain ⟨rfl, rfl, rfl, rfl⟩ := h
    exact ⟨rfl, rfl, fun j o x h => by simp at h⟩
  | cons o l ih =>
    intro i c s L s' c' q h hq
    simp only [rrun] at h
    split at h
    · rename_i e p rd hst
      split at h
      · rename_i L2 s2 c2 q2 hr
        simp only [RR.done.injEq] at h
        obtain ⟨rfl, rfl, rfl, rfl⟩ := h
        obtain ⟨hp, hq2⟩ := All.append.1 hq
        obtain ⟨i1, i2, i3⟩ := ih hr hq2
        refine ⟨by simp [i1], by simp [runL, i2], ?_⟩
        intro j o' x ho hx
        cases j with
        | zero =>
          simp at ho hx; subst ho; subst hx
          refine ⟨rfl, p, ?_, hp⟩
          have : ∀ (l : List Item) (k : Nat), i ≤ k → ∀ s, runL (fun k => Nat.blt k (i + 0)) l k s = s := by
            intro l
            induction l with
            | nil => intro k _ s; rfl
            | cons x l ih =>
              intro k hk s
              have : Nat.blt k (i + 0) = false := by rw [← Bool.not_eq_true, Nat.blt_eq]; omega
              simp only [runL, this, Bool.false_eq_true, if_false]
              exact ih _ (by omega) _
          rw [this _ _ (Nat.le_refl _)]
          exact hst
        | succ j =>
          obtain ⟨k1, p', k2, k3⟩ := i3 j o' x (by simpa using ho) (by simpa using hx)
          refine ⟨k1, p', ?_, k3⟩
          have hlt : Nat.blt i (i + (j + 1)) = true := by rw [Nat.blt_eq]; omega
          simp only [runL, hlt, if_true]
          rw [show i + (j + 1) = i + 1 + j by omega]
          exact k2
      · rename_i hne
        exact absurd h (by intro hh; exact hne _ _ _ _ hh)
    · cases h
    · cases h
theorem stepA_keeps {ops : Array Oper} {orc : Nat → Option Bool} {i c : Nat} {o : Oper} {s : S} {e : Option Eff} {p : List Prop} {rd : List Nat} (h : stepA P G N sg wk ops orc i c o s = .ok e p rd) :
    ∀ f, e = some f → ∀ q, q ∈ f.wr → wk q.1 = true := by
  have hop : ∀ {orc : Option Bool}, opEff P G N sg wk orc o c s = .ok e p rd → ∀ f, e = some f → ∀ q, q ∈ f.wr → wk q.1 = true := by
    intro orc h f hf q hq
    unfold opEff at h
    simp only at h
    split at h
    · split at h
      · rename_i r hr hok
        simp only [St.ok.injEq] at h
        obtain ⟨rfl, _, _⟩ := h
        cases hf
        rw [assume_nw.2] at hq
        simp only [Bool.and_eq_true] at hok
        exact List.all_eq_true.1 hok.2 q hq
      · cases h
    · cases h
  have hsk : skipA N o = .ok e p rd → ∀ f, e = some f → ∀ q, q ∈ f.wr → wk q.1 = true := by
    intro h f hf q hq
    unfold skipA at h
    split at h
    · simp only [St.ok.injEq] at h
      obtain ⟨rfl, _, _⟩ := h
      cases hf; cases hq
    · cases h
  unfold stepA at h
  split at h
  · exact hop h
  · split at h
    · split at h
      · split at h
        · exact hop h
        · exact hsk h
      · cases h
      · exact hsk h
      · cases h
    · cases h
theorem rrun_keeps {ops : Array Oper} {orc : Nat → Option Bool} : ∀ {l : List Oper} {i c : Nat} {s : S} {L : List Item} {s' : S} {c' : Nat} {q : List Prop}, rrun P G N sg wk ops orc l i c s = .done L s' c' q →
    c ≤ c' ∧ (∀ t, (∀ o, o ∈ l → o.dst ≠ some t) → s'.tm t = s.tm t) ∧ (∀ m, m < c → wk m = false → s'.hp m = s.hp m) := by
  intro l
  induction l with
  | nil =>
    intro i c s L s' c' q h
    simp only [rrun, RR.done.injEq] at h
    obtain ⟨_, rfl, rfl, _⟩ := h
    exact ⟨Nat.le_refl _, fun _ _ => rfl, fun _ _ _ => rfl⟩
  | cons o l ih =>
    intro i c s L s' c' q h
    simp only [rrun] at h
    split at h
    · rename_i e p rd hst
      split at h
      · rename_i L2 s2 c2 q2 hr
        simp only [RR.done.injEq] at h
        obtain ⟨_, rfl, rfl, _⟩ := h
        obtain ⟨i1, i2, i3⟩ := ih hr
        refine ⟨by omega, fun t ht => ?_, fun m hm hw => ?_⟩
        · rw [i2 t fun o' ho' => ht o' (List.mem_cons_of_mem _ ho')]
          exact doit_tm_ne (o.dst, ⟨c, e, rd⟩) s t (ht o (List.mem_cons_self ..))
        · rw [i3 m (by omega) hw]
          refine doit_hp_ne (o.dst, ⟨c, e, rd⟩) s m ?_
          simp only [Rec.touch]
          cases e with
          | none => simp
          | some f =>
            simp only [List.mem_append, mem_names, not_or, List.mem_map, not_exists, not_and]
            refine ⟨fun q hq hqm => ?_, by omega⟩
            have := stepA_keeps hst f rfl q hq
            rw [hqm, hw] at this; cases this
      · rename_i hne
        exact absurd h (by intro hh; exact hne _ _ _ _ hh)
    · cases h
    · cases h
theorem region_seq (hsg : ∀ f σ, sg f = some σ → SumOK P G gw f σ) (hst : ∀ w w', gw w → Below w.heap.size w w' → gw w') (hgw0 : gw w0) {ops : Array Oper} {orc : Nat → Option Bool} {c c' : Nat} {s s' : S} {L : List Item} {q : List Prop}
    (hr : rrun P G N sg wk ops orc ops.toList 0 c s = .done L s' c' q) (hq : All q) (h : Rel w0 N ρ s a w) (hgl : Amb P G gw ρ)
    (hQ : ∀ a' w' ρ', Rel w0 N ρ' s' a' w' → ρ.le ρ' → Q .normal a' w') : wpOpsIn (Fd rr) 0 P ops Q (List.range ops.size) a w := by
  obtain ⟨hlen, hs', hall⟩ := rrun_spec hr hq
  have key : ∀ n, n ≤ ops.size → ∀ (a : Act) (w : World) (ρ1 : Ren), Rel w0 N ρ1 (runL (fun k => Nat.blt k (ops.size - n)) L 0 s) a w → ρ.le ρ1 →
      wpOpsIn (Fd rr) 0 P ops Q (List.range' (ops.size - n) n) a w := by
    intro n
    induction n with
    | zero =>
      intro _ a w ρ1 h1 hle
      simp only [List.range'_zero, wpOpsIn]
      refine hQ a w ρ1 ?_ hle
      rw [hs', ← runL_all (D := fun k => Nat.blt k (ops.size - 0)) L 0 s (fun k hk => by rw [Nat.blt_eq]; simp at hlen; omega)]
      exact h1
    | succ n ih =>
      intro hn a w ρ1 h1 hle
      rw [List.range'_succ, wpOpsIn_cons]
      have hj : ops.size - (n + 1) < ops.size := by omega
      have ho : ops[ops.size - (n + 1)]? = some ops[ops.size - (n + 1)] := Array.getElem?_eq_getElem hj
      have hjL : ops.size - (n + 1) < L.length := by rw [hlen]; simpa using hj
      obtain ⟨k1, p, k2, k3⟩ := hall (ops.size - (n + 1)) _ L[ops.size - (n + 1)] (by rw [Array.getElem?_toList]; exact ho) (List.getElem?_eq_getElem hjL)
      simp only [Nat.zero_add] at k2
      have st := stepA_sound (rr := rr) (Q := Q) hsg (hgl.mono hle) (hst _ _ hgw0 h1.bel) ho k2 k3 h1 (fun t _ => rfl) (fun m _ => rfl) (fun m _ => rfl)
      refine wpOpIn_mono ?_ st
      rintro a' w' ⟨ρ', hrel, hle'⟩
      have := ih (by omega) a' w' ρ' ?_ (Ren.le_trans hle hle')
      · rw [show ops.size - (n + 1) + 1 = ops.size - n by omega]; exact this
      · have e := runL_ins (D := fun k => Nat.blt k (ops.size - (n + 1))) (D' := fun k => Nat.blt k (ops.size - n)) L[ops.size - (n + 1)] L 0 (ops.size - (n + 1)) s (List.getElem?_eq_getElem hjL)
          (by rw [← Bool.not_eq_true, Nat.blt_eq]; omega) (by rw [Nat.blt_eq]; omega)
          (fun k hk => by
            have : (k < ops.size - n) ↔ (k < ops.size - (n + 1)) := by omega
            rw [Bool.eq_iff_iff, Nat.blt_eq, Nat.blt_eq]; exact this)
          (fun k y _ hjk hD => by rw [Nat.blt_eq] at hD; omega)
        rw [e, k1]
        exact hrel
  have := key ops.size (Nat.le_refl _) a w ρ (by
    have : ∀ (l : List Item) (i : Nat), runL (fun k => Nat.blt k (ops.size - ops.size)) l i s = s := by
      intro l
      induction l with
      | nil => intro i; rfl
      | cons x l ih =>
        intro i
        have : Nat.blt i (ops.size - ops.size) = false := by rw [← Bool.not_eq_true, Nat.blt_eq]; omega
        simp only [runL, this, Bool.false_eq_true, if_false]
        exact ih _
    rw [this]; exact h) (Ren.le_refl _)
  rw [Nat.sub_self, ← List.range_eq_range'] at this
  exact this
end
end Go.V
end

section
set_option linter.unusedVariables false
set_option linter.unusedSimpArgs false
namespace Go.V
open Go.RowKit (Below)
def anyOk (ops : Array Oper) (L : List Item) : Bool :=
  match masks ops.toList [] with
  | M => masksOk M ops.toList 0 && allPairsOk ops M L ops.toList L 0
theorem count_set : ∀ {l : List Bool} {j : Nat} (hj : j < l.length), l[j] = false → ((l.set j true).filter id).length = (l.filter id).length + 1
  | [], j, hj, _ => by simp at hj
  | x :: l, 0, _, h => by simp at h; subst h; simp
  | x :: l, j + 1, hj, h => by
    have := count_set (l := l) (j := j) (by simpa using hj) (by simpa using h)
    cases x <;> simp [this]
section
variable {P : Program} {G : GT} {N : Nat} {rr : Option Nat} {sg : FuncId → Option Sm} {wk : Nat → Bool} {gw : World → Prop} {w0 : World} {ρ : Ren} {a : Act} {w : World} {Q : Exit → Act → World → Prop}
theorem mem_ready' {ops : Array Oper} {listed : Array Bool} {j : Nat} (h : j ∈ Region.ready .any ops listed) :
    ∃ o, ops[j]? = some o ∧ j < ops.size ∧ listed.getD j true = false ∧ ∀ e ∈ o.after.toList, Region.binds .any e = true → listed.getD e.on false = true := by
  unfold Region.ready at h
  rw [List.mem_filter, List.mem_range] at h
  obtain ⟨hj, h2⟩ := h
  have ho : ops[j]? = some ops[j] := Array.getElem?_eq_getElem hj
  rw [ho] at h2
  simp only [Option.map_some, Option.getD_some, Bool.and_eq_true, Bool.not_eq_true'] at h2
  refine ⟨_, ho, hj, h2.1, fun e he hb => ?_⟩
  have := Array.all_eq_true_iff_forall_mem.1 h2.2 e (by simpa using he)
  rw [hb] at this
  simpa using this
theorem ready_nil {ops : Array Oper} {listed : Array Bool} (hs : listed.size = ops.size) {M : List Nat} (hM : masksOk M ops.toList 0 = true) (h : Region.ready .any ops listed = []) :
    ∀ i, i < ops.size → listed.getD i false = true := by
  intro i
  induction i using Nat.strongRecOn with
  | _ i ih =>
    intro hi
    cases hl : listed.getD i false with
    | true => rfl
    | false =>
      exfalso
      have ho : ops[i]? = some ops[i] := Array.getElem?_eq_getElem hi
      have hm := (masksOk_at hM (k := i) (o := ops[i]) (by rw [Array.getElem?_toList]; exact ho)).2
      have : i ∈ Region.ready .any ops listed := by
        unfold Region.ready
        rw [List.mem_filter, List.mem_range]
        refine ⟨hi, ?_⟩
        rw [ho]
        simp only [Option.map_some, Option.getD_some, Bool.and_eq_true, Bool.not_eq_true']
        constructor
        · have hi' : i < listed.size := by omega
          rw [Array.getD_eq_getD_getElem?, Array.getElem?_eq_getElem hi'] at hl ⊢
          simpa using hl
        · rw [Array.all_eq_true_iff_forall_mem]
          intro e he
          by_cases hb : Region.binds .any e = true
          · have h1 := hm e (by simpa using he) hb
            rw [hb, ih e.on (by omega) (by omega)]; rfl
          · simp [hb]
      rw [h] at this; simp at this
theorem region_any (hsg : ∀ f σ, sg f = some σ → SumOK P G gw f σ) (hst : ∀ w w', gw w → Below w.heap.size w w' → gw w') (hgw0 : gw w0) {ops : Array Oper} {orc : Nat → Option Bool} {c c' : Nat} {s s' : S} {L : List Item} {q : List Prop}
    (hr : rrun P G N sg wk ops orc ops.toList 0 c s = .done L s' c' q) (hq : All q) (hok : anyOk ops L = true) (h : Rel w0 N ρ s a w) (hgl : Amb P G gw ρ)
    (hQ : ∀ a' w' ρ', Rel w0 N ρ' s' a' w' → ρ.le ρ' → Q .normal a' w') : wpAnyIn (Fd rr) 0 P .any ops Q ops.size (Array.replicate ops.size false) a w := by
  obtain ⟨hlen, hs', hall⟩ := rrun_spec hr hq
  unfold anyOk at hok
  simp only [Bool.and_eq_true] at hok
  obtain ⟨hM, hP⟩ := hok
  generalize masks ops.toList [] = M at hM hP
  have key : ∀ fuel (listed : Array Bool) (a : Act) (w : World) (ρ1 : Ren), listed.size = ops.size → ops.size ≤ fuel + (listed.toList.filter id).length →
      (∀ j o, ops[j]? = some o → listed.getD j false = true → ∀ e ∈ o.after.toList, Region.binds .any e = true → listed.getD e.on false = true) →
      Rel w0 N ρ1 (runL (fun k => listed.getD k false) L 0 s) a w → ρ.le ρ1 → wpAnyIn (Fd rr) 0 P .any ops Q fuel listed a w := by
    have fin : ∀ (listed : Array Bool) (a : Act) (w : World) (ρ1 : Ren), listed.size = ops.size → Region.ready .any ops listed = [] →
        Rel w0 N ρ1 (runL (fun k => listed.getD k false) L 0 s) a w → ρ.le ρ1 → Q .normal a w := by
      intro listed a w ρ1 hs hnil h1 hle
      have hf := ready_nil hs hM hnil
      refine hQ a w ρ1 ?_ hle
      rw [hs', ← runL_all (D := fun k => listed.getD k false) L 0 s (fun k hk => by
        rw [Nat.zero_add]; exact hf k (by rw [hlen] at hk; simpa using hk))]
      exact h1
    intro fuel
    induction fuel with
    | zero =>
      intro listed a w ρ1 hs hcount hcl h1 hle
      have hfull : ∀ i, i < ops.size → listed.getD i false = true := by
        intro i hi
        have hl : (listed.toList.filter id).length = listed.toList.length := by
          have := List.length_filter_le id listed.toList
          simp at this hcount ⊢; omega
        rw [List.length_filter_eq_length_iff] at hl
        have hi' : i < listed.size := by omega
        have := hl listed[i] (by simp)
        rw [Array.getD_eq_getD_getElem?, Array.getElem?_eq_getElem hi']
        simpa using this
      have hnil : Region.ready .any ops listed = [] := by
        rw [List.eq_nil_iff_forall_not_mem]
        intro j hj
        obtain ⟨o, _, hlt, hn, _⟩ := mem_ready' hj
        have := hfull j hlt
        have hi' : j < listed.size := by omega
        rw [Array.getD_eq_getD_getElem?, Array.getElem?_eq_getElem hi'] at hn this
        simp at hn this
        rw [hn] at this; cases this
      exact ⟨hnil, fin listed a w ρ1 hs hnil h1 hle⟩
    | succ fuel ih =>
      intro listed a w ρ1 hs hcount hcl h1 hle
      refine ⟨fun hnil => fin listed a w ρ1 hs hnil h1 hle, ?_⟩
      intro j hj
      obtain ⟨o, ho, hjlt, hnot, hpre⟩ := mem_ready' hj
      have hjs : j < listed.size := by omega
      have hnot' : listed.getD j false = false := by
        rw [Array.getD_eq_getD_getElem?, Array.getElem?_eq_getElem hjs] at hnot ⊢
        simpa using hnot
      have hjL : j < L.length := by rw [hlen]; simpa using hjlt
      obtain ⟨k1, p, k2, k3⟩ := hall j o L[j] (by rw [Array.getElem?_toList]; exact ho) (List.getElem?_eq_getElem hjL)
      simp only [Nat.zero_add] at k2
      have hpairs := allPairsOk_at hP (k := j) (o := o) (y := L[j]) (by rw [Array.getElem?_toList]; exact ho) (List.getElem?_eq_getElem hjL)
      rw [Nat.zero_add] at hpairs
      -- what comes before one that has run has run
      have hdown : ∀ (i k : Nat), listed.getD i false = true → (M.getD i 0).testBit k = true → listed.getD k false = true := by
        intro i
        induction i using Nat.strongRecOn with
        | _ i ihd =>
          intro k hi hk
          have his : i < ops.size := by
            have : i < listed.size := by
              by_cases hlt : i < listed.size
              · exact hlt
              · rw [Array.getD_eq_getD_getElem?, Array.getElem?_eq_none (by omega)] at hi; simp at hi
            omega
          have hoi : ops[i]? = some ops[i] := Array.getElem?_eq_getElem his
          obtain ⟨m1, m2⟩ := masksOk_at hM (k := i) (o := ops[i]) (by rw [Array.getElem?_toList]; exact hoi)
          rw [Nat.zero_add] at m1 m2
          rw [m1] at hk
          obtain ⟨e, he, hb, hor⟩ := maskE_bit hk
          have h1 := hcl i _ hoi hi e he hb
          rcases hor with rfl | hor
          · exact h1
          · exact ihd e.on (m2 e he hb) k h1 hor
      have hbefore : ∀ k, (M.getD j 0).testBit k = true → listed.getD k false = true := by
        intro k hk
        obtain ⟨m1, m2⟩ := masksOk_at hM (k := j) (o := o) (by rw [Array.getElem?_toList]; exact ho)
        rw [Nat.zero_add] at m1 m2
        rw [m1] at hk
        obtain ⟨e, he, hb, hor⟩ := maskE_bit hk
        rcases hor with rfl | hor
        · exact hpre e he hb
        · exact hdown e.on k (hpre e he hb) hor
      -- an operation that j conflicts with has run just if it stands before j
      have hsame : ∀ k x, L[k]? = some x → k ≠ j → conf (uses ops o) x L[j] = true → listed.getD k false = Nat.blt k j := by
        intro k x hx hne hc
        have hp := pairsOk_at hpairs hx (by omega) hc
        rw [Nat.zero_add] at hp
        by_cases hlt : k < j
        · rw [hbefore k (hp.1 hlt)]; rw [eq_comm, Nat.blt_eq]; exact hlt
        · have hgt : j < k := by omega
          have : Nat.blt k j = false := by rw [← Bool.not_eq_true, Nat.blt_eq]; omega
          rw [this]
          cases hk : listed.getD k false with
          | false => rfl
          | true => have := hdown k j hk (hp.2 hgt); rw [hnot'] at this; cases this
      have hmem : ∀ {d : Nat} {l : List Nat}, d ∈ l → l.elem d = true := fun h => List.elem_eq_true_of_mem h
      have a1 : ∀ t, t ∈ uses ops o → (runL (fun k => listed.getD k false) L 0 s).tm t = (runL (fun k => Nat.blt k j) L 0 s).tm t := by
        intro t ht
        refine runL_tm L 0 s s rfl (fun k x hx hxt => ?_)
        rw [Nat.zero_add]
        by_cases e : k = j
        · subst e
          rw [hnot', eq_comm, ← Bool.not_eq_true, Nat.blt_eq]; omega
        · exact hsame k x hx e (by unfold conf; rw [hxt]; simp only [hmem ht, Bool.true_or])
      have a2 : ∀ m, (m ∈ L[j].2.rd ∨ m ∈ L[j].2.touch) → (runL (fun k => listed.getD k false) L 0 s).hp m = (runL (fun k => Nat.blt k j) L 0 s).hp m := by
        intro m hm
        refine runL_hp L 0 s s rfl (fun k x hx hxm => ?_)
        rw [Nat.zero_add]
        by_cases e : k = j
        · subst e
          rw [hnot', eq_comm, ← Bool.not_eq_true, Nat.blt_eq]; omega
        · refine hsame k x hx e ?_
          unfold conf
          rw [Bool.or_eq_true]; right
          rw [List.any_eq_true]
          refine ⟨m, hxm, ?_⟩
          rcases hm with hm | hm
          · rw [hmem hm]; rfl
          · rw [hmem hm]; simp
      have st := stepA_sound (rr := rr) (Q := Q) hsg (hgl.mono hle) (hst _ _ hgw0 h1.bel) ho k2 k3 h1 a1 (fun m hm => a2 m (.inl hm)) (fun m hm => a2 m (.inr hm))
      refine wpOpIn_mono ?_ st
      rintro a' w' ⟨ρ', hrel, hle'⟩
      refine ih (listed.setIfInBounds j true) a' w' ρ' (by simpa using hs) ?_ ?_ ?_ (Ren.le_trans hle hle')
      · have : ((listed.setIfInBounds j true).toList.filter id).length = (listed.toList.filter id).length + 1 := by
          rw [Array.toList_setIfInBounds]
          have hjl : j < listed.toList.length := by simpa using hjs
          have hval : listed.toList[j] = false := by
            rw [Array.getD_eq_getD_getElem?, Array.getElem?_eq_getElem hjs] at hnot'
            simpa using hnot'
          exact count_set hjl hval
        omega
      · intro i oi hoi hi e he hb
        by_cases hij : i = j
        · subst hij
          rw [ho] at hoi; cases hoi
          have := hpre e he hb
          by_cases hej : e.on = i
          · rw [hej] at this; rw [hnot'] at this; cases this
          · rw [getD_set_ne _ (fun h => hej h.symm)]; exact this
        · rw [getD_set_ne _ (fun h => hij h.symm)] at hi
          exact getD_set_true (hcl i oi hoi hi e he hb)
      · have e := runL_ins (D := fun k => listed.getD k false) (D' := fun k => (listed.setIfInBounds j true).getD k false) L[j] L 0 j s (List.getElem?_eq_getElem hjL)
          (by rw [Nat.zero_add]; exact hnot')
          (by rw [Nat.zero_add, Array.getD_eq_getD_getElem?, Array.getElem?_setIfInBounds]; simp [hjs])
          (fun k hk => by rw [Nat.zero_add] at hk; exact getD_set_ne _ (fun h => hk h.symm))
          (fun k y hy hjk hD t => by
            rw [Nat.zero_add] at hD
            have hnc : conf (uses ops o) y L[j] = false := by
              cases hc : conf (uses ops o) y L[j] with
              | false => rfl
              | true =>
                have := hsame k y hy (by omega) hc
                rw [hD, eq_comm, Nat.blt_eq] at this; omega
            unfold conf at hnc
            rw [Bool.or_eq_false_iff] at hnc
            refine doit_comm y L[j] t ?_ ?_
            · intro d hd hd'
              rw [hd] at hnc
              have : d ∈ uses ops o := by unfold uses; rw [k1] at hd'; rw [hd']; simp
              have := hmem this
              simp only at hnc
              rw [this] at hnc; cases hnc.1
            · intro m hm hm'
              have := hnc.2
              rw [List.any_eq_false] at this
              have := this m hm
              rw [hmem hm'] at this; simp at this)
        rw [e, k1]; exact hrel
  refine key ops.size _ a w ρ (by simp) (by omega) ?_ ?_ (Ren.le_refl _)
  · intro j o _ hj
    exfalso
    rw [Array.getD_eq_getD_getElem?, Array.getElem?_replicate] at hj
    split at hj <;> simp at hj
  · have : ∀ (l : List Item) (i : Nat), runL (fun k => (Array.replicate ops.size false).getD k false) l i s = s := by
      intro l
      induction l with
      | nil => intro i; rfl
      | cons x l ih =>
        intro i
        have : (Array.replicate ops.size false).getD i false = false := by
          rw [Array.getD_eq_getD_getElem?, Array.getElem?_replicate]; split <;> simp
        simp only [runL, this, Bool.false_eq_true, if_false]
        exact ih _
    rw [this]; exact h
end
end Go.V
end

section
set_option linter.unusedVariables false
set_option linter.unusedSimpArgs false
namespace Go.V
open Go.RowKit (Below)
inductive T : Type → Type 1 where
  | ret {α : Type} (x : α) : T α
  | br {α : Type} (b : Bool) (t e : T α) : T α
  | need {α : Type} (p : Prop) (t : T α) : T α
  | fail {α : Type} : T α
  | loop {α : Type} (X : Type) (x0 : X) (body : X → T (X ⊕ α)) : T α
  | loop2 {α : Type} (X Y : Type) (x0 : X ⊕ Y) (b1 : X → T ((X ⊕ Y) ⊕ α)) (b2 : Y → T ((X ⊕ Y) ⊕ α)) : T α
  | loop3 {α : Type} (X Y Z : Type) (x0 : X ⊕ (Y ⊕ Z)) (b1 : X → T ((X ⊕ (Y ⊕ Z)) ⊕ α)) (b2 : Y → T ((X ⊕ (Y ⊕ Z)) ⊕ α)) (b3 : Z → T ((X ⊕ (Y ⊕ Z)) ⊕ α)) : T α
def LoopP {X α : Type} (I : X → Prop) (μ : X → Nat) (n : Nat) (Q : α → Prop) : X ⊕ α → Prop
  | .inl y => I y ∧ μ y < n
  | .inr a => Q a
def T.wp : {α : Type} → T α → (α → Prop) → Prop
  | _, .ret x, Q => Q x
  | _, .br b t e, Q => (b = true → t.wp Q) ∧ (b = false → e.wp Q)
  | _, .need p t, Q => p ∧ t.wp Q
  | _, .fail, _ => False
  | _, .loop X x0 body, Q => ∃ (I : X → Prop) (μ : X → Nat), I x0 ∧ ∀ x, I x → (body x).wp (LoopP I μ (μ x) Q)
  | _, .loop2 X Y x0 b1 b2, Q => ∃ (I : X ⊕ Y → Prop) (μ : X ⊕ Y → Nat), I x0 ∧ (∀ x, I (.inl x) → (b1 x).wp (LoopP I μ (μ (.inl x)) Q)) ∧ (∀ y, I (.inr y) → (b2 y).wp (LoopP I μ (μ (.inr y)) Q))
  | _, .loop3 X Y Z x0 b1 b2 b3, Q => ∃ (I : X ⊕ (Y ⊕ Z) → Prop) (μ : X ⊕ (Y ⊕ Z) → Nat), I x0 ∧ (∀ x, I (.inl x) → (b1 x).wp (LoopP I μ (μ (.inl x)) Q)) ∧ (∀ y, I (.inr (.inl y)) → (b2 y).wp (LoopP I μ (μ (.inr (.inl y))) Q)) ∧ (∀ z, I (.inr (.inr z)) → (b3 z).wp (LoopP I μ (μ (.inr (.inr z))) Q))
def sumMap {X α β : Type} (g : α → β) : X ⊕ α → X ⊕ β
  | .inl y => .inl y
  | .inr a => .inr (g a)
def T.map : {α β : Type} → (α → β) → T α → T β
  | _, _, g, .ret x => .ret (g x)
  | _, _, g, .br b t e => .br b (t.map g) (e.map g)
  | _, _, g, .need p t => .need p (t.map g)
  | _, _, _, .fail => .fail
  | _, _, g, .loop X x0 body => .loop X x0 fun x => (body x).map (sumMap g)
  | _, _, g, .loop2 X Y x0 b1 b2 => .loop2 X Y x0 (fun x => (b1 x).map (sumMap g)) (fun y => (b2 y).map (sumMap g))
  | _, _, g, .loop3 X Y Z x0 b1 b2 b3 => .loop3 X Y Z x0 (fun x => (b1 x).map (sumMap g)) (fun y => (b2 y).map (sumMap g)) (fun z => (b3 z).map (sumMap g))
def sumBind {X α β : Type} (f : α → T β) : X ⊕ α → T (X ⊕ β)
  | .inl y => .ret (.inl y)
  | .inr a => (f a).map .inr
def T.bind : {α β : Type} → T α → (α → T β) → T β
  | _, _, .ret x, f => f x
  | _, _, .br b t e, f => .br b (t.bind f) (e.bind f)
  | _, _, .need p t, f => .need p (t.bind f)
  | _, _, .fail, _ => .fail
  | _, _, .loop X x0 body, f => .loop X x0 fun x => (body x).bind (sumBind f)
  | _, _, .loop2 X Y x0 b1 b2, f => .loop2 X Y x0 (fun x => (b1 x).bind (sumBind f)) (fun y => (b2 y).bind (sumBind f))
  | _, _, .loop3 X Y Z x0 b1 b2 b3, f => .loop3 X Y Z x0 (fun x => (b1 x).bind (sumBind f)) (fun y => (b2 y).bind (sumBind f)) (fun z => (b3 z).bind (sumBind f))
def T.brf {α : Type} (f b : Bool) (x y : T α) : T α := match f with | true => (match b with | true => x | false => y) | false => .br b x y
theorem T.wp_brf {α : Type} {f b : Bool} {x y : T α} {Q : α → Prop} (h : (T.brf f b x y).wp Q) : (b = true → x.wp Q) ∧ (b = false → y.wp Q) := by
  cases f with
  | false => exact h
  | true =>
    cases b with
    | true => exact ⟨fun _ => h, fun e => by cases e⟩
    | false => exact ⟨(fun e => by cases e), fun _ => h⟩
theorem T.wp_mono : ∀ {α : Type} {t : T α} {Q R : α → Prop}, (∀ x, Q x → R x) → t.wp Q → t.wp R := by
  intro α t
  induction t with
  | ret x => exact fun h k => h x k
  | br b t e iht ihe => exact fun h k => ⟨fun hb => iht h (k.1 hb), fun hb => ihe h (k.2 hb)⟩
  | need p t ih => exact fun h k => ⟨k.1, ih h k.2⟩
  | fail => exact fun _ k => k
  | loop X x0 body ih =>
    rintro Q R h ⟨I, μ, h0, hb⟩
    refine ⟨I, μ, h0, fun x hx => ih x ?_ (hb x hx)⟩
    intro r hr
    cases r with
    | inl y => exact hr
    | inr a => exact h a hr
  | loop2 X Y x0 b1 b2 ih1 ih2 =>
    rintro Q R h ⟨I, μ, h0, hb1, hb2⟩
    refine ⟨I, μ, h0, fun x hx => ih1 x ?_ (hb1 x hx), fun x hx => ih2 x ?_ (hb2 x hx)⟩
    all_goals (intro r hr; cases r with | inl y => exact hr | inr a => exact h a hr)
  | loop3 X Y Z x0 b1 b2 b3 ih1 ih2 ih3 =>
    rintro Q R h ⟨I, μ, h0, hb1, hb2, hb3⟩
    refine ⟨I, μ, h0, fun x hx => ih1 x ?_ (hb1 x hx), fun x hx => ih2 x ?_ (hb2 x hx), fun x hx => ih3 x ?_ (hb3 x hx)⟩
    all_goals (intro r hr; cases r with | inl y => exact hr | inr a => exact h a hr)
theorem T.wp_ex : ∀ {α : Type} {t : T α} {Q : α → Prop}, t.wp Q → ∃ x, Q x := by
  intro α t
  induction t with
  | ret x => exact fun h => ⟨x, h⟩
  | br b t e iht ihe =>
    intro Q h
    cases b with
    | true => exact iht (h.1 rfl)
    | false => exact ihe (h.2 rfl)
  | need p t ih => exact fun h => ih h.2
  | fail => exact fun h => h.elim
  | loop X x0 body ih =>
    rintro Q ⟨I, μ, h0, hb⟩
    have key : ∀ n x, I x → μ x < n → ∃ a, Q a := by
      intro n
      induction n with
      | zero => intro x _ h; omega
      | succ n ihn =>
        intro x hx hlt
        obtain ⟨r, hr⟩ := ih x (hb x hx)
        cases r with
        | inl y => exact ihn y hr.1 (by have := hr.2; omega)
        | inr a => exact ⟨a, hr⟩
    exact key (μ x0 + 1) x0 h0 (by omega)
  | loop2 X Y x0 b1 b2 ih1 ih2 =>
    rintro Q ⟨I, μ, h0, hb1, hb2⟩
    have key : ∀ n x, I x → μ x < n → ∃ a, Q a := by
      intro n
      induction n with
      | zero => intro x _ h; omega
      | succ n ihn =>
        intro x hx hlt
        cases x with
        | inl x =>
          obtain ⟨r, hr⟩ := ih1 x (hb1 x hx)
          cases r with
          | inl y => exact ihn y hr.1 (by have := hr.2; omega)
          | inr a => exact ⟨a, hr⟩
        | inr x =>
          obtain ⟨r, hr⟩ := ih2 x (hb2 x hx)
          cases r with
          | inl y => exact ihn y hr.1 (by have := hr.2; omega)
          | inr a => exact ⟨a, hr⟩
    exact key (μ x0 + 1) x0 h0 (by omega)
  | loop3 X Y Z x0 b1 b2 b3 ih1 ih2 ih3 =>
    rintro Q ⟨I, μ, h0, hb1, hb2, hb3⟩
    have key : ∀ n x, I x → μ x < n → ∃ a, Q a := by
      intro n
      induction n with
      | zero => intro x _ h; omega
      | succ n ihn =>
        intro x hx hlt
        cases x with
        | inl x =>
          obtain ⟨r, hr⟩ := ih1 x (hb1 x hx)
          cases r with
          | inl y => exact ihn y hr.1 (by have := hr.2; omega)
          | inr a => exact ⟨a, hr⟩
        | inr x =>
          cases x with
          | inl x =>
            obtain ⟨r, hr⟩ := ih2 x (hb2 x hx)
            cases r with
            | inl y => exact ihn y hr.1 (by have := hr.2; omega)
            | inr a => exact ⟨a, hr⟩
          | inr x =>
            obtain ⟨r, hr⟩ := ih3 x (hb3 x hx)
            cases r with
            | inl y => exact ihn y hr.1 (by have := hr.2; omega)
            | inr a => exact ⟨a, hr⟩
    exact key (μ x0 + 1) x0 h0 (by omega)
theorem T.wp_map : ∀ {α : Type} {t : T α} {β : Type} {g : α → β} {Q : β → Prop}, (t.map g).wp Q → t.wp (fun x => Q (g x)) := by
  intro α t
  induction t with
  | ret x => exact fun h => h
  | br b t e iht ihe => exact fun h => ⟨fun hb => iht (h.1 hb), fun hb => ihe (h.2 hb)⟩
  | need p t ih => exact fun h => ⟨h.1, ih h.2⟩
  | fail => exact fun h => h
  | loop X x0 body ih =>
    rintro β g Q ⟨I, μ, h0, hb⟩
    refine ⟨I, μ, h0, fun x hx => T.wp_mono ?_ (ih x (hb x hx))⟩
    intro r hr
    cases r with
    | inl y => exact hr
    | inr a => exact hr
  | loop2 X Y x0 b1 b2 ih1 ih2 =>
    rintro β g Q ⟨I, μ, h0, hb1, hb2⟩
    refine ⟨I, μ, h0, fun x hx => T.wp_mono ?_ (ih1 x (hb1 x hx)), fun x hx => T.wp_mono ?_ (ih2 x (hb2 x hx))⟩
    all_goals (intro r hr; cases r with | inl y => exact hr | inr a => exact hr)
  | loop3 X Y Z x0 b1 b2 b3 ih1 ih2 ih3 =>
    rintro β g Q ⟨I, μ, h0, hb1, hb2, hb3⟩
    refine ⟨I, μ, h0, fun x hx => T.wp_mono ?_ (ih1 x (hb1 x hx)), fun x hx => T.wp_mono ?_ (ih2 x (hb2 x hx)), fun x hx => T.wp_mono ?_ (ih3 x (hb3 x hx))⟩
    all_goals (intro r hr; cases r with | inl y => exact hr | inr a => exact hr)
theorem T.wp_bind : ∀ {α : Type} {t : T α} {β : Type} {f : α → T β} {Q : β → Prop}, (t.bind f).wp Q → t.wp (fun x => (f x).wp Q) := by
  intro α t
  induction t with
  | ret x => exact fun h => h
  | br b t e iht ihe => exact fun h => ⟨fun hb => iht (h.1 hb), fun hb => ihe (h.2 hb)⟩
  | need p t ih => exact fun h => ⟨h.1, ih h.2⟩
  | fail => exact fun h => h
  | loop X x0 body ih =>
    rintro β f Q ⟨I, μ, h0, hb⟩
    refine ⟨I, μ, h0, fun x hx => T.wp_mono ?_ (ih x (hb x hx))⟩
    intro r hr
    cases r with
    | inl y => exact hr
    | inr a => exact T.wp_mono (fun b hb => hb) (T.wp_map (t := f a) (g := Sum.inr) hr)
  | loop2 X Y x0 b1 b2 ih1 ih2 =>
    rintro β f Q ⟨I, μ, h0, hb1, hb2⟩
    refine ⟨I, μ, h0, fun x hx => T.wp_mono ?_ (ih1 x (hb1 x hx)), fun x hx => T.wp_mono ?_ (ih2 x (hb2 x hx))⟩
    all_goals (intro r hr; cases r with | inl y => exact hr | inr a => exact T.wp_mono (fun b hb => hb) (T.wp_map (t := f a) (g := Sum.inr) hr))
  | loop3 X Y Z x0 b1 b2 b3 ih1 ih2 ih3 =>
    rintro β f Q ⟨I, μ, h0, hb1, hb2, hb3⟩
    refine ⟨I, μ, h0, fun x hx => T.wp_mono ?_ (ih1 x (hb1 x hx)), fun x hx => T.wp_mono ?_ (ih2 x (hb2 x hx)), fun x hx => T.wp_mono ?_ (ih3 x (hb3 x hx))⟩
    all_goals (intro r hr; cases r with | inl y => exact hr | inr a => exact T.wp_mono (fun b hb => hb) (T.wp_map (t := f a) (g := Sum.inr) hr))
theorem T.map_wp : ∀ {α : Type} {t : T α} {β : Type} {g : α → β} {Q : β → Prop}, t.wp (fun x => Q (g x)) → (t.map g).wp Q := by
  intro α t
  induction t with
  | ret x => exact fun h => h
  | br b t e iht ihe => exact fun h => ⟨fun hb => iht (h.1 hb), fun hb => ihe (h.2 hb)⟩
  | need p t ih => exact fun h => ⟨h.1, ih h.2⟩
  | fail => exact fun h => h
  | loop X x0 body ih =>
    rintro β g Q ⟨I, μ, h0, hb⟩
    refine ⟨I, μ, h0, fun x hx => ih x (T.wp_mono ?_ (hb x hx))⟩
    intro r hr
    cases r with
    | inl y => exact hr
    | inr a => exact hr
  | loop2 X Y x0 b1 b2 ih1 ih2 =>
    rintro β g Q ⟨I, μ, h0, hb1, hb2⟩
    refine ⟨I, μ, h0, fun x hx => ih1 x (T.wp_mono ?_ (hb1 x hx)), fun x hx => ih2 x (T.wp_mono ?_ (hb2 x hx))⟩
    all_goals (intro r hr; cases r with | inl y => exact hr | inr a => exact hr)
  | loop3 X Y Z x0 b1 b2 b3 ih1 ih2 ih3 =>
    rintro β g Q ⟨I, μ, h0, hb1, hb2, hb3⟩
    refine ⟨I, μ, h0, fun x hx => ih1 x (T.wp_mono ?_ (hb1 x hx)), fun x hx => ih2 x (T.wp_mono ?_ (hb2 x hx)), fun x hx => ih3 x (T.wp_mono ?_ (hb3 x hx))⟩
    all_goals (intro r hr; cases r with | inl y => exact hr | inr a => exact hr)
theorem T.bind_wp : ∀ {α : Type} {t : T α} {β : Type} {f : α → T β} {Q : β → Prop}, t.wp (fun x => (f x).wp Q) → (t.bind f).wp Q := by
  intro α t
  induction t with
  | ret x => exact fun h => h
  | br b t e iht ihe => exact fun h => ⟨fun hb => iht (h.1 hb), fun hb => ihe (h.2 hb)⟩
  | need p t ih => exact fun h => ⟨h.1, ih h.2⟩
  | fail => exact fun h => h
  | loop X x0 body ih =>
    rintro β f Q ⟨I, μ, h0, hb⟩
    refine ⟨I, μ, h0, fun x hx => ih x (T.wp_mono ?_ (hb x hx))⟩
    intro r hr
    cases r with
    | inl y => exact hr
    | inr a => exact T.map_wp (t := f a) (g := Sum.inr) hr
  | loop2 X Y x0 b1 b2 ih1 ih2 =>
    rintro β f Q ⟨I, μ, h0, hb1, hb2⟩
    refine ⟨I, μ, h0, fun x hx => ih1 x (T.wp_mono ?_ (hb1 x hx)), fun x hx => ih2 x (T.wp_mono ?_ (hb2 x hx))⟩
    all_goals (intro r hr; cases r with | inl y => exact hr | inr a => exact T.map_wp (t := f a) (g := Sum.inr) hr)
  | loop3 X Y Z x0 b1 b2 b3 ih1 ih2 ih3 =>
    rintro β f Q ⟨I, μ, h0, hb1, hb2, hb3⟩
    refine ⟨I, μ, h0, fun x hx => ih1 x (T.wp_mono ?_ (hb1 x hx)), fun x hx => ih2 x (T.wp_mono ?_ (hb2 x hx)), fun x hx => ih3 x (T.wp_mono ?_ (hb3 x hx))⟩
    all_goals (intro r hr; cases r with | inl y => exact hr | inr a => exact T.map_wp (t := f a) (g := Sum.inr) hr)
def T.all : {α : Type} → T α → (α → Prop) → Prop
  | _, .ret x, Q => Q x
  | _, .br _ t e, Q => t.all Q ∧ e.all Q
  | _, .need _ t, Q => t.all Q
  | _, .fail, _ => True
  | _, .loop _ _ body, Q => ∀ x, (body x).all (fun r => match r with | .inl _ => True | .inr a => Q a)
  | _, .loop2 _ _ _ b1 b2, Q => (∀ x, (b1 x).all (fun r => match r with | .inl _ => True | .inr a => Q a)) ∧ (∀ x, (b2 x).all (fun r => match r with | .inl _ => True | .inr a => Q a))
  | _, .loop3 _ _ _ _ b1 b2 b3, Q => (∀ x, (b1 x).all (fun r => match r with | .inl _ => True | .inr a => Q a)) ∧ (∀ x, (b2 x).all (fun r => match r with | .inl _ => True | .inr a => Q a)) ∧ (∀ x, (b3 x).all (fun r => match r with | .inl _ => True | .inr a => Q a))
theorem T.all_brf {α : Type} {f b : Bool} {x y : T α} {Q : α → Prop} (h1 : x.all Q) (h2 : y.all Q) : (T.brf f b x y).all Q := by
  cases f with
  | false => exact ⟨h1, h2⟩
  | true => cases b with | true => exact h1 | false => exact h2
theorem T.all_mono : ∀ {α : Type} {t : T α} {Q R : α → Prop}, (∀ x, Q x → R x) → t.all Q → t.all R := by
  intro α t
  induction t with
  | ret x => exact fun h k => h x k
  | br b t e iht ihe => exact fun h k => ⟨iht h k.1, ihe h k.2⟩
  | need p t ih => exact fun h k => ih h k
  | fail => exact fun _ k => k
  | loop X x0 body ih =>
    intro Q R h k x
    refine ih x ?_ (k x)
    intro r hr; cases r with | inl y => exact hr | inr a => exact h a hr
  | loop2 X Y x0 b1 b2 ih1 ih2 =>
    intro Q R h k
    refine ⟨fun x => ih1 x ?_ (k.1 x), fun x => ih2 x ?_ (k.2 x)⟩
    all_goals (intro r hr; cases r with | inl y => exact hr | inr a => exact h a hr)
  | loop3 X Y Z x0 b1 b2 b3 ih1 ih2 ih3 =>
    intro Q R h k
    refine ⟨fun x => ih1 x ?_ (k.1 x), fun x => ih2 x ?_ (k.2.1 x), fun x => ih3 x ?_ (k.2.2 x)⟩
    all_goals (intro r hr; cases r with | inl y => exact hr | inr a => exact h a hr)
theorem T.all_map : ∀ {α : Type} {t : T α} {β : Type} {g : α → β} {Q : β → Prop}, t.all (fun x => Q (g x)) → (t.map g).all Q := by
  intro α t
  induction t with
  | ret x => exact fun h => h
  | br b t e iht ihe => exact fun h => ⟨iht h.1, ihe h.2⟩
  | need p t ih => exact fun h => ih h
  | fail => exact fun h => h
  | loop X x0 body ih =>
    intro β g Q h x
    refine ih x (T.all_mono ?_ (h x))
    intro r hr; cases r with | inl y => exact hr | inr a => exact hr
  | loop2 X Y x0 b1 b2 ih1 ih2 =>
    intro β g Q h
    refine ⟨fun x => ih1 x (T.all_mono ?_ (h.1 x)), fun x => ih2 x (T.all_mono ?_ (h.2 x))⟩
    all_goals (intro r hr; cases r with | inl y => exact hr | inr a => exact hr)
  | loop3 X Y Z x0 b1 b2 b3 ih1 ih2 ih3 =>
    intro β g Q h
    refine ⟨fun x => ih1 x (T.all_mono ?_ (h.1 x)), fun x => ih2 x (T.all_mono ?_ (h.2.1 x)), fun x => ih3 x (T.all_mono ?_ (h.2.2 x))⟩
    all_goals (intro r hr; cases r with | inl y => exact hr | inr a => exact hr)
theorem T.all_bind : ∀ {α : Type} {t : T α} {β : Type} {f : α → T β} {Q : β → Prop}, t.all (fun x => (f x).all Q) → (t.bind f).all Q := by
  intro α t
  induction t with
  | ret x => exact fun h => h
  | br b t e iht ihe => exact fun h => ⟨iht h.1, ihe h.2⟩
  | need p t ih => exact fun h => ih h
  | fail => exact fun h => h
  | loop X x0 body ih =>
    intro β f Q h x
    refine ih x (T.all_mono ?_ (h x))
    intro r hr; cases r with | inl y => exact trivial | inr a => exact T.all_map hr
  | loop2 X Y x0 b1 b2 ih1 ih2 =>
    intro β f Q h
    refine ⟨fun x => ih1 x (T.all_mono ?_ (h.1 x)), fun x => ih2 x (T.all_mono ?_ (h.2 x))⟩
    all_goals (intro r hr; cases r with | inl y => exact trivial | inr a => exact T.all_map hr)
  | loop3 X Y Z x0 b1 b2 b3 ih1 ih2 ih3 =>
    intro β f Q h
    refine ⟨fun x => ih1 x (T.all_mono ?_ (h.1 x)), fun x => ih2 x (T.all_mono ?_ (h.2.1 x)), fun x => ih3 x (T.all_mono ?_ (h.2.2 x))⟩
    all_goals (intro r hr; cases r with | inl y => exact trivial | inr a => exact T.all_map hr)
theorem T.wp_all : ∀ {α : Type} {t : T α} {Q R : α → Prop}, t.wp Q → t.all R → t.wp (fun x => Q x ∧ R x) := by
  intro α t
  induction t with
  | ret x => exact fun h k => ⟨h, k⟩
  | br b t e iht ihe => exact fun h k => ⟨fun hb => iht (h.1 hb) k.1, fun hb => ihe (h.2 hb) k.2⟩
  | need p t ih => exact fun h k => ⟨h.1, ih h.2 k⟩
  | fail => exact fun h _ => h
  | loop X x0 body ih =>
    rintro Q R ⟨I, μ, h0, hb⟩ k
    refine ⟨I, μ, h0, fun x hx => T.wp_mono ?_ (ih x (hb x hx) (k x))⟩
    intro r hr; cases r with | inl y => exact hr.1 | inr a => exact hr
  | loop2 X Y x0 b1 b2 ih1 ih2 =>
    rintro Q R ⟨I, μ, h0, hb1, hb2⟩ k
    refine ⟨I, μ, h0, fun x hx => T.wp_mono ?_ (ih1 x (hb1 x hx) (k.1 x)), fun x hx => T.wp_mono ?_ (ih2 x (hb2 x hx) (k.2 x))⟩
    all_goals (intro r hr; cases r with | inl y => exact hr.1 | inr a => exact hr)
  | loop3 X Y Z x0 b1 b2 b3 ih1 ih2 ih3 =>
    rintro Q R ⟨I, μ, h0, hb1, hb2, hb3⟩ k
    refine ⟨I, μ, h0, fun x hx => T.wp_mono ?_ (ih1 x (hb1 x hx) (k.1 x)), fun x hx => T.wp_mono ?_ (ih2 x (hb2 x hx) (k.2.1 x)), fun x hx => T.wp_mono ?_ (ih3 x (hb3 x hx) (k.2.2 x))⟩
    all_goals (intro r hr; cases r with | inl y => exact hr.1 | inr a => exact hr)
def T.needs {α : Type} : List Prop → T α → T α
  | [], t => t
  | p :: l, t => .need p (T.needs l t)
theorem T.wp_needs {α : Type} {Q : α → Prop} {t : T α} : ∀ {l : List Prop}, (T.needs l t).wp Q → All l ∧ t.wp Q
  | [], h => ⟨trivial, h⟩
  | _ :: _, h => ⟨⟨h.1, (T.wp_needs h.2).1⟩, (T.wp_needs h.2).2⟩
theorem T.all_needs {α : Type} {Q : α → Prop} {t : T α} : ∀ {l : List Prop}, t.all Q → (T.needs l t).all Q
  | [], h => h
  | _ :: l, h => T.all_needs (l := l) h
def T.strip : {α : Type} → T α → Option (List Prop × α)
  | _, .ret x => some ([], x)
  | _, .need p t => (match t.strip with | some (l, x) => some (p :: l, x) | none => none)
  | _, _ => none
theorem T.strip_wp : ∀ {α : Type} {t : T α} {l : List Prop} {x : α}, t.strip = some (l, x) → All l → t.wp (fun r => r = x) := by
  intro α t
  induction t with
  | ret y => intro l x h _; simp only [T.strip, Option.some.injEq, Prod.mk.injEq] at h; exact h.2
  | need p t ih =>
    intro l x h hl
    simp only [T.strip] at h
    split at h
    · rename_i l' x' h'
      simp only [Option.some.injEq, Prod.mk.injEq] at h
      obtain ⟨rfl, rfl⟩ := h
      exact ⟨hl.1, ih h' hl.2⟩
    · cases h
  | br b t e _ _ => intro l x h; cases h
  | fail => intro l x h; cases h
  | loop X x0 body _ => intro l x h; cases h
  | loop2 X Y x0 b1 b2 _ _ => intro l x h; cases h
  | loop3 X Y Z x0 b1 b2 b3 _ _ _ => intro l x h; cases h
def D.eqv : D → D → Prop
  | .sl q n st F, d => (match d with
    | .sl q' n' st' F' => (q' = true → q = true) ∧ n = n' ∧ (0 < n → st = st') ∧ ∀ i j, i < n → j < st → (F i j).eqv (F' i j)
    | _ => False)
  | .fc f n F, d => (match d with
    | .fc f' n' F' => f = f' ∧ n = n' ∧ ∀ j, j < n → (F j).eqv (F' j)
    | _ => False)
  | .ifd t g n F, d => (match d with
    | .ifd t' g' n' F' => t = t' ∧ g = g' ∧ n = n' ∧ ∀ j, j < n → (F j).eqv (F' j)
    | _ => False)
  | d, d' => d = d'
theorem D.eqv_rel {κ : Still} : ∀ {d d' : D} {x : Value}, d.eqv d' → d.rel κ x → d'.rel κ x := by
  intro d
  induction d with
  | sl q n st F ih =>
    intro d' x h r
    cases d' with
    | sl q' n' st' F' =>
      obtain ⟨h1, rfl, h0, h2⟩ := h
      rcases r with ⟨rfl, g2, g3⟩ | ⟨a, cap, g1, g2, g3, g4⟩
      · refine .inl ⟨?_, g2, g3⟩
        cases q' with
        | false => rfl
        | true => cases h1 rfl
      · refine .inr ⟨a, cap, g1, g2, g3, fun i j hi hj => ?_⟩
        have hst := h0 (by omega)
        subst hst
        obtain ⟨y, hy, hr⟩ := g4 i j hi hj
        exact ⟨y, hy, ih i j (h2 i j hi hj) hr⟩
    | _ => exact h.elim
  | fc f n F ih =>
    intro d' x h r
    cases d' with
    | fc f' n' F' =>
      obtain ⟨rfl, rfl, h2⟩ := h
      obtain ⟨a, g1, g2, g3⟩ := r
      exact ⟨a, g1, g2, fun j hj => by obtain ⟨y, hy, hr⟩ := g3 j hj; exact ⟨y, hy, ih j (h2 j hj) hr⟩⟩
    | _ => exact h.elim
  | ifd t g n F ih =>
    intro d' x h r
    cases d' with
    | ifd t' g' n' F' =>
      obtain ⟨rfl, rfl, rfl, h2⟩ := h
      rcases r with ⟨g0, y, g1, g2, g3⟩ | ⟨g0, xs, g1, g2, g3⟩
      · exact .inl ⟨g0, y, g1, g2, ih 0 (h2 0 g2) g3⟩
      · exact .inr ⟨g0, xs, g1, g2, fun j hj => by obtain ⟨y, hy, hr⟩ := g3 j hj; exact ⟨y, hy, ih j (h2 j hj) hr⟩⟩
    | _ => exact h.elim
  | _ => intro d' x h r; simp only [D.eqv] at h; subst h; exact r
theorem D.eqv_refl : ∀ (d : D), d.eqv d := by
  intro d
  induction d with
  | sl q n st F ih => exact ⟨id, rfl, fun _ => rfl, fun i j _ _ => ih i j⟩
  | fc f n F ih => exact ⟨rfl, rfl, fun j _ => ih j⟩
  | ifd t g n F ih => exact ⟨rfl, rfl, rfl, fun j _ => ih j⟩
  | _ => rfl
structure Enc (α : Type) where
  st : Nat
  enc : α → Nat → D
  rd : (Nat → D) → α
  dflt : α
  law : ∀ a, rd (enc a) = a
section
variable {α : Type}
def Enc.list (E : Enc α) (len : Nat) (F : Nat → Nat → D) : List α := (List.range len).map fun i => E.rd (F i)
def Enc.Is (E : Enc α) (len : Nat) (F : Nat → Nat → D) : Prop := ∀ i j, i < len → j < E.st → (F i j).eqv (E.enc (E.rd (F i)) j)
def Enc.F (E : Enc α) (l : List α) : Nat → Nat → D := fun i => E.enc (l.getD i E.dflt)
theorem Enc.list_len (E : Enc α) {len : Nat} {F : Nat → Nat → D} : (E.list len F).length = len := by simp [Enc.list]
theorem Enc.list_get (E : Enc α) {len : Nat} {F : Nat → Nat → D} {i : Nat} (h : i < len) : (E.list len F).getD i E.dflt = E.rd (F i) := by
  simp [Enc.list, h]
theorem Enc.to (E : Enc α) {q q' : Bool} {len : Nat} {F : Nat → Nat → D} (hq : q' = true → q = true) (h : E.Is len F) : (D.sl q len E.st F).eqv (.sl q' (E.list len F).length E.st (E.F (E.list len F))) := by
  refine ⟨hq, E.list_len.symm, fun _ => rfl, fun i j hi hj => ?_⟩
  have := h i j hi hj
  simp only [Enc.F]
  rw [E.list_get hi]
  exact this
end
inductive CS where
  | int (k : IntKind)
  | bool
  | str
  | nsl
  | row (e : TypeId) (st : Nat)
  | im
  | rowE {α : Type} (e : TypeId) (E : Enc α)
  | imE {α : Type} (E : Enc α)
  | rowN {α : Type} (e : TypeId) (E : Enc α) (d : Nat)
  | litB (b : Bool)
@[reducible] def CS.ty : CS → Type
  | .int _ => Int
  | .bool => Bool
  | .str => ByteArray
  | .nsl => Unit
  | .row _ _ => Nat × (Nat → Nat → D)
  | .im => D
  | .rowE (α := α) _ _ => List α
  | .imE (α := α) _ => List α
  | .rowN (α := α) _ _ _ => List α
  | .litB _ => Unit
@[reducible] def Tys : List CS → Type
  | [] => Unit
  | c :: l => c.ty × Tys l
structure Req where
  m : Nat
  cap : Option Nat
  k : Blk
def imD (hp : Nat → Option Blk) : C → Option (D × List Prop)
  | .sl _ _ 0 _ => some (.sl true 0 0 (fun _ _ => .nilp), [])
  | x => stD hp x
theorem imD_rel {ρ : Ren} {w : World} {hp : Nat → Option Blk} (hhp : ∀ m k, hp m = some k → ∃ b, ρ m = some b ∧ k.rel ρ b w) {c : C} {d : D} {p : List Prop} {x : Value} (h : imD hp c = some (d, p)) (hp' : All p) (r : c.rel ρ x) : d.rel ρ.κ x := by
  unfold imD at h
  split at h
  · simp only [Option.some.injEq, Prod.mk.injEq] at h
    obtain ⟨rfl, rfl⟩ := h
    obtain ⟨b, _, rfl⟩ := r
    exact .inr ⟨⟨b.1, _, none⟩, _, rfl, Nat.zero_le _, fun h => absurd h (Nat.lt_irrefl 0), fun i j hi => absurd hi (Nat.not_lt_zero i)⟩
  · exact stD_rel hhp h hp' r
def rd1 (s : S) : (cs : CS) → C → Option (cs.ty × List Prop × Option Req)
  | .int k, .num k' n => (match decide (k = k') with | true => some (n, [], none) | false => none)
  | .int k, .int k' n => (match decide (k = k') with | true => some (n, [], none) | false => none)
  | .bool, .lit b => some (b, [], none)
  | .bool, .bool b => some (b, [], none)
  | .str, .str b => some (b, [], none)
  | .nsl, .nsl => some ((), [], none)
  | .row e st, .gsl m len => (match baseOf s e st (.a (.c (.gsl m len))) with
    | some (some m, n, F, true, p) => some ((n, F), p, some ⟨m, none, .row e st n F⟩)
    | _ => none)
  | .row e st, .sl m off n cap => (match baseOf s e st (.a (.c (.sl m off n cap))) with
    | some (some m, n, F, true, p) => some ((n, F), p, some ⟨m, some cap, .row e st n F⟩)
    | _ => none)
  | .im, .im d => some (d, [], none)
  | .rowE e E, .gsl m len => (match baseOf s e E.st (.a (.c (.gsl m len))) with
    | some (some m, n, F, true, p) => some (E.list n F, E.Is n F :: p, some ⟨m, none, .row e E.st (E.list n F).length (E.F (E.list n F))⟩)
    | _ => none)
  | .rowE e E, .sl m off n cap => (match baseOf s e E.st (.a (.c (.sl m off n cap))) with
    | some (some m, n, F, true, p) => some (E.list n F, E.Is n F :: p, some ⟨m, some cap, .row e E.st (E.list n F).length (E.F (E.list n F))⟩)
    | _ => none)
  | .imE E, c => (match imD s.hp c with
    | some (.sl _ n st F, p) => (match Nat.beq st E.st || Nat.beq n 0 with
      | true => some (E.list n F, E.Is n F :: p, none)
      | false => none)
    | _ => none)
  | .rowN e E d, .gsl m len => (match baseOf s e E.st (.a (.c (.gsl m len))) with
    | some (some m, n, F, true, p) => (match Nat.beq n d with | true => some (E.list n F, E.Is n F :: p, some ⟨m, none, .row e E.st d (E.F (E.list n F))⟩) | false => none)
    | _ => none)
  | .rowN e E d, .sl m off n cap => (match baseOf s e E.st (.a (.c (.sl m off n cap))) with
    | some (some m, n, F, true, p) => (match Nat.beq n d with | true => some (E.list n F, E.Is n F :: p, some ⟨m, some cap, .row e E.st d (E.F (E.list n F))⟩) | false => none)
    | _ => none)
  | .litB b, .lit b' => (match decide (b = b') with | true => some ((), [], none) | false => none)
  | _, _ => none
def pt1 : (cs : CS) → cs.ty → Nat → C
  | .int k, n, _ => .int k n
  | .bool, b, _ => .bool b
  | .str, b, _ => .str b
  | .nsl, _, _ => .nsl
  | .row _ _, x, c => .gsl c x.1
  | .im, d, _ => .im d
  | .rowE _ _, x, c => .gsl c x.length
  | .imE E, x, _ => .im (.sl false x.length E.st (E.F x))
  | .rowN _ _ d, _, c => .gsl c d
  | .litB b, _, _ => .lit b
def bk1 : (cs : CS) → cs.ty → List Blk
  | .row e st, x => [.row e st x.1 x.2]
  | .rowE e E, x => [.row e E.st x.length (E.F x)]
  | .rowN e E d, x => [.row e E.st d (E.F x)]
  | _, _ => []
def CS.n : CS → Nat
  | .row _ _ => 1
  | .rowE _ _ => 1
  | .rowN _ _ _ => 1
  | _ => 0
def rdL (s : S) : (l : List CS) → List C → Option (Tys l × List Prop × List Req)
  | [], [] => some ((), [], [])
  | cs :: l, c :: k => (match rd1 s cs c, rdL s l k with
    | some (x, p, q), some (y, p', q') => some ((x, y), p ++ p', q.toList ++ q')
    | _, _ => none)
  | _, _ => none
def nL : List CS → Nat
  | [] => 0
  | cs :: l => cs.n + nL l
def ptL : (l : List CS) → Tys l → Nat → List C
  | [], _, _ => []
  | cs :: l, x, c => pt1 cs x.1 c :: ptL l x.2 (c + cs.n)
def bkL : (l : List CS) → Tys l → List Blk
  | [], _ => []
  | cs :: l, x => bk1 cs x.1 ++ bkL l x.2
def Met (ρ ρ' : Ren) (c : Nat) (q : List Req) : Prop := ∀ i r, q[i]? = some r → ∀ b, ρ r.m = some b → ρ' (c + i) = some (b.1, r.cap.getD b.2)
theorem Met.tail {ρ ρ' : Ren} {c : Nat} {q q' : List Req} (h : Met ρ ρ' c (q ++ q')) : Met ρ ρ' (c + q.length) q' := by
  intro i r hi b hb
  have := h (q.length + i) r (by rw [List.getElem?_append_right (by omega)]; simpa using hi) b hb
  rw [Nat.add_assoc]; exact this
section
variable {ρ ρ' : Ren} {s : S}
theorem rd1_req {cs : CS} {c : C} {x : cs.ty} {p : List Prop} {q : Option Req} (h : rd1 s cs c = some (x, p, q)) : q.toList.length = cs.n ∧ bk1 cs x = q.toList.map (·.k) := by
  unfold rd1 at h
  split at h
  all_goals first
    | (simp only [Option.some.injEq, Prod.mk.injEq] at h; obtain ⟨_, _, rfl⟩ := h; exact ⟨rfl, rfl⟩)
    | (split at h
       · simp only [Option.some.injEq, Prod.mk.injEq] at h; obtain ⟨h1, _, rfl⟩ := h; first | (subst h1; exact ⟨rfl, rfl⟩) | exact ⟨rfl, rfl⟩
       · cases h)
    | (split at h
       · split at h
         · simp only [Option.some.injEq, Prod.mk.injEq] at h; obtain ⟨h1, _, rfl⟩ := h; exact ⟨rfl, rfl⟩
         · cases h
       · cases h)
    | (split at h
       · split at h
         · rename_i hnd; have hnd := Nat.eq_of_beq_eq_true hnd; simp only [Option.some.injEq, Prod.mk.injEq] at h; obtain ⟨h1, _, rfl⟩ := h; subst h1; exact ⟨rfl, rfl⟩
         · cases h
       · cases h)
    | cases h
theorem rd1_rel {w : World} (hhp : ∀ m k, s.hp m = some k → ∃ b, ρ m = some b ∧ k.rel ρ b w) (hκ : ρ.κ.le ρ'.κ) {cs : CS} {c : C} {x : cs.ty} {p : List Prop} {q : Option Req} (h : rd1 s cs c = some (x, p, q)) (hp : All p) {c0 : Nat} (hm : Met ρ ρ' c0 q.toList) {v : Value} (hr : c.rel ρ v) : (pt1 cs x c0).rel ρ' v := by
  unfold rd1 at h
  split at h
  case h_1 =>
    split at h
    · rename_i hk; simp at hk; subst hk
      simp only [Option.some.injEq, Prod.mk.injEq] at h; obtain ⟨h1, _, rfl⟩ := h; subst h1; exact hr
    · cases h
  case h_2 =>
    split at h
    · rename_i hk; simp at hk; subst hk
      simp only [Option.some.injEq, Prod.mk.injEq] at h; obtain ⟨h1, _, rfl⟩ := h; subst h1; exact hr
    · cases h
  case h_3 => simp only [Option.some.injEq, Prod.mk.injEq] at h; obtain ⟨h1, _, rfl⟩ := h; subst h1; exact hr
  case h_4 => simp only [Option.some.injEq, Prod.mk.injEq] at h; obtain ⟨h1, _, rfl⟩ := h; subst h1; exact hr
  case h_5 => simp only [Option.some.injEq, Prod.mk.injEq] at h; obtain ⟨h1, _, rfl⟩ := h; subst h1; exact hr
  case h_6 => exact hr
  case h_7 =>
    split at h
    · rename_i m len m' n F p' hb
      simp only [Option.some.injEq, Prod.mk.injEq] at h; obtain ⟨h1, _, rfl⟩ := h; subst h1
      unfold baseOf at hb
      simp only at hb
      split at hb
      · split at hb
        · simp only [Option.some.injEq, Prod.mk.injEq] at hb
          obtain ⟨h1, h2, h3, _⟩ := hb
          subst h1 h2 h3
          obtain ⟨b, hb, rfl⟩ := hr
          exact ⟨_, hm 0 _ rfl b hb, rfl⟩
        · cases hb
      · cases hb
    · cases h
  case h_8 =>
    split at h
    · rename_i m off n0 cap m' n F p' hb
      simp only [Option.some.injEq, Prod.mk.injEq] at h; obtain ⟨h1, _, rfl⟩ := h; subst h1
      unfold baseOf at hb
      split at hb
      · rename_i heq; cases heq
      · rename_i heq; cases heq
      · rename_i heq
        cases heq
        split at hb
        · split at hb
          · simp only [Option.some.injEq, Prod.mk.injEq] at hb
            obtain ⟨h1, h2, h3, _⟩ := hb
            subst h1 h2 h3
            obtain ⟨b, hb, rfl⟩ := hr
            exact ⟨_, hm 0 _ rfl b hb, rfl⟩
          · cases hb
        · cases hb
      · cases hb
    · cases h
  case h_9 => simp only [Option.some.injEq, Prod.mk.injEq] at h; obtain ⟨h1, _, rfl⟩ := h; subst h1; exact D.rel_mono hκ _ _ hr
  case h_10 =>
    split at h
    · rename_i m len m' n F p' hb
      simp only [Option.some.injEq, Prod.mk.injEq] at h; obtain ⟨h1, _, rfl⟩ := h; subst h1
      unfold baseOf at hb
      simp only at hb
      split at hb
      · split at hb
        · simp only [Option.some.injEq, Prod.mk.injEq] at hb
          obtain ⟨h1, h2, h3, _⟩ := hb
          subst h1 h2 h3
          obtain ⟨b, hb, rfl⟩ := hr
          exact ⟨_, hm 0 _ rfl b hb, by rw [Enc.list_len]; rfl⟩
        · cases hb
      · cases hb
    · cases h
  case h_11 =>
    split at h
    · rename_i m off n0 cap m' n F p' hb
      simp only [Option.some.injEq, Prod.mk.injEq] at h; obtain ⟨h1, _, rfl⟩ := h; subst h1
      unfold baseOf at hb
      split at hb
      · rename_i heq; cases heq
      · rename_i heq; cases heq
      · rename_i heq
        cases heq
        split at hb
        · split at hb
          · simp only [Option.some.injEq, Prod.mk.injEq] at hb
            obtain ⟨h1, h2, h3, _⟩ := hb
            subst h1 h2 h3
            obtain ⟨b, hb, rfl⟩ := hr
            exact ⟨_, hm 0 _ rfl b hb, by rw [Enc.list_len]; rfl⟩
          · cases hb
        · cases hb
      · cases hb
    · cases h
  case h_12 =>
    split at h
    · rename_i q' n st F p' hd
      split at h
      · rename_i hst
        simp only [Option.some.injEq, Prod.mk.injEq] at h; obtain ⟨h1, h2, _⟩ := h; subst h1 h2
        have h3 := imD_rel hhp hd hp.2 hr
        rcases Bool.or_eq_true_iff.1 hst with hst | hst
        · have hst := Nat.eq_of_beq_eq_true hst
          subst hst
          exact D.rel_mono hκ _ _ (D.eqv_rel (Enc.to _ (fun e => by cases e) hp.1) h3)
        · have hst := Nat.eq_of_beq_eq_true hst
          subst hst
          refine D.rel_mono hκ _ _ (D.eqv_rel (d := .sl q' 0 st F) ?_ h3)
          exact ⟨(fun e => by cases e), rfl, fun h => absurd h (Nat.lt_irrefl 0), fun i j hi _ => absurd hi (Nat.not_lt_zero i)⟩
      · cases h
    · cases h
  case h_13 =>
    split at h
    · rename_i m len m' n F p' hb
      split at h
      case h_2 => cases h
      rename_i hnd
      have hnd := Nat.eq_of_beq_eq_true hnd
      simp only [Option.some.injEq, Prod.mk.injEq] at h; obtain ⟨h1, h2, rfl⟩ := h; subst h1 h2
      unfold baseOf at hb
      simp only at hb
      split at hb
      · split at hb
        · simp only [Option.some.injEq, Prod.mk.injEq] at hb
          obtain ⟨h1, h2, h3, _⟩ := hb
          subst h1 h2 h3
          obtain ⟨b, hb, rfl⟩ := hr
          exact ⟨_, hm 0 _ rfl b hb, by rw [hnd]; rfl⟩
        · cases hb
      · cases hb
    · cases h
  case h_14 =>
    split at h
    · rename_i m off n0 cap m' n F p' hb
      split at h
      case h_2 => cases h
      rename_i hnd
      have hnd := Nat.eq_of_beq_eq_true hnd
      simp only [Option.some.injEq, Prod.mk.injEq] at h; obtain ⟨h1, h2, rfl⟩ := h; subst h1 h2
      unfold baseOf at hb
      split at hb
      · rename_i heq; cases heq
      · rename_i heq; cases heq
      · rename_i heq
        cases heq
        split at hb
        · split at hb
          · simp only [Option.some.injEq, Prod.mk.injEq] at hb
            obtain ⟨h1, h2, h3, _⟩ := hb
            subst h1 h2 h3
            obtain ⟨b, hb, rfl⟩ := hr
            exact ⟨_, hm 0 _ rfl b hb, by rw [hnd]; rfl⟩
          · cases hb
        · cases hb
      · cases hb
    · cases h
  case h_15 =>
    split at h
    · rename_i hk; simp at hk; subst hk; exact hr
    · cases h
  case h_16 => cases h
theorem rdL_req : ∀ {l : List CS} {cs : List C} {x : Tys l} {p : List Prop} {q : List Req}, rdL s l cs = some (x, p, q) → q.length = nL l ∧ bkL l x = q.map (·.k) := by
  intro l
  induction l with
  | nil =>
    intro cs x p q h
    cases cs with
    | nil => simp [rdL] at h; obtain ⟨_, rfl⟩ := h; exact ⟨rfl, rfl⟩
    | cons c k => simp [rdL] at h
  | cons a l ih =>
    intro cs x p q h
    cases cs with
    | nil => simp [rdL] at h
    | cons c k =>
      simp only [rdL] at h
      split at h
      · rename_i x1 p1 q1 y1 p2 q2 h1 h2
        simp only [Option.some.injEq, Prod.mk.injEq] at h; obtain ⟨h3, _, rfl⟩ := h
        obtain ⟨i1, i2⟩ := rd1_req h1
        obtain ⟨j1, j2⟩ := ih h2
        refine ⟨by simp [nL, i1, j1], ?_⟩
        rw [← h3]
        simp only [bkL, i2, j2, List.map_append]
      · cases h
theorem rdL_rel {w : World} (hhp : ∀ m k, s.hp m = some k → ∃ b, ρ m = some b ∧ k.rel ρ b w) (hκ : ρ.κ.le ρ'.κ) : ∀ {l : List CS} {cs : List C} {x : Tys l} {p : List Prop} {q : List Req} {c0 : Nat} {vs : List Value}, rdL s l cs = some (x, p, q) → All p → Met ρ ρ' c0 q → F2 (C.rel ρ) cs vs → F2 (C.rel ρ') (ptL l x c0) vs := by
  intro l
  induction l with
  | nil =>
    intro cs x p q c0 vs h hp hm hr
    cases cs with
    | nil => cases hr; exact .nil
    | cons c k => simp [rdL] at h
  | cons a l ih =>
    intro cs x p q c0 vs h hp hm hr
    cases cs with
    | nil => simp [rdL] at h
    | cons c k =>
      simp only [rdL] at h
      split at h
      · rename_i x1 p1 q1 y1 p2 q2 h1 h2
        simp only [Option.some.injEq, Prod.mk.injEq] at h; obtain ⟨h3, h4, rfl⟩ := h; subst h4; obtain ⟨hp1, hp2⟩ := All.append.1 hp
        cases hr with
        | cons r0 rs =>
          have hm1 : Met ρ ρ' c0 q1.toList := fun i r hi b hb => hm i r (by rw [List.getElem?_append_left (List.getElem?_eq_some_iff.1 hi).1]; exact hi) b hb
          have hm2 := hm.tail
          rw [(rd1_req h1).1] at hm2
          rw [← h3]
          exact .cons (rd1_rel hhp hκ h1 hp1 hm1 r0) (ih h2 hp2 hm2 rs)
      · cases h
end
end Go.V
end

section
set_option linter.unusedVariables false
set_option linter.unusedSimpArgs false
namespace Go.V
open Go.RowKit (Below)
inductive It where
  | slot (t : Nat) (c : CS)
  | agg (t : Nat) (l : List CS)
  | blk (t : Nat) (l : List CS)
@[reducible] def It.shape : It → List CS
  | .slot _ c => [c]
  | .agg _ l => l
  | .blk _ l => l
@[reducible] def shapes : List It → List CS
  | [] => []
  | i :: l => i.shape ++ shapes l
def blkOf (s : S) (t : Nat) : Option (Nat × TypeId) :=
  match Nat.ble 1000000 t with
  | true => (match s.hp (t - 1000000) with | some (.known e _) => some (t - 1000000, e) | _ => none)
  | false => (match s.tm t with
    | some (.a (.c (.ptr m 0))) => (match s.hp m with | some (.known e _) => some (m, e) | _ => none)
    | _ => none)
def It.cells (s0 s : S) : It → Option (List C)
  | .slot t _ => (match s.tm t with | some (.a (.c c)) => some [c] | _ => none)
  | .agg t l => (match s.tm t with | some (.a (.agg cs)) => (match Nat.beq cs.length l.length with | true => some cs | false => none) | _ => none)
  | .blk t l => (match blkOf s0 t with
    | some (m, e) => (match s.hp m with | some (.known e' cs) => (match Nat.beq e e' && Nat.beq cs.length l.length with | true => some cs | false => none) | _ => none)
    | none => none)
def gather (s0 s : S) : List It → Option (List C)
  | [] => some []
  | i :: l => match i.cells s0 s, gather s0 s l with | some a, some b => some (a ++ b) | _, _ => none
def It.put (s0 : S) (cs : List C) (s : S) : It → S
  | .slot t _ => (match cs with | [c] => { s with tm := upd s.tm t (some (.a (.c c))) } | _ => s)
  | .agg t _ => { s with tm := upd s.tm t (some (.a (.agg cs))) }
  | .blk t _ => (match blkOf s0 t with | some (m, e) => { s with hp := upd s.hp m (some (.known e cs)) } | none => s)
def putAll (s0 : S) : List It → List C → S → S
  | [], _, s => s
  | i :: l, cs, s => putAll s0 l (cs.drop i.shape.length) (i.put s0 (cs.take i.shape.length) s)
def bs (s : S) (c : Nat) (W : List Nat) (dead : List Nat) : S :=
  { tm := fun t => match memN W t with | true => none | false => s.tm t
    hp := fun m => match Nat.blt m c with | true => (match memN dead m with | true => some .dead | false => s.hp m) | false => none
    st := s.st }
def tblks (s : S) : List It → List Nat
  | [] => []
  | .blk t _ :: l => (match blkOf s t with | some (m, _) => m :: tblks s l | none => tblks s l)
  | _ :: l => tblks s l
def stOf (s : S) (c : Nat) (W : List Nat) (dead : List Nat) (its : List It) (x : Tys (shapes its)) : S :=
  match putAll s its (ptL (shapes its) x c) (bs s c W (dead ++ tblks s its)) with
  | s1 => { s1 with hp := addNews c (bkL (shapes its) x) s1.hp }
def V.all : V → List Nat
  | .a (.c c) => c.names
  | .a (.agg cs) => cs.flatMap C.names
  | .tup l => l.flatMap fun a => match a with | .c c => c.names | .agg cs => cs.flatMap C.names
def allLt (c : Nat) (l : List Nat) : Bool := l.all fun m => Nat.blt m c
section
variable {P : Program} {G : GT} {N : Nat} {w0 : World} {ρ ρ' : Ren} {s s0 s1 : S} {a : Act} {w : World}
theorem C.rel_ren (hκ : ρ.κ.le ρ'.κ) (hc : ρ'.cl = ρ.cl ∧ ∀ k p, ρ.lp k = some p → ρ'.lp k = some p) {c : C} {x : Value} (hm : ∀ m, m ∈ c.names → ∀ b, ρ m = some b → ρ' m = some b) (r : c.rel ρ x) : c.rel ρ' x := by
  cases c <;> simp only [C.rel] at r ⊢ <;> simp only [C.names] at hm <;> try exact r
  · obtain ⟨b, e, h⟩ := r; exact ⟨b, hm _ (by simp) _ e, h⟩
  · obtain ⟨b, e, h⟩ := r; exact ⟨b, hm _ (by simp) _ e, h⟩
  · obtain ⟨b, e, h⟩ := r; exact ⟨b, hm _ (by simp) _ e, h⟩
  · rename_i f caps
    obtain ⟨xs, e, h⟩ := r
    refine ⟨xs, ?_, h⟩
    clear h
    induction e with
    | nil => exact .nil
    | cons r0 rs ih =>
      obtain ⟨b, e, h⟩ := r0
      exact .cons ⟨b, hm _ (by simp) _ e, h⟩ (ih fun m hm' => hm m (by simp at hm' ⊢; exact .inr hm'))
  · exact D.rel_mono hκ _ _ r
  · obtain ⟨ad, h1, h2, h3⟩ := r
    exact ⟨ad, h1, h2, fun j hj => by obtain ⟨y, hy, hr⟩ := h3 j hj; exact ⟨y, hκ _ _ _ hy, D.rel_mono hκ _ _ hr⟩⟩
  · obtain ⟨b, e, h⟩ := r; exact ⟨b, hm _ (by simp) _ e, h⟩
  · exact ⟨by rw [hc.1]; exact r.1, r.2⟩
  · obtain ⟨l, q, e, h⟩ := r; exact ⟨l, q, hc.2 _ _ e, h⟩
  · exact ⟨D.rel_mono hκ _ _ r.1, r.2⟩
theorem f2_ren (hκ : ρ.κ.le ρ'.κ) (hc : ρ'.cl = ρ.cl ∧ ∀ k p, ρ.lp k = some p → ρ'.lp k = some p) : ∀ {cs : List C} {xs : List Value}, (∀ m, m ∈ cs.flatMap C.names → ∀ b, ρ m = some b → ρ' m = some b) → F2 (C.rel ρ) cs xs → F2 (C.rel ρ') cs xs
  | _, _, _, .nil => .nil
  | _, _, hm, .cons r rs => .cons (C.rel_ren hκ hc (fun m h => hm m (by simp [h])) r) (f2_ren hκ hc (fun m h => hm m (by rw [List.flatMap_cons]; exact List.mem_append_right _ h)) rs)
theorem A.rel_ren (hκ : ρ.κ.le ρ'.κ) (hc : ρ'.cl = ρ.cl ∧ ∀ k p, ρ.lp k = some p → ρ'.lp k = some p) {y : A} {x : Value} (hm : ∀ m, m ∈ V.all (.a y) → ∀ b, ρ m = some b → ρ' m = some b) (r : y.rel ρ x) : y.rel ρ' x := by
  cases y with
  | c c => exact C.rel_ren hκ hc hm r
  | agg cs => obtain ⟨xs, h, e⟩ := r; exact ⟨xs, f2_ren hκ hc hm h, e⟩
theorem V.rel_ren (hκ : ρ.κ.le ρ'.κ) (hc : ρ'.cl = ρ.cl ∧ ∀ k p, ρ.lp k = some p → ρ'.lp k = some p) {v : V} {x : Value} (hm : ∀ m, m ∈ v.all → ∀ b, ρ m = some b → ρ' m = some b) (r : v.rel ρ x) : v.rel ρ' x := by
  cases v with
  | a y => exact A.rel_ren hκ hc hm r
  | tup l =>
    obtain ⟨ys, h, e⟩ := r
    refine ⟨ys, ?_, e⟩
    clear e
    induction h with
    | nil => exact .nil
    | @cons y _ _ _ r0 rs ih =>
      refine .cons (A.rel_ren hκ hc (fun m hm' => hm m ?_) r0) (ih fun m hm' => hm m ?_)
      · simp only [V.all, List.flatMap_cons]
        refine List.mem_append_left _ ?_
        cases y <;> exact hm'
      · simp only [V.all, List.flatMap_cons] at hm' ⊢
        exact List.mem_append_right _ hm'
structure Half (w0 : World) (N : Nat) (ρ : Ren) (s : S) (a : Act) (w : World) : Prop where
  tm : ∀ t v, s.tm t = some v → t < N ∧ v.rel ρ (a.tmps.getD t undef)
  hp : ∀ m k, s.hp m = some k → ∃ b, ρ m = some b ∧ b.1 < w.heap.size ∧ k.rel ρ b w ∧ w0.heap.size ≤ b.1
theorem rd1_blk (h : Rel w0 N ρ s a w) (hκ : ρ.κ.le ρ'.κ) {cs : CS} {c : C} {x : cs.ty} {p : List Prop} {q : Option Req} (hr : rd1 s cs c = some (x, p, q)) (hp : All p) : ∀ r, q = some r →
    (∃ k, s.hp r.m = some k ∧ k.own = true) ∧ r.k.own = true ∧ ∀ b, ρ r.m = some b → r.k.rel ρ' (b.1, r.cap.getD b.2) w := by
  intro r hq
  subst hq
  unfold rd1 at hr
  split at hr
  case h_7 =>
    split at hr
    · rename_i m len m' n F p' hb
      simp only [Option.some.injEq, Prod.mk.injEq] at hr; obtain ⟨_, h2, h3⟩ := hr; subst h2 h3
      unfold baseOf at hb
      simp only at hb
      split at hb
      · rename_i hm
        split at hb
        · rename_i hok
          simp only [Option.some.injEq, Prod.mk.injEq] at hb
          obtain ⟨h1, h2, h3, _, h5⟩ := hb
          subst h1 h2 h3 h5
          simp only [Bool.and_eq_true] at hok
          have g1 := Nat.eq_of_beq_eq_true hok.1
          have g2 := Nat.eq_of_beq_eq_true hok.2
          subst g1 g2
          refine ⟨⟨_, hm, rfl⟩, rfl, fun b hb => ?_⟩
          obtain ⟨b', hb', _, hrel, _⟩ := h.hp _ _ hm
          rw [hb] at hb'; cases hb'
          obtain ⟨xs, q1, q2, q3, q4, q5⟩ := hrel
          refine ⟨xs, q1, q2, ?_, q4, fun i j hi hj => ?_⟩
          · simp only [Option.getD_none]; have := hp.1; omega
          · obtain ⟨y, hy, hr⟩ := q5 i j (by have := hp.1; omega) hj
            exact ⟨y, hy, D.rel_mono hκ _ _ hr⟩
        · cases hb
      · cases hb
    · cases hr
  case h_8 =>
    split at hr
    · rename_i m off n0 cap m' n F p' hb
      simp only [Option.some.injEq, Prod.mk.injEq] at hr; obtain ⟨_, h2, h3⟩ := hr; subst h2 h3
      unfold baseOf at hb
      split at hb
      · rename_i heq; cases heq
      · rename_i heq; cases heq
      · rename_i heq
        cases heq
        split at hb
        · rename_i hm
          split at hb
          · rename_i ds hds hok
            simp only [Option.some.injEq, Prod.mk.injEq] at hb
            obtain ⟨h1, h2, h3, _, h5⟩ := hb
            subst h1 h2 h3 h5
            simp only [Bool.and_eq_true] at hok
            have g1 := Nat.eq_of_beq_eq_true hok.1.1.1
            have g2 := Nat.eq_of_beq_eq_true hok.1.1.2
            have g3 := Nat.le_of_ble_eq_true hok.1.2
            have g4 := Nat.le_of_ble_eq_true hok.2
            subst g1
            refine ⟨⟨_, hm, rfl⟩, rfl, fun b hb => ?_⟩
            obtain ⟨b', hb', _, hrel, _⟩ := h.hp _ _ hm
            rw [hb] at hb'; cases hb'
            obtain ⟨xs, hf, hh⟩ := hrel
            have hl := f2_len hf
            refine ⟨xs, hh, by simp only [Option.getD_some]; omega, g3, by simp only [Option.getD_some, maxLen]; omega, fun i j hi hj => ?_⟩
            have hlt := el_lt hi hj
            have hle := Nat.lt_of_lt_of_le hlt (show _ ≤ xs.length by rw [← hl, g2]; exact Nat.mul_le_mul_right _ g3)
            obtain ⟨y, hy, hr⟩ := getD_rel (toDes_rel hds hf) hle
            exact ⟨y, hy, D.rel_mono hκ _ _ hr⟩
          · cases hb
        · cases hb
      · cases hb
    · cases hr
  case h_10 =>
    split at hr
    · rename_i m len m' n F p' hb
      simp only [Option.some.injEq, Prod.mk.injEq] at hr; obtain ⟨_, h2, h3⟩ := hr; subst h2 h3
      obtain ⟨hIs, hp⟩ := hp
      unfold baseOf at hb
      simp only at hb
      split at hb
      · rename_i hm
        split at hb
        · rename_i hok
          simp only [Option.some.injEq, Prod.mk.injEq] at hb
          obtain ⟨h1, h2, h3, _, h5⟩ := hb
          subst h1 h2 h3 h5
          simp only [Bool.and_eq_true] at hok
          have g1 := Nat.eq_of_beq_eq_true hok.1
          have g2 := Nat.eq_of_beq_eq_true hok.2
          subst g1 g2
          refine ⟨⟨_, hm, rfl⟩, rfl, fun b hb => ?_⟩
          obtain ⟨b', hb', _, hrel, _⟩ := h.hp _ _ hm
          rw [hb] at hb'; cases hb'
          obtain ⟨xs, q1, q2, q3, q4, q5⟩ := hrel
          refine ⟨xs, q1, q2, ?_, q4, fun i j hi hj => ?_⟩
          · rw [Enc.list_len]; simp only [Option.getD_none]; have := hp.1; omega
          · rw [Enc.list_len] at hi
            obtain ⟨y, hy, hr⟩ := q5 i j (by have := hp.1; omega) hj
            refine ⟨y, hy, D.rel_mono hκ _ _ ?_⟩
            have := D.eqv_rel (hIs i j hi hj) hr
            simp only [Enc.F]
            rw [Enc.list_get _ hi]; exact this
        · cases hb
      · cases hb
    · cases hr
  case h_11 =>
    split at hr
    · rename_i m off n0 cap m' n F p' hb
      simp only [Option.some.injEq, Prod.mk.injEq] at hr; obtain ⟨_, h2, h3⟩ := hr; subst h2 h3
      obtain ⟨hIs, hp⟩ := hp
      unfold baseOf at hb
      split at hb
      · rename_i heq; cases heq
      · rename_i heq; cases heq
      · rename_i heq
        cases heq
        split at hb
        · rename_i hm
          split at hb
          · rename_i ds hds hok
            simp only [Option.some.injEq, Prod.mk.injEq] at hb
            obtain ⟨h1, h2, h3, _, h5⟩ := hb
            subst h1 h2 h3 h5
            simp only [Bool.and_eq_true] at hok
            have g1 := Nat.eq_of_beq_eq_true hok.1.1.1
            have g2 := Nat.eq_of_beq_eq_true hok.1.1.2
            have g3 := Nat.le_of_ble_eq_true hok.1.2
            have g4 := Nat.le_of_ble_eq_true hok.2
            subst g1
            refine ⟨⟨_, hm, rfl⟩, rfl, fun b hb => ?_⟩
            obtain ⟨b', hb', _, hrel, _⟩ := h.hp _ _ hm
            rw [hb] at hb'; cases hb'
            obtain ⟨xs, hf, hh⟩ := hrel
            have hl := f2_len hf
            refine ⟨xs, hh, by simp only [Option.getD_some]; omega, by rw [Enc.list_len]; exact g3, by simp only [Option.getD_some, maxLen]; omega, fun i j hi hj => ?_⟩
            rw [Enc.list_len] at hi
            have hlt := el_lt hi hj
            have hle := Nat.lt_of_lt_of_le hlt (show _ ≤ xs.length by rw [← hl, g2]; exact Nat.mul_le_mul_right _ g3)
            obtain ⟨y, hy, hr⟩ := getD_rel (toDes_rel hds hf) hle
            refine ⟨y, hy, D.rel_mono hκ _ _ ?_⟩
            have := D.eqv_rel (hIs i j hi hj) hr
            simp only [Enc.F]
            rw [Enc.list_get _ hi]; exact this
          · cases hb
        · cases hb
      · cases hb
    · cases hr
  case h_13 =>
    split at hr
    · rename_i m len m' n F p' hb
      split at hr
      case h_2 => cases hr
      rename_i hnd
      have hnd := Nat.eq_of_beq_eq_true hnd
      simp only [Option.some.injEq, Prod.mk.injEq] at hr; obtain ⟨_, h2, h3⟩ := hr; subst h2 h3
      obtain ⟨hIs, hp⟩ := hp
      unfold baseOf at hb
      simp only at hb
      split at hb
      · rename_i hm
        split at hb
        · rename_i hok
          simp only [Option.some.injEq, Prod.mk.injEq] at hb
          obtain ⟨h1, h2, h3, _, h5⟩ := hb
          subst h1 h2 h3 h5
          simp only [Bool.and_eq_true] at hok
          have g1 := Nat.eq_of_beq_eq_true hok.1
          have g2 := Nat.eq_of_beq_eq_true hok.2
          subst g1 g2
          refine ⟨⟨_, hm, rfl⟩, rfl, fun b hb => ?_⟩
          obtain ⟨b', hb', _, hrel, _⟩ := h.hp _ _ hm
          rw [hb] at hb'; cases hb'
          obtain ⟨xs, q1, q2, q3, q4, q5⟩ := hrel
          refine ⟨xs, q1, q2, ?_, q4, fun i j hi hj => ?_⟩
          · simp only [Option.getD_none]; have := hp.1; omega
          · rw [← hnd] at hi
            obtain ⟨y, hy, hr⟩ := q5 i j (by have := hp.1; omega) hj
            refine ⟨y, hy, D.rel_mono hκ _ _ ?_⟩
            have := D.eqv_rel (hIs i j hi hj) hr
            simp only [Enc.F]
            rw [Enc.list_get _ hi]; exact this
        · cases hb
      · cases hb
    · cases hr
  case h_14 =>
    split at hr
    · rename_i m off n0 cap m' n F p' hb
      split at hr
      case h_2 => cases hr
      rename_i hnd
      have hnd := Nat.eq_of_beq_eq_true hnd
      simp only [Option.some.injEq, Prod.mk.injEq] at hr; obtain ⟨_, h2, h3⟩ := hr; subst h2 h3
      obtain ⟨hIs, hp⟩ := hp
      unfold baseOf at hb
      split at hb
      · rename_i heq; cases heq
      · rename_i heq; cases heq
      · rename_i heq
        cases heq
        split at hb
        · rename_i hm
          split at hb
          · rename_i ds hds hok
            simp only [Option.some.injEq, Prod.mk.injEq] at hb
            obtain ⟨h1, h2, h3, _, h5⟩ := hb
            subst h1 h2 h3 h5
            simp only [Bool.and_eq_true] at hok
            have g1 := Nat.eq_of_beq_eq_true hok.1.1.1
            have g2 := Nat.eq_of_beq_eq_true hok.1.1.2
            have g3 := Nat.le_of_ble_eq_true hok.1.2
            have g4 := Nat.le_of_ble_eq_true hok.2
            subst g1
            refine ⟨⟨_, hm, rfl⟩, rfl, fun b hb => ?_⟩
            obtain ⟨b', hb', _, hrel, _⟩ := h.hp _ _ hm
            rw [hb] at hb'; cases hb'
            obtain ⟨xs, hf, hh⟩ := hrel
            have hl := f2_len hf
            refine ⟨xs, hh, by simp only [Option.getD_some]; omega, by rw [← hnd]; exact g3, by simp only [Option.getD_some, maxLen]; omega, fun i j hi hj => ?_⟩
            rw [← hnd] at hi
            have hlt := el_lt hi hj
            have hle := Nat.lt_of_lt_of_le hlt (show _ ≤ xs.length by rw [← hl, g2]; exact Nat.mul_le_mul_right _ g3)
            obtain ⟨y, hy, hr⟩ := getD_rel (toDes_rel hds hf) hle
            refine ⟨y, hy, D.rel_mono hκ _ _ ?_⟩
            have := D.eqv_rel (hIs i j hi hj) hr
            simp only [Enc.F]
            rw [Enc.list_get _ hi]; exact this
          · cases hb
        · cases hb
      · cases hb
    · cases hr
  all_goals first
    | (simp only [Option.some.injEq, Prod.mk.injEq, reduceCtorEq, and_false] at hr; done)
    | (split at hr <;> simp only [Option.some.injEq, Prod.mk.injEq, reduceCtorEq, and_false] at hr; done)
    | (split at hr <;> (try split at hr) <;> simp only [Option.some.injEq, Prod.mk.injEq, reduceCtorEq, and_false] at hr; done)
    | cases hr
theorem rdL_blk (h : Rel w0 N ρ s a w) (hκ : ρ.κ.le ρ'.κ) : ∀ {l : List CS} {cs : List C} {x : Tys l} {p : List Prop} {q : List Req}, rdL s l cs = some (x, p, q) → All p → ∀ r, r ∈ q →
    (∃ k, s.hp r.m = some k ∧ k.own = true) ∧ r.k.own = true ∧ ∀ b, ρ r.m = some b → r.k.rel ρ' (b.1, r.cap.getD b.2) w := by
  intro l
  induction l with
  | nil =>
    intro cs x p q hr hp r hq
    cases cs with
    | nil => simp [rdL] at hr; obtain ⟨_, rfl⟩ := hr; cases hq
    | cons c k => simp [rdL] at hr
  | cons b l ih =>
    intro cs x p q hr hp r hq
    cases cs with
    | nil => simp [rdL] at hr
    | cons c k =>
      simp only [rdL] at hr
      split at hr
      · rename_i x1 p1 q1 y1 p2 q2 h1 h2
        simp only [Option.some.injEq, Prod.mk.injEq] at hr; obtain ⟨_, rfl, rfl⟩ := hr
        obtain ⟨hp1, hp2⟩ := All.append.1 hp
        rcases List.mem_append.1 hq with hq | hq
        · exact rd1_blk h hκ h1 hp1 r (by simpa using hq)
        · exact ih h2 hp2 r hq
      · cases hr
end
def keepT (s : S) (c : Nat) (W : List Nat) : Nat → Bool
  | 0 => true
  | n + 1 => (memN W n || (match s.tm n with | some v => allLt c v.all | none => true)) && keepT s c W n
def keepH (s : S) (c : Nat) : Nat → Bool
  | 0 => true
  | n + 1 => (match s.hp n with | some (.known _ cs) => allLt c (cs.flatMap C.names) | _ => true) && keepH s c n
theorem keepT_at {s : S} {c : Nat} {W : List Nat} : ∀ {N t : Nat} {v : V}, keepT s c W N = true → t < N → memN W t = false → s.tm t = some v → ∀ m, m ∈ v.all → m < c := by
  intro N
  induction N with
  | zero => intro t v _ ht; omega
  | succ N ih =>
    intro t v h ht hw hv m hm
    simp only [keepT, Bool.and_eq_true, Bool.or_eq_true] at h
    rcases Nat.lt_or_ge t N with hlt | hge
    · exact ih h.2 hlt hw hv m hm
    · obtain rfl : t = N := by omega
      rcases h.1 with h1 | h1
      · rw [hw] at h1; cases h1
      · rw [hv] at h1
        simp only [allLt, List.all_eq_true, Nat.blt_eq] at h1
        exact h1 m hm
theorem keepH_at {s : S} {c : Nat} : ∀ {n m : Nat} {e : TypeId} {cs : List C}, keepH s c n = true → m < n → s.hp m = some (.known e cs) → ∀ j, j ∈ cs.flatMap C.names → j < c := by
  intro n
  induction n with
  | zero => intro m e cs _ hm; omega
  | succ n ih =>
    intro m e cs h hm hv j hj
    simp only [keepH, Bool.and_eq_true] at h
    rcases Nat.lt_or_ge m n with hlt | hge
    · exact ih h.2 hlt hv j hj
    · obtain rfl : m = n := by omega
      have h1 := h.1
      rw [hv] at h1
      simp only [allLt, List.all_eq_true, Nat.blt_eq] at h1
      exact h1 j hj
def itsOk (s : S) (c : Nat) (W : List Nat) : List It → Bool
  | [] => true
  | .slot t _ :: l => memN W t && itsOk s c W l
  | .agg t _ :: l => memN W t && itsOk s c W l
  | .blk t _ :: l => !memN W t && (match blkOf s t with | some (m, _) => Nat.blt m c | none => false) && itsOk s c W l
section
variable {P : Program} {G : GT} {N : Nat} {w0 : World} {ρ ρ' : Ren} {s s0 s1 : S} {a : Act} {w : World}
theorem put_half (h : Rel w0 N ρ s1 a w) {i : It} {c : Nat} {W : List Nat} (hok : itsOk s0 c W [i] = true) {cs : List C} (hc : i.cells s0 s1 = some cs) (hnm : ∀ m, m < c → ρ' m = ρ m) {cs' : List C} (hcs : ∀ vs, F2 (C.rel ρ) cs vs → F2 (C.rel ρ') cs' vs)
    {s : S} (hs : Half w0 N ρ' s a w) : Half w0 N ρ' (i.put s0 cs' s) a w := by
  cases i with
  | slot t sh =>
    simp only [It.cells] at hc
    split at hc
    · rename_i x hx
      simp only [Option.some.injEq] at hc; subst hc
      obtain ⟨hlt, hr⟩ := h.tm t _ hx
      have := hcs [a.tmps.getD t undef] (.cons hr .nil)
      cases this with
      | cons r0 rs =>
        cases rs
        refine ⟨?_, hs.hp⟩
        intro t' v ht'
        simp only [It.put] at ht'
        by_cases e : t' = t
        · subst e
          rw [upd_same] at ht'; cases ht'
          exact ⟨hlt, r0⟩
        · rw [upd_ne _ _ e] at ht'
          exact hs.tm t' v ht'
    · cases hc
  | agg t sh =>
    simp only [It.cells] at hc
    split at hc
    · rename_i x hx
      split at hc
      · simp only [Option.some.injEq] at hc; subst hc
        obtain ⟨hlt, vs, hf, hv⟩ := h.tm t _ hx
        refine ⟨?_, hs.hp⟩
        intro t' v ht'
        simp only [It.put] at ht'
        by_cases e : t' = t
        · subst e
          rw [upd_same] at ht'; cases ht'
          exact ⟨hlt, vs, hcs vs hf, hv⟩
        · rw [upd_ne _ _ e] at ht'
          exact hs.tm t' v ht'
      · cases hc
    · cases hc
  | blk t sh =>
    simp only [It.cells] at hc
    simp only [itsOk, Bool.and_eq_true] at hok
    split at hc
    · rename_i m e hb
      rw [hb] at hok
      have hmc : m < c := by simpa [Nat.blt_eq] using hok.1.2
      split at hc
      · rename_i e' x hx
        split at hc
        · rename_i hee
          simp only [Bool.and_eq_true] at hee
          have := Nat.eq_of_beq_eq_true hee.1
          subst this
          simp only [Option.some.injEq] at hc; subst hc
          obtain ⟨b, g1, g2, ⟨vs, hf, hh⟩, g4⟩ := h.hp m _ hx
          refine ⟨?_, ?_⟩
          · intro t' v ht'
            simp only [It.put, hb] at ht'
            exact hs.tm t' v ht'
          · intro m' k hk
            simp only [It.put, hb] at hk
            by_cases e2 : m' = m
            · subst e2
              rw [upd_same] at hk; cases hk
              exact ⟨b, (hnm _ hmc).trans g1, g2, ⟨vs, hcs vs hf, hh⟩, g4⟩
            · rw [upd_ne _ _ e2] at hk
              exact hs.hp m' k hk
        · cases hc
      · cases hc
    · cases hc
theorem cells_len {i : It} {cs : List C} (hc : i.cells s0 s1 = some cs) : cs.length = i.shape.length := by
  cases i with
  | slot t sh =>
    simp only [It.cells] at hc
    split at hc
    · simp only [Option.some.injEq] at hc; subst hc; rfl
    · cases hc
  | agg t sh =>
    simp only [It.cells] at hc
    split at hc
    · split at hc
      · rename_i hb
        simp only [Option.some.injEq] at hc; subst hc
        exact Nat.eq_of_beq_eq_true hb
      · cases hc
    · cases hc
  | blk t sh =>
    simp only [It.cells] at hc
    split at hc
    · split at hc
      · split at hc
        · rename_i hb
          simp only [Bool.and_eq_true] at hb
          simp only [Option.some.injEq] at hc; subst hc
          exact Nat.eq_of_beq_eq_true hb.2
        · cases hc
      · cases hc
    · cases hc
theorem itsOk_cons {i : It} {l : List It} {c : Nat} {W : List Nat} (h : itsOk s0 c W (i :: l) = true) : itsOk s0 c W [i] = true ∧ itsOk s0 c W l = true := by
  cases i <;> simp only [itsOk, Bool.and_eq_true, and_true] at h ⊢
  · exact h
  · exact h
  · exact ⟨h.1, h.2⟩
theorem f2_split {α β : Type} {R : α → β → Prop} : ∀ {l l' : List α} {k : List β}, F2 R (l ++ l') k → ∃ k1 k2, k = k1 ++ k2 ∧ F2 R l k1 ∧ F2 R l' k2
  | [], _, k, h => ⟨[], k, rfl, .nil, h⟩
  | _ :: l, l', _, .cons r rs => by
    obtain ⟨k1, k2, e, h1, h2⟩ := f2_split rs
    exact ⟨_ :: k1, k2, by rw [e]; rfl, .cons r h1, h2⟩
theorem putAll_half (h : Rel w0 N ρ s1 a w) {c : Nat} {W : List Nat} (hnm : ∀ m, m < c → ρ' m = ρ m) : ∀ {its : List It} {cs cs' : List C} {s : S}, itsOk s0 c W its = true → gather s0 s1 its = some cs → cs'.length = cs.length →
    (∀ vs, F2 (C.rel ρ) cs vs → F2 (C.rel ρ') cs' vs) → (∃ vs, F2 (C.rel ρ) cs vs) → Half w0 N ρ' s a w → Half w0 N ρ' (putAll s0 its cs' s) a w := by
  intro its
  induction its with
  | nil => intro cs cs' s _ _ _ _ _ hs; exact hs
  | cons i l ih =>
    intro cs cs' s hok hg hl hcs hex hs
    obtain ⟨o1, o2⟩ := itsOk_cons hok
    simp only [gather] at hg
    split at hg
    · rename_i x y hx hy
      simp only [Option.some.injEq] at hg; subst hg
      have hxl := cells_len hx
      obtain ⟨vs0, hv0⟩ := hex
      obtain ⟨k1, k2, rfl, f1, f2⟩ := f2_split hv0
      simp only [putAll]
      refine ih o2 hy ?_ ?_ ⟨k2, f2⟩ (put_half h o1 hx hnm ?_ hs)
      · simp only [List.length_append] at hl
        simp only [List.length_drop]; omega
      · intro vs hvs
        have := hcs (k1 ++ vs) (f2_append f1 hvs)
        have h2 := f2_drop this i.shape.length
        have e : (k1 ++ vs).drop i.shape.length = vs := List.drop_left' (by rw [← f2_len f1, hxl])
        rw [e] at h2; exact h2
      · intro vs hvs
        have := hcs (vs ++ k2) (f2_append hvs f2)
        have h2 := f2_take this i.shape.length
        have e : (vs ++ k2).take i.shape.length = vs := List.take_left' (by rw [← f2_len hvs, hxl])
        rw [e] at h2; exact h2
    · cases hg
theorem gather_vals (h : Rel w0 N ρ s1 a w) : ∀ {its : List It} {cs : List C}, gather s0 s1 its = some cs → ∃ vs, F2 (C.rel ρ) cs vs := by
  intro its
  induction its with
  | nil => intro cs hg; simp [gather] at hg; subst hg; exact ⟨[], .nil⟩
  | cons i l ih =>
    intro cs hg
    simp only [gather] at hg
    split at hg
    · rename_i x y hx hy
      simp only [Option.some.injEq] at hg; subst hg
      obtain ⟨k2, f2⟩ := ih hy
      have : ∃ k1, F2 (C.rel ρ) x k1 := by
        cases i with
        | slot t sh =>
          simp only [It.cells] at hx
          split at hx
          · rename_i z hz
            simp only [Option.some.injEq] at hx; subst hx
            exact ⟨_, .cons (h.tm t _ hz).2 .nil⟩
          · cases hx
        | agg t sh =>
          simp only [It.cells] at hx
          split at hx
          · rename_i z hz
            split at hx
            · simp only [Option.some.injEq] at hx; subst hx
              obtain ⟨_, vs, hf, _⟩ := h.tm t _ hz
              exact ⟨vs, hf⟩
            · cases hx
          · cases hx
        | blk t sh =>
          simp only [It.cells] at hx
          split at hx
          · split at hx
            · rename_i z hz
              split at hx
              · simp only [Option.some.injEq] at hx; subst hx
                obtain ⟨b, _, _, ⟨vs, hf, _⟩, _⟩ := h.hp _ _ hz
                exact ⟨vs, hf⟩
              · cases hx
            · cases hx
          · cases hx
      obtain ⟨k1, f1⟩ := this
      exact ⟨k1 ++ k2, f2_append f1 f2⟩
    · cases hg
theorem ptL_len : ∀ {l : List CS} {x : Tys l} {c : Nat}, (ptL l x c).length = l.length := by
  intro l
  induction l with
  | nil => intro x c; rfl
  | cons b l ih => intro x c; simp [ptL, ih]
theorem rdL_len {l : List CS} {cs : List C} {x : Tys l} {p : List Prop} {q : List Req} : rdL s l cs = some (x, p, q) → cs.length = l.length := by
  induction l generalizing cs p q with
  | nil =>
    intro h
    cases cs with
    | nil => rfl
    | cons c k => simp [rdL] at h
  | cons b l ih =>
    intro h
    cases cs with
    | nil => simp [rdL] at h
    | cons c k =>
      simp only [rdL] at h
      split at h
      · rename_i h1 h2
        simp [ih h2]
      · cases h
theorem putAll_hp {m : Nat} : ∀ {its : List It} {cs : List C} {s : S}, (putAll s0 its cs s).hp m = s.hp m ∨ (m ∈ tblks s0 its ∧ ∃ e cs', (putAll s0 its cs s).hp m = some (.known e cs')) := by
  intro its
  induction its with
  | nil => intro cs s; exact .inl rfl
  | cons i l ih =>
    intro cs s
    simp only [putAll]
    cases i with
    | slot t sh =>
      rcases ih (cs := cs.drop (It.slot t sh).shape.length) (s := (It.slot t sh).put s0 (cs.take (It.slot t sh).shape.length) s) with h | ⟨h1, h2⟩
      · refine .inl (h.trans ?_)
        simp only [It.put]
        split <;> rfl
      · exact .inr ⟨by simpa [tblks] using h1, h2⟩
    | agg t sh =>
      rcases ih (cs := cs.drop (It.agg t sh).shape.length) (s := (It.agg t sh).put s0 (cs.take (It.agg t sh).shape.length) s) with h | ⟨h1, h2⟩
      · exact .inl h
      · exact .inr ⟨by simpa [tblks] using h1, h2⟩
    | blk t sh =>
      rcases ih (cs := cs.drop (It.blk t sh).shape.length) (s := (It.blk t sh).put s0 (cs.take (It.blk t sh).shape.length) s) with h | ⟨h1, h2⟩
      · cases hb : blkOf s0 t with
        | none =>
          have e0 : (It.blk t sh).put s0 (cs.take (It.blk t sh).shape.length) s = s := by simp only [It.put, hb]
          rw [e0] at h ⊢
          exact .inl h
        | some me =>
          obtain ⟨m', e⟩ := me
          have e0 : (It.blk t sh).put s0 (cs.take (It.blk t sh).shape.length) s = { s with hp := upd s.hp m' (some (.known e (cs.take (It.blk t sh).shape.length))) } := by simp only [It.put, hb]
          rw [e0] at h ⊢
          by_cases e1 : m = m'
          · subst e1
            simp only [upd_same] at h
            exact .inr ⟨by simp [tblks, hb], _, _, h⟩
          · simp only [upd_ne _ _ e1] at h
            exact .inl h
      · refine .inr ⟨?_, h2⟩
        simp only [tblks]
        split
        · exact List.mem_cons_of_mem _ h1
        · exact h1
end
end Go.V
end

section
set_option linter.unusedVariables false
set_option linter.unusedSimpArgs false
namespace Go.V
open Go.RowKit (Below)
def nodupB : List Nat → Bool
  | [] => true
  | m :: l => !memN l m && nodupB l
theorem nodupB_at : ∀ {l : List Nat} {i j m : Nat}, nodupB l = true → l[i]? = some m → l[j]? = some m → i = j := by
  intro l
  induction l with
  | nil => intro i j m _ h; simp at h
  | cons x l ih =>
    intro i j m h hi hj
    simp only [nodupB, Bool.and_eq_true, Bool.not_eq_true'] at h
    have hx : x ∉ l := by
      intro hm
      have := memN_iff.2 hm
      rw [h.1] at this; cases this
    cases i with
    | zero =>
      cases j with
      | zero => rfl
      | succ j =>
        simp at hi hj; subst hi
        exact absurd (List.mem_of_getElem? hj) hx
    | succ i =>
      cases j with
      | zero =>
        simp at hi hj; subst hj
        exact absurd (List.mem_of_getElem? hi) hx
      | succ j => exact congrArg (· + 1) (ih h.2 (by simpa using hi) (by simpa using hj))
section
variable {P : Program} {G : GT} {N : Nat} {w0 : World} {ρ : Ren} {s s0 s1 : S} {a : Act} {w : World}
theorem gather_tblk : ∀ {its : List It} {cs : List C} {m : Nat}, gather s0 s1 its = some cs → m ∈ tblks s0 its → ∃ e cs', s1.hp m = some (.known e cs') := by
  intro its
  induction its with
  | nil => intro cs m _ h; simp [tblks] at h
  | cons i l ih =>
    intro cs m hg hm
    simp only [gather] at hg
    split at hg
    · rename_i x y hx hy
      cases i with
      | slot t sh => exact ih hy (by simpa [tblks] using hm)
      | agg t sh => exact ih hy (by simpa [tblks] using hm)
      | blk t sh =>
        simp only [It.cells] at hx
        simp only [tblks] at hm
        split at hx
        · rename_i m' e hb
          rw [hb] at hm
          simp only [List.mem_cons] at hm
          split at hx
          · rename_i e' cs' hc
            rcases hm with rfl | hm
            · exact ⟨_, _, hc⟩
            · exact ih hy hm
          · cases hx
        · cases hx
    · cases hg
theorem tblks_lt {c : Nat} {W : List Nat} : ∀ {its : List It} {m : Nat}, itsOk s0 c W its = true → m ∈ tblks s0 its → m < c := by
  intro its
  induction its with
  | nil => intro m _ h; simp [tblks] at h
  | cons i l ih =>
    intro m hok hm
    cases i with
    | slot t sh => simp only [itsOk, Bool.and_eq_true] at hok; exact ih hok.2 (by simpa [tblks] using hm)
    | agg t sh => simp only [itsOk, Bool.and_eq_true] at hok; exact ih hok.2 (by simpa [tblks] using hm)
    | blk t sh =>
      simp only [itsOk, Bool.and_eq_true] at hok
      simp only [tblks] at hm
      split at hm
      · rename_i m' e hb
        rw [hb] at hok
        rcases List.mem_cons.1 hm with rfl | hm
        · simpa [Nat.blt_eq] using hok.1.2
        · exact ih hok.2 hm
      · exact ih hok.2 hm
theorem stOf_tm {c : Nat} {W dead : List Nat} {its : List It} {x : Tys (shapes its)} : (stOf s0 c W dead its x).tm = (putAll s0 its (ptL (shapes its) x c) (bs s0 c W (dead ++ tblks s0 its))).tm := rfl
theorem stOf_hp_lt {c : Nat} {W dead : List Nat} {its : List It} {x : Tys (shapes its)} {m : Nat} (hm : m < c) :
    ((stOf s0 c W dead its x).hp m = (match memN (dead ++ tblks s0 its) m with | true => some .dead | false => s0.hp m)) ∨ (m ∈ tblks s0 its ∧ ∃ e cs, (stOf s0 c W dead its x).hp m = some (.known e cs)) := by
  have e1 : (stOf s0 c W dead its x).hp m = (putAll s0 its (ptL (shapes its) x c) (bs s0 c W (dead ++ tblks s0 its))).hp m := by
    simp only [stOf]; exact addNews_out (.inl hm)
  rw [e1]
  rcases putAll_hp (s0 := s0) (m := m) (its := its) (cs := ptL (shapes its) x c) (s := bs s0 c W (dead ++ tblks s0 its)) with h | ⟨h1, h2⟩
  · left
    rw [h]
    have : Nat.blt m c = true := by rw [Nat.blt_eq]; exact hm
    simp only [bs, this] <;> rfl
  · exact .inr ⟨h1, h2⟩
theorem stOf_hp_ge {c : Nat} {W dead : List Nat} {its : List It} {x : Tys (shapes its)} {m : Nat} (hok : itsOk s0 c W its = true) (hm : c ≤ m) : (stOf s0 c W dead its x).hp m = (bkL (shapes its) x)[m - c]? := by
  by_cases hin : m < c + (bkL (shapes its) x).length
  · have := addNews_in (c := c) (bs := bkL (shapes its) x) (h := (putAll s0 its (ptL (shapes its) x c) (bs s0 c W (dead ++ tblks s0 its))).hp) (i := m - c) (by omega)
    rw [show c + (m - c) = m by omega] at this
    exact this
  · have e1 : (stOf s0 c W dead its x).hp m = (putAll s0 its (ptL (shapes its) x c) (bs s0 c W (dead ++ tblks s0 its))).hp m := by
      simp only [stOf]; exact addNews_out (.inr (by omega))
    rw [e1, List.getElem?_eq_none (by omega)]
    rcases putAll_hp (s0 := s0) (m := m) (its := its) (cs := ptL (shapes its) x c) (s := bs s0 c W (dead ++ tblks s0 its)) with h | ⟨h1, _⟩
    · rw [h]
      have : Nat.blt m c = false := by rw [← Bool.not_eq_true, Nat.blt_eq]; omega
      simp only [bs, this]
    · have := tblks_lt hok h1; omega
structure Ren.up (cz : Nat) (ρ ρ' : Ren) : Prop where
  κ : ρ.κ.le ρ'.κ
  cl : ρ'.cl = ρ.cl
  k0 : ρ'.k0 = ρ.k0
  fx : ρ'.fx = ρ.fx
  lp : ρ'.lp = ρ.lp
  nm : ∀ m b, m < cz → ρ m = some b → ρ' m = some b
theorem Ren.up_refl {cz : Nat} (ρ : Ren) : ρ.up cz ρ := ⟨fun _ _ _ h => h, rfl, rfl, rfl, rfl, fun _ _ _ h => h⟩
theorem Ren.up_trans {cz : Nat} {a b c : Ren} (h : a.up cz b) (k : b.up cz c) : a.up cz c := ⟨fun x y z e => k.κ x y z (h.κ x y z e), k.cl.trans h.cl, k.k0.trans h.k0, k.fx.trans h.fx, k.lp.trans h.lp, fun m x hm e => k.nm m x hm (h.nm m x hm e)⟩
theorem Ren.le.up {cz : Nat} {a b : Ren} (h : a.le b) : a.up cz b := ⟨h.κ, h.cl, h.k0, h.fx, h.lp, fun m x _ e => h.nm m x e⟩
theorem Ren.up.less {cz cy : Nat} {a b : Ren} (h : a.up cz b) (hc : cy ≤ cz) : a.up cy b := ⟨h.κ, h.cl, h.k0, h.fx, h.lp, fun m x hm e => h.nm m x (by omega) e⟩
theorem putAll_st : ∀ {its : List It} {cs : List C} {s : S}, (putAll s0 its cs s).st = s.st := by
  intro its
  induction its with
  | nil => intro cs s; rfl
  | cons i l ih =>
    intro cs s
    simp only [putAll]
    rw [ih]
    cases i with
    | slot t sh => simp only [It.put]; split <;> rfl
    | agg t sh => rfl
    | blk t sh => simp only [It.put]; split <;> rfl
theorem stOf_st {c : Nat} {W dead : List Nat} {its : List It} {x : Tys (shapes its)} : (stOf s0 c W dead its x).st = s0.st := by
  simp only [stOf]
  exact putAll_st
theorem reload (h : Rel w0 N ρ s1 a w) {c : Nat} {W dead : List Nat} {its : List It} (hok : itsOk s0 c W its = true) (hkT : keepT s0 c W N = true) (hkH : keepH s0 c c = true) (hdt : ∀ m, m ∈ dead → m ∉ tblks s0 its)
    (hT : ∀ t, memN W t = false → s1.tm t = s0.tm t) (hH : ∀ m, m < c → memN dead m = false → m ∉ tblks s0 its → s1.hp m = s0.hp m) (hHd : ∀ m, m < c → memN dead m = true → s1.hp m ≠ none)
    {cs : List C} (hg : gather s0 s1 its = some cs) {x : Tys (shapes its)} {p : List Prop} {q : List Req} (hr : rdL s1 (shapes its) cs = some (x, p, q)) (hp : All p)
    (hnd : nodupB (q.map (·.m)) = true) (hst : ∀ k l r, ρ.lp k = some (l, r) → s1.st k = s0.st k) (hqm : ∀ r, r ∈ q → c ≤ r.m ∨ r.m ∈ dead) :
    ∃ ρ', Rel w0 N ρ' (stOf s0 c W dead its x) a w ∧ ρ.up c ρ' := by
  obtain ⟨ρ', hρ'⟩ : ∃ ρ' : Ren, ρ' = { nm := fun m => if m < c then ρ m else (q[m - c]?).bind fun r => (ρ r.m).map fun b => (b.1, r.cap.getD b.2), κ := ρ.κ, cl := ρ.cl, k0 := ρ.k0, fx := ρ.fx, lp := ρ.lp } := ⟨_, rfl⟩
  have hκ : ρ'.κ = ρ.κ := by rw [hρ']
  have hcl : ρ'.cl = ρ.cl := by rw [hρ']
  have hk0 : ρ'.k0 = ρ.k0 := by rw [hρ']
  have hfx : ρ'.fx = ρ.fx := by rw [hρ']
  have hlp : ρ'.lp = ρ.lp := by rw [hρ']
  have hlt : ∀ m, m < c → ρ' m = ρ m := by intro m hm; rw [hρ']; show (if m < c then ρ m else _) = _; rw [if_pos hm]
  have hge : ∀ m, c ≤ m → ρ' m = (q[m - c]?).bind fun r => (ρ r.m).map fun b => (b.1, r.cap.getD b.2) := by
    intro m hm; rw [hρ']
    show (if m < c then ρ m else _) = _
    rw [if_neg (by omega)]
  have hκle : ρ.κ.le ρ'.κ := by rw [hκ]; exact fun _ _ _ h => h
  obtain ⟨q1, q2⟩ := rdL_req hr
  have hmet : Met ρ ρ' c q := by
    intro i r hi b hb
    rw [hge _ (by omega), show c + i - c = i by omega, hi]
    simp [hb]
  have hblk := rdL_blk h hκle hr hp
  -- the half
  have base : Half w0 N ρ' (bs s0 c W (dead ++ tblks s0 its)) a w := by
    refine ⟨?_, ?_⟩
    · intro t v ht
      simp only [bs] at ht
      split at ht
      · cases ht
      · rename_i hw
        obtain ⟨g1, g2⟩ := h.tm t v (by rw [hT t hw]; exact ht)
        exact ⟨g1, V.rel_ren hκle ⟨hcl, fun k p e => by rw [hlp]; exact e⟩ (fun m hm b e => (hlt m (keepT_at hkT g1 hw ht m hm)).trans e) g2⟩
    · intro m k hk
      simp only [bs] at hk
      split at hk
      · rename_i hmc
        have hmc' : m < c := by simpa [Nat.blt_eq] using hmc
        split at hk
        · rename_i hd
          cases hk
          have hne : s1.hp m ≠ none := by
            rcases List.mem_append.1 (memN_iff.1 hd) with h1 | h1
            · exact hHd m hmc' (memN_iff.2 h1)
            · obtain ⟨e, cs', hs⟩ := gather_tblk hg h1
              rw [hs]; simp
          cases hs : s1.hp m with
          | none => exact absurd hs hne
          | some k0 =>
            obtain ⟨b, g1, g2, _, g4⟩ := h.hp m k0 hs
            exact ⟨b, (hlt m hmc').trans g1, g2, trivial, g4⟩
        · rename_i hd
          have hd' : m ∉ dead ++ tblks s0 its := fun hm => by rw [memN_iff.2 hm] at hd; cases hd
          simp only [List.mem_append, not_or] at hd'
          have hs : s1.hp m = some k := (hH m hmc' (by rw [← Bool.not_eq_true]; exact fun e => hd'.1 (memN_iff.1 e)) hd'.2).trans hk
          obtain ⟨b, g1, g2, g3, g4⟩ := h.hp m k hs
          refine ⟨b, (hlt m hmc').trans g1, g2, ?_, g4⟩
          cases k with
          | known e cs' =>
            obtain ⟨xs, hf, hh⟩ := g3
            exact ⟨xs, f2_ren hκle ⟨hcl, fun k p e => by rw [hlp]; exact e⟩ (fun j hj b e => (hlt j (keepH_at hkH hmc' hk j hj)).trans e) hf, hh⟩
          | row e st len F => rw [show (Blk.row e st len F).rel ρ' b w = (Blk.row e st len F).rel ρ b w by simp only [Blk.rel, hκ]]; exact g3
          | fz st len F => rw [show (Blk.fz st len F).rel ρ' b w = (Blk.fz st len F).rel ρ b w by simp only [Blk.rel, hκ]]; exact g3
          | fk st len F => rw [show (Blk.fk st len F).rel ρ' b w = (Blk.fk st len F).rel ρ b w by simp only [Blk.rel, hκ]]; exact g3
          | dead => trivial
      · cases hk
  have half := putAll_half h hlt hok hg (by rw [ptL_len, rdL_len hr]) (fun vs hvs => rdL_rel (fun m k hk => by obtain ⟨b, h1, _, h3, _⟩ := h.hp m k hk; exact ⟨b, h1, h3⟩) hκle hr hp hmet hvs) (gather_vals h hg) base
  -- what an own block of the new state was
  have origin : ∀ m k b, (stOf s0 c W dead its x).hp m = some k → k.own = true → ρ' m = some b → ∃ mo ko bo, s1.hp mo = some ko ∧ ko.own = true ∧ ρ mo = some bo ∧ bo.1 = b.1 ∧
      ((m < c ∧ mo = m ∧ m ∉ dead) ∨ (c ≤ m ∧ ∃ r, q[m - c]? = some r ∧ mo = r.m)) := by
    intro m k b hm ho hb
    by_cases hmc : m < c
    · rcases stOf_hp_lt (s0 := s0) (c := c) (W := W) (dead := dead) (its := its) (x := x) hmc with h1 | ⟨h1, e, cs', h2⟩
      · rw [h1] at hm
        split at hm
        · cases hm; cases ho
        · rename_i hd
          have hd' : m ∉ dead ++ tblks s0 its := fun hm => by rw [memN_iff.2 hm] at hd; cases hd
          simp only [List.mem_append, not_or] at hd'
          have hs : s1.hp m = some k := (hH m hmc (by rw [← Bool.not_eq_true]; exact fun e => hd'.1 (memN_iff.1 e)) hd'.2).trans hm
          exact ⟨m, k, b, hs, ho, (hlt m hmc).symm.trans hb, rfl, .inl ⟨hmc, rfl, hd'.1⟩⟩
      · obtain ⟨e1, cs1, hs⟩ := gather_tblk hg h1
        exact ⟨m, _, b, hs, rfl, (hlt m hmc).symm.trans hb, rfl, .inl ⟨hmc, rfl, fun hd => hdt m hd h1⟩⟩
    · have hge' : c ≤ m := by omega
      rw [hge m hge'] at hb
      cases hqr : q[m - c]? with
      | none => rw [hqr] at hb; cases hb
      | some r =>
        rw [hqr] at hb
        simp only [Option.bind_some, Option.map_eq_some_iff] at hb
        obtain ⟨b0, hb0, rfl⟩ := hb
        obtain ⟨⟨k0, g1, g2⟩, _⟩ := hblk r (List.mem_of_getElem? hqr)
        exact ⟨r.m, k0, b0, g1, g2, hb0, rfl, .inr ⟨hge', r, rfl, rfl⟩⟩
  refine ⟨ρ', ⟨h.sz, h.bel, h.df, ?_, ?_, ?_, ?_, ?_, ?_, ?_, by rw [hfx]; exact h.fx, by
    rw [hlp]
    intro k l r hk
    rw [stOf_st, ← hst k l r hk]
    exact h.lp k l r hk, by rw [hfx]; exact h.dfx⟩, ⟨hκle, hcl, hk0, hfx, hlp, fun m b hm e => (hlt m hm).trans e⟩⟩
  · intro t v ht
    exact half.tm t v ht
  · intro m hm
    by_cases hmc : m < c
    · rw [hlt m hmc]
      rcases stOf_hp_lt (s0 := s0) (c := c) (W := W) (dead := dead) (its := its) (x := x) hmc with h1 | ⟨_, e, cs', h2⟩
      · rw [h1] at hm
        split at hm
        · cases hm
        · rename_i hd
          have hd' : m ∉ dead ++ tblks s0 its := fun hm => by rw [memN_iff.2 hm] at hd; cases hd
          simp only [List.mem_append, not_or] at hd'
          exact h.dom m ((hH m hmc (by rw [← Bool.not_eq_true]; exact fun e => hd'.1 (memN_iff.1 e)) hd'.2).trans hm)
      · rw [h2] at hm; cases hm
    · rw [stOf_hp_ge hok (by omega), q2, List.getElem?_map] at hm
      rw [hge m (by omega)]
      cases hqr : q[m - c]? with
      | none => rfl
      | some r => rw [hqr] at hm; cases hm
  · intro m k hm
    by_cases hmc : m < c
    · refine half.hp m k ?_
      rw [← hm]
      simp only [stOf]; exact (addNews_out (.inl hmc)).symm
    · rw [stOf_hp_ge hok (by omega), q2, List.getElem?_map] at hm
      cases hqr : q[m - c]? with
      | none => rw [hqr] at hm; cases hm
      | some r =>
        rw [hqr] at hm
        simp only [Option.map_some, Option.some.injEq] at hm
        subst hm
        obtain ⟨⟨k0, g1, g2⟩, _, g3⟩ := hblk r (List.mem_of_getElem? hqr)
        obtain ⟨b, i1, i2, _, i4⟩ := h.hp _ _ g1
        exact ⟨(b.1, r.cap.getD b.2), by rw [hge m (by omega), hqr]; simp [i1], i2, g3 b i1, i4⟩
  · intro m m' k k' b b' hm hm' ok ok' hb hb' hne
    obtain ⟨mo, ko, bo, g1, g2, g3, g4, g5⟩ := origin m k b hm ok hb
    obtain ⟨mo', ko', bo', j1, j2, j3, j4, j5⟩ := origin m' k' b' hm' ok' hb'
    rw [← g4, ← j4]
    refine h.inj mo mo' ko ko' bo bo' g1 j1 g2 j2 g3 j3 ?_
    rcases g5 with ⟨e1, rfl, e2⟩ | ⟨e1, r, e2, rfl⟩ <;> rcases j5 with ⟨f1, rfl, f2⟩ | ⟨f1, r', f2, rfl⟩
    · exact hne
    · rcases hqm r' (List.mem_of_getElem? f2) with h1 | h1
      · omega
      · intro e; rw [e] at e2; exact e2 h1
    · rcases hqm r (List.mem_of_getElem? e2) with h1 | h1
      · omega
      · intro e; rw [← e] at f2; exact f2 h1
    · intro e
      have := nodupB_at hnd (i := m - c) (j := m' - c) (m := r.m) (by simp [e2]) (by simp [f2, e])
      omega
  · rw [hκ]; exact h.im
  · intro m k b o hm ok hb
    obtain ⟨mo, ko, bo, g1, g2, g3, g4, g5⟩ := origin m k b hm ok hb
    rw [hκ, ← g4]
    exact h.dis mo ko bo o g1 g2 g3
  · rw [hκ, hk0]; exact h.old
end
end Go.V
end

section
set_option linter.unusedVariables false
set_option linter.unusedSimpArgs false
namespace Go.V
open Go.RowKit (Below)
abbrev St3 := Ex × Nat × S
def setO (orc : Nat → Option Bool) (k : Nat) (b : Bool) : Nat → Option Bool := upd orc k (some b)
def dsts : Code → List Nat
  | .region _ ops _ => ops.toList.filterMap (·.dst)
  | .seq x y => dsts x ++ dsts y
  | .cond _ y z => dsts y ++ dsts z
  | .block _ x => dsts x
  | .loop x => dsts x
  | .scope x => dsts x
  | _ => []
def firstId : Code → Option Nat
  | .region id _ _ => some id
  | .seq x y => (match firstId x with | some i => some i | none => firstId y)
  | .cond _ y z => (match firstId y with | some i => some i | none => firstId z)
  | .block _ x => firstId x
  | .loop x => firstId x
  | .scope x => firstId x
  | _ => none
abbrev An := List (Nat × List It × Option (List It))
def anOf : An → Option Nat → Option (List It × Option (List It))
  | [], _ => none
  | (k, a) :: l, i => (match i with | some j => (match Nat.beq k j with | true => some a | false => anOf l i) | none => none)
def itSl : List It → List Nat
  | [] => []
  | .slot t _ :: l => t :: itSl l
  | .agg t _ :: l => t :: itSl l
  | .blk _ _ :: l => itSl l
def anSl : Option (List It × Option (List It)) → List Nat
  | some (i, some j) => itSl i ++ itSl j
  | some (i, none) => itSl i
  | none => []
def dstsA (an : An) : Code → List Nat
  | .region id ops d => dsts (.region id ops d)
  | .seq x y => dstsA an x ++ dstsA an y
  | .cond _ y z => dstsA an y ++ dstsA an z
  | .block _ x => dstsA an x
  | .loop x => dstsA an x ++ anSl (anOf an (firstId x))
  | .scope x => dstsA an x
  | _ => []
def relIt (c : Nat) : It → It
  | .blk t l => .blk (match Nat.ble 2000000 t with | true => 1000000 + (c - (t - 2000000)) | false => t) l
  | i => i
def relIts (c : Nat) : List It → List It
  | [] => []
  | i :: l => relIt c i :: relIts c l
def isRel : List It → Bool
  | [] => false
  | .blk t _ :: l => (match Nat.ble 2000000 t with | true => true | false => isRel l)
  | _ :: l => isRel l
def relAn (c : Nat) : Option (List It × Option (List It)) → Option (List It × Option (List It))
  | some (i, some j) => (match isRel i || isRel j with | true => some (relIts c i, some (relIts c j)) | false => some (i, some j))
  | some (i, none) => (match isRel i with | true => some (relIts c i, none) | false => some (i, none))
  | none => none
def enter (N c : Nat) (s : S) (W : List Nat) (its : List It) : Option (Tys (shapes its) × List Prop × List Nat) :=
  match gather s s its with
  | some cs => (match rdL s (shapes its) cs with
    | some (x, p, q) => (match itsOk s c W its && keepT s c W N && keepH s c c && nodupB (q.map (·.m)) && (q.all fun r => Nat.blt r.m c && !memN (tblks s its) r.m) with
      | true => some (x, p, q.map (·.m))
      | false => none)
    | none => none)
  | none => none
def again0 (c : Nat) (s0 s1 : S) (its : List It) : Option (Tys (shapes its) × List Prop) :=
  match gather s0 s1 its with
  | some cs => (match rdL s1 (shapes its) cs with
    | some (x, p, q) => (match nodupB (q.map (·.m)) && (q.all fun r => Nat.ble c r.m) with
      | true => some (x, p)
      | false => none)
    | none => none)
  | none => none
def selAn (N c : Nat) (s : S) (W : List Nat) : Option (List It × Option (List It)) → Option (List It × Option (List It))
  | some (i1, some i2) => (match enter N c s W i1 with | some _ => some (i1, some i2) | none => some (i2, none))
  | x => x
def selL (N c : Nat) (s : S) (W : List Nat) : An → Option Nat → Option (List It × Option (List It))
  | (k, a) :: l, some j => (match Nat.beq k j with
    | false => selL N c s W l (some j)
    | true => (match anOf l (some j) with
      | none => selAn N c s W (relAn c (some a))
      | some _ => (match selAn N c s W (relAn c (some a)) with
        | some (i1, o) => (match enter N c s W i1 with | some _ => some (i1, o) | none => selL N c s W l (some j))
        | none => selL N c s W l (some j))))
  | _, _ => none
def stSame (lv : Nat) (s s' : S) : Bool := (List.range lv).all fun k => match s.st k, s'.st k with
  | none, none => true
  | some .normal, some .normal => true
  | _, _ => false
theorem stSame_at {lv : Nat} {s s' : S} (h : stSame lv s s' = true) {k : Nat} (hk : k < lv) : s'.st k = s.st k := by
  have := List.all_eq_true.1 h k (List.mem_range.2 hk)
  split at this
  · rename_i h1 h2; rw [h1, h2]
  · rename_i h1 h2; rw [h1, h2]
  · cases this
def again (lv c : Nat) (s0 s1 : S) (its : List It) : Option (Tys (shapes its) × List Prop) :=
  match stSame lv s0 s1 with
  | true => again0 c s0 s1 its
  | false => none
def frzL (c : Nat) (s : S) : List CS → List C → List (Nat × Blk)
  | .imE _ :: l, .gsl m _ :: k => (match s.hp m, Nat.ble c m with | some (.row _ st L F), true => (m, .fz st L F) :: frzL c s l k | _, _ => frzL c s l k)
  | _ :: l, _ :: k => frzL c s l k
  | _, _ => []
def frz (c : Nat) (s0 : S) (its : List It) (s : S) : S :=
  match gather s0 s its with | some cs => wrS (preL (frzL c s (shapes its) cs, none, [])) s | none => s
theorem frzL_mem {c : Nat} {s : S} {q : Nat × Blk} : ∀ {l : List CS} {k : List C}, q ∈ frzL c s l k → c ≤ q.1 ∧ ∃ e st L F, s.hp q.1 = some (.row e st L F) ∧ q.2 = .fz st L F := by
  intro l
  induction l with
  | nil => intro k h; cases h
  | cons x l ih =>
    intro k h
    cases k with
    | nil => cases x <;> cases h
    | cons y k =>
      unfold frzL at h
      split at h
      · rename_i heq1 heq2
        simp only [List.cons.injEq] at heq1 heq2
        obtain ⟨_, rfl⟩ := heq1
        obtain ⟨_, rfl⟩ := heq2
        split at h
        · rename_i e st L F hm hc
          rcases List.mem_cons.1 h with rfl | h
          · exact ⟨Nat.le_of_ble_eq_true hc, e, st, L, F, hm, rfl⟩
          · exact ih h
        · exact ih h
      · rename_i heq1 heq2
        simp only [List.cons.injEq] at heq1 heq2
        obtain ⟨_, rfl⟩ := heq1
        obtain ⟨_, rfl⟩ := heq2
        exact ih h
      · cases h
theorem frz_tm {c : Nat} {s0 s : S} {its : List It} : (frz c s0 its s).tm = s.tm := by unfold frz; split <;> rfl
theorem frz_hp {c : Nat} {s0 s : S} {its : List It} {m : Nat} (hm : m < c) : (frz c s0 its s).hp m = s.hp m := by
  unfold frz
  split
  · refine wrs_out fun p hp => ?_
    unfold preL at hp
    simp only [List.append_nil] at hp
    have := (frzL_mem hp).1
    omega
  · rfl
section
variable (P : Program) (G : GT) (N : Nat) (sg : FuncId → Option Sm) (an : An) (lv : Nat)
def rtree (fr : Bool) (ops : Array Oper) (draw : Bool) (wk : Nat → Bool) (c : Nat) (s : S) : Nat → (Nat → Option Bool) → T St3
  | 0, _ => .fail
  | fuel + 1, orc =>
    match rrun P G N sg wk ops orc ops.toList 0 c s with
    | .done L s' c' p => (match !draw || anyOk ops L with | true => T.needs p (.ret (.normal, c', s')) | false => .fail)
    | .ask k b => T.brf fr b (rtree fr ops draw wk c s fuel (setO orc k true)) (rtree fr ops draw wk c s fuel (setO orc k false))
    | .fail => .fail
def loopN (f : Nat → S → T St3) : Nat → Nat → S → T St3
  | 0, _, _ => .fail
  | n + 1, c, s => (f c s).bind fun r => match r with
    | (.normal, c', s') => loopN f n c' s'
    | r => .ret r
def mayWr (wk : Nat → Bool) (s : S) (its : List It) (dead : List Nat) : Bool := (dead ++ tblks s its).all wk
def wkIn (c : Nat) (s : S) (its : List It) (m : Nat) : Bool := Nat.ble c m || memN (tblks s its) m
def roundEnd (c : Nat) (s0 : S) (its : List It) : St3 → T (Tys (shapes its) ⊕ St3)
  | (.normal, _, s') => (match again lv c s0 (frz c s0 its s') its with | some (y, p) => T.needs p (.ret (.inl y)) | none => .fail)
  | r => .ret (.inr r)
def roundEnd2 (c : Nat) (s0 : S) (i1 i2 : List It) : St3 → T ((Tys (shapes i1) ⊕ Tys (shapes i2)) ⊕ St3)
  | (.normal, _, s') => (match again lv c s0 s' i1 with
    | some (y, p) => T.needs p (.ret (.inl (.inl y)))
    | none => (match again lv c s0 s' i2 with
      | some (y, p) => T.needs p (.ret (.inl (.inr y)))
      | none => .fail))
  | r => .ret (.inr r)
end
def forced (an : An) (t : Nat) : Bool := (anOf an (some (1000000 + t))).isSome || ((anOf an (some 999999)).isSome && (anOf an (some (4000000 + t))).isNone)
def forcedO (an : An) : Operand → Bool
  | .tmp t => forced an t
  | _ => false
def litCS : List C → List CS
  | [] => []
  | .lit b :: l => .litB b :: litCS l
  | _ :: l => .bool :: litCS l
def fillIt (s : S) : It → It
  | .blk t [] => (match blkOf s t with | some (m, _) => (match s.hp m with | some (.known _ cs) => .blk t (litCS cs) | _ => .blk t []) | none => .blk t [])
  | i => i
def joinOf (an : An) (N c : Nat) (s : S) (W : List Nat) : Operand → Option (List It)
  | .tmp t => (match selL N c s W an (some (5000000 + t)) with | some (its, _) => some (its.map (fillIt s)) | none => none)
  | _ => none
def joinG (an : An) (c : Nat) : Operand → Option (List It)
  | .tmp t => (match anOf an (some (6000000 + t)) with | some (its, _) => some its | none => none)
  | _ => none
def joinX (b : Bool) : (l : List CS) → Tys l → Tys l → Tys l
  | [], _, _ => ()
  | _ :: l, x, y => (cond b x.1 y.1, joinX b l x.2 y.2)
theorem joinX_true : ∀ {l : List CS} {x y : Tys l}, joinX true l x y = x := by
  intro l
  induction l with
  | nil => intro x y; rfl
  | cons s l ih => intro x y; simp only [joinX, ih, cond_true]
theorem joinX_false : ∀ {l : List CS} {x y : Tys l}, joinX false l x y = y := by
  intro l
  induction l with
  | nil => intro x y; rfl
  | cons s l ih => intro x y; simp only [joinX, ih, cond_false]
def joinN {α : Type} (b : Bool) (p1 p2 : List Prop) (t : T α) : T α :=
  match p1, p2 with
  | [], [] => t
  | p1, p2 => .need ((b = true → All p1) ∧ (b = false → All p2)) t
theorem joinN_wp {α : Type} {b : Bool} {p1 p2 : List Prop} {t : T α} {Q : α → Prop} (h : (joinN b p1 p2 t).wp Q) : ((b = true → All p1) ∧ (b = false → All p2)) ∧ t.wp Q := by
  unfold joinN at h
  split at h
  · exact ⟨⟨fun _ => trivial, fun _ => trivial⟩, h⟩
  · exact h
theorem joinN_all {α : Type} {b : Bool} {p1 p2 : List Prop} {t : T α} {Q : α → Prop} (h : t.all Q) : (joinN b p1 p2 t).all Q := by
  unfold joinN
  split <;> exact h
def joinEnd (lv c : Nat) (s : S) (W dead : List Nat) (its : List It) (b : Bool) : St3 → St3 → T St3
  | (.normal, _, s1), (.normal, _, s2) => (match again lv c s s1 its, again lv c s s2 its with
    | some (y1, p1), some (y2, p2) => joinN b p1 p2 (.ret (.normal, c + nL (shapes its), stOf s c W dead its (joinX b (shapes its) y1 y2)))
    | _, _ => .fail)
  | _, _ => .fail
def meetT (lv c : Nat) (s : S) (W dead : List Nat) (its : List It) (b : Bool) : Option (List Prop × St3) → Option (List Prop × St3) → T St3
  | some (p1, (.normal, _, s1)), some (p2, (.normal, _, s2)) => (match again lv c s s1 its, again lv c s s2 its with
    | some (y1, q1), some (y2, q2) => .need ((b = true → All (p1 ++ q1)) ∧ (b = false → All (p2 ++ q2))) (.ret (.normal, c + nL (shapes its), stOf s c W dead its (joinX b (shapes its) y1 y2)))
    | _, _ => .fail)
  | _, _ => .fail
abbrev RX := Array Oper → Bool → (Nat → Bool) → Nat → S → T St3
abbrev RF := Operand → Array Tmp → Code → Code → (Nat → Bool) → Nat → S → T St3
def deadE {α : Type} (dz : Bool) (r : St3) (t : T α) : T α :=
  match dz, r with
  | true, (.exit _, _, _) => .fail
  | _, _ => t
theorem deadE_wp {α : Type} {dz : Bool} {r : St3} {t : T α} {Q : α → Prop} (h : (deadE dz r t).wp Q) : t.wp Q := by
  unfold deadE at h
  split at h
  · exact h.elim
  · exact h
theorem deadE_all {α : Type} {dz : Bool} {r : St3} {t : T α} {Q : α → Prop} (h : t.all Q) : (deadE dz r t).all Q := by
  unfold deadE
  split
  · trivial
  · exact h
def loopT (dz : Bool) (N lv fuel : Nat) (ex : (Nat → Bool) → Nat → S → T St3) (W : List Nat) (wk : Nat → Bool) (c : Nat) (s : S) : Option (List It × Option (List It)) → T St3
  | none => loopN (ex wk) fuel c s
  | some (i1, none) => (match enter N c s W i1 with
    | some (x0, p, dead) => (match mayWr wk s i1 dead with
      | true => T.needs p (.loop (Tys (shapes i1)) x0 fun y =>
          (ex (wkIn c s i1) (c + nL (shapes i1)) (stOf s c W dead i1 y)).bind (roundEnd lv c s i1))
      | false => .fail)
    | none => .fail)
  | some (i1, some i2) => (match enter N c s W i1 with
    | some (x0, p, dead) => (match mayWr wk s i1 dead && itsOk s c W i2 && ((tblks s i2).all (memN (tblks s i1)) && (tblks s i1).all (memN (tblks s i2))) with
      | true => T.needs p (.loop2 (Tys (shapes i1)) (Tys (shapes i2)) (.inl x0)
          (fun y => (ex (wkIn c s i1) (c + nL (shapes i1)) (stOf s c W dead i1 y)).bind fun r => deadE dz r (roundEnd2 lv c s i1 i2 r))
          (fun y => (ex (wkIn c s i1) (c + nL (shapes i2)) (stOf s c W dead i2 y)).bind (roundEnd2 lv c s i1 i2)))
      | false => .fail)
    | none => .fail)
def fitsL (N c : Nat) (s : S) (W : List Nat) : Option (List It × Option (List It)) → Bool
  | some (i1, _) => (enter N c s W i1).isSome
  | none => false
def roundEndP (lv c : Nat) (s0 : S) (i1 : List It) : St3 → T ((PUnit ⊕ Tys (shapes i1)) ⊕ St3)
  | (.normal, _, s') => (match again lv c s0 (frz c s0 i1 s') i1 with | some (y, p) => T.needs p (.ret (.inl (.inr y))) | none => .fail)
  | r => .ret (.inr r)
def roundEndQ (lv c : Nat) (s0 : S) (i1 i2 : List It) : St3 → T ((PUnit ⊕ (Tys (shapes i1) ⊕ Tys (shapes i2))) ⊕ St3)
  | (.normal, _, s') => (match again lv c s0 s' i1 with
    | some (y, p) => T.needs p (.ret (.inl (.inr (.inl y))))
    | none => (match again lv c s0 s' i2 with
      | some (y, p) => T.needs p (.ret (.inl (.inr (.inr y))))
      | none => .fail))
  | r => .ret (.inr r)
def loopP (N lv : Nat) (ex : (Nat → Bool) → Nat → S → T St3) (W : List Nat) (wk : Nat → Bool) (c : Nat) (s : S) : Option (List It × Option (List It)) → T St3
  | none => .fail
  | some (i1, none) => (match (keepT s c W N && keepH s c c) && (itsOk s c W i1 && mayWr wk s i1 []) with
    | true => .loop2 PUnit (Tys (shapes i1)) (.inl ⟨⟩) (fun _ => (ex (wkIn c s i1) c s).bind (roundEndP lv c s i1))
        (fun y => (ex (wkIn c s i1) (c + nL (shapes i1)) (stOf s c W [] i1 y)).bind (roundEndP lv c s i1))
    | false => .fail)
  | some (i1, some i2) => (match (keepT s c W N && keepH s c c) && ((itsOk s c W i1 && mayWr wk s i1 []) && (itsOk s c W i2 && ((tblks s i2).all (memN (tblks s i1)) && (tblks s i1).all (memN (tblks s i2))))) with
    | true => .loop3 PUnit (Tys (shapes i1)) (Tys (shapes i2)) (.inl ⟨⟩) (fun _ => (ex (wkIn c s i1) c s).bind (roundEndQ lv c s i1 i2))
        (fun y => (ex (wkIn c s i1) (c + nL (shapes i1)) (stOf s c W [] i1 y)).bind (roundEndQ lv c s i1 i2))
        (fun y => (ex (wkIn c s i1) (c + nL (shapes i2)) (stOf s c W [] i2 y)).bind (roundEndQ lv c s i1 i2))
    | false => .fail)
def loopX (N : Nat) (an : An) (lv fuel : Nat) (ex : (Nat → Bool) → Nat → S → T St3) (x : Code) (wk : Nat → Bool) (c : Nat) (s : S) : T St3 :=
  match (anOf an ((firstId x).map (7000000 + ·))).isSome with
  | false => loopT (anOf an ((firstId x).map (8000000 + ·))).isSome N lv fuel ex (dstsA an (.loop x)) wk c s (selL N c s (dstsA an (.loop x)) an (firstId x))
  | true => (match fitsL N c s (dstsA an (.loop x)) (selL N c s (dstsA an (.loop x)) an (firstId x)) with
    | true => loopT (anOf an ((firstId x).map (8000000 + ·))).isSome N lv fuel ex (dstsA an (.loop x)) wk c s (selL N c s (dstsA an (.loop x)) an (firstId x))
    | false => loopP N lv ex (dstsA an (.loop x)) wk c s (relAn c (anOf an (firstId x))))
section
variable (G : GT) (N : Nat) (an : An) (lv : Nat) (rx : RX) (rf : RF)
def exec (fuel : Nat) : Code → (Nat → Bool) → Nat → S → T St3
  | .skip, _, c, s => .ret (.normal, c, s)
  | .region _ ops draw, wk, c, s => rx ops draw wk c s
  | .rangeFunc g ps x y, wk, c, s => rf g ps x y wk c s
  | .seq x y, wk, c, s => (exec fuel x wk c s).bind fun r => match r with
    | (.normal, c', s') => exec fuel y wk c' s'
    | r => .ret r
  | .cond x y z, wk, c, s => (match look G s x with
    | some (.a (.c (.lit true))) => exec fuel y wk c s
    | some (.a (.c (.lit false))) => exec fuel z wk c s
    | some (.a (.c (.bool b))) => (match joinOf an N c s (dstsA an y ++ dstsA an z) x with
      | some its => (match enter N c s (dstsA an y ++ dstsA an z) its with
        | some (x0, p, dead) => (match mayWr wk s its dead with
          | true => T.needs p ((exec fuel y (wkIn c s its) (c + nL (shapes its)) (stOf s c (dstsA an y ++ dstsA an z) dead its x0)).bind fun r1 =>
              (exec fuel z (wkIn c s its) (c + nL (shapes its)) (stOf s c (dstsA an y ++ dstsA an z) dead its x0)).bind fun r2 => joinEnd lv c s (dstsA an y ++ dstsA an z) dead its b r1 r2)
          | false => .fail)
        | none => .fail)
      | none => (match joinG an c x with
        | some its => (match enter N c s (dstsA an y ++ dstsA an z) its with
          | some (x0, p, dead) => (match mayWr wk s its dead with
            | true => T.needs p (meetT lv c s (dstsA an y ++ dstsA an z) dead its b
                (exec fuel y (wkIn c s its) (c + nL (shapes its)) (stOf s c (dstsA an y ++ dstsA an z) dead its x0)).strip
                (exec fuel z (wkIn c s its) (c + nL (shapes its)) (stOf s c (dstsA an y ++ dstsA an z) dead its x0)).strip)
            | false => .fail)
          | none => .fail)
        | none => (match forcedO an x with
          | true => (match b with | true => exec fuel y wk c s | false => exec fuel z wk c s)
          | false => .br b (exec fuel y wk c s) (exec fuel z wk c s))))
    | _ => .fail)
  | .block id x, wk, c, s => (exec fuel x wk c s).bind fun r => match r with
    | (.exit i, c', s') => (match Nat.beq i id with | true => .ret (.normal, c', s') | false => .ret (.exit i, c', s'))
    | r => .ret r
  | .loop x, wk, c, s => loopX N an lv fuel (exec fuel x) x wk c s
  | .scope x, wk, c, s => exec fuel x wk c s
  | .label _, _, c, s => .ret (.normal, c, s)
  | .exit id, _, c, s => .ret (.exit id, c, s)
  | .ret, _, c, s => .ret (.ret, c, s)
  | _, _, _, _ => .fail
end
section
variable {P : Program} {G : GT} {N : Nat} {sg : FuncId → Option Sm} {an : An} {lv : Nat} {gw : World → Prop} {w0 : World} {rr : Option Nat} {s s0 : S}
theorem putAll_tm {t : Nat} {c : Nat} {W : List Nat} (ht : memN W t = false) : ∀ {its : List It} {cs : List C} {s : S}, itsOk s0 c W its = true → (putAll s0 its cs s).tm t = s.tm t := by
  intro its
  induction its with
  | nil => intro cs s _; rfl
  | cons i l ih =>
    intro cs s hok
    simp only [putAll]
    obtain ⟨o1, o2⟩ := itsOk_cons hok
    rw [ih o2]
    cases i with
    | slot t' sh =>
      simp only [itsOk, Bool.and_eq_true] at o1
      have hne : t ≠ t' := fun e => by rw [e, o1.1] at ht; cases ht
      simp only [It.put]
      split
      · exact upd_ne _ _ hne
      · rfl
    | agg t' sh =>
      simp only [itsOk, Bool.and_eq_true] at o1
      have hne : t ≠ t' := fun e => by rw [e, o1.1] at ht; cases ht
      simp only [It.put]
      exact upd_ne _ _ hne
    | blk t' sh =>
      simp only [It.put]
      split <;> rfl
theorem stOf_keepT {c : Nat} {W dead : List Nat} {its : List It} {x : Tys (shapes its)} (hok : itsOk s0 c W its = true) {t : Nat} (ht : memN W t = false) : (stOf s0 c W dead its x).tm t = s0.tm t := by
  rw [stOf_tm, putAll_tm ht hok]
  simp only [bs, ht]
theorem stOf_keepH {c : Nat} {W dead : List Nat} {its : List It} {x : Tys (shapes its)} {m : Nat} (hm : m < c) (hd : memN dead m = false) (htb : m ∉ tblks s0 its) : (stOf s0 c W dead its x).hp m = s0.hp m := by
  rcases stOf_hp_lt (s0 := s0) (c := c) (W := W) (dead := dead) (its := its) (x := x) hm with h | ⟨h, _⟩
  · rw [h]
    have : memN (dead ++ tblks s0 its) m = false := by
      rw [← Bool.not_eq_true, memN_iff, List.mem_append, not_or]
      exact ⟨(fun h => by rw [memN_iff.2 h] at hd; cases hd), htb⟩
    rw [this]
  · exact absurd h htb
theorem stOf_dead {c : Nat} {W dead : List Nat} {its : List It} {x : Tys (shapes its)} {m : Nat} (hm : m < c) (hd : memN dead m = true) : (stOf s0 c W dead its x).hp m ≠ none := by
  rcases stOf_hp_lt (s0 := s0) (c := c) (W := W) (dead := dead) (its := its) (x := x) hm with h | ⟨_, e, cs, h⟩
  · rw [h]
    have : memN (dead ++ tblks s0 its) m = true := memN_iff.2 (List.mem_append_left _ (memN_iff.1 hd))
    rw [this]; simp
  · rw [h]; simp
def Keeps (c : Nat) (s : S) (wk : Nat → Bool) (D : List Nat) (r : St3) : Prop :=
  c ≤ r.2.1 ∧ (∀ t, memN D t = false → r.2.2.tm t = s.tm t) ∧ (∀ m, m < c → wk m = false → r.2.2.hp m = s.hp m)
theorem Keeps.refl (c : Nat) (s : S) (wk : Nat → Bool) (D : List Nat) (e : Ex) : Keeps c s wk D (e, c, s) := ⟨Nat.le_refl _, fun _ _ => rfl, fun _ _ _ => rfl⟩
theorem memN_append {l k : List Nat} {t : Nat} (h : memN (l ++ k) t = false) : memN l t = false ∧ memN k t = false := by
  constructor <;>
  · rw [← Bool.not_eq_true, memN_iff]
    intro hm
    have : memN (l ++ k) t = true := memN_iff.2 (by simp [hm])
    rw [h] at this; cases this
theorem Keeps.trans {c c' : Nat} {s s' : S} {wk : Nat → Bool} {D D' : List Nat} {e : Ex} {r : St3} (h : Keeps c s wk D (e, c', s')) (k : Keeps c' s' wk D' r) : Keeps c s wk (D ++ D') r :=
  ⟨Nat.le_trans h.1 k.1, fun t ht => (k.2.1 t (memN_append ht).2).trans (h.2.1 t (memN_append ht).1), fun m hm hw => (k.2.2 m (Nat.lt_of_lt_of_le hm h.1) hw).trans (h.2.2 m hm hw)⟩
theorem Keeps.wider {c : Nat} {s : S} {wk : Nat → Bool} {D D' : List Nat} {r : St3} (h : Keeps c s wk D r) (hD : ∀ t, memN D' t = false → memN D t = false) : Keeps c s wk D' r :=
  ⟨h.1, fun t ht => h.2.1 t (hD t ht), h.2.2⟩
theorem rtree_keeps {fr : Bool} {id : Nat} {ops : Array Oper} {draw : Bool} {wk : Nat → Bool} {c : Nat} {s : S} : ∀ {fuel : Nat} {orc : Nat → Option Bool}, (rtree P G N sg fr ops draw wk c s fuel orc).all (Keeps c s wk (dsts (.region id ops draw))) := by
  intro fuel
  induction fuel with
  | zero => intro orc; trivial
  | succ fuel ih =>
    intro orc
    simp only [rtree]
    split
    · rename_i L s' c' p hr
      split
      · refine T.all_needs ?_
        obtain ⟨h1, h2, h3⟩ := rrun_keeps hr
        refine ⟨h1, fun t ht => h2 t fun o ho hd => ?_, h3⟩
        have : memN (dsts (.region id ops draw)) t = true := memN_iff.2 (by simp only [dsts, List.mem_filterMap]; exact ⟨o, ho, hd⟩)
        rw [ht] at this; cases this
      · trivial
    · exact T.all_brf ih ih
    · trivial
theorem round_keeps {c : Nat} {s : S} {wk : Nat → Bool} {W dead : List Nat} {its : List It} {x : Tys (shapes its)} (hok : itsOk s c W its = true) (hw : mayWr wk s its dead = true) {n : Nat} {r : St3}
    (h : Keeps (c + n) (stOf s c W dead its x) (wkIn c s its) W r) : Keeps c s wk W r := by
  obtain ⟨h1, h2, h3⟩ := h
  refine ⟨by omega, fun t ht => (h2 t ht).trans (stOf_keepT hok ht), fun m hm hwm => ?_⟩
  have hnot : m ∉ dead ++ tblks s its := by
    intro hmem
    have := List.all_eq_true.1 hw m hmem
    rw [hwm] at this; cases this
  simp only [List.mem_append, not_or] at hnot
  rw [h3 m (by omega), stOf_keepH hm (by rw [← Bool.not_eq_true, memN_iff]; exact hnot.1) hnot.2]
  simp only [wkIn, Bool.or_eq_false_iff]
  exact ⟨by rw [← Bool.not_eq_true, Nat.ble_eq]; omega, by rw [← Bool.not_eq_true, memN_iff]; exact hnot.2⟩
theorem wkIn_congr {c : Nat} {s : S} {i1 i2 : List It} (h1 : (tblks s i2).all (memN (tblks s i1)) = true) (h2 : (tblks s i1).all (memN (tblks s i2)) = true) : wkIn c s i1 = wkIn c s i2 := by
  funext m
  simp only [wkIn]
  congr 1
  rw [Bool.eq_iff_iff, memN_iff, memN_iff]
  exact ⟨fun h => memN_iff.1 (List.all_eq_true.1 h2 m h), fun h => memN_iff.1 (List.all_eq_true.1 h1 m h)⟩
theorem mayWr_congr {wk : Nat → Bool} {s : S} {i1 i2 : List It} {dead : List Nat} (h1 : (tblks s i2).all (memN (tblks s i1)) = true) (h : mayWr wk s i1 dead = true) : mayWr wk s i2 dead = true := by
  simp only [mayWr, List.all_eq_true, List.mem_append] at h ⊢
  rintro m (hm | hm)
  · exact h m (.inl hm)
  · exact h m (.inr (memN_iff.1 (List.all_eq_true.1 h1 m hm)))
theorem enter_spec {c : Nat} {W : List Nat} {its : List It} {x : Tys (shapes its)} {p : List Prop} {dead : List Nat} (h : enter N c s W its = some (x, p, dead)) :
    ∃ cs q, gather s s its = some cs ∧ rdL s (shapes its) cs = some (x, p, q) ∧ dead = q.map (·.m) ∧ itsOk s c W its = true ∧ keepT s c W N = true ∧ keepH s c c = true ∧ nodupB (q.map (·.m)) = true ∧ (∀ r, r ∈ q → r.m < c ∧ r.m ∉ tblks s its) := by
  unfold enter at h
  split at h
  · rename_i cs hg
    split at h
    · rename_i x' p' q hr
      split at h
      · rename_i hok
        simp only [Option.some.injEq, Prod.mk.injEq] at h
        obtain ⟨rfl, rfl, rfl⟩ := h
        simp only [Bool.and_eq_true] at hok
        refine ⟨cs, q, hg, hr, rfl, hok.1.1.1.1, hok.1.1.1.2, hok.1.1.2, hok.1.2, fun r hrq => ?_⟩
        have := List.all_eq_true.1 hok.2 r hrq
        simp only [Bool.and_eq_true, Bool.not_eq_true', Nat.blt_eq] at this
        exact ⟨this.1, fun hm => by rw [memN_iff.2 hm] at this; cases this.2⟩
      · cases h
    · cases h
  · cases h
theorem exec_keeps {rx : RX} {rf : RF} (hxk : ∀ id ops draw wk c s, (rx ops draw wk c s).all (Keeps c s wk (dsts (.region id ops draw)))) (hfk : ∀ g ps x y wk c s, (rf g ps x y wk c s).all (Keeps c s wk [])) (fuel : Nat) : ∀ (code : Code) (wk : Nat → Bool) (c : Nat) (s : S), (exec G N an lv rx rf fuel code wk c s).all (Keeps c s wk (dstsA an code)) := by
  intro code
  induction code with
  | skip => intro wk c s; exact Keeps.refl _ _ _ _ _
  | region id ops draw => intro wk c s; exact hxk id ops draw wk c s
  | rangeFunc g ps x y => intro wk c s; exact hfk g ps x y wk c s
  | seq x y ihx ihy =>
    intro wk c s
    simp only [exec]
    refine T.all_bind (T.all_mono ?_ (ihx wk c s))
    rintro ⟨e, c', s'⟩ h
    cases e with
    | normal => exact T.all_mono (fun r hr => h.trans hr) (ihy wk c' s')
    | exit i => exact Keeps.wider h fun t ht => (memN_append ht).1
    | ret => exact Keeps.wider h fun t ht => (memN_append ht).1
  | cond x y z ihy ihz =>
    intro wk c s
    simp only [exec]
    split
    · exact T.all_mono (fun r hr => Keeps.wider hr fun t ht => (memN_append ht).1) (ihy wk c s)
    · exact T.all_mono (fun r hr => Keeps.wider hr fun t ht => (memN_append ht).2) (ihz wk c s)
    · split
      · rename_i its _
        split
        · rename_i x0 p dead he
          split
          · rename_i hw
            obtain ⟨cs, q, _, _, _, hok, _⟩ := enter_spec he
            refine T.all_needs (T.all_bind (T.all_mono (fun r1 _ => T.all_bind (T.all_mono (fun r2 _ => ?_) (ihz _ _ _))) (ihy _ _ _)))
            obtain ⟨e1, c1, s1⟩ := r1
            obtain ⟨e2, c2, s2⟩ := r2
            cases e1 <;> cases e2 <;> simp only [joinEnd] <;> try trivial
            split
            · exact joinN_all (round_keeps hok hw (Keeps.refl _ _ _ _ _))
            · trivial
          · trivial
        · trivial
      · split
        · rename_i its _
          split
          · rename_i x0 p dead he
            split
            · rename_i hw
              obtain ⟨cs, q, _, _, _, hok, _⟩ := enter_spec he
              refine T.all_needs ?_
              unfold meetT
              split
              · split
                · exact round_keeps hok hw (Keeps.refl _ _ _ _ _)
                · trivial
              · trivial
            · trivial
          · trivial
        · split
          · split
            · exact T.all_mono (fun r hr => Keeps.wider hr fun t ht => (memN_append ht).1) (ihy wk c s)
            · exact T.all_mono (fun r hr => Keeps.wider hr fun t ht => (memN_append ht).2) (ihz wk c s)
          · exact ⟨T.all_mono (fun r hr => Keeps.wider hr fun t ht => (memN_append ht).1) (ihy wk c s), T.all_mono (fun r hr => Keeps.wider hr fun t ht => (memN_append ht).2) (ihz wk c s)⟩
    · trivial
  | block id x ih =>
    intro wk c s
    simp only [exec]
    refine T.all_bind (T.all_mono ?_ (ih wk c s))
    rintro ⟨e, c', s'⟩ h
    cases e with
    | normal => exact h
    | ret => exact h
    | exit i =>
      simp only
      split
      · exact h
      · exact h
  | loop x ih =>
    intro wk c s
    have loopW : ∀ t, memN (dstsA an (.loop x)) t = false → memN (dstsA an x) t = false := fun t ht => (memN_append ht).1
    have main : ∀ (dz : Bool) (o : Option (List It × Option (List It))) (c : Nat) (s : S), (loopT dz N lv fuel (exec G N an lv rx rf fuel x) (dstsA an (.loop x)) wk c s o).all (Keeps c s wk (dstsA an (.loop x))) := by
      intro dz o c s
      unfold loopT
      split
      · have key : ∀ n c s, (loopN (exec G N an lv rx rf fuel x wk) n c s).all (Keeps c s wk (dstsA an (.loop x))) := by
          intro n
          induction n with
          | zero => intro c s; trivial
          | succ n ihn =>
            intro c s
            simp only [loopN]
            refine T.all_bind (T.all_mono ?_ (ih wk c s))
            rintro ⟨e, c', s'⟩ h
            cases e with
            | normal => exact T.all_mono (fun r hr => Keeps.wider (h.trans hr) fun t ht => by
                rw [← Bool.not_eq_true, memN_iff, List.mem_append, not_or]
                constructor
                · intro hm
                  have : memN (dstsA an x) t = true := memN_iff.2 hm
                  rw [loopW t ht] at this; cases this
                · intro hm
                  have : memN (dstsA an (.loop x)) t = true := memN_iff.2 hm
                  rw [ht] at this; cases this) (ihn c' s')
            | exit i => exact h.wider loopW
            | ret => exact h.wider loopW
        exact key fuel c s
      · rename_i i1 _
        split
        · rename_i x0 p dead he
          split
          · rename_i hw
            obtain ⟨cs, q, _, _, _, hok, _⟩ := enter_spec he
            refine T.all_needs fun y => T.all_bind (T.all_mono ?_ (ih _ _ _))
            rintro ⟨e, c', s'⟩ h
            cases e with
            | normal =>
              simp only [roundEnd]
              split
              · exact T.all_needs trivial
              · trivial
            | exit i => exact round_keeps hok hw (h.wider loopW)
            | ret => exact round_keeps hok hw (h.wider loopW)
          · trivial
        · trivial
      · rename_i i1 i2 _
        split
        · rename_i x0 p dead he
          split
          · rename_i hw
            simp only [Bool.and_eq_true] at hw
            obtain ⟨⟨hw, hok2⟩, hs1, hs2⟩ := hw
            obtain ⟨cs, q, _, _, _, hok, _⟩ := enter_spec he
            refine T.all_needs ⟨fun y => T.all_bind (T.all_mono ?_ (ih _ _ _)), fun y => T.all_bind (T.all_mono ?_ (ih _ _ _))⟩
            · rintro ⟨e, c', s'⟩ h
              refine deadE_all ?_
              cases e with
              | normal =>
                simp only [roundEnd2]
                split
                · exact T.all_needs trivial
                · split
                  · exact T.all_needs trivial
                  · trivial
              | exit i => exact round_keeps hok hw (h.wider loopW)
              | ret => exact round_keeps hok hw (h.wider loopW)
            · rw [wkIn_congr hs1 hs2]
              rintro ⟨e, c', s'⟩ h
              cases e with
              | normal =>
                simp only [roundEnd2]
                split
                · exact T.all_needs trivial
                · split
                  · exact T.all_needs trivial
                  · trivial
              | exit i => exact round_keeps hok2 (mayWr_congr hs1 hw) (h.wider loopW)
              | ret => exact round_keeps hok2 (mayWr_congr hs1 hw) (h.wider loopW)
          · trivial
        · trivial
    simp only [exec]
    unfold loopX
    split
    · exact main _ _ _ _
    · split
      · exact main _ _ _ _
      · have first : ∀ {i1 : List It} {r : St3}, mayWr wk s i1 [] = true → Keeps c s (wkIn c s i1) (dstsA an x) r → Keeps c s wk (dstsA an (.loop x)) r := by
          intro i1 r hw h
          refine ⟨h.1, fun t ht => h.2.1 t (loopW t ht), fun m hm hwm => h.2.2 m hm ?_⟩
          have hnot : m ∉ tblks s i1 := by
            intro hmem
            have := List.all_eq_true.1 hw m (by simpa using hmem)
            rw [hwm] at this; cases this
          simp only [wkIn, Bool.or_eq_false_iff]
          exact ⟨by rw [← Bool.not_eq_true, Nat.ble_eq]; omega, by rw [← Bool.not_eq_true, memN_iff]; exact hnot⟩
        unfold loopP
        split
        · trivial
        · split
          · rename_i hw
            simp only [Bool.and_eq_true] at hw
            obtain ⟨_, hok, hw⟩ := hw
            refine ⟨fun y => T.all_bind (T.all_mono ?_ (ih _ _ _)), fun y => T.all_bind (T.all_mono ?_ (ih _ _ _))⟩
            · rintro ⟨e, c', s'⟩ h
              cases e with
              | normal =>
                simp only [roundEndP]
                split
                · exact T.all_needs trivial
                · trivial
              | exit i => exact first hw h
              | ret => exact first hw h
            · rintro ⟨e, c', s'⟩ h
              cases e with
              | normal =>
                simp only [roundEndP]
                split
                · exact T.all_needs trivial
                · trivial
              | exit i => exact round_keeps hok hw (h.wider loopW)
              | ret => exact round_keeps hok hw (h.wider loopW)
          · trivial
        · rename_i i1 i2
          split
          · rename_i hw
            simp only [Bool.and_eq_true] at hw
            obtain ⟨_, ⟨hok, hw⟩, hok2, hs1, hs2⟩ := hw
            have hw2 := mayWr_congr hs1 hw
            have hwk2 := wkIn_congr (c := c) hs1 hs2
            refine ⟨fun y => T.all_bind (T.all_mono ?_ (ih _ _ _)), fun y => T.all_bind (T.all_mono ?_ (ih _ _ _)), fun y => T.all_bind (T.all_mono ?_ (ih _ _ _))⟩
            · rintro ⟨e, c', s'⟩ h
              cases e with
              | normal =>
                simp only [roundEndQ]
                split
                · exact T.all_needs trivial
                · split
                  · exact T.all_needs trivial
                  · trivial
              | exit i => exact first hw h
              | ret => exact first hw h
            · rintro ⟨e, c', s'⟩ h
              cases e with
              | normal =>
                simp only [roundEndQ]
                split
                · exact T.all_needs trivial
                · split
                  · exact T.all_needs trivial
                  · trivial
              | exit i => exact round_keeps hok hw (h.wider loopW)
              | ret => exact round_keeps hok hw (h.wider loopW)
            · rintro ⟨e, c', s'⟩ h
              rw [hwk2] at h
              cases e with
              | normal =>
                simp only [roundEndQ]
                split
                · exact T.all_needs trivial
                · split
                  · exact T.all_needs trivial
                  · trivial
              | exit i => exact round_keeps hok2 hw2 (h.wider loopW)
              | ret => exact round_keeps hok2 hw2 (h.wider loopW)
          · trivial
  | scope x ih => intro wk c s; exact ih wk c s
  | label l => intro wk c s; exact Keeps.refl _ _ _ _ _
  | exit id => intro wk c s; exact Keeps.refl _ _ _ _ _
  | ret => intro wk c s; exact Keeps.refl _ _ _ _ _
  | _ => intro wk c s; trivial
end
end Go.V
end
