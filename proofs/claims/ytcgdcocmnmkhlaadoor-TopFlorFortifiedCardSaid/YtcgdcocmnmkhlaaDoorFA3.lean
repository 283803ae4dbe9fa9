/- The parts of the engines, of their contracts and of the plain laws that the claim rests on: UD, UE, M, D, F0, F1, F3, L, F5, F2, F4, F6, F7, F8, F9, D2, L2. -/
import Derived.Test.YtcgdcocmnmkhlaaDoorFA2
import Derived.RangeFuncLeaves
import Derived.WalkKit
import Derived.Test.YtcgdcocmnmkhlaaDoorRows
set_option linter.unusedVariables false
set_option linter.unusedSimpArgs false
section
set_option linter.unusedVariables false
set_option linter.unusedSimpArgs false
section
set_option linter.unusedVariables false
set_option linter.unusedSimpArgs false
namespace Go.V
open Go.RowKit (Below)
/-- An argument: a cell, a struct or array, the address of cells, a function's value. -/
inductive Ag where
  | c (d : D)
  | agg (ds : List D)
  | ptr (n : Nat) (F : Nat → D)
  | clo (φ : Clo)
def Ag.rel (P : Program) (gw : World → Prop) (κ : Still) : Ag → Value → Prop
  | .c d, x => d.rel κ x
  | .agg ds, x => ∃ xs : List Value, F2 (D.rel κ) ds xs ∧ x = .agg xs.toArray
  | .ptr n F, x => ∃ a : Addr, x = .pointer (some a) ∧ a.spot = none ∧ ∀ j, j < n → ∃ y, κ a.block (a.off + j) = some y ∧ (F j).rel κ y
  | .clo φ, x => CloOK P gw κ φ x
/-- The package-level variables lie still. -/
def GIn (G : GT) (κ : Still) : Prop := ∀ g n F, G g = some (n, F) → ∀ j, j < n → ∃ y, κ g (0 + j) = some y ∧ (F j).rel κ y
theorem GIn.mono {G : GT} {κ κ' : Still} (h : κ.le κ') (hg : GIn G κ) : GIn G κ' := by
  intro g n F e j hj
  obtain ⟨y, hy, hr⟩ := hg g n F e j hj
  exact ⟨y, h _ _ _ hy, D.rel_mono h _ _ hr⟩
def resRel (κ : Still) : List Ar → Value → Prop
  | [r], x => r.rel κ x
  | rs, x => ∃ ys : List Value, F2 (Ar.rel κ) rs ys ∧ x = .tuple ys.toArray
abbrev DomF := List Ag → Option (List Prop × List Ar)
/-- What a call comes to. -/
def Back (κ : Still) (r : List Ar) (w : World) (e : Ending) (w' : World) : Prop :=
  ∃ x κ', e = .returned x ∧ κ.le κ' ∧ Lies κ' w' ∧ (∀ b o v, κ' b o = some v → κ b o = some v ∨ w.heap.size ≤ b) ∧ resRel κ' r x ∧ Below w.heap.size w w'
/-- THE CONTRACT of a function. -/
def FOK (P : Program) (G : GT) (gw : World → Prop) (f : FuncId) (dom : DomF) : Prop :=
  ∀ ags p r, dom ags = some (p, r) → All p → ∀ κ w xs, gw w → Lies κ w → GIn G κ → F2 (Ag.rel P gw κ) ags xs → Calls P f xs.toArray w (Back κ r w)
/-- How many cells an element has. -/
def stBy (len cap : Nat) : Nat → Option Nat
  | 0 => none
  | k + 1 => match Nat.beq (cap * (k + 1)) len with | true => some (k + 1) | false => stBy len cap k
/-- What is lent: blocks that may be laid to rest; whether there are others. -/
abbrev Lent := List (Nat × Blk) × Bool
def Lent.join (a b : Lent) : Lent := (a.1 ++ b.1, a.2 || b.2)
/-- A cell az still data, blocks of the call's own lent. -/
def lend (hp : Nat → Option Blk) : C → Option (D × Lent × List Prop)
  | .gsl m len => (match hp m with
    | some (.row _ st L F) => some (.sl true len st F, ([(m, .fz st L F)], false), [len ≤ L])
    | some (.fz st L F) => some (.sl true len st F, ([], false), [len ≤ L])
    | _ => none)
  | .sl m 0 n cap => (match hp m with
    | some (.known _ cs) => (match toDs cs, cap with
      | some _, 0 => (match n with | 0 => some (.sl true 0 0 (fun _ _ => .nilp), ([], false), []) | _ + 1 => none)
      | some ds, cap + 1 => (match stBy cs.length (cap + 1) 24, Nat.ble n (cap + 1) with
        | some st, true => some (.sl true n st (fun i j => ds.getD (i * st + j) .nilp), ([(m, .dead)], false), [])
        | _, _ => none)
      | none, _ => none)
    | _ => none)
  | x => (match toD x with | some d => some (d, ([], false), []) | none => none)
def lends (hp : Nat → Option Blk) : List C → Option (List D × Lent × List Prop)
  | [] => some ([], ([], false), [])
  | c :: l => match lend hp c, lends hp l with | some (d, b, p), some (ds, b', p') => some (d :: ds, b.join b', p ++ p') | _, _ => none
def agOf (hp : Nat → Option Blk) : A → Option (Ag × Lent × List Prop)
  | .agg cs => (match lends hp cs with | some (ds, b, p) => some (.agg ds, b, p) | none => none)
  | .c (.ptr m 0) => (match hp m with
    | some (.known _ cs) => (match toDs cs with | some ds => some (.ptr ds.length (fun j => ds.getD j .nilp), ([], true), []) | none => none)
    | _ => none)
  | .c (.ip n F) => some (.ptr n F, ([], false), [])
  | .c (.clo φ) => some (.clo φ, ([], false), [])
  | .c x => (match lend hp x with | some (d, b, p) => some (.c d, b, p) | none => none)
def agsOf (hp : Nat → Option Blk) : List A → Option (List Ag × Lent × List Prop)
  | [] => some ([], ([], false), [])
  | a :: l => match agOf hp a, agsOf hp l with | some (d, b, p), some (ds, b', p') => some (d :: ds, b.join b', p ++ p') | _, _ => none
def D.plain : D → Bool
  | .sl .. => false
  | _ => true
def Ar.plain : Ar → Bool
  | .c d => d.plain
  | .agg ds => ds.all D.plain
theorem D.plain_rel {κ κ' : Still} {d : D} (h : d.plain = true) {x : Value} (r : d.rel κ x) : d.rel κ' x := by
  cases d with
  | sl => cases h
  | _ => exact r
theorem ds_plain {κ κ' : Still} : ∀ {ds : List D} {xs : List Value}, ds.all D.plain = true → F2 (D.rel κ) ds xs → F2 (D.rel κ') ds xs
  | _, _, _, .nil => .nil
  | _, _, h, .cons r rs => by
    simp only [List.all_cons, Bool.and_eq_true] at h
    exact .cons (D.plain_rel h.1 r) (ds_plain h.2 rs)
theorem Ar.plain_rel {κ κ' : Still} {d : Ar} (h : d.plain = true) {x : Value} (r : d.rel κ x) : d.rel κ' x := by
  cases d with
  | c d => exact D.plain_rel h r
  | agg ds => obtain ⟨xs, hf, e⟩ := r; exact ⟨xs, ds_plain h hf, e⟩
theorem ars_plain {κ κ' : Still} : ∀ {ds : List Ar} {xs : List Value}, ds.all Ar.plain = true → F2 (Ar.rel κ) ds xs → F2 (Ar.rel κ') ds xs
  | _, _, _, .nil => .nil
  | _, _, h, .cons r rs => by
    simp only [List.all_cons, Bool.and_eq_true] at h
    exact .cons (Ar.plain_rel h.1 r) (ars_plain h.2 rs)
theorem res_plain {κ κ' : Still} {rs : List Ar} (h : rs.all Ar.plain = true) {x : Value} (r : resRel κ rs x) : resRel κ' rs x := by
  match rs, h, r with
  | [r0], h, r => simp only [List.all_cons, List.all_nil, Bool.and_true] at h; exact Ar.plain_rel h r
  | [], h, ⟨ys, hf, e⟩ => cases hf; exact ⟨[], .nil, e⟩
  | a :: b :: l, h, ⟨ys, hf, e⟩ => exact ⟨ys, ars_plain h hf, e⟩
def vOf : List Ar → V
  | [r] => .a (ofAr r)
  | rs => .tup (rs.map ofAr)
theorem f2_ofAr {ρ : Ren} : ∀ {rs : List Ar} {xs : List Value}, F2 (Ar.rel ρ.κ) rs xs → F2 (A.rel ρ) (rs.map ofAr) xs
  | _, _, .nil => .nil
  | _, _, .cons r rs => .cons (ofAr_rel r) (f2_ofAr rs)
theorem vOf_rel {ρ : Ren} {rs : List Ar} {x : Value} (h : resRel ρ.κ rs x) : (vOf rs).rel ρ x := by
  match rs, h with
  | [r], h => exact ofAr_rel h
  | [], ⟨ys, hf, e⟩ => exact ⟨ys, f2_ofAr hf, e⟩
  | a :: b :: l, ⟨ys, hf, e⟩ => exact ⟨ys, f2_ofAr hf, e⟩
def fokSm (dom : DomF) : Sm := fun args hp _ =>
  match agsOf hp args with
  | some (ags, bw, p0) => (match dom ags with
    | some (p, r) => (match r.all Ar.plain, bw.2 with
      | true, _ => some (p0 ++ p, vOf r, [], [])
      | false, false => some (p0 ++ p, vOf r, [], bw.1)
      | false, true => none)
    | none => none)
  | none => none
section
variable {P : Program} {G : GT} {gw : World → Prop}
theorem lend_loc {hp hp' : Nat → Option Blk} {c : C} (h : ∀ m, m ∈ c.names → hp m = hp' m) : lend hp c = lend hp' c := by
  cases c with
  | gsl m len => simp only [lend, h m (by simp [C.names])]
  | sl m off n cap =>
    cases off with
    | zero => simp only [lend, h m (by simp [C.names])]
    | succ off => rfl
  | _ => rfl
theorem lends_loc {hp hp' : Nat → Option Blk} : ∀ {cs : List C}, (∀ m, m ∈ cs.flatMap C.names → hp m = hp' m) → lends hp cs = lends hp' cs := by
  intro cs
  induction cs with
  | nil => intro _; rfl
  | cons c cs ih =>
    intro h
    simp only [lends]
    rw [lend_loc (hp := hp) (hp' := hp') (fun m hm => h m (by simp [hm])), ih (fun m hm => h m (by rw [List.flatMap_cons]; exact List.mem_append_right _ hm))]
theorem agsOf_loc {hp hp' : Nat → Option Blk} : ∀ {args : List A}, (∀ m, m ∈ namesL args → hp m = hp' m) → agsOf hp args = agsOf hp' args := by
  intro args
  induction args with
  | nil => intro _; rfl
  | cons a l ih =>
    intro h
    have h1 : agOf hp a = agOf hp' a := by
      cases a with
      | agg cs =>
        simp only [agOf]
        rw [lends_loc (hp := hp) (hp' := hp') (fun m hm => h m (by simp only [namesL]; exact List.mem_append_left _ hm))]
      | c x =>
        have hx : ∀ m, m ∈ x.names → hp m = hp' m := by
          intro m hm
          refine h m ?_
          simp only [namesL]
          refine List.mem_append_left _ ?_
          cases x <;> exact hm
        cases x with
        | ptr m off =>
          cases off with
          | zero => simp only [agOf, hx m (by simp [C.names])]
          | succ off => rfl
        | gsl m len => simp only [agOf]; rw [lend_loc hx]
        | sl m off n cap => simp only [agOf]; rw [lend_loc hx]
        | _ => rfl
    simp only [agsOf, h1, ih (fun m hm => h m (by simp only [namesL]; exact List.mem_append_right _ hm))]
/-- The whole heap, az it lies. -/
def fullK (w : World) : Still := fun b o => if b < w.heap.size then w.cell? ⟨b, o, none⟩ else none
theorem fullK_lies (w : World) : Lies (fullK w) w := by
  intro b o v h
  unfold fullK at h
  split at h
  · rename_i hb; exact ⟨hb, h⟩
  · cases h
theorem le_fullK {κ : Still} {w : World} (h : Lies κ w) : κ.le (fullK w) := by
  intro b o v hv
  obtain ⟨h1, h2⟩ := h b o v hv
  unfold fullK; rw [if_pos h1]; exact h2
theorem fullK_cell {w : World} {b o : Nat} {v : Value} (h : w.cell? ⟨b, o, none⟩ = some v) : fullK w b o = some v := by
  have hb : b < w.heap.size := by
    apply Classical.byContradiction
    intro hn
    have hs : w.heap[b]? = none := Array.getElem?_eq_none (by omega)
    simp [World.cell?, hs] at h
  unfold fullK; rw [if_pos hb]; exact h
/-- What is lent lies so. -/
def LentOK (ρ : Ren) (w : World) (κ : Still) (l : Lent) : Prop :=
  (∀ q, q ∈ l.1 → ∀ b, ρ q.1 = some b → ∀ o v, w.cell? ⟨b.1, o, none⟩ = some v → κ b.1 o = some v) ∧ (l.2 = true → κ = fullK w)
theorem LentOK.join {ρ : Ren} {w : World} {κ : Still} {a b : Lent} (h : LentOK ρ w κ (a.join b)) : LentOK ρ w κ a ∧ LentOK ρ w κ b :=
  ⟨⟨fun q hq => h.1 q (List.mem_append_left _ hq), fun e => h.2 (by simp [Lent.join, e])⟩, ⟨fun q hq => h.1 q (List.mem_append_right _ hq), fun e => h.2 (by simp [Lent.join, e])⟩⟩
theorem lentFull (ρ : Ren) (w : World) (l : Lent) : LentOK ρ w (fullK w) l := ⟨fun _ _ _ _ _ _ h => fullK_cell h, fun _ => rfl⟩
theorem lend_rel {ρ : Ren} {hp : Nat → Option Blk} {w : World} (hl : Lies ρ.κ w) (hhp : ∀ m k, hp m = some k → ∃ b, ρ m = some b ∧ b.1 < w.heap.size ∧ k.rel ρ b w) {κ : Still} (hle : ρ.κ.le κ) {c : C} {d : D} {b : Lent} {p : List Prop}
    (h : lend hp c = some (d, b, p)) (hb : LentOK ρ w κ b) (hpp : All p) {x : Value} (r : c.rel ρ x) : d.rel κ x := by
  unfold lend at h
  split at h
  · rename_i m len
    split at h
    · rename_i e st L F hm
      simp only [Option.some.injEq, Prod.mk.injEq] at h
      obtain ⟨rfl, rfl, rfl⟩ := h
      obtain ⟨bb, hbb, rfl⟩ := r
      obtain ⟨b', hb', hlt, xs, hh, g1, g2, g3, g4⟩ := hhp m _ hm
      rw [hbb] at hb'; cases hb'
      have hL := hpp.1
      refine .inr ⟨⟨bb.1, 0, none⟩, bb.2, rfl, by omega, fun _ => rfl, fun i j hi hj => ?_⟩
      obtain ⟨y, hy, hr⟩ := g4 i j (by omega) hj
      refine ⟨y, ?_, D.rel_mono hle _ _ hr⟩
      rw [Nat.zero_add]
      exact hb.1 (m, .fz st L F) (by simp) bb hbb _ _ (by simp [World.cell?, hh, hy])
    · rename_i st L F hm
      simp only [Option.some.injEq, Prod.mk.injEq] at h
      obtain ⟨rfl, rfl, rfl⟩ := h
      obtain ⟨bb, hbb, rfl⟩ := r
      obtain ⟨b', hb', hlt, g1, g2⟩ := hhp m _ hm
      rw [hbb] at hb'; cases hb'
      have hL := hpp.1
      refine .inr ⟨⟨bb.1, 0, none⟩, bb.2, rfl, by omega, fun _ => rfl, fun i j hi hj => ?_⟩
      obtain ⟨y, hy, hr⟩ := g2 i j (by omega) hj
      exact ⟨y, by rw [Nat.zero_add]; exact hle _ _ _ hy, D.rel_mono hle _ _ hr⟩
    · cases h
  · rename_i m n cap
    split at h
    · rename_i e cs hm
      split at h
      · rename_i ds hds
        split at h
        · simp only [Option.some.injEq, Prod.mk.injEq] at h
          obtain ⟨rfl, rfl, rfl⟩ := h
          obtain ⟨bb, hbb, rfl⟩ := r
          exact .inr ⟨⟨bb.1, 0, none⟩, 0, rfl, Nat.le_refl _, fun _ => rfl, fun i j hi => by omega⟩
        · cases h
      · rename_i ds cap' hds
        split at h
        · rename_i st hst hn
          simp only [Option.some.injEq, Prod.mk.injEq] at h
          obtain ⟨rfl, rfl, rfl⟩ := h
          have hn' := Nat.le_of_ble_eq_true hn
          obtain ⟨bb, hbb, rfl⟩ := r
          obtain ⟨b', hb', hlt, xs, hf, hh⟩ := hhp m _ hm
          rw [hbb] at hb'; cases hb'
          have hlc := f2_len hf
          have hst' : (cap' + 1) * st = cs.length := by
            have : ∀ k, stBy cs.length (cap' + 1) k = some st → (cap' + 1) * st = cs.length := by
              intro k
              induction k with
              | zero => intro h; simp [stBy] at h
              | succ k ih =>
                intro h
                simp only [stBy] at h
                split at h
                · rename_i hbq
                  simp only [Option.some.injEq] at h
                  subst h
                  exact Nat.eq_of_beq_eq_true hbq
                · exact ih h
            exact this _ hst
          refine .inr ⟨⟨bb.1, 0, none⟩, cap' + 1, rfl, hn', fun _ => rfl, fun i j hi hj => ?_⟩
          have hlt2 := el_lt hi hj
          have hle2 : n * st ≤ (cap' + 1) * st := Nat.mul_le_mul_right _ hn'
          obtain ⟨y, hy, hr⟩ := getD_rel (toDs_rel hds hf) (k := i * st + j) (by omega)
          refine ⟨y, ?_, D.rel_mono hle _ _ hr⟩
          rw [Nat.zero_add]
          exact hb.1 (m, .dead) (by simp) bb hbb _ _ (by simp [World.cell?, hh, hy])
        · cases h
      · cases h
    · cases h
  · split at h
    · rename_i d' hd
      simp only [Option.some.injEq, Prod.mk.injEq] at h
      obtain ⟨rfl, _, _⟩ := h
      exact D.rel_mono hle _ _ (toD_rel hd r)
    · cases h
theorem lend_own {hp : Nat → Option Blk} {c : C} {d : D} {b : Lent} {p : List Prop} (h : lend hp c = some (d, b, p)) : ∀ q, q ∈ b.1 → q.2.own = false ∧ ∃ k, hp q.1 = some k ∧ k.own = true := by
  intro q hq
  unfold lend at h
  split at h
  · split at h
    · rename_i hm
      simp only [Option.some.injEq, Prod.mk.injEq] at h
      obtain ⟨_, rfl, _⟩ := h
      simp only [List.mem_singleton] at hq
      subst hq
      exact ⟨rfl, _, hm, rfl⟩
    · simp only [Option.some.injEq, Prod.mk.injEq] at h
      obtain ⟨_, rfl, _⟩ := h
      cases hq
    · cases h
  · split at h
    · rename_i hm
      split at h
      · split at h
        · simp only [Option.some.injEq, Prod.mk.injEq] at h
          obtain ⟨_, rfl, _⟩ := h
          cases hq
        · cases h
      · split at h
        · simp only [Option.some.injEq, Prod.mk.injEq] at h
          obtain ⟨_, rfl, _⟩ := h
          simp only [List.mem_singleton] at hq
          subst hq
          exact ⟨rfl, _, hm, rfl⟩
        · cases h
      · cases h
    · cases h
  · split at h
    · simp only [Option.some.injEq, Prod.mk.injEq] at h
      obtain ⟨_, rfl, _⟩ := h
      cases hq
    · cases h
theorem lends_own {hp : Nat → Option Blk} : ∀ {cs : List C} {ds : List D} {b : Lent} {p : List Prop}, lends hp cs = some (ds, b, p) → ∀ q, q ∈ b.1 → q.2.own = false ∧ ∃ k, hp q.1 = some k ∧ k.own = true := by
  intro cs
  induction cs with
  | nil => intro ds b p h q hq; simp [lends] at h; obtain ⟨_, rfl, _⟩ := h; cases hq
  | cons c cs ih =>
    intro ds b p h q hq
    simp only [lends] at h
    split at h
    · rename_i d b1 p1 ds2 b2 p2 h1 h2
      simp only [Option.some.injEq, Prod.mk.injEq] at h
      obtain ⟨_, rfl, _⟩ := h
      rcases List.mem_append.1 hq with hq | hq
      · exact lend_own h1 q hq
      · exact ih h2 q hq
    · cases h
theorem agOf_own {hp : Nat → Option Blk} {a : A} {g : Ag} {b : Lent} {p : List Prop} (h : agOf hp a = some (g, b, p)) : ∀ q, q ∈ b.1 → q.2.own = false ∧ ∃ k, hp q.1 = some k ∧ k.own = true := by
  intro q hq
  unfold agOf at h
  split at h
  · split at h
    · rename_i hd
      simp only [Option.some.injEq, Prod.mk.injEq] at h
      obtain ⟨_, rfl, _⟩ := h
      exact lends_own hd q hq
    · cases h
  · split at h
    · split at h
      · simp only [Option.some.injEq, Prod.mk.injEq] at h
        obtain ⟨_, rfl, _⟩ := h
        cases hq
      · cases h
    · cases h
  · simp only [Option.some.injEq, Prod.mk.injEq] at h
    obtain ⟨_, rfl, _⟩ := h
    cases hq
  · simp only [Option.some.injEq, Prod.mk.injEq] at h
    obtain ⟨_, rfl, _⟩ := h
    cases hq
  · split at h
    · rename_i hd
      simp only [Option.some.injEq, Prod.mk.injEq] at h
      obtain ⟨_, rfl, _⟩ := h
      exact lend_own hd q hq
    · cases h
theorem agsOf_own {hp : Nat → Option Blk} : ∀ {cs : List A} {ds : List Ag} {b : Lent} {p : List Prop}, agsOf hp cs = some (ds, b, p) → ∀ q, q ∈ b.1 → q.2.own = false ∧ ∃ k, hp q.1 = some k ∧ k.own = true := by
  intro cs
  induction cs with
  | nil => intro ds b p h q hq; simp [agsOf] at h; obtain ⟨_, rfl, _⟩ := h; cases hq
  | cons c cs ih =>
    intro ds b p h q hq
    simp only [agsOf] at h
    split at h
    · rename_i d b1 p1 ds2 b2 p2 h1 h2
      simp only [Option.some.injEq, Prod.mk.injEq] at h
      obtain ⟨_, rfl, _⟩ := h
      rcases List.mem_append.1 hq with hq | hq
      · exact agOf_own h1 q hq
      · exact ih h2 q hq
    · cases h
end
end Go.V
end
section
set_option linter.unusedVariables false
set_option linter.unusedSimpArgs false
namespace Go.V
open Go.RowKit (Below)
section
variable {P : Program} {G : GT} {gw : World → Prop}
theorem lends_rel {ρ : Ren} {hp : Nat → Option Blk} {w : World} (hl : Lies ρ.κ w) (hhp : ∀ m k, hp m = some k → ∃ b, ρ m = some b ∧ b.1 < w.heap.size ∧ k.rel ρ b w) {κ : Still} (hle : ρ.κ.le κ) : ∀ {cs : List C} {ds : List D} {b : Lent} {p : List Prop} {xs : List Value},
    lends hp cs = some (ds, b, p) → LentOK ρ w κ b → All p → F2 (C.rel ρ) cs xs → F2 (D.rel κ) ds xs := by
  intro cs
  induction cs with
  | nil => intro ds b p xs h _ _ r; cases r; simp [lends] at h; obtain ⟨rfl, _⟩ := h; exact .nil
  | cons c cs ih =>
    intro ds b p xs h hb hp r
    cases r with
    | cons r0 rs =>
      simp only [lends] at h
      split at h
      · rename_i d b1 p1 ds2 b2 p2 h1 h2
        simp only [Option.some.injEq, Prod.mk.injEq] at h
        obtain ⟨rfl, rfl, rfl⟩ := h
        obtain ⟨hp1, hp2⟩ := All.append.1 hp
        exact .cons (lend_rel hl hhp hle h1 hb.join.1 hp1 r0) (ih h2 hb.join.2 hp2 rs)
      · cases h
theorem agOf_rel {ρ : Ren} {hp : Nat → Option Blk} {w : World} (hl : Lies ρ.κ w) (hcl : ∀ φ x, ρ.cl φ x → CloOK P gw ρ.κ φ x) (hhp : ∀ m k, hp m = some k → ∃ b, ρ m = some b ∧ b.1 < w.heap.size ∧ k.rel ρ b w) {κ : Still} (hle : ρ.κ.le κ)
    {a : A} {g : Ag} {b : Lent} {p : List Prop} (h : agOf hp a = some (g, b, p)) (hb : LentOK ρ w κ b) (hpp : All p) {x : Value} (r : a.rel ρ x) : g.rel P gw κ x := by
  unfold agOf at h
  split at h
  · rename_i cs
    split at h
    · rename_i ds b' p' hd
      simp only [Option.some.injEq, Prod.mk.injEq] at h
      obtain ⟨rfl, rfl, rfl⟩ := h
      obtain ⟨xs, hf, e⟩ := r
      exact ⟨xs, lends_rel hl hhp hle hd hb hpp hf, e⟩
    · cases h
  · rename_i m
    split at h
    · rename_i e cs hm
      split at h
      · rename_i ds hd
        simp only [Option.some.injEq, Prod.mk.injEq] at h
        obtain ⟨rfl, rfl, rfl⟩ := h
        have hκ := hb.2 rfl
        subst hκ
        obtain ⟨bb, hbb, rfl⟩ := r
        obtain ⟨b', hb', hlt, xs, hf, hh⟩ := hhp m _ hm
        simp only at hbb
        rw [hbb] at hb'; cases hb'
        have hf' := toDs_rel hd hf
        have hln := f2_len hf'
        refine ⟨⟨bb.1, 0, none⟩, rfl, rfl, fun j hj => ?_⟩
        obtain ⟨y, hy, hr⟩ := getD_rel hf' (k := j) (by omega)
        exact ⟨y, by rw [Nat.zero_add]; exact fullK_cell (by simp [World.cell?, hh, hy]), D.rel_mono hle _ _ hr⟩
      · cases h
    · cases h
  · simp only [Option.some.injEq, Prod.mk.injEq] at h
    obtain ⟨rfl, _, _⟩ := h
    obtain ⟨ad, h1, h2, h3⟩ := r
    exact ⟨ad, h1, h2, fun j hj => by obtain ⟨y, hy, hr⟩ := h3 j hj; exact ⟨y, hle _ _ _ hy, D.rel_mono hle _ _ hr⟩⟩
  · simp only [Option.some.injEq, Prod.mk.injEq] at h
    obtain ⟨rfl, _, _⟩ := h
    exact CloOK.mono hle (hcl _ _ r.1)
  · split at h
    · rename_i d b' p' hd
      simp only [Option.some.injEq, Prod.mk.injEq] at h
      obtain ⟨rfl, rfl, rfl⟩ := h
      exact lend_rel hl hhp hle hd hb hpp r
    · cases h
theorem agsOf_rel {ρ : Ren} {hp : Nat → Option Blk} {w : World} (hl : Lies ρ.κ w) (hcl : ∀ φ x, ρ.cl φ x → CloOK P gw ρ.κ φ x) (hhp : ∀ m k, hp m = some k → ∃ b, ρ m = some b ∧ b.1 < w.heap.size ∧ k.rel ρ b w) {κ : Still} (hle : ρ.κ.le κ) : ∀ {az : List A} {gs : List Ag} {b : Lent} {p : List Prop} {xs : List Value},
    agsOf hp az = some (gs, b, p) → LentOK ρ w κ b → All p → F2 (A.rel ρ) az xs → F2 (Ag.rel P gw κ) gs xs := by
  intro az
  induction az with
  | nil => intro ds b p xs h _ _ r; cases r; simp [agsOf] at h; obtain ⟨rfl, _⟩ := h; exact .nil
  | cons c cs ih =>
    intro ds b p xs h hb hp r
    cases r with
    | cons r0 rs =>
      simp only [agsOf] at h
      split at h
      · rename_i d b1 p1 ds2 b2 p2 h1 h2
        simp only [Option.some.injEq, Prod.mk.injEq] at h
        obtain ⟨rfl, rfl, rfl⟩ := h
        obtain ⟨hp1, hp2⟩ := All.append.1 hp
        exact .cons (agOf_rel hl hcl hhp hle h1 hb.join.1 hp1 r0) (ih h2 hb.join.2 hp2 rs)
      · cases h
theorem lies_back {κ κ' : Still} {w w' : World} (hl : Lies κ w) (hb : Below w.heap.size w w') : Lies κ w' := by
  intro b o v h
  obtain ⟨h1, h2⟩ := hl b o v h
  exact ⟨Nat.lt_of_lt_of_le h1 hb.size, by rw [World.cell?_of_block (w := w) (hb.block b h1)]; exact h2⟩
/-- A block that is laid to rest lies so. -/
theorem lend_fz {ρ ρ' : Ren} {hp : Nat → Option Blk} {w w' : World} (hhp : ∀ m k, hp m = some k → ∃ b, ρ m = some b ∧ b.1 < w.heap.size ∧ k.rel ρ b w) {c : C} {d : D} {b : Lent} {p : List Prop} (h : lend hp c = some (d, b, p)) :
    ∀ q, q ∈ b.1 → ∀ bb, ρ q.1 = some bb → ρ.le ρ' → (∀ o v, w.cell? ⟨bb.1, o, none⟩ = some v → ρ'.κ bb.1 o = some v) → q.2.rel ρ' bb w' := by
  intro q hq bb hbb hle hcell
  unfold lend at h
  split at h
  · split at h
    · rename_i e st L F hm
      simp only [Option.some.injEq, Prod.mk.injEq] at h
      obtain ⟨_, rfl, _⟩ := h
      simp only [List.mem_singleton] at hq
      subst hq
      obtain ⟨b', hb', _, xs, hh, g1, g2, g3, g4⟩ := hhp _ _ hm
      rw [hbb] at hb'; cases hb'
      refine ⟨g2, fun i j hi hj => ?_⟩
      obtain ⟨y, hy, hr⟩ := g4 i j hi hj
      exact ⟨y, hcell _ _ (by simp [World.cell?, hh, hy]), D.rel_mono hle.κ _ _ hr⟩
    · simp only [Option.some.injEq, Prod.mk.injEq] at h
      obtain ⟨_, rfl, _⟩ := h
      cases hq
    · cases h
  · split at h
    · split at h
      · split at h
        · simp only [Option.some.injEq, Prod.mk.injEq] at h
          obtain ⟨_, rfl, _⟩ := h
          cases hq
        · cases h
      · split at h
        · simp only [Option.some.injEq, Prod.mk.injEq] at h
          obtain ⟨_, rfl, _⟩ := h
          simp only [List.mem_singleton] at hq
          subst hq
          trivial
        · cases h
      · cases h
    · cases h
  · split at h
    · simp only [Option.some.injEq, Prod.mk.injEq] at h
      obtain ⟨_, rfl, _⟩ := h
      cases hq
    · cases h
theorem lends_fz {ρ ρ' : Ren} {hp : Nat → Option Blk} {w w' : World} (hhp : ∀ m k, hp m = some k → ∃ b, ρ m = some b ∧ b.1 < w.heap.size ∧ k.rel ρ b w) : ∀ {cs : List C} {ds : List D} {b : Lent} {p : List Prop}, lends hp cs = some (ds, b, p) →
    ∀ q, q ∈ b.1 → ∀ bb, ρ q.1 = some bb → ρ.le ρ' → (∀ o v, w.cell? ⟨bb.1, o, none⟩ = some v → ρ'.κ bb.1 o = some v) → q.2.rel ρ' bb w' := by
  intro cs
  induction cs with
  | nil => intro ds b p h q hq; simp [lends] at h; obtain ⟨_, rfl, _⟩ := h; cases hq
  | cons c cs ih =>
    intro ds b p h q hq
    simp only [lends] at h
    split at h
    · rename_i d b1 p1 ds2 b2 p2 h1 h2
      simp only [Option.some.injEq, Prod.mk.injEq] at h
      obtain ⟨_, rfl, _⟩ := h
      rcases List.mem_append.1 hq with hq | hq
      · exact lend_fz hhp h1 q hq
      · exact ih h2 q hq
    · cases h
theorem agOf_fz {ρ ρ' : Ren} {hp : Nat → Option Blk} {w w' : World} (hhp : ∀ m k, hp m = some k → ∃ b, ρ m = some b ∧ b.1 < w.heap.size ∧ k.rel ρ b w) {a : A} {g : Ag} {b : Lent} {p : List Prop} (h : agOf hp a = some (g, b, p)) :
    ∀ q, q ∈ b.1 → ∀ bb, ρ q.1 = some bb → ρ.le ρ' → (∀ o v, w.cell? ⟨bb.1, o, none⟩ = some v → ρ'.κ bb.1 o = some v) → q.2.rel ρ' bb w' := by
  intro q hq
  unfold agOf at h
  split at h
  · split at h
    · rename_i hd
      simp only [Option.some.injEq, Prod.mk.injEq] at h
      obtain ⟨_, rfl, _⟩ := h
      exact lends_fz hhp hd q hq
    · cases h
  · split at h
    · split at h
      · simp only [Option.some.injEq, Prod.mk.injEq] at h
        obtain ⟨_, rfl, _⟩ := h
        cases hq
      · cases h
    · cases h
  · simp only [Option.some.injEq, Prod.mk.injEq] at h
    obtain ⟨_, rfl, _⟩ := h
    cases hq
  · simp only [Option.some.injEq, Prod.mk.injEq] at h
    obtain ⟨_, rfl, _⟩ := h
    cases hq
  · split at h
    · rename_i hd
      simp only [Option.some.injEq, Prod.mk.injEq] at h
      obtain ⟨_, rfl, _⟩ := h
      exact lend_fz hhp hd q hq
    · cases h
theorem agsOf_fz' {ρ ρ' : Ren} {hp : Nat → Option Blk} {w w' : World} (hhp : ∀ m k, hp m = some k → ∃ b, ρ m = some b ∧ b.1 < w.heap.size ∧ k.rel ρ b w) : ∀ {cs : List A} {ds : List Ag} {b : Lent} {p : List Prop}, agsOf hp cs = some (ds, b, p) →
    ∀ q, q ∈ b.1 → ∀ bb, ρ q.1 = some bb → ρ.le ρ' → (∀ o v, w.cell? ⟨bb.1, o, none⟩ = some v → ρ'.κ bb.1 o = some v) → q.2.rel ρ' bb w' := by
  intro cs
  induction cs with
  | nil => intro ds b p h q hq; simp [agsOf] at h; obtain ⟨_, rfl, _⟩ := h; cases hq
  | cons c cs ih =>
    intro ds b p h q hq
    simp only [agsOf] at h
    split at h
    · rename_i d b1 p1 ds2 b2 p2 h1 h2
      simp only [Option.some.injEq, Prod.mk.injEq] at h
      obtain ⟨_, rfl, _⟩ := h
      rcases List.mem_append.1 hq with hq | hq
      · exact agOf_fz hhp h1 q hq
      · exact ih h2 q hq
    · cases h
def isGo (fn : Func) : Bool := !(fn.name == "runtime.NumGoroutine") && !fn.body.isNone
theorem enter_of {f : FuncId} {fn : Func} (h : P.funcs[f]? = some fn) (hg : isGo fn = true) (args : Array Value) (w : World) : (callFunc f args).run P w = .ok (.enter f args) w := by
  unfold isGo at hg
  simp only [Bool.and_eq_true, Bool.not_eq_true'] at hg
  exact run_callFunc h hg.1 hg.2 args w
/-- From a contract to a summary. -/
theorem fok_sum {f : FuncId} {fn : Func} {dom : DomF} (hf : P.funcs[f]? = some fn) (hg : isGo fn = true) (h : FOK P G gw f dom) : SumOK P G gw f (fokSm dom) where
  enter := enter_of hf hg
  loc := by intro args c hp hp' hm; unfold fokSm; rw [agsOf_loc hm]
  frz := by
    intro args c hp p v N Z hs q hq
    unfold fokSm at hs
    split at hs
    · rename_i ags bw p0 hags
      split at hs
      · split at hs
        · simp only [Option.some.injEq, Prod.mk.injEq] at hs
          obtain ⟨_, _, _, rfl⟩ := hs
          cases hq
        · simp only [Option.some.injEq, Prod.mk.injEq] at hs
          obtain ⟨_, _, _, rfl⟩ := hs
          exact agsOf_own hags q hq
        · cases hs
      · cases hs
    · cases hs
  ok := by
    intro args c hp p v N Z hs hpr ρ xs w hgw hl hcl hgl hx hhp hfr
    unfold fokSm at hs
    split at hs
    · rename_i ags bw p0 hags
      split at hs
      · rename_i p1 r hd
        have hG : GIn G ρ.κ := by
          intro g n F e j hj
          obtain ⟨a, h1, h2, h3⟩ := hgl g n F e
          cases h1
          exact h3 j hj
        split at hs
        · rename_i hpl
          simp only [Option.some.injEq, Prod.mk.injEq] at hs
          obtain ⟨rfl, rfl, rfl, rfl⟩ := hs
          obtain ⟨hp0, hp1⟩ := All.append.1 hpr
          have hle := le_fullK hl
          have hrel := agsOf_rel hl hcl hhp hle hags (lentFull ρ w bw) hp0 hx
          refine (h ags _ _ hd hp1 (fullK w) w xs hgw (fullK_lies w) (hG.mono hle) hrel).mono ?_
          rintro e w' ⟨x, κ', rfl, hle', hl', hn, hr, hb⟩
          exact ⟨ρ, x, rfl, Ren.le_refl _, fun m hm _ => hm, vOf_rel (res_plain hpl hr), hb, fun i k hi => by simp at hi, fun i j b b' hi => by simp at hi, fun q hq => by (cases hq), fun b o v hv => .inl hv⟩
        · rename_i hbw
          simp only [Option.some.injEq, Prod.mk.injEq] at hs
          obtain ⟨rfl, rfl, rfl, rfl⟩ := hs
          obtain ⟨hp0, hp1⟩ := All.append.1 hpr
          -- what lies still, and what is laid to rest for it
          obtain ⟨κz, hκz⟩ : ∃ κz : Still, ∀ b o v, κz b o = some v ↔ ρ.κ b o = some v ∨ ((∃ q b0, q ∈ bw.1 ∧ ρ q.1 = some b0 ∧ b = b0.1) ∧ b < w.heap.size ∧ w.cell? ⟨b, o, none⟩ = some v) := by
            refine ⟨fun b o => @ite _ (∃ q b0, q ∈ bw.1 ∧ ρ q.1 = some b0 ∧ b = b0.1) (Classical.propDecidable _) (fullK w b o) (ρ.κ b o), fun b o v => ?_⟩
            dsimp only
            by_cases hz : ∃ q b0, q ∈ bw.1 ∧ ρ q.1 = some b0 ∧ b = b0.1
            · rw [if_pos hz]
              constructor
              · intro hv
                obtain ⟨g1, g2⟩ := fullK_lies w b o v hv
                exact .inr ⟨hz, g1, g2⟩
              · rintro (hv | ⟨_, _, hv⟩)
                · exact le_fullK hl b o v hv
                · exact fullK_cell hv
            · rw [if_neg hz]
              constructor
              · exact .inl
              · rintro (hv | ⟨hv, _⟩)
                · exact hv
                · exact absurd hv hz
          have hle : ρ.κ.le κz := fun b o v hv => (hκz b o v).2 (.inl hv)
          have hlz : Lies κz w := by
            intro b o v hv
            rcases (hκz b o v).1 hv with hv | ⟨_, h1, h2⟩
            · exact hl b o v hv
            · exact ⟨h1, h2⟩
          have hlent : LentOK ρ w κz bw := by
            refine ⟨fun q hq b hb o v hv => (hκz _ _ _).2 (.inr ⟨⟨q, b, hq, hb, rfl⟩, ?_, hv⟩), fun e => by rw [hbw] at e; cases e⟩
            obtain ⟨_, k, hk, _⟩ := agsOf_own hags q hq
            obtain ⟨b', hb', hlt, _⟩ := hhp _ _ hk
            rw [hb] at hb'; cases hb'; exact hlt
          have hrel := agsOf_rel hl hcl hhp hle hags hlent hp0 hx
          refine (h ags _ _ hd hp1 κz w xs hgw hlz (hG.mono hle) hrel).mono ?_
          rintro e w' ⟨x, κ', rfl, hle', hl', hn, hr, hb⟩
          have hup : ρ.κ.le κ' := fun b o v hv => hle' _ _ _ (hle _ _ _ hv)
          refine ⟨{ ρ with κ := κ' }, x, rfl, ⟨fun _ _ h => h, hup, rfl, rfl, rfl, rfl⟩, fun m hm _ => hm, vOf_rel (ρ := { ρ with κ := κ' }) hr, hb, fun i k hi => by simp at hi, fun i j b b' hi => by simp at hi, ?_, ?_⟩
          · intro q hq b hb0
            obtain ⟨hown, k, hk, _⟩ := agsOf_own hags q hq
            obtain ⟨b', hb', hlt, hkr⟩ := hhp _ _ hk
            rw [hb0] at hb'; cases hb'
            exact agsOf_fz' (ρ' := { ρ with κ := κ' }) hhp hags q hq b hb0 ⟨fun _ _ h => h, hup, rfl, rfl, rfl, rfl⟩ (fun o v hv => hle' _ _ _ (hlent.1 q hq b hb0 o v hv))
          · intro b o v hv
            rcases hn b o v hv with h1 | h1
            · rcases (hκz b o v).1 h1 with h2 | ⟨⟨q, b0, g1, g2, g3⟩, g4, g5⟩
              · exact .inl h2
              · obtain ⟨j1, j2⟩ := hl' b o v hv
                exact .inr ⟨.inr ⟨q, b0, g1, g2, g3⟩, j1, j2, fun i k b' hi => by simp at hi⟩
            · obtain ⟨j1, j2⟩ := hl' b o v hv
              exact .inr ⟨.inl h1, j1, j2, fun i k b' hi => by simp at hi⟩
        · cases hs
      · cases hs
    · cases hs
def AllS (P : Program) (G : GT) (gw : World → Prop) : List (Nat × Sm) → Prop
  | [] => True
  | (f, σ) :: l => SumOK P G gw f σ ∧ AllS P G gw l
def lookS : List (Nat × Sm) → FuncId → Option Sm
  | [], _ => none
  | (g, σ) :: l, f => match Nat.beq g f with | true => some σ | false => lookS l f
theorem lookS_ok : ∀ {l : List (Nat × Sm)}, AllS P G gw l → ∀ f σ, lookS l f = some σ → SumOK P G gw f σ := by
  intro l
  induction l with
  | nil => intro _ f σ h; simp [lookS] at h
  | cons x l ih =>
    intro hl f σ h
    obtain ⟨g, τ⟩ := x
    simp only [lookS] at h
    split at h
    · rename_i hb
      have := Nat.eq_of_beq_eq_true hb
      subst this
      simp only [Option.some.injEq] at h; subst h
      exact hl.1
    · exact ih hl.2 f σ h
end
section
variable (P : Program)
def finL (g : C → Option (D × List Prop)) : List C → Option (List D × List Prop)
  | [] => some ([], [])
  | c :: l => match g c, finL g l with | some (d, p), some (ds, q) => some (d :: ds, p ++ q) | _, _ => none
def finW (s : S) (g : C → Option (D × List Prop)) : C → Option (D × List Prop)
  | .gsl m len => (match s.hp m with
    | some k => (match rowOf k with | some (st, L, F) => some (.sl true len st F, [len ≤ L]) | none => none)
    | none => none)
  | .sl m 0 len cap => (match s.hp m with
    | some (.known e cs) => (match finL g cs, P.info? e with
      | some (ds, p), some i => (match Nat.ble (len * i.size) cs.length && Nat.ble len cap with
        | true => some (.sl true len i.size (fun i' j => ds.getD (i' * i.size + j) .nilp), p)
        | false => none)
      | _, _ => none)
    | _ => none)
  | x => (match toD x with | some d => some (d, []) | none => none)
/-- A result's cell, az it lies when the call is over. -/
def finC (s : S) : Nat → C → Option (D × List Prop)
  | 0 => fun x => (match toD x with | some d => some (d, []) | none => none)
  | n + 1 => finW P s (finC s n)
def finA (s : S) : A → Option (Ar × List Prop)
  | .c x => (match finC P s 3 x with | some (d, p) => some (.c d, p) | none => none)
  | .agg cs => (match finL (finC P s 3) cs with | some (ds, p) => some (.agg ds, p) | none => none)
def finAs (s : S) : List A → Option (List Ar × List Prop)
  | [] => some ([], [])
  | a :: l => match finA P s a, finAs s l with | some (r, p), some (rs, q) => some (r :: rs, p ++ q) | _, _ => none
/-- A result. -/
def resA (s : S) : ResultVar → Option A
  | .tmp t => (match s.tm t with | some (.a y) => some y | _ => none)
  | .cell t ty => (match s.tm t, P.underlying ty, P.info? ty with
    | some (.a (.c (.ptr m off))), some d, some i => (match s.hp m with
      | some k => (match isAggD d with
        | true => (match readN k off i.size with | some cs => some (.agg cs) | none => none)
        | false => (match k.cell off with | some c => some (.c c) | none => none))
      | none => none)
    | _, _, _ => none)
def resL (s : S) : List ResultVar → Option (List A)
  | [] => some []
  | r :: l => match resA P s r, resL s l with | some a, some k => some (a :: k) | _, _ => none
end
/-- When the call is over, all that it has made lies still. -/
def endK (κ0 : Still) (B : Nat) (w' : World) : Still := fun b o => if B ≤ b then (if b < w'.heap.size then w'.cell? ⟨b, o, none⟩ else none) else κ0 b o
section
variable {P : Program} {G : GT} {gw : World → Prop} {N : Nat} {w0 : World} {ρ : Ren} {s : S} {a : Act} {w : World}
theorem endK_le (h : Rel w0 N ρ s a w) : ρ.κ.le (endK ρ.k0 w0.heap.size w) := by
  intro b o v hv
  obtain ⟨h1, h2⟩ := h.im b o v hv
  unfold endK
  by_cases hb : w0.heap.size ≤ b
  · rw [if_pos hb, if_pos h1]; exact h2
  · rw [if_neg hb]; exact h.old b o v hv (by omega)
theorem endK_cell {κ0 : Still} {B b o : Nat} {v : Value} (hb : B ≤ b) (hlt : b < w.heap.size) (h : w.cell? ⟨b, o, none⟩ = some v) : endK κ0 B w b o = some v := by
  unfold endK; rw [if_pos hb, if_pos hlt]; exact h
theorem finL_rel {κ' : Still} {g : C → Option (D × List Prop)} (hg : ∀ c d p x, g c = some (d, p) → All p → c.rel ρ x → d.rel κ' x) : ∀ {cs : List C} {ds : List D} {p : List Prop} {xs : List Value}, finL g cs = some (ds, p) → All p → F2 (C.rel ρ) cs xs → F2 (D.rel κ') ds xs := by
  intro cs
  induction cs with
  | nil => intro ds p xs h _ r; cases r; simp [finL] at h; obtain ⟨rfl, _⟩ := h; exact .nil
  | cons c cs ih =>
    intro ds p xs h hp r
    cases r with
    | cons r0 rs =>
      simp only [finL] at h
      split at h
      · rename_i d p1 ds2 p2 h1 h2
        simp only [Option.some.injEq, Prod.mk.injEq] at h
        obtain ⟨rfl, rfl⟩ := h
        obtain ⟨hp1, hp2⟩ := All.append.1 hp
        exact .cons (hg _ _ _ _ h1 hp1 r0) (ih h2 hp2 rs)
      · cases h
theorem finW_rel (h : Rel w0 N ρ s a w) {g : C → Option (D × List Prop)} (hg : ∀ c d p x, g c = some (d, p) → All p → c.rel ρ x → d.rel (endK ρ.k0 w0.heap.size w) x) : ∀ c d p x, finW P s g c = some (d, p) → All p → c.rel ρ x → d.rel (endK ρ.k0 w0.heap.size w) x := by
  intro c d p x hc hp r
  have hle := endK_le h
  unfold finW at hc
  split at hc
  · rename_i m len
    split at hc
    · rename_i k hm
      split at hc
      · rename_i st L F hrow
        simp only [Option.some.injEq, Prod.mk.injEq] at hc
        obtain ⟨rfl, rfl⟩ := hc
        obtain ⟨bb, hbb, rfl⟩ := r
        obtain ⟨b', hb', hlt, hrel, hge⟩ := h.hp m k hm
        rw [hbb] at hb'; cases hb'
        have hcap := rowOf_cap hrel hrow
        have hL := hp.1
        refine .inr ⟨⟨bb.1, 0, none⟩, bb.2, rfl, by omega, fun _ => rfl, fun i j hi hj => ?_⟩
        obtain ⟨xs, hf, hlen, hcl⟩ := rCells_sound h.im hrel hrow (show i < L by omega) (n := 1) (o := j) (by omega)
        simp only [dCells] at hf
        cases hf with
        | cons r0 rs =>
          rename_i y ys
          have hcy := hcl 0 y (by simp)
          refine ⟨y, ?_, D.rel_mono hle _ _ ?_⟩
          · rw [Nat.zero_add]; exact endK_cell hge hlt (by simpa [Addr.add] using hcy)
          · have : ∀ (d : D), (toC d).rel ρ y → d.rel ρ.κ y := by intro d hd; cases d <;> exact hd
            exact this _ r0
      · cases hc
    · cases hc
  · rename_i m len cap
    split at hc
    · rename_i e cs hm
      split at hc
      · rename_i ds p' i hds hi
        split at hc
        · rename_i hok
          simp only [Bool.and_eq_true] at hok
          have h1 := Nat.le_of_ble_eq_true hok.1
          have h2 := Nat.le_of_ble_eq_true hok.2
          simp only [Option.some.injEq, Prod.mk.injEq] at hc
          obtain ⟨rfl, rfl⟩ := hc
          obtain ⟨bb, hbb, rfl⟩ := r
          obtain ⟨b', hb', hlt, ⟨xs, hf, hh⟩, hge⟩ := h.hp m _ hm
          rw [hbb] at hb'; cases hb'
          have hlc := f2_len hf
          have hf' := finL_rel hg hds hp hf
          refine .inr ⟨⟨bb.1, 0, none⟩, cap, rfl, h2, fun _ => rfl, fun i' j hi' hj => ?_⟩
          have hlt2 := el_lt hi' hj
          obtain ⟨y, hy, hr⟩ := getD_rel hf' (k := i' * i.size + j) (by omega)
          exact ⟨y, by rw [Nat.zero_add]; exact endK_cell hge hlt (by simp [World.cell?, hh, hy]), hr⟩
        · cases hc
      · cases hc
    · cases hc
  · split at hc
    · rename_i d' hd
      simp only [Option.some.injEq, Prod.mk.injEq] at hc
      obtain ⟨rfl, _⟩ := hc
      exact D.rel_mono hle _ _ (toD_rel hd r)
    · cases hc
theorem finC_rel (h : Rel w0 N ρ s a w) : ∀ n c d p x, finC P s n c = some (d, p) → All p → c.rel ρ x → d.rel (endK ρ.k0 w0.heap.size w) x := by
  intro n
  induction n with
  | zero =>
    intro c d p x hc hp r
    simp only [finC] at hc
    split at hc
    · rename_i d' hd
      simp only [Option.some.injEq, Prod.mk.injEq] at hc
      obtain ⟨rfl, _⟩ := hc
      exact D.rel_mono (endK_le h) _ _ (toD_rel hd r)
    · cases hc
  | succ n ih => exact finW_rel h ih
theorem finA_rel (h : Rel w0 N ρ s a w) {y : A} {r : Ar} {p : List Prop} (hr : finA P s y = some (r, p)) (hp : All p) {x : Value} (hy : y.rel ρ x) : r.rel (endK ρ.k0 w0.heap.size w) x := by
  unfold finA at hr
  split at hr
  · split at hr
    · rename_i d p' hd
      simp only [Option.some.injEq, Prod.mk.injEq] at hr
      obtain ⟨rfl, rfl⟩ := hr
      exact finC_rel h 3 _ _ _ _ hd hp hy
    · cases hr
  · split at hr
    · rename_i ds p' hd
      simp only [Option.some.injEq, Prod.mk.injEq] at hr
      obtain ⟨rfl, rfl⟩ := hr
      obtain ⟨xs, hf, e⟩ := hy
      exact ⟨xs, finL_rel (finC_rel h 3) hd hp hf, e⟩
    · cases hr
theorem finAs_rel (h : Rel w0 N ρ s a w) : ∀ {ys : List A} {rs : List Ar} {p : List Prop} {xs : List Value}, finAs P s ys = some (rs, p) → All p → F2 (A.rel ρ) ys xs → F2 (Ar.rel (endK ρ.k0 w0.heap.size w)) rs xs := by
  intro ys
  induction ys with
  | nil => intro rs p xs h _ r; cases r; simp [finAs] at h; obtain ⟨rfl, _⟩ := h; exact .nil
  | cons y ys ih =>
    intro rs p xs hr hp r
    cases r with
    | cons r0 rs0 =>
      simp only [finAs] at hr
      split at hr
      · rename_i d p1 ds2 p2 h1 h2
        simp only [Option.some.injEq, Prod.mk.injEq] at hr
        obtain ⟨rfl, rfl⟩ := hr
        obtain ⟨hp1, hp2⟩ := All.append.1 hp
        exact .cons (finA_rel h h1 hp1 r0) (ih h2 hp2 rs0)
      · cases hr
/-- What 'results' reads of one result. -/
def resOne (a : Act) (r : ResultVar) : Sem Value :=
  match r with
  | .tmp t => pure (a.tmps.getD t undef)
  | .cell c t => do loadVar t (← asAddr (a.tmps.getD c undef))
theorem results_eq (fn : Func) (a : Act) : results fn a.tmps = (do let vs ← fn.results.mapM (resOne a); pure (if h : vs.size = 1 then vs[0] else .tuple vs)) := by
  unfold results resOne
  rfl
theorem resA_sound (h : View G ρ s a w) {r : ResultVar} {p : A} (e : resA P s r = some p) : ∃ x, (resOne a r).run P w = .ok x w ∧ p.rel ρ x := by
  unfold resOne
  cases r with
  | tmp t =>
    simp only [resA] at e
    split at e
    · rename_i y hy
      simp only [Option.some.injEq] at e; subst e
      exact ⟨_, rfl, h.tm t _ hy⟩
    · cases e
  | cell t ty =>
    simp only [resA] at e
    split at e
    · rename_i m off d i hx hd hi
      obtain ⟨b, hb, hv⟩ := h.tm t _ hx
      split at e
      · rename_i k hk
        obtain ⟨b', hb', hlt, hrel⟩ := h.hp m k hk
        simp only at hb
        rw [hb] at hb'; cases hb'
        split at e
        · rename_i hg
          split at e
          · rename_i cs hcs
            simp only [Option.some.injEq] at e; subst e
            obtain ⟨xs, hf, hl, hc⟩ := readN_sound hrel hcs
            refine ⟨.agg xs.toArray, ?_, xs, hf, rfl⟩
            simp only [hv, asAddr, Sem.run_bind, Sem.run_pure, Result.andThen_ok, run_loadVar_agg hd hi hg hl hc]
          · cases e
        · rename_i hg
          split at e
          · rename_i c hc
            simp only [Option.some.injEq] at e; subst e
            obtain ⟨z, hz, hcell⟩ := Blk.rel_cell hrel hc
            refine ⟨z, ?_, hz⟩
            simp only [hv, asAddr, Sem.run_bind, Sem.run_pure, Result.andThen_ok, run_loadVar_one hd hg hcell]
          · cases e
      · cases e
    · cases e
theorem resL_sound (h : View G ρ s a w) : ∀ {l : List ResultVar} {ps : List A}, resL P s l = some ps → ∃ xs : List Value, (l.mapM (resOne a)).run P w = .ok xs w ∧ F2 (A.rel ρ) ps xs := by
  intro l
  induction l with
  | nil => intro ps e; simp [resL] at e; subst e; exact ⟨[], rfl, .nil⟩
  | cons r l ih =>
    intro ps e
    simp only [resL] at e
    split at e
    · rename_i p k hp hk
      simp only [Option.some.injEq] at e; subst e
      obtain ⟨x, hx, hr⟩ := resA_sound h hp
      obtain ⟨xs, hxs, hrs⟩ := ih hk
      refine ⟨x :: xs, ?_, .cons hr hrs⟩
      rw [List.mapM_cons, Sem.run_bind, hx, Result.andThen_ok, Sem.run_bind, hxs]
      rfl
    · cases e
theorem results_sound (h : Rel w0 N ρ s a w) (hv : View G ρ s a w) {fn : Func} {ps : List A} (e : resL P s fn.results.toList = some ps) {rs : List Ar} {p : List Prop} (hf : finAs P s ps = some (rs, p)) (hp : All p) :
    ∃ x, (results fn a.tmps).run P w = .ok x w ∧ resRel (endK ρ.k0 w0.heap.size w) rs x := by
  obtain ⟨xs, hx, hr⟩ := resL_sound hv e
  have hr' := finAs_rel h hf hp hr
  rw [results_eq, Array.mapM_eq_mapM_toList]
  simp only [Sem.run_bind, Sem.run_map, hx, Result.andThen_ok, Sem.run_pure]
  cases hr' with
  | nil => exact ⟨_, rfl, [], .nil, by simp⟩
  | cons r0 rs0 =>
    cases rs0 with
    | nil => exact ⟨_, rfl, r0⟩
    | cons r1 rs1 => exact ⟨_, rfl, _, .cons r0 (.cons r1 rs1), by simp⟩
end
section
variable (P : Program) (G : GT) (sg : FuncId → Option Sm) (an : An)
def agA : Ag → A
  | .c d => .c (toC d)
  | .agg ds => .agg (ds.map toC)
  | .ptr n F => .c (.ip n F)
  | .clo φ => .c (.clo φ)
def args0 (ags : List Ag) : S := ⟨fun t => match ags[t]? with | some g => some (.a (agA g)) | none => none, fun _ => none, fun _ => none⟩
/-- A function's ways. -/
def runFn (fuel : Nat) (fn : Func) (ags : List Ag) : T (List Ar) :=
  match fn.body with
  | some code => (exec G fn.ntmps an 0 (rx0 P G fn.ntmps sg fuel) rf0 fuel code (fun _ => true) 0 (args0 ags)).bind fun r => match r with
    | (.exit _, _, _) => .fail
    | (_, _, s) => (match resL P s fn.results.toList with
      | some ps => (match finAs P s ps with | some (rs, p) => T.needs p (.ret rs) | none => .fail)
      | none => .fail)
  | none => .fail
end
def dsEqv : List D → List D → Prop
  | [], [] => True
  | a :: l, b :: k => a.eqv b ∧ dsEqv l k
  | _, _ => False
theorem dsEqv_rel {κ : Still} : ∀ {ds ds' : List D} {xs : List Value}, dsEqv ds ds' → F2 (D.rel κ) ds xs → F2 (D.rel κ) ds' xs
  | [], [], _, _, r => r
  | a :: l, b :: k, _, h, .cons r rs => .cons (D.eqv_rel h.1 r) (dsEqv_rel h.2 rs)
  | [], _ :: _, _, h, _ => h.elim
  | _ :: _, [], _, h, _ => h.elim
def Ar.eqv : Ar → Ar → Prop
  | .c d, .c d' => d.eqv d'
  | .agg ds, .agg ds' => dsEqv ds ds'
  | _, _ => False
theorem Ar.eqv_rel {κ : Still} {d d' : Ar} {x : Value} (h : d.eqv d') (r : d.rel κ x) : d'.rel κ x := by
  cases d <;> cases d' <;> first | exact h.elim | skip
  · exact D.eqv_rel h r
  · obtain ⟨xs, hf, e⟩ := r; exact ⟨xs, dsEqv_rel h hf, e⟩
def rsEqv : List Ar → List Ar → Prop
  | [], [] => True
  | a :: l, b :: k => a.eqv b ∧ rsEqv l k
  | _, _ => False
theorem rsEqv_f2 {κ : Still} : ∀ {ds ds' : List Ar} {xs : List Value}, rsEqv ds ds' → F2 (Ar.rel κ) ds xs → F2 (Ar.rel κ) ds' xs
  | [], [], _, _, r => r
  | a :: l, b :: k, _, h, .cons r rs => .cons (Ar.eqv_rel h.1 r) (rsEqv_f2 h.2 rs)
  | [], _ :: _, _, h, _ => h.elim
  | _ :: _, [], _, h, _ => h.elim
theorem rsEqv_rel {κ : Still} {rs rs' : List Ar} {x : Value} (h : rsEqv rs rs') (r : resRel κ rs x) : resRel κ rs' x := by
  match rs, rs', h, r with
  | [], [], _, r => exact r
  | [a], [b], h, r => exact Ar.eqv_rel h.1 r
  | a :: b :: l, a' :: b' :: l', h, ⟨ys, hf, e⟩ => exact ⟨ys, rsEqv_f2 h hf, e⟩
section
variable {P : Program} {G : GT} {gw : World → Prop} {sg : FuncId → Option Sm} {an : An}
theorem agA_rel {ρ : Ren} (hcl : ∀ φ x, CloOK P gw ρ.κ φ x → ρ.cl φ x) {g : Ag} {x : Value} (h : g.rel P gw ρ.κ x) : (agA g).rel ρ x := by
  cases g with
  | c d => exact toC_rel h
  | agg ds => obtain ⟨xs, hf, e⟩ := h; exact ⟨xs, f2_toC hf, e⟩
  | ptr n F => exact h
  | clo φ => exact ⟨hcl φ x h, by obtain ⟨f, caps, e, _⟩ := h; exact ⟨f, caps, e⟩⟩
theorem agA_f2 {ρ : Ren} (hcl : ∀ φ x, CloOK P gw ρ.κ φ x → ρ.cl φ x) : ∀ {gs : List Ag} {xs : List Value}, F2 (Ag.rel P gw ρ.κ) gs xs → F2 (A.rel ρ) (gs.map agA) xs
  | _, _, .nil => .nil
  | _, _, .cons r rs => .cons (agA_rel hcl r) (agA_f2 hcl rs)
/-- A mark taken: its block is shut. -/
theorem taken {N : Nat} {w0 : World} {ρ : Ren} {s : S} {a : Act} {w : World} (h : Rel w0 N ρ s a w) {D : Nat} {Ds : List Nat} (hd : a.defers = (D :: Ds).map (fun D => ({ target := .collected D, args := #[] } : Deferred))) :
    ∃ w', (Instr.takeDeferred D).run P w = .ok [] w' ∧ Rel w0 N ρ s { a with defers := Ds.map (fun D => { target := .collected D, args := #[] }) } w' := by
  obtain ⟨Es, h1, h2, h3⟩ := h.df
  have hinj : ∀ {l k : List Nat}, l.map (fun D => ({ target := .collected D, args := #[] } : Deferred)) = k.map (fun D => { target := .collected D, args := #[] }) → l = k := by
    intro l
    induction l with
    | nil => intro k h; cases k with | nil => rfl | cons x k => cases h
    | cons y l ih =>
      intro k h
      cases k with
      | nil => cases h
      | cons x k =>
        simp only [List.map_cons, List.cons.injEq, Deferred.mk.injEq, Target.collected.injEq, and_true] at h
        rw [h.1, ih h.2]
  have he : Es = D :: Ds := hinj (h1.symm.trans hd)
  subst he
  obtain ⟨g1, g2⟩ := h3 D (List.mem_cons_self ..)
  have hlt : D < w.heap.size := (Array.getElem?_eq_some_iff.1 g2).1
  refine ⟨{ w with heap := w.heap.setIfInBounds D (.deferred none) }, ?_, ?_⟩
  · simp [Instr.takeDeferred, getObj, setObj, Sem.run, g2]
  have hother : ∀ i, i ≠ D → (w.heap.setIfInBounds D (.deferred none))[i]? = w.heap[i]? := fun i hi => by simp [Array.getElem?_setIfInBounds, Ne.symm hi]
  have hcell : ∀ b o v, w.cell? ⟨b, o, none⟩ = some v → World.cell? { w with heap := w.heap.setIfInBounds D (.deferred none) } ⟨b, o, none⟩ = some v := by
    intro b o v hv
    have hb : b ≠ D := by
      intro e
      subst e
      simp [World.cell?, g2] at hv
    rw [World.cell?_of_block (w := w) (by exact hother b hb)]; exact hv
  refine ⟨h.sz, h.bel.trans ⟨rfl, rfl, rfl, by simp, fun i hi => hother i (by omega)⟩, ⟨Ds, rfl, (List.nodup_cons.1 h2).2, fun E hE => ?_⟩, h.tm, h.dom, ?_, h.inj, ?_, h.dis, h.old, fun b o hb => ?_, fun k l r hk => ?_, fun d E hd2 ht => ?_⟩
  · have hne : E ≠ D := fun e => (List.nodup_cons.1 h2).1 (e ▸ hE)
    exact ⟨(h3 E (List.mem_cons_of_mem _ hE)).1, (hother E hne).trans (h3 E (List.mem_cons_of_mem _ hE)).2⟩
  · intro m k hm
    obtain ⟨b, i1, i2, i3, i4⟩ := h.hp m k hm
    refine ⟨b, i1, by simpa using i2, ?_, i4⟩
    cases hk : k.own with
    | false => exact Blk.rel_mono' (Ren.le_refl _) hk i3
    | true =>
      obtain ⟨xs, e, hx⟩ := Blk.own_cells hk i3
      have hne : b.1 ≠ D := by intro e; rw [e, g2] at hx; cases hx
      exact Blk.rel_mono (Ren.le_refl _) (hother _ hne) i3
  · intro b o v hv
    obtain ⟨j1, j2⟩ := h.im b o v hv
    exact ⟨by simpa using j1, hcell b o v j2⟩
  · obtain ⟨j1, j2⟩ := h.fx b o hb
    have hne : b ≠ D := by
      intro e
      have := h.dfx { target := .collected D, args := #[] } D (by rw [hd]; exact List.mem_cons_self ..) rfl
      rw [e, this] at hb; cases hb
    exact ⟨j1, (hother b hne).trans j2⟩
  · have j := h.lp k l r hk
    have hne : l ≠ D := by
      intro e
      rw [e, g2] at j
      have := lpObj_loop r (s.st k)
      obtain ⟨q, hq⟩ := this
      rw [hq] at j; cases j
    exact (hother l hne).trans j
  · exact h.dfx d E (by rw [hd]; exact List.mem_cons_of_mem _ hd2) ht
/-- THE RUN OF A FUNCTION, out of its tree. -/
theorem fn_sound (E : Env P G sg gw) {f : FuncId} {fn : Func} (hf : P.funcs[f]? = some fn) {fuel : Nat} {ags : List Ag} {xs : List Value} {w : World} {κ : Still} {r : List Ar}
    (hgw : gw w) (hl : Lies κ w) (hG : GIn G κ) (hx : F2 (Ag.rel P gw κ) ags xs) (hlen : Nat.ble ags.length fn.ntmps = true)
    (h : (runFn P G sg an fuel fn ags).wp (fun rs => rsEqv rs r)) : Calls P f xs.toArray w (Back κ r w) := by
  unfold runFn at h
  split at h
  · rename_i code hb
    refine (callsIn_wide (n := 0)).1 (callsIn_of_wp_marks (F := Fence.wide) hf hb trivial ?_)
    have hlen' := Nat.le_of_ble_eq_true hlen
    have hxl := f2_len hx
    obtain ⟨ρ, hρ⟩ : ∃ ρ : Ren, ρ = { nm := fun _ => none, κ := κ, cl := fun φ x => CloOK P gw κ φ x, k0 := κ, fx := fun _ => none, lp := fun _ => none } := ⟨_, rfl⟩
    have hx' : F2 (A.rel ρ) (ags.map agA) xs := by
      refine agA_f2 ?_ (by rw [hρ]; exact hx)
      rw [hρ]; exact fun φ x h => h
    have hrel : Rel w fn.ntmps ρ (args0 ags) { tmps := xs.toArray ++ Array.replicate (fn.ntmps - xs.toArray.size) undef, defers := [] } w := by
      refine ⟨by simp; omega, Below.refl _ _, ⟨[], rfl, List.nodup_nil, fun D hD => by cases hD⟩, ?_, ?_, ?_, ?_, ?_, ?_, ?_, by rw [hρ]; exact fun b o hb => (by cases hb), by rw [hρ]; exact fun k l r hk => (by cases hk), fun d D hd => (by cases hd)⟩
      · intro t v ht
        simp only [args0] at ht
        split at ht
        · rename_i g hg
          simp only [Option.some.injEq] at ht; subst ht
          have hg' : (ags.map agA)[t]? = some (agA g) := by simp [hg]
          obtain ⟨x, hxt, hr⟩ := f2_get hx' hg'
          have hlt : t < xs.length := (List.getElem?_eq_some_iff.1 hxt).1
          refine ⟨by omega, ?_⟩
          rw [Array.getD_eq_getD_getElem?, Array.getElem?_append, if_pos (by simpa using hlt)]
          simp only [List.getElem?_toArray, hxt, Option.getD_some]
          exact hr
        · cases ht
      · intro m hm; rw [hρ]
      · intro m k hm; simp [args0] at hm
      · intro m m' k k' b b' hm; simp [args0] at hm
      · rw [hρ]; exact hl
      · intro m k b o hm; simp [args0] at hm
      · intro b o v hv _; rw [hρ] at hv ⊢; exact hv
    have hamb : Amb P G gw ρ := by
      refine ⟨fun g n F e => ⟨⟨g, 0, none⟩, rfl, rfl, ?_⟩, ?_⟩
      · rw [hρ]; exact hG g n F e
      · rw [hρ]; exact fun φ x h => h
    refine wpIn_mono (exec_sound (rr := none) (xok0 E hgw) fuel code hrel ⟨hamb, by rw [hρ]; exact fun k l r hk => by cases hk⟩ (Nat.zero_le _) (T.wp_bind h)) ?_
    have fin : ∀ (s : S) (ρ' : Ren), ρ.up 0 ρ' → (match resL P s fn.results.toList with | some ps => (match finAs P s ps with | some (rs, p) => T.needs p (.ret rs) | none => T.fail) | none => T.fail).wp (fun rs => rsEqv rs r) →
        ∀ (Ds : List Nat) (a' : Act) (w' : World), a'.defers = Ds.map (fun D => { target := .collected D, args := #[] }) → Rel w fn.ntmps ρ' s a' w' → LeavesInM Fence.wide 0 P fn a'.tmps (Back κ r w) a'.defers .returning w' := by
      intro s ρ' hle hr Ds
      have hk0 : ρ'.k0 = κ := by rw [hle.k0, hρ]
      induction Ds with
      | nil =>
        intro a' w' hd hrel'
        rw [hd]
        split at hr
        · rename_i ps hps
          split at hr
          · rename_i rs p hrs
            obtain ⟨hp, heq⟩ := T.wp_needs hr
            have hview : View G ρ' s a' w' := ⟨fun t v ht => (hrel'.tm t v ht).2, fun m k hk => by obtain ⟨b, h1, h2, h3, _⟩ := hrel'.hp m k hk; exact ⟨b, h1, h2, h3⟩, hrel'.im, (hamb.up hle).gl⟩
            obtain ⟨x, hx1, hx2⟩ := results_sound hrel' hview hps hrs hp
            rw [hk0] at hx2
            refine ⟨x, hx1, x, endK κ w.heap.size w', rfl, ?_, ?_, ?_, rsEqv_rel heq hx2, hrel'.bel⟩
            · intro b o v hv
              have hlt := (hl b o v hv).1
              unfold endK
              rw [if_neg (by omega)]; exact hv
            · intro b o v hv
              unfold endK at hv
              split at hv
              · split at hv
                · rename_i hlt; exact ⟨hlt, hv⟩
                · cases hv
              · exact lies_back (κ' := κ) hl hrel'.bel b o v hv
            · intro b o v hv
              unfold endK at hv
              split at hv
              · rename_i hge; exact .inr hge
              · exact .inl hv
          · exact hr.elim
        · exact hr.elim
      | cons D Ds ih =>
        intro a' w' hd hrel'
        rw [hd]
        obtain ⟨w2, htake, hrel2⟩ := taken (P := P) hrel' hd
        refine ⟨by simp, .inl ⟨D, w2, rfl, htake, ?_⟩⟩
        have := ih { a' with defers := Ds.map (fun D => { target := .collected D, args := #[] }) } w2 rfl hrel2
        exact this
    intro e a' w' hc
    cases e <;> simp only [CP, bodyPostM] at hc ⊢
    case normal =>
      obtain ⟨c', s', ρ', hr, hrel', hle⟩ := hc
      obtain ⟨Ds, hDs, _⟩ := hrel'.df
      exact fin s' ρ' hle hr Ds a' w' hDs hrel'
    case ret =>
      obtain ⟨c', s', ρ', hr, hrel', hle⟩ := hc
      obtain ⟨Ds, hDs, _⟩ := hrel'.df
      exact fin s' ρ' hle hr Ds a' w' hDs hrel'
    case exit id => obtain ⟨c', s', ρ', hr, hrel', hle⟩ := hc; exact hr.elim
  · exact h.elim
end
end Go.V
end
section
set_option linter.unusedVariables false
set_option linter.unusedSimpArgs false
namespace Go.V
open Go.RowKit (Below)
def D.val : D → Option Value
  | .int k n => some (.int k n)
  | .bool b => some (.bool b)
  | .str s => some (.string s)
  | _ => none
def dVals : List D → Option (List Value)
  | [] => some []
  | d :: l => match d.val, dVals l with | some v, some r => some (v :: r) | _, _ => none
/-- Arguments of the first engine: cells and structs. -/
def gOf : List Eng.Shp → List Ag → Option (List (List Value))
  | [], [] => some []
  | .c :: sh, .c d :: l => (match d.val, gOf sh l with | some v, some r => some ([v] :: r) | _, _ => none)
  | .agg :: sh, .agg ds :: l => (match dVals ds, gOf sh l with | some v, some r => some (v :: r) | _, _ => none)
  | _, _ => none
def dC : Eng.C → Option D
  | .num k n => some (.int k n)
  | .int k n => some (.int k n)
  | .lit b => some (.bool b)
  | .bool b => some (.bool b)
  | .str s => some (.str s)
  | _ => none
def dCs : List Eng.C → Option (List D)
  | [] => some []
  | c :: l => match dC c, dCs l with | some v, some r => some (v :: r) | _, _ => none
def arA : Eng.A → Option Ar
  | .c c => (match dC c with | some d => some (.c d) | none => none)
  | .agg cs => (match dCs cs with | some ds => some (.agg ds) | none => none)
def arAs : List Eng.A → Option (List Ar)
  | [] => some []
  | c :: l => match arA c, arAs l with | some v, some r => some (v :: r) | _, _ => none
def arV : Eng.V → Option (List Ar)
  | .a y => (match arA y with | some r => some [r] | none => none)
  | .tup (y :: z :: l) => arAs (y :: z :: l)
  | _ => none
/-- The contract's domain. -/
def bdom (sh : List Eng.Shp) (dom : Eng.DomG) : DomF := fun ags =>
  match gOf sh ags with
  | some gs => (match dom gs with
    | some (p, v) => (match arV v with | some r => some (p, r) | none => none)
    | none => none)
  | none => none
theorem all_iff : ∀ {l : List Prop}, All l → Eng.All l
  | [], _ => trivial
  | _ :: _, h => ⟨h.1, all_iff h.2⟩
section
variable {P : Program} {G : GT} {gw : World → Prop} {κ : Still} {ρ : Eng.Ren}
theorem dval_rel {d : D} {v x : Value} (h : d.val = some v) (r : d.rel κ x) : x = v := by
  cases d <;> simp only [D.val, Option.some.injEq, reduceCtorEq] at h <;> simp only [D.rel] at r <;> rw [r, h]
theorem dvals_rel : ∀ {ds : List D} {vs xs : List Value}, dVals ds = some vs → F2 (D.rel κ) ds xs → xs = vs
  | [], vs, _, h, .nil => by simp [dVals] at h; exact h.symm
  | d :: l, vs, _, h, .cons r rs => by
    simp only [dVals] at h
    split at h
    · rename_i v k hv hk
      simp only [Option.some.injEq] at h; subst h
      rw [dval_rel hv r, dvals_rel hk rs]
    · cases h
theorem gOf_rel {w : World} : ∀ {sh : List Eng.Shp} {ags : List Ag} {gs : List (List Value)} {xs : List Value}, gOf sh ags = some gs → F2 (Ag.rel P gw κ) ags xs → Eng.GRel w sh gs xs
  | [], [], gs, _, h, .nil => by simp [gOf] at h; subst h; exact .nil
  | .c :: sh, .c d :: l, gs, _, h, .cons r rs => by
    simp only [gOf] at h
    split at h
    · rename_i v k hv hk
      simp only [Option.some.injEq] at h; subst h
      rw [dval_rel hv r]
      exact .c (gOf_rel hk rs)
    · cases h
  | .agg :: sh, .agg ds :: l, gs, _, h, .cons r rs => by
    simp only [gOf] at h
    split at h
    · rename_i v k hv hk
      simp only [Option.some.injEq] at h; subst h
      obtain ⟨ys, hf, rfl⟩ := r
      rw [dvals_rel hv hf]
      exact .agg (gOf_rel hk rs)
    · cases h
  | [], _ :: _, _, _, h, _ => by simp [gOf] at h
  | _ :: _, [], _, _, h, _ => by simp [gOf] at h
  | .c :: _, .agg _ :: _, _, _, h, _ => by simp [gOf] at h
  | .c :: _, .ptr _ _ :: _, _, _, h, _ => by simp [gOf] at h
  | .c :: _, .clo _ :: _, _, _, h, _ => by simp [gOf] at h
  | .agg :: _, .c _ :: _, _, _, h, _ => by simp [gOf] at h
  | .agg :: _, .ptr _ _ :: _, _, _, h, _ => by simp [gOf] at h
  | .agg :: _, .clo _ :: _, _, _, h, _ => by simp [gOf] at h
  | .ptr :: _, _ :: _, _, _, h, _ => by simp [gOf] at h
  | .sl :: _, _ :: _, _, _, h, _ => by simp [gOf] at h
theorem dC_rel {c : Eng.C} {d : D} {x : Value} (h : dC c = some d) (r : c.rel ρ x) : d.rel κ x := by
  cases c <;> simp only [dC, Option.some.injEq, reduceCtorEq] at h <;> subst h <;> exact r
theorem dCs_rel : ∀ {cs : List Eng.C} {ds : List D} {xs : List Value}, dCs cs = some ds → Eng.F2 (Eng.C.rel ρ) cs xs → F2 (D.rel κ) ds xs
  | [], ds, _, h, .nil => by simp [dCs] at h; subst h; exact .nil
  | c :: l, ds, _, h, .cons r rs => by
    simp only [dCs] at h
    split at h
    · rename_i v k hv hk
      simp only [Option.some.injEq] at h; subst h
      exact .cons (dC_rel hv r) (dCs_rel hk rs)
    · cases h
theorem arA_rel {y : Eng.A} {r : Ar} {x : Value} (h : arA y = some r) (hr : y.rel ρ x) : r.rel κ x := by
  cases y with
  | c c =>
    simp only [arA] at h
    split at h
    · rename_i d hd; simp only [Option.some.injEq] at h; subst h; exact dC_rel hd hr
    · cases h
  | agg cs =>
    simp only [arA] at h
    split at h
    · rename_i d hd
      simp only [Option.some.injEq] at h; subst h
      obtain ⟨xs, hf, e⟩ := hr
      exact ⟨xs, dCs_rel hd hf, e⟩
    · cases h
theorem arAs_rel : ∀ {cs : List Eng.A} {ds : List Ar} {xs : List Value}, arAs cs = some ds → Eng.F2 (Eng.A.rel ρ) cs xs → F2 (Ar.rel κ) ds xs
  | [], ds, _, h, .nil => by simp [arAs] at h; subst h; exact .nil
  | c :: l, ds, _, h, .cons r rs => by
    simp only [arAs] at h
    split at h
    · rename_i v k hv hk
      simp only [Option.some.injEq] at h; subst h
      exact .cons (arA_rel hv r) (arAs_rel hk rs)
    · cases h
theorem arV_rel {v : Eng.V} {r : List Ar} {x : Value} (h : arV v = some r) (hr : v.rel ρ x) : resRel κ r x := by
  unfold arV at h
  split at h
  · split at h
    · rename_i y r' hr'
      simp only [Option.some.injEq] at h; subst h
      exact arA_rel hr' hr
    · cases h
  · rename_i y z l
    obtain ⟨ys, hf, e⟩ := hr
    have h2 := arAs_rel (κ := κ) h hf
    have h3 : ∃ r0 r1 rs, r = r0 :: r1 :: rs := by
      cases h2 with
      | nil => cases hf
      | cons r0 rs0 =>
        cases rs0 with
        | cons r1 rs1 => exact ⟨_, _, _, rfl⟩
        | nil => cases hf with | cons _ t => cases t
    obtain ⟨r0, r1, rs, rfl⟩ := h3
    exact ⟨ys, h2, e⟩
  · cases h
theorem bridge {f : FuncId} {sh : List Eng.Shp} {dom : Eng.DomG} (h : Eng.GOK P gw f sh dom) : FOK P G gw f (bdom sh dom) := by
  intro ags p r hd hp κ w xs hgw hl hG hx
  unfold bdom at hd
  split at hd
  · rename_i gs hgs
    split at hd
    · rename_i p' v hdv
      split at hd
      · rename_i r' hr
        simp only [Option.some.injEq, Prod.mk.injEq] at hd
        obtain ⟨rfl, rfl⟩ := hd
        refine (h gs p' v hdv (all_iff hp) w xs hgw (gOf_rel hgs hx)).mono ?_
        rintro e w' ⟨x, rfl, hv, hb⟩
        exact ⟨x, κ, rfl, fun _ _ _ h => h, lies_back (κ' := κ) hl hb, fun b o v h => .inl h, arV_rel hr (hv fun _ => none), hb⟩
      · cases hd
    · cases hd
  · cases hd
end
end Go.V
end
section
set_option linter.unusedVariables false
set_option linter.unusedSimpArgs false
namespace Go.V
open Go.RowKit (Below)
theorem dsEqv_refl : ∀ (ds : List D), dsEqv ds ds
  | [] => trivial
  | d :: l => ⟨d.eqv_refl, dsEqv_refl l⟩
theorem Ar.eqv_refl (r : Ar) : r.eqv r := by
  cases r with
  | c d => exact d.eqv_refl
  | agg ds => exact dsEqv_refl ds
theorem rsEqv_refl : ∀ (rs : List Ar), rsEqv rs rs
  | [] => trivial
  | r :: l => ⟨r.eqv_refl, rsEqv_refl l⟩
variable {α : Type}
theorem Enc.list_F (E : Enc α) (l : List α) : E.list l.length (E.F l) = l := by
  apply List.ext_getElem
  · simp [Enc.list]
  · intro i h1 h2
    simp [Enc.list, Enc.F, E.law, h2]
theorem Enc.is_F (E : Enc α) (l : List α) (len : Nat) : E.Is len (E.F l) := by
  intro i j _ _
  simp only [Enc.F, E.law]
  exact D.eqv_refl _
/-- One list behind another one. -/
theorem Enc.join (E : Enc α) {q q' : Bool} (hq : q' = true → q = true) {l k : List α} {n : Nat} {F : Nat → Nat → D} (hn : n = k.length) (hF : ∀ i j, i < n → j < E.st → (F i j).eqv (E.enc (k.getD i E.dflt) j)) :
    (D.sl q (l.length + n) E.st (joinF l.length (E.F l) F)).eqv (.sl q' (l ++ k).length E.st (E.F (l ++ k))) := by
  subst hn
  refine ⟨hq, by simp, fun _ => rfl, fun i j hi hj => ?_⟩
  by_cases hlt : i < l.length
  · have hb : Nat.blt i l.length = true := by rw [Nat.blt_eq]; exact hlt
    have e1 : (l ++ k).getD i E.dflt = l.getD i E.dflt := by simp [List.getElem?_append_left hlt]
    simp only [joinF, hb, Enc.F, e1]
    exact D.eqv_refl _
  · have hb : Nat.blt i l.length = false := by rw [← Bool.not_eq_true, Nat.blt_eq]; exact hlt
    have e1 : (l ++ k).getD i E.dflt = k.getD (i - l.length) E.dflt := by simp [List.getElem?_append_right (by omega : l.length ≤ i)]
    simp only [joinF, hb, Enc.F, e1]
    exact hF _ _ (by omega) hj
/-- One element behind a list. -/
theorem Enc.push (E : Enc α) {l : List α} {a : α} {G : Nat → Nat → D} (hj : ∀ j, j < E.st → (G 0 j).eqv (E.enc a j)) (hr : E.rd (G 0) = a) : E.Is (l.length + 1) (joinF l.length (E.F l) G) ∧ E.list (l.length + 1) (joinF l.length (E.F l) G) = l ++ [a] := by
  have hlt : ∀ i, i < l.length → joinF l.length (E.F l) G i = E.F l i := by
    intro i hi
    funext j
    have hb : Nat.blt i l.length = true := by rw [Nat.blt_eq]; exact hi
    simp only [joinF, hb]
  have heq : joinF l.length (E.F l) G l.length = G 0 := by
    funext j
    have hb : Nat.blt l.length l.length = false := by rw [← Bool.not_eq_true, Nat.blt_eq]; omega
    simp only [joinF, hb, Nat.sub_self]
  constructor
  · intro i j hi hj'
    rcases Nat.lt_or_ge i l.length with h | h
    · rw [hlt i h]; exact E.is_F l (l.length) i j h hj'
    · obtain rfl : i = l.length := by omega
      rw [heq, hr]; exact hj j hj'
  · apply List.ext_getElem
    · simp [Enc.list]
    · intro i h1 h2
      have hi : i < l.length + 1 := by simpa [Enc.list] using h1
      simp only [Enc.list, List.getElem_map, List.getElem_range]
      rcases Nat.lt_or_ge i l.length with h | h
      · rw [hlt i h]; simp only [Enc.F, E.law, List.getElem_append_left h]; simp [h]
      · obtain rfl : i = l.length := by omega
        rw [heq, hr]; simp
def Ag.eqv : Ag → Ag → Prop
  | .c d, .c d' => d.eqv d'
  | .agg ds, .agg ds' => dsEqv ds ds'
  | .ptr n F, .ptr n' F' => n = n' ∧ ∀ j, j < n → (F j).eqv (F' j)
  | .clo φ, .clo φ' => φ = φ'
  | _, _ => False
def agsEqv : List Ag → List Ag → Prop
  | [], [] => True
  | a :: l, b :: k => a.eqv b ∧ agsEqv l k
  | _, _ => False
section
variable {P : Program} {G : GT} {gw : World → Prop}
theorem Ag.eqv_rel {κ : Still} {a b : Ag} {x : Value} (h : a.eqv b) (r : a.rel P gw κ x) : b.rel P gw κ x := by
  cases a <;> cases b <;> first | exact h.elim | skip
  · exact D.eqv_rel h r
  · obtain ⟨xs, hf, e⟩ := r; exact ⟨xs, dsEqv_rel h hf, e⟩
  · obtain ⟨rfl, h⟩ := h
    obtain ⟨ad, h1, h2, h3⟩ := r
    exact ⟨ad, h1, h2, fun j hj => by obtain ⟨y, hy, hr⟩ := h3 j hj; exact ⟨y, hy, D.eqv_rel (h j hj) hr⟩⟩
  · simp only [Ag.eqv] at h; subst h; exact r
theorem agsEqv_rel {κ : Still} : ∀ {az bs : List Ag} {xs : List Value}, agsEqv az bs → F2 (Ag.rel P gw κ) az xs → F2 (Ag.rel P gw κ) bs xs
  | [], [], _, _, r => r
  | a :: l, b :: k, _, h, .cons r rs => .cons (Ag.eqv_rel h.1 r) (agsEqv_rel h.2 rs)
  | [], _ :: _, _, h, _ => h.elim
  | _ :: _, [], _, h, _ => h.elim
theorem Ag.eqv_refl (a : Ag) : a.eqv a := by
  cases a with
  | c d => exact d.eqv_refl
  | agg ds => exact dsEqv_refl ds
  | ptr n F => exact ⟨rfl, fun j _ => D.eqv_refl _⟩
  | clo φ => rfl
theorem agsEqv_refl : ∀ (l : List Ag), agsEqv l l
  | [] => trivial
  | a :: l => ⟨a.eqv_refl, agsEqv_refl l⟩
/-- THE END of a contract's proof. -/
theorem fok_fin {sl : List (Nat × Sm)} (hmix : P.follows .mixedOrders = true) (hst : ∀ w w', gw w → Below w.heap.size w w' → gw w') (hS : AllS P G gw sl) {an : An} {f : FuncId} {fn : Func} (hf : P.funcs[f]? = some fn) {fuel : Nat} {ags ags' : List Ag} {xs : List Value} {w : World} {κ : Still} {r : List Ar} {t : T (List Ar)}
    (hgw : gw w) (hl : Lies κ w) (hG : GIn G κ) (hx : F2 (Ag.rel P gw κ) ags xs) (heq : agsEqv ags ags') (hlen : Nat.ble ags'.length fn.ntmps = true)
    (ht : runFn P G (lookS sl) an fuel fn ags' = t) (h : t.wp (fun rs => rsEqv rs r)) : Calls P f xs.toArray w (Back κ r w) :=
  fn_sound ⟨hmix, fun f σ hs => lookS_ok hS f σ hs, hst⟩ hf hgw hl hG (agsEqv_rel heq hx) hlen (by rw [ht]; exact h)
end
end Go.V
end
end

section
set_option linter.unusedVariables false
set_option linter.unusedSimpArgs false
section
set_option linter.unusedVariables false
set_option linter.unusedSimpArgs false
namespace Go.V
open Go.RowKit (Below)
section
variable {ρ : Ren} {f : Nat → Option Obj}
theorem crel_fx : C.rel { ρ with fx := f } = C.rel ρ := by
  funext c x
  cases c <;> rfl
theorem arel_fx : A.rel { ρ with fx := f } = A.rel ρ := by
  funext c x
  cases c with
  | c y => exact congrFun (congrFun crel_fx y) x
  | agg cs => simp only [A.rel, crel_fx]
theorem vrel_fx : V.rel { ρ with fx := f } = V.rel ρ := by
  funext c x
  cases c with
  | a y => exact congrFun (congrFun arel_fx y) x
  | tup cs => simp only [V.rel, arel_fx]
theorem brel_fx {b : Nat × Nat} {w : World} {k : Blk} : Blk.rel { ρ with fx := f } b w k = Blk.rel ρ b w k := by
  cases k <;> simp only [Blk.rel, crel_fx]
end
/-- A result as a slot's content. -/
def vOfA : List A → V
  | [a] => .a a
  | l => .tup l
/-- A callee's state: its arguments on the caller's heap. -/
def argsS (args : List A) (s : S) : S := { s with tm := fun t => match args[t]? with | some g => some (.a g) | none => none }
/-- A call that is carried out on the caller's heap. -/
def callT (P : Program) (N : Nat) (ex : Code → (Nat → Bool) → Nat → S → T St3) (fn : Func) (args : List A) (wk : Nat → Bool) (c : Nat) (s : S) : T (V × Nat × S) :=
  match fn.body, keepT s c [] N && Nat.ble args.length fn.ntmps with
  | some code, true => (ex code wk c (argsS args s)).bind fun r => match r with
    | (.exit _, _, _) => .fail
    | (_, c', s') => (match resL P s' fn.results.toList with
      | some ps => .ret (vOfA ps, c', { s' with tm := s.tm })
      | none => .fail)
  | _, _ => .fail
section
variable {P : Program} {G : GT} {N : Nat} {gw : World → Prop} {w0 : World} {lv : Nat}
end
end Go.V
end
section
set_option linter.unusedVariables false
set_option linter.unusedSimpArgs false
namespace Go.V
open Go.RowKit (Below)
/-- The renaming with other fixed objects and other loops. -/
def Ren.lps (ρ : Ren) (f : Nat → Option Obj) (l : Nat → Option (Nat × Loop)) : Ren := { ρ with fx := f, lp := l }
section
variable {ρ : Ren} {f : Nat → Option Obj} {lp' : Nat → Option (Nat × Loop)} {w : World}
/-- Of no yield of level k. -/
def C.noYl (k : Nat) : C → Bool
  | .yl j => !Nat.beq j k
  | _ => true
theorem crel_lps {k : Nat} (h : ∀ j p, j ≠ k → ρ.lp j = some p → lp' j = some p) {c : C} {x : Value} (hc : c.noYl k = true) (r : c.rel ρ x) : c.rel (ρ.lps f lp') x := by
  cases c with
  | yl j =>
    obtain ⟨l, q, e, hx⟩ := r
    refine ⟨l, q, h j _ ?_ e, hx⟩
    intro e; subst e
    simp [C.noYl] at hc
  | _ => exact r
theorem f2_lps {k : Nat} (h : ∀ j p, j ≠ k → ρ.lp j = some p → lp' j = some p) : ∀ {cs : List C} {xs : List Value}, cs.all (C.noYl k) = true → F2 (C.rel ρ) cs xs → F2 (C.rel (ρ.lps f lp')) cs xs
  | _, _, _, .nil => .nil
  | _, _, hc, .cons r rs => by
    simp only [List.all_cons, Bool.and_eq_true] at hc
    exact .cons (crel_lps h hc.1 r) (f2_lps h hc.2 rs)
theorem brel_lps {k : Nat} (h : ∀ j p, j ≠ k → ρ.lp j = some p → lp' j = some p) {b : Nat × Nat} {y : Blk} (hc : ∀ e cs, y = .known e cs → cs.all (C.noYl k) = true) (r : y.rel ρ b w) : y.rel (ρ.lps f lp') b w := by
  cases y with
  | known e cs => obtain ⟨xs, h1, h2⟩ := r; exact ⟨xs, f2_lps h (hc e cs rfl) h1, h2⟩
  | row => exact r
  | fz => exact r
  | dead => trivial
/-- With more loops. -/
theorem crel_more (h : ∀ j p, ρ.lp j = some p → lp' j = some p) {c : C} {x : Value} (r : c.rel ρ x) : c.rel (ρ.lps f lp') x := by
  cases c with
  | yl j => obtain ⟨l, q, e, hx⟩ := r; exact ⟨l, q, h j _ e, hx⟩
  | _ => exact r
theorem f2_more (h : ∀ j p, ρ.lp j = some p → lp' j = some p) : ∀ {cs : List C} {xs : List Value}, F2 (C.rel ρ) cs xs → F2 (C.rel (ρ.lps f lp')) cs xs
  | _, _, .nil => .nil
  | _, _, .cons r rs => .cons (crel_more h r) (f2_more h rs)
theorem arel_more (h : ∀ j p, ρ.lp j = some p → lp' j = some p) {y : A} {x : Value} (r : y.rel ρ x) : y.rel (ρ.lps f lp') x := by
  cases y with
  | c c => exact crel_more h r
  | agg cs => obtain ⟨xs, h1, h2⟩ := r; exact ⟨xs, f2_more h h1, h2⟩
theorem af2_more (h : ∀ j p, ρ.lp j = some p → lp' j = some p) : ∀ {cs : List A} {xs : List Value}, F2 (A.rel ρ) cs xs → F2 (A.rel (ρ.lps f lp')) cs xs
  | _, _, .nil => .nil
  | _, _, .cons r rs => .cons (arel_more h r) (af2_more h rs)
theorem vrel_more (h : ∀ j p, ρ.lp j = some p → lp' j = some p) {y : V} {x : Value} (r : y.rel ρ x) : y.rel (ρ.lps f lp') x := by
  cases y with
  | a y => exact arel_more h r
  | tup cs => obtain ⟨xs, h1, h2⟩ := r; exact ⟨xs, af2_more h h1, h2⟩
theorem brel_more (h : ∀ j p, ρ.lp j = some p → lp' j = some p) {b : Nat × Nat} {y : Blk} (r : y.rel ρ b w) : y.rel (ρ.lps f lp') b w := by
  cases y with
  | known e cs => obtain ⟨xs, h1, h2⟩ := r; exact ⟨xs, f2_more h h1, h2⟩
  | row => exact r
  | fz => exact r
  | dead => trivial
end
/-- Blocks that hold a yield of level k are given up. -/
def cleanH (k : Nat) (hp : Nat → Option Blk) : Nat → Option Blk := fun m => match hp m with
  | some (.known e cs) => (match cs.all (C.noYl k) with | true => some (.known e cs) | false => some .dead)
  | x => x
def cleanOk (k c : Nat) (hp : Nat → Option Blk) : Bool := (List.range c).all fun m => match hp m with
  | some (.known _ cs) => cs.all (C.noYl k)
  | _ => true
theorem cleanH_of {k m : Nat} {hp : Nat → Option Blk} {y : Blk} (h : cleanH k hp m = some y) : ∃ y0, hp m = some y0 ∧ (y = .dead ∨ (y = y0 ∧ ∀ e cs, y0 = .known e cs → cs.all (C.noYl k) = true)) := by
  unfold cleanH at h
  split at h
  · rename_i e cs hm
    split at h
    · rename_i hc
      cases h
      exact ⟨_, hm, .inr ⟨rfl, fun e' cs' he => by cases he; exact hc⟩⟩
    · cases h; exact ⟨_, hm, .inl rfl⟩
  · rename_i x hn
    exact ⟨y, h, .inr ⟨rfl, fun e cs he => absurd (h.trans (by rw [he])) (hn e cs)⟩⟩
theorem cleanH_none {k m : Nat} {hp : Nat → Option Blk} (h : cleanH k hp m = none) : hp m = none := by
  unfold cleanH at h
  split at h
  · split at h <;> cases h
  · exact h
theorem cleanH_low {k c m : Nat} {hp : Nat → Option Blk} (h : cleanOk k c hp = true) (hm : m < c) : cleanH k hp m = hp m := by
  have := List.all_eq_true.1 h m (List.mem_range.2 hm)
  unfold cleanH
  split
  · rename_i e cs he
    rw [he] at this
    simp only at this
    rw [this, he]
  · rfl
section
variable {N : Nat} {w0 : World} {ρ : Ren} {s : S} {a : Act} {w : World}
/-- A loop over a function begins: its record and the block for deferred calls are laid. -/
theorem Rel.begin (h : Rel w0 N ρ s a w) {k : Nat} (hk : ρ.lp k = none) (hs : s.st k = none) (r : Loop) :
    Rel w0 N (ρ.lps ρ.fx (upd ρ.lp k (some (w.heap.size + 1, r)))) s { a with defers := { target := .collected w.heap.size, args := #[] } :: a.defers } ((w.alloc (.deferred (some []))).alloc (lpObj r none)) := by
  obtain ⟨W, hW⟩ : ∃ W, W = (w.alloc (.deferred (some []))).alloc (lpObj r none) := ⟨_, rfl⟩
  rw [← hW]
  have hsz : W.heap.size = w.heap.size + 2 := by rw [hW, World.size_alloc, World.size_alloc]
  have hold : ∀ i, i < w.heap.size → W.heap[i]? = w.heap[i]? := by
    intro i hi
    rw [hW]
    exact (Below.heap_alloc _ _ _ (by rw [World.size_alloc]; omega)).trans (Below.heap_alloc _ _ _ hi)
  have hD : W.heap[w.heap.size]? = some (.deferred (some [])) := by rw [hW]; exact (Below.heap_alloc _ _ _ (by rw [World.size_alloc]; omega)).trans (World.alloc_heap_new w _)
  have hl : W.heap[w.heap.size + 1]? = some (lpObj r none) := by rw [hW]; have := World.alloc_heap_new (w.alloc (.deferred (some []))) (lpObj r none); rwa [World.size_alloc] at this
  have hstay : ∀ (i : Nat) (o : Obj), w.heap[i]? = some o → W.heap[i]? = some o := fun i o hi => (hold i (Array.getElem?_eq_some_iff.1 hi).1).trans hi
  have more : ∀ j p, ρ.lp j = some p → upd ρ.lp k (some (w.heap.size + 1, r)) j = some p := by
    intro j p hj
    have : j ≠ k := fun e => by rw [e, hk] at hj; cases hj
    rw [upd_ne _ _ this]; exact hj
  refine ⟨h.sz, h.bel.trans ⟨by rw [hW]; rfl, by rw [hW]; rfl, by rw [hW]; rfl, by omega, fun i hi => hold i (Nat.lt_of_lt_of_le hi h.bel.size)⟩, ?_, ?_, h.dom, ?_, h.inj, ?_, h.dis, h.old, ?_, ?_, ?_⟩
  · obtain ⟨Ds, e1, e2, e3⟩ := h.df
    refine ⟨w.heap.size :: Ds, by simp [e1], List.nodup_cons.2 ⟨fun hm => ?_, e2⟩, fun D hDm => ?_⟩
    · have := (Array.getElem?_eq_some_iff.1 (e3 _ hm).2).1
      omega
    · rcases List.mem_cons.1 hDm with rfl | hDm
      · exact ⟨h.bel.size, hD⟩
      · exact ⟨(e3 D hDm).1, hstay D _ (e3 D hDm).2⟩
  · intro t v ht
    obtain ⟨g1, g2⟩ := h.tm t v ht
    exact ⟨g1, vrel_more more g2⟩
  · intro m y hm
    obtain ⟨b, g1, g2, g3, g4⟩ := h.hp m y hm
    exact ⟨b, g1, by omega, brel_more more (Blk.rel_mono (Ren.le_refl _) (hold _ g2) g3), g4⟩
  · intro b o v hv
    obtain ⟨g1, g2⟩ := h.im b o v hv
    exact ⟨by omega, (World.cell?_of_block (w := w) (hold b g1)).trans g2⟩
  · intro b o hb
    obtain ⟨g1, g2⟩ := h.fx b o hb
    exact ⟨g1, hstay b o g2⟩
  · intro j l q hj
    by_cases e : j = k
    · subst e
      have hj : upd ρ.lp j (some (w.heap.size + 1, r)) j = some (l, q) := hj
      rw [upd_same] at hj
      cases hj
      rw [hs]; exact hl
    · have hj : upd ρ.lp k (some (w.heap.size + 1, r)) j = some (l, q) := hj
      rw [upd_ne _ _ e] at hj
      exact hstay l _ (h.lp j l q hj)
  · intro d D hd ht
    rcases List.mem_cons.1 hd with rfl | hd
    · simp only [Target.collected.injEq] at ht
      subst ht
      cases hf : ρ.fx w.heap.size with
      | none => exact hf
      | some o =>
        have := (Array.getElem?_eq_some_iff.1 (h.fx _ o hf).2).1
        omega
    · exact h.dfx d D hd ht
/-- Where loops' records lie. -/
structure LpOK (w0 : World) (ρ : Ren) : Prop where
  fx : ∀ k l r, ρ.lp k = some (l, r) → ρ.fx l = none
  base : ∀ k l r, ρ.lp k = some (l, r) → w0.heap.size ≤ l
  inj : ∀ k j l r q, ρ.lp k = some (l, r) → ρ.lp j = some (l, q) → j = k
/-- A loop's record turns. -/
theorem Rel.turn (h : Rel w0 N ρ s a w) (hL : LpOK w0 ρ) {k l : Nat} {r : Loop} (hk : ρ.lp k = some (l, r)) (e : Option Ex) : Rel w0 N ρ { s with st := upd s.st k e } a (w.putObj l (lpObj r e)) := by
  have h0 := h.lp k l r hk
  have hlt : l < w.heap.size := (Array.getElem?_eq_some_iff.1 h0).1
  obtain ⟨q0, hq0⟩ := lpObj_loop r (s.st k)
  rw [hq0] at h0
  obtain ⟨W, hW⟩ : ∃ W, W = w.putObj l (lpObj r e) := ⟨_, rfl⟩
  rw [← hW]
  have hother : ∀ i, i ≠ l → W.heap[i]? = w.heap[i]? := fun i hi => by rw [hW]; exact World.putObj_heap_other hi
  have hsame : W.heap[l]? = some (lpObj r e) := by rw [hW]; exact World.putObj_heap_same hlt
  have hsz : W.heap.size = w.heap.size := by rw [hW]; simp [World.putObj]
  refine ⟨h.sz, h.bel.trans ⟨by rw [hW]; rfl, by rw [hW]; rfl, by rw [hW]; rfl, by omega, fun i hi => hother i (fun he => by have := hL.base k l r hk; omega)⟩, ?_, h.tm, h.dom, ?_, h.inj, ?_, h.dis, h.old, ?_, ?_, h.dfx⟩
  · obtain ⟨Ds, e1, e2, e3⟩ := h.df
    refine ⟨Ds, e1, e2, fun D hD => ⟨(e3 D hD).1, (hother D fun he => ?_).trans (e3 D hD).2⟩⟩
    have := (e3 D hD).2
    rw [he, h0] at this; cases this
  · intro m y hm
    obtain ⟨b, g1, g2, g3, g4⟩ := h.hp m y hm
    refine ⟨b, g1, by omega, ?_, g4⟩
    cases hy : y.own with
    | false => exact Blk.rel_mono' (Ren.le_refl _) hy g3
    | true =>
      obtain ⟨xs, t, hx⟩ := Blk.own_cells hy g3
      exact Blk.rel_mono (Ren.le_refl _) (hother _ fun he => by rw [he, h0] at hx; cases hx) g3
  · intro b o v hv
    obtain ⟨g1, g2⟩ := h.im b o v hv
    refine ⟨by omega, ?_⟩
    have hne : b ≠ l := by
      intro he; subst he
      simp [World.cell?, h0] at g2
    exact (World.cell?_of_block (w := w) (hother b hne)).trans g2
  · intro b o hb
    obtain ⟨g1, g2⟩ := h.fx b o hb
    refine ⟨g1, (hother b fun he => ?_).trans g2⟩
    rw [he, hL.fx k l r hk] at hb; cases hb
  · intro j l' q hj
    by_cases hjk : j = k
    · subst hjk
      rw [hk] at hj; cases hj
      show W.heap[l]? = some (lpObj r (upd s.st j e j))
      rw [upd_same]; exact hsame
    · have hne : l' ≠ l := by
        intro he; subst he
        exact hjk (hL.inj k j l' r q hk hj)
      show W.heap[l']? = some (lpObj q (upd s.st k e j))
      rw [upd_ne _ _ hjk]
      exact (hother l' hne).trans (h.lp j l' q hj)
end
end Go.V
end
section
set_option linter.unusedVariables false
set_option linter.unusedSimpArgs false
namespace Go.V
open Go.RowKit (Below)
section
variable {N : Nat} {w0 : World} {ρ : Ren} {s : S} {a : Act} {w : World}
/-- A FRAME RESTS: another one may run on its heap; behind it the frame goes on. -/
theorem Rel.rest (h : Rel w0 N ρ s a w) : ∃ fx' : Nat → Option Obj,
    (∀ N1 (tm1 : Nat → Option V) (tmps1 : Array Value), tmps1.size = N1 → (∀ t v, tm1 t = some v → t < N1 ∧ v.rel ρ (tmps1.getD t undef)) → Rel w0 N1 { ρ with fx := fx' } { s with tm := tm1 } { tmps := tmps1, defers := [] } w) ∧
    (LpOK w0 ρ → LpOK w0 { ρ with fx := fx' }) ∧
    (∀ c ρ2 s2 N1 a2 w2, Rel w0 N1 ρ2 s2 a2 w2 → Ren.up c { ρ with fx := fx' } ρ2 → keepT s c [] N = true → Rel w0 N { ρ2 with fx := ρ.fx } { s2 with tm := s.tm } a w2 ∧ ρ.up c { ρ2 with fx := ρ.fx }) := by
  obtain ⟨fx', hfx⟩ : ∃ fx' : Nat → Option Obj, ∀ D, ((∃ d, d ∈ a.defers ∧ d.target = .collected D) → fx' D = some (.deferred (some []))) ∧ (¬ (∃ d, d ∈ a.defers ∧ d.target = .collected D) → fx' D = ρ.fx D) :=
    ⟨fun D => @ite _ (∃ d, d ∈ a.defers ∧ d.target = .collected D) (Classical.propDecidable _) (some (.deferred (some []))) (ρ.fx D), fun D => ⟨fun h => if_pos h, fun h => if_neg h⟩⟩
  have hmark : ∀ D, (∃ d, d ∈ a.defers ∧ d.target = .collected D) → w.heap[D]? = some (.deferred (some [])) := by
    rintro D ⟨d, hd, ht⟩
    obtain ⟨Ds, e, _, h3⟩ := h.df
    rw [e] at hd
    obtain ⟨D', hD', rfl⟩ := List.mem_map.1 hd
    simp only [Target.collected.injEq] at ht
    subst ht
    exact (h3 D' hD').2
  refine ⟨fx', ?_, ?_, ?_⟩
  · intro N1 tm1 tmps1 hsz htm
    refine ⟨hsz, h.bel, ⟨[], rfl, List.nodup_nil, fun D hD => by cases hD⟩, ?_, h.dom, ?_, h.inj, h.im, h.dis, h.old, ?_, h.lp, fun d D hd => by cases hd⟩
    · intro t v ht
      rw [vrel_fx]
      exact htm t v ht
    · intro m k hm
      obtain ⟨b, h1, h2, h3, h4⟩ := h.hp m k hm
      exact ⟨b, h1, h2, by rw [brel_fx]; exact h3, h4⟩
    · intro b o hb2
      have hb2 : fx' b = some o := hb2
      by_cases hm : ∃ d, d ∈ a.defers ∧ d.target = .collected b
      · rw [show fx' b = _ from (hfx b).1 hm] at hb2
        cases hb2
        exact ⟨rfl, hmark b hm⟩
      · rw [show fx' b = _ from (hfx b).2 hm] at hb2
        exact h.fx b o hb2
  · intro hL
    refine ⟨fun k l r hk => ?_, hL.base, hL.inj⟩
    show fx' l = none
    have hno : ¬ ∃ d, d ∈ a.defers ∧ d.target = .collected l := by
      intro hm
      have h1 := hmark l hm
      obtain ⟨q, hq⟩ := lpObj_loop r (s.st k)
      have h2 := h.lp k l r hk
      rw [h1, hq] at h2
      cases h2
    rw [(hfx l).2 hno]
    exact hL.fx k l r hk
  · intro c ρ2 s2 N1 a2 w2 h2 hle hck
    refine ⟨?_, ⟨hle.κ, hle.cl, hle.k0, rfl, hle.lp, hle.nm⟩⟩
    refine ⟨h.sz, h2.bel, ?_, ?_, h2.dom, ?_, h2.inj, h2.im, h2.dis, h2.old, ?_, h2.lp, h.dfx⟩
    · obtain ⟨Es, e1, e2, e3⟩ := h.df
      refine ⟨Es, e1, e2, fun D hD => ⟨(e3 D hD).1, ?_⟩⟩
      refine (h2.fx D (.deferred (some [])) ?_).2
      rw [hle.fx]
      exact (hfx D).1 ⟨_, by rw [e1]; exact List.mem_map_of_mem hD, rfl⟩
    · intro t v ht
      obtain ⟨g1, g2⟩ := h.tm t v ht
      refine ⟨g1, ?_⟩
      rw [vrel_fx]
      exact V.rel_ren hle.κ ⟨hle.cl, fun k p e => by rw [hle.lp]; exact e⟩ (fun m hm b e => hle.nm m b (keepT_at hck g1 rfl ht m hm) e) g2
    · intro m k hm
      obtain ⟨b, g1, g2, g3, g4⟩ := h2.hp m k hm
      exact ⟨b, g1, g2, by rw [brel_fx]; exact g3, g4⟩
    · intro b o hb2
      have hb2 : ρ.fx b = some o := hb2
      by_cases hm : ∃ d, d ∈ a.defers ∧ d.target = .collected b
      · obtain ⟨d, hd2, ht⟩ := hm
        rw [show ρ.fx b = none from h.dfx d b hd2 ht] at hb2
        cases hb2
      · refine h2.fx b o ?_
        rw [hle.fx]
        exact ((hfx b).2 hm).trans hb2
end
end Go.V
end
section
set_option linter.unusedVariables false
set_option linter.unusedSimpArgs false
namespace Go.V
open Go.RowKit (Below)
/-- The loop's parameters take yield's arguments. -/
def setPs (tm : Nat → Option V) : List Nat → List A → Nat → Option V
  | p :: ps, x :: xs => setPs (upd tm p (some (.a x))) ps xs
  | _, _ => tm
theorem setPs_rel {ρ : Ren} {N0 : Nat} : ∀ {ps : List Nat} {args : List A} {xs : List Value} {tm : Nat → Option V} {tmps : Array Value}, F2 (A.rel ρ) args xs → tmps.size = N0 → (∀ p, p ∈ ps → p < N0) →
    (∀ t v, tm t = some v → t < N0 ∧ v.rel ρ (tmps.getD t undef)) →
    ((ps.zip xs).foldl (fun tmps (q : Nat × Value) => tmps.setIfInBounds q.1 q.2) tmps).size = N0 ∧
    ∀ t v, setPs tm ps args t = some v → t < N0 ∧ v.rel ρ (((ps.zip xs).foldl (fun tmps (q : Nat × Value) => tmps.setIfInBounds q.1 q.2) tmps).getD t undef)
  | [], _, _, tm, tmps, _, hs, _, ht => by simp only [List.zip_nil_left, List.foldl_nil, setPs]; exact ⟨hs, ht⟩
  | p :: ps, _, _, tm, tmps, .nil, hs, _, ht => by simp only [List.zip_nil_right, List.foldl_nil, setPs]; exact ⟨hs, ht⟩
  | p :: ps, _, _, tm, tmps, .cons (a := x) (b := y) r rs, hs, hp, ht => by
    simp only [List.zip_cons_cons, List.foldl_cons, setPs]
    refine setPs_rel rs (by simpa using hs) (fun q hq => hp q (List.mem_cons_of_mem _ hq)) ?_
    intro t v hv
    have hpl := hp p (List.mem_cons_self ..)
    by_cases e : t = p
    · subst e
      rw [upd_same] at hv; cases hv
      refine ⟨hpl, ?_⟩
      rw [Array.getD_eq_getD_getElem?, Array.getElem?_setIfInBounds]
      simp [hs, hpl]
      exact r
    · rw [upd_ne _ _ e] at hv
      obtain ⟨g1, g2⟩ := ht t v hv
      refine ⟨g1, ?_⟩
      rw [Array.getD_eq_getD_getElem?, Array.getElem?_setIfInBounds, if_neg (Ne.symm e), ← Array.getD_eq_getD_getElem?]
      exact g2
abbrev Run := Code → (Nat → Bool) → Nat → S → T St3
/-- ONE ROUND: the assignments to the loop's left sides, then the body, both with the caller's slots. -/
def roundT (k : Nat) (exB : Run) (ps : List Nat) (x y : Code) (tm0 : Nat → Option V) (args : List A) (wk : Nat → Bool) (c : Nat) (s : S) : T (Bool × Nat × S) :=
  match s.st k with
  | none => (exB x wk c { s with tm := setPs tm0 ps args }).bind fun r => match r with
    | (.normal, c1, s1) => (match s1.st k with
      | none => (exB y wk c1 { s1 with st := upd s1.st k (some .normal) }).bind fun r => match r with
        | (.normal, c2, s2) => .ret (true, c2, { s2 with tm := s.tm, st := upd s2.st k none })
        | (.exit i, c2, s2) => .ret (false, c2, { s2 with tm := s.tm, st := upd s2.st k (some (.exit i)) })
        | (.ret, c2, s2) => .ret (false, c2, { s2 with tm := s.tm, st := upd s2.st k (some .ret) })
      | _ => .fail)
    | _ => .fail
  | _ => .fail
end Go.V
end
section
set_option linter.unusedVariables false
set_option linter.unusedSimpArgs false
namespace Go.V
open Go.RowKit (Below)
section
variable {P : Program} {G : GT} {N N0 : Nat} {gw : World → Prop} {w0 : World} {lv : Nat}
theorem LpOK.up {c : Nat} {ρ ρ' : Ren} (h : LpOK w0 ρ) (hle : ρ.up c ρ') : LpOK w0 ρ' where
  fx := fun k l r hk => by rw [hle.fx]; exact h.fx k l r (by rw [← hle.lp]; exact hk)
  base := fun k l r hk => h.base k l r (by rw [← hle.lp]; exact hk)
  inj := fun k j l r q hk hj => h.inj k j l r q (by rw [← hle.lp]; exact hk) (by rw [← hle.lp]; exact hj)
theorem Amb.fxs {ρ : Ren} {f : Nat → Option Obj} (h : Amb P G gw ρ) : Amb P G gw { ρ with fx := f } := ⟨fun g n F e => by rw [crel_fx]; exact h.gl g n F e, h.cl⟩
/-- What is known of the surroundings all the time, at whatever level. -/
structure KOK (P : Program) (G : GT) (gw : World → Prop) (w0 : World) (lv cz : Nat) (K : Ren → Prop) : Prop where
  amb : ∀ {ρ}, K ρ → Amb P G gw ρ
  lpk : ∀ {ρ}, K ρ → LpOK w0 ρ
  lvl : ∀ {ρ}, K ρ → ∀ k l r, ρ.lp k = some (l, r) → k < lv
  up : ∀ {ρ ρ'}, K ρ → ρ.up cz ρ' → K ρ'
  fxs : ∀ {ρ : Ren} fx', K ρ → LpOK w0 { ρ with fx := fx' } → K { ρ with fx := fx' }
  more : ∀ {ρ : Ren} k p, K ρ → ρ.lp k = none → k < lv → LpOK w0 (ρ.lps ρ.fx (upd ρ.lp k (some p))) → K (ρ.lps ρ.fx (upd ρ.lp k (some p)))
theorem KOK.later {cz cy : Nat} {K : Ren → Prop} (h : KOK P G gw w0 lv cz K) (hc : cz ≤ cy) : KOK P G gw w0 lv cy K :=
  ⟨h.amb, h.lpk, h.lvl, fun k hle => h.up k (hle.less hc), h.fxs, h.more⟩
theorem round_sound {k l cz : Nat} {r : Loop} {exB : Run} {ps : List Nat} {x y : Code} {tm0 : Nat → Option V} {K : Ren → Prop} (hK : KOK P G gw w0 lv cz K)
    (E : ∀ (code : Code) {wk : Nat → Bool} {c : Nat} {s : S} {R : St3 → Prop} {ρ : Ren} {a : Act} {w : World}, Rel w0 N0 ρ s a w → K ρ → cz ≤ c → (exB code wk c s).wp R → code.wpIn (Fd (some l)) 0 P (CP c w0 N0 ρ R) a w)
    (EK : ∀ (code : Code) wk c s, (exB code wk c s).all fun r => c ≤ r.2.1)
    (hps : ∀ p, p ∈ ps → p < N0) (hrp : r.params.toList = ps) (hrx : r.assign = x) (hry : r.body = y) (hrt : r.tmps.size = N0)
    {args : List A} {xs : List Value} {wk : Nat → Bool} {c : Nat} {s : S} {R : Bool × Nat × S → Prop} {ρ : Ren} {a : Act} {w : World}
    (hrel : Rel w0 N ρ s a w) (hKρ : K ρ) (hcz : cz ≤ c) (hk : ρ.lp k = some (l, r)) (hck : keepT s c [] N = true)
    (htm : ∀ t v, tm0 t = some v → t < N0 ∧ v.rel ρ (r.tmps.getD t undef)) (hx : F2 (A.rel ρ) args xs) (hlen : args.length = ps.length)
    (h : (roundT k exB ps x y tm0 args wk c s).wp R) :
    YieldAt (Fd none) 0 P l xs.toArray w fun e w' => ∃ b c' s' ρ', e = .returned (.bool b) ∧ R (b, c', s') ∧ s'.tm = s.tm ∧ Rel w0 N ρ' s' a w' ∧ ρ.up c ρ' := by
  unfold roundT at h
  split at h
  · rename_i hst
    obtain ⟨fx', hrest, hLx, hback⟩ := hrel.rest
    have hL := hK.lpk hKρ
    have hKx := hK.fxs fx' hKρ (hLx hL)
    have h0 := hrel.lp k l r hk
    rw [hst] at h0
    have hxl := f2_len hx
    have hsz : xs.toArray.size = r.params.size := by
      have : r.params.size = ps.length := by rw [← hrp]; simp
      simp; omega
    refine ⟨_, _, _, _, run_yield h0 hsz, ?_⟩
    refine roundIn_of_wpIn trivial ?_
    simp only [hrx, hry]
    have hset := setPs_rel (ps := ps) (args := args) (xs := xs) (tm := tm0) (tmps := r.tmps) hx hrt hps htm
    have hfold : (r.params.zip xs.toArray).foldl (fun tmps (t, a) => tmps.setIfInBounds t a) r.tmps = (ps.zip xs).foldl (fun tmps (q : Nat × Value) => tmps.setIfInBounds q.1 q.2) r.tmps := by
      rw [← Array.foldl_toList, Array.toList_zip, hrp]
    rw [hfold]
    have hrel1 := hrest N0 _ _ hset.1 hset.2
    have h1 := T.wp_all (T.wp_bind h) (EK x _ _ _)
    refine wpIn_mono (E x hrel1 hKx hcz h1) ?_
    intro e a1 w1 hc
    cases e <;> simp only [CP, Exit.then] at hc ⊢
    case exit i => obtain ⟨c1, s1, ρ1, ⟨hr, _⟩, _⟩ := hc; exact hr.elim
    case ret => obtain ⟨c1, s1, ρ1, ⟨hr, _⟩, _⟩ := hc; exact hr.elim
    obtain ⟨c1, s1, ρ1, ⟨hr, hc1⟩, hrel1', hle1⟩ := hc
    have hL1 : LpOK w0 ρ1 := (hLx hL).up hle1
    have hk1 : ρ1.lp k = some (l, r) := by rw [hle1.lp]; exact hk
    split at hr
    · rename_i hst1
      have hb := hrel1'.lp k l r hk1
      rw [hst1] at hb
      refine ⟨_, run_beginRound hb rfl, ?_⟩
      have hrel2 := hrel1'.turn hL1 hk1 (some .normal)
      have h2 := T.wp_all (T.wp_bind hr) (EK y _ _ _)
      have hK1 := hK.up hKx (hle1.less hcz)
      refine wpIn_mono (E y hrel2 hK1 (Nat.le_trans hcz hc1) h2) ?_
      have fin : ∀ (e : Option Ex) (j : Option Code) (c2 : Nat) (s2 : S) (ρ2 : Ren) (a2 : Act) (w2 : World), (∀ q : Loop, (∃ z, lpObj r z = .loop q) → Obj.loop { q with state := if j.isNone then .ready else .done, pending := j } = lpObj r e) →
          Rel w0 N0 ρ2 s2 a2 w2 → Ren.up c1 ρ1 ρ2 → R (j.isNone, c2, { s2 with tm := s.tm, st := upd s2.st k e }) →
          ∃ v w', (Instr.endRound l j).run P w2 = .ok v w' ∧ ∃ b c' s' ρ', (Ending.returned v) = .returned (.bool b) ∧ R (b, c', s') ∧ s'.tm = s.tm ∧ Rel w0 N ρ' s' a w' ∧ ρ.up c ρ' := by
        intro e j c2 s2 ρ2 a2 w2 hq hrel3 hle2 hR
        have hk2 : ρ2.lp k = some (l, r) := by rw [hle2.lp]; exact hk1
        have h3 := hrel3.lp k l r hk2
        obtain ⟨q, hq0⟩ := lpObj_loop r (s2.st k)
        rw [hq0] at h3
        have hrun := run_endRound (P := P) j h3
        rw [hq q ⟨_, hq0⟩] at hrun
        have hrel4 := hrel3.turn (hL1.up hle2) hk2 e
        obtain ⟨g1, g2⟩ := hback c _ _ _ _ _ hrel4 (Ren.up_trans hle1 (hle2.less hc1)) hck
        exact ⟨_, _, hrun, _, c2, _, _, rfl, hR, rfl, g1, g2⟩
      intro e a2 w2 hc2
      cases e <;> simp only [CP, roundPost] at hc2 ⊢
      case normal =>
        obtain ⟨c2, s2, ρ2, ⟨hr2, _⟩, hrel3, hle2⟩ := hc2
        refine fin none none c2 s2 ρ2 a2 w2 ?_ hrel3 hle2 hr2
        rintro q ⟨z, hz⟩
        cases z with
        | none => cases hz; rfl
        | some z => cases z <;> (cases hz; rfl)
      case exit i =>
        obtain ⟨c2, s2, ρ2, ⟨hr2, _⟩, hrel3, hle2⟩ := hc2
        refine fin (some (.exit i)) (some (.exit i)) c2 s2 ρ2 a2 w2 ?_ hrel3 hle2 hr2
        rintro q ⟨z, hz⟩
        cases z with
        | none => cases hz; rfl
        | some z => cases z <;> (cases hz; rfl)
      case ret =>
        obtain ⟨c2, s2, ρ2, ⟨hr2, _⟩, hrel3, hle2⟩ := hc2
        refine fin (some .ret) (some .ret) c2 s2 ρ2 a2 w2 ?_ hrel3 hle2 hr2
        rintro q ⟨z, hz⟩
        cases z with
        | none => cases hz; rfl
        | some z => cases z <;> (cases hz; rfl)
    · exact hr.elim
  · exact h.elim
end
end Go.V
end
section
set_option linter.unusedVariables false
set_option linter.unusedSimpArgs false
namespace Go.V
open Go.RowKit (Below)
section
variable {P : Program} {G : GT} {N : Nat} {gw : World → Prop} {w0 : World}
theorem callK_sound {K : Ren → Prop} {ex : Run} {f : FuncId} {fn : Func} (hf : P.funcs[f]? = some fn)
    {args : List A} {xs : List Value} {wk : Nat → Bool} {c : Nat} {s : S} {R : V × Nat × S → Prop}
    (E : ∀ (code : Code) {s : S} {R : St3 → Prop} {ρ : Ren} {a : Act} {w : World}, Rel w0 fn.ntmps ρ s a w → K ρ → (ex code wk c s).wp R → code.wpIn (Fd none) 0 P (CP c w0 fn.ntmps ρ R) a w)
    {ρ : Ren} {a : Act} {w : World} (hrel : Rel w0 N ρ s a w) (hgl : Amb P G gw ρ) (hK : ∀ fx', (LpOK w0 ρ → LpOK w0 { ρ with fx := fx' }) → K { ρ with fx := fx' }) (hx : F2 (A.rel ρ) args xs) (h : (callT P N ex fn args wk c s).wp R) :
    CallsIn (Fd none) 0 P f xs.toArray w fun e w' => ∃ x v c' s' ρ', e = .returned x ∧ v.rel ρ' x ∧ R (v, c', s') ∧ s'.tm = s.tm ∧ Rel w0 N ρ' s' a w' ∧ ρ.up c ρ' := by
  unfold callT at h
  split at h
  · rename_i code hb hck
    simp only [Bool.and_eq_true] at hck
    have hlen := Nat.le_of_ble_eq_true hck.2
    have hxl := f2_len hx
    obtain ⟨fx', hrest, hLx, hback⟩ := hrel.rest
    have hrel1 := hrest fn.ntmps (argsS args s).tm (xs.toArray ++ Array.replicate (fn.ntmps - xs.toArray.size) undef) (by simp; omega) (by
      intro t v ht
      simp only [argsS] at ht
      split at ht
      · rename_i g hg
        simp only [Option.some.injEq] at ht; subst ht
        obtain ⟨x, hxt, hr⟩ := f2_get hx hg
        have hlt : t < xs.length := (List.getElem?_eq_some_iff.1 hxt).1
        refine ⟨by omega, ?_⟩
        rw [Array.getD_eq_getD_getElem?, Array.getElem?_append, if_pos (by simpa using hlt)]
        simp only [List.getElem?_toArray, hxt, Option.getD_some]
        exact hr
      · cases ht)
    have hamb1 : Amb P G gw { ρ with fx := fx' } := hgl.fxs
    refine callsIn_of_wp_marks (F := Fd none) hf hb trivial ?_
    refine wpIn_mono (E code hrel1 (hK fx' hLx) (T.wp_bind h)) ?_
    have fin : ∀ (c' : Nat) (s' : S) (ρ' : Ren), Ren.up c { ρ with fx := fx' } ρ' → (match resL P s' fn.results.toList with | some ps => T.ret (vOfA ps, c', ({ s' with tm := s.tm } : S)) | none => T.fail).wp R →
        ∀ (Ds : List Nat) (a' : Act) (w' : World), a'.defers = Ds.map (fun D => { target := .collected D, args := #[] }) → Rel w0 fn.ntmps ρ' s' a' w' →
        LeavesInM (Fd none) 0 P fn a'.tmps (fun e w' => ∃ x v c' s' ρ', e = .returned x ∧ v.rel ρ' x ∧ R (v, c', s') ∧ s'.tm = s.tm ∧ Rel w0 N ρ' s' a w' ∧ ρ.up c ρ') a'.defers .returning w' := by
      intro c' s' ρ' hle hr Ds
      induction Ds with
      | nil =>
        intro a' w' hd hrel'
        rw [hd]
        split at hr
        · rename_i ps hps
          have hview : View G ρ' s' a' w' := ⟨fun t v ht => (hrel'.tm t v ht).2, fun m k hk => by obtain ⟨b, h1, h2, h3, _⟩ := hrel'.hp m k hk; exact ⟨b, h1, h2, h3⟩, hrel'.im, (hamb1.up hle).gl⟩
          obtain ⟨ys, hy, hyr⟩ := resL_sound hview hps
          have hres : ∃ x, (results fn a'.tmps).run P w' = .ok x w' ∧ (vOfA ps).rel ρ' x := by
            rw [results_eq, Array.mapM_eq_mapM_toList]
            simp only [Sem.run_bind, Sem.run_map, hy, Result.andThen_ok, Sem.run_pure]
            cases hyr with
            | nil => exact ⟨_, rfl, [], .nil, by simp⟩
            | cons r0 rs0 =>
              cases rs0 with
              | nil => exact ⟨_, rfl, r0⟩
              | cons r1 rs1 => exact ⟨_, rfl, _, .cons r0 (.cons r1 rs1), by simp⟩
          obtain ⟨x, hx1, hx2⟩ := hres
          obtain ⟨g1, g2⟩ := hback c _ _ _ _ _ hrel' hle hck.1
          exact ⟨x, hx1, x, vOfA ps, c', { s' with tm := s.tm }, { ρ' with fx := ρ.fx }, rfl, by rw [vrel_fx]; exact hx2, hr, rfl, g1, g2⟩
        · exact hr.elim
      | cons D Ds ih =>
        intro a' w' hd hrel'
        rw [hd]
        obtain ⟨w2, htake, hrel2⟩ := taken (P := P) hrel' hd
        refine ⟨by simp, .inl ⟨D, w2, rfl, htake, ?_⟩⟩
        exact ih { a' with defers := Ds.map (fun D => { target := .collected D, args := #[] }) } w2 rfl hrel2
    intro e a' w' hc
    cases e <;> simp only [CP, bodyPostM] at hc ⊢
    case normal =>
      obtain ⟨c', s', ρ', hr, hrel', hle⟩ := hc
      obtain ⟨Ds, hDs, _⟩ := hrel'.df
      exact fin c' s' ρ' hle hr Ds a' w' hDs hrel'
    case ret =>
      obtain ⟨c', s', ρ', hr, hrel', hle⟩ := hc
      obtain ⟨Ds, hDs, _⟩ := hrel'.df
      exact fin c' s' ρ' hle hr Ds a' w' hDs hrel'
    case exit id => obtain ⟨c', s', ρ', hr, hrel', hle⟩ := hc; exact hr.elim
  · exact h.elim
end
end Go.V
end
section
set_option linter.unusedVariables false
set_option linter.unusedSimpArgs false
namespace Go.V
open Go.RowKit (Below)
/-- What a call of yield comes to. -/
abbrev YH := List A → (Nat → Bool) → Nat → S → T (Bool × Nat × S)
/-- A round, if it has as many arguments as the loop takes. -/
def yhOf (k : Nat) (exB : Run) (ps : Array Tmp) (x y : Code) (tm0 : Nat → Option V) : YH := fun args wk c s =>
  match Nat.beq args.length ps.size with
  | true => roundT k exB ps.toList x y tm0 args wk c s
  | false => .fail
/-- A LOOP OVER A FUNCTION at level k: the iterator runs on the frame's heap; each call of yield is a round, with the frame's slots; behind it the slots are as ahead of it. -/
def rfX (P : Program) (G : GT) (N k LV : Nat) (exB : Run) (exI : YH → FuncId → Func → Run) : RF := fun g ps x y wk c s =>
  match Nat.blt k LV && keepT s c [] N && (ps.toList.all fun p => Nat.blt p N), (look G s g).map fnV with
  | true, some (.a (.c (.fn gf caps))) => (match P.funcs[gf]?, s.st k with
    | some fn, none => (match isGo fn with
      | true => (callT P N (exI (yhOf k exB ps x y s.tm) gf fn) fn (.c (.yl k) :: caps.map fun q => .c (.ptr q.1 q.2)) wk c s).bind fun r =>
        (match cleanOk k c r.2.2.hp with
        | true => (match r.2.2.st k with
          | none => .ret (.normal, r.2.1, { r.2.2 with hp := cleanH k r.2.2.hp })
          | some .normal => .fail
          | some e => .ret (e, r.2.1, { r.2.2 with hp := cleanH k r.2.2.hp, st := upd r.2.2.st k none }))
        | false => .fail)
      | false => .fail)
    | _, _ => .fail)
  | _, _ => .fail
section
variable {P : Program} {G : GT} {N : Nat} {gw : World → Prop} {w0 : World} {LV : Nat}
/-- What a handler of yield promises. -/
structure HOK (P : Program) (w0 : World) (K : Ren → Prop) (cz j : Nat) (h : YH) : Prop where
  run : ∀ {N' : Nat} {args : List A} {xs : List Value} {wk : Nat → Bool} {c : Nat} {s : S} {R : Bool × Nat × S → Prop} {ρ : Ren} {a : Act} {w : World}, Rel w0 N' ρ s a w → K ρ → cz ≤ c → keepT s c [] N' = true →
    F2 (A.rel ρ) args xs → (h args wk c s).wp R → ∀ l r, ρ.lp j = some (l, r) →
    YieldAt (Fd none) 0 P l xs.toArray w fun e w' => ∃ b c' s' ρ', e = .returned (.bool b) ∧ R (b, c', s') ∧ s'.tm = s.tm ∧ Rel w0 N' ρ' s' a w' ∧ ρ.up c ρ'
theorem HOK.less {K K' : Ren → Prop} {cz cy j : Nat} {h : YH} (hh : HOK P w0 K cz j h) (hK : ∀ ρ, K' ρ → K ρ) (hc : cz ≤ cy) : HOK P w0 K' cy j h :=
  ⟨fun hrel hk hcz => hh.run hrel (hK _ hk) (Nat.le_trans hc hcz)⟩
/-- A handler keeps what it may not write. -/
def HKeep (h : YH) : Prop := ∀ args wk c s, (h args wk c s).all fun r => c ≤ r.2.1 ∧ r.2.2.tm = s.tm ∧ ∀ m, m < c → wk m = false → r.2.2.hp m = s.hp m
/-- A run keeps what it may not write. -/
def RKeep (ex : Run) : Prop := ∀ code wk c s, (ex code wk c s).all fun r => c ≤ r.2.1 ∧ ∀ m, m < c → wk m = false → r.2.2.hp m = s.hp m
theorem yhOf_keep {k : Nat} {exB : Run} (hB : RKeep exB) {ps : Array Tmp} {x y : Code} {tm0 : Nat → Option V} : HKeep (yhOf k exB ps x y tm0) := by
  intro args wk c s
  unfold yhOf
  split
  · unfold roundT
    split
    · refine T.all_bind (T.all_mono ?_ (hB x wk c { s with tm := setPs tm0 ps.toList args }))
      rintro ⟨e, c1, s1⟩ ⟨h1, h2⟩
      cases e with
      | exit i => trivial
      | ret => trivial
      | normal =>
        simp only
        split
        · refine T.all_bind (T.all_mono ?_ (hB y wk c1 { s1 with st := upd s1.st k (some .normal) }))
          rintro ⟨e, c2, s2⟩ ⟨g1, g2⟩
          have hkeep : c ≤ c2 ∧ ∀ m, m < c → wk m = false → s2.hp m = s.hp m := ⟨Nat.le_trans h1 g1, fun m hm hw => (g2 m (Nat.lt_of_lt_of_le hm h1) hw).trans (h2 m hm hw)⟩
          cases e with
          | normal => exact ⟨hkeep.1, rfl, hkeep.2⟩
          | exit i => exact ⟨hkeep.1, rfl, hkeep.2⟩
          | ret => exact ⟨hkeep.1, rfl, hkeep.2⟩
        · trivial
    · trivial
  · trivial
theorem callT_keep {ex : Run} (hx : RKeep ex) {fn : Func} {args : List A} {wk : Nat → Bool} {c : Nat} {s : S} :
    (callT P N ex fn args wk c s).all fun r => c ≤ r.2.1 ∧ r.2.2.tm = s.tm ∧ ∀ m, m < c → wk m = false → r.2.2.hp m = s.hp m := by
  unfold callT
  split
  · rename_i code _ _
    refine T.all_bind (T.all_mono ?_ (hx code wk c (argsS args s)))
    rintro ⟨e, c1, s1⟩ ⟨h1, h2⟩
    cases e with
    | exit i => trivial
    | normal =>
      simp only
      split
      · exact ⟨h1, rfl, h2⟩
      · trivial
    | ret =>
      simp only
      split
      · exact ⟨h1, rfl, h2⟩
      · trivial
  · trivial
theorem rfX_keep {k : Nat} {exB : Run} {exI : YH → FuncId → Func → Run} (hB : RKeep exB) (hI : ∀ h gf fn, HKeep h → RKeep (exI h gf fn)) (g : Operand) (ps : Array Tmp) (x y : Code) (wk : Nat → Bool) (c : Nat) (s : S) :
    (rfX P G N k LV exB exI g ps x y wk c s).all (Keeps c s wk []) := by
  unfold rfX
  split
  · split
    · split
      · refine T.all_bind (T.all_mono ?_ (callT_keep (hI _ _ _ (yhOf_keep hB))))
        rintro ⟨v, c1, s1⟩ ⟨h1, h2, h3⟩
        simp only
        split
        · rename_i hcl
          have hk : ∀ m, m < c → wk m = false → cleanH k s1.hp m = s.hp m := fun m hm hw => (cleanH_low hcl hm).trans (h3 m hm hw)
          split
          · exact ⟨h1, fun t _ => congrFun (show s1.tm = s.tm from h2) t, hk⟩
          · trivial
          · exact ⟨h1, fun t _ => congrFun (show s1.tm = s.tm from h2) t, hk⟩
        · trivial
      · trivial
    · trivial
  · trivial
end
end Go.V
end
section
set_option linter.unusedVariables false
set_option linter.unusedSimpArgs false
namespace Go.V
open Go.RowKit (Below)
section
variable {N : Nat} {w0 : World} {ρ : Ren} {s : S} {a : Act} {w : World}
theorem Rel.leave (h : Rel w0 N ρ s a w) (hL : LpOK w0 ρ) {k l : Nat} {r : Loop} (hk : ρ.lp k = some (l, r)) {lp' : Nat → Option (Nat × Loop)} (h1 : ∀ j p, j ≠ k → ρ.lp j = some p → lp' j = some p)
    (h2 : ∀ j p, lp' j = some p → j ≠ k ∧ ρ.lp j = some p) (q : Loop) {st' : Nat → Option Ex} (hst : ∀ j, j ≠ k → st' j = s.st j)
    (htm : ∀ t v, s.tm t = some v → t < N ∧ v.rel (ρ.lps ρ.fx lp') (a.tmps.getD t undef)) :
    Rel w0 N (ρ.lps ρ.fx lp') { s with hp := cleanH k s.hp, st := st' } a (w.putObj l (.loop q)) := by
  have h0 := h.lp k l r hk
  have hlt : l < w.heap.size := (Array.getElem?_eq_some_iff.1 h0).1
  obtain ⟨q0, hq0⟩ := lpObj_loop r (s.st k)
  rw [hq0] at h0
  obtain ⟨W, hW⟩ : ∃ W, W = w.putObj l (.loop q) := ⟨_, rfl⟩
  rw [← hW]
  have hother : ∀ i, i ≠ l → W.heap[i]? = w.heap[i]? := fun i hi => by rw [hW]; exact World.putObj_heap_other hi
  have hsz : W.heap.size = w.heap.size := by rw [hW]; simp [World.putObj]
  have own_of : ∀ m y y0, cleanH k s.hp m = some y → y.own = true → s.hp m = some y0 → y0 = y := by
    intro m y y0 hy ho hy0
    obtain ⟨y1, g1, g2⟩ := cleanH_of hy
    rw [hy0] at g1; cases g1
    rcases g2 with rfl | ⟨rfl, _⟩
    · cases ho
    · rfl
  refine ⟨h.sz, h.bel.trans ⟨by rw [hW]; rfl, by rw [hW]; rfl, by rw [hW]; rfl, by omega, fun i hi => hother i (fun he => by have := hL.base k l r hk; omega)⟩, ?_, htm, fun m hm => h.dom m (cleanH_none hm), ?_, ?_, ?_, ?_, h.old, ?_, ?_, h.dfx⟩
  · obtain ⟨Ds, e1, e2, e3⟩ := h.df
    refine ⟨Ds, e1, e2, fun D hD => ⟨(e3 D hD).1, (hother D fun he => ?_).trans (e3 D hD).2⟩⟩
    have := (e3 D hD).2
    rw [he, h0] at this; cases this
  · intro m y hm
    obtain ⟨y0, g0, gy⟩ := cleanH_of hm
    obtain ⟨b, g1, g2, g3, g4⟩ := h.hp m y0 g0
    refine ⟨b, g1, by omega, ?_, g4⟩
    rcases gy with rfl | ⟨rfl, hcl⟩
    · trivial
    · refine brel_lps h1 hcl ?_
      cases hy : y.own with
      | false => exact Blk.rel_mono' (Ren.le_refl _) hy g3
      | true =>
        obtain ⟨xs, t, hx⟩ := Blk.own_cells hy g3
        exact Blk.rel_mono (Ren.le_refl _) (hother _ fun he => by rw [he, h0] at hx; cases hx) g3
  · intro m m' y y' b b' hm hm' ho ho' hb hb' hne
    obtain ⟨y0, g0, _⟩ := cleanH_of hm
    obtain ⟨y1, g1, _⟩ := cleanH_of hm'
    have e0 := own_of m y y0 hm ho g0
    have e1 := own_of m' y' y1 hm' ho' g1
    subst e0 e1
    exact h.inj m m' _ _ b b' g0 g1 ho ho' hb hb' hne
  · intro b o v hv
    obtain ⟨g1, g2⟩ := h.im b o v hv
    refine ⟨by omega, ?_⟩
    have hne : b ≠ l := by
      intro he; subst he
      simp [World.cell?, h0] at g2
    exact (World.cell?_of_block (w := w) (hother b hne)).trans g2
  · intro m y b o hm ho hb
    obtain ⟨y0, g0, _⟩ := cleanH_of hm
    have e0 := own_of m y y0 hm ho g0
    subst e0
    exact h.dis m _ b o g0 ho hb
  · intro b o hb
    obtain ⟨g1, g2⟩ := h.fx b o hb
    refine ⟨g1, (hother b fun he => ?_).trans g2⟩
    have hb : ρ.fx b = some o := hb
    rw [he, hL.fx k l r hk] at hb; cases hb
  · intro j l' q' hj
    obtain ⟨hjk, hj'⟩ := h2 j _ hj
    have hne : l' ≠ l := by
      intro he; subst he
      exact hjk (hL.inj k j l' r q' hk hj')
    show W.heap[l']? = some (lpObj q' (st' j))
    rw [hst j hjk]
    exact (hother l' hne).trans (h.lp j l' q' hj')
end
end Go.V
end
section
set_option linter.unusedVariables false
set_option linter.unusedSimpArgs false
namespace Go.V
open Go.RowKit (Below)
section
variable {P : Program} {G : GT} {N : Nat} {gw : World → Prop} {w0 : World} {LV : Nat}
theorem LpOK.begin {ρ : Ren} (hL : LpOK w0 ρ) {s : S} {a : Act} {w : World} (hrel : Rel w0 N ρ s a w) {k : Nat} (r : Loop) : LpOK w0 (ρ.lps ρ.fx (upd ρ.lp k (some (w.heap.size + 1, r)))) := by
  have hfree : ∀ j l q, ρ.lp j = some (l, q) → l < w.heap.size := fun j l q hj => (Array.getElem?_eq_some_iff.1 (hrel.lp j l q hj)).1
  have cases' : ∀ j l q, upd ρ.lp k (some (w.heap.size + 1, r)) j = some (l, q) → (j = k ∧ l = w.heap.size + 1) ∨ (j ≠ k ∧ ρ.lp j = some (l, q)) := by
    intro j l q hj
    by_cases e : j = k
    · subst e; rw [upd_same] at hj; cases hj; exact .inl ⟨rfl, rfl⟩
    · rw [upd_ne _ _ e] at hj; exact .inr ⟨e, hj⟩
  refine ⟨fun j l q hj => ?_, fun j l q hj => ?_, fun j i l q q' hj hi => ?_⟩
  · show ρ.fx l = none
    rcases cases' j l q hj with ⟨_, rfl⟩ | ⟨_, hj⟩
    · cases hf : ρ.fx (w.heap.size + 1) with
      | none => rfl
      | some o =>
        have := (Array.getElem?_eq_some_iff.1 (hrel.fx _ o hf).2).1
        omega
    · exact hL.fx j l q hj
  · rcases cases' j l q hj with ⟨_, rfl⟩ | ⟨_, hj⟩
    · have := hrel.bel.size; omega
    · exact hL.base j l q hj
  · rcases cases' j l q hj with ⟨e1, e2⟩ | ⟨e1, hj⟩ <;> rcases cases' i l q' hi with ⟨f1, f2⟩ | ⟨f1, hi⟩
    · rw [e1, f1]
    · have := hfree i l q' hi; omega
    · have := hfree j l q hj; omega
    · exact hL.inj j i l q q' hj hi
theorem rfX_sound {k cz : Nat} {K : Ren → Prop} (hK : KOK P G gw w0 LV cz K) {exB : Run} {exI : YH → FuncId → Func → Run}
    (EB : ∀ (l : Nat) (code : Code) {wk : Nat → Bool} {c : Nat} {s : S} {R : St3 → Prop} {ρ : Ren} {a : Act} {w : World}, Rel w0 N ρ s a w → K ρ → cz ≤ c → (exB code wk c s).wp R → code.wpIn (Fd (some l)) 0 P (CP c w0 N ρ R) a w)
    (EBK : RKeep exB)
    (EI : ∀ (h : YH) (gf : FuncId) (gfn : Func) (K' : Ren → Prop) (c' : Nat), KOK P G gw w0 LV c' K' → (∀ ρ, K' ρ → K ρ) → cz ≤ c' → HOK P w0 K' c' k h → HKeep h →
      ∀ (code : Code) {wk : Nat → Bool} {c : Nat} {s : S} {R : St3 → Prop} {ρ : Ren} {a : Act} {w : World}, Rel w0 gfn.ntmps ρ s a w → K' ρ → (∀ j l r, ρ.lp j = some (l, r) → j < k + 1) → c' ≤ c → (exI h gf gfn code wk c s).wp R → code.wpIn (Fd none) 0 P (CP c w0 gfn.ntmps ρ R) a w)
    {g : Operand} {ps : Array Tmp} {x y : Code} {wk : Nat → Bool} {c : Nat} {s : S} {R : St3 → Prop} {ρ : Ren} {a : Act} {w : World}
    (hrel : Rel w0 N ρ s a w) (hKρ : K ρ) (hlv : ∀ j l r, ρ.lp j = some (l, r) → j < k) (hcz : cz ≤ c) (h : (rfX P G N k LV exB exI g ps x y wk c s).wp R) :
    (Code.rangeFunc g ps x y).wpIn (Fd none) 0 P (CP c w0 N ρ R) a w := by
  unfold rfX at h
  split at h
  · rename_i gf caps hchk hg
    simp only [Bool.and_eq_true] at hchk
    obtain ⟨⟨hkLV, hck⟩, hps⟩ := hchk
    have hkLV : k < LV := by simpa [Nat.blt_eq] using hkLV
    have hps : ∀ p, p ∈ ps.toList → p < N := fun p hp => by have := List.all_eq_true.1 hps p hp; simpa [Nat.blt_eq] using this
    split at h
    · rename_i fn hfn hst
      split at h
      · rename_i hgo
        obtain ⟨v0, hv0, hv1⟩ := Option.map_eq_some_iff.1 hg
        have hview : View G ρ s a w := ⟨fun t v ht => (hrel.tm t v ht).2, fun m k hk => by obtain ⟨b, h1, h2, h3, _⟩ := hrel.hp m k hk; exact ⟨b, h1, h2, h3⟩, hrel.im, (hK.amb hKρ).gl⟩
        obtain ⟨cx, hcx, hgv⟩ := hv1 ▸ fnV_rel (look_rel hview hv0)
        refine wpIn_rangeFunc ?_
        intro fn0 _
        obtain ⟨r0, hr0⟩ : ∃ r0 : Loop, r0 = { state := .ready, pending := none, fn := fn0, tmps := a.tmps, params := ps, assign := x, body := y, defers := w.heap.size } := ⟨_, rfl⟩
        obtain ⟨l, hl⟩ : ∃ l, l = w.heap.size + 1 := ⟨_, rfl⟩
        have hklp : ρ.lp k = none := by
          cases hq : ρ.lp k with
          | none => rfl
          | some q => obtain ⟨l', r'⟩ := q; have := hlv k l' r' hq; omega
        have hbegin := hrel.begin hklp hst r0
        have hLp1 := (hK.lpk hKρ).begin hrel (k := k) r0
        have hready : lpObj r0 none = .loop r0 := by rw [hr0]; rfl
        rw [hready] at hbegin
        rw [← hl] at hbegin hLp1
        obtain ⟨W1, hW1⟩ : ∃ W1, W1 = (w.alloc (.deferred (some []))).alloc (.loop r0) := ⟨_, rfl⟩
        rw [← hW1] at hbegin
        obtain ⟨ρ1, hρ1⟩ : ∃ ρ1, ρ1 = ρ.lps ρ.fx (upd ρ.lp k (some (l, r0))) := ⟨_, rfl⟩
        rw [← hρ1] at hbegin hLp1
        have hK1 : K ρ1 := by rw [hρ1]; exact hK.more k (l, r0) hKρ hklp hkLV (by rw [← hρ1]; exact hLp1)
        have hmore : ∀ j p, ρ.lp j = some p → ρ1.lp j = some p := by
          intro j p hj
          have : j ≠ k := fun e => by rw [e, hklp] at hj; cases hj
          rw [hρ1]; show upd ρ.lp k (some (l, r0)) j = some p
          rw [upd_ne _ _ this]; exact hj
        have hlpk : ρ1.lp k = some (l, r0) := by rw [hρ1]; exact upd_same _ _ _
        obtain ⟨K', hK'⟩ : ∃ K' : Ren → Prop, K' = fun ρ' => K ρ' ∧ ρ'.lp k = some (l, r0) ∧ ∀ t v, s.tm t = some v → t < N ∧ v.rel ρ' (a.tmps.getD t undef) := ⟨_, rfl⟩
        have KK : KOK P G gw w0 LV c K' := by
          rw [hK']
          refine ⟨fun h => hK.amb h.1, fun h => hK.lpk h.1, fun h => hK.lvl h.1, ?_, ?_, ?_⟩
          · rintro ρa ρb ⟨q1, q2, q3⟩ hup
            refine ⟨hK.up q1 (hup.less hcz), by rw [hup.lp]; exact q2, fun t v ht => ?_⟩
            obtain ⟨g1, g2⟩ := q3 t v ht
            exact ⟨g1, V.rel_ren hup.κ ⟨hup.cl, fun k p e => by rw [hup.lp]; exact e⟩ (fun m hm b e => hup.nm m b (keepT_at hck g1 rfl ht m hm) e) g2⟩
          · rintro ρa fx' ⟨q1, q2, q3⟩ hLx
            refine ⟨hK.fxs fx' q1 hLx, q2, fun t v ht => ?_⟩
            obtain ⟨g1, g2⟩ := q3 t v ht
            exact ⟨g1, by rw [vrel_fx]; exact g2⟩
          · rintro ρa k2 p ⟨q1, q2, q3⟩ hn hk2 hLx
            have hne : k ≠ k2 := fun e => by rw [e, hn] at q2; cases q2
            refine ⟨hK.more k2 p q1 hn hk2 hLx, ?_, fun t v ht => ?_⟩
            · show upd ρa.lp k2 (some p) k = some (l, r0)
              rw [upd_ne _ _ hne]; exact q2
            · obtain ⟨g1, g2⟩ := q3 t v ht
              refine ⟨g1, vrel_more ?_ g2⟩
              intro j p' hj
              have : j ≠ k2 := fun e => by rw [e, hn] at hj; cases hj
              rw [upd_ne _ _ this]; exact hj
        have hH : HOK P w0 K' c k (yhOf k exB ps x y s.tm) := by
          constructor
          intro N' args xs wk' c1 s1 R1 ρa a1 w1 hrel1 hk1 hc1 hck1 hx1 hw1 l1 r1 hlp1
          rw [hK'] at hk1
          obtain ⟨q1, q2, q3⟩ := hk1
          rw [q2] at hlp1
          cases hlp1
          unfold yhOf at hw1
          split at hw1
          · rename_i hlen
            have hlen := Nat.eq_of_beq_eq_true hlen
            refine round_sound (K := K') KK (r := r0) (exB := exB) (ps := ps.toList) (x := x) (y := y) (tm0 := s.tm) ?_ (fun code wk c s => T.all_mono (fun r hr => hr.1) (EBK code wk c s)) hps (by rw [hr0]) (by rw [hr0]) (by rw [hr0]) (by rw [hr0]; exact hrel.sz)
              hrel1 (by rw [hK']; exact ⟨q1, q2, q3⟩) hc1 q2 hck1 (by rw [hr0]; exact q3) hx1 (by simpa using hlen) hw1
            intro code wk2 c2 s2 R2 ρb a2 w2 g1 g2 g3 g4
            rw [hK'] at g2
            exact EB l code g1 g2.1 (Nat.le_trans hcz g3) g4
          · exact hw1.elim
        have hargs : F2 (A.rel ρ1) (A.c (.yl k) :: caps.map fun q => A.c (.ptr q.1 q.2)) ((.func (.yield l) #[] #[]) :: cx) := by
          refine .cons ⟨l, r0, hlpk, rfl⟩ ?_
          have := ptr_names hcx
          exact f2_imp (fun a b hab => by rw [hρ1]; exact arel_more (by rw [hρ1] at hmore; exact hmore) hab) this
        have hcall := callK_sound (N := N) (K := fun ρ' => K' ρ' ∧ ∀ j l r, ρ'.lp j = some (l, r) → j < k + 1) (ex := exI (yhOf k exB ps x y s.tm) gf fn) hfn
          (fun code {s R ρ a w} g1 g2 g3 => EI _ gf fn K' c KK (fun ρ hq => by rw [hK'] at hq; exact hq.1) hcz hH (yhOf_keep EBK) code g1 g2.1 g2.2 (Nat.le_refl _) g3)
          hbegin (hK.amb hK1) (fun fx' hfx => ⟨KK.fxs fx' (by
            rw [hK']
            refine ⟨hK1, hlpk, fun t v ht => ?_⟩
            obtain ⟨g1, g2⟩ := hrel.tm t v ht
            exact ⟨g1, by rw [hρ1]; exact vrel_more (by rw [hρ1] at hmore; exact hmore) g2⟩) (hfx hLp1), fun j l' r' hj => by
              by_cases e : j = k
              · omega
              · have hj : ρ1.lp j = some (l', r') := hj
                rw [hρ1] at hj
                have hj : upd ρ.lp k (some (l, r0)) j = some (l', r') := hj
                rw [upd_ne _ _ e] at hj
                have := hlv j l' r' hj; omega⟩) hargs (T.wp_bind h)
        have eargs : ((Value.func (.yield l) #[] #[]) :: cx).toArray = #[Value.func (.yield l) #[] #[]] ++ cx.toArray := by apply Array.ext'; simp
        rw [eargs] at hcall
        have hgv : a.eval g = .func (.func gf) #[] cx.toArray := hgv
        refine ⟨l, [{ target := .collected w.heap.size, args := #[] }], W1, { target := .fn (.func gf) cx.toArray, args := #[.func (.yield l) #[] #[]] }, W1, gf, #[.func (.yield l) #[] #[]] ++ cx.toArray, W1, ?_, ?_, ?_, ?_, fun h => (by cases h), ?_⟩
        · rw [hW1, hr0, hl]; exact run_enterLoop_outer _ _ _ _ _
        · simp only [resolve, hgv]
          simp [go_sem]
        · intro f' _; trivial
        · simp [invoke, go_sem, enter_of hfn hgo]
        · refine hcall.mono ?_
          rintro e w2 ⟨xv, v, c2, s2, ρ2, rfl, hvr, hr, htm, hrel2, hup⟩
          have hlp2 : ρ2.lp k = some (l, r0) := by rw [hup.lp]; exact hlpk
          have hobj := hrel2.lp k l r0 hlp2
          have hL2 : LpOK w0 ρ2 := hLp1.up hup
          have h1 : ∀ j p, j ≠ k → ρ2.lp j = some p → ρ.lp j = some p := by
            intro j p hj hjp
            rw [hup.lp, hρ1] at hjp
            have hjp : upd ρ.lp k (some (l, r0)) j = some p := hjp
            rw [upd_ne _ _ hj] at hjp; exact hjp
          have h2 : ∀ j p, ρ.lp j = some p → j ≠ k ∧ ρ2.lp j = some p := by
            intro j p hj
            exact ⟨fun e => (by rw [e, hklp] at hj; cases hj), by rw [hup.lp]; exact hmore j p hj⟩
          have hfx2 : ρ2.fx = ρ.fx := by rw [hup.fx, hρ1]; rfl
          have hup2 : ρ.up c (ρ2.lps ρ2.fx ρ.lp) := by
            have q1 := hup.κ
            have q2 := hup.cl
            have q3 := hup.k0
            have q4 := hup.nm
            rw [hρ1] at q1 q2 q3 q4
            exact ⟨q1, q2, q3, hfx2, rfl, q4⟩
          have hslots : ∀ t v, s2.tm t = some v → t < N ∧ v.rel (ρ2.lps ρ2.fx ρ.lp) (a.tmps.getD t undef) := by
            intro t v ht
            rw [htm] at ht
            obtain ⟨g1, g2⟩ := hrel.tm t v ht
            exact ⟨g1, V.rel_ren hup2.κ ⟨hup2.cl, fun k p e => e⟩ (fun m hm b e => hup2.nm m b (keepT_at hck g1 rfl ht m hm) e) g2⟩
          have leave : ∀ (q : Loop) {st' : Nat → Option Ex}, (∀ j, j ≠ k → st' j = s2.st j) → Rel w0 N (ρ2.lps ρ2.fx ρ.lp) { s2 with hp := cleanH k s2.hp, st := st' } { a with defers := { target := .collected w.heap.size, args := #[] } :: a.defers } (w2.putObj l (.loop q)) :=
            fun q {st'} hst' => hrel2.leave hL2 hlp2 h1 h2 q hst' hslots
          simp only at hr
          split at hr
          · split at hr
            · rename_i hs
              rw [hs, hready] at hobj
              have hend := run_endLoop (P := P) hobj (by rw [hr0]; simp)
              have hpend : r0.pending = none := by rw [hr0]
              rw [hpend] at hend
              refine ⟨none, _, hend, ?_⟩
              exact ⟨_, _, _, hr, leave _ (fun j _ => rfl), hup2⟩
            · exact hr.elim
            · rename_i e hne hs
              rw [hs] at hobj
              cases e with
              | normal => exact absurd rfl hne
              | exit i =>
                have hend := run_endLoop (P := P) hobj (by simp)
                refine ⟨some (.exit i), _, hend, ?_⟩
                exact wpIn_exit ⟨_, _, _, hr, leave _ (fun j hj => upd_ne _ _ hj), hup2⟩
              | ret =>
                have hend := run_endLoop (P := P) hobj (by simp)
                refine ⟨some .ret, _, hend, ?_⟩
                exact wpIn_ret ⟨_, _, _, hr, leave _ (fun j hj => upd_ne _ _ hj), hup2⟩
          · exact hr.elim
      · exact h.elim
    · exact h.elim
  · exact h.elim
end
end Go.V
end
section
set_option linter.unusedVariables false
set_option linter.unusedSimpArgs false
namespace Go.V
open Go.RowKit (Below)
/-- A call of yield; a call that is carried out here. -/
inductive Sp where
  | yl (k : Nat) (h : YH) (args : List A)
  | inl (fn : Func) (ex : Run) (args : List A)
def spOf (G : GT) (yh : Nat → Option YH) (inl : FuncId → Option (Func × Run)) (o : Oper) (s : S) : Option Sp :=
  match o.op with
  | .call cl => (match cl.callee with
    | .value f => (match (look G s f).map fnV, lookAll G s cl.args.toList with
      | some (.a (.c (.yl k))), some args => (match yh k with | some h => some (.yl k h args) | none => none)
      | some (.a (.c (.fn g caps))), some args => (match inl g with | some (fn, ex) => some (.inl fn ex (args ++ caps.map fun q => .c (.ptr q.1 q.2))) | none => none)
      | _, _ => none)
    | _ => none)
  | _ => none
def putS (dst : Option Tmp) (v : V) (s : S) : S := act dst 0 ⟨some v, [], []⟩ s
def dstOk (N : Nat) (o : Oper) : Bool := match o.dst with | some d => Nat.blt d N | none => true
section
variable (P : Program) (G : GT) (N : Nat) (sg : FuncId → Option Sm) (yh : Nat → Option YH) (inl : FuncId → Option (Func × Run)) (wk : Nat → Bool)
def opX (o : Oper) (c : Nat) (s : S) : T (Nat × S) :=
  match spOf G yh inl o s with
  | some (.yl k h args) => (match dstOk N o && keepT s c [] N with
    | true => (h args wk c s).bind fun r => .ret (r.2.1, putS o.dst (.a (.c (.lit r.1))) r.2.2)
    | false => .fail)
  | some (.inl fn ex args) => (match dstOk N o with
    | true => (callT P N ex fn args wk c s).bind fun r => .ret (r.2.1, putS o.dst r.1 r.2.2)
    | false => .fail)
  | none => (match opEff P G N sg wk none o c s with
    | .ok e p rd => T.needs p (.ret (c + newsOf e, doit o.dst ⟨c, e, rd⟩ s))
    | _ => .fail)
/-- With a guard: it says yes, it says no. -/
def guardX (ops : Array Oper) (o : Oper) (s : S) (yes no : S → T St3) : T St3 :=
  match o.guard with
  | none => yes s
  | some (k, want) => (match dstOf ops k with
    | some d => (match s.tm d with
      | some (.a (.c (.lit b))) => (match b == want with | true => yes s | false => no s)
      | some (.a (.c (.bool b))) => .br b
          (match true == want with | true => yes (putS (some d) (.a (.c (.lit true))) s) | false => no (putS (some d) (.a (.c (.lit true))) s))
          (match false == want with | true => yes (putS (some d) (.a (.c (.lit false))) s) | false => no (putS (some d) (.a (.c (.lit false))) s))
      | some (.tup []) => no s
      | _ => .fail)
    | none => .fail)
def goX (ops : Array Oper) : List Oper → Nat → S → T St3
  | [], c, s => .ret (.normal, c, s)
  | o :: l, c, s => guardX ops o s (fun s => (opX P G N sg yh inl wk o c s).bind fun r => goX ops l r.1 r.2)
      (fun s => match dstOk N o with | true => goX ops l c (putS o.dst (.tup []) s) | false => .fail)
end
section
variable {P : Program} {G : GT} {N : Nat} {rr : Option Nat} {sg : FuncId → Option Sm} {yh : Nat → Option YH} {inl : FuncId → Option (Func × Run)} {gw : World → Prop} {w0 : World} {LV : Nat} {a : Act} {w : World} {Q : Exit → Act → World → Prop}
theorem ow_round {o : Oper} {K : Act → World → Prop} {l : Nat} {f : FuncId} {tmps : Array Value} {x y : Code} (h : (execOp a.eval o).run P w = .ok (.round l f tmps x y) w) (hd : ∀ c, o.op ≠ .defer c)
    (hk : RoundIn (Fd none) 0 P l f tmps x y w (fun e w' => ∃ v, e = .returned v ∧ K (a.put o.dst v) w')) : o.wpIn (Fd rr) 0 P a w K Q := by
  refine ⟨fun _ _ => trivial, ?_⟩
  rw [Oper.semAt_eq _ _ _ hd, h, Oper.uponIn_round]
  refine ⟨fun h => (by cases h), ?_⟩
  have h1 : RoundIn (Fd rr) 0 P l f tmps x y w (fun e w' => ∃ v, e = .returned v ∧ K (a.put o.dst v) w') := hk
  refine h1.mono ?_
  rintro e w' ⟨v, rfl, hv⟩
  exact hv
theorem ow_enterIn {o : Oper} {K : Act → World → Prop} {f : FuncId} {args : Array Value} (h : (execOp a.eval o).run P w = .ok (.enter f args) w) (hd : ∀ c, o.op ≠ .defer c)
    (hk : CallsIn (Fd none) 0 P f args w (fun e w' => ∃ x, e = .returned x ∧ K (a.put o.dst x) w')) : o.wpIn (Fd rr) 0 P a w K Q := by
  refine ⟨fun _ _ => trivial, ?_⟩
  rw [Oper.semAt_eq _ _ _ hd, h, Oper.uponIn_enter]
  refine ⟨fun h => (by cases h), ?_⟩
  have h1 : CallsIn (Fd rr) 0 P f args w (fun e w' => ∃ x, e = .returned x ∧ K (a.put o.dst x) w') := hk
  refine CallsIn.mono h1 ?_
  rintro e w' ⟨x, rfl, hx⟩
  exact hx
theorem putS_rel {ρ : Ren} {s : S} (h : Rel w0 N ρ s a w) {dst : Option Tmp} (hd : ∀ d, dst = some d → d < N) {v : V} {x : Value} (hv : v.rel ρ x) : Rel w0 N ρ (putS dst v s) (a.put dst x) w :=
  h.quiet hd (fun v' hv' => by cases hv'; exact hv)
theorem dstOk_at {o : Oper} (h : dstOk N o = true) : ∀ d, o.dst = some d → d < N := by
  intro d hd
  unfold dstOk at h
  rw [hd] at h
  simpa [Nat.blt_eq] using h
/-- A bool that is known. -/
theorem lit_rel {ρ : Ren} {s : S} (h : Rel w0 N ρ s a w) {d : Nat} {b : Bool} (hd : s.tm d = some (.a (.c (.bool b)))) : Rel w0 N ρ (putS (some d) (.a (.c (.lit b))) s) a w := by
  refine h.weaken ?_ (fun m => rfl) rfl
  intro t v' ht
  by_cases e : t = d
  · subst e
    have ht : upd s.tm t (some (.a (.c (.lit b)))) t = some v' := ht
    rw [upd_same] at ht
    cases ht
    exact ⟨_, hd, fun x hx => hx⟩
  · have ht : upd s.tm d (some (.a (.c (.lit b)))) t = some v' := ht
    rw [upd_ne _ _ e] at ht
    exact ⟨v', ht, fun x hx => hx⟩
/-- What is asked of what runs an inlined call. -/
def InlOK (P : Program) (w0 : World) (LV : Nat) (K : Ren → Prop) (cz : Nat) (inl : FuncId → Option (Func × Run)) : Prop :=
  ∀ g fn ex, inl g = some (fn, ex) → P.funcs[g]? = some fn ∧ isGo fn = true ∧
    ∀ (code : Code) {wk : Nat → Bool} {c : Nat} {s : S} {R : St3 → Prop} {ρ : Ren} {a : Act} {w : World}, Rel w0 fn.ntmps ρ s a w → K ρ → cz ≤ c → (ex code wk c s).wp R → code.wpIn (Fd none) 0 P (CP c w0 fn.ntmps ρ R) a w
theorem opX_sound {K : Ren → Prop} {cz : Nat} (hst : ∀ w w', gw w → Below w.heap.size w w' → gw w') (hgw0 : gw w0) (hsg : ∀ f σ, sg f = some σ → SumOK P G gw f σ)
    (kA : ∀ {ρ}, K ρ → Amb P G gw ρ) (kL : ∀ {ρ}, K ρ → LpOK w0 ρ) (kF : ∀ {ρ : Ren} fx', K ρ → LpOK w0 { ρ with fx := fx' } → K { ρ with fx := fx' })
    (hy : ∀ k h, yh k = some h → HOK P w0 K cz k h) (hi : InlOK P w0 LV K cz inl)
    {wk : Nat → Bool} {o : Oper} {c : Nat} {s : S} {R : Nat × S → Prop} {ρ : Ren} (hrel : Rel w0 N ρ s a w) (hKρ : K ρ) (hcz : cz ≤ c) (h : (opX P G N sg yh inl wk o c s).wp R) :
    o.wpIn (Fd rr) 0 P a w (fun a' w' => ∃ c' s' ρ', R (c', s') ∧ Rel w0 N ρ' s' a' w' ∧ ρ.up c ρ') Q := by
  have hview : View G ρ s a w := ⟨fun t v ht => (hrel.tm t v ht).2, fun m k hk => by obtain ⟨b, h1, h2, h3, _⟩ := hrel.hp m k hk; exact ⟨b, h1, h2, h3⟩, hrel.im, (kA hKρ).gl⟩
  unfold opX at h
  split at h
  · -- yield
    rename_i k hd args hsp
    split at h
    · rename_i hok
      simp only [Bool.and_eq_true] at hok
      unfold spOf at hsp
      split at hsp
      · rename_i cl ho
        split at hsp
        · rename_i f hcal
          split at hsp
          · rename_i k' args' hf hargs
            split at hsp
            · rename_i h' hyk
              simp only [Option.some.injEq, Sp.yl.injEq] at hsp
              obtain ⟨rfl, rfl, rfl⟩ := hsp
              obtain ⟨v0, hf0, hf1⟩ := Option.map_eq_some_iff.1 hf
              obtain ⟨l, r, hlp, hfv⟩ := hf1 ▸ fnV_rel (look_rel hview hf0)
              have hax := lookAll_rel G hview hargs
              have hyield := (hy k' h' hyk).run hrel hKρ hcz hok.2 hax (T.wp_bind h) l r hlp
              have hfv : a.eval f = .func (.yield l) #[] #[] := hfv
              have earr : (cl.args.toList.map a.eval).toArray = cl.args.map a.eval := by apply Array.ext'; simp
              rw [earr] at hyield
              obtain ⟨fn, tmps, x, y, hrun, hround⟩ := hyield
              have hop : (execOp a.eval o).run P w = .ok (.round l fn tmps x y) w := by
                simp only [execOp, ho, resolve, hcal, hfv, Deferred.ofValue, Sem.run_bind, Sem.run_pure, Result.andThen_ok, invoke, Array.empty_append, Array.append_empty, hrun]
              refine ow_round hop (fun c hc => by rw [ho] at hc; cases hc) (hround.mono ?_)
              rintro e w' ⟨b, c', s', ρ', rfl, hr, htm, hrel', hup⟩
              exact ⟨_, rfl, c', _, ρ', hr, putS_rel hrel' (dstOk_at hok.1) rfl, hup⟩
            · cases hsp
          · split at hsp <;> cases hsp
          · cases hsp
        · cases hsp
      · cases hsp
    · exact h.elim
  · -- inlined
    rename_i fn ex args hsp
    split at h
    · rename_i hok
      unfold spOf at hsp
      split at hsp
      · rename_i cl ho
        split at hsp
        · rename_i f hcal
          split at hsp
          · split at hsp <;> cases hsp
          · rename_i g caps args' hf hargs
            split at hsp
            · rename_i fn' ex' hig
              simp only [Option.some.injEq, Sp.inl.injEq] at hsp
              obtain ⟨rfl, rfl, rfl⟩ := hsp
              obtain ⟨hfn, hgo, hex⟩ := hi g _ _ hig
              obtain ⟨v0, hf0, hf1⟩ := Option.map_eq_some_iff.1 hf
              obtain ⟨cx, hcx, hfv⟩ := hf1 ▸ fnV_rel (look_rel hview hf0)
              have hfv : a.eval f = .func (.func g) #[] cx.toArray := hfv
              have hax := lookAll_rel G hview hargs
              have hall : F2 (A.rel ρ) (args' ++ caps.map fun q => .c (.ptr q.1 q.2)) (cl.args.toList.map a.eval ++ cx) := f2_append hax (ptr_names hcx)
              have hcall := callK_sound (N := N) (K := K) (ex := ex') hfn (fun code {s R ρ a w} g1 g2 g3 => hex code g1 g2 hcz g3) hrel (kA hKρ) (fun fx' hfx => kF fx' hKρ (hfx (kL hKρ))) hall (T.wp_bind h)
              have earr : (cl.args.toList.map a.eval ++ cx).toArray = cl.args.map a.eval ++ cx.toArray := by apply Array.ext'; simp
              rw [earr] at hcall
              have hop : (execOp a.eval o).run P w = .ok (.enter g (cl.args.map a.eval ++ cx.toArray)) w := by
                simp only [execOp, ho, resolve, hcal, hfv, Deferred.ofValue, Sem.run_bind, Sem.run_pure, Result.andThen_ok, invoke, Array.empty_append, enter_of hfn hgo]
              refine ow_enterIn hop (fun c hc => by rw [ho] at hc; cases hc) (hcall.mono ?_)
              rintro e w' ⟨x, v, c', s', ρ', rfl, hv, hr, htm, hrel', hup⟩
              exact ⟨_, rfl, c', _, ρ', hr, putS_rel hrel' (dstOk_at hok) hv, hup⟩
            · cases hsp
          · cases hsp
        · cases hsp
      · cases hsp
    · exact h.elim
  · split at h
    · rename_i e p rd he
      obtain ⟨hp, hR⟩ := T.wp_needs h
      have := opEff_sound (rr := rr) (Q := Q) hsg (kA hKρ) (hst _ _ hgw0 hrel.bel) he hp hrel (fun t _ => rfl) (fun m _ => rfl) (fun m _ => rfl)
      refine Oper.wpIn_mono ?_ this
      rintro a' w' ⟨ρ', h1, h2⟩
      exact ⟨_, _, ρ', hR, h1, h2.up⟩
    · exact h.elim
theorem goX_sound {K : Ren → Prop} {cz : Nat} (hst : ∀ w w', gw w → Below w.heap.size w w' → gw w') (hgw0 : gw w0) (hsg : ∀ f σ, sg f = some σ → SumOK P G gw f σ)
    (kA : ∀ {ρ}, K ρ → Amb P G gw ρ) (kL : ∀ {ρ}, K ρ → LpOK w0 ρ) (kF : ∀ {ρ : Ren} fx', K ρ → LpOK w0 { ρ with fx := fx' } → K { ρ with fx := fx' }) (kU : ∀ {ρ ρ'}, K ρ → ρ.up cz ρ' → K ρ')
    (hy : ∀ k h, yh k = some h → HOK P w0 K cz k h) (hi : InlOK P w0 LV K cz inl) (hyk : ∀ k h, yh k = some h → HKeep h) (hik : ∀ g fn ex, inl g = some (fn, ex) → RKeep ex)
    {wk : Nat → Bool} {ops : Array Oper} {ρ0 : Ren} {R : St3 → Prop} : ∀ (l : List Oper) (i : Nat) {c : Nat} {s : S} {ρ : Ren} {a : Act} {w : World}, ops.toList.drop i = l → Rel w0 N ρ s a w → K ρ → cz ≤ c → ρ0.up cz ρ →
      (goX P G N sg yh inl wk ops l c s).wp R → wpOpsIn (Fd rr) 0 P ops (CP cz w0 N ρ0 R) (List.range' i (ops.size - i)) a w := by
  intro l
  induction l with
  | nil =>
    intro i c s ρ a w hl hrel hKρ hcz hup h
    have : ops.size ≤ i := by
      have := List.drop_eq_nil_iff.1 hl
      simpa using this
    rw [show ops.size - i = 0 by omega]
    exact ⟨c, s, ρ, h, hrel, hup⟩
  | cons o l ih =>
    intro i c s ρ a w hl hrel hKρ hcz hup h
    have hi' : i < ops.size := by
      have h1 : (ops.toList.drop i).length = (o :: l).length := by rw [hl]
      simp at h1; omega
    have ho : ops[i]? = some o := by
      have h1 : (ops.toList.drop i)[0]? = some o := by rw [hl]; rfl
      rw [List.getElem?_drop] at h1
      simpa using h1
    have hl' : ops.toList.drop (i + 1) = l := by
      have h1 : (ops.toList.drop i).drop 1 = l := by rw [hl]; rfl
      rw [List.drop_drop] at h1
      exact h1
    rw [show ops.size - i = (ops.size - (i + 1)) + 1 by omega, List.range'_succ, wpOpsIn_cons]
    have yes : ∀ s', Rel w0 N ρ s' a w → ((opX P G N sg yh inl wk o c s').bind fun r => goX P G N sg yh inl wk ops l r.1 r.2).wp R →
        o.wpIn (Fd rr) 0 P a w (wpOpsIn (Fd rr) 0 P ops (CP cz w0 N ρ0 R) (List.range' (i + 1) (ops.size - (i + 1)))) (CP cz w0 N ρ0 R) := by
      intro s' hrel' h'
      have hkc : (opX P G N sg yh inl wk o c s').all fun r => c ≤ r.1 := by
        unfold opX
        split
        · rename_i k hd args hsp
          split
          · have : yh k = some hd := by
              unfold spOf at hsp
              split at hsp
              · split at hsp
                · split at hsp
                  · split at hsp
                    · rename_i hyk'
                      simp only [Option.some.injEq, Sp.yl.injEq] at hsp
                      obtain ⟨rfl, rfl, rfl⟩ := hsp
                      exact hyk'
                    · cases hsp
                  · split at hsp <;> cases hsp
                  · cases hsp
                · cases hsp
              · cases hsp
            exact T.all_bind (T.all_mono (fun r hr => hr.1) (hyk k hd this args wk c s'))
          · trivial
        · rename_i fn ex args hsp
          split
          · have : ∃ g, inl g = some (fn, ex) := by
              unfold spOf at hsp
              split at hsp
              · split at hsp
                · split at hsp
                  · split at hsp <;> cases hsp
                  · split at hsp
                    · rename_i hig
                      simp only [Option.some.injEq, Sp.inl.injEq] at hsp
                      obtain ⟨rfl, rfl, rfl⟩ := hsp
                      exact ⟨_, hig⟩
                    · cases hsp
                  · cases hsp
                · cases hsp
              · cases hsp
            obtain ⟨g, hg⟩ := this
            exact T.all_bind (T.all_mono (fun r hr => hr.1) (callT_keep (hik g fn ex hg)))
          · trivial
        · split
          · refine T.all_needs ?_
            show c ≤ c + _
            omega
          · trivial
      have h1 := T.wp_all (T.wp_bind h') hkc
      refine Oper.wpIn_mono ?_ (opX_sound (rr := rr) hst hgw0 hsg kA kL kF hy hi hrel' hKρ hcz h1)
      rintro a' w' ⟨c', s2, ρ', ⟨hr, hc'⟩, hrel2, hup2⟩
      exact ih (i + 1) hl' hrel2 (kU hKρ (hup2.less hcz)) (Nat.le_trans hcz hc') (Ren.up_trans hup (hup2.less hcz)) hr
    have no : ∀ s', Rel w0 N ρ s' a w → (match dstOk N o with | true => goX P G N sg yh inl wk ops l c (putS o.dst (.tup []) s') | false => T.fail).wp R →
        wpOpsIn (Fd rr) 0 P ops (CP cz w0 N ρ0 R) (List.range' (i + 1) (ops.size - (i + 1))) (a.put o.dst undef) w := by
      intro s' hrel' h'
      split at h'
      · rename_i hok
        exact ih (i + 1) hl' (putS_rel hrel' (dstOk_at hok) (v := .tup []) (x := undef) ⟨[], .nil, rfl⟩) hKρ hcz hup h'
      · exact h'.elim
    unfold wpOpIn
    rw [ho]
    simp only
    simp only [goX, guardX] at h
    split at h
    · rename_i hg
      rw [if_pos (by simp [Region.wanted, hg])]
      exact yes s hrel h
    · rename_i k want hg
      split at h
      · rename_i d hd
        have hd' : (ops[k]?).bind (·.dst) = some d := hd
        have hyb : ∀ b, s.tm d = some (.a (.c (.lit b))) ∨ s.tm d = some (.a (.c (.bool b))) → yielded ops a.tmps k = some b := by
          intro b hb
          have : d < N ∧ a.tmps.getD d undef = .bool b := by
            rcases hb with hb | hb
            · exact hrel.tm d _ hb
            · exact hrel.tm d _ hb
          obtain ⟨hlt, hv'⟩ := this
          have : a.tmps[d]? = some (.bool b) := by
            rw [Array.getD_eq_getD_getElem?] at hv'
            have hlt' : d < a.tmps.size := by rw [hrel.sz]; exact hlt
            rw [Array.getElem?_eq_getElem hlt'] at hv' ⊢
            simpa using hv'
          simp [yielded, hd', this]
        split at h
        · rename_i b hb
          have hy := hyb b (.inl hb)
          split at h
          · rename_i hw
            have : b = want := by simpa using hw
            subst this
            rw [if_pos (by simp [Region.wanted, hg, hy])]
            exact yes s hrel h
          · rename_i hw
            rw [if_neg (by simp [Region.wanted, hg, hy]; simpa using hw)]
            exact ⟨fun _ _ => trivial, no s hrel h⟩
        · rename_i b hb
          have hy := hyb b (.inr hb)
          have hl := lit_rel hrel hb
          cases b with
          | true =>
            have g := h.1 rfl
            split at g
            · rename_i hw
              have : true = want := by simpa using hw
              subst this
              rw [if_pos (by simp [Region.wanted, hg, hy])]
              exact yes _ hl g
            · rename_i hw
              rw [if_neg (by simp [Region.wanted, hg, hy]; simpa using hw)]
              exact ⟨fun _ _ => trivial, no _ hl g⟩
          | false =>
            have g := h.2 rfl
            split at g
            · rename_i hw
              have : false = want := by simpa using hw
              subst this
              rw [if_pos (by simp [Region.wanted, hg, hy])]
              exact yes _ hl g
            · rename_i hw
              rw [if_neg (by simp [Region.wanted, hg, hy]; simpa using hw)]
              exact ⟨fun _ _ => trivial, no _ hl g⟩
        · rename_i hb
          obtain ⟨hlt, hv⟩ := hrel.tm d _ hb
          have hv' : a.tmps.getD d undef = .tuple #[] := by
            obtain ⟨ys, h1, h2⟩ := hv
            cases h1
            exact h2
          have hy : yielded ops a.tmps k = none := by
            have : a.tmps[d]? = some (.tuple #[]) := by
              rw [Array.getD_eq_getD_getElem?] at hv'
              have hlt' : d < a.tmps.size := by rw [hrel.sz]; exact hlt
              rw [Array.getElem?_eq_getElem hlt'] at hv' ⊢
              simpa using hv'
            simp [yielded, hd', this]
          rw [if_neg (by simp [Region.wanted, hg, hy])]
          exact ⟨fun _ _ => trivial, no s hrel h⟩
        · exact h.elim
      · exact h.elim
end
end Go.V
end
section
set_option linter.unusedVariables false
set_option linter.unusedSimpArgs false
namespace Go.V
open Go.RowKit (Below)
/-- What runs a region: in the text's order with calls of yield and calls carried out here; or in whatever order. -/
def rxD (P : Program) (G : GT) (N : Nat) (sg : FuncId → Option Sm) (fuel : Nat) (yh : Nat → Option YH) (inl : FuncId → Option (Func × Run)) : RX := fun ops draw wk c s =>
  match draw with
  | true => rtree P G N sg ops true wk c s fuel (fun _ => none)
  | false => goX P G N sg yh inl wk ops ops.toList c s
def inlOf (P : Program) (inS : List Nat) (ex : FuncId → Func → Run) : FuncId → Option (Func × Run) := fun g =>
  match memN inS g, P.funcs[g]? with
  | true, some fn => (match isGo fn with | true => some (fn, ex g fn) | false => none)
  | _, _ => none
/-- A function's code: calls of the functions inS and loops over functions are carried out here, so deep; k: the level of the next loop over a function. -/
def execD (P : Program) (G : GT) (sg : FuncId → Option Sm) (an : Nat → An) (inS : List Nat) (LV fuel : Nat) : Nat → Nat → (Nat → Option YH) → FuncId → Func → Run
  | 0, _, _, _, _ => fun _ _ _ _ => .fail
  | d + 1, k, yh, f, fn => exec G fn.ntmps (an f) LV (rxD P G fn.ntmps sg fuel yh (inlOf P inS (execD P G sg an inS LV fuel d k yh)))
      (rfX P G fn.ntmps k LV (exec G fn.ntmps (an f) LV (rxD P G fn.ntmps sg fuel yh (inlOf P inS (execD P G sg an inS LV fuel d LV yh))) rf0 fuel)
        (fun h gf gfn => execD P G sg an inS LV fuel d (k + 1) (upd yh k (some h)) gf gfn)) fuel
section
variable {P : Program} {G : GT} {N : Nat} {rr : Option Nat} {sg : FuncId → Option Sm} {yh : Nat → Option YH} {inl : FuncId → Option (Func × Run)} {gw : World → Prop} {w0 : World} {LV : Nat} {a : Act} {w : World} {Q : Exit → Act → World → Prop}
theorem putS_tm {dst : Option Tmp} {v : V} {s : S} {t : Nat} (h : dst ≠ some t) : (putS dst v s).tm t = s.tm t := by
  cases dst with
  | none => rfl
  | some d => exact upd_ne _ _ (fun e => h (by rw [e]))
theorem spOf_yl {o : Oper} {s : S} {k : Nat} {h : YH} {args : List A} (e : spOf G yh inl o s = some (.yl k h args)) : yh k = some h := by
  unfold spOf at e
  split at e
  · split at e
    · split at e
      · split at e
        · rename_i hyk'
          simp only [Option.some.injEq, Sp.yl.injEq] at e
          obtain ⟨rfl, rfl, rfl⟩ := e
          exact hyk'
        · cases e
      · split at e <;> cases e
      · cases e
    · cases e
  · cases e
theorem spOf_inl {o : Oper} {s : S} {fn : Func} {ex : Run} {args : List A} (e : spOf G yh inl o s = some (.inl fn ex args)) : ∃ g, inl g = some (fn, ex) := by
  unfold spOf at e
  split at e
  · split at e
    · split at e
      · split at e <;> cases e
      · split at e
        · rename_i hig
          simp only [Option.some.injEq, Sp.inl.injEq] at e
          obtain ⟨rfl, rfl, rfl⟩ := e
          exact ⟨_, hig⟩
        · cases e
      · cases e
    · cases e
  · cases e
theorem opX_keep {wk : Nat → Bool} (hyk : ∀ k h, yh k = some h → HKeep h) (hik : ∀ g fn ex, inl g = some (fn, ex) → RKeep ex) {o : Oper} {c : Nat} {s : S} :
    (opX P G N sg yh inl wk o c s).all fun r => c ≤ r.1 ∧ (∀ t, o.dst ≠ some t → r.2.tm t = s.tm t) ∧ ∀ m, m < c → wk m = false → r.2.hp m = s.hp m := by
  unfold opX
  split
  · rename_i k hd args hsp
    split
    · refine T.all_bind (T.all_mono ?_ (hyk k hd (spOf_yl hsp) args wk c s))
      rintro ⟨b, c1, s1⟩ ⟨h1, h2, h3⟩
      exact ⟨h1, fun t ht => (putS_tm ht).trans (congrFun h2 t), h3⟩
    · trivial
  · rename_i fn ex args hsp
    split
    · obtain ⟨g, hg⟩ := spOf_inl hsp
      refine T.all_bind (T.all_mono ?_ (callT_keep (hik g fn ex hg)))
      rintro ⟨v, c1, s1⟩ ⟨h1, h2, h3⟩
      exact ⟨h1, fun t ht => (putS_tm ht).trans (congrFun h2 t), h3⟩
    · trivial
  · split
    · rename_i e p rd hop
      refine T.all_needs ?_
      refine ⟨Nat.le_add_right _ _, fun t ht => doit_tm_ne (o.dst, ⟨c, e, rd⟩) s t ht, fun m hm hw => doit_hp_ne (o.dst, ⟨c, e, rd⟩) s m ?_⟩
      simp only [Rec.touch]
      cases e with
      | none => simp
      | some f =>
        simp only [List.mem_append, mem_names, not_or, List.mem_map, not_exists, not_and]
        refine ⟨fun q hq hqm => ?_, by omega⟩
        have hst : stepA P G N sg wk #[{ o with guard := none }] (fun _ => none) 0 c { o with guard := none } s = .ok (some f) p rd := hop
        have := stepA_keeps hst f rfl q hq
        rw [hqm, hw] at this; cases this
    · trivial
theorem goX_keep {wk : Nat → Bool} (hyk : ∀ k h, yh k = some h → HKeep h) (hik : ∀ g fn ex, inl g = some (fn, ex) → RKeep ex) {id : Nat} {ops : Array Oper} {draw : Bool} :
    ∀ (l : List Oper) {c : Nat} {s : S}, (∀ o, o ∈ l → o ∈ ops.toList) → (goX P G N sg yh inl wk ops l c s).all (Keeps c s wk (dsts (.region id ops draw))) := by
  have hdst : ∀ {o : Oper} {t : Nat}, o ∈ ops.toList → memN (dsts (.region id ops draw)) t = false → o.dst ≠ some t := by
    intro o t ho ht hd
    have : memN (dsts (.region id ops draw)) t = true := memN_iff.2 (by simp only [dsts, List.mem_filterMap]; exact ⟨o, ho, hd⟩)
    rw [ht] at this; cases this
  intro l
  induction l with
  | nil => intro c s _; exact Keeps.refl _ _ _ _ _
  | cons o l ih =>
    intro c s hmem
    have hin := hmem o (List.mem_cons_self ..)
    have ih' := fun {c : Nat} {s : S} => ih (c := c) (s := s) (fun o' ho' => hmem o' (List.mem_cons_of_mem _ ho'))
    have yes : ∀ s', (∀ t, memN (dsts (.region id ops draw)) t = false → s'.tm t = s.tm t) → s'.hp = s.hp →
        ((opX P G N sg yh inl wk o c s').bind fun r => goX P G N sg yh inl wk ops l r.1 r.2).all (Keeps c s wk (dsts (.region id ops draw))) := by
      intro s' h1 h2
      refine T.all_bind (T.all_mono ?_ (opX_keep hyk hik))
      rintro ⟨c1, s1⟩ ⟨g1, g2, g3⟩
      refine T.all_mono ?_ (ih' (c := c1) (s := s1))
      rintro r ⟨k1, k2, k3⟩
      exact ⟨Nat.le_trans g1 k1, fun t ht => ((k2 t ht).trans (g2 t (hdst hin ht))).trans (h1 t ht), fun m hm hw => ((k3 m (Nat.lt_of_lt_of_le hm g1) hw).trans (g3 m hm hw)).trans (by rw [h2])⟩
    have no : ∀ s', (∀ t, memN (dsts (.region id ops draw)) t = false → s'.tm t = s.tm t) → s'.hp = s.hp →
        (match dstOk N o with | true => goX P G N sg yh inl wk ops l c (putS o.dst (.tup []) s') | false => T.fail).all (Keeps c s wk (dsts (.region id ops draw))) := by
      intro s' h1 h2
      split
      · refine T.all_mono ?_ (ih' (c := c) (s := putS o.dst (.tup []) s'))
        rintro r ⟨k1, k2, k3⟩
        exact ⟨k1, fun t ht => ((k2 t ht).trans (putS_tm (hdst hin ht))).trans (h1 t ht), fun m hm hw => (k3 m hm hw).trans (by show s'.hp m = s.hp m; rw [h2])⟩
      · trivial
    simp only [goX, guardX]
    split
    · exact yes s (fun _ _ => rfl) rfl
    · rename_i k want hg
      split
      · rename_i d hd
        split
        · split
          · exact yes s (fun _ _ => rfl) rfl
          · exact no s (fun _ _ => rfl) rfl
        · rename_i b hb
          have hput : ∀ v, ∀ t, memN (dsts (.region id ops draw)) t = false → (putS (some d) v s).tm t = s.tm t := by
            intro v t ht
            refine putS_tm ?_
            intro e
            unfold dstOf at hd
            obtain ⟨o', ho', hdo⟩ := Option.bind_eq_some_iff.1 hd
            have hm : o' ∈ ops.toList := by
              have := Array.mem_of_getElem? ho'
              exact this.1
            exact hdst hm ht (by rw [hdo, e])
          refine ⟨?_, ?_⟩
          · split
            · exact yes _ (hput _) rfl
            · exact no _ (hput _) rfl
          · split
            · exact yes _ (hput _) rfl
            · exact no _ (hput _) rfl
        · exact no s (fun _ _ => rfl) rfl
        · trivial
      · trivial
theorem rxD_keep {fuel : Nat} (hyk : ∀ k h, yh k = some h → HKeep h) (hik : ∀ g fn ex, inl g = some (fn, ex) → RKeep ex) (id : Nat) (ops : Array Oper) (draw : Bool) (wk : Nat → Bool) (c : Nat) (s : S) :
    (rxD P G N sg fuel yh inl ops draw wk c s).all (Keeps c s wk (dsts (.region id ops draw))) := by
  unfold rxD
  split
  · exact rtree_keeps
  · exact goX_keep hyk hik _ (fun _ h => h)
theorem exec_rkeep {an : An} {rx : RX} {rf : RF} (hxk : ∀ id ops draw wk c s, (rx ops draw wk c s).all (Keeps c s wk (dsts (.region id ops draw)))) (hfk : ∀ g ps x y wk c s, (rf g ps x y wk c s).all (Keeps c s wk [])) (fuel : Nat) :
    RKeep (exec G N an LV rx rf fuel) := fun code wk c s => T.all_mono (fun r hr => ⟨hr.1, hr.2.2⟩) (exec_keeps hxk hfk fuel code wk c s)
theorem rf0_keep (g : Operand) (ps : Array Tmp) (x y : Code) (wk : Nat → Bool) (c : Nat) (s : S) : (rf0 g ps x y wk c s).all (Keeps c s wk []) := trivial
theorem inlOf_spec {inS : List Nat} {ex : FuncId → Func → Run} {g : FuncId} {fn : Func} {e : Run} (h : inlOf P inS ex g = some (fn, e)) : P.funcs[g]? = some fn ∧ isGo fn = true ∧ e = ex g fn := by
  unfold inlOf at h
  split at h
  · rename_i fn' _ hf
    split at h
    · rename_i hg
      simp only [Option.some.injEq, Prod.mk.injEq] at h
      obtain ⟨rfl, rfl⟩ := h
      exact ⟨hf, hg, rfl⟩
    · cases h
  · cases h
theorem upd_yh {yh : Nat → Option YH} {p : YH → Prop} (h0 : ∀ j h, yh j = some h → p h) {k : Nat} {h : YH} (hh : p h) : ∀ j h', upd yh k (some h) j = some h' → p h' := by
  intro j h' hj
  by_cases e : j = k
  · subst e; rw [upd_same] at hj; cases hj; exact hh
  · rw [upd_ne _ _ e] at hj; exact h0 j h' hj
variable {an : Nat → An} {inS : List Nat} {fuel : Nat}
theorem execD_keep : ∀ (d k : Nat) (yh : Nat → Option YH) (f : FuncId) (fn : Func), (∀ j h, yh j = some h → HKeep h) → RKeep (execD P G sg an inS LV fuel d k yh f fn) := by
  intro d
  induction d with
  | zero => intro k yh f fn _ code wk c s; simp only [execD]; trivial
  | succ d ih =>
    intro k yh f fn hy
    simp only [execD]
    refine exec_rkeep (rxD_keep hy ?_) (rfX_keep (exec_rkeep (rxD_keep hy ?_) rf0_keep fuel) ?_) fuel
    · intro g fn' e he
      obtain ⟨_, _, rfl⟩ := inlOf_spec he
      exact ih k yh g fn' hy
    · intro g fn' e he
      obtain ⟨_, _, rfl⟩ := inlOf_spec he
      exact ih LV yh g fn' hy
    · intro h gf gfn hh
      exact ih (k + 1) _ gf gfn (upd_yh hy hh)
theorem CP.less {cz c : Nat} {ρ : Ren} {R : St3 → Prop} (hc : cz ≤ c) : ∀ e a w, CP c w0 N ρ R e a w → CP cz w0 N ρ R e a w := by
  intro e a w h
  cases e <;> simp only [CP] at h ⊢
  all_goals (try exact h)
  all_goals (obtain ⟨c', s, ρ', h1, h2, h3⟩ := h; exact ⟨c', s, ρ', h1, h2, h3.less hc⟩)
theorem execD_sound (E : Env P G sg gw) (hgw0 : gw w0) : ∀ (d k : Nat) (yh : Nat → Option YH) (f : FuncId) (fn : Func) {K : Ren → Prop} {cz : Nat}, KOK P G gw w0 LV cz K → (∀ j h, yh j = some h → HOK P w0 K cz j h) → (∀ j h, yh j = some h → HKeep h) →
    ∀ (code : Code) {wk : Nat → Bool} {c : Nat} {s : S} {R : St3 → Prop} {ρ : Ren} {a : Act} {w : World}, Rel w0 fn.ntmps ρ s a w → K ρ → (∀ j l r, ρ.lp j = some (l, r) → j < k) → cz ≤ c → (execD P G sg an inS LV fuel d k yh f fn code wk c s).wp R →
      code.wpIn (Fd none) 0 P (CP c w0 fn.ntmps ρ R) a w := by
  intro d
  induction d with
  | zero => intro k yh f fn K cz _ _ _ code wk c s R ρ a w _ _ _ _ h; simp only [execD] at h; exact h.elim
  | succ d ih =>
    intro k yh f fn K cz hK hH hY code wk c s R ρ a w hrel hKρ hlv hcz h
    simp only [execD] at h
    have keepI : ∀ k, ∀ g fn' e, inlOf P inS (execD P G sg an inS LV fuel d k yh) g = some (fn', e) → RKeep e := by
      intro k g fn' e he
      obtain ⟨_, _, rfl⟩ := inlOf_spec he
      exact execD_keep d k yh g fn' hY
    -- regions, at any level
    have regions : ∀ (rr : Option Nat) (k : Nat) (K1 : Ren → Prop) (cz1 : Nat), (∀ ρ, K1 ρ → K ρ ∧ ∀ j l r, ρ.lp j = some (l, r) → j < k) → (∀ {ρ : Ren} fx', K1 ρ → LpOK w0 { ρ with fx := fx' } → K1 { ρ with fx := fx' }) → (∀ {ρ ρ'}, K1 ρ → ρ.up cz1 ρ' → K1 ρ') → cz ≤ cz1 →
        ∀ {id : Nat} {ops : Array Oper} {draw : Bool} {wk : Nat → Bool} {c : Nat} {s : S} {R : St3 → Prop} {ρ : Ren} {a : Act} {w : World}, Rel w0 fn.ntmps ρ s a w → K1 ρ → cz1 ≤ c →
          (rxD P G fn.ntmps sg fuel yh (inlOf P inS (execD P G sg an inS LV fuel d k yh)) ops draw wk c s).wp R → (Code.region id ops draw).wpIn (Fd rr) 0 P (CP cz1 w0 fn.ntmps ρ R) a w := by
      intro rr k K1 cz1 hK1 hF hU hc1 id ops draw wk c s R ρ a w hrel hKρ hcz h
      unfold rxD at h
      split at h
      · exact rtree_sound E hgw0 hrel (hK.amb (hK1 _ hKρ).1) h
      · refine wpIn_region ?_
        have := goX_sound (rr := rr) (LV := LV) (K := K1) (cz := cz1) E.stable hgw0 E.sums (fun h => hK.amb (hK1 _ h).1) (fun h => hK.lpk (hK1 _ h).1) hF hU (fun k h e => (hH k h e).less (fun ρ hρ => (hK1 ρ hρ).1) hc1)
          (inl := inlOf P inS (execD P G sg an inS LV fuel d k yh)) (fun g fn' e he => by
            obtain ⟨h1, h2, rfl⟩ := inlOf_spec he
            exact ⟨h1, h2, fun code {wk c s R ρ a w} g1 g2 g3 g4 => ih k yh g fn' hK hH hY code g1 (hK1 _ g2).1 (hK1 _ g2).2 (Nat.le_trans hc1 g3) g4⟩) hY (keepI k) (ρ0 := ρ) (R := R) ops.toList 0 rfl hrel hKρ hcz (Ren.up_refl _) h
        rw [List.range_eq_range']
        exact this
    refine exec_sound (gw := gw) (rr := none) (cz := c) (K := fun ρ => K ρ ∧ ∀ j l r, ρ.lp j = some (l, r) → j < k) ?_ fuel code hrel ⟨hKρ, hlv⟩ (Nat.le_refl _) h
    refine ⟨fun h => hK.amb h.1, fun h => hK.lvl h.1, fun h hle => ⟨hK.up h.1 (hle.less hcz), lv_up h.2 hle⟩, rxD_keep hY (keepI k), ?_, ?_, ?_⟩
    · refine rfX_keep (exec_rkeep (rxD_keep hY (keepI LV)) rf0_keep fuel) ?_
      intro h gf gfn hh
      exact execD_keep d (k + 1) _ gf gfn (upd_yh hY hh)
    · intro id ops draw wk c1 s R ρ a w g1 g2 g3 g4
      exact regions none k _ c (fun ρ h => h) (fun fx' h hL => ⟨hK.fxs fx' h.1 hL, h.2⟩) (fun h hle => ⟨hK.up h.1 (hle.less hcz), lv_up h.2 hle⟩) hcz g1 g2 g3 g4
    · intro g ps x y wk c1 s R ρ a w g1 g2 g3 g4
      refine wpIn_mono (rfX_sound hK ?_ (exec_rkeep (rxD_keep hY (keepI LV)) rf0_keep fuel) ?_ g1 g2.1 g2.2 (Nat.le_trans hcz g3) g4) (CP.less g3)
      · intro l code wk c s R ρ a w q1 q2 q3 q4
        refine exec_sound (gw := gw) (rr := some l) (cz := c) (K := K) ?_ fuel code q1 q2 (Nat.le_refl _) q4
        refine ⟨hK.amb, hK.lvl, fun h hle => hK.up h (hle.less q3), rxD_keep hY (keepI LV), rf0_keep, ?_, fun _ _ _ h => h.elim⟩
        intro id ops draw wk c1 s R ρ a w r1 r2 r3 r4
        exact regions (some l) LV K c (fun ρ h => ⟨h, hK.lvl h⟩) hK.fxs (fun h hle => hK.up h (hle.less q3)) q3 r1 r2 r3 r4
      · intro h gf gfn K' c' hK' hKK hcc hHh hHk code wk c s R ρ a w q1 q2 q3 q4 q5
        refine ih (k + 1) (upd yh k (some h)) gf gfn hK' ?_ (upd_yh hY hHk) code q1 q2 q3 q4 q5
        intro j h' hj
        by_cases e : j = k
        · subst e; rw [upd_same] at hj; cases hj; exact hHh
        · rw [upd_ne _ _ e] at hj; exact (hH j h' hj).less hKK hcc
end
section
variable (P : Program) (G : GT) (sg : FuncId → Option Sm) (an : Nat → An) (inS : List Nat)
/-- A function's ways, with calls and loops over functions carried out within. -/
def runFnX (LV fuel d : Nat) (f : FuncId) (fn : Func) (ags : List Ag) : T (List Ar) :=
  match fn.body with
  | some code => (execD P G sg an inS LV fuel d 0 (fun _ => none) f fn code (fun _ => true) 0 (args0 ags)).bind fun r => match r with
    | (.exit _, _, _) => .fail
    | (_, _, s) => (match resL P s fn.results.toList with
      | some ps => (match finAs P s ps with | some (rs, p) => T.needs p (.ret rs) | none => .fail)
      | none => .fail)
  | none => .fail
end
section
variable {P : Program} {G : GT} {gw : World → Prop} {sg : FuncId → Option Sm} {an : Nat → An} {inS : List Nat}
/-- THE RUN OF A FUNCTION, out of its tree. -/
theorem fnX_sound (E : Env P G sg gw) {f : FuncId} {fn : Func} (hf : P.funcs[f]? = some fn) {LV fuel d : Nat} {ags : List Ag} {xs : List Value} {w : World} {κ : Still} {r : List Ar}
    (hgw : gw w) (hl : Lies κ w) (hG : GIn G κ) (hx : F2 (Ag.rel P gw κ) ags xs) (hlen : Nat.ble ags.length fn.ntmps = true)
    (h : (runFnX P G sg an inS LV fuel d f fn ags).wp (fun rs => rsEqv rs r)) : Calls P f xs.toArray w (Back κ r w) := by
  unfold runFnX at h
  split at h
  · rename_i code hb
    refine (callsIn_wide (n := 0)).1 (callsIn_of_wp_marks (F := Fence.wide) hf hb trivial ?_)
    have hlen' := Nat.le_of_ble_eq_true hlen
    have hxl := f2_len hx
    obtain ⟨ρ, hρ⟩ : ∃ ρ : Ren, ρ = { nm := fun _ => none, κ := κ, cl := fun φ x => CloOK P gw κ φ x, k0 := κ, fx := fun _ => none, lp := fun _ => none } := ⟨_, rfl⟩
    have hx' : F2 (A.rel ρ) (ags.map agA) xs := by
      refine agA_f2 ?_ (by rw [hρ]; exact hx)
      rw [hρ]; exact fun φ x h => h
    have hrel : Rel w fn.ntmps ρ (args0 ags) { tmps := xs.toArray ++ Array.replicate (fn.ntmps - xs.toArray.size) undef, defers := [] } w := by
      refine ⟨by simp; omega, Below.refl _ _, ⟨[], rfl, List.nodup_nil, fun D hD => by cases hD⟩, ?_, ?_, ?_, ?_, ?_, ?_, ?_, by rw [hρ]; exact fun b o hb => (by cases hb), by rw [hρ]; exact fun k l r hk => (by cases hk), fun d D hd => (by cases hd)⟩
      · intro t v ht
        simp only [args0] at ht
        split at ht
        · rename_i g hg
          simp only [Option.some.injEq] at ht; subst ht
          have hg' : (ags.map agA)[t]? = some (agA g) := by simp [hg]
          obtain ⟨x, hxt, hr⟩ := f2_get hx' hg'
          have hlt : t < xs.length := (List.getElem?_eq_some_iff.1 hxt).1
          refine ⟨by omega, ?_⟩
          rw [Array.getD_eq_getD_getElem?, Array.getElem?_append, if_pos (by simpa using hlt)]
          simp only [List.getElem?_toArray, hxt, Option.getD_some]
          exact hr
        · cases ht
      · intro m hm; rw [hρ]
      · intro m k hm; simp [args0] at hm
      · intro m m' k k' b b' hm; simp [args0] at hm
      · rw [hρ]; exact hl
      · intro m k b o hm; simp [args0] at hm
      · intro b o v hv _; rw [hρ] at hv ⊢; exact hv
    have hamb : Amb P G gw ρ := by
      refine ⟨fun g n F e => ⟨⟨g, 0, none⟩, rfl, rfl, ?_⟩, ?_⟩
      · rw [hρ]; exact hG g n F e
      · rw [hρ]; exact fun φ x h => h
    have hK0 : KOK P G gw w LV 0 (fun ρ => Amb P G gw ρ ∧ LpOK w ρ ∧ ∀ k l r, ρ.lp k = some (l, r) → k < LV) := by
      refine ⟨fun h => h.1, fun h => h.2.1, fun h => h.2.2, fun h hle => ⟨h.1.up hle, h.2.1.up hle, lv_up h.2.2 hle⟩, fun fx' h hL => ⟨h.1.fxs, hL, h.2.2⟩, fun k p h hn hk hL => ⟨⟨h.1.gl, h.1.cl⟩, hL, fun j l r hj => ?_⟩⟩
      rename_i ρa
      by_cases e : j = k
      · omega
      · have hj : upd ρa.lp k (some p) j = some (l, r) := hj
        rw [upd_ne _ _ e] at hj
        exact h.2.2 j l r hj
    have hlp0 : ρ.lp = fun _ => none := by rw [hρ]
    refine wpIn_mono (execD_sound E hgw d 0 (fun _ => none) f fn hK0 (fun j h hj => by cases hj) (fun j h hj => by cases hj) code hrel ⟨hamb, ⟨fun k l r hk => (by rw [hlp0] at hk; cases hk), fun k l r hk => (by rw [hlp0] at hk; cases hk), fun k j l r q hk => (by rw [hlp0] at hk; cases hk)⟩, fun k l r hk => (by rw [hlp0] at hk; cases hk)⟩ (fun k l r hk => (by rw [hlp0] at hk; cases hk)) (Nat.le_refl _) (T.wp_bind h)) ?_
    have fin : ∀ (s : S) (ρ' : Ren), ρ.up 0 ρ' → (match resL P s fn.results.toList with | some ps => (match finAs P s ps with | some (rs, p) => T.needs p (.ret rs) | none => T.fail) | none => T.fail).wp (fun rs => rsEqv rs r) →
        ∀ (Ds : List Nat) (a' : Act) (w' : World), a'.defers = Ds.map (fun D => { target := .collected D, args := #[] }) → Rel w fn.ntmps ρ' s a' w' → LeavesInM Fence.wide 0 P fn a'.tmps (Back κ r w) a'.defers .returning w' := by
      intro s ρ' hle hr Ds
      have hk0 : ρ'.k0 = κ := by rw [hle.k0, hρ]
      induction Ds with
      | nil =>
        intro a' w' hd hrel'
        rw [hd]
        split at hr
        · rename_i ps hps
          split at hr
          · rename_i rs p hrs
            obtain ⟨hp, heq⟩ := T.wp_needs hr
            have hview : View G ρ' s a' w' := ⟨fun t v ht => (hrel'.tm t v ht).2, fun m k hk => by obtain ⟨b, h1, h2, h3, _⟩ := hrel'.hp m k hk; exact ⟨b, h1, h2, h3⟩, hrel'.im, (hamb.up hle).gl⟩
            obtain ⟨x, hx1, hx2⟩ := results_sound hrel' hview hps hrs hp
            rw [hk0] at hx2
            refine ⟨x, hx1, x, endK κ w.heap.size w', rfl, ?_, ?_, ?_, rsEqv_rel heq hx2, hrel'.bel⟩
            · intro b o v hv
              have hlt := (hl b o v hv).1
              unfold endK
              rw [if_neg (by omega)]; exact hv
            · intro b o v hv
              unfold endK at hv
              split at hv
              · split at hv
                · rename_i hlt; exact ⟨hlt, hv⟩
                · cases hv
              · exact lies_back (κ' := κ) hl hrel'.bel b o v hv
            · intro b o v hv
              unfold endK at hv
              split at hv
              · rename_i hge; exact .inr hge
              · exact .inl hv
          · exact hr.elim
        · exact hr.elim
      | cons D Ds ih =>
        intro a' w' hd hrel'
        rw [hd]
        obtain ⟨w2, htake, hrel2⟩ := taken (P := P) hrel' hd
        refine ⟨by simp, .inl ⟨D, w2, rfl, htake, ?_⟩⟩
        have := ih { a' with defers := Ds.map (fun D => { target := .collected D, args := #[] }) } w2 rfl hrel2
        exact this
    intro e a' w' hc
    cases e <;> simp only [CP, bodyPostM] at hc ⊢
    case normal =>
      obtain ⟨c', s', ρ', hr, hrel', hle⟩ := hc
      obtain ⟨Ds, hDs, _⟩ := hrel'.df
      exact fin s' ρ' hle hr Ds a' w' hDs hrel'
    case ret =>
      obtain ⟨c', s', ρ', hr, hrel', hle⟩ := hc
      obtain ⟨Ds, hDs, _⟩ := hrel'.df
      exact fin s' ρ' hle hr Ds a' w' hDs hrel'
    case exit id => obtain ⟨c', s', ρ', hr, hrel', hle⟩ := hc; exact hr.elim
  · exact h.elim
/-- THE END of a contract's proof. -/
theorem fokX_fin {sl : List (Nat × Sm)} (hmix : P.follows .mixedOrders = true) (hst : ∀ w w', gw w → Below w.heap.size w w' → gw w') (hS : AllS P G gw sl) {f : FuncId} {fn : Func} (hf : P.funcs[f]? = some fn) {LV fuel d : Nat} {ags ags' : List Ag} {xs : List Value} {w : World} {κ : Still} {r : List Ar} {t : T (List Ar)}
    (hgw : gw w) (hl : Lies κ w) (hG : GIn G κ) (hx : F2 (Ag.rel P gw κ) ags xs) (heq : agsEqv ags ags') (hlen : Nat.ble ags'.length fn.ntmps = true)
    (ht : runFnX P G (lookS sl) an inS LV fuel d f fn ags' = t) (h : t.wp (fun rs => rsEqv rs r)) : Calls P f xs.toArray w (Back κ r w) :=
  fnX_sound ⟨hmix, fun f σ hs => lookS_ok hS f σ hs, hst⟩ hf hgw hl hG (agsEqv_rel heq hx) hlen (by rw [ht]; exact h)
end
end Go.V
end
end

section
namespace Go.Fl.M
@[reducible] def W (n : Int) : Int := IntKind.i64.wrap n
structure Rg where
  lo : Int
  hi : Int
structure Wine where
  v0 : Int
  v1 : Int
  s0 : Int
  s1 : Int
  c0 : Int
  c1 : Int
structure Rate where
  a : Int
  b : Int
  c : Int
  d : Int
def Wine.v (w : Wine) : Rg := ⟨w.v0, w.v1⟩
def Wine.s (w : Wine) : Rg := ⟨w.s0, w.s1⟩
def Wine.c (w : Wine) : Rg := ⟨w.c0, w.c1⟩
def Rate.w (r : Rate) : Rg := ⟨r.a, r.b⟩
def Rate.al (r : Rate) : Rg := ⟨r.c, r.d⟩
def Wine.mk3 (v s c : Rg) : Wine := ⟨v.lo, v.hi, s.lo, s.hi, c.lo, c.hi⟩
def wine0 : Wine := ⟨0, 0, 0, 0, 0, 0⟩
def rate0 : Rate := ⟨0, 0, 0, 0⟩
def rg0 : Rg := ⟨0, 0⟩
def within (n lo hi : Int) : Bool := cond (decide (lo ≤ n)) (decide (n ≤ hi)) false
def unl (ok : Bool) (e : Int) : Int := cond ok 0 e
def first : List Int → Int
  | [] => 0
  | e :: l => cond (e != 0) e (first l)
def floor (n b : Int) : Int := cond (decide (n.tmod b < 0)) (W (W (n.tdiv b) - 1)) (W (n.tdiv b))
def ceiling (n b : Int) : Int := W (0 - floor (W (0 - n)) b)
def spanErr (r : Rg) (most : Int) : Int := first [unl (cond (within r.lo 0 most) (within r.hi 0 most) false) 2, unl (decide (r.lo ≤ r.hi)) 9]
def maxI (x y : Int) : Int := if y > x then y else x
def minI (x y : Int) : Int := if y < x then y else x
def common (a b : Rg) : Rg := ⟨maxI a.lo b.lo, minI a.hi b.hi⟩
def rgOk (a : Rg) : Bool := decide (a.lo ≤ a.hi)
def rgIn (a b : Rg) : Bool := cond (decide (b.lo ≤ a.lo)) (decide (a.hi ≤ b.hi)) false
def checkWine (w : Wine) : Int := cond (spanErr w.v 100000 != 0) (spanErr w.v 100000) (cond (spanErr w.s 10000 != 0) (spanErr w.s 10000) (cond (spanErr w.c 100000 != 0) (spanErr w.c 100000) 0))
def checkRate (r : Rate) : Int := first [spanErr r.w 2000, spanErr r.al 2000]
def checkLaw (x : Rate) : Int := first [spanErr x.w 10000, spanErr x.al 100000]
def daysErr (d : Int) : Int := unl (within d 0 365) 2
def strengthErr (n : Int) : Int := unl (within n 0 10000) 2
def left (r : Rg) (d : Int) : Rg := ⟨W (1000000 - W (r.hi * d)), W (1000000 - W (r.lo * d))⟩
def after (w : Wine) (r : Rate) (d : Int) : Wine :=
  ⟨floor (W (w.v0 * (left r.w d).lo)) 1000000, ceiling (W (w.v1 * (left r.w d).hi)) 1000000,
   floor (W (w.s0 * (left r.al d).lo)) (left r.w d).hi, ceiling (W (w.s1 * (left r.al d).hi)) (left r.w d).lo,
   floor (W (w.c0 * 1000000)) (left r.w d).hi, ceiling (W (w.c1 * 1000000)) (left r.w d).lo⟩
def taskErr (w : Wine) (r : Rate) (d : Int) : Int := first [checkWine w, checkRate r, daysErr d]
def After (w : Wine) (r : Rate) (d : Int) : Wine × Int :=
  cond (taskErr w r d != 0) (wine0, taskErr w r d)
    (cond (decide ((after w r d).s1 > 10000)) (wine0, 8) (cond (decide ((after w r d).c1 > 100000)) (wine0, 8) (after w r d, 0)))
def legalIs (w : Wine) (x : Rate) : Int :=
  cond (rgOk (common w.s x.w)) (cond (rgIn w.s x.w)
      (cond (rgOk (common w.c x.al)) (cond (rgIn w.c x.al) 2 1) 0)
      (cond (rgOk (common w.c x.al)) 1 0)) 0
def lawErr (w : Wine) (x : Rate) : Int := first [checkWine w, checkLaw x]
def LegalIs (w : Wine) (x : Rate) : Int × Int := cond (lawErr w x != 0) (0, lawErr w x) (legalIs w x, 0)
def alcohol (w : Wine) : Rg := ⟨W (w.v0 * w.s0), W (w.v1 * w.s1)⟩
def rate (before after : Rg) (days : Int) : Rg :=
  common ⟨floor (W (1000000 * W (before.lo - after.hi))) (W (before.lo * days)), ceiling (W (1000000 * W (before.hi - after.lo))) (W (before.hi * days))⟩ ⟨0, 2000⟩
def ratesErr (b a : Wine) (d : Int) : Int := first [checkWine b, checkWine a, unl (within d 1 365) 2, unl (cond (decide (b.v0 > 0)) (decide (b.s0 > 0)) false) 25]
def Rate.mk2 (a b : Rg) : Rate := ⟨a.lo, a.hi, b.lo, b.hi⟩
def RatesOf (b a : Wine) (d : Int) : Rate × Int :=
  cond (ratesErr b a d != 0) (rate0, ratesErr b a d)
    (cond (rgOk (rate b.v a.v d)) (cond (rgOk (rate (alcohol b) (alcohol a) d)) (Rate.mk2 (rate b.v a.v d) (rate (alcohol b) (alcohol a) d), 0) (rate0, 13)) (rate0, 13))
def measureErr (d : Int) (w : Wine) : Int := first [unl (within d 0 100000) 2, checkWine w]
def betweenErr (a b : Int) : Int := first [unl (decide (b > a)) 9, unl (decide (W (b - a) ≤ 365)) 8]
def commonW (a b : Wine) : Wine := Wine.mk3 (common a.v b.v) (common a.s b.s) (common a.c b.c)
def wOk (a : Wine) : Bool := cond (rgOk a.v) (cond (rgOk a.s) (rgOk a.c) false) false
def wIn (a b : Wine) : Bool := cond (rgIn a.v b.v) (cond (rgIn a.s b.s) (rgIn a.c b.c) false) false
def explErr (r : Rate) (da : Int) (a : Wine) (db : Int) (b : Wine) : Int := first [checkRate r, measureErr da a, measureErr db b]
def Explains (r : Rate) (da : Int) (a : Wine) (db : Int) (b : Wine) : Int × Int :=
  cond (explErr r da a db b != 0) (0, explErr r da a db b)
    (cond (betweenErr da db != 0) (0, betweenErr da db)
      (cond ((After a r (W (db - da))).2 != 0) (0, (After a r (W (db - da))).2)
        (cond (wOk (commonW (After a r (W (db - da))).1 b)) (cond (wIn (After a r (W (db - da))).1 b) (2, 0) (1, 0)) (0, 0))))
def spiritErr (w : Wine) (x y : Int) : Int := first [checkWine w, strengthErr x, strengthErr y, unl (decide (x > y)) 11]
def need (volume strength target spirit : Int) : Int := ceiling (W (volume * maxI 0 (W (target - strength)))) (W (spirit - target))
def SpiritFor (w : Wine) (spirit target : Int) : Rg × Int :=
  cond (spiritErr w spirit target != 0) (rg0, spiritErr w spirit target)
    (cond (decide (need w.v1 w.s0 target spirit > 100000)) (rg0, 8) (⟨need w.v0 w.s1 target spirit, need w.v1 w.s0 target spirit⟩, 0))
/- the reference -/
def rangeErr (r : Rg) (most : Int) : Int := cond (within r.lo 0 most) (cond (within r.hi 0 most) (cond (decide (r.lo > r.hi)) 9 0) 2) 2
def first3 (a b c : Int) : Int := cond (a != 0) a (cond (b != 0) b c)
def rCheckWine (w : Wine) : Int := first3 (rangeErr w.v 100000) (rangeErr w.s 10000) (rangeErr w.c 100000)
def rStrengthErr (n : Int) : Int := cond (within n 0 10000) 0 2
def rLossOf (w : Wine) (r : Rate) (d : Int) : Rg := ⟨floor (W (W (w.v0 * r.a) * d)) 1000000, ceiling (W (W (w.v1 * r.b) * d)) 1000000⟩
def needed (volume own strength target : Int) : Int := cond (decide (own ≥ target)) 0 (ceiling (W (volume * W (target - own))) (W (strength - target)))
def rSpiritFor (w : Wine) (x y : Int) : Rg × Int :=
  cond (first3 (rCheckWine w) (rStrengthErr x) (rStrengthErr y) != 0) (rg0, first3 (rCheckWine w) (rStrengthErr x) (rStrengthErr y))
    (cond (decide (x ≤ y)) (rg0, 11) (cond (decide (needed w.v1 w.s0 x y > 100000)) (rg0, 8) (⟨needed w.v0 w.s1 x y, needed w.v1 w.s0 x y⟩, 0)))
/- the statements -/
def mod (n b : Int) : Int := cond (decide (n.tmod b < 0)) (W (n.tmod b + b)) (n.tmod b)
def pick (r : Rg) (b : Int) : Int := W (r.lo + mod b (W (W (r.hi - r.lo) + 1)))
def reach (volume own spirit strength target : Int) : Bool := decide (W (W (volume * own) + W (spirit * strength)) ≥ W (target * W (volume + spirit)))
end Go.Fl.M
end

section
set_option linter.unusedVariables false
set_option linter.unusedSimpArgs false
namespace Go.Fl
open Go.Eng
def gb : List Blk := [.part 0 [.num .i64 100000, .num .i64 10000, .num .i64 100000]]
abbrev vI (n : Int) : V := .a (.c (.int .i64 n))
abbrev vB (b : Bool) : V := .a (.c (.bool b))
abbrev aI (n : Int) : A := .c (.int .i64 n)
abbrev aB (b : Bool) : A := .c (.bool b)
abbrev cI (n : Int) : C := .int .i64 n
abbrev aRg (r : M.Rg) : A := .agg [cI r.lo, cI r.hi]
abbrev aWine (w : M.Wine) : A := .agg [cI w.v0, cI w.v1, cI w.s0, cI w.s1, cI w.c0, cI w.c1]
abbrev aRate (r : M.Rate) : A := .agg [cI r.a, cI r.b, cI r.c, cI r.d]
def d76 : DomG
  | [[.int .i64 a, .int .i64 b]] => some ([], vI (M.first [a, b]))
  | [[.int .i64 a, .int .i64 b, .int .i64 c]] => some ([], vI (M.first [a, b, c]))
  | [[.int .i64 a, .int .i64 b, .int .i64 c, .int .i64 d]] => some ([], vI (M.first [a, b, c, d]))
  | _ => none
def s76 : Nat × Sm := (76, grpSm [.sl] d76)
def d90 : DomG
  | [[.int .i64 n], [.int .i64 lo], [.int .i64 hi]] => some ([], vB (M.within n lo hi))
  | _ => none
def s90 : Nat × Sm := (90, grpSm [.c, .c, .c] d90)
def d55 : DomG
  | [[.int .i64 n], [.int .i64 lo], [.int .i64 hi]] => some ([], vB (M.within n lo hi))
  | _ => none
def s55 : Nat × Sm := (55, grpSm [.c, .c, .c] d55)
def d85 : DomG
  | [[.bool ok], [.int .i64 e]] => some ([], vI (M.unl ok e))
  | _ => none
def s85 : Nat × Sm := (85, grpSm [.c, .c] d85)
def d80 : DomG
  | [[.int .i64 n], [.int .i64 b]] => some ([b ≠ 0], vI (M.floor n b))
  | _ => none
def s80 : Nat × Sm := (80, grpSm [.c, .c] d80)
def d68 : DomG
  | [[.int .i64 n], [.int .i64 b]] => some ([b ≠ 0], vI (M.floor n b))
  | _ => none
def s68 : Nat × Sm := (68, grpSm [.c, .c] d68)
def d81 : DomG
  | [[.int .i64 n], [.int .i64 b]] => some ([b ≠ 0], vI (M.ceiling n b))
  | _ => none
def s81 : Nat × Sm := (81, grpSm [.c, .c] d81)
def d69 : DomG
  | [[.int .i64 n], [.int .i64 b]] => some ([b ≠ 0], vI (M.ceiling n b))
  | _ => none
def s69 : Nat × Sm := (69, grpSm [.c, .c] d69)
def d73 : DomG
  | [[.int .i64 lo, .int .i64 hi], [.int .i64 most]] => some ([], vI (M.spanErr ⟨lo, hi⟩ most))
  | _ => none
def s73 : Nat × Sm := (73, grpSm [.agg, .c] d73)
def d79 : DomG
  | [[.int .i64 lo, .int .i64 hi], [.int .i64 d]] => some ([], .a (aRg (M.left ⟨lo, hi⟩ d)))
  | _ => none
def s79 : Nat × Sm := (79, grpSm [.agg, .c] d79)
def d72 : DomG
  | [[.int .i64 v0, .int .i64 v1, .int .i64 s0, .int .i64 s1, .int .i64 c0, .int .i64 c1]] => some ([], .a (aWine (⟨v0, v1, s0, s1, c0, c1⟩)))
  | _ => none
def s72 : Nat × Sm := (72, grpSm [.agg] d72)
def d77 : DomG
  | [[.int .i64 d]] => some ([], vI (M.daysErr d))
  | _ => none
def s77 : Nat × Sm := (77, grpSm [.c] d77)
def d86 : DomG
  | [[.int .i64 n]] => some ([], vI (M.strengthErr n))
  | _ => none
def s86 : Nat × Sm := (86, grpSm [.c] d86)
def d21 : DomG
  | [[.int .i64 v0, .int .i64 v1, .int .i64 s0, .int .i64 s1, .int .i64 c0, .int .i64 c1]] => some ([], vI (M.checkWine ⟨v0, v1, s0, s1, c0, c1⟩))
  | _ => none
def s21 : Nat × Sm := (21, grpSm [.agg] d21)
def d23 : DomG
  | [[.int .i64 ra, .int .i64 rb, .int .i64 rc, .int .i64 rd]] => some ([], vI (M.checkRate ⟨ra, rb, rc, rd⟩))
  | _ => none
def s23 : Nat × Sm := (23, grpSm [.agg] d23)
def d25 : DomG
  | [[.int .i64 ra, .int .i64 rb, .int .i64 rc, .int .i64 rd]] => some ([], vI (M.checkLaw ⟨ra, rb, rc, rd⟩))
  | _ => none
def s25 : Nat × Sm := (25, grpSm [.agg] d25)
def d87 : DomG
  | [[.int .i64 al, .int .i64 ah], [.int .i64 bl, .int .i64 bh]] => some ([], .tup [aRg (M.common ⟨al, ah⟩ ⟨bl, bh⟩), aB (M.rgOk (M.common ⟨al, ah⟩ ⟨bl, bh⟩))])
  | _ => none
def s87 : Nat × Sm := (87, grpSm [.agg, .agg] d87)
def d88 : DomG
  | [[.int .i64 al, .int .i64 ah], [.int .i64 bl, .int .i64 bh]] => some ([], vB (M.rgIn ⟨al, ah⟩ ⟨bl, bh⟩))
  | _ => none
def s88 : Nat × Sm := (88, grpSm [.agg, .agg] d88)
def d78 : DomG
  | [[.int .i64 v0, .int .i64 v1, .int .i64 s0, .int .i64 s1, .int .i64 c0, .int .i64 c1], [.int .i64 ra, .int .i64 rb, .int .i64 rc, .int .i64 rd], [.int .i64 d]] => some ([(M.left (M.Rate.w ⟨ra, rb, rc, rd⟩) d).hi ≠ 0, (M.left (M.Rate.w ⟨ra, rb, rc, rd⟩) d).lo ≠ 0], .a (aWine (M.after ⟨v0, v1, s0, s1, c0, c1⟩ ⟨ra, rb, rc, rd⟩ d)))
  | _ => none
def s78 : Nat × Sm := (78, grpSm [.agg, .agg, .c] d78)
def d27 : DomG
  | [[.int .i64 v0, .int .i64 v1, .int .i64 s0, .int .i64 s1, .int .i64 c0, .int .i64 c1], [.int .i64 ra, .int .i64 rb, .int .i64 rc, .int .i64 rd], [.int .i64 d]] => some ([], .tup [aWine (M.After ⟨v0, v1, s0, s1, c0, c1⟩ ⟨ra, rb, rc, rd⟩ d).1, aI (M.After ⟨v0, v1, s0, s1, c0, c1⟩ ⟨ra, rb, rc, rd⟩ d).2])
  | _ => none
def s27 : Nat × Sm := (27, grpSm [.agg, .agg, .c] d27)
def d40 : DomG
  | [[.int .i64 v0, .int .i64 v1, .int .i64 s0, .int .i64 s1, .int .i64 c0, .int .i64 c1], [.int .i64 ra, .int .i64 rb, .int .i64 rc, .int .i64 rd]] => some ([], .tup [aI (M.LegalIs ⟨v0, v1, s0, s1, c0, c1⟩ ⟨ra, rb, rc, rd⟩).1, aI (M.LegalIs ⟨v0, v1, s0, s1, c0, c1⟩ ⟨ra, rb, rc, rd⟩).2])
  | _ => none
def d104 : DomG
  | [[.int .i64 volume], [.int .i64 strength], [.int .i64 target], [.int .i64 spirit]] => some ([M.W (spirit - target) ≠ 0], vI (M.need volume strength target spirit))
  | _ => none
def s104 : Nat × Sm := (104, grpSm [.c, .c, .ptr, .ptr] d104)
def d58 : DomG
  | [[.int .i64 v0, .int .i64 v1, .int .i64 s0, .int .i64 s1, .int .i64 c0, .int .i64 c1], [.int .i64 x], [.int .i64 y]] => some ([], .tup [aRg (M.SpiritFor ⟨v0, v1, s0, s1, c0, c1⟩ x y).1, aI (M.SpiritFor ⟨v0, v1, s0, s1, c0, c1⟩ x y).2])
  | _ => none
def s58 : Nat × Sm := (58, grpSm [.agg, .c, .c] d58)
def d75 : DomG
  | [[.int .i64 lo, .int .i64 hi], [.int .i64 most]] => some ([], vI (M.rangeErr ⟨lo, hi⟩ most))
  | _ => none
def s75 : Nat × Sm := (75, grpSm [.agg, .c] d75)
def d74 : DomG
  | [[.int .i64 a], [.int .i64 b], [.int .i64 c]] => some ([], vI (M.first3 a b c))
  | _ => none
def s74 : Nat × Sm := (74, grpSm [.c, .c, .c] d74)
def d22 : DomG
  | [[.int .i64 v0, .int .i64 v1, .int .i64 s0, .int .i64 s1, .int .i64 c0, .int .i64 c1]] => some ([], vI (M.rCheckWine ⟨v0, v1, s0, s1, c0, c1⟩))
  | _ => none
def s22 : Nat × Sm := (22, grpSm [.agg] d22)
def d65 : DomG
  | [[.int .i64 n]] => some ([], vI (M.rStrengthErr n))
  | _ => none
def s65 : Nat × Sm := (65, grpSm [.c] d65)
def d106 : DomG
  | [[.int .i64 volume], [.int .i64 own], [.int .i64 x], [.int .i64 y]] => some ([M.W (x - y) ≠ 0], vI (M.needed volume own x y))
  | _ => none
def s106 : Nat × Sm := (106, grpSm [.c, .c, .c, .c] d106)
def d60 : DomG
  | [[.int .i64 v0, .int .i64 v1, .int .i64 s0, .int .i64 s1, .int .i64 c0, .int .i64 c1], [.int .i64 x], [.int .i64 y]] => some ([], .tup [aRg (M.rSpiritFor ⟨v0, v1, s0, s1, c0, c1⟩ x y).1, aI (M.rSpiritFor ⟨v0, v1, s0, s1, c0, c1⟩ x y).2])
  | _ => none
def d66 : DomG
  | [[.int .i64 volume], [.int .i64 own], [.int .i64 spirit], [.int .i64 strength], [.int .i64 target]] => some ([], vB (M.reach volume own spirit strength target))
  | _ => none
def d56 : DomG
  | [[.int .i64 n]] => some ([], .a (aRg (⟨n, n⟩)))
  | _ => none
def s56 : Nat × Sm := (56, grpSm [.c] d56)
def d105 : DomG
  | [[.int .i64 n]] => some ([], .a (aRg (⟨n, n⟩)))
  | _ => none
def d70 : DomG
  | [] => some ([], .a (aWine (⟨1000, 1000, 1500, 1600, 200, 200⟩)))
  | _ => none
def s70 : Nat × Sm := (70, grpSm [] d70)
def d71 : DomG
  | [] => some ([], .a (aRate (⟨100, 200, 200, 300⟩)))
  | _ => none
def s71 : Nat × Sm := (71, grpSm [] d71)
end Go.Fl
end

section
namespace Go.Fl
open Go.Eng Go.RowKit Go.Proofs
set_option maxRecDepth 100000
/-- What the package-level variable holds. -/
def gw (w : World) : Prop := 0 < w.heap.size ∧ w.cell? ⟨0, 0, none⟩ = some (.int .i64 100000) ∧ w.cell? ⟨0, 1, none⟩ = some (.int .i64 10000) ∧ w.cell? ⟨0, 2, none⟩ = some (.int .i64 100000)
theorem gw_stable (w w' : World) (h : gw w) (hb : Below w.heap.size w w') : gw w' := by
  obtain ⟨h0, h1, h2, h3⟩ := h
  have e : ∀ j, w'.cell? ⟨0, j, none⟩ = w.cell? ⟨0, j, none⟩ := fun j => hb.cell (p := ⟨0, j, none⟩) h0
  exact ⟨Nat.lt_of_lt_of_le h0 hb.size, by rw [e]; exact h1, by rw [e]; exact h2, by rw [e]; exact h3⟩
theorem gw_glob : Glob 1 gw gb where
  len := rfl
  at_ := by
    intro w h i k hk
    obtain ⟨h0, h1, h2, h3⟩ := h
    match i, hk with
    | 0, hk =>
      simp only [gb, List.getElem?_cons_zero, Option.some.injEq] at hk
      subst hk
      refine ⟨h0, fun ρ => part_rel (vs := [.int .i64 100000, .int .i64 10000, .int .i64 100000]) (.cons rfl (.cons rfl (.cons rfl .nil))) ?_⟩
      intro j v hj
      match j, hj with
      | 0, hj => simp at hj; subst hj; exact h1
      | 1, hj => simp at hj; subst hj; exact h2
      | 2, hj => simp at hj; subst hj; exact h3
      | j + 3, hj => simp at hj
    | i + 1, hk => simp [gb] at hk
theorem mixed : Tryd.prog.follows .mixedOrders = true := by kernel_rfl
theorem t76_2 (a b : Int) : runFn Tryd.prog 1 2 (lookS []) 40 Tryd.f76 [.c (.sl 1 0 2 2)] (gb ++ [.part 0 [.int .i64 a, .int .i64 b]]) =
    T.br (a != 0) (T.ret (.int .i64 a)) (T.br (b != 0) (T.ret (.int .i64 b)) (T.ret (.int .i64 0))) := by kernel_rfl
theorem t76_3 (a b c : Int) : runFn Tryd.prog 1 2 (lookS []) 40 Tryd.f76 [.c (.sl 1 0 3 3)] (gb ++ [.part 0 [.int .i64 a, .int .i64 b, .int .i64 c]]) =
    T.br (a != 0) (T.ret (.int .i64 a)) (T.br (b != 0) (T.ret (.int .i64 b)) (T.br (c != 0) (T.ret (.int .i64 c)) (T.ret (.int .i64 0)))) := by kernel_rfl
theorem t76_4 (a b c d : Int) : runFn Tryd.prog 1 2 (lookS []) 40 Tryd.f76 [.c (.sl 1 0 4 4)] (gb ++ [.part 0 [.int .i64 a, .int .i64 b, .int .i64 c, .int .i64 d]]) =
    T.br (a != 0) (T.ret (.int .i64 a)) (T.br (b != 0) (T.ret (.int .i64 b)) (T.br (c != 0) (T.ret (.int .i64 c)) (T.br (d != 0) (T.ret (.int .i64 d)) (T.ret (.int .i64 0))))) := by kernel_rfl
theorem C76 : GOK Tryd.prog gw 76 [.sl] d76 := by
  intro gs p v hd hp w xs hw hx
  unfold d76 at hd
  split at hd
  · cases hd
    refine grp_fin mixed gw_stable gw_glob (sl := []) trivial Tryd.func76 hw hx rfl rfl rfl rfl (t76_2 _ _) rfl ?_
    simp only [T.wp]
    repeat' (first | refine ⟨?_, ?_⟩ | intro _)
    all_goals (simp only [M.first, cond_true, cond_false, *])
  · cases hd
    refine grp_fin mixed gw_stable gw_glob (sl := []) trivial Tryd.func76 hw hx rfl rfl rfl rfl (t76_3 _ _ _) rfl ?_
    simp only [T.wp]
    repeat' (first | refine ⟨?_, ?_⟩ | intro _)
    all_goals (simp only [M.first, cond_true, cond_false, *])
  · cases hd
    refine grp_fin mixed gw_stable gw_glob (sl := []) trivial Tryd.func76 hw hx rfl rfl rfl rfl (t76_4 _ _ _ _) rfl ?_
    simp only [T.wp]
    repeat' (first | refine ⟨?_, ?_⟩ | intro _)
    all_goals (simp only [M.first, cond_true, cond_false, *])
  · cases hd
theorem S76 : SumOK Tryd.prog gw 76 (grpSm [.sl] d76) := grp_sum Tryd.func76 rfl C76
end Go.Fl
end

section
namespace Go.Fl
open Go.Eng Go.RowKit Go.Proofs
set_option maxRecDepth 100000
set_option linter.unusedSimpArgs false
set_option linter.unusedVariables false
theorem t90 (n : Int) (lo : Int) (hi : Int) : runFn Tryd.prog 1 1 (lookS []) 40 Tryd.f90 [.c (.int .i64 n), .c (.int .i64 lo), .c (.int .i64 hi)] gb =
    T.br (decide (lo ≤ n)) (T.need (decide (lo ≤ n) = true) (T.ret (Value.bool (decide (n ≤ hi))))) (T.need (decide (lo ≤ n) = false) (T.ret (Value.bool false))) := by kernel_rfl
theorem C90 : GOK Tryd.prog gw 90 [.c, .c, .c] d90 := by
  intro gs p v hd hp w xs hw hx
  unfold d90 at hd
  split at hd
  · cases hd
    refine grp_fin mixed gw_stable gw_glob (sl := []) trivial Tryd.func90 hw hx rfl rfl rfl rfl (t90 _ _ _) rfl ?_
    simp only [T.wp]
    repeat' (first | assumption | decide | refine ⟨?_, ?_⟩ | intro _)
    all_goals (first | rfl | (simp only [M.within, M.Wine.v, M.Wine.s, M.Wine.c, M.Rate.w, M.Rate.al, cond_true, cond_false, *]; done))
  · cases hd
theorem S90 : SumOK Tryd.prog gw 90 (grpSm [.c, .c, .c] d90) := grp_sum Tryd.func90 rfl C90
theorem t55 (n : Int) (lo : Int) (hi : Int) : runFn Tryd.prog 1 1 (lookS []) 40 Tryd.f55 [.c (.int .i64 n), .c (.int .i64 lo), .c (.int .i64 hi)] gb =
    T.br (decide (lo ≤ n)) (T.need (decide (lo ≤ n) = true) (T.ret (Value.bool (decide (n ≤ hi))))) (T.need (decide (lo ≤ n) = false) (T.ret (Value.bool false))) := by kernel_rfl
theorem C55 : GOK Tryd.prog gw 55 [.c, .c, .c] d55 := by
  intro gs p v hd hp w xs hw hx
  unfold d55 at hd
  split at hd
  · cases hd
    refine grp_fin mixed gw_stable gw_glob (sl := []) trivial Tryd.func55 hw hx rfl rfl rfl rfl (t55 _ _ _) rfl ?_
    simp only [T.wp]
    repeat' (first | assumption | decide | refine ⟨?_, ?_⟩ | intro _)
    all_goals (first | rfl | (simp only [M.within, M.Wine.v, M.Wine.s, M.Wine.c, M.Rate.w, M.Rate.al, cond_true, cond_false, *]; done))
  · cases hd
theorem S55 : SumOK Tryd.prog gw 55 (grpSm [.c, .c, .c] d55) := grp_sum Tryd.func55 rfl C55
theorem t85 (ok : Bool) (e : Int) : runFn Tryd.prog 1 1 (lookS []) 40 Tryd.f85 [.c (.bool ok), .c (.int .i64 e)] gb =
    T.br ok (T.ret (Value.int IntKind.i64 (0 : Int))) (T.ret (Value.int IntKind.i64 e)) := by kernel_rfl
theorem C85 : GOK Tryd.prog gw 85 [.c, .c] d85 := by
  intro gs p v hd hp w xs hw hx
  unfold d85 at hd
  split at hd
  · cases hd
    refine grp_fin mixed gw_stable gw_glob (sl := []) trivial Tryd.func85 hw hx rfl rfl rfl rfl (t85 _ _) rfl ?_
    simp only [T.wp]
    repeat' (first | assumption | decide | refine ⟨?_, ?_⟩ | intro _)
    all_goals (first | rfl | (simp only [M.unl, M.Wine.v, M.Wine.s, M.Wine.c, M.Rate.w, M.Rate.al, cond_true, cond_false, *]; done))
  · cases hd
theorem S85 : SumOK Tryd.prog gw 85 (grpSm [.c, .c] d85) := grp_sum Tryd.func85 rfl C85
theorem t80 (n : Int) (b : Int) : runFn Tryd.prog 1 1 (lookS []) 40 Tryd.f80 [.c (.int .i64 n), .c (.int .i64 b)] gb =
    T.need (b ≠ (0 : Int)) (T.need (b ≠ (0 : Int)) (T.br (decide (Int.tmod n b < (0 : Int))) (T.ret (Value.int IntKind.i64 (IntKind.wrap IntKind.i64 (IntKind.wrap IntKind.i64 (Int.tdiv n b) - (1 : Int))))) (T.ret (Value.int IntKind.i64 (IntKind.wrap IntKind.i64 (Int.tdiv n b)))))) := by kernel_rfl
theorem C80 : GOK Tryd.prog gw 80 [.c, .c] d80 := by
  intro gs p v hd hp w xs hw hx
  unfold d80 at hd
  split at hd
  · cases hd
    refine grp_fin mixed gw_stable gw_glob (sl := []) trivial Tryd.func80 hw hx rfl rfl rfl rfl (t80 _ _) rfl ?_
    obtain ⟨hp0, _⟩ := hp
    simp only [T.wp]
    repeat' (first | assumption | decide | refine ⟨?_, ?_⟩ | intro _)
    all_goals (first | rfl | (simp only [M.floor, M.Wine.v, M.Wine.s, M.Wine.c, M.Rate.w, M.Rate.al, cond_true, cond_false, *]; done))
  · cases hd
theorem S80 : SumOK Tryd.prog gw 80 (grpSm [.c, .c] d80) := grp_sum Tryd.func80 rfl C80
theorem t68 (n : Int) (b : Int) : runFn Tryd.prog 1 1 (lookS []) 40 Tryd.f68 [.c (.int .i64 n), .c (.int .i64 b)] gb =
    T.need (b ≠ (0 : Int)) (T.need (b ≠ (0 : Int)) (T.br (decide (Int.tmod n b < (0 : Int))) (T.ret (Value.int IntKind.i64 (IntKind.wrap IntKind.i64 (IntKind.wrap IntKind.i64 (Int.tdiv n b) - (1 : Int))))) (T.ret (Value.int IntKind.i64 (IntKind.wrap IntKind.i64 (Int.tdiv n b)))))) := by kernel_rfl
theorem C68 : GOK Tryd.prog gw 68 [.c, .c] d68 := by
  intro gs p v hd hp w xs hw hx
  unfold d68 at hd
  split at hd
  · cases hd
    refine grp_fin mixed gw_stable gw_glob (sl := []) trivial Tryd.func68 hw hx rfl rfl rfl rfl (t68 _ _) rfl ?_
    obtain ⟨hp0, _⟩ := hp
    simp only [T.wp]
    repeat' (first | assumption | decide | refine ⟨?_, ?_⟩ | intro _)
    all_goals (first | rfl | (simp only [M.floor, M.Wine.v, M.Wine.s, M.Wine.c, M.Rate.w, M.Rate.al, cond_true, cond_false, *]; done))
  · cases hd
theorem S68 : SumOK Tryd.prog gw 68 (grpSm [.c, .c] d68) := grp_sum Tryd.func68 rfl C68
theorem t81 (n : Int) (b : Int) : runFn Tryd.prog 1 1 (lookS [s80]) 40 Tryd.f81 [.c (.int .i64 n), .c (.int .i64 b)] gb =
    T.need (b ≠ (0 : Int)) (T.ret (Value.int IntKind.i64 (IntKind.wrap IntKind.i64 ((0 : Int) - M.floor (IntKind.wrap IntKind.i64 ((0 : Int) - n)) b)))) := by kernel_rfl
theorem C81 : GOK Tryd.prog gw 81 [.c, .c] d81 := by
  intro gs p v hd hp w xs hw hx
  unfold d81 at hd
  split at hd
  · cases hd
    refine grp_fin mixed gw_stable gw_glob (sl := [s80]) ⟨S80, trivial⟩ Tryd.func81 hw hx rfl rfl rfl rfl (t81 _ _) rfl ?_
    obtain ⟨hp0, _⟩ := hp
    simp only [T.wp]
    repeat' (first | assumption | decide | refine ⟨?_, ?_⟩ | intro _)
    all_goals (first | rfl | (simp only [M.ceiling, M.Wine.v, M.Wine.s, M.Wine.c, M.Rate.w, M.Rate.al, cond_true, cond_false, *]; done))
  · cases hd
theorem S81 : SumOK Tryd.prog gw 81 (grpSm [.c, .c] d81) := grp_sum Tryd.func81 rfl C81
theorem t69 (n : Int) (b : Int) : runFn Tryd.prog 1 1 (lookS [s68]) 40 Tryd.f69 [.c (.int .i64 n), .c (.int .i64 b)] gb =
    T.need (b ≠ (0 : Int)) (T.ret (Value.int IntKind.i64 (IntKind.wrap IntKind.i64 ((0 : Int) - M.floor (IntKind.wrap IntKind.i64 ((0 : Int) - n)) b)))) := by kernel_rfl
theorem C69 : GOK Tryd.prog gw 69 [.c, .c] d69 := by
  intro gs p v hd hp w xs hw hx
  unfold d69 at hd
  split at hd
  · cases hd
    refine grp_fin mixed gw_stable gw_glob (sl := [s68]) ⟨S68, trivial⟩ Tryd.func69 hw hx rfl rfl rfl rfl (t69 _ _) rfl ?_
    obtain ⟨hp0, _⟩ := hp
    simp only [T.wp]
    repeat' (first | assumption | decide | refine ⟨?_, ?_⟩ | intro _)
    all_goals (first | rfl | (simp only [M.ceiling, M.Wine.v, M.Wine.s, M.Wine.c, M.Rate.w, M.Rate.al, cond_true, cond_false, *]; done))
  · cases hd
theorem S69 : SumOK Tryd.prog gw 69 (grpSm [.c, .c] d69) := grp_sum Tryd.func69 rfl C69
theorem t73 (lo : Int) (hi : Int) (most : Int) : runFn Tryd.prog 1 1 (lookS [s90, s85, s76]) 40 Tryd.f73 [.agg [.int .i64 lo, .int .i64 hi], .c (.int .i64 most)] gb =
    T.br (M.within lo (0 : Int) most) (T.need (M.within lo (0 : Int) most = true) (T.ret (Value.int IntKind.i64 (M.first [M.unl (M.within hi (0 : Int) most) (2 : Int), M.unl (decide (lo ≤ hi)) (9 : Int)])))) (T.need (M.within lo (0 : Int) most = false) (T.ret (Value.int IntKind.i64 (M.first [M.unl false (2 : Int), M.unl (decide (lo ≤ hi)) (9 : Int)])))) := by kernel_rfl
theorem C73 : GOK Tryd.prog gw 73 [.agg, .c] d73 := by
  intro gs p v hd hp w xs hw hx
  unfold d73 at hd
  split at hd
  · cases hd
    refine grp_fin mixed gw_stable gw_glob (sl := [s90, s85, s76]) ⟨S90, S85, S76, trivial⟩ Tryd.func73 hw hx rfl rfl rfl rfl (t73 _ _ _) rfl ?_
    simp only [T.wp]
    repeat' (first | assumption | decide | refine ⟨?_, ?_⟩ | intro _)
    all_goals (first | rfl | (simp only [M.spanErr, M.Wine.v, M.Wine.s, M.Wine.c, M.Rate.w, M.Rate.al, cond_true, cond_false, *]; done))
  · cases hd
theorem S73 : SumOK Tryd.prog gw 73 (grpSm [.agg, .c] d73) := grp_sum Tryd.func73 rfl C73
theorem t79 (lo : Int) (hi : Int) (d : Int) : runFn Tryd.prog 1 1 (lookS []) 40 Tryd.f79 [.agg [.int .i64 lo, .int .i64 hi], .c (.int .i64 d)] gb =
    T.ret (Value.agg #[Value.int IntKind.i64 (IntKind.wrap IntKind.i64 ((1000000 : Int) - IntKind.wrap IntKind.i64 (hi * d))), Value.int IntKind.i64 (IntKind.wrap IntKind.i64 ((1000000 : Int) - IntKind.wrap IntKind.i64 (lo * d)))]) := by kernel_rfl
theorem C79 : GOK Tryd.prog gw 79 [.agg, .c] d79 := by
  intro gs p v hd hp w xs hw hx
  unfold d79 at hd
  split at hd
  · cases hd
    refine grp_fin mixed gw_stable gw_glob (sl := []) trivial Tryd.func79 hw hx rfl rfl rfl rfl (t79 _ _ _) rfl ?_
    simp only [T.wp]
    repeat' (first | assumption | decide | refine ⟨?_, ?_⟩ | intro _)
    all_goals (first | rfl | (simp only [M.left, M.Wine.v, M.Wine.s, M.Wine.c, M.Rate.w, M.Rate.al, cond_true, cond_false, *]; done))
  · cases hd
theorem S79 : SumOK Tryd.prog gw 79 (grpSm [.agg, .c] d79) := grp_sum Tryd.func79 rfl C79
theorem t72 (v0 : Int) (v1 : Int) (s0 : Int) (s1 : Int) (c0 : Int) (c1 : Int) : runFn Tryd.prog 1 1 (lookS []) 40 Tryd.f72 [.agg [.int .i64 v0, .int .i64 v1, .int .i64 s0, .int .i64 s1, .int .i64 c0, .int .i64 c1]] gb =
    T.ret (Value.agg #[Value.int IntKind.i64 v0, Value.int IntKind.i64 v1, Value.int IntKind.i64 s0, Value.int IntKind.i64 s1, Value.int IntKind.i64 c0, Value.int IntKind.i64 c1]) := by kernel_rfl
theorem C72 : GOK Tryd.prog gw 72 [.agg] d72 := by
  intro gs p v hd hp w xs hw hx
  unfold d72 at hd
  split at hd
  · cases hd
    refine grp_fin mixed gw_stable gw_glob (sl := []) trivial Tryd.func72 hw hx rfl rfl rfl rfl (t72 _ _ _ _ _ _) rfl ?_
    simp only [T.wp]
    repeat' (first | assumption | decide | refine ⟨?_, ?_⟩ | intro _)
    all_goals (first | rfl | (simp only [M.Wine.v, M.Wine.s, M.Wine.c, M.Rate.w, M.Rate.al, cond_true, cond_false, *]; done))
  · cases hd
theorem S72 : SumOK Tryd.prog gw 72 (grpSm [.agg] d72) := grp_sum Tryd.func72 rfl C72
theorem t77 (d : Int) : runFn Tryd.prog 1 1 (lookS [s90, s85]) 40 Tryd.f77 [.c (.int .i64 d)] gb =
    T.ret (Value.int IntKind.i64 (M.unl (M.within d (0 : Int) (365 : Int)) (2 : Int))) := by kernel_rfl
theorem C77 : GOK Tryd.prog gw 77 [.c] d77 := by
  intro gs p v hd hp w xs hw hx
  unfold d77 at hd
  split at hd
  · cases hd
    refine grp_fin mixed gw_stable gw_glob (sl := [s90, s85]) ⟨S90, S85, trivial⟩ Tryd.func77 hw hx rfl rfl rfl rfl (t77 _) rfl ?_
    simp only [T.wp]
    repeat' (first | assumption | decide | refine ⟨?_, ?_⟩ | intro _)
    all_goals (first | rfl | (simp only [M.daysErr, M.Wine.v, M.Wine.s, M.Wine.c, M.Rate.w, M.Rate.al, cond_true, cond_false, *]; done))
  · cases hd
theorem S77 : SumOK Tryd.prog gw 77 (grpSm [.c] d77) := grp_sum Tryd.func77 rfl C77
theorem t86 (n : Int) : runFn Tryd.prog 1 1 (lookS [s90, s85]) 40 Tryd.f86 [.c (.int .i64 n)] gb =
    T.ret (Value.int IntKind.i64 (M.unl (M.within n (0 : Int) (10000 : Int)) (2 : Int))) := by kernel_rfl
theorem C86 : GOK Tryd.prog gw 86 [.c] d86 := by
  intro gs p v hd hp w xs hw hx
  unfold d86 at hd
  split at hd
  · cases hd
    refine grp_fin mixed gw_stable gw_glob (sl := [s90, s85]) ⟨S90, S85, trivial⟩ Tryd.func86 hw hx rfl rfl rfl rfl (t86 _) rfl ?_
    simp only [T.wp]
    repeat' (first | assumption | decide | refine ⟨?_, ?_⟩ | intro _)
    all_goals (first | rfl | (simp only [M.strengthErr, M.Wine.v, M.Wine.s, M.Wine.c, M.Rate.w, M.Rate.al, cond_true, cond_false, *]; done))
  · cases hd
theorem S86 : SumOK Tryd.prog gw 86 (grpSm [.c] d86) := grp_sum Tryd.func86 rfl C86
theorem t21 (v0 : Int) (v1 : Int) (s0 : Int) (s1 : Int) (c0 : Int) (c1 : Int) : runFn Tryd.prog 1 1 (lookS [s72, s73]) 40 Tryd.f21 [.agg [.int .i64 v0, .int .i64 v1, .int .i64 s0, .int .i64 s1, .int .i64 c0, .int .i64 c1]] gb =
    T.br (M.spanErr { lo := M.Wine.v0 { v0 := v0, v1 := v1, s0 := s0, s1 := s1, c0 := c0, c1 := c1 }, hi := M.Wine.v1 { v0 := v0, v1 := v1, s0 := s0, s1 := s1, c0 := c0, c1 := c1 } } (100000 : Int) != (0 : Int)) (T.ret (Value.int IntKind.i64 (M.spanErr { lo := M.Wine.v0 { v0 := v0, v1 := v1, s0 := s0, s1 := s1, c0 := c0, c1 := c1 }, hi := M.Wine.v1 { v0 := v0, v1 := v1, s0 := s0, s1 := s1, c0 := c0, c1 := c1 } } (100000 : Int)))) (T.br (M.spanErr { lo := M.Wine.s0 { v0 := v0, v1 := v1, s0 := s0, s1 := s1, c0 := c0, c1 := c1 }, hi := M.Wine.s1 { v0 := v0, v1 := v1, s0 := s0, s1 := s1, c0 := c0, c1 := c1 } } (10000 : Int) != (0 : Int)) (T.ret (Value.int IntKind.i64 (M.spanErr { lo := M.Wine.s0 { v0 := v0, v1 := v1, s0 := s0, s1 := s1, c0 := c0, c1 := c1 }, hi := M.Wine.s1 { v0 := v0, v1 := v1, s0 := s0, s1 := s1, c0 := c0, c1 := c1 } } (10000 : Int)))) (T.br (M.spanErr { lo := M.Wine.c0 { v0 := v0, v1 := v1, s0 := s0, s1 := s1, c0 := c0, c1 := c1 }, hi := M.Wine.c1 { v0 := v0, v1 := v1, s0 := s0, s1 := s1, c0 := c0, c1 := c1 } } (100000 : Int) != (0 : Int)) (T.ret (Value.int IntKind.i64 (M.spanErr { lo := M.Wine.c0 { v0 := v0, v1 := v1, s0 := s0, s1 := s1, c0 := c0, c1 := c1 }, hi := M.Wine.c1 { v0 := v0, v1 := v1, s0 := s0, s1 := s1, c0 := c0, c1 := c1 } } (100000 : Int)))) (T.ret (Value.int IntKind.i64 (0 : Int))))) := by kernel_rfl
theorem C21 : GOK Tryd.prog gw 21 [.agg] d21 := by
  intro gs p v hd hp w xs hw hx
  unfold d21 at hd
  split at hd
  · cases hd
    refine grp_fin mixed gw_stable gw_glob (sl := [s72, s73]) ⟨S72, S73, trivial⟩ Tryd.func21 hw hx rfl rfl rfl rfl (t21 _ _ _ _ _ _) rfl ?_
    simp only [T.wp]
    repeat' (first | assumption | decide | refine ⟨?_, ?_⟩ | intro _)
    all_goals (first | rfl | (simp only [M.checkWine, M.Wine.v, M.Wine.s, M.Wine.c, M.Rate.w, M.Rate.al, cond_true, cond_false, *]; done))
  · cases hd
theorem S21 : SumOK Tryd.prog gw 21 (grpSm [.agg] d21) := grp_sum Tryd.func21 rfl C21
theorem t23 (ra : Int) (rb : Int) (rc : Int) (rd : Int) : runFn Tryd.prog 1 1 (lookS [s73, s76]) 40 Tryd.f23 [.agg [.int .i64 ra, .int .i64 rb, .int .i64 rc, .int .i64 rd]] gb =
    T.ret (Value.int IntKind.i64 (M.first [M.spanErr { lo := ra, hi := rb } (2000 : Int), M.spanErr { lo := rc, hi := rd } (2000 : Int)])) := by kernel_rfl
theorem C23 : GOK Tryd.prog gw 23 [.agg] d23 := by
  intro gs p v hd hp w xs hw hx
  unfold d23 at hd
  split at hd
  · cases hd
    refine grp_fin mixed gw_stable gw_glob (sl := [s73, s76]) ⟨S73, S76, trivial⟩ Tryd.func23 hw hx rfl rfl rfl rfl (t23 _ _ _ _) rfl ?_
    simp only [T.wp]
    repeat' (first | assumption | decide | refine ⟨?_, ?_⟩ | intro _)
    all_goals (first | rfl | (simp only [M.checkRate, M.Wine.v, M.Wine.s, M.Wine.c, M.Rate.w, M.Rate.al, cond_true, cond_false, *]; done))
  · cases hd
theorem S23 : SumOK Tryd.prog gw 23 (grpSm [.agg] d23) := grp_sum Tryd.func23 rfl C23
theorem t25 (ra : Int) (rb : Int) (rc : Int) (rd : Int) : runFn Tryd.prog 1 1 (lookS [s73, s76]) 40 Tryd.f25 [.agg [.int .i64 ra, .int .i64 rb, .int .i64 rc, .int .i64 rd]] gb =
    T.ret (Value.int IntKind.i64 (M.first [M.spanErr { lo := ra, hi := rb } (10000 : Int), M.spanErr { lo := rc, hi := rd } (100000 : Int)])) := by kernel_rfl
theorem C25 : GOK Tryd.prog gw 25 [.agg] d25 := by
  intro gs p v hd hp w xs hw hx
  unfold d25 at hd
  split at hd
  · cases hd
    refine grp_fin mixed gw_stable gw_glob (sl := [s73, s76]) ⟨S73, S76, trivial⟩ Tryd.func25 hw hx rfl rfl rfl rfl (t25 _ _ _ _) rfl ?_
    simp only [T.wp]
    repeat' (first | assumption | decide | refine ⟨?_, ?_⟩ | intro _)
    all_goals (first | rfl | (simp only [M.checkLaw, M.Wine.v, M.Wine.s, M.Wine.c, M.Rate.w, M.Rate.al, cond_true, cond_false, *]; done))
  · cases hd
theorem S25 : SumOK Tryd.prog gw 25 (grpSm [.agg] d25) := grp_sum Tryd.func25 rfl C25
theorem t87 (al : Int) (ah : Int) (bl : Int) (bh : Int) : runFn Tryd.prog 1 1 (lookS []) 40 Tryd.f87 [.agg [.int .i64 al, .int .i64 ah], .agg [.int .i64 bl, .int .i64 bh]] gb =
    T.ret (Value.tuple #[Value.agg #[Value.int IntKind.i64 (if bl > al then bl else al), Value.int IntKind.i64 (if bh < ah then bh else ah)], Value.bool (decide ((if bl > al then bl else al) ≤ if bh < ah then bh else ah))]) := by kernel_rfl
theorem C87 : GOK Tryd.prog gw 87 [.agg, .agg] d87 := by
  intro gs p v hd hp w xs hw hx
  unfold d87 at hd
  split at hd
  · cases hd
    refine grp_fin mixed gw_stable gw_glob (sl := []) trivial Tryd.func87 hw hx rfl rfl rfl rfl (t87 _ _ _ _) rfl ?_
    simp only [T.wp]
    repeat' (first | assumption | decide | refine ⟨?_, ?_⟩ | intro _)
    all_goals (first | rfl | (simp only [M.common, M.rgOk, M.maxI, M.minI, M.Wine.v, M.Wine.s, M.Wine.c, M.Rate.w, M.Rate.al, cond_true, cond_false, *]; done))
  · cases hd
theorem S87 : SumOK Tryd.prog gw 87 (grpSm [.agg, .agg] d87) := grp_sum Tryd.func87 rfl C87
theorem t88 (al : Int) (ah : Int) (bl : Int) (bh : Int) : runFn Tryd.prog 1 1 (lookS []) 40 Tryd.f88 [.agg [.int .i64 al, .int .i64 ah], .agg [.int .i64 bl, .int .i64 bh]] gb =
    T.br (decide (bl ≤ al)) (T.need (decide (bl ≤ al) = true) (T.ret (Value.bool (decide (ah ≤ bh))))) (T.need (decide (bl ≤ al) = false) (T.ret (Value.bool false))) := by kernel_rfl
theorem C88 : GOK Tryd.prog gw 88 [.agg, .agg] d88 := by
  intro gs p v hd hp w xs hw hx
  unfold d88 at hd
  split at hd
  · cases hd
    refine grp_fin mixed gw_stable gw_glob (sl := []) trivial Tryd.func88 hw hx rfl rfl rfl rfl (t88 _ _ _ _) rfl ?_
    simp only [T.wp]
    repeat' (first | assumption | decide | refine ⟨?_, ?_⟩ | intro _)
    all_goals (first | rfl | (simp only [M.rgIn, M.Wine.v, M.Wine.s, M.Wine.c, M.Rate.w, M.Rate.al, cond_true, cond_false, *]; done))
  · cases hd
theorem S88 : SumOK Tryd.prog gw 88 (grpSm [.agg, .agg] d88) := grp_sum Tryd.func88 rfl C88
end Go.Fl
end

section
namespace Go.Fl
open Go.Eng Go.RowKit Go.Proofs
set_option maxRecDepth 100000
set_option linter.unusedSimpArgs false
set_option linter.unusedVariables false
theorem t75 (lo : Int) (hi : Int) (most : Int) : runFn Tryd.prog 1 1 (lookS [s55]) 40 Tryd.f75 [.agg [.int .i64 lo, .int .i64 hi], .c (.int .i64 most)] gb =
    T.br (!M.within lo (0 : Int) most) (T.need ((!M.within lo (0 : Int) most) = true) (T.ret (Value.int IntKind.i64 (2 : Int)))) (T.need ((!M.within lo (0 : Int) most) = false) (T.br (!M.within hi (0 : Int) most) (T.ret (Value.int IntKind.i64 (2 : Int))) (T.br (decide (lo > hi)) (T.ret (Value.int IntKind.i64 (9 : Int))) (T.ret (Value.int IntKind.i64 (0 : Int)))))) := by kernel_rfl
theorem C75 : GOK Tryd.prog gw 75 [.agg, .c] d75 := by
  intro gs p v hd hp w xs hw hx
  unfold d75 at hd
  split at hd
  · cases hd
    refine grp_fin mixed gw_stable gw_glob (sl := [s55]) ⟨S55, trivial⟩ Tryd.func75 hw hx rfl rfl rfl rfl (t75 _ _ _) rfl ?_
    simp only [T.wp]
    repeat' (first | assumption | decide | refine ⟨?_, ?_⟩ | intro _)
    all_goals (try simp only [Bool.not_eq_true', Bool.not_eq_false'] at *)
    all_goals (first | rfl | (simp only [M.rangeErr, M.Wine.v, M.Wine.s, M.Wine.c, M.Rate.w, M.Rate.al, M.wine0, M.rg0, M.rate0, cond_true, cond_false, decide_true, decide_false, *]; done) | (simp only [M.rangeErr, M.Wine.v, M.Wine.s, M.Wine.c, M.Rate.w, M.Rate.al, M.wine0, M.rg0, M.rate0, cond_true, cond_false]; grind))
  · cases hd
theorem S75 : SumOK Tryd.prog gw 75 (grpSm [.agg, .c] d75) := grp_sum Tryd.func75 rfl C75
theorem t74 (a : Int) (b : Int) (c : Int) : runFn Tryd.prog 1 1 (lookS []) 40 Tryd.f74 [.c (.int .i64 a), .c (.int .i64 b), .c (.int .i64 c)] gb =
    T.br (a != (0 : Int)) (T.ret (Value.int IntKind.i64 a)) (T.br (b != (0 : Int)) (T.ret (Value.int IntKind.i64 b)) (T.ret (Value.int IntKind.i64 c))) := by kernel_rfl
theorem C74 : GOK Tryd.prog gw 74 [.c, .c, .c] d74 := by
  intro gs p v hd hp w xs hw hx
  unfold d74 at hd
  split at hd
  · cases hd
    refine grp_fin mixed gw_stable gw_glob (sl := []) trivial Tryd.func74 hw hx rfl rfl rfl rfl (t74 _ _ _) rfl ?_
    simp only [T.wp]
    repeat' (first | assumption | decide | refine ⟨?_, ?_⟩ | intro _)
    all_goals (try simp only [Bool.not_eq_true', Bool.not_eq_false'] at *)
    all_goals (first | rfl | (simp only [M.first3, M.Wine.v, M.Wine.s, M.Wine.c, M.Rate.w, M.Rate.al, M.wine0, M.rg0, M.rate0, cond_true, cond_false, decide_true, decide_false, *]; done) | (simp only [M.first3, M.Wine.v, M.Wine.s, M.Wine.c, M.Rate.w, M.Rate.al, M.wine0, M.rg0, M.rate0, cond_true, cond_false]; grind))
  · cases hd
theorem S74 : SumOK Tryd.prog gw 74 (grpSm [.c, .c, .c] d74) := grp_sum Tryd.func74 rfl C74
theorem t22 (v0 : Int) (v1 : Int) (s0 : Int) (s1 : Int) (c0 : Int) (c1 : Int) : runFn Tryd.prog 1 1 (lookS [s75, s74]) 40 Tryd.f22 [.agg [.int .i64 v0, .int .i64 v1, .int .i64 s0, .int .i64 s1, .int .i64 c0, .int .i64 c1]] gb =
    T.ret (Value.int IntKind.i64 (M.first3 (M.rangeErr { lo := v0, hi := v1 } (100000 : Int)) (M.rangeErr { lo := s0, hi := s1 } (10000 : Int)) (M.rangeErr { lo := c0, hi := c1 } (100000 : Int)))) := by kernel_rfl
theorem C22 : GOK Tryd.prog gw 22 [.agg] d22 := by
  intro gs p v hd hp w xs hw hx
  unfold d22 at hd
  split at hd
  · cases hd
    refine grp_fin mixed gw_stable gw_glob (sl := [s75, s74]) ⟨S75, S74, trivial⟩ Tryd.func22 hw hx rfl rfl rfl rfl (t22 _ _ _ _ _ _) rfl ?_
    simp only [T.wp]
    repeat' (first | assumption | decide | refine ⟨?_, ?_⟩ | intro _)
    all_goals (try simp only [Bool.not_eq_true', Bool.not_eq_false'] at *)
    all_goals (first | rfl | (simp only [M.rCheckWine, M.Wine.v, M.Wine.s, M.Wine.c, M.Rate.w, M.Rate.al, M.wine0, M.rg0, M.rate0, cond_true, cond_false, decide_true, decide_false, *]; done) | (simp only [M.rCheckWine, M.Wine.v, M.Wine.s, M.Wine.c, M.Rate.w, M.Rate.al, M.wine0, M.rg0, M.rate0, cond_true, cond_false]; grind))
  · cases hd
theorem S22 : SumOK Tryd.prog gw 22 (grpSm [.agg] d22) := grp_sum Tryd.func22 rfl C22
theorem t65 (n : Int) : runFn Tryd.prog 1 1 (lookS [s55]) 40 Tryd.f65 [.c (.int .i64 n)] gb =
    T.br (!M.within n (0 : Int) (10000 : Int)) (T.ret (Value.int IntKind.i64 (2 : Int))) (T.ret (Value.int IntKind.i64 (0 : Int))) := by kernel_rfl
theorem C65 : GOK Tryd.prog gw 65 [.c] d65 := by
  intro gs p v hd hp w xs hw hx
  unfold d65 at hd
  split at hd
  · cases hd
    refine grp_fin mixed gw_stable gw_glob (sl := [s55]) ⟨S55, trivial⟩ Tryd.func65 hw hx rfl rfl rfl rfl (t65 _) rfl ?_
    simp only [T.wp]
    repeat' (first | assumption | decide | refine ⟨?_, ?_⟩ | intro _)
    all_goals (try simp only [Bool.not_eq_true', Bool.not_eq_false'] at *)
    all_goals (first | rfl | (simp only [M.rStrengthErr, M.Wine.v, M.Wine.s, M.Wine.c, M.Rate.w, M.Rate.al, M.wine0, M.rg0, M.rate0, cond_true, cond_false, decide_true, decide_false, *]; done) | (simp only [M.rStrengthErr, M.Wine.v, M.Wine.s, M.Wine.c, M.Rate.w, M.Rate.al, M.wine0, M.rg0, M.rate0, cond_true, cond_false]; grind))
  · cases hd
theorem S65 : SumOK Tryd.prog gw 65 (grpSm [.c] d65) := grp_sum Tryd.func65 rfl C65
theorem t106 (volume : Int) (own : Int) (x : Int) (y : Int) : runFn Tryd.prog 1 1 (lookS [s69]) 40 Tryd.f106 [.c (.int .i64 volume), .c (.int .i64 own), .c (.int .i64 x), .c (.int .i64 y)] gb =
    T.br (decide (own ≥ y)) (T.ret (Value.int IntKind.i64 (0 : Int))) (T.need (IntKind.wrap IntKind.i64 (x - y) ≠ (0 : Int)) (T.ret (Value.int IntKind.i64 (M.ceiling (IntKind.wrap IntKind.i64 (volume * IntKind.wrap IntKind.i64 (y - own))) (IntKind.wrap IntKind.i64 (x - y)))))) := by kernel_rfl
theorem C106 : GOK Tryd.prog gw 106 [.c, .c, .c, .c] d106 := by
  intro gs p v hd hp w xs hw hx
  unfold d106 at hd
  split at hd
  · cases hd
    refine grp_fin mixed gw_stable gw_glob (sl := [s69]) ⟨S69, trivial⟩ Tryd.func106 hw hx rfl rfl rfl rfl (t106 _ _ _ _) rfl ?_
    obtain ⟨hp0, _⟩ := hp
    simp only [T.wp]
    repeat' (first | assumption | decide | refine ⟨?_, ?_⟩ | intro _)
    all_goals (try simp only [Bool.not_eq_true', Bool.not_eq_false'] at *)
    all_goals (first | rfl | (simp only [M.needed, M.Wine.v, M.Wine.s, M.Wine.c, M.Rate.w, M.Rate.al, M.wine0, M.rg0, M.rate0, cond_true, cond_false, decide_true, decide_false, *]; done) | (simp only [M.needed, M.Wine.v, M.Wine.s, M.Wine.c, M.Rate.w, M.Rate.al, M.wine0, M.rg0, M.rate0, cond_true, cond_false]; grind))
  · cases hd
theorem S106 : SumOK Tryd.prog gw 106 (grpSm [.c, .c, .c, .c] d106) := grp_sum Tryd.func106 rfl C106
theorem t66 (volume : Int) (own : Int) (spirit : Int) (strength : Int) (target : Int) : runFn Tryd.prog 1 1 (lookS []) 40 Tryd.f66 [.c (.int .i64 volume), .c (.int .i64 own), .c (.int .i64 spirit), .c (.int .i64 strength), .c (.int .i64 target)] gb =
    T.ret (Value.bool (decide (IntKind.wrap IntKind.i64 (IntKind.wrap IntKind.i64 (volume * own) + IntKind.wrap IntKind.i64 (spirit * strength)) ≥ IntKind.wrap IntKind.i64 (target * IntKind.wrap IntKind.i64 (volume + spirit))))) := by kernel_rfl
theorem C66 : GOK Tryd.prog gw 66 [.c, .c, .c, .c, .c] d66 := by
  intro gs p v hd hp w xs hw hx
  unfold d66 at hd
  split at hd
  · cases hd
    refine grp_fin mixed gw_stable gw_glob (sl := []) trivial Tryd.func66 hw hx rfl rfl rfl rfl (t66 _ _ _ _ _) rfl ?_
    simp only [T.wp]
    repeat' (first | assumption | decide | refine ⟨?_, ?_⟩ | intro _)
    all_goals (try simp only [Bool.not_eq_true', Bool.not_eq_false'] at *)
    all_goals (first | rfl | (simp only [M.reach, M.Wine.v, M.Wine.s, M.Wine.c, M.Rate.w, M.Rate.al, M.wine0, M.rg0, M.rate0, cond_true, cond_false, decide_true, decide_false, *]; done) | (simp only [M.reach, M.Wine.v, M.Wine.s, M.Wine.c, M.Rate.w, M.Rate.al, M.wine0, M.rg0, M.rate0, cond_true, cond_false]; grind))
  · cases hd
theorem t56 (n : Int) : runFn Tryd.prog 1 1 (lookS []) 40 Tryd.f56 [.c (.int .i64 n)] gb =
    T.ret (Value.agg #[Value.int IntKind.i64 n, Value.int IntKind.i64 n]) := by kernel_rfl
theorem C56 : GOK Tryd.prog gw 56 [.c] d56 := by
  intro gs p v hd hp w xs hw hx
  unfold d56 at hd
  split at hd
  · cases hd
    refine grp_fin mixed gw_stable gw_glob (sl := []) trivial Tryd.func56 hw hx rfl rfl rfl rfl (t56 _) rfl ?_
    simp only [T.wp]
    repeat' (first | assumption | decide | refine ⟨?_, ?_⟩ | intro _)
    all_goals (try simp only [Bool.not_eq_true', Bool.not_eq_false'] at *)
    all_goals (first | rfl | (simp only [M.Wine.v, M.Wine.s, M.Wine.c, M.Rate.w, M.Rate.al, M.wine0, M.rg0, M.rate0, cond_true, cond_false, decide_true, decide_false, *]; done) | (simp only [M.Wine.v, M.Wine.s, M.Wine.c, M.Rate.w, M.Rate.al, M.wine0, M.rg0, M.rate0, cond_true, cond_false]; grind))
  · cases hd
theorem S56 : SumOK Tryd.prog gw 56 (grpSm [.c] d56) := grp_sum Tryd.func56 rfl C56
theorem t105 (n : Int) : runFn Tryd.prog 1 1 (lookS []) 40 Tryd.f105 [.c (.int .i64 n)] gb =
    T.ret (Value.agg #[Value.int IntKind.i64 n, Value.int IntKind.i64 n]) := by kernel_rfl
theorem C105 : GOK Tryd.prog gw 105 [.c] d105 := by
  intro gs p v hd hp w xs hw hx
  unfold d105 at hd
  split at hd
  · cases hd
    refine grp_fin mixed gw_stable gw_glob (sl := []) trivial Tryd.func105 hw hx rfl rfl rfl rfl (t105 _) rfl ?_
    simp only [T.wp]
    repeat' (first | assumption | decide | refine ⟨?_, ?_⟩ | intro _)
    all_goals (try simp only [Bool.not_eq_true', Bool.not_eq_false'] at *)
    all_goals (first | rfl | (simp only [M.Wine.v, M.Wine.s, M.Wine.c, M.Rate.w, M.Rate.al, M.wine0, M.rg0, M.rate0, cond_true, cond_false, decide_true, decide_false, *]; done) | (simp only [M.Wine.v, M.Wine.s, M.Wine.c, M.Rate.w, M.Rate.al, M.wine0, M.rg0, M.rate0, cond_true, cond_false]; grind))
  · cases hd
theorem t70 : runFn Tryd.prog 1 1 (lookS []) 40 Tryd.f70 [] gb =
    T.ret (Value.agg #[Value.int IntKind.i64 (1000 : Int), Value.int IntKind.i64 (1000 : Int), Value.int IntKind.i64 (1500 : Int), Value.int IntKind.i64 (1600 : Int), Value.int IntKind.i64 (200 : Int), Value.int IntKind.i64 (200 : Int)]) := by kernel_rfl
theorem C70 : GOK Tryd.prog gw 70 [] d70 := by
  intro gs p v hd hp w xs hw hx
  unfold d70 at hd
  split at hd
  · cases hd
    refine grp_fin mixed gw_stable gw_glob (sl := []) trivial Tryd.func70 hw hx rfl rfl rfl rfl (t70 ) rfl ?_
    simp only [T.wp]
    repeat' (first | assumption | decide | refine ⟨?_, ?_⟩ | intro _)
    all_goals (try simp only [Bool.not_eq_true', Bool.not_eq_false'] at *)
    all_goals (first | rfl | (simp only [M.Wine.v, M.Wine.s, M.Wine.c, M.Rate.w, M.Rate.al, M.wine0, M.rg0, M.rate0, cond_true, cond_false, decide_true, decide_false, *]; done) | (simp only [M.Wine.v, M.Wine.s, M.Wine.c, M.Rate.w, M.Rate.al, M.wine0, M.rg0, M.rate0, cond_true, cond_false]; grind))
  · cases hd
theorem S70 : SumOK Tryd.prog gw 70 (grpSm [] d70) := grp_sum Tryd.func70 rfl C70
theorem t71 : runFn Tryd.prog 1 1 (lookS []) 40 Tryd.f71 [] gb =
    T.ret (Value.agg #[Value.int IntKind.i64 (100 : Int), Value.int IntKind.i64 (200 : Int), Value.int IntKind.i64 (200 : Int), Value.int IntKind.i64 (300 : Int)]) := by kernel_rfl
theorem C71 : GOK Tryd.prog gw 71 [] d71 := by
  intro gs p v hd hp w xs hw hx
  unfold d71 at hd
  split at hd
  · cases hd
    refine grp_fin mixed gw_stable gw_glob (sl := []) trivial Tryd.func71 hw hx rfl rfl rfl rfl (t71 ) rfl ?_
    simp only [T.wp]
    repeat' (first | assumption | decide | refine ⟨?_, ?_⟩ | intro _)
    all_goals (try simp only [Bool.not_eq_true', Bool.not_eq_false'] at *)
    all_goals (first | rfl | (simp only [M.Wine.v, M.Wine.s, M.Wine.c, M.Rate.w, M.Rate.al, M.wine0, M.rg0, M.rate0, cond_true, cond_false, decide_true, decide_false, *]; done) | (simp only [M.Wine.v, M.Wine.s, M.Wine.c, M.Rate.w, M.Rate.al, M.wine0, M.rg0, M.rate0, cond_true, cond_false]; grind))
  · cases hd
theorem S71 : SumOK Tryd.prog gw 71 (grpSm [] d71) := grp_sum Tryd.func71 rfl C71
end Go.Fl
end

section
set_option linter.unusedVariables false
set_option linter.unusedSimpArgs false
namespace Go.Fl.L
open Go.Fl.M
theorem W_id {n : Int} (h1 : -9223372036854775808 ≤ n) (h2 : n ≤ 9223372036854775807) : W n = n := by
  unfold W; rw [IntKind.wrap_i64]; omega
theorem first_nil {l : List Int} : first l = 0 ↔ ∀ e ∈ l, e = 0 := by
  induction l with
  | nil => simp [first]
  | cons e l ih =>
    simp only [first]
    by_cases h : e = 0
    · subst h; simp [ih]
    · have : (e != 0) = true := by simp [h]
      rw [this]; simp [h]
theorem ne_false {e : Int} : (e != 0) = false ↔ e = 0 := by simp
theorem unl_zero {b : Bool} {e : Int} (he : e ≠ 0) : unl b e = 0 ↔ b = true := by cases b <;> simp [unl, he]
theorem within_iff {n lo hi : Int} : within n lo hi = true ↔ lo ≤ n ∧ n ≤ hi := by
  unfold within
  by_cases h : lo ≤ n <;> simp [h]
theorem spanErr_zero {r : Rg} {most : Int} : spanErr r most = 0 ↔ 0 ≤ r.lo ∧ r.lo ≤ r.hi ∧ r.hi ≤ most := by
  unfold spanErr
  rw [first_nil]
  simp only [List.mem_cons, List.not_mem_nil, or_false, forall_eq_or_imp, forall_eq]
  rw [unl_zero (by decide), unl_zero (by decide)]
  by_cases h : within r.lo 0 most = true
  · rw [h]; simp only [cond_true, within_iff, decide_eq_true_eq]; rw [within_iff] at h; omega
  · have h' : within r.lo 0 most = false := by simpa using h
    rw [h']; simp only [cond_false]
    rw [within_iff] at h
    constructor
    · intro hh; cases hh.1
    · intro hh; exact absurd (by omega) h
/-- A wine's numbers. -/
structure OkW (w : Wine) : Prop where
  v0 : 0 ≤ w.v0
  v : w.v0 ≤ w.v1
  v1 : w.v1 ≤ 100000
  s0 : 0 ≤ w.s0
  s : w.s0 ≤ w.s1
  s1 : w.s1 ≤ 10000
  c0 : 0 ≤ w.c0
  c : w.c0 ≤ w.c1
  c1 : w.c1 ≤ 100000
structure OkR (r : Rate) : Prop where
  a : 0 ≤ r.a
  b : r.a ≤ r.b
  b1 : r.b ≤ 2000
  c : 0 ≤ r.c
  d : r.c ≤ r.d
  d1 : r.d ≤ 2000
theorem cond_ne_zero {a b : Int} : cond (a != 0) a b = 0 ↔ a = 0 ∧ b = 0 := by
  by_cases h : a = 0
  · subst h; simp
  · have : (a != 0) = true := by simp [h]
    rw [this]; simp [h]
theorem checkWine_zero {w : Wine} : checkWine w = 0 ↔ OkW w := by
  unfold checkWine
  rw [cond_ne_zero, cond_ne_zero, cond_ne_zero, spanErr_zero, spanErr_zero, spanErr_zero]
  constructor
  · rintro ⟨⟨a1, a2, a3⟩, ⟨b1, b2, b3⟩, ⟨c1, c2, c3⟩, _⟩; exact ⟨a1, a2, a3, b1, b2, b3, c1, c2, c3⟩
  · rintro ⟨a1, a2, a3, b1, b2, b3, c1, c2, c3⟩; exact ⟨⟨a1, a2, a3⟩, ⟨b1, b2, b3⟩, ⟨c1, c2, c3⟩, rfl⟩
theorem checkRate_zero {r : Rate} : checkRate r = 0 ↔ OkR r := by
  unfold checkRate
  rw [first_nil]
  simp only [List.mem_cons, List.not_mem_nil, or_false, forall_eq_or_imp, forall_eq, spanErr_zero]
  constructor
  · rintro ⟨⟨a1, a2, a3⟩, ⟨b1, b2, b3⟩⟩; exact ⟨a1, a2, a3, b1, b2, b3⟩
  · rintro ⟨a1, a2, a3, b1, b2, b3⟩; exact ⟨⟨a1, a2, a3⟩, ⟨b1, b2, b3⟩⟩
theorem daysErr_zero {d : Int} : daysErr d = 0 ↔ 0 ≤ d ∧ d ≤ 365 := by unfold daysErr; rw [unl_zero (by decide), within_iff]
theorem strengthErr_zero {d : Int} : strengthErr d = 0 ↔ 0 ≤ d ∧ d ≤ 10000 := by unfold strengthErr; rw [unl_zero (by decide), within_iff]
theorem taskErr_zero {w : Wine} {r : Rate} {d : Int} : taskErr w r d = 0 ↔ OkW w ∧ OkR r ∧ 0 ≤ d ∧ d ≤ 365 := by
  unfold taskErr
  rw [first_nil]
  simp only [List.mem_cons, List.not_mem_nil, or_false, forall_eq_or_imp, forall_eq, checkWine_zero, checkRate_zero, daysErr_zero]
/-- What is left behind some days. -/
theorem mul_le {a d A D : Int} (h0 : 0 ≤ a) (h1 : a ≤ A) (h2 : 0 ≤ d) (h3 : d ≤ D) : 0 ≤ a * d ∧ a * d ≤ A * D :=
  ⟨Int.mul_nonneg h0 h2, Int.mul_le_mul h1 h3 h2 (by omega)⟩
theorem left_eq {r : Rg} {d : Int} (h0 : 0 ≤ r.lo) (h : r.lo ≤ r.hi) (h1 : r.hi ≤ 2000) (hd : 0 ≤ d) (hd1 : d ≤ 365) :
    (left r d).lo = 1000000 - r.hi * d ∧ (left r d).hi = 1000000 - r.lo * d ∧ 270000 ≤ (left r d).lo ∧ (left r d).lo ≤ (left r d).hi ∧ (left r d).hi ≤ 1000000 := by
  have b1 := mul_le (by omega) h1 hd hd1
  have b2 := mul_le h0 (by omega : r.lo ≤ 2000) hd hd1
  have b3 : r.lo * d ≤ r.hi * d := Int.mul_le_mul_of_nonneg_right h hd
  have e1 : (left r d).lo = 1000000 - r.hi * d := by
    unfold left; simp only
    rw [W_id (n := r.hi * d) (by omega) (by omega), W_id (by omega) (by omega)]
  have e2 : (left r d).hi = 1000000 - r.lo * d := by
    unfold left; simp only
    rw [W_id (n := r.lo * d) (by omega) (by omega), W_id (by omega) (by omega)]
  rw [e1, e2]
  exact ⟨rfl, rfl, by omega, by omega, by omega⟩
theorem task_left {r : Rate} {d : Int} (hr : OkR r) (hd : 0 ≤ d ∧ d ≤ 365) : (left r.w d).hi ≠ 0 ∧ (left r.w d).lo ≠ 0 := by
  obtain ⟨_, _, h1, h2, _⟩ := left_eq (r := r.w) hr.a hr.b hr.b1 hd.1 hd.2
  exact ⟨by omega, by omega⟩
theorem task_hi {w : Wine} {r : Rate} {d : Int} (h : (first [checkWine w, checkRate r, daysErr d] != 0) = false) : (left (Rate.w r) d).hi ≠ 0 := by
  have := taskErr_zero.1 (ne_false.1 h)
  exact (task_left this.2.1 this.2.2).1
theorem task_lo {w : Wine} {r : Rate} {d : Int} (h : (first [checkWine w, checkRate r, daysErr d] != 0) = false) : (left (Rate.w r) d).lo ≠ 0 := by
  have := taskErr_zero.1 (ne_false.1 h)
  exact (task_left this.2.1 this.2.2).2
/- the reference's errors are the program's -/
theorem rangeErr_eq (r : Rg) (most : Int) : rangeErr r most = spanErr r most := by
  unfold rangeErr spanErr
  have e : cond (decide (r.lo > r.hi)) (9 : Int) 0 = cond (decide (r.lo ≤ r.hi)) 0 9 := by
    by_cases h : r.lo ≤ r.hi
    · have h' : ¬ r.lo > r.hi := by omega
      rw [decide_eq_true h, decide_eq_false h']; rfl
    · have h' : r.lo > r.hi := by omega
      rw [decide_eq_false h, decide_eq_true h']; rfl
  cases h1 : within r.lo 0 most <;> cases h2 : within r.hi 0 most <;> simp only [cond_true, cond_false]
  · rfl
  · rfl
  · rfl
  · rw [e]; cases decide (r.lo ≤ r.hi) <;> rfl
theorem first3_eq (a b c : Int) : first3 a b c = first [a, b, c] := by
  unfold first3
  simp only [first]
  by_cases h : c = 0
  · subst h; simp
  · have : (c != 0) = true := by simp [h]
    rw [this]; simp
theorem rCheckWine_eq (w : Wine) : rCheckWine w = checkWine w := by
  unfold rCheckWine checkWine
  rw [first3_eq, rangeErr_eq, rangeErr_eq, rangeErr_eq]
  simp only [first]
theorem rStrengthErr_eq (d : Int) : rStrengthErr d = strengthErr d := rfl
theorem spirit_ne {w : Wine} {x y : Int} (h : (first [checkWine w, strengthErr x, strengthErr y, unl (decide (x > y)) 11] != 0) = false) : W (x - y) ≠ 0 := by
  have := first_nil.1 (ne_false.1 h)
  simp only [List.mem_cons, List.not_mem_nil, or_false, forall_eq_or_imp, forall_eq, checkWine_zero, strengthErr_zero] at this
  rw [unl_zero (by decide), decide_eq_true_eq] at this
  rw [W_id (by omega) (by omega)]; omega
theorem rspirit_ne {w : Wine} {x y : Int} (h : (first3 (rCheckWine w) (rStrengthErr x) (rStrengthErr y) != 0) = false) (hxy : decide (x ≤ y) = false) : W (x - y) ≠ 0 := by
  rw [first3_eq, rCheckWine_eq, rStrengthErr_eq, rStrengthErr_eq] at h
  have := first_nil.1 (ne_false.1 h)
  simp only [List.mem_cons, List.not_mem_nil, or_false, forall_eq_or_imp, forall_eq, checkWine_zero, strengthErr_zero] at this
  rw [decide_eq_false_iff_not] at hxy
  rw [W_id (by omega) (by omega)]; omega
end Go.Fl.L
end

section
namespace Go.Fl
open Go.Eng Go.RowKit Go.Proofs
set_option maxRecDepth 100000
set_option linter.unusedSimpArgs false
set_option linter.unusedVariables false
theorem t60 (v0 : Int) (v1 : Int) (s0 : Int) (s1 : Int) (c0 : Int) (c1 : Int) (x : Int) (y : Int) : runFn Tryd.prog 1 1 (lookS [s22, s65, s74, s106]) 40 Tryd.f60 [.agg [.int .i64 v0, .int .i64 v1, .int .i64 s0, .int .i64 s1, .int .i64 c0, .int .i64 c1], .c (.int .i64 x), .c (.int .i64 y)] gb =
    T.br (M.first3 (M.rCheckWine { v0 := v0, v1 := v1, s0 := s0, s1 := s1, c0 := c0, c1 := c1 }) (M.rStrengthErr x) (M.rStrengthErr y) != (0 : Int)) (T.ret (Value.tuple #[Value.agg #[Value.int IntKind.i64 (0 : Int), Value.int IntKind.i64 (0 : Int)], Value.int IntKind.i64 (M.first3 (M.rCheckWine { v0 := v0, v1 := v1, s0 := s0, s1 := s1, c0 := c0, c1 := c1 }) (M.rStrengthErr x) (M.rStrengthErr y))])) (T.br (decide (x ≤ y)) (T.ret (Value.tuple #[Value.agg #[Value.int IntKind.i64 (0 : Int), Value.int IntKind.i64 (0 : Int)], Value.int IntKind.i64 (11 : Int)])) (T.need (M.W (x - y) ≠ (0 : Int)) (T.need (M.W (x - y) ≠ (0 : Int)) (T.br (decide (M.needed v1 s0 x y > (100000 : Int))) (T.ret (Value.tuple #[Value.agg #[Value.int IntKind.i64 (0 : Int), Value.int IntKind.i64 (0 : Int)], Value.int IntKind.i64 (8 : Int)])) (T.ret (Value.tuple #[Value.agg #[Value.int IntKind.i64 (M.needed v0 s1 x y), Value.int IntKind.i64 (M.needed v1 s0 x y)], Value.int IntKind.i64 (0 : Int)])))))) := by kernel_rfl
theorem C60 : GOK Tryd.prog gw 60 [.agg, .c, .c] d60 := by
  intro gs p v hd hp w xs hw hx
  unfold d60 at hd
  split at hd
  · cases hd
    refine grp_fin mixed gw_stable gw_glob (sl := [s22, s65, s74, s106]) ⟨S22, S65, S74, S106, trivial⟩ Tryd.func60 hw hx rfl rfl rfl rfl (t60 _ _ _ _ _ _ _ _) rfl ?_
    simp only [T.wp]
    repeat' (first | with_reducible assumption | decide | with_reducible exact L.rspirit_ne (by with_reducible assumption) (by with_reducible assumption) | refine ⟨?_, ?_⟩ | intro _)
    all_goals (try simp only [Bool.not_eq_true', Bool.not_eq_false'] at *)
    all_goals (first | rfl | (simp only [M.rSpiritFor, M.Wine.v, M.Wine.s, M.Wine.c, M.Rate.w, M.Rate.al, M.wine0, M.rg0, M.rate0, cond_true, cond_false, decide_true, decide_false, *]; done) | (simp only [M.rSpiritFor, M.Wine.v, M.Wine.s, M.Wine.c, M.Rate.w, M.Rate.al, M.wine0, M.rg0, M.rate0, cond_true, cond_false]; grind))
  · cases hd
end Go.Fl
end

section
namespace Go.Fl
open Go.Eng Go.RowKit Go.Proofs
set_option maxRecDepth 100000
set_option linter.unusedSimpArgs false
set_option linter.unusedVariables false
theorem t78 (v0 : Int) (v1 : Int) (s0 : Int) (s1 : Int) (c0 : Int) (c1 : Int) (ra : Int) (rb : Int) (rc : Int) (rd : Int) (d : Int) : runFn Tryd.prog 1 1 (lookS [s79, s80, s81]) 40 Tryd.f78 [.agg [.int .i64 v0, .int .i64 v1, .int .i64 s0, .int .i64 s1, .int .i64 c0, .int .i64 c1], .agg [.int .i64 ra, .int .i64 rb, .int .i64 rc, .int .i64 rd], .c (.int .i64 d)] gb =
    T.need ((1000000 : Int) ≠ (0 : Int)) (T.need ((1000000 : Int) ≠ (0 : Int)) (T.need (M.Rg.hi (M.left { lo := ra, hi := rb } d) ≠ (0 : Int)) (T.need (M.Rg.lo (M.left { lo := ra, hi := rb } d) ≠ (0 : Int)) (T.need (M.Rg.hi (M.left { lo := ra, hi := rb } d) ≠ (0 : Int)) (T.need (M.Rg.lo (M.left { lo := ra, hi := rb } d) ≠ (0 : Int)) (T.ret (Value.agg #[Value.int IntKind.i64 (M.floor (IntKind.wrap IntKind.i64 (v0 * M.Rg.lo (M.left { lo := ra, hi := rb } d))) (1000000 : Int)), Value.int IntKind.i64 (M.ceiling (IntKind.wrap IntKind.i64 (v1 * M.Rg.hi (M.left { lo := ra, hi := rb } d))) (1000000 : Int)), Value.int IntKind.i64 (M.floor (IntKind.wrap IntKind.i64 (s0 * M.Rg.lo (M.left { lo := rc, hi := rd } d))) (M.Rg.hi (M.left { lo := ra, hi := rb } d))), Value.int IntKind.i64 (M.ceiling (IntKind.wrap IntKind.i64 (s1 * M.Rg.hi (M.left { lo := rc, hi := rd } d))) (M.Rg.lo (M.left { lo := ra, hi := rb } d))), Value.int IntKind.i64 (M.floor (IntKind.wrap IntKind.i64 (c0 * (1000000 : Int))) (M.Rg.hi (M.left { lo := ra, hi := rb } d))), Value.int IntKind.i64 (M.ceiling (IntKind.wrap IntKind.i64 (c1 * (1000000 : Int))) (M.Rg.lo (M.left { lo := ra, hi := rb } d)))]))))))) := by kernel_rfl
theorem C78 : GOK Tryd.prog gw 78 [.agg, .agg, .c] d78 := by
  intro gs p v hd hp w xs hw hx
  unfold d78 at hd
  split at hd
  · cases hd
    refine grp_fin mixed gw_stable gw_glob (sl := [s79, s80, s81]) ⟨S79, S80, S81, trivial⟩ Tryd.func78 hw hx rfl rfl rfl rfl (t78 _ _ _ _ _ _ _ _ _ _ _) rfl ?_
    obtain ⟨hp0, hp1, _⟩ := hp
    simp only [T.wp]
    repeat' (first | assumption | decide | refine ⟨?_, ?_⟩ | intro _)
    all_goals (try simp only [Bool.not_eq_true', Bool.not_eq_false'] at *)
    all_goals (first | rfl | (simp only [M.after, M.Wine.v, M.Wine.s, M.Wine.c, M.Rate.w, M.Rate.al, M.wine0, M.rg0, M.rate0, cond_true, cond_false, decide_true, decide_false, *]; done) | (simp only [M.after, M.Wine.v, M.Wine.s, M.Wine.c, M.Rate.w, M.Rate.al, M.wine0, M.rg0, M.rate0, cond_true, cond_false]; grind))
  · cases hd
theorem S78 : SumOK Tryd.prog gw 78 (grpSm [.agg, .agg, .c] d78) := grp_sum Tryd.func78 rfl C78
theorem t40 (v0 : Int) (v1 : Int) (s0 : Int) (s1 : Int) (c0 : Int) (c1 : Int) (ra : Int) (rb : Int) (rc : Int) (rd : Int) : runFn Tryd.prog 1 1 (lookS [s21, s25, s76, s87, s88]) 40 Tryd.f40 [.agg [.int .i64 v0, .int .i64 v1, .int .i64 s0, .int .i64 s1, .int .i64 c0, .int .i64 c1], .agg [.int .i64 ra, .int .i64 rb, .int .i64 rc, .int .i64 rd]] gb =
    T.br (M.first [M.checkWine { v0 := v0, v1 := v1, s0 := s0, s1 := s1, c0 := c0, c1 := c1 }, M.checkLaw { a := ra, b := rb, c := rc, d := rd }] != (0 : Int)) (T.ret (Value.tuple #[Value.int IntKind.i64 (0 : Int), Value.int IntKind.i64 (M.first [M.checkWine { v0 := v0, v1 := v1, s0 := s0, s1 := s1, c0 := c0, c1 := c1 }, M.checkLaw { a := ra, b := rb, c := rc, d := rd }])])) (T.br (!M.rgOk (M.common { lo := s0, hi := s1 } { lo := ra, hi := rb })) (T.ret (Value.tuple #[Value.int IntKind.i64 (0 : Int), Value.int IntKind.i64 (0 : Int)])) (T.br (!M.rgIn { lo := s0, hi := s1 } { lo := ra, hi := rb }) (T.br (!M.rgOk (M.common { lo := c0, hi := c1 } { lo := rc, hi := rd })) (T.ret (Value.tuple #[Value.int IntKind.i64 (0 : Int), Value.int IntKind.i64 (0 : Int)])) (T.br (!M.rgIn { lo := c0, hi := c1 } { lo := rc, hi := rd }) (T.ret (Value.tuple #[Value.int IntKind.i64 (1 : Int), Value.int IntKind.i64 (0 : Int)])) (T.ret (Value.tuple #[Value.int IntKind.i64 (1 : Int), Value.int IntKind.i64 (0 : Int)])))) (T.br (!M.rgOk (M.common { lo := c0, hi := c1 } { lo := rc, hi := rd })) (T.ret (Value.tuple #[Value.int IntKind.i64 (0 : Int), Value.int IntKind.i64 (0 : Int)])) (T.br (!M.rgIn { lo := c0, hi := c1 } { lo := rc, hi := rd }) (T.ret (Value.tuple #[Value.int IntKind.i64 (1 : Int), Value.int IntKind.i64 (0 : Int)])) (T.ret (Value.tuple #[Value.int IntKind.i64 (2 : Int), Value.int IntKind.i64 (0 : Int)])))))) := by kernel_rfl
theorem C40 : GOK Tryd.prog gw 40 [.agg, .agg] d40 := by
  intro gs p v hd hp w xs hw hx
  unfold d40 at hd
  split at hd
  · cases hd
    refine grp_fin mixed gw_stable gw_glob (sl := [s21, s25, s76, s87, s88]) ⟨S21, S25, S76, S87, S88, trivial⟩ Tryd.func40 hw hx rfl rfl rfl rfl (t40 _ _ _ _ _ _ _ _ _ _) rfl ?_
    simp only [T.wp]
    repeat' (first | assumption | decide | refine ⟨?_, ?_⟩ | intro _)
    all_goals (try simp only [Bool.not_eq_true', Bool.not_eq_false'] at *)
    all_goals (first | rfl | (simp only [M.LegalIs, M.lawErr, M.legalIs, M.Wine.v, M.Wine.s, M.Wine.c, M.Rate.w, M.Rate.al, M.wine0, M.rg0, M.rate0, cond_true, cond_false, decide_true, decide_false, *]; done) | (simp only [M.LegalIs, M.lawErr, M.legalIs, M.Wine.v, M.Wine.s, M.Wine.c, M.Rate.w, M.Rate.al, M.wine0, M.rg0, M.rate0, cond_true, cond_false]; grind))
  · cases hd
theorem t104 (volume : Int) (strength : Int) (target : Int) (spirit : Int) : runFn Tryd.prog 1 3 (lookS [s81]) 40 Tryd.f104 [.c (.int .i64 volume), .c (.int .i64 strength), .c (.ptr 1 0), .c (.ptr 2 0)] (gb ++ [.part 0 [.int .i64 target], .part 0 [.int .i64 spirit]]) =
    T.need (IntKind.wrap IntKind.i64 (spirit - target) ≠ (0 : Int)) (T.ret (Value.int IntKind.i64 (M.ceiling (IntKind.wrap IntKind.i64 (volume * if IntKind.wrap IntKind.i64 (target - strength) > (0 : Int) then IntKind.wrap IntKind.i64 (target - strength) else (0 : Int))) (IntKind.wrap IntKind.i64 (spirit - target))))) := by kernel_rfl
theorem C104 : GOK Tryd.prog gw 104 [.c, .c, .ptr, .ptr] d104 := by
  intro gs p v hd hp w xs hw hx
  unfold d104 at hd
  split at hd
  · cases hd
    refine grp_fin mixed gw_stable gw_glob (sl := [s81]) ⟨S81, trivial⟩ Tryd.func104 hw hx rfl rfl rfl rfl (t104 _ _ _ _) rfl ?_
    obtain ⟨hp0, _⟩ := hp
    simp only [T.wp]
    repeat' (first | assumption | decide | refine ⟨?_, ?_⟩ | intro _)
    all_goals (try simp only [Bool.not_eq_true', Bool.not_eq_false'] at *)
    all_goals (first | rfl | (simp only [M.need, M.maxI, M.Wine.v, M.Wine.s, M.Wine.c, M.Rate.w, M.Rate.al, M.wine0, M.rg0, M.rate0, cond_true, cond_false, decide_true, decide_false, *]; done) | (simp only [M.need, M.maxI, M.Wine.v, M.Wine.s, M.Wine.c, M.Rate.w, M.Rate.al, M.wine0, M.rg0, M.rate0, cond_true, cond_false]; grind))
  · cases hd
theorem S104 : SumOK Tryd.prog gw 104 (grpSm [.c, .c, .ptr, .ptr] d104) := grp_sum Tryd.func104 rfl C104
end Go.Fl
end

section
namespace Go.Fl
open Go.Eng Go.RowKit Go.Proofs
set_option maxRecDepth 100000
set_option linter.unusedSimpArgs false
set_option linter.unusedVariables false
theorem t27 (v0 : Int) (v1 : Int) (s0 : Int) (s1 : Int) (c0 : Int) (c1 : Int) (ra : Int) (rb : Int) (rc : Int) (rd : Int) (d : Int) : runFn Tryd.prog 1 1 (lookS [s21, s23, s77, s76, s78]) 40 Tryd.f27 [.agg [.int .i64 v0, .int .i64 v1, .int .i64 s0, .int .i64 s1, .int .i64 c0, .int .i64 c1], .agg [.int .i64 ra, .int .i64 rb, .int .i64 rc, .int .i64 rd], .c (.int .i64 d)] gb =
    T.br (M.first [M.checkWine { v0 := v0, v1 := v1, s0 := s0, s1 := s1, c0 := c0, c1 := c1 }, M.checkRate { a := ra, b := rb, c := rc, d := rd }, M.daysErr d] != (0 : Int)) (T.ret (Value.tuple #[Value.agg #[Value.int IntKind.i64 (0 : Int), Value.int IntKind.i64 (0 : Int), Value.int IntKind.i64 (0 : Int), Value.int IntKind.i64 (0 : Int), Value.int IntKind.i64 (0 : Int), Value.int IntKind.i64 (0 : Int)], Value.int IntKind.i64 (M.first [M.checkWine { v0 := v0, v1 := v1, s0 := s0, s1 := s1, c0 := c0, c1 := c1 }, M.checkRate { a := ra, b := rb, c := rc, d := rd }, M.daysErr d])])) (T.need (M.Rg.hi (M.left (M.Rate.w { a := ra, b := rb, c := rc, d := rd }) d) ≠ (0 : Int)) (T.need (M.Rg.lo (M.left (M.Rate.w { a := ra, b := rb, c := rc, d := rd }) d) ≠ (0 : Int)) (T.br (decide (M.Wine.s1 (M.after { v0 := v0, v1 := v1, s0 := s0, s1 := s1, c0 := c0, c1 := c1 } { a := ra, b := rb, c := rc, d := rd } d) > (10000 : Int))) (T.need (decide (M.Wine.s1 (M.after { v0 := v0, v1 := v1, s0 := s0, s1 := s1, c0 := c0, c1 := c1 } { a := ra, b := rb, c := rc, d := rd } d) > (10000 : Int)) = true) (T.ret (Value.tuple #[Value.agg #[Value.int IntKind.i64 (0 : Int), Value.int IntKind.i64 (0 : Int), Value.int IntKind.i64 (0 : Int), Value.int IntKind.i64 (0 : Int), Value.int IntKind.i64 (0 : Int), Value.int IntKind.i64 (0 : Int)], Value.int IntKind.i64 (8 : Int)]))) (T.need (decide (M.Wine.s1 (M.after { v0 := v0, v1 := v1, s0 := s0, s1 := s1, c0 := c0, c1 := c1 } { a := ra, b := rb, c := rc, d := rd } d) > (10000 : Int)) = false) (T.br (decide (M.Wine.c1 (M.after { v0 := v0, v1 := v1, s0 := s0, s1 := s1, c0 := c0, c1 := c1 } { a := ra, b := rb, c := rc, d := rd } d) > (100000 : Int))) (T.ret (Value.tuple #[Value.agg #[Value.int IntKind.i64 (0 : Int), Value.int IntKind.i64 (0 : Int), Value.int IntKind.i64 (0 : Int), Value.int IntKind.i64 (0 : Int), Value.int IntKind.i64 (0 : Int), Value.int IntKind.i64 (0 : Int)], Value.int IntKind.i64 (8 : Int)])) (T.ret (Value.tuple #[Value.agg #[Value.int IntKind.i64 (M.Wine.v0 (M.after { v0 := v0, v1 := v1, s0 := s0, s1 := s1, c0 := c0, c1 := c1 } { a := ra, b := rb, c := rc, d := rd } d)), Value.int IntKind.i64 (M.Wine.v1 (M.after { v0 := v0, v1 := v1, s0 := s0, s1 := s1, c0 := c0, c1 := c1 } { a := ra, b := rb, c := rc, d := rd } d)), Value.int IntKind.i64 (M.Wine.s0 (M.after { v0 := v0, v1 := v1, s0 := s0, s1 := s1, c0 := c0, c1 := c1 } { a := ra, b := rb, c := rc, d := rd } d)), Value.int IntKind.i64 (M.Wine.s1 (M.after { v0 := v0, v1 := v1, s0 := s0, s1 := s1, c0 := c0, c1 := c1 } { a := ra, b := rb, c := rc, d := rd } d)), Value.int IntKind.i64 (M.Wine.c0 (M.after { v0 := v0, v1 := v1, s0 := s0, s1 := s1, c0 := c0, c1 := c1 } { a := ra, b := rb, c := rc, d := rd } d)), Value.int IntKind.i64 (M.Wine.c1 (M.after { v0 := v0, v1 := v1, s0 := s0, s1 := s1, c0 := c0, c1 := c1 } { a := ra, b := rb, c := rc, d := rd } d))], Value.int IntKind.i64 (0 : Int)]))))))) := by kernel_rfl
theorem C27 : GOK Tryd.prog gw 27 [.agg, .agg, .c] d27 := by
  intro gs p v hd hp w xs hw hx
  unfold d27 at hd
  split at hd
  · cases hd
    refine grp_fin mixed gw_stable gw_glob (sl := [s21, s23, s77, s76, s78]) ⟨S21, S23, S77, S76, S78, trivial⟩ Tryd.func27 hw hx rfl rfl rfl rfl (t27 _ _ _ _ _ _ _ _ _ _ _) rfl ?_
    simp only [T.wp]
    repeat' (first | with_reducible assumption | decide | with_reducible exact L.task_hi (by with_reducible assumption) | with_reducible exact L.task_lo (by with_reducible assumption) | refine ⟨?_, ?_⟩ | intro _)
    all_goals (try simp only [Bool.not_eq_true', Bool.not_eq_false'] at *)
    all_goals (first | rfl | (simp only [M.After, M.taskErr, M.Wine.v, M.Wine.s, M.Wine.c, M.Rate.w, M.Rate.al, M.wine0, M.rg0, M.rate0, cond_true, cond_false, decide_true, decide_false, *]; done) | (simp only [M.After, M.taskErr, M.Wine.v, M.Wine.s, M.Wine.c, M.Rate.w, M.Rate.al, M.wine0, M.rg0, M.rate0, cond_true, cond_false]; grind))
  · cases hd
theorem S27 : SumOK Tryd.prog gw 27 (grpSm [.agg, .agg, .c] d27) := grp_sum Tryd.func27 rfl C27
theorem t58 (v0 : Int) (v1 : Int) (s0 : Int) (s1 : Int) (c0 : Int) (c1 : Int) (x : Int) (y : Int) : runFn Tryd.prog 1 1 (lookS [s21, s86, s85, s76, s104]) 40 Tryd.f58 [.agg [.int .i64 v0, .int .i64 v1, .int .i64 s0, .int .i64 s1, .int .i64 c0, .int .i64 c1], .c (.int .i64 x), .c (.int .i64 y)] gb =
    T.br (M.first [M.checkWine { v0 := v0, v1 := v1, s0 := s0, s1 := s1, c0 := c0, c1 := c1 }, M.strengthErr x, M.strengthErr y, M.unl (decide (x > y)) (11 : Int)] != (0 : Int)) (T.ret (Value.tuple #[Value.agg #[Value.int IntKind.i64 (0 : Int), Value.int IntKind.i64 (0 : Int)], Value.int IntKind.i64 (M.first [M.checkWine { v0 := v0, v1 := v1, s0 := s0, s1 := s1, c0 := c0, c1 := c1 }, M.strengthErr x, M.strengthErr y, M.unl (decide (x > y)) (11 : Int)])])) (T.need (M.W (x - y) ≠ (0 : Int)) (T.need (M.W (x - y) ≠ (0 : Int)) (T.br (decide (M.need v1 s0 y x > (100000 : Int))) (T.ret (Value.tuple #[Value.agg #[Value.int IntKind.i64 (0 : Int), Value.int IntKind.i64 (0 : Int)], Value.int IntKind.i64 (8 : Int)])) (T.ret (Value.tuple #[Value.agg #[Value.int IntKind.i64 (M.need v0 s1 y x), Value.int IntKind.i64 (M.need v1 s0 y x)], Value.int IntKind.i64 (0 : Int)]))))) := by kernel_rfl
theorem C58 : GOK Tryd.prog gw 58 [.agg, .c, .c] d58 := by
  intro gs p v hd hp w xs hw hx
  unfold d58 at hd
  split at hd
  · cases hd
    refine grp_fin mixed gw_stable gw_glob (sl := [s21, s86, s85, s76, s104]) ⟨S21, S86, S85, S76, S104, trivial⟩ Tryd.func58 hw hx rfl rfl rfl rfl (t58 _ _ _ _ _ _ _ _) rfl ?_
    simp only [T.wp]
    repeat' (first | with_reducible assumption | decide | with_reducible exact L.spirit_ne (by with_reducible assumption) | refine ⟨?_, ?_⟩ | intro _)
    all_goals (try simp only [Bool.not_eq_true', Bool.not_eq_false'] at *)
    all_goals (first | rfl | (simp only [M.SpiritFor, M.spiritErr, M.Wine.v, M.Wine.s, M.Wine.c, M.Rate.w, M.Rate.al, M.wine0, M.rg0, M.rate0, cond_true, cond_false, decide_true, decide_false, *]; done) | (simp only [M.SpiritFor, M.spiritErr, M.Wine.v, M.Wine.s, M.Wine.c, M.Rate.w, M.Rate.al, M.wine0, M.rg0, M.rate0, cond_true, cond_false]; grind))
  · cases hd
theorem S58 : SumOK Tryd.prog gw 58 (grpSm [.agg, .c, .c] d58) := grp_sum Tryd.func58 rfl C58
end Go.Fl
end

section
namespace Go.Fl
open Go.Eng Go.RowKit Go.Proofs
set_option maxRecDepth 100000
set_option linter.unusedSimpArgs false
set_option linter.unusedVariables false
end Go.Fl
end

section
namespace Go.Fl
open Go.Eng Go.RowKit Go.Proofs
set_option maxRecDepth 100000
def sdT (f : Int → Int) (r : M.Rate) (k : Int) : Nat → Int → T Value
  | 0, d => .ret (.tuple #[.int .i64 d, .int .i64 0])
  | n + 1, d => .need ((M.left r.w (M.W (d + 1))).hi ≠ 0) (.need ((M.left r.w (M.W (d + 1))).lo ≠ 0)
      (.br (decide (f (M.W (d + 1)) ≥ k)) (sdT f r k n (M.W (d + 1))) (.ret (.tuple #[.int .i64 d, .int .i64 0]))))
theorem t39 (v0 v1 s0 s1 c0 c1 ra rb rc rd k : Int) : runFn Tryd.prog 1 1 (lookS [s21, s23, s86, s85, s76, s78]) 370 Tryd.f39 [.agg [.int .i64 v0, .int .i64 v1, .int .i64 s0, .int .i64 s1, .int .i64 c0, .int .i64 c1], .agg [.int .i64 ra, .int .i64 rb, .int .i64 rc, .int .i64 rd], .c (.int .i64 k)] gb =
  T.br (M.first [M.checkWine ⟨v0, v1, s0, s1, c0, c1⟩, M.checkRate ⟨ra, rb, rc, rd⟩, M.strengthErr k, M.unl (decide (s0 ≥ k)) 24] != 0)
    (T.ret (Value.tuple #[Value.int IntKind.i64 0, Value.int IntKind.i64 (M.first [M.checkWine ⟨v0, v1, s0, s1, c0, c1⟩, M.checkRate ⟨ra, rb, rc, rd⟩, M.strengthErr k, M.unl (decide (s0 ≥ k)) 24])]))
      (sdT (fun d => (M.after ⟨v0, v1, s0, s1, c0, c1⟩ ⟨ra, rb, rc, rd⟩ d).s0) ⟨ra, rb, rc, rd⟩ k 365 0) := by kernel_rfl
end Go.Fl
end

section
namespace Go.Fl
open Go.Eng Go.RowKit Go.Proofs
set_option maxRecDepth 100000
end Go.Fl
end

section
namespace Go.Fl
open Go.Eng Go.RowKit Go.Proofs
set_option maxRecDepth 100000
namespace M
def safe (f : Int → Int) (k : Int) : Nat → Int → Int
  | 0, d => d
  | n + 1, d => cond (decide (f (W (d + 1)) ≥ k)) (safe f k n (W (d + 1))) d
def safeErr (w : Wine) (r : Rate) (k : Int) : Int := first [checkWine w, checkRate r, strengthErr k, unl (decide (w.s0 ≥ k)) 24]
def SafeDays (w : Wine) (r : Rate) (k : Int) : Int × Int := cond (safeErr w r k != 0) (0, safeErr w r k) (safe (fun d => (after w r d).s0) k 365 0, 0)
end M
theorem sdT_wp (f : Int → Int) (r : M.Rate) (k : Int) (hr : L.OkR r) (Q : Value → Prop) : ∀ (n : Nat) (d : Int), 0 ≤ d → d + n ≤ 365 → Q (.tuple #[.int .i64 (M.safe f k n d), .int .i64 0]) → (sdT f r k n d).wp Q := by
  intro n
  induction n with
  | zero => intro d _ _ h; exact h
  | succ n ih =>
    intro d h0 h1 h
    have e : M.W (d + 1) = d + 1 := L.W_id (by omega) (by omega)
    have hl := L.task_left (d := M.W (d + 1)) hr (by rw [e]; omega)
    simp only [sdT, T.wp]
    refine ⟨hl.1, hl.2, ?_, ?_⟩
    · intro hb
      refine ih _ (by omega) (by omega) ?_
      simpa only [M.safe, hb, cond_true] using h
    · intro hb
      simpa only [M.safe, hb, cond_false] using h
def d39 : DomG
  | [[.int .i64 v0, .int .i64 v1, .int .i64 s0, .int .i64 s1, .int .i64 c0, .int .i64 c1], [.int .i64 ra, .int .i64 rb, .int .i64 rc, .int .i64 rd], [.int .i64 k]] => some ([], .tup [aI (M.SafeDays ⟨v0, v1, s0, s1, c0, c1⟩ ⟨ra, rb, rc, rd⟩ k).1, aI (M.SafeDays ⟨v0, v1, s0, s1, c0, c1⟩ ⟨ra, rb, rc, rd⟩ k).2])
  | _ => none
def s39 : Nat × Sm := (39, grpSm [.agg, .agg, .c] d39)
theorem C39 : GOK Tryd.prog gw 39 [.agg, .agg, .c] d39 := by
  intro gs p v hd hp w xs hw hx
  unfold d39 at hd
  split at hd
  · rename_i v0 v1 s0 s1 c0 c1 ra rb rc rd k
    cases hd
    refine grp_fin mixed gw_stable gw_glob (sl := [s21, s23, s86, s85, s76, s78]) ⟨S21, S23, S86, S85, S76, S78, trivial⟩ Tryd.func39 hw hx rfl rfl rfl rfl (t39 _ _ _ _ _ _ _ _ _ _ _) rfl ?_
    simp only [T.wp]
    refine ⟨?_, ?_⟩
    · intro h
      simp only [M.SafeDays, M.safeErr, h, cond_true]
    · intro h
      have h' := L.ne_false.1 h
      rw [L.first_nil] at h'
      refine sdT_wp _ _ _ (L.checkRate_zero.1 (h' _ (by simp))) _ _ _ (by decide) (by decide) ?_
      simp only [M.SafeDays, M.safeErr, h, cond_false]
  · cases hd
theorem S39 : SumOK Tryd.prog gw 39 (grpSm [.agg, .agg, .c] d39) := grp_sum Tryd.func39 rfl C39
end Go.Fl
end

section
set_option linter.unusedVariables false
set_option linter.unusedSimpArgs false
namespace Go.Fl
open Go.Eng
def d20 : DomG
  | [] => some ([], vB (true))
  | _ => none
def d61 : DomG
  | [] => some ([], vB (true))
  | _ => none
def d3 : DomG
  | [[.int .i64 v0, .int .i64 v1, .int .i64 s0, .int .i64 s1, .int .i64 c0, .int .i64 c1], [.int .i64 ra, .int .i64 rb, .int .i64 rc, .int .i64 rd], [.int .i64 xa, .int .i64 xb, .int .i64 xc, .int .i64 xd]] => some ([], vB (true))
  | _ => none
def s3 : Nat × Sm := (3, grpSm [.agg, .agg, .agg] d3)
end Go.Fl
end

section
set_option linter.unusedVariables false
set_option linter.unusedSimpArgs false
namespace Go.Fl.L
open Go.Fl.M
end Go.Fl.L
end
