/- The second engine, parts 16 and 17: contracts of functions. -/
import Derived.Test.YtcgdcocmnmkhlaaDoorVC
import Derived.RangeFuncLeaves
set_option linter.unusedVariables false
set_option linter.unusedSimpArgs false
section
/- The second engine, part 16: a function's contract: of data that lies still, data that lies still. -/
set_option linter.unusedVariables false
set_option linter.unusedSimpArgs false
namespace Go.V
open Go.RowKit (Below)

/-- An argument: a cell, a struct or array, the address of cells, a function's value. -/
inductive Ag where
  | c (d : D)
  | agg (ds : List D)
  | ptr (n : Nat) (F : Nat → D)
  | clo (φ : Clo)
def Ag.rel (P : Program) (gw : World → Prop) (κ : Still) : Ag → Value → Prop
  | .c d, x => d.rel κ x
  | .agg ds, x => ∃ xs : List Value, F2 (D.rel κ) ds xs ∧ x = .agg xs.toArray
  | .ptr n F, x => ∃ a : Addr, x = .pointer (some a) ∧ a.spot = none ∧ ∀ j, j < n → ∃ y, κ a.block (a.off + j) = some y ∧ (F j).rel κ y
  | .clo φ, x => CloOK P gw κ φ x

/-- The package-level variables lie still. -/
def GIn (G : GT) (κ : Still) : Prop := ∀ g n F, G g = some (n, F) → ∀ j, j < n → ∃ y, κ g (0 + j) = some y ∧ (F j).rel κ y
theorem GIn.mono {G : GT} {κ κ' : Still} (h : κ.le κ') (hg : GIn G κ) : GIn G κ' := by
  intro g n F e j hj
  obtain ⟨y, hy, hr⟩ := hg g n F e j hj
  exact ⟨y, h _ _ _ hy, D.rel_mono h _ _ hr⟩

def resRel (κ : Still) : List Ar → Value → Prop
  | [r], x => r.rel κ x
  | rs, x => ∃ ys : List Value, F2 (Ar.rel κ) rs ys ∧ x = .tuple ys.toArray

abbrev DomF := List Ag → Option (List Prop × List Ar)

/-- What a call comes to. -/
def Back (κ : Still) (r : List Ar) (w : World) (e : Ending) (w' : World) : Prop :=
  ∃ x κ', e = .returned x ∧ κ.le κ' ∧ Lies κ' w' ∧ (∀ b o v, κ' b o = some v → κ b o = some v ∨ w.heap.size ≤ b) ∧ resRel κ' r x ∧ Below w.heap.size w w'

/-- THE CONTRACT of a function. -/
def FOK (P : Program) (G : GT) (gw : World → Prop) (f : FuncId) (dom : DomF) : Prop :=
  ∀ ags p r, dom ags = some (p, r) → All p → ∀ κ w xs, gw w → Lies κ w → GIn G κ → F2 (Ag.rel P gw κ) ags xs → Calls P f xs.toArray w (Back κ r w)

/-- How many cells an element has. -/
def stBy (len cap : Nat) : Nat → Option Nat
  | 0 => none
  | k + 1 => match Nat.beq (cap * (k + 1)) len with | true => some (k + 1) | false => stBy len cap k

/-- What is lent: blocks that may be laid to rest; whether there are others. -/
abbrev Lent := List (Nat × Blk) × Bool
def Lent.join (a b : Lent) : Lent := (a.1 ++ b.1, a.2 || b.2)
/-- A cell as still data, blocks of the call's own lent. -/
def lend (hp : Nat → Option Blk) : C → Option (D × Lent × List Prop)
  | .gsl m len => (match hp m with
    | some (.row _ st L F) => some (.sl true len st F, ([(m, .fz st L F)], false), [len ≤ L])
    | some (.fz st L F) => some (.sl true len st F, ([], false), [len ≤ L])
    | _ => none)
  | .sl m 0 n cap => (match hp m with
    | some (.known _ cs) => (match toDs cs, cap with
      | some _, 0 => (match n with | 0 => some (.sl true 0 0 (fun _ _ => .nilp), ([], false), []) | _ + 1 => none)
      | some ds, cap + 1 => (match stBy cs.length (cap + 1) 24, Nat.ble n (cap + 1) with
        | some st, true => some (.sl true n st (fun i j => ds.getD (i * st + j) .nilp), ([(m, .dead)], false), [])
        | _, _ => none)
      | none, _ => none)
    | _ => none)
  | x => (match toD x with | some d => some (d, ([], false), []) | none => none)
def lends (hp : Nat → Option Blk) : List C → Option (List D × Lent × List Prop)
  | [] => some ([], ([], false), [])
  | c :: l => match lend hp c, lends hp l with | some (d, b, p), some (ds, b', p') => some (d :: ds, b.join b', p ++ p') | _, _ => none
def agOf (hp : Nat → Option Blk) : A → Option (Ag × Lent × List Prop)
  | .agg cs => (match lends hp cs with | some (ds, b, p) => some (.agg ds, b, p) | none => none)
  | .c (.ptr m 0) => (match hp m with
    | some (.known _ cs) => (match toDs cs with | some ds => some (.ptr ds.length (fun j => ds.getD j .nilp), ([], true), []) | none => none)
    | _ => none)
  | .c (.ip n F) => some (.ptr n F, ([], false), [])
  | .c (.clo φ) => some (.clo φ, ([], false), [])
  | .c x => (match lend hp x with | some (d, b, p) => some (.c d, b, p) | none => none)
def agsOf (hp : Nat → Option Blk) : List A → Option (List Ag × Lent × List Prop)
  | [] => some ([], ([], false), [])
  | a :: l => match agOf hp a, agsOf hp l with | some (d, b, p), some (ds, b', p') => some (d :: ds, b.join b', p ++ p') | _, _ => none

def D.plain : D → Bool
  | .sl .. => false
  | _ => true
def Ar.plain : Ar → Bool
  | .c d => d.plain
  | .agg ds => ds.all D.plain
theorem D.plain_rel {κ κ' : Still} {d : D} (h : d.plain = true) {x : Value} (r : d.rel κ x) : d.rel κ' x := by
  cases d with
  | sl => cases h
  | _ => exact r
theorem ds_plain {κ κ' : Still} : ∀ {ds : List D} {xs : List Value}, ds.all D.plain = true → F2 (D.rel κ) ds xs → F2 (D.rel κ') ds xs
  | _, _, _, .nil => .nil
  | _, _, h, .cons r rs => by
    simp only [List.all_cons, Bool.and_eq_true] at h
    exact .cons (D.plain_rel h.1 r) (ds_plain h.2 rs)
theorem Ar.plain_rel {κ κ' : Still} {d : Ar} (h : d.plain = true) {x : Value} (r : d.rel κ x) : d.rel κ' x := by
  cases d with
  | c d => exact D.plain_rel h r
  | agg ds => obtain ⟨xs, hf, e⟩ := r; exact ⟨xs, ds_plain h hf, e⟩
theorem ars_plain {κ κ' : Still} : ∀ {ds : List Ar} {xs : List Value}, ds.all Ar.plain = true → F2 (Ar.rel κ) ds xs → F2 (Ar.rel κ') ds xs
  | _, _, _, .nil => .nil
  | _, _, h, .cons r rs => by
    simp only [List.all_cons, Bool.and_eq_true] at h
    exact .cons (Ar.plain_rel h.1 r) (ars_plain h.2 rs)
theorem res_plain {κ κ' : Still} {rs : List Ar} (h : rs.all Ar.plain = true) {x : Value} (r : resRel κ rs x) : resRel κ' rs x := by
  match rs, h, r with
  | [r0], h, r => simp only [List.all_cons, List.all_nil, Bool.and_true] at h; exact Ar.plain_rel h r
  | [], h, ⟨ys, hf, e⟩ => cases hf; exact ⟨[], .nil, e⟩
  | a :: b :: l, h, ⟨ys, hf, e⟩ => exact ⟨ys, ars_plain h hf, e⟩

def vOf : List Ar → V
  | [r] => .a (ofAr r)
  | rs => .tup (rs.map ofAr)
theorem f2_ofAr {ρ : Ren} : ∀ {rs : List Ar} {xs : List Value}, F2 (Ar.rel ρ.κ) rs xs → F2 (A.rel ρ) (rs.map ofAr) xs
  | _, _, .nil => .nil
  | _, _, .cons r rs => .cons (ofAr_rel r) (f2_ofAr rs)
theorem vOf_rel {ρ : Ren} {rs : List Ar} {x : Value} (h : resRel ρ.κ rs x) : (vOf rs).rel ρ x := by
  match rs, h with
  | [r], h => exact ofAr_rel h
  | [], ⟨ys, hf, e⟩ => exact ⟨ys, f2_ofAr hf, e⟩
  | a :: b :: l, ⟨ys, hf, e⟩ => exact ⟨ys, f2_ofAr hf, e⟩

def fokSm (dom : DomF) : Sm := fun args hp _ =>
  match agsOf hp args with
  | some (ags, bw, p0) => (match dom ags with
    | some (p, r) => (match r.all Ar.plain, bw.2 with
      | true, _ => some (p0 ++ p, vOf r, [], [])
      | false, false => some (p0 ++ p, vOf r, [], bw.1)
      | false, true => none)
    | none => none)
  | none => none

section
variable {P : Program} {G : GT} {gw : World → Prop}

theorem lend_loc {hp hp' : Nat → Option Blk} {c : C} (h : ∀ m, m ∈ c.names → hp m = hp' m) : lend hp c = lend hp' c := by
  cases c with
  | gsl m len => simp only [lend, h m (by simp [C.names])]
  | sl m off n cap =>
    cases off with
    | zero => simp only [lend, h m (by simp [C.names])]
    | succ off => rfl
  | _ => rfl
theorem lends_loc {hp hp' : Nat → Option Blk} : ∀ {cs : List C}, (∀ m, m ∈ cs.flatMap C.names → hp m = hp' m) → lends hp cs = lends hp' cs := by
  intro cs
  induction cs with
  | nil => intro _; rfl
  | cons c cs ih =>
    intro h
    simp only [lends]
    rw [lend_loc (hp := hp) (hp' := hp') (fun m hm => h m (by simp [hm])), ih (fun m hm => h m (by rw [List.flatMap_cons]; exact List.mem_append_right _ hm))]
theorem agsOf_loc {hp hp' : Nat → Option Blk} : ∀ {args : List A}, (∀ m, m ∈ namesL args → hp m = hp' m) → agsOf hp args = agsOf hp' args := by
  intro args
  induction args with
  | nil => intro _; rfl
  | cons a l ih =>
    intro h
    have h1 : agOf hp a = agOf hp' a := by
      cases a with
      | agg cs =>
        simp only [agOf]
        rw [lends_loc (hp := hp) (hp' := hp') (fun m hm => h m (by simp only [namesL]; exact List.mem_append_left _ hm))]
      | c x =>
        have hx : ∀ m, m ∈ x.names → hp m = hp' m := by
          intro m hm
          refine h m ?_
          simp only [namesL]
          refine List.mem_append_left _ ?_
          cases x <;> exact hm
        cases x with
        | ptr m off =>
          cases off with
          | zero => simp only [agOf, hx m (by simp [C.names])]
          | succ off => rfl
        | gsl m len => simp only [agOf]; rw [lend_loc hx]
        | sl m off n cap => simp only [agOf]; rw [lend_loc hx]
        | _ => rfl
    simp only [agsOf, h1, ih (fun m hm => h m (by simp only [namesL]; exact List.mem_append_right _ hm))]

/-- The whole heap, as it lies. -/
def fullK (w : World) : Still := fun b o => if b < w.heap.size then w.cell? ⟨b, o, none⟩ else none
theorem fullK_lies (w : World) : Lies (fullK w) w := by
  intro b o v h
  unfold fullK at h
  split at h
  · rename_i hb; exact ⟨hb, h⟩
  · cases h
theorem le_fullK {κ : Still} {w : World} (h : Lies κ w) : κ.le (fullK w) := by
  intro b o v hv
  obtain ⟨h1, h2⟩ := h b o v hv
  unfold fullK; rw [if_pos h1]; exact h2
theorem fullK_cell {w : World} {b o : Nat} {v : Value} (h : w.cell? ⟨b, o, none⟩ = some v) : fullK w b o = some v := by
  have hb : b < w.heap.size := by
    apply Classical.byContradiction
    intro hn
    have hs : w.heap[b]? = none := Array.getElem?_eq_none (by omega)
    simp [World.cell?, hs] at h
  unfold fullK; rw [if_pos hb]; exact h

/-- What is lent lies so. -/
def LentOK (ρ : Ren) (w : World) (κ : Still) (l : Lent) : Prop :=
  (∀ q, q ∈ l.1 → ∀ b, ρ q.1 = some b → ∀ o v, w.cell? ⟨b.1, o, none⟩ = some v → κ b.1 o = some v) ∧ (l.2 = true → κ = fullK w)
theorem LentOK.join {ρ : Ren} {w : World} {κ : Still} {a b : Lent} (h : LentOK ρ w κ (a.join b)) : LentOK ρ w κ a ∧ LentOK ρ w κ b :=
  ⟨⟨fun q hq => h.1 q (List.mem_append_left _ hq), fun e => h.2 (by simp [Lent.join, e])⟩, ⟨fun q hq => h.1 q (List.mem_append_right _ hq), fun e => h.2 (by simp [Lent.join, e])⟩⟩
theorem lentFull (ρ : Ren) (w : World) (l : Lent) : LentOK ρ w (fullK w) l := ⟨fun _ _ _ _ _ _ h => fullK_cell h, fun _ => rfl⟩

theorem lend_rel {ρ : Ren} {hp : Nat → Option Blk} {w : World} (hl : Lies ρ.κ w) (hhp : ∀ m k, hp m = some k → ∃ b, ρ m = some b ∧ b.1 < w.heap.size ∧ k.rel ρ b w) {κ : Still} (hle : ρ.κ.le κ) {c : C} {d : D} {b : Lent} {p : List Prop}
    (h : lend hp c = some (d, b, p)) (hb : LentOK ρ w κ b) (hpp : All p) {x : Value} (r : c.rel ρ x) : d.rel κ x := by
  unfold lend at h
  split at h
  · rename_i m len
    split at h
    · rename_i e st L F hm
      simp only [Option.some.injEq, Prod.mk.injEq] at h
      obtain ⟨rfl, rfl, rfl⟩ := h
      obtain ⟨bb, hbb, rfl⟩ := r
      obtain ⟨b', hb', hlt, xs, hh, g1, g2, g3, g4⟩ := hhp m _ hm
      rw [hbb] at hb'; cases hb'
      have hL := hpp.1
      refine .inr ⟨⟨bb.1, 0, none⟩, bb.2, rfl, by omega, fun _ => rfl, fun i j hi hj => ?_⟩
      obtain ⟨y, hy, hr⟩ := g4 i j (by omega) hj
      refine ⟨y, ?_, D.rel_mono hle _ _ hr⟩
      rw [Nat.zero_add]
      exact hb.1 (m, .fz st L F) (by simp) bb hbb _ _ (by simp [World.cell?, hh, hy])
    · rename_i st L F hm
      simp only [Option.some.injEq, Prod.mk.injEq] at h
      obtain ⟨rfl, rfl, rfl⟩ := h
      obtain ⟨bb, hbb, rfl⟩ := r
      obtain ⟨b', hb', hlt, g1, g2⟩ := hhp m _ hm
      rw [hbb] at hb'; cases hb'
      have hL := hpp.1
      refine .inr ⟨⟨bb.1, 0, none⟩, bb.2, rfl, by omega, fun _ => rfl, fun i j hi hj => ?_⟩
      obtain ⟨y, hy, hr⟩ := g2 i j (by omega) hj
      exact ⟨y, by rw [Nat.zero_add]; exact hle _ _ _ hy, D.rel_mono hle _ _ hr⟩
    · cases h
  · rename_i m n cap
    split at h
    · rename_i e cs hm
      split at h
      · rename_i ds hds
        split at h
        · simp only [Option.some.injEq, Prod.mk.injEq] at h
          obtain ⟨rfl, rfl, rfl⟩ := h
          obtain ⟨bb, hbb, rfl⟩ := r
          exact .inr ⟨⟨bb.1, 0, none⟩, 0, rfl, Nat.le_refl _, fun _ => rfl, fun i j hi => by omega⟩
        · cases h
      · rename_i ds cap' hds
        split at h
        · rename_i st hst hn
          simp only [Option.some.injEq, Prod.mk.injEq] at h
          obtain ⟨rfl, rfl, rfl⟩ := h
          have hn' := Nat.le_of_ble_eq_true hn
          obtain ⟨bb, hbb, rfl⟩ := r
          obtain ⟨b', hb', hlt, xs, hf, hh⟩ := hhp m _ hm
          rw [hbb] at hb'; cases hb'
          have hlc := f2_len hf
          have hst' : (cap' + 1) * st = cs.length := by
            have : ∀ k, stBy cs.length (cap' + 1) k = some st → (cap' + 1) * st = cs.length := by
              intro k
              induction k with
              | zero => intro h; simp [stBy] at h
              | succ k ih =>
                intro h
                simp only [stBy] at h
                split at h
                · rename_i hbq
                  simp only [Option.some.injEq] at h
                  subst h
                  exact Nat.eq_of_beq_eq_true hbq
                · exact ih h
            exact this _ hst
          refine .inr ⟨⟨bb.1, 0, none⟩, cap' + 1, rfl, hn', fun _ => rfl, fun i j hi hj => ?_⟩
          have hlt2 := el_lt hi hj
          have hle2 : n * st ≤ (cap' + 1) * st := Nat.mul_le_mul_right _ hn'
          obtain ⟨y, hy, hr⟩ := getD_rel (toDs_rel hds hf) (k := i * st + j) (by omega)
          refine ⟨y, ?_, D.rel_mono hle _ _ hr⟩
          rw [Nat.zero_add]
          exact hb.1 (m, .dead) (by simp) bb hbb _ _ (by simp [World.cell?, hh, hy])
        · cases h
      · cases h
    · cases h
  · split at h
    · rename_i d' hd
      simp only [Option.some.injEq, Prod.mk.injEq] at h
      obtain ⟨rfl, _, _⟩ := h
      exact D.rel_mono hle _ _ (toD_rel hd r)
    · cases h

theorem lend_own {hp : Nat → Option Blk} {c : C} {d : D} {b : Lent} {p : List Prop} (h : lend hp c = some (d, b, p)) : ∀ q, q ∈ b.1 → q.2.own = false ∧ ∃ k, hp q.1 = some k ∧ k.own = true := by
  intro q hq
  unfold lend at h
  split at h
  · split at h
    · rename_i hm
      simp only [Option.some.injEq, Prod.mk.injEq] at h
      obtain ⟨_, rfl, _⟩ := h
      simp only [List.mem_singleton] at hq
      subst hq
      exact ⟨rfl, _, hm, rfl⟩
    · simp only [Option.some.injEq, Prod.mk.injEq] at h
      obtain ⟨_, rfl, _⟩ := h
      cases hq
    · cases h
  · split at h
    · rename_i hm
      split at h
      · split at h
        · simp only [Option.some.injEq, Prod.mk.injEq] at h
          obtain ⟨_, rfl, _⟩ := h
          cases hq
        · cases h
      · split at h
        · simp only [Option.some.injEq, Prod.mk.injEq] at h
          obtain ⟨_, rfl, _⟩ := h
          simp only [List.mem_singleton] at hq
          subst hq
          exact ⟨rfl, _, hm, rfl⟩
        · cases h
      · cases h
    · cases h
  · split at h
    · simp only [Option.some.injEq, Prod.mk.injEq] at h
      obtain ⟨_, rfl, _⟩ := h
      cases hq
    · cases h
theorem lends_own {hp : Nat → Option Blk} : ∀ {cs : List C} {ds : List D} {b : Lent} {p : List Prop}, lends hp cs = some (ds, b, p) → ∀ q, q ∈ b.1 → q.2.own = false ∧ ∃ k, hp q.1 = some k ∧ k.own = true := by
  intro cs
  induction cs with
  | nil => intro ds b p h q hq; simp [lends] at h; obtain ⟨_, rfl, _⟩ := h; cases hq
  | cons c cs ih =>
    intro ds b p h q hq
    simp only [lends] at h
    split at h
    · rename_i d b1 p1 ds2 b2 p2 h1 h2
      simp only [Option.some.injEq, Prod.mk.injEq] at h
      obtain ⟨_, rfl, _⟩ := h
      rcases List.mem_append.1 hq with hq | hq
      · exact lend_own h1 q hq
      · exact ih h2 q hq
    · cases h
theorem agOf_own {hp : Nat → Option Blk} {a : A} {g : Ag} {b : Lent} {p : List Prop} (h : agOf hp a = some (g, b, p)) : ∀ q, q ∈ b.1 → q.2.own = false ∧ ∃ k, hp q.1 = some k ∧ k.own = true := by
  intro q hq
  unfold agOf at h
  split at h
  · split at h
    · rename_i hd
      simp only [Option.some.injEq, Prod.mk.injEq] at h
      obtain ⟨_, rfl, _⟩ := h
      exact lends_own hd q hq
    · cases h
  · split at h
    · split at h
      · simp only [Option.some.injEq, Prod.mk.injEq] at h
        obtain ⟨_, rfl, _⟩ := h
        cases hq
      · cases h
    · cases h
  · simp only [Option.some.injEq, Prod.mk.injEq] at h
    obtain ⟨_, rfl, _⟩ := h
    cases hq
  · simp only [Option.some.injEq, Prod.mk.injEq] at h
    obtain ⟨_, rfl, _⟩ := h
    cases hq
  · split at h
    · rename_i hd
      simp only [Option.some.injEq, Prod.mk.injEq] at h
      obtain ⟨_, rfl, _⟩ := h
      exact lend_own hd q hq
    · cases h
theorem agsOf_own {hp : Nat → Option Blk} : ∀ {cs : List A} {ds : List Ag} {b : Lent} {p : List Prop}, agsOf hp cs = some (ds, b, p) → ∀ q, q ∈ b.1 → q.2.own = false ∧ ∃ k, hp q.1 = some k ∧ k.own = true := by
  intro cs
  induction cs with
  | nil => intro ds b p h q hq; simp [agsOf] at h; obtain ⟨_, rfl, _⟩ := h; cases hq
  | cons c cs ih =>
    intro ds b p h q hq
    simp only [agsOf] at h
    split at h
    · rename_i d b1 p1 ds2 b2 p2 h1 h2
      simp only [Option.some.injEq, Prod.mk.injEq] at h
      obtain ⟨_, rfl, _⟩ := h
      rcases List.mem_append.1 hq with hq | hq
      · exact agOf_own h1 q hq
      · exact ih h2 q hq
    · cases h
end
end Go.V
end

section
/- The second engine, part 17: from a function's tree to its contract, from its contract to its summary. -/
set_option linter.unusedVariables false
set_option linter.unusedSimpArgs false
namespace Go.V
open Go.RowKit (Below)

section
variable {P : Program} {G : GT} {gw : World → Prop}

theorem lends_rel {ρ : Ren} {hp : Nat → Option Blk} {w : World} (hl : Lies ρ.κ w) (hhp : ∀ m k, hp m = some k → ∃ b, ρ m = some b ∧ b.1 < w.heap.size ∧ k.rel ρ b w) {κ : Still} (hle : ρ.κ.le κ) : ∀ {cs : List C} {ds : List D} {b : Lent} {p : List Prop} {xs : List Value},
    lends hp cs = some (ds, b, p) → LentOK ρ w κ b → All p → F2 (C.rel ρ) cs xs → F2 (D.rel κ) ds xs := by
  intro cs
  induction cs with
  | nil => intro ds b p xs h _ _ r; cases r; simp [lends] at h; obtain ⟨rfl, _⟩ := h; exact .nil
  | cons c cs ih =>
    intro ds b p xs h hb hp r
    cases r with
    | cons r0 rs =>
      simp only [lends] at h
      split at h
      · rename_i d b1 p1 ds2 b2 p2 h1 h2
        simp only [Option.some.injEq, Prod.mk.injEq] at h
        obtain ⟨rfl, rfl, rfl⟩ := h
        obtain ⟨hp1, hp2⟩ := All.append.1 hp
        exact .cons (lend_rel hl hhp hle h1 hb.join.1 hp1 r0) (ih h2 hb.join.2 hp2 rs)
      · cases h

theorem agOf_rel {ρ : Ren} {hp : Nat → Option Blk} {w : World} (hl : Lies ρ.κ w) (hcl : ∀ φ x, ρ.cl φ x → CloOK P gw ρ.κ φ x) (hhp : ∀ m k, hp m = some k → ∃ b, ρ m = some b ∧ b.1 < w.heap.size ∧ k.rel ρ b w) {κ : Still} (hle : ρ.κ.le κ)
    {a : A} {g : Ag} {b : Lent} {p : List Prop} (h : agOf hp a = some (g, b, p)) (hb : LentOK ρ w κ b) (hpp : All p) {x : Value} (r : a.rel ρ x) : g.rel P gw κ x := by
  unfold agOf at h
  split at h
  · rename_i cs
    split at h
    · rename_i ds b' p' hd
      simp only [Option.some.injEq, Prod.mk.injEq] at h
      obtain ⟨rfl, rfl, rfl⟩ := h
      obtain ⟨xs, hf, e⟩ := r
      exact ⟨xs, lends_rel hl hhp hle hd hb hpp hf, e⟩
    · cases h
  · rename_i m
    split at h
    · rename_i e cs hm
      split at h
      · rename_i ds hd
        simp only [Option.some.injEq, Prod.mk.injEq] at h
        obtain ⟨rfl, rfl, rfl⟩ := h
        have hκ := hb.2 rfl
        subst hκ
        obtain ⟨bb, hbb, rfl⟩ := r
        obtain ⟨b', hb', hlt, xs, hf, hh⟩ := hhp m _ hm
        simp only at hbb
        rw [hbb] at hb'; cases hb'
        have hf' := toDs_rel hd hf
        have hln := f2_len hf'
        refine ⟨⟨bb.1, 0, none⟩, rfl, rfl, fun j hj => ?_⟩
        obtain ⟨y, hy, hr⟩ := getD_rel hf' (k := j) (by omega)
        exact ⟨y, by rw [Nat.zero_add]; exact fullK_cell (by simp [World.cell?, hh, hy]), D.rel_mono hle _ _ hr⟩
      · cases h
    · cases h
  · simp only [Option.some.injEq, Prod.mk.injEq] at h
    obtain ⟨rfl, _, _⟩ := h
    obtain ⟨ad, h1, h2, h3⟩ := r
    exact ⟨ad, h1, h2, fun j hj => by obtain ⟨y, hy, hr⟩ := h3 j hj; exact ⟨y, hle _ _ _ hy, D.rel_mono hle _ _ hr⟩⟩
  · simp only [Option.some.injEq, Prod.mk.injEq] at h
    obtain ⟨rfl, _, _⟩ := h
    exact CloOK.mono hle (hcl _ _ r.1)
  · split at h
    · rename_i d b' p' hd
      simp only [Option.some.injEq, Prod.mk.injEq] at h
      obtain ⟨rfl, rfl, rfl⟩ := h
      exact lend_rel hl hhp hle hd hb hpp r
    · cases h

theorem agsOf_rel {ρ : Ren} {hp : Nat → Option Blk} {w : World} (hl : Lies ρ.κ w) (hcl : ∀ φ x, ρ.cl φ x → CloOK P gw ρ.κ φ x) (hhp : ∀ m k, hp m = some k → ∃ b, ρ m = some b ∧ b.1 < w.heap.size ∧ k.rel ρ b w) {κ : Still} (hle : ρ.κ.le κ) : ∀ {as : List A} {gs : List Ag} {b : Lent} {p : List Prop} {xs : List Value},
    agsOf hp as = some (gs, b, p) → LentOK ρ w κ b → All p → F2 (A.rel ρ) as xs → F2 (Ag.rel P gw κ) gs xs := by
  intro as
  induction as with
  | nil => intro ds b p xs h _ _ r; cases r; simp [agsOf] at h; obtain ⟨rfl, _⟩ := h; exact .nil
  | cons c cs ih =>
    intro ds b p xs h hb hp r
    cases r with
    | cons r0 rs =>
      simp only [agsOf] at h
      split at h
      · rename_i d b1 p1 ds2 b2 p2 h1 h2
        simp only [Option.some.injEq, Prod.mk.injEq] at h
        obtain ⟨rfl, rfl, rfl⟩ := h
        obtain ⟨hp1, hp2⟩ := All.append.1 hp
        exact .cons (agOf_rel hl hcl hhp hle h1 hb.join.1 hp1 r0) (ih h2 hb.join.2 hp2 rs)
      · cases h

theorem lies_back {κ κ' : Still} {w w' : World} (hl : Lies κ w) (hb : Below w.heap.size w w') : Lies κ w' := by
  intro b o v h
  obtain ⟨h1, h2⟩ := hl b o v h
  exact ⟨Nat.lt_of_lt_of_le h1 hb.size, by rw [World.cell?_of_block (w := w) (hb.block b h1)]; exact h2⟩

/-- A block that is laid to rest lies so. -/
theorem lend_fz {ρ ρ' : Ren} {hp : Nat → Option Blk} {w w' : World} (hhp : ∀ m k, hp m = some k → ∃ b, ρ m = some b ∧ b.1 < w.heap.size ∧ k.rel ρ b w) {c : C} {d : D} {b : Lent} {p : List Prop} (h : lend hp c = some (d, b, p)) :
    ∀ q, q ∈ b.1 → ∀ bb, ρ q.1 = some bb → ρ.le ρ' → (∀ o v, w.cell? ⟨bb.1, o, none⟩ = some v → ρ'.κ bb.1 o = some v) → q.2.rel ρ' bb w' := by
  intro q hq bb hbb hle hcell
  unfold lend at h
  split at h
  · split at h
    · rename_i e st L F hm
      simp only [Option.some.injEq, Prod.mk.injEq] at h
      obtain ⟨_, rfl, _⟩ := h
      simp only [List.mem_singleton] at hq
      subst hq
      obtain ⟨b', hb', _, xs, hh, g1, g2, g3, g4⟩ := hhp _ _ hm
      rw [hbb] at hb'; cases hb'
      refine ⟨g2, fun i j hi hj => ?_⟩
      obtain ⟨y, hy, hr⟩ := g4 i j hi hj
      exact ⟨y, hcell _ _ (by simp [World.cell?, hh, hy]), D.rel_mono hle.κ _ _ hr⟩
    · simp only [Option.some.injEq, Prod.mk.injEq] at h
      obtain ⟨_, rfl, _⟩ := h
      cases hq
    · cases h
  · split at h
    · split at h
      · split at h
        · simp only [Option.some.injEq, Prod.mk.injEq] at h
          obtain ⟨_, rfl, _⟩ := h
          cases hq
        · cases h
      · split at h
        · simp only [Option.some.injEq, Prod.mk.injEq] at h
          obtain ⟨_, rfl, _⟩ := h
          simp only [List.mem_singleton] at hq
          subst hq
          trivial
        · cases h
      · cases h
    · cases h
  · split at h
    · simp only [Option.some.injEq, Prod.mk.injEq] at h
      obtain ⟨_, rfl, _⟩ := h
      cases hq
    · cases h
theorem lends_fz {ρ ρ' : Ren} {hp : Nat → Option Blk} {w w' : World} (hhp : ∀ m k, hp m = some k → ∃ b, ρ m = some b ∧ b.1 < w.heap.size ∧ k.rel ρ b w) : ∀ {cs : List C} {ds : List D} {b : Lent} {p : List Prop}, lends hp cs = some (ds, b, p) →
    ∀ q, q ∈ b.1 → ∀ bb, ρ q.1 = some bb → ρ.le ρ' → (∀ o v, w.cell? ⟨bb.1, o, none⟩ = some v → ρ'.κ bb.1 o = some v) → q.2.rel ρ' bb w' := by
  intro cs
  induction cs with
  | nil => intro ds b p h q hq; simp [lends] at h; obtain ⟨_, rfl, _⟩ := h; cases hq
  | cons c cs ih =>
    intro ds b p h q hq
    simp only [lends] at h
    split at h
    · rename_i d b1 p1 ds2 b2 p2 h1 h2
      simp only [Option.some.injEq, Prod.mk.injEq] at h
      obtain ⟨_, rfl, _⟩ := h
      rcases List.mem_append.1 hq with hq | hq
      · exact lend_fz hhp h1 q hq
      · exact ih h2 q hq
    · cases h
theorem agOf_fz {ρ ρ' : Ren} {hp : Nat → Option Blk} {w w' : World} (hhp : ∀ m k, hp m = some k → ∃ b, ρ m = some b ∧ b.1 < w.heap.size ∧ k.rel ρ b w) {a : A} {g : Ag} {b : Lent} {p : List Prop} (h : agOf hp a = some (g, b, p)) :
    ∀ q, q ∈ b.1 → ∀ bb, ρ q.1 = some bb → ρ.le ρ' → (∀ o v, w.cell? ⟨bb.1, o, none⟩ = some v → ρ'.κ bb.1 o = some v) → q.2.rel ρ' bb w' := by
  intro q hq
  unfold agOf at h
  split at h
  · split at h
    · rename_i hd
      simp only [Option.some.injEq, Prod.mk.injEq] at h
      obtain ⟨_, rfl, _⟩ := h
      exact lends_fz hhp hd q hq
    · cases h
  · split at h
    · split at h
      · simp only [Option.some.injEq, Prod.mk.injEq] at h
        obtain ⟨_, rfl, _⟩ := h
        cases hq
      · cases h
    · cases h
  · simp only [Option.some.injEq, Prod.mk.injEq] at h
    obtain ⟨_, rfl, _⟩ := h
    cases hq
  · simp only [Option.some.injEq, Prod.mk.injEq] at h
    obtain ⟨_, rfl, _⟩ := h
    cases hq
  · split at h
    · rename_i hd
      simp only [Option.some.injEq, Prod.mk.injEq] at h
      obtain ⟨_, rfl, _⟩ := h
      exact lend_fz hhp hd q hq
    · cases h
theorem agsOf_fz' {ρ ρ' : Ren} {hp : Nat → Option Blk} {w w' : World} (hhp : ∀ m k, hp m = some k → ∃ b, ρ m = some b ∧ b.1 < w.heap.size ∧ k.rel ρ b w) : ∀ {cs : List A} {ds : List Ag} {b : Lent} {p : List Prop}, agsOf hp cs = some (ds, b, p) →
    ∀ q, q ∈ b.1 → ∀ bb, ρ q.1 = some bb → ρ.le ρ' → (∀ o v, w.cell? ⟨bb.1, o, none⟩ = some v → ρ'.κ bb.1 o = some v) → q.2.rel ρ' bb w' := by
  intro cs
  induction cs with
  | nil => intro ds b p h q hq; simp [agsOf] at h; obtain ⟨_, rfl, _⟩ := h; cases hq
  | cons c cs ih =>
    intro ds b p h q hq
    simp only [agsOf] at h
    split at h
    · rename_i d b1 p1 ds2 b2 p2 h1 h2
      simp only [Option.some.injEq, Prod.mk.injEq] at h
      obtain ⟨_, rfl, _⟩ := h
      rcases List.mem_append.1 hq with hq | hq
      · exact agOf_fz hhp h1 q hq
      · exact ih h2 q hq
    · cases h

def isGo (fn : Func) : Bool := !(fn.name == "runtime.NumGoroutine") && !fn.body.isNone
theorem enter_of {f : FuncId} {fn : Func} (h : P.funcs[f]? = some fn) (hg : isGo fn = true) (args : Array Value) (w : World) : (callFunc f args).run P w = .ok (.enter f args) w := by
  unfold isGo at hg
  simp only [Bool.and_eq_true, Bool.not_eq_true'] at hg
  exact run_callFunc h hg.1 hg.2 args w

/-- From a contract to a summary. -/
theorem fok_sum {f : FuncId} {fn : Func} {dom : DomF} (hf : P.funcs[f]? = some fn) (hg : isGo fn = true) (h : FOK P G gw f dom) : SumOK P G gw f (fokSm dom) where
  enter := enter_of hf hg
  loc := by intro args c hp hp' hm; unfold fokSm; rw [agsOf_loc hm]
  frz := by
    intro args c hp p v N Z hs q hq
    unfold fokSm at hs
    split at hs
    · rename_i ags bw p0 hags
      split at hs
      · split at hs
        · simp only [Option.some.injEq, Prod.mk.injEq] at hs
          obtain ⟨_, _, _, rfl⟩ := hs
          cases hq
        · simp only [Option.some.injEq, Prod.mk.injEq] at hs
          obtain ⟨_, _, _, rfl⟩ := hs
          exact agsOf_own hags q hq
        · cases hs
      · cases hs
    · cases hs
  ok := by
    intro args c hp p v N Z hs hpr ρ xs w hgw hl hcl hgl hx hhp hfr
    unfold fokSm at hs
    split at hs
    · rename_i ags bw p0 hags
      split at hs
      · rename_i p1 r hd
        have hG : GIn G ρ.κ := by
          intro g n F e j hj
          obtain ⟨a, h1, h2, h3⟩ := hgl g n F e
          cases h1
          exact h3 j hj
        split at hs
        · rename_i hpl
          simp only [Option.some.injEq, Prod.mk.injEq] at hs
          obtain ⟨rfl, rfl, rfl, rfl⟩ := hs
          obtain ⟨hp0, hp1⟩ := All.append.1 hpr
          have hle := le_fullK hl
          have hrel := agsOf_rel hl hcl hhp hle hags (lentFull ρ w bw) hp0 hx
          refine (h ags _ _ hd hp1 (fullK w) w xs hgw (fullK_lies w) (hG.mono hle) hrel).mono ?_
          rintro e w' ⟨x, κ', rfl, hle', hl', hn, hr, hb⟩
          exact ⟨ρ, x, rfl, Ren.le_refl _, fun m hm _ => hm, vOf_rel (res_plain hpl hr), hb, fun i k hi => by simp at hi, fun i j b b' hi => by simp at hi, fun q hq => by (cases hq), fun b o v hv => .inl hv⟩
        · rename_i hbw
          simp only [Option.some.injEq, Prod.mk.injEq] at hs
          obtain ⟨rfl, rfl, rfl, rfl⟩ := hs
          obtain ⟨hp0, hp1⟩ := All.append.1 hpr
          -- what lies still, and what is laid to rest for it
          obtain ⟨κz, hκz⟩ : ∃ κz : Still, ∀ b o v, κz b o = some v ↔ ρ.κ b o = some v ∨ ((∃ q b0, q ∈ bw.1 ∧ ρ q.1 = some b0 ∧ b = b0.1) ∧ b < w.heap.size ∧ w.cell? ⟨b, o, none⟩ = some v) := by
            refine ⟨fun b o => @ite _ (∃ q b0, q ∈ bw.1 ∧ ρ q.1 = some b0 ∧ b = b0.1) (Classical.propDecidable _) (fullK w b o) (ρ.κ b o), fun b o v => ?_⟩
            dsimp only
            by_cases hz : ∃ q b0, q ∈ bw.1 ∧ ρ q.1 = some b0 ∧ b = b0.1
            · rw [if_pos hz]
              constructor
              · intro hv
                obtain ⟨g1, g2⟩ := fullK_lies w b o v hv
                exact .inr ⟨hz, g1, g2⟩
              · rintro (hv | ⟨_, _, hv⟩)
                · exact le_fullK hl b o v hv
                · exact fullK_cell hv
            · rw [if_neg hz]
              constructor
              · exact .inl
              · rintro (hv | ⟨hv, _⟩)
                · exact hv
                · exact absurd hv hz
          have hle : ρ.κ.le κz := fun b o v hv => (hκz b o v).2 (.inl hv)
          have hlz : Lies κz w := by
            intro b o v hv
            rcases (hκz b o v).1 hv with hv | ⟨_, h1, h2⟩
            · exact hl b o v hv
            · exact ⟨h1, h2⟩
          have hlent : LentOK ρ w κz bw := by
            refine ⟨fun q hq b hb o v hv => (hκz _ _ _).2 (.inr ⟨⟨q, b, hq, hb, rfl⟩, ?_, hv⟩), fun e => by rw [hbw] at e; cases e⟩
            obtain ⟨_, k, hk, _⟩ := agsOf_own hags q hq
            obtain ⟨b', hb', hlt, _⟩ := hhp _ _ hk
            rw [hb] at hb'; cases hb'; exact hlt
          have hrel := agsOf_rel hl hcl hhp hle hags hlent hp0 hx
          refine (h ags _ _ hd hp1 κz w xs hgw hlz (hG.mono hle) hrel).mono ?_
          rintro e w' ⟨x, κ', rfl, hle', hl', hn, hr, hb⟩
          have hup : ρ.κ.le κ' := fun b o v hv => hle' _ _ _ (hle _ _ _ hv)
          refine ⟨{ ρ with κ := κ' }, x, rfl, ⟨fun _ _ h => h, hup, rfl, rfl⟩, fun m hm _ => hm, vOf_rel (ρ := { ρ with κ := κ' }) hr, hb, fun i k hi => by simp at hi, fun i j b b' hi => by simp at hi, ?_, ?_⟩
          · intro q hq b hb0
            obtain ⟨hown, k, hk, _⟩ := agsOf_own hags q hq
            obtain ⟨b', hb', hlt, hkr⟩ := hhp _ _ hk
            rw [hb0] at hb'; cases hb'
            exact agsOf_fz' (ρ' := { ρ with κ := κ' }) hhp hags q hq b hb0 ⟨fun _ _ h => h, hup, rfl, rfl⟩ (fun o v hv => hle' _ _ _ (hlent.1 q hq b hb0 o v hv))
          · intro b o v hv
            rcases hn b o v hv with h1 | h1
            · rcases (hκz b o v).1 h1 with h2 | ⟨⟨q, b0, g1, g2, g3⟩, g4, g5⟩
              · exact .inl h2
              · obtain ⟨j1, j2⟩ := hl' b o v hv
                exact .inr ⟨.inr ⟨q, b0, g1, g2, g3⟩, j1, j2, fun i k b' hi => by simp at hi⟩
            · obtain ⟨j1, j2⟩ := hl' b o v hv
              exact .inr ⟨.inl h1, j1, j2, fun i k b' hi => by simp at hi⟩
        · cases hs
      · cases hs
    · cases hs

def AllS (P : Program) (G : GT) (gw : World → Prop) : List (Nat × Sm) → Prop
  | [] => True
  | (f, σ) :: l => SumOK P G gw f σ ∧ AllS P G gw l
def lookS : List (Nat × Sm) → FuncId → Option Sm
  | [], _ => none
  | (g, σ) :: l, f => match Nat.beq g f with | true => some σ | false => lookS l f
theorem lookS_ok : ∀ {l : List (Nat × Sm)}, AllS P G gw l → ∀ f σ, lookS l f = some σ → SumOK P G gw f σ := by
  intro l
  induction l with
  | nil => intro _ f σ h; simp [lookS] at h
  | cons x l ih =>
    intro hl f σ h
    obtain ⟨g, τ⟩ := x
    simp only [lookS] at h
    split at h
    · rename_i hb
      have := Nat.eq_of_beq_eq_true hb
      subst this
      simp only [Option.some.injEq] at h; subst h
      exact hl.1
    · exact ih hl.2 f σ h
end

section
variable (P : Program)

def finL (g : C → Option (D × List Prop)) : List C → Option (List D × List Prop)
  | [] => some ([], [])
  | c :: l => match g c, finL g l with | some (d, p), some (ds, q) => some (d :: ds, p ++ q) | _, _ => none
def finW (s : S) (g : C → Option (D × List Prop)) : C → Option (D × List Prop)
  | .gsl m len => (match s.hp m with
    | some k => (match rowOf k with | some (st, L, F) => some (.sl true len st F, [len ≤ L]) | none => none)
    | none => none)
  | .sl m 0 len cap => (match s.hp m with
    | some (.known e cs) => (match finL g cs, P.info? e with
      | some (ds, p), some i => (match Nat.ble (len * i.size) cs.length && Nat.ble len cap with
        | true => some (.sl true len i.size (fun i' j => ds.getD (i' * i.size + j) .nilp), p)
        | false => none)
      | _, _ => none)
    | _ => none)
  | x => (match toD x with | some d => some (d, []) | none => none)
/-- A result's cell, as it lies when the call is over. -/
def finC (s : S) : Nat → C → Option (D × List Prop)
  | 0 => fun x => (match toD x with | some d => some (d, []) | none => none)
  | n + 1 => finW P s (finC s n)
def finA (s : S) : A → Option (Ar × List Prop)
  | .c x => (match finC P s 3 x with | some (d, p) => some (.c d, p) | none => none)
  | .agg cs => (match finL (finC P s 3) cs with | some (ds, p) => some (.agg ds, p) | none => none)
def finAs (s : S) : List A → Option (List Ar × List Prop)
  | [] => some ([], [])
  | a :: l => match finA P s a, finAs s l with | some (r, p), some (rs, q) => some (r :: rs, p ++ q) | _, _ => none

/-- A result. -/
def resA (s : S) : ResultVar → Option A
  | .tmp t => (match s.tm t with | some (.a y) => some y | _ => none)
  | .cell t ty => (match s.tm t, P.underlying ty, P.info? ty with
    | some (.a (.c (.ptr m off))), some d, some i => (match s.hp m with
      | some k => (match isAggD d with
        | true => (match readN k off i.size with | some cs => some (.agg cs) | none => none)
        | false => (match k.cell off with | some c => some (.c c) | none => none))
      | none => none)
    | _, _, _ => none)
def resL (s : S) : List ResultVar → Option (List A)
  | [] => some []
  | r :: l => match resA P s r, resL s l with | some a, some k => some (a :: k) | _, _ => none
end

/-- When the call is over, all that it has made lies still. -/
def endK (κ0 : Still) (B : Nat) (w' : World) : Still := fun b o => if B ≤ b then (if b < w'.heap.size then w'.cell? ⟨b, o, none⟩ else none) else κ0 b o

section
variable {P : Program} {G : GT} {gw : World → Prop} {N : Nat} {w0 : World} {ρ : Ren} {s : S} {a : Act} {w : World}

theorem endK_le (h : Rel w0 N ρ s a w) : ρ.κ.le (endK ρ.k0 w0.heap.size w) := by
  intro b o v hv
  obtain ⟨h1, h2⟩ := h.im b o v hv
  unfold endK
  by_cases hb : w0.heap.size ≤ b
  · rw [if_pos hb, if_pos h1]; exact h2
  · rw [if_neg hb]; exact h.old b o v hv (by omega)
theorem endK_cell {κ0 : Still} {B b o : Nat} {v : Value} (hb : B ≤ b) (hlt : b < w.heap.size) (h : w.cell? ⟨b, o, none⟩ = some v) : endK κ0 B w b o = some v := by
  unfold endK; rw [if_pos hb, if_pos hlt]; exact h

theorem finL_rel {κ' : Still} {g : C → Option (D × List Prop)} (hg : ∀ c d p x, g c = some (d, p) → All p → c.rel ρ x → d.rel κ' x) : ∀ {cs : List C} {ds : List D} {p : List Prop} {xs : List Value}, finL g cs = some (ds, p) → All p → F2 (C.rel ρ) cs xs → F2 (D.rel κ') ds xs := by
  intro cs
  induction cs with
  | nil => intro ds p xs h _ r; cases r; simp [finL] at h; obtain ⟨rfl, _⟩ := h; exact .nil
  | cons c cs ih =>
    intro ds p xs h hp r
    cases r with
    | cons r0 rs =>
      simp only [finL] at h
      split at h
      · rename_i d p1 ds2 p2 h1 h2
        simp only [Option.some.injEq, Prod.mk.injEq] at h
        obtain ⟨rfl, rfl⟩ := h
        obtain ⟨hp1, hp2⟩ := All.append.1 hp
        exact .cons (hg _ _ _ _ h1 hp1 r0) (ih h2 hp2 rs)
      · cases h

theorem finW_rel (h : Rel w0 N ρ s a w) {g : C → Option (D × List Prop)} (hg : ∀ c d p x, g c = some (d, p) → All p → c.rel ρ x → d.rel (endK ρ.k0 w0.heap.size w) x) : ∀ c d p x, finW P s g c = some (d, p) → All p → c.rel ρ x → d.rel (endK ρ.k0 w0.heap.size w) x := by
  intro c d p x hc hp r
  have hle := endK_le h
  unfold finW at hc
  split at hc
  · rename_i m len
    split at hc
    · rename_i k hm
      split at hc
      · rename_i st L F hrow
        simp only [Option.some.injEq, Prod.mk.injEq] at hc
        obtain ⟨rfl, rfl⟩ := hc
        obtain ⟨bb, hbb, rfl⟩ := r
        obtain ⟨b', hb', hlt, hrel, hge⟩ := h.hp m k hm
        rw [hbb] at hb'; cases hb'
        have hcap := rowOf_cap hrel hrow
        have hL := hp.1
        refine .inr ⟨⟨bb.1, 0, none⟩, bb.2, rfl, by omega, fun _ => rfl, fun i j hi hj => ?_⟩
        obtain ⟨xs, hf, hlen, hcl⟩ := rCells_sound h.im hrel hrow (show i < L by omega) (n := 1) (o := j) (by omega)
        simp only [dCells] at hf
        cases hf with
        | cons r0 rs =>
          rename_i y ys
          have hcy := hcl 0 y (by simp)
          refine ⟨y, ?_, D.rel_mono hle _ _ ?_⟩
          · rw [Nat.zero_add]; exact endK_cell hge hlt (by simpa [Addr.add] using hcy)
          · have : ∀ (d : D), (toC d).rel ρ y → d.rel ρ.κ y := by intro d hd; cases d <;> exact hd
            exact this _ r0
      · cases hc
    · cases hc
  · rename_i m len cap
    split at hc
    · rename_i e cs hm
      split at hc
      · rename_i ds p' i hds hi
        split at hc
        · rename_i hok
          simp only [Bool.and_eq_true] at hok
          have h1 := Nat.le_of_ble_eq_true hok.1
          have h2 := Nat.le_of_ble_eq_true hok.2
          simp only [Option.some.injEq, Prod.mk.injEq] at hc
          obtain ⟨rfl, rfl⟩ := hc
          obtain ⟨bb, hbb, rfl⟩ := r
          obtain ⟨b', hb', hlt, ⟨xs, hf, hh⟩, hge⟩ := h.hp m _ hm
          rw [hbb] at hb'; cases hb'
          have hlc := f2_len hf
          have hf' := finL_rel hg hds hp hf
          refine .inr ⟨⟨bb.1, 0, none⟩, cap, rfl, h2, fun _ => rfl, fun i' j hi' hj => ?_⟩
          have hlt2 := el_lt hi' hj
          obtain ⟨y, hy, hr⟩ := getD_rel hf' (k := i' * i.size + j) (by omega)
          exact ⟨y, by rw [Nat.zero_add]; exact endK_cell hge hlt (by simp [World.cell?, hh, hy]), hr⟩
        · cases hc
      · cases hc
    · cases hc
  · split at hc
    · rename_i d' hd
      simp only [Option.some.injEq, Prod.mk.injEq] at hc
      obtain ⟨rfl, _⟩ := hc
      exact D.rel_mono hle _ _ (toD_rel hd r)
    · cases hc

theorem finC_rel (h : Rel w0 N ρ s a w) : ∀ n c d p x, finC P s n c = some (d, p) → All p → c.rel ρ x → d.rel (endK ρ.k0 w0.heap.size w) x := by
  intro n
  induction n with
  | zero =>
    intro c d p x hc hp r
    simp only [finC] at hc
    split at hc
    · rename_i d' hd
      simp only [Option.some.injEq, Prod.mk.injEq] at hc
      obtain ⟨rfl, _⟩ := hc
      exact D.rel_mono (endK_le h) _ _ (toD_rel hd r)
    · cases hc
  | succ n ih => exact finW_rel h ih

theorem finA_rel (h : Rel w0 N ρ s a w) {y : A} {r : Ar} {p : List Prop} (hr : finA P s y = some (r, p)) (hp : All p) {x : Value} (hy : y.rel ρ x) : r.rel (endK ρ.k0 w0.heap.size w) x := by
  unfold finA at hr
  split at hr
  · split at hr
    · rename_i d p' hd
      simp only [Option.some.injEq, Prod.mk.injEq] at hr
      obtain ⟨rfl, rfl⟩ := hr
      exact finC_rel h 3 _ _ _ _ hd hp hy
    · cases hr
  · split at hr
    · rename_i ds p' hd
      simp only [Option.some.injEq, Prod.mk.injEq] at hr
      obtain ⟨rfl, rfl⟩ := hr
      obtain ⟨xs, hf, e⟩ := hy
      exact ⟨xs, finL_rel (finC_rel h 3) hd hp hf, e⟩
    · cases hr
theorem finAs_rel (h : Rel w0 N ρ s a w) : ∀ {ys : List A} {rs : List Ar} {p : List Prop} {xs : List Value}, finAs P s ys = some (rs, p) → All p → F2 (A.rel ρ) ys xs → F2 (Ar.rel (endK ρ.k0 w0.heap.size w)) rs xs := by
  intro ys
  induction ys with
  | nil => intro rs p xs h _ r; cases r; simp [finAs] at h; obtain ⟨rfl, _⟩ := h; exact .nil
  | cons y ys ih =>
    intro rs p xs hr hp r
    cases r with
    | cons r0 rs0 =>
      simp only [finAs] at hr
      split at hr
      · rename_i d p1 ds2 p2 h1 h2
        simp only [Option.some.injEq, Prod.mk.injEq] at hr
        obtain ⟨rfl, rfl⟩ := hr
        obtain ⟨hp1, hp2⟩ := All.append.1 hp
        exact .cons (finA_rel h h1 hp1 r0) (ih h2 hp2 rs0)
      · cases hr

/-- What 'results' reads of one result. -/
def resOne (a : Act) (r : ResultVar) : Sem Value :=
  match r with
  | .tmp t => pure (a.tmps.getD t undef)
  | .cell c t => do loadVar t (← asAddr (a.tmps.getD c undef))
theorem results_eq (fn : Func) (a : Act) : results fn a.tmps = (do let vs ← fn.results.mapM (resOne a); pure (if h : vs.size = 1 then vs[0] else .tuple vs)) := by
  unfold results resOne
  rfl
theorem resA_sound (h : View G ρ s a w) {r : ResultVar} {p : A} (e : resA P s r = some p) : ∃ x, (resOne a r).run P w = .ok x w ∧ p.rel ρ x := by
  unfold resOne
  cases r with
  | tmp t =>
    simp only [resA] at e
    split at e
    · rename_i y hy
      simp only [Option.some.injEq] at e; subst e
      exact ⟨_, rfl, h.tm t _ hy⟩
    · cases e
  | cell t ty =>
    simp only [resA] at e
    split at e
    · rename_i m off d i hx hd hi
      obtain ⟨b, hb, hv⟩ := h.tm t _ hx
      split at e
      · rename_i k hk
        obtain ⟨b', hb', hlt, hrel⟩ := h.hp m k hk
        simp only at hb
        rw [hb] at hb'; cases hb'
        split at e
        · rename_i hg
          split at e
          · rename_i cs hcs
            simp only [Option.some.injEq] at e; subst e
            obtain ⟨xs, hf, hl, hc⟩ := readN_sound hrel hcs
            refine ⟨.agg xs.toArray, ?_, xs, hf, rfl⟩
            simp only [hv, asAddr, Sem.run_bind, Sem.run_pure, Result.andThen_ok, run_loadVar_agg hd hi hg hl hc]
          · cases e
        · rename_i hg
          split at e
          · rename_i c hc
            simp only [Option.some.injEq] at e; subst e
            obtain ⟨z, hz, hcell⟩ := Blk.rel_cell hrel hc
            refine ⟨z, ?_, hz⟩
            simp only [hv, asAddr, Sem.run_bind, Sem.run_pure, Result.andThen_ok, run_loadVar_one hd hg hcell]
          · cases e
      · cases e
    · cases e
theorem resL_sound (h : View G ρ s a w) : ∀ {l : List ResultVar} {ps : List A}, resL P s l = some ps → ∃ xs : List Value, (l.mapM (resOne a)).run P w = .ok xs w ∧ F2 (A.rel ρ) ps xs := by
  intro l
  induction l with
  | nil => intro ps e; simp [resL] at e; subst e; exact ⟨[], rfl, .nil⟩
  | cons r l ih =>
    intro ps e
    simp only [resL] at e
    split at e
    · rename_i p k hp hk
      simp only [Option.some.injEq] at e; subst e
      obtain ⟨x, hx, hr⟩ := resA_sound h hp
      obtain ⟨xs, hxs, hrs⟩ := ih hk
      refine ⟨x :: xs, ?_, .cons hr hrs⟩
      rw [List.mapM_cons, Sem.run_bind, hx, Result.andThen_ok, Sem.run_bind, hxs]
      rfl
    · cases e
theorem results_sound (h : Rel w0 N ρ s a w) (hv : View G ρ s a w) {fn : Func} {ps : List A} (e : resL P s fn.results.toList = some ps) {rs : List Ar} {p : List Prop} (hf : finAs P s ps = some (rs, p)) (hp : All p) :
    ∃ x, (results fn a.tmps).run P w = .ok x w ∧ resRel (endK ρ.k0 w0.heap.size w) rs x := by
  obtain ⟨xs, hx, hr⟩ := resL_sound hv e
  have hr' := finAs_rel h hf hp hr
  rw [results_eq, Array.mapM_eq_mapM_toList]
  simp only [Sem.run_bind, Sem.run_map, hx, Result.andThen_ok, Sem.run_pure]
  cases hr' with
  | nil => exact ⟨_, rfl, [], .nil, by simp⟩
  | cons r0 rs0 =>
    cases rs0 with
    | nil => exact ⟨_, rfl, r0⟩
    | cons r1 rs1 => exact ⟨_, rfl, _, .cons r0 (.cons r1 rs1), by simp⟩
end

section
variable (P : Program) (G : GT) (sg : FuncId → Option Sm) (an : An)
def agA : Ag → A
  | .c d => .c (toC d)
  | .agg ds => .agg (ds.map toC)
  | .ptr n F => .c (.ip n F)
  | .clo φ => .c (.clo φ)
def args0 (ags : List Ag) : S := ⟨fun t => match ags[t]? with | some g => some (.a (agA g)) | none => none, fun _ => none⟩

/-- A function's ways. -/
def runFn (fuel : Nat) (fn : Func) (ags : List Ag) : T (List Ar) :=
  match fn.body with
  | some code => (exec P G fn.ntmps sg an fuel code (fun _ => true) 0 (args0 ags)).bind fun r => match r with
    | (.exit _, _, _) => .fail
    | (_, _, s) => (match resL P s fn.results.toList with
      | some ps => (match finAs P s ps with | some (rs, p) => T.needs p (.ret rs) | none => .fail)
      | none => .fail)
  | none => .fail
end

def dsEqv : List D → List D → Prop
  | [], [] => True
  | a :: l, b :: k => a.eqv b ∧ dsEqv l k
  | _, _ => False
theorem dsEqv_rel {κ : Still} : ∀ {ds ds' : List D} {xs : List Value}, dsEqv ds ds' → F2 (D.rel κ) ds xs → F2 (D.rel κ) ds' xs
  | [], [], _, _, r => r
  | a :: l, b :: k, _, h, .cons r rs => .cons (D.eqv_rel h.1 r) (dsEqv_rel h.2 rs)
  | [], _ :: _, _, h, _ => h.elim
  | _ :: _, [], _, h, _ => h.elim
def Ar.eqv : Ar → Ar → Prop
  | .c d, .c d' => d.eqv d'
  | .agg ds, .agg ds' => dsEqv ds ds'
  | _, _ => False
theorem Ar.eqv_rel {κ : Still} {d d' : Ar} {x : Value} (h : d.eqv d') (r : d.rel κ x) : d'.rel κ x := by
  cases d <;> cases d' <;> first | exact h.elim | skip
  · exact D.eqv_rel h r
  · obtain ⟨xs, hf, e⟩ := r; exact ⟨xs, dsEqv_rel h hf, e⟩
def rsEqv : List Ar → List Ar → Prop
  | [], [] => True
  | a :: l, b :: k => a.eqv b ∧ rsEqv l k
  | _, _ => False
theorem rsEqv_f2 {κ : Still} : ∀ {ds ds' : List Ar} {xs : List Value}, rsEqv ds ds' → F2 (Ar.rel κ) ds xs → F2 (Ar.rel κ) ds' xs
  | [], [], _, _, r => r
  | a :: l, b :: k, _, h, .cons r rs => .cons (Ar.eqv_rel h.1 r) (rsEqv_f2 h.2 rs)
  | [], _ :: _, _, h, _ => h.elim
  | _ :: _, [], _, h, _ => h.elim
theorem rsEqv_rel {κ : Still} {rs rs' : List Ar} {x : Value} (h : rsEqv rs rs') (r : resRel κ rs x) : resRel κ rs' x := by
  match rs, rs', h, r with
  | [], [], _, r => exact r
  | [a], [b], h, r => exact Ar.eqv_rel h.1 r
  | a :: b :: l, a' :: b' :: l', h, ⟨ys, hf, e⟩ => exact ⟨ys, rsEqv_f2 h hf, e⟩

section
variable {P : Program} {G : GT} {gw : World → Prop} {sg : FuncId → Option Sm} {an : An}

theorem agA_rel {ρ : Ren} (hcl : ∀ φ x, CloOK P gw ρ.κ φ x → ρ.cl φ x) {g : Ag} {x : Value} (h : g.rel P gw ρ.κ x) : (agA g).rel ρ x := by
  cases g with
  | c d => exact toC_rel h
  | agg ds => obtain ⟨xs, hf, e⟩ := h; exact ⟨xs, f2_toC hf, e⟩
  | ptr n F => exact h
  | clo φ => exact ⟨hcl φ x h, by obtain ⟨f, caps, e, _⟩ := h; exact ⟨f, caps, e⟩⟩
theorem agA_f2 {ρ : Ren} (hcl : ∀ φ x, CloOK P gw ρ.κ φ x → ρ.cl φ x) : ∀ {gs : List Ag} {xs : List Value}, F2 (Ag.rel P gw ρ.κ) gs xs → F2 (A.rel ρ) (gs.map agA) xs
  | _, _, .nil => .nil
  | _, _, .cons r rs => .cons (agA_rel hcl r) (agA_f2 hcl rs)

/-- A mark taken: its block is shut. -/
theorem taken {N : Nat} {w0 : World} {ρ : Ren} {s : S} {a : Act} {w : World} (h : Rel w0 N ρ s a w) {D : Nat} {Ds : List Nat} (hd : a.defers = (D :: Ds).map (fun D => ({ target := .collected D, args := #[] } : Deferred))) :
    ∃ w', (Instr.takeDeferred D).run P w = .ok [] w' ∧ Rel w0 N ρ s { a with defers := Ds.map (fun D => { target := .collected D, args := #[] }) } w' := by
  obtain ⟨Es, h1, h2, h3⟩ := h.df
  have hinj : ∀ {l k : List Nat}, l.map (fun D => ({ target := .collected D, args := #[] } : Deferred)) = k.map (fun D => { target := .collected D, args := #[] }) → l = k := by
    intro l
    induction l with
    | nil => intro k h; cases k with | nil => rfl | cons x k => cases h
    | cons y l ih =>
      intro k h
      cases k with
      | nil => cases h
      | cons x k =>
        simp only [List.map_cons, List.cons.injEq, Deferred.mk.injEq, Target.collected.injEq, and_true] at h
        rw [h.1, ih h.2]
  have he : Es = D :: Ds := hinj (h1.symm.trans hd)
  subst he
  obtain ⟨g1, g2⟩ := h3 D (List.mem_cons_self ..)
  have hlt : D < w.heap.size := (Array.getElem?_eq_some_iff.1 g2).1
  refine ⟨{ w with heap := w.heap.setIfInBounds D (.deferred none) }, ?_, ?_⟩
  · simp [Instr.takeDeferred, getObj, setObj, Sem.run, g2]
  have hother : ∀ i, i ≠ D → (w.heap.setIfInBounds D (.deferred none))[i]? = w.heap[i]? := fun i hi => by simp [Array.getElem?_setIfInBounds, Ne.symm hi]
  have hcell : ∀ b o v, w.cell? ⟨b, o, none⟩ = some v → World.cell? { w with heap := w.heap.setIfInBounds D (.deferred none) } ⟨b, o, none⟩ = some v := by
    intro b o v hv
    have hb : b ≠ D := by
      intro e
      subst e
      simp [World.cell?, g2] at hv
    rw [World.cell?_of_block (w := w) (by exact hother b hb)]; exact hv
  refine ⟨h.sz, h.bel.trans ⟨rfl, rfl, rfl, by simp, fun i hi => hother i (by omega)⟩, ⟨Ds, rfl, (List.nodup_cons.1 h2).2, fun E hE => ?_⟩, h.tm, h.dom, ?_, h.inj, ?_, h.dis, h.old⟩
  · have hne : E ≠ D := fun e => (List.nodup_cons.1 h2).1 (e ▸ hE)
    exact ⟨(h3 E (List.mem_cons_of_mem _ hE)).1, (hother E hne).trans (h3 E (List.mem_cons_of_mem _ hE)).2⟩
  · intro m k hm
    obtain ⟨b, i1, i2, i3, i4⟩ := h.hp m k hm
    refine ⟨b, i1, by simpa using i2, ?_, i4⟩
    cases hk : k.own with
    | false => exact Blk.rel_mono' (Ren.le_refl _) hk i3
    | true =>
      obtain ⟨xs, e, hx⟩ := Blk.own_cells hk i3
      have hne : b.1 ≠ D := by intro e; rw [e, g2] at hx; cases hx
      exact Blk.rel_mono (Ren.le_refl _) (hother _ hne) i3
  · intro b o v hv
    obtain ⟨j1, j2⟩ := h.im b o v hv
    exact ⟨by simpa using j1, hcell b o v j2⟩

/-- THE RUN OF A FUNCTION, out of its tree. -/
theorem fn_sound (E : Env P G sg gw) {f : FuncId} {fn : Func} (hf : P.funcs[f]? = some fn) {fuel : Nat} {ags : List Ag} {xs : List Value} {w : World} {κ : Still} {r : List Ar}
    (hgw : gw w) (hl : Lies κ w) (hG : GIn G κ) (hx : F2 (Ag.rel P gw κ) ags xs) (hlen : Nat.ble ags.length fn.ntmps = true)
    (h : (runFn P G sg an fuel fn ags).wp (fun rs => rsEqv rs r)) : Calls P f xs.toArray w (Back κ r w) := by
  unfold runFn at h
  split at h
  · rename_i code hb
    refine (callsIn_wide (n := 0)).1 (callsIn_of_wp_marks (F := Fence.wide) hf hb trivial ?_)
    have hlen' := Nat.le_of_ble_eq_true hlen
    have hxl := f2_len hx
    obtain ⟨ρ, hρ⟩ : ∃ ρ : Ren, ρ = { nm := fun _ => none, κ := κ, cl := fun φ x => CloOK P gw κ φ x, k0 := κ } := ⟨_, rfl⟩
    have hx' : F2 (A.rel ρ) (ags.map agA) xs := by
      refine agA_f2 ?_ (by rw [hρ]; exact hx)
      rw [hρ]; exact fun φ x h => h
    have hrel : Rel w fn.ntmps ρ (args0 ags) { tmps := xs.toArray ++ Array.replicate (fn.ntmps - xs.toArray.size) undef, defers := [] } w := by
      refine ⟨by simp; omega, Below.refl _ _, ⟨[], rfl, List.nodup_nil, fun D hD => by cases hD⟩, ?_, ?_, ?_, ?_, ?_, ?_, ?_⟩
      · intro t v ht
        simp only [args0] at ht
        split at ht
        · rename_i g hg
          simp only [Option.some.injEq] at ht; subst ht
          have hg' : (ags.map agA)[t]? = some (agA g) := by simp [hg]
          obtain ⟨x, hxt, hr⟩ := f2_get hx' hg'
          have hlt : t < xs.length := (List.getElem?_eq_some_iff.1 hxt).1
          refine ⟨by omega, ?_⟩
          rw [Array.getD_eq_getD_getElem?, Array.getElem?_append, if_pos (by simpa using hlt)]
          simp only [List.getElem?_toArray, hxt, Option.getD_some]
          exact hr
        · cases ht
      · intro m hm; rw [hρ]
      · intro m k hm; simp [args0] at hm
      · intro m m' k k' b b' hm; simp [args0] at hm
      · rw [hρ]; exact hl
      · intro m k b o hm; simp [args0] at hm
      · intro b o v hv _; rw [hρ] at hv ⊢; exact hv
    have hamb : Amb P G gw ρ := by
      refine ⟨fun g n F e => ⟨⟨g, 0, none⟩, rfl, rfl, ?_⟩, ?_⟩
      · rw [hρ]; exact hG g n F e
      · rw [hρ]; exact fun φ x h => h
    refine wpIn_mono (exec_sound (rr := none) E hgw fuel code hrel hamb (T.wp_bind h)) ?_
    have fin : ∀ (s : S) (ρ' : Ren), ρ.up ρ' → (match resL P s fn.results.toList with | some ps => (match finAs P s ps with | some (rs, p) => T.needs p (.ret rs) | none => T.fail) | none => T.fail).wp (fun rs => rsEqv rs r) →
        ∀ (Ds : List Nat) (a' : Act) (w' : World), a'.defers = Ds.map (fun D => { target := .collected D, args := #[] }) → Rel w fn.ntmps ρ' s a' w' → LeavesInM Fence.wide 0 P fn a'.tmps (Back κ r w) a'.defers .returning w' := by
      intro s ρ' hle hr Ds
      have hk0 : ρ'.k0 = κ := by rw [hle.k0, hρ]
      induction Ds with
      | nil =>
        intro a' w' hd hrel'
        rw [hd]
        split at hr
        · rename_i ps hps
          split at hr
          · rename_i rs p hrs
            obtain ⟨hp, heq⟩ := T.wp_needs hr
            have hview : View G ρ' s a' w' := ⟨fun t v ht => (hrel'.tm t v ht).2, fun m k hk => by obtain ⟨b, h1, h2, h3, _⟩ := hrel'.hp m k hk; exact ⟨b, h1, h2, h3⟩, hrel'.im, (hamb.up hle).gl⟩
            obtain ⟨x, hx1, hx2⟩ := results_sound hrel' hview hps hrs hp
            rw [hk0] at hx2
            refine ⟨x, hx1, x, endK κ w.heap.size w', rfl, ?_, ?_, ?_, rsEqv_rel heq hx2, hrel'.bel⟩
            · intro b o v hv
              have hlt := (hl b o v hv).1
              unfold endK
              rw [if_neg (by omega)]; exact hv
            · intro b o v hv
              unfold endK at hv
              split at hv
              · split at hv
                · rename_i hlt; exact ⟨hlt, hv⟩
                · cases hv
              · exact lies_back (κ' := κ) hl hrel'.bel b o v hv
            · intro b o v hv
              unfold endK at hv
              split at hv
              · rename_i hge; exact .inr hge
              · exact .inl hv
          · exact hr.elim
        · exact hr.elim
      | cons D Ds ih =>
        intro a' w' hd hrel'
        rw [hd]
        obtain ⟨w2, htake, hrel2⟩ := taken (P := P) hrel' hd
        refine ⟨by simp, .inl ⟨D, w2, rfl, htake, ?_⟩⟩
        have := ih { a' with defers := Ds.map (fun D => { target := .collected D, args := #[] }) } w2 rfl hrel2
        exact this
    intro e a' w' hc
    cases e <;> simp only [CP, bodyPostM] at hc ⊢
    case normal =>
      obtain ⟨c', s', ρ', hr, hrel', hle⟩ := hc
      obtain ⟨Ds, hDs, _⟩ := hrel'.df
      exact fin s' ρ' hle hr Ds a' w' hDs hrel'
    case ret =>
      obtain ⟨c', s', ρ', hr, hrel', hle⟩ := hc
      obtain ⟨Ds, hDs, _⟩ := hrel'.df
      exact fin s' ρ' hle hr Ds a' w' hDs hrel'
    case exit id => obtain ⟨c', s', ρ', hr, hrel', hle⟩ := hc; exact hr.elim
  · exact h.elim
end
end Go.V
end
