/- The engine, part 1: abstract values with named blocks, and how they stand to the model's values and worlds. -/
import Derived.WalkKit
set_option linter.unusedVariables false
set_option linter.unusedSimpArgs false
namespace Go.Eng
open Go.RowKit (Below)

/-- Two lists, related part by part. -/
inductive F2 {α β : Type} (R : α → β → Prop) : List α → List β → Prop where
  | nil : F2 R [] []
  | cons {a : α} {b : β} {l : List α} {k : List β} : R a b → F2 R l k → F2 R (a :: l) (b :: k)

/-- A renaming: of each name the block that bears it, and a capacity. -/
abbrev Ren := Nat → Option (Nat × Nat)

/-- What one cell holds. 'num', 'lit': known; 'int', 'bool': any term. -/
inductive C where
  | num (k : IntKind) (n : Int)
  | int (k : IntKind) (n : Int)
  | lit (b : Bool)
  | bool (b : Bool)
  | str (s : ByteArray)
  | nil
  | ptr (m off : Nat)
  | nsl
  | sl (m off len cap : Nat)
  | gsl (m len : Nat)
  | fn (f : FuncId) (caps : List (Nat × Nat))
  | op (v : Value)

/-- A value: a cell, or a struct or array. -/
inductive A where
  | c (x : C)
  | agg (cs : List C)

/-- What a slot holds: a value, or several results. -/
inductive V where
  | a (x : A)
  | tup (xs : List A)

def PtrRel (ρ : Ren) (p : Nat × Nat) (x : Value) : Prop := ∃ b, ρ p.1 = some b ∧ x = .pointer (some ⟨b.1, p.2, none⟩)

def C.rel (ρ : Ren) : C → Value → Prop
  | .num k n, x => x = .int k n
  | .int k n, x => x = .int k n
  | .lit b, x => x = .bool b
  | .bool b, x => x = .bool b
  | .str s, x => x = .string s
  | .nil, x => x = .pointer none
  | .ptr m off, x => PtrRel ρ (m, off) x
  | .nsl, x => x = .slice none 0 0
  | .sl m off len cap, x => ∃ b, ρ m = some b ∧ x = .slice (some ⟨b.1, off, none⟩) len cap
  | .gsl m len, x => ∃ b, ρ m = some b ∧ x = .slice (some ⟨b.1, 0, none⟩) len b.2
  | .fn f caps, x => ∃ xs : List Value, F2 (PtrRel ρ) caps xs ∧ x = .func (.func f) #[] xs.toArray
  | .op v, x => x = v ∧ v.cells = #[v] ∧ (∀ cs, v ≠ .agg cs)  ∧ (∀ cs, v ≠ .tuple cs)

def A.rel (ρ : Ren) : A → Value → Prop
  | .c x, v => x.rel ρ v
  | .agg cs, v => ∃ xs : List Value, F2 (C.rel ρ) cs xs ∧ v = .agg xs.toArray

def V.rel (ρ : Ren) : V → Value → Prop
  | .a x, v => x.rel ρ v
  | .tup xs, v => ∃ ys : List Value, F2 (A.rel ρ) xs ys ∧ v = .tuple ys.toArray

def Ren.le (ρ ρ' : Ren) : Prop := ∀ m b, ρ m = some b → ρ' m = some b
theorem Ren.le_refl (ρ : Ren) : ρ.le ρ := fun _ _ h => h
theorem Ren.le_trans {a b c : Ren} (h : a.le b) (k : b.le c) : a.le c := fun m x e => k m x (h m x e)

theorem f2_imp {α β : Type} {R S : α → β → Prop} (h : ∀ a b, R a b → S a b) : ∀ {l : List α} {k : List β}, F2 R l k → F2 S l k
  | _, _, .nil => .nil
  | _, _, .cons x xs => .cons (h _ _ x) (f2_imp h xs)

theorem PtrRel.mono {ρ ρ' : Ren} (h : ρ.le ρ') (p : Nat × Nat) (x : Value) : PtrRel ρ p x → PtrRel ρ' p x
  | ⟨b, e, r⟩ => ⟨b, h _ _ e, r⟩

theorem C.rel_mono {ρ ρ' : Ren} (h : ρ.le ρ') (c : C) (x : Value) (r : c.rel ρ x) : c.rel ρ' x := by
  cases c <;> simp only [C.rel] at r ⊢ <;> try exact r
  · exact PtrRel.mono h _ _ r
  · obtain ⟨b, e, r⟩ := r; exact ⟨b, h _ _ e, r⟩
  · obtain ⟨b, e, r⟩ := r; exact ⟨b, h _ _ e, r⟩
  · obtain ⟨xs, e, r⟩ := r; exact ⟨xs, f2_imp (PtrRel.mono h) e, r⟩

theorem A.rel_mono {ρ ρ' : Ren} (h : ρ.le ρ') (c : A) (x : Value) (r : c.rel ρ x) : c.rel ρ' x := by
  cases c with
  | c y => exact C.rel_mono h y x r
  | agg cs => obtain ⟨xs, e, r⟩ := r; exact ⟨xs, f2_imp (C.rel_mono h) e, r⟩

theorem V.rel_mono {ρ ρ' : Ren} (h : ρ.le ρ') (c : V) (x : Value) (r : c.rel ρ x) : c.rel ρ' x := by
  cases c with
  | a y => exact A.rel_mono h y x r
  | tup cs => obtain ⟨xs, e, r⟩ := r; exact ⟨xs, f2_imp (A.rel_mono h) e, r⟩

/-- A related cell is one cell. -/
theorem C.rel_cells {ρ : Ren} {c : C} {x : Value} (r : c.rel ρ x) : x.cells = #[x] := by
  cases c <;> simp only [C.rel, PtrRel] at r
  case op v => obtain ⟨rfl, h, _⟩ := r; exact h
  case ptr => obtain ⟨b, _, rfl⟩ := r; rfl
  case sl => obtain ⟨b, _, rfl⟩ := r; rfl
  case gsl => obtain ⟨b, _, rfl⟩ := r; rfl
  case fn => obtain ⟨b, _, rfl⟩ := r; rfl
  all_goals (subst r; rfl)

theorem C.rel_noAgg {ρ : Ren} {c : C} {x : Value} (r : c.rel ρ x) : (∀ cs, x ≠ .agg cs) ∧ (∀ cs, x ≠ .tuple cs) := by
  cases c <;> simp only [C.rel, PtrRel] at r
  case op v => obtain ⟨rfl, _, h⟩ := r; exact h
  case ptr => obtain ⟨b, _, rfl⟩ := r; simp
  case sl => obtain ⟨b, _, rfl⟩ := r; simp
  case gsl => obtain ⟨b, _, rfl⟩ := r; simp
  case fn => obtain ⟨b, _, rfl⟩ := r; simp
  all_goals (subst r; simp)

/-- A block: known whole; known in part (read alone); one that an append may make longer; forgotten. -/
inductive Blk where
  | known (e : TypeId) (cs : List C)
  | part (base : Nat) (cs : List C)
  | dead

def Blk.cell : Blk → Nat → Option C
  | .known _ cs, o => cs[o]?
  | .part base cs, o => match Nat.ble base o with | true => cs[o - base]? | false => none
  | .dead, _ => none

def Blk.rel (ρ : Ren) (b : Nat) (w : World) : Blk → Prop
  | .known e cs => ∃ xs : List Value, F2 (C.rel ρ) cs xs ∧ w.heap[b]? = some (.cells xs.toArray e (0, 0))
  | .part base cs => ∀ j c, cs[j]? = some c → ∃ x, c.rel ρ x ∧ w.cell? ⟨b, base + j, none⟩ = some x
  | .dead => True

theorem f2_get {α β : Type} {R : α → β → Prop} : ∀ {l : List α} {k : List β}, F2 R l k → ∀ {i : Nat} {a : α}, l[i]? = some a → ∃ b, k[i]? = some b ∧ R a b
  | _, _, .nil, i, a, h => by simp at h
  | _, _, .cons (a := a₀) (b := b₀) x xs, 0, a, h => by simp at h; subst h; exact ⟨b₀, rfl, x⟩
  | _, _, .cons x xs, i + 1, a, h => by simp at h; simpa using f2_get xs h

theorem f2_len {α β : Type} {R : α → β → Prop} : ∀ {l : List α} {k : List β}, F2 R l k → l.length = k.length
  | _, _, .nil => rfl
  | _, _, .cons _ xs => by simp [f2_len xs]

theorem f2_set {α β : Type} {R : α → β → Prop} {a : α} {b : β} (h : R a b) : ∀ {l : List α} {k : List β}, F2 R l k → ∀ i, F2 R (l.set i a) (k.set i b)
  | _, _, .nil, i => .nil
  | _, _, .cons x xs, 0 => .cons h xs
  | _, _, .cons x xs, i + 1 => .cons x (f2_set h xs i)

theorem Blk.rel_cell {ρ : Ren} {b : Nat} {w : World} {k : Blk} (h : k.rel ρ b w) {o : Nat} {c : C} (hc : k.cell o = some c) : ∃ x, c.rel ρ x ∧ w.cell? ⟨b, o, none⟩ = some x := by
  cases k with
  | known e cs =>
    obtain ⟨xs, hf, hh⟩ := h
    obtain ⟨x, hx, hr⟩ := f2_get hf hc
    exact ⟨x, hr, by simp [World.cell?, hh, hx]⟩
  | part base cs =>
    simp only [Blk.cell] at hc
    split at hc
    · rename_i hb
      have hb' : base ≤ o := Nat.le_of_ble_eq_true hb
      obtain ⟨x, hr, hx⟩ := h _ _ hc
      exact ⟨x, hr, by rw [show base + (o - base) = o by omega] at hx; exact hx⟩
    · cases hc
  | dead => simp [Blk.cell] at hc

theorem Blk.rel_mono {ρ ρ' : Ren} (hρ : ρ.le ρ') {b : Nat} {w w' : World} {k : Blk} (hw : w'.heap[b]? = w.heap[b]?) (h : k.rel ρ b w) : k.rel ρ' b w' := by
  cases k with
  | known e cs =>
    obtain ⟨xs, hf, hh⟩ := h
    exact ⟨xs, f2_imp (C.rel_mono hρ) hf, by rw [hw]; exact hh⟩
  | part base cs =>
    intro j c hc
    obtain ⟨x, hr, hx⟩ := h j c hc
    exact ⟨x, C.rel_mono hρ _ _ hr, by rw [World.cell?_of_block (w := w) hw]; exact hx⟩
  | dead => trivial

def upd {α : Type} (f : Nat → α) (k : Nat) (v : α) : Nat → α := fun x => match Nat.beq x k with | true => v | false => f x
theorem upd_same {α : Type} (f : Nat → α) (k : Nat) (v : α) : upd f k v k = v := by simp [upd]
theorem upd_ne {α : Type} (f : Nat → α) {k x : Nat} (v : α) (h : x ≠ k) : upd f k v x = f x := by
  have : Nat.beq x k = false := by cases hb : Nat.beq x k; rfl; exact absurd (Nat.eq_of_beq_eq_true hb) h
  simp [upd, this]
theorem upd_comm {α : Type} (f : Nat → α) {j k : Nat} (u v : α) (h : j ≠ k) : upd (upd f j u) k v = upd (upd f k v) j u := by
  funext x
  by_cases h1 : x = j
  · subst h1; rw [upd_same, upd_ne _ _ h, upd_same]
  · by_cases h2 : x = k
    · subst h2; rw [upd_same, upd_ne _ _ h1, upd_same]
    · rw [upd_ne _ _ h2, upd_ne _ _ h1, upd_ne _ _ h1, upd_ne _ _ h2]

/-- The abstract state: what is known of the slots and of the named blocks. -/
structure S where
  tm : Nat → Option V
  hp : Nat → Option Blk

/-- How the abstract state stands to a frame and a world. w0, B: the world and its size when the function began; names below n0 are blocks that were there. -/
structure Rel (w0 : World) (n0 N : Nat) (ρ : Ren) (s : S) (a : Act) (w : World) : Prop where
  sz : a.tmps.size = N
  df : a.defers = []
  bel : Below w0.heap.size w0 w
  tm : ∀ t v, s.tm t = some v → t < N ∧ v.rel ρ (a.tmps.getD t undef)
  dom : ∀ m, s.hp m = none → ρ m = none
  hp : ∀ m k, s.hp m = some k → ∃ b, ρ m = some b ∧ b.1 < w.heap.size ∧ k.rel ρ b.1 w ∧ (n0 ≤ m → w0.heap.size ≤ b.1) ∧ (m < n0 → b.1 < w0.heap.size)
  inj : ∀ m m' b b', ρ m = some b → ρ m' = some b' → n0 ≤ m → n0 ≤ m' → m ≠ m' → b.1 ≠ b'.1

/-- What one operation does. -/
structure Eff where
  val : Option V
  nw : List Blk
  wr : Option (Nat × Blk)

def addNews (c : Nat) : List Blk → (Nat → Option Blk) → Nat → Option Blk
  | [], h => h
  | b :: bs, h => addNews (c + 1) bs (upd h c (some b))

def act (dst : Option Tmp) (c : Nat) (e : Eff) (s : S) : S :=
  { tm := match dst with | some d => upd s.tm d e.val | none => s.tm
    hp := addNews c e.nw (match e.wr with | some (m, b) => upd s.hp m (some b) | none => s.hp) }

theorem addNews_out {c m : Nat} : ∀ {bs : List Blk} {h : Nat → Option Blk}, (m < c ∨ c + bs.length ≤ m) → addNews c bs h m = h m := by
  intro bs
  induction bs generalizing c with
  | nil => intro h _; rfl
  | cons b bs ih =>
    intro h hm
    simp only [addNews, List.length_cons] at hm ⊢
    rw [ih (by omega), upd_ne _ _ (by omega)]

theorem addNews_in {c : Nat} : ∀ {bs : List Blk} {h : Nat → Option Blk} {i : Nat}, i < bs.length → addNews c bs h (c + i) = bs[i]? := by
  intro bs
  induction bs generalizing c with
  | nil => intro h i hi; simp at hi
  | cons b bs ih =>
    intro h i hi
    cases i with
    | zero => simp only [addNews]; rw [addNews_out (.inl (by omega))]; simp [upd_same]
    | succ i =>
      have := ih (c := c + 1) (h := upd h c (some b)) (i := i) (by simpa using hi)
      simp only [addNews]
      rw [show c + (i + 1) = c + 1 + i by omega, this]; simp

theorem put_getD (a : Act) (dst : Option Tmp) (v : Value) (t : Nat) (ht : t < a.tmps.size) :
    (a.put dst v).tmps.getD t undef = if dst = some t then v else a.tmps.getD t undef := by
  cases dst with
  | none => simp [Act.put]
  | some d =>
    simp only [Act.put, Array.getD_eq_getD_getElem?, Array.getElem?_setIfInBounds]
    by_cases h : d = t
    · subst h; simp [ht]
    · have : ¬ (some d = some t) := by simpa using h
      simp [h]

theorem put_size (a : Act) (dst : Option Tmp) (v : Value) : (a.put dst v).tmps.size = a.tmps.size := by
  cases dst <;> simp [Act.put]
theorem put_defers (a : Act) (dst : Option Tmp) (v : Value) : (a.put dst v).defers = a.defers := by
  cases dst <;> simp [Act.put]

/-- Slots behind one operation. -/
theorem Rel.tm_put {w0 : World} {n0 N : Nat} {ρ ρ' : Ren} {s : S} {a : Act} {w : World} (h : Rel w0 n0 N ρ s a w) (hρ : ρ.le ρ') {dst : Option Tmp} {val : Option V} {x : Value}
    (hd : ∀ d, dst = some d → d < N) (hv : ∀ v, dst ≠ none → val = some v → v.rel ρ' x) :
    ∀ t v, (match dst with | some d => upd s.tm d val | none => s.tm) t = some v → t < N ∧ v.rel ρ' ((a.put dst x).tmps.getD t undef) := by
  intro t v ht
  cases dst with
  | none => obtain ⟨h1, h2⟩ := h.tm t v ht; exact ⟨h1, V.rel_mono hρ _ _ h2⟩
  | some d =>
    by_cases e : t = d
    · subst e
      have hlt := hd t rfl
      simp only [upd_same] at ht
      refine ⟨hlt, ?_⟩
      rw [put_getD _ _ _ _ (by rw [h.sz]; exact hlt), if_pos rfl]
      exact hv v (by simp) ht
    · simp only [upd_ne _ _ e] at ht
      obtain ⟨h1, h2⟩ := h.tm t v ht
      refine ⟨h1, ?_⟩
      rw [put_getD _ _ _ _ (by rw [h.sz]; exact h1), if_neg (by simpa using fun h => e h.symm)]
      exact V.rel_mono hρ _ _ h2

/-- An operation that changes no block that was there (and may make new ones). -/
theorem Rel.grow {w0 : World} {n0 N : Nat} {ρ ρ' : Ren} {s : S} {a : Act} {w w' : World} (h : Rel w0 n0 N ρ s a w) {dst : Option Tmp} {c : Nat} {val : Option V} {nw : List Blk} {x : Value}
    (hd : ∀ d, dst = some d → d < N) (hn : n0 ≤ c) (hb : Below w.heap.size w w') (hρ : ρ.le ρ')
    (hnew : ∀ m, ρ m = none → (m < c ∨ c + nw.length ≤ m) → ρ' m = none)
    (hfresh : ∀ i, i < nw.length → s.hp (c + i) = none)
    (hv : ∀ v, dst ≠ none → val = some v → v.rel ρ' x)
    (hk : ∀ i k, nw[i]? = some k → ∃ b, ρ' (c + i) = some b ∧ w.heap.size ≤ b.1 ∧ b.1 < w'.heap.size ∧ k.rel ρ' b.1 w')
    (hi : ∀ i j b b', i < nw.length → j < nw.length → i ≠ j → ρ' (c + i) = some b → ρ' (c + j) = some b' → b.1 ≠ b'.1) :
    Rel w0 n0 N ρ' (act dst c ⟨val, nw, none⟩ s) (a.put dst x) w' where
  sz := by rw [put_size]; exact h.sz
  df := by rw [put_defers]; exact h.df
  bel := h.bel.trans (hb.mono h.bel.size)
  tm := h.tm_put hρ hd hv
  dom := by
    intro m hm
    simp only [act] at hm
    by_cases hin : m < c ∨ c + nw.length ≤ m
    · rw [addNews_out hin] at hm; exact hnew m (h.dom m hm) hin
    · exfalso
      have := addNews_in (c := c) (bs := nw) (h := s.hp) (i := m - c) (by omega)
      rw [show c + (m - c) = m by omega, hm] at this
      simp at this; omega
  hp := by
    intro m k hm
    simp only [act] at hm
    by_cases hin : m < c ∨ c + nw.length ≤ m
    · rw [addNews_out hin] at hm
      obtain ⟨b, h1, h2, h3, h4⟩ := h.hp m k hm
      exact ⟨b, hρ _ _ h1, Nat.lt_of_lt_of_le h2 hb.size, Blk.rel_mono hρ (hb.block _ h2) h3, h4⟩
    · have := addNews_in (c := c) (bs := nw) (h := s.hp) (i := m - c) (by omega)
      rw [show c + (m - c) = m by omega, hm] at this
      obtain ⟨b, h1, h2, h3, h4⟩ := hk (m - c) k this.symm
      rw [show c + (m - c) = m by omega] at h1
      exact ⟨b, h1, h3, h4, fun _ => Nat.le_trans h.bel.size h2, fun hlt => by omega⟩
  inj := by
    have old : ∀ m b, ρ' m = some b → (m < c ∨ c + nw.length ≤ m) → ρ m = some b := by
      intro m b hm hin
      cases hr : ρ m with
      | none => rw [hnew m hr hin] at hm; cases hm
      | some b' => rw [hρ _ _ hr] at hm; exact hm
    have isnew : ∀ m b, ρ' m = some b → ¬ (m < c ∨ c + nw.length ≤ m) → w.heap.size ≤ b.1 := by
      intro m b hm hin
      have hlt : m - c < nw.length := by omega
      obtain ⟨b', h1, h2, _⟩ := hk (m - c) nw[m - c] (List.getElem?_eq_getElem hlt)
      rw [show c + (m - c) = m by omega, hm] at h1
      cases h1; exact h2
    have isold : ∀ m b, ρ m = some b → b.1 < w.heap.size := by
      intro m b hm
      cases hr : s.hp m with
      | none => rw [h.dom m hr] at hm; cases hm
      | some k => obtain ⟨b', h1, h2, _⟩ := h.hp m k hr; rw [hm] at h1; cases h1; exact h2
    intro m m' b b' hm hm' hn1 hn2 hne
    by_cases i1 : m < c ∨ c + nw.length ≤ m
    · by_cases i2 : m' < c ∨ c + nw.length ≤ m'
      · exact h.inj m m' b b' (old _ _ hm i1) (old _ _ hm' i2) hn1 hn2 hne
      · have := isold _ _ (old _ _ hm i1); have := isnew _ _ hm' i2; omega
    · by_cases i2 : m' < c ∨ c + nw.length ≤ m'
      · have := isold _ _ (old _ _ hm' i2); have := isnew _ _ hm i1; omega
      · have e1 : c + (m - c) = m := by omega
        have e2 : c + (m' - c) = m' := by omega
        exact hi (m - c) (m' - c) b b' (by omega) (by omega) (by omega) (by rw [e1]; exact hm) (by rw [e2]; exact hm')

/-- An operation that writes into one block of the call's own. -/
theorem Rel.wrote {w0 : World} {n0 N : Nat} {ρ : Ren} {s : S} {a : Act} {w w' : World} (h : Rel w0 n0 N ρ s a w) {dst : Option Tmp} {c : Nat} {val : Option V} {m : Nat} {b : Nat × Nat} {k k' : Blk} {x : Value}
    (hd : ∀ d, dst = some d → d < N) (hm : s.hp m = some k) (hn : n0 ≤ m) (hb : ρ m = some b)
    (ho : w'.os = w.os) (ht : w'.tape = w.tape) (hu : w'.output = w.output) (hsz : w'.heap.size = w.heap.size) (hother : ∀ i, i ≠ b.1 → w'.heap[i]? = w.heap[i]?)
    (hk : k'.rel ρ b.1 w') (hv : ∀ v, dst ≠ none → val = some v → v.rel ρ x) :
    Rel w0 n0 N ρ (act dst c ⟨val, [], some (m, k')⟩ s) (a.put dst x) w' where
  sz := by rw [put_size]; exact h.sz
  df := by rw [put_defers]; exact h.df
  bel := by
    obtain ⟨b2, h1, h2, h3, h4, h5⟩ := h.hp m k hm
    rw [hb] at h1; cases h1
    have := h4 hn
    exact h.bel.trans ⟨ho, ht, hu, by omega, fun i hi => hother i (by omega)⟩
  tm := h.tm_put (Ren.le_refl _) hd hv
  dom := by
    intro i hi
    simp only [act, addNews] at hi
    by_cases e : i = m
    · subst e; rw [upd_same] at hi; cases hi
    · rw [upd_ne _ _ e] at hi; exact h.dom i hi
  hp := by
    intro i k2 hi
    simp only [act, addNews] at hi
    by_cases e : i = m
    · subst e
      rw [upd_same] at hi; cases hi
      obtain ⟨b2, h1, h2, h3, h4, h5⟩ := h.hp i k hm
      rw [hb] at h1; cases h1
      exact ⟨b, hb, by omega, hk, h4, h5⟩
    · rw [upd_ne _ _ e] at hi
      obtain ⟨b2, h1, h2, h3, h4, h5⟩ := h.hp i k2 hi
      have hne : b2.1 ≠ b.1 := by
        obtain ⟨b3, g1, g2, g3, g4, g5⟩ := h.hp m k hm
        rw [hb] at g1; cases g1
        by_cases hin : n0 ≤ i
        · exact h.inj i m b2 b h1 hb hin hn e
        · have := h5 (by omega); have := g4 hn; omega
      exact ⟨b2, h1, by omega, Blk.rel_mono (Ren.le_refl _) (hother _ hne) h3, h4, h5⟩
  inj := h.inj

end Go.Eng
