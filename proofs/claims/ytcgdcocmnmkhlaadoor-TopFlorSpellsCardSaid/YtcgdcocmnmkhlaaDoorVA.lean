/- The second engine, parts 1 to 5: abstract values with named blocks and with still data; any order; pure effects. -/
import Derived.WalkKit
set_option linter.unusedVariables false
set_option linter.unusedSimpArgs false
section
/- The second engine, part 1: abstract values with named blocks and with data that nobody changes any more, and how they stand to the model's values and worlds. -/
set_option linter.unusedVariables false
set_option linter.unusedSimpArgs false
namespace Go.V
open Go.RowKit (Below)

/-- Two lists, related part by part. -/
inductive F2 {α β : Type} (R : α → β → Prop) : List α → List β → Prop where
  | nil : F2 R [] []
  | cons {a : α} {b : β} {l : List α} {k : List β} : R a b → F2 R l k → F2 R (a :: l) (b :: k)

/-- Data that nobody changes: a cell's content, with whatever it points to. 'sl q len st F': a slice, element i's cell j is F i j; q: surely not nil. -/
inductive D where
  | int (k : IntKind) (n : Int)
  | bool (b : Bool)
  | str (s : ByteArray)
  | nilp
  | op (v : Value)
  | sl (q : Bool) (len st : Nat) (F : Nat → Nat → D)

/-- What lies still: of a block's place the value. -/
abbrev Still := Nat → Nat → Option Value
def Still.le (κ κ' : Still) : Prop := ∀ b o v, κ b o = some v → κ' b o = some v

def D.rel (κ : Still) : D → Value → Prop
  | .int k n, x => x = .int k n
  | .bool b, x => x = .bool b
  | .str s, x => x = .string s
  | .nilp, x => x = .pointer none
  | .op v, x => x = v ∧ v.cells = #[v] ∧ (∀ cs, v ≠ .agg cs) ∧ (∀ cs, v ≠ .tuple cs)
  | .sl q len st F, x => (q = false ∧ len = 0 ∧ x = .slice none 0 0) ∨
      ∃ (a : Addr) (cap : Nat), x = .slice (some a) len cap ∧ len ≤ cap ∧ (0 < len → a.spot = none) ∧ ∀ i j, i < len → j < st → ∃ y, κ a.block (a.off + i * st + j) = some y ∧ D.rel κ (F i j) y

theorem D.rel_mono {κ κ' : Still} (h : κ.le κ') : ∀ (d : D) (x : Value), d.rel κ x → d.rel κ' x := by
  intro d
  induction d with
  | sl q len st F ih =>
    intro x r
    simp only [D.rel] at r ⊢
    rcases r with r | ⟨a, cap, h1, h2, h3, h4⟩
    · exact .inl r
    · refine .inr ⟨a, cap, h1, h2, h3, fun i j hi hj => ?_⟩
      obtain ⟨y, hy, hr⟩ := h4 i j hi hj
      exact ⟨y, h _ _ _ hy, ih i j y hr⟩
  | _ => intro x r; exact r

theorem D.rel_cells {κ : Still} {d : D} {x : Value} (r : d.rel κ x) : x.cells = #[x] := by
  cases d <;> simp only [D.rel] at r
  case op v => obtain ⟨rfl, h, _⟩ := r; exact h
  case sl => rcases r with ⟨_, _, rfl⟩ | ⟨a, cap, rfl, _⟩ <;> rfl
  all_goals (subst r; rfl)
theorem D.rel_noAgg {κ : Still} {d : D} {x : Value} (r : d.rel κ x) : (∀ cs, x ≠ .agg cs) ∧ (∀ cs, x ≠ .tuple cs) := by
  cases d <;> simp only [D.rel] at r
  case op v => obtain ⟨rfl, _, h⟩ := r; exact h
  case sl => rcases r with ⟨_, _, rfl⟩ | ⟨a, cap, rfl, _⟩ <;> simp
  all_goals (subst r; simp)

/-- A value made of still cells: a cell, or a struct or array. -/
inductive Ar where
  | c (d : D)
  | agg (ds : List D)
/-- What a function's value does: of its arguments a condition and the result. -/
abbrev Clo := List Ar → Option (List Prop × Ar)

/-- A renaming: of each name the block that bears it, and a capacity; what lies still; which values are functions that do so; what lay still when the call began. -/
structure Ren where
  nm : Nat → Option (Nat × Nat)
  κ : Still
  cl : Clo → Value → Prop
  k0 : Still
instance : CoeFun Ren (fun _ => Nat → Option (Nat × Nat)) := ⟨Ren.nm⟩

structure Ren.le (ρ ρ' : Ren) : Prop where
  nm : ∀ m b, ρ m = some b → ρ' m = some b
  κ : ρ.κ.le ρ'.κ
  cl : ρ'.cl = ρ.cl
  k0 : ρ'.k0 = ρ.k0
theorem Ren.le_refl (ρ : Ren) : ρ.le ρ := ⟨fun _ _ h => h, fun _ _ _ h => h, rfl, rfl⟩
theorem Ren.le_trans {a b c : Ren} (h : a.le b) (k : b.le c) : a.le c := ⟨fun m x e => k.nm m x (h.nm m x e), fun x y z e => k.κ x y z (h.κ x y z e), k.cl.trans h.cl, k.k0.trans h.k0⟩

/-- What one cell holds. 'num', 'lit': known; 'int', 'bool': any term. 'im': data that lies still; 'ip': the address of such; 'ep': of a place in an element of a named row. -/
inductive C where
  | num (k : IntKind) (n : Int)
  | int (k : IntKind) (n : Int)
  | lit (b : Bool)
  | bool (b : Bool)
  | str (s : ByteArray)
  | nil
  | ptr (m off : Nat)
  | nsl
  | sl (m off len cap : Nat)
  | gsl (m len : Nat)
  | fn (f : FuncId) (caps : List (Nat × Nat))
  | op (v : Value)
  | im (d : D)
  | ip (n : Nat) (G : Nat → D)
  | ep (m st i j : Nat)
  | clo (φ : Clo)

/-- A value: a cell, or a struct or array. -/
inductive A where
  | c (x : C)
  | agg (cs : List C)

/-- What a slot holds: a value, or several results. -/
inductive V where
  | a (x : A)
  | tup (xs : List A)

def PtrRel (ρ : Ren) (p : Nat × Nat) (x : Value) : Prop := ∃ b, ρ p.1 = some b ∧ x = .pointer (some ⟨b.1, p.2, none⟩)

def C.rel (ρ : Ren) : C → Value → Prop
  | .num k n, x => x = .int k n
  | .int k n, x => x = .int k n
  | .lit b, x => x = .bool b
  | .bool b, x => x = .bool b
  | .str s, x => x = .string s
  | .nil, x => x = .pointer none
  | .ptr m off, x => PtrRel ρ (m, off) x
  | .nsl, x => x = .slice none 0 0
  | .sl m off len cap, x => ∃ b, ρ m = some b ∧ x = .slice (some ⟨b.1, off, none⟩) len cap
  | .gsl m len, x => ∃ b, ρ m = some b ∧ x = .slice (some ⟨b.1, 0, none⟩) len b.2
  | .fn f caps, x => ∃ xs : List Value, F2 (PtrRel ρ) caps xs ∧ x = .func (.func f) #[] xs.toArray
  | .op v, x => x = v ∧ v.cells = #[v] ∧ (∀ cs, v ≠ .agg cs)  ∧ (∀ cs, v ≠ .tuple cs)
  | .im d, x => d.rel ρ.κ x
  | .ip n G, x => ∃ a : Addr, x = .pointer (some a) ∧ a.spot = none ∧ ∀ j, j < n → ∃ y, ρ.κ a.block (a.off + j) = some y ∧ (G j).rel ρ.κ y
  | .ep m st i j, x => PtrRel ρ (m, i * st + j) x
  | .clo φ, x => ρ.cl φ x ∧ ∃ f caps, x = .func (.func f) #[] caps

def A.rel (ρ : Ren) : A → Value → Prop
  | .c x, v => x.rel ρ v
  | .agg cs, v => ∃ xs : List Value, F2 (C.rel ρ) cs xs ∧ v = .agg xs.toArray

def V.rel (ρ : Ren) : V → Value → Prop
  | .a x, v => x.rel ρ v
  | .tup xs, v => ∃ ys : List Value, F2 (A.rel ρ) xs ys ∧ v = .tuple ys.toArray

theorem f2_imp {α β : Type} {R S : α → β → Prop} (h : ∀ a b, R a b → S a b) : ∀ {l : List α} {k : List β}, F2 R l k → F2 S l k
  | _, _, .nil => .nil
  | _, _, .cons x xs => .cons (h _ _ x) (f2_imp h xs)

theorem PtrRel.mono {ρ ρ' : Ren} (h : ρ.le ρ') (p : Nat × Nat) (x : Value) : PtrRel ρ p x → PtrRel ρ' p x
  | ⟨b, e, r⟩ => ⟨b, h.nm _ _ e, r⟩

theorem C.rel_mono {ρ ρ' : Ren} (h : ρ.le ρ') (c : C) (x : Value) (r : c.rel ρ x) : c.rel ρ' x := by
  cases c <;> simp only [C.rel] at r ⊢ <;> try exact r
  · exact PtrRel.mono h _ _ r
  · obtain ⟨b, e, r⟩ := r; exact ⟨b, h.nm _ _ e, r⟩
  · obtain ⟨b, e, r⟩ := r; exact ⟨b, h.nm _ _ e, r⟩
  · obtain ⟨xs, e, r⟩ := r; exact ⟨xs, f2_imp (PtrRel.mono h) e, r⟩
  · exact D.rel_mono h.κ _ _ r
  · obtain ⟨a, h1, h2, h3⟩ := r
    exact ⟨a, h1, h2, fun j hj => by obtain ⟨y, hy, hr⟩ := h3 j hj; exact ⟨y, h.κ _ _ _ hy, D.rel_mono h.κ _ _ hr⟩⟩
  · exact PtrRel.mono h _ _ r
  · exact ⟨h.cl ▸ r.1, r.2⟩

theorem A.rel_mono {ρ ρ' : Ren} (h : ρ.le ρ') (c : A) (x : Value) (r : c.rel ρ x) : c.rel ρ' x := by
  cases c with
  | c y => exact C.rel_mono h y x r
  | agg cs => obtain ⟨xs, e, r⟩ := r; exact ⟨xs, f2_imp (C.rel_mono h) e, r⟩

theorem V.rel_mono {ρ ρ' : Ren} (h : ρ.le ρ') (c : V) (x : Value) (r : c.rel ρ x) : c.rel ρ' x := by
  cases c with
  | a y => exact A.rel_mono h y x r
  | tup cs => obtain ⟨xs, e, r⟩ := r; exact ⟨xs, f2_imp (A.rel_mono h) e, r⟩

/-- A related cell is one cell. -/
theorem C.rel_cells {ρ : Ren} {c : C} {x : Value} (r : c.rel ρ x) : x.cells = #[x] := by
  cases c <;> simp only [C.rel, PtrRel] at r
  case op v => obtain ⟨rfl, h, _⟩ := r; exact h
  case ptr => obtain ⟨b, _, rfl⟩ := r; rfl
  case sl => obtain ⟨b, _, rfl⟩ := r; rfl
  case gsl => obtain ⟨b, _, rfl⟩ := r; rfl
  case fn => obtain ⟨b, _, rfl⟩ := r; rfl
  case im => exact D.rel_cells r
  case ip => obtain ⟨a, rfl, _⟩ := r; rfl
  case ep => obtain ⟨b, _, rfl⟩ := r; rfl
  case clo => obtain ⟨_, f, caps, rfl⟩ := r; rfl
  all_goals (subst r; rfl)

theorem C.rel_noAgg {ρ : Ren} {c : C} {x : Value} (r : c.rel ρ x) : (∀ cs, x ≠ .agg cs) ∧ (∀ cs, x ≠ .tuple cs) := by
  cases c <;> simp only [C.rel, PtrRel] at r
  case op v => obtain ⟨rfl, _, h⟩ := r; exact h
  case ptr => obtain ⟨b, _, rfl⟩ := r; simp
  case sl => obtain ⟨b, _, rfl⟩ := r; simp
  case gsl => obtain ⟨b, _, rfl⟩ := r; simp
  case fn => obtain ⟨b, _, rfl⟩ := r; simp
  case im => exact D.rel_noAgg r
  case ip => obtain ⟨a, rfl, _⟩ := r; simp
  case ep => obtain ⟨b, _, rfl⟩ := r; simp
  case clo => obtain ⟨_, f, caps, rfl⟩ := r; simp
  all_goals (subst r; simp)

/-- A block of the call's own: known whole; a row of elements of which so many are known, its own or laid to rest; forgotten. -/
inductive Blk where
  | known (e : TypeId) (cs : List C)
  | row (e : TypeId) (st len : Nat) (F : Nat → Nat → D)
  | fz (st len : Nat) (F : Nat → Nat → D)
  | dead

/-- Whether the block may be written into. -/
def Blk.own : Blk → Bool
  | .fz .. => false
  | .dead => false
  | _ => true

def Blk.cell : Blk → Nat → Option C
  | .known _ cs, o => cs[o]?
  | _, _ => none

def Blk.rel (ρ : Ren) (b : Nat × Nat) (w : World) : Blk → Prop
  | .known e cs => ∃ xs : List Value, F2 (C.rel ρ) cs xs ∧ w.heap[b.1]? = some (.cells xs.toArray e (0, 0))
  | .row e st len F => ∃ xs : List Value, w.heap[b.1]? = some (.cells xs.toArray e (0, 0)) ∧ xs.length = b.2 * st ∧ len ≤ b.2 ∧ b.2 ≤ maxLen ∧ ∀ i j, i < len → j < st → ∃ y, xs[i * st + j]? = some y ∧ (F i j).rel ρ.κ y
  | .fz st len F => len ≤ b.2 ∧ ∀ i j, i < len → j < st → ∃ y, ρ.κ b.1 (i * st + j) = some y ∧ (F i j).rel ρ.κ y
  | .dead => True

theorem f2_get {α β : Type} {R : α → β → Prop} : ∀ {l : List α} {k : List β}, F2 R l k → ∀ {i : Nat} {a : α}, l[i]? = some a → ∃ b, k[i]? = some b ∧ R a b
  | _, _, .nil, i, a, h => by simp at h
  | _, _, .cons (a := a₀) (b := b₀) x xs, 0, a, h => by simp at h; subst h; exact ⟨b₀, rfl, x⟩
  | _, _, .cons x xs, i + 1, a, h => by simp at h; simpa using f2_get xs h

theorem f2_len {α β : Type} {R : α → β → Prop} : ∀ {l : List α} {k : List β}, F2 R l k → l.length = k.length
  | _, _, .nil => rfl
  | _, _, .cons _ xs => by simp [f2_len xs]

theorem f2_set {α β : Type} {R : α → β → Prop} {a : α} {b : β} (h : R a b) : ∀ {l : List α} {k : List β}, F2 R l k → ∀ i, F2 R (l.set i a) (k.set i b)
  | _, _, .nil, i => .nil
  | _, _, .cons x xs, 0 => .cons h xs
  | _, _, .cons x xs, i + 1 => .cons x (f2_set h xs i)

theorem Blk.rel_cell {ρ : Ren} {b : Nat × Nat} {w : World} {k : Blk} (h : k.rel ρ b w) {o : Nat} {c : C} (hc : k.cell o = some c) : ∃ x, c.rel ρ x ∧ w.cell? ⟨b.1, o, none⟩ = some x := by
  cases k with
  | known e cs =>
    obtain ⟨xs, hf, hh⟩ := h
    obtain ⟨x, hx, hr⟩ := f2_get hf hc
    exact ⟨x, hr, by simp [World.cell?, hh, hx]⟩
  | row => simp [Blk.cell] at hc
  | fz => simp [Blk.cell] at hc
  | dead => simp [Blk.cell] at hc

theorem Blk.rel_mono {ρ ρ' : Ren} (hρ : ρ.le ρ') {b : Nat × Nat} {w w' : World} {k : Blk} (hw : w'.heap[b.1]? = w.heap[b.1]?) (h : k.rel ρ b w) : k.rel ρ' b w' := by
  cases k with
  | known e cs =>
    obtain ⟨xs, hf, hh⟩ := h
    exact ⟨xs, f2_imp (C.rel_mono hρ) hf, by rw [hw]; exact hh⟩
  | row e st len F =>
    obtain ⟨xs, hh, h1, h2, h3, h4⟩ := h
    refine ⟨xs, by rw [hw]; exact hh, h1, h2, h3, fun i j hi hj => ?_⟩
    obtain ⟨y, hy, hr⟩ := h4 i j hi hj
    exact ⟨y, hy, D.rel_mono hρ.κ _ _ hr⟩
  | fz st len F =>
    refine ⟨h.1, fun i j hi hj => ?_⟩
    obtain ⟨y, hy, hr⟩ := h.2 i j hi hj
    exact ⟨y, hρ.κ _ _ _ hy, D.rel_mono hρ.κ _ _ hr⟩
  | dead => trivial

theorem Blk.own_cells {ρ : Ren} {b : Nat × Nat} {w : World} {k : Blk} (ho : k.own = true) (h : k.rel ρ b w) : ∃ xs e, w.heap[b.1]? = some (.cells xs e (0, 0)) := by
  cases k with
  | known e cs => obtain ⟨xs, _, hh⟩ := h; exact ⟨_, _, hh⟩
  | row e st len F => obtain ⟨xs, hh, _⟩ := h; exact ⟨_, _, hh⟩
  | _ => cases ho

/-- What is not its own rests on no block's content. -/
theorem Blk.rel_mono' {ρ ρ' : Ren} (hρ : ρ.le ρ') {b : Nat × Nat} {w w' : World} {k : Blk} (hk : k.own = false) (h : k.rel ρ b w) : k.rel ρ' b w' := by
  cases k with
  | fz st len F =>
    refine ⟨h.1, fun i j hi hj => ?_⟩
    obtain ⟨y, hy, hr⟩ := h.2 i j hi hj
    exact ⟨y, hρ.κ _ _ _ hy, D.rel_mono hρ.κ _ _ hr⟩
  | dead => trivial
  | _ => simp [Blk.own] at hk

def upd {α : Type} (f : Nat → α) (k : Nat) (v : α) : Nat → α := fun x => match Nat.beq x k with | true => v | false => f x
theorem upd_same {α : Type} (f : Nat → α) (k : Nat) (v : α) : upd f k v k = v := by simp [upd]
theorem upd_ne {α : Type} (f : Nat → α) {k x : Nat} (v : α) (h : x ≠ k) : upd f k v x = f x := by
  have : Nat.beq x k = false := by cases hb : Nat.beq x k; rfl; exact absurd (Nat.eq_of_beq_eq_true hb) h
  simp [upd, this]
theorem upd_comm {α : Type} (f : Nat → α) {j k : Nat} (u v : α) (h : j ≠ k) : upd (upd f j u) k v = upd (upd f k v) j u := by
  funext x
  by_cases h1 : x = j
  · subst h1; rw [upd_same, upd_ne _ _ h, upd_same]
  · by_cases h2 : x = k
    · subst h2; rw [upd_same, upd_ne _ _ h1, upd_same]
    · rw [upd_ne _ _ h2, upd_ne _ _ h1, upd_ne _ _ h1, upd_ne _ _ h2]

/-- The abstract state: what is known of the slots and of the named blocks. -/
structure S where
  tm : Nat → Option V
  hp : Nat → Option Blk

/-- What lies still lies so in this world. -/
def Lies (κ : Still) (w : World) : Prop := ∀ b o v, κ b o = some v → b < w.heap.size ∧ w.cell? ⟨b, o, none⟩ = some v

/-- The marks of loops over functions among the deferred calls. -/
def Marks (w0 : World) (l : List Deferred) (w : World) : Prop :=
  ∃ Ds : List Nat, l = Ds.map (fun D => { target := .collected D, args := #[] }) ∧ Ds.Nodup ∧ ∀ D, D ∈ Ds → w0.heap.size ≤ D ∧ w.heap[D]? = some (.deferred (some []))
theorem Marks.mono {w0 w w' : World} {l : List Deferred} (h : Marks w0 l w) (hw : ∀ D : Nat, w.heap[D]? = some (Obj.deferred (some [])) → w'.heap[D]? = w.heap[D]?) : Marks w0 l w' := by
  obtain ⟨Ds, h1, h2, h3⟩ := h
  exact ⟨Ds, h1, h2, fun D hD => ⟨(h3 D hD).1, (hw D (h3 D hD).2).trans (h3 D hD).2⟩⟩

/-- How the abstract state stands to a frame and a world. w0, B: the world and its size when the function began; all names are of blocks that the call has made. -/
structure Rel (w0 : World) (N : Nat) (ρ : Ren) (s : S) (a : Act) (w : World) : Prop where
  sz : a.tmps.size = N
  bel : Below w0.heap.size w0 w
  df : Marks w0 a.defers w
  tm : ∀ t v, s.tm t = some v → t < N ∧ v.rel ρ (a.tmps.getD t undef)
  dom : ∀ m, s.hp m = none → ρ m = none
  hp : ∀ m k, s.hp m = some k → ∃ b, ρ m = some b ∧ b.1 < w.heap.size ∧ k.rel ρ b w ∧ w0.heap.size ≤ b.1
  inj : ∀ m m' k k' b b', s.hp m = some k → s.hp m' = some k' → k.own = true → k'.own = true → ρ m = some b → ρ m' = some b' → m ≠ m' → b.1 ≠ b'.1
  im : Lies ρ.κ w
  dis : ∀ m k b o, s.hp m = some k → k.own = true → ρ m = some b → ρ.κ b.1 o = none
  old : ∀ b o v, ρ.κ b o = some v → b < w0.heap.size → ρ.k0 b o = some v

/-- What one operation does. -/
structure Eff where
  val : Option V
  nw : List Blk
  wr : List (Nat × Blk)

def addNews (c : Nat) : List Blk → (Nat → Option Blk) → Nat → Option Blk
  | [], h => h
  | b :: bs, h => addNews (c + 1) bs (upd h c (some b))
def wrs : List (Nat × Blk) → (Nat → Option Blk) → Nat → Option Blk
  | [], h => h
  | (m, b) :: l, h => wrs l (upd h m (some b))

def act (dst : Option Tmp) (c : Nat) (e : Eff) (s : S) : S :=
  { tm := match dst with | some d => upd s.tm d e.val | none => s.tm
    hp := addNews c e.nw (wrs e.wr s.hp) }

theorem addNews_out {c m : Nat} : ∀ {bs : List Blk} {h : Nat → Option Blk}, (m < c ∨ c + bs.length ≤ m) → addNews c bs h m = h m := by
  intro bs
  induction bs generalizing c with
  | nil => intro h _; rfl
  | cons b bs ih =>
    intro h hm
    simp only [addNews, List.length_cons] at hm ⊢
    rw [ih (by omega), upd_ne _ _ (by omega)]

theorem addNews_in {c : Nat} : ∀ {bs : List Blk} {h : Nat → Option Blk} {i : Nat}, i < bs.length → addNews c bs h (c + i) = bs[i]? := by
  intro bs
  induction bs generalizing c with
  | nil => intro h i hi; simp at hi
  | cons b bs ih =>
    intro h i hi
    cases i with
    | zero => simp only [addNews]; rw [addNews_out (.inl (by omega))]; simp [upd_same]
    | succ i =>
      have := ih (c := c + 1) (h := upd h c (some b)) (i := i) (by simpa using hi)
      simp only [addNews]
      rw [show c + (i + 1) = c + 1 + i by omega, this]; simp

theorem wrs_out {m : Nat} : ∀ {l : List (Nat × Blk)} {h : Nat → Option Blk}, (∀ p, p ∈ l → p.1 ≠ m) → wrs l h m = h m := by
  intro l
  induction l with
  | nil => intro h _; rfl
  | cons p l ih =>
    intro h hm
    obtain ⟨m', b⟩ := p
    simp only [wrs]
    rw [ih fun q hq => hm q (List.mem_cons_of_mem _ hq), upd_ne _ _ (fun e => hm (m', b) (List.mem_cons_self ..) e.symm)]
/-- Where something is written, it is one of the list's. -/
theorem wrs_in {m : Nat} : ∀ {l : List (Nat × Blk)} {h : Nat → Option Blk}, (∃ p, p ∈ l ∧ p.1 = m) → ∃ k, (m, k) ∈ l ∧ ∀ h', wrs l h' m = some k := by
  intro l
  induction l with
  | nil => intro h ⟨p, hp, _⟩; cases hp
  | cons p l ih =>
    intro h hm
    obtain ⟨m', b⟩ := p
    by_cases e : ∃ p, p ∈ l ∧ p.1 = m
    · obtain ⟨k, h1, h2⟩ := ih (h := h) e
      exact ⟨k, List.mem_cons_of_mem _ h1, fun h' => by simp only [wrs]; exact h2 _⟩
    · have hm' : m' = m := by
        obtain ⟨q, hq, hqm⟩ := hm
        rcases List.mem_cons.1 hq with rfl | hq
        · exact hqm
        · exact absurd ⟨q, hq, hqm⟩ e
      subst hm'
      refine ⟨b, List.mem_cons_self .., fun h' => ?_⟩
      simp only [wrs]
      rw [wrs_out fun q hq he => e ⟨q, hq, he⟩, upd_same]

theorem put_getD (a : Act) (dst : Option Tmp) (v : Value) (t : Nat) (ht : t < a.tmps.size) :
    (a.put dst v).tmps.getD t undef = if dst = some t then v else a.tmps.getD t undef := by
  cases dst with
  | none => simp [Act.put]
  | some d =>
    simp only [Act.put, Array.getD_eq_getD_getElem?, Array.getElem?_setIfInBounds]
    by_cases h : d = t
    · subst h; simp [ht]
    · have : ¬ (some d = some t) := by simpa using h
      simp [h]

theorem put_size (a : Act) (dst : Option Tmp) (v : Value) : (a.put dst v).tmps.size = a.tmps.size := by
  cases dst <;> simp [Act.put]
theorem put_defers (a : Act) (dst : Option Tmp) (v : Value) : (a.put dst v).defers = a.defers := by
  cases dst <;> simp [Act.put]

/-- Slots behind one operation. -/
theorem Rel.tm_put {w0 : World} {N : Nat} {ρ ρ' : Ren} {s : S} {a : Act} {w : World} (h : Rel w0 N ρ s a w) (hρ : ρ.le ρ') {dst : Option Tmp} {val : Option V} {x : Value}
    (hd : ∀ d, dst = some d → d < N) (hv : ∀ v, dst ≠ none → val = some v → v.rel ρ' x) :
    ∀ t v, (match dst with | some d => upd s.tm d val | none => s.tm) t = some v → t < N ∧ v.rel ρ' ((a.put dst x).tmps.getD t undef) := by
  intro t v ht
  cases dst with
  | none => obtain ⟨h1, h2⟩ := h.tm t v ht; exact ⟨h1, V.rel_mono hρ _ _ h2⟩
  | some d =>
    by_cases e : t = d
    · subst e
      have hlt := hd t rfl
      simp only [upd_same] at ht
      refine ⟨hlt, ?_⟩
      rw [put_getD _ _ _ _ (by rw [h.sz]; exact hlt), if_pos rfl]
      exact hv v (by simp) ht
    · simp only [upd_ne _ _ e] at ht
      obtain ⟨h1, h2⟩ := h.tm t v ht
      refine ⟨h1, ?_⟩
      rw [put_getD _ _ _ _ (by rw [h.sz]; exact h1), if_neg (by simpa using fun h => e h.symm)]
      exact V.rel_mono hρ _ _ h2

/-- The blocks that an operation writes. -/
def wblk (ρ : Ren) (wr : List (Nat × Blk)) (i : Nat) : Prop := ∃ p b, p ∈ wr ∧ ρ p.1 = some b ∧ b.1 = i

/-- ONE STEP: new blocks (or, with new names, old ones that their old names lose), blocks of the call's own that are written, data that is laid to rest. -/
theorem Rel.step {w0 : World} {N : Nat} {ρ ρ' : Ren} {s : S} {a : Act} {w w' : World} (h : Rel w0 N ρ s a w) {dst : Option Tmp} {c : Nat} {e : Eff} {x : Value}
    (hd : ∀ d, dst = some d → d < N) (hρ : ρ.le ρ')
    (ho : w'.os = w.os) (ht : w'.tape = w.tape) (hu : w'.output = w.output) (hsz : w.heap.size ≤ w'.heap.size)
    (hframe : ∀ i, i < w.heap.size → ¬ wblk ρ e.wr i → w'.heap[i]? = w.heap[i]?)
    (hnew : ∀ m, ρ m = none → (m < c ∨ c + e.nw.length ≤ m) → ρ' m = none)
    (hfresh : ∀ i, i < e.nw.length → s.hp (c + i) = none)
    (hv : ∀ v, dst ≠ none → e.val = some v → v.rel ρ' x)
    (hwr : ∀ p, p ∈ e.wr → (∃ k, s.hp p.1 = some k ∧ k.own = true) ∧ ∀ b, ρ p.1 = some b → p.2.rel ρ' b w')
    (hk : ∀ i k, e.nw[i]? = some k → ∃ b, ρ' (c + i) = some b ∧ b.1 < w'.heap.size ∧ k.rel ρ' b w' ∧
      (w.heap.size ≤ b.1 ∨ ∃ p b0, p ∈ e.wr ∧ ρ p.1 = some b0 ∧ b.1 = b0.1 ∧ ∀ q, q ∈ e.wr → q.1 = p.1 → q.2.own = false))
    (hi : ∀ i j b b', i < e.nw.length → j < e.nw.length → i ≠ j → ρ' (c + i) = some b → ρ' (c + j) = some b' → b.1 ≠ b'.1)
    (hκ : ∀ b o v, ρ'.κ b o = some v → ρ.κ b o = some v ∨ ((w.heap.size ≤ b ∨ ∃ p b0, p ∈ e.wr ∧ ρ p.1 = some b0 ∧ b = b0.1 ∧ ∀ q, q ∈ e.wr → q.1 = p.1 → q.2.own = false) ∧
      b < w'.heap.size ∧ w'.cell? ⟨b, o, none⟩ = some v ∧ ∀ i k b', e.nw[i]? = some k → k.own = true → ρ' (c + i) = some b' → b'.1 ≠ b)) :
    Rel w0 N ρ' (act dst c e s) (a.put dst x) w' := by
  have hwb : ∀ i, wblk ρ e.wr i → w0.heap.size ≤ i := by
    rintro i ⟨p, b, hp, hb, rfl⟩
    obtain ⟨⟨k, h2, _⟩, _⟩ := hwr p hp
    obtain ⟨b2, g1, g2, g3, g4⟩ := h.hp _ _ h2
    rw [hb] at g1; cases g1
    exact g4
  -- an old own block that is none of those written
  have apart : ∀ m k b i, s.hp m = some k → k.own = true → ρ m = some b → (∀ p, p ∈ e.wr → p.1 ≠ m) → wblk ρ e.wr i → b.1 ≠ i := by
    rintro m k b i hm hk0 hb hno ⟨p, b2, hp, hb2, rfl⟩
    obtain ⟨⟨k2, h2, h3⟩, _⟩ := hwr p hp
    exact h.inj m p.1 k k2 b b2 hm h2 hk0 h3 hb hb2 (fun e => hno p hp e.symm)
  have old : ∀ m b, ρ' m = some b → (m < c ∨ c + e.nw.length ≤ m) → ρ m = some b := by
    intro m b hm hin
    cases hr : ρ m with
    | none => rw [hnew m hr hin] at hm; cases hm
    | some b' => rw [hρ.nm _ _ hr] at hm; exact hm
  have isold : ∀ m b, ρ m = some b → b.1 < w.heap.size := by
    intro m b hm
    cases hr : s.hp m with
    | none => rw [h.dom m hr] at hm; cases hm
    | some k => obtain ⟨b', h1, h2, _⟩ := h.hp m k hr; rw [hm] at h1; cases h1; exact h2
  have hpout : ∀ m, (m < c ∨ c + e.nw.length ≤ m) → (act dst c e s).hp m = wrs e.wr s.hp m := fun m hin => by simp only [act]; exact addNews_out hin
  have hpin : ∀ m, ¬ (m < c ∨ c + e.nw.length ≤ m) → (act dst c e s).hp m = e.nw[m - c]? := fun m hin => by
    simp only [act]
    have := addNews_in (c := c) (bs := e.nw) (h := wrs e.wr s.hp) (i := m - c) (by omega)
    rw [show c + (m - c) = m by omega] at this
    exact this
  -- what an own block of the new state is
  have kinds : ∀ m k b, (act dst c e s).hp m = some k → k.own = true → ρ' m = some b →
      (ρ m = some b ∧ (m < c ∨ c + e.nw.length ≤ m) ∧ (∃ k0, s.hp m = some k0 ∧ k0.own = true) ∧ (∀ p, p ∈ e.wr → p.1 = m → ∃ q, q ∈ e.wr ∧ q.1 = m ∧ q.2.own = true)) ∨
      (¬ (m < c ∨ c + e.nw.length ≤ m) ∧ e.nw[m - c]? = some k) := by
    intro m k b hm hk0 hb
    by_cases hin : m < c ∨ c + e.nw.length ≤ m
    · rw [hpout m hin] at hm
      by_cases hw : ∃ p, p ∈ e.wr ∧ p.1 = m
      · obtain ⟨k2, h1, h2⟩ := wrs_in (h := s.hp) hw
        rw [h2] at hm; cases hm
        obtain ⟨hold, _⟩ := hwr _ h1
        exact .inl ⟨old m b hb hin, hin, hold, fun p hp hpm => ⟨_, h1, rfl, hk0⟩⟩
      · rw [wrs_out fun p hp e => hw ⟨p, hp, e⟩] at hm
        exact .inl ⟨old m b hb hin, hin, ⟨k, hm, hk0⟩, fun p hp hpm => absurd ⟨p, hp, hpm⟩ hw⟩
    · rw [hpin m hin] at hm
      exact .inr ⟨hin, hm⟩
  constructor
  · rw [put_size]; exact h.sz
  · refine h.bel.trans ⟨ho, ht, hu, hsz, fun i hi0 => hframe i (Nat.lt_of_lt_of_le hi0 h.bel.size) fun hw => ?_⟩
    have := hwb i hw; omega
  · rw [put_defers]
    refine h.df.mono fun D h3 => ?_
    have hlt : D < w.heap.size := (Array.getElem?_eq_some_iff.1 h3).1
    refine hframe D hlt ?_
    rintro ⟨p, b, hp, hb, rfl⟩
    obtain ⟨⟨k, g1, g2⟩, _⟩ := hwr p hp
    obtain ⟨b2, i1, _, i3, _⟩ := h.hp _ _ g1
    rw [hb] at i1; cases i1
    obtain ⟨xs, e, hx⟩ := Blk.own_cells g2 i3
    rw [h3] at hx; cases hx
  · exact h.tm_put hρ hd hv
  · intro m hm
    by_cases hin : m < c ∨ c + e.nw.length ≤ m
    · rw [hpout m hin] at hm
      by_cases hw : ∃ p, p ∈ e.wr ∧ p.1 = m
      · obtain ⟨k2, _, h2⟩ := wrs_in (h := s.hp) hw
        rw [h2] at hm; cases hm
      · rw [wrs_out fun p hp e => hw ⟨p, hp, e⟩] at hm
        exact hnew m (h.dom m hm) hin
    · exfalso
      rw [hpin m hin] at hm
      rw [List.getElem?_eq_none_iff] at hm
      omega
  · intro m k hm
    by_cases hin : m < c ∨ c + e.nw.length ≤ m
    · rw [hpout m hin] at hm
      by_cases hw : ∃ p, p ∈ e.wr ∧ p.1 = m
      · obtain ⟨k2, h1, h2⟩ := wrs_in (h := s.hp) hw
        rw [h2] at hm; cases hm
        obtain ⟨⟨k0, hk0, _⟩, hrel⟩ := hwr _ h1
        obtain ⟨b, g1, g2, g3, g4⟩ := h.hp _ _ hk0
        exact ⟨b, hρ.nm _ _ g1, Nat.lt_of_lt_of_le g2 hsz, hrel b g1, g4⟩
      · rw [wrs_out fun p hp e => hw ⟨p, hp, e⟩] at hm
        obtain ⟨b, g1, g2, g3, g4⟩ := h.hp m k hm
        refine ⟨b, hρ.nm _ _ g1, Nat.lt_of_lt_of_le g2 hsz, ?_, g4⟩
        cases hown : k.own with
        | false => exact Blk.rel_mono' hρ hown g3
        | true =>
          refine Blk.rel_mono hρ (hframe _ g2 fun hwb' => ?_) g3
          exact apart m k b _ hm hown g1 (fun p hp e => hw ⟨p, hp, e⟩) hwb' rfl
    · rw [hpin m hin] at hm
      obtain ⟨b, g1, g2, g3, g4⟩ := hk (m - c) k hm
      rw [show c + (m - c) = m by omega] at g1
      refine ⟨b, g1, g2, g3, ?_⟩
      rcases g4 with g4 | ⟨p, b0, hp, hb0, hbb, _⟩
      · exact Nat.le_trans h.bel.size g4
      · rw [hbb]; exact hwb _ ⟨p, b0, hp, hb0, rfl⟩
  · intro m m' k k' b b' hm hm' ok ok' hb hb' hne
    -- a new one against an old one
    have mixed : ∀ m m' k b b', (ρ m = some b ∧ (m < c ∨ c + e.nw.length ≤ m) ∧ (∃ k0, s.hp m = some k0 ∧ k0.own = true) ∧ (∀ p, p ∈ e.wr → p.1 = m → ∃ q, q ∈ e.wr ∧ q.1 = m ∧ q.2.own = true)) →
        (¬ (m' < c ∨ c + e.nw.length ≤ m') ∧ e.nw[m' - c]? = some k) → ρ' m' = some b' → b.1 ≠ b'.1 := by
      intro m m' k b b' ⟨h1, h2, ⟨k0, h3, h3'⟩, h4⟩ ⟨i1, i2⟩ hb'
      obtain ⟨b2, g1, g2, g3, g4⟩ := hk (m' - c) k i2
      rw [show c + (m' - c) = m' by omega, hb'] at g1; cases g1
      rcases g4 with g4 | ⟨p, b0, hp, hb0, hbb, hall⟩
      · have := isold _ _ h1; omega
      · rw [hbb]
        obtain ⟨⟨k2, j2, j3⟩, _⟩ := hwr p hp
        by_cases e1 : m = p.1
        · obtain ⟨q, hq, hqm, hqo⟩ := h4 p hp e1.symm
          have := hall q hq (by rw [hqm, e1])
          rw [hqo] at this; cases this
        · exact h.inj m p.1 k0 k2 b b0 h3 j2 h3' j3 h1 hb0 e1
    rcases kinds m k b hm ok hb with o1 | o1 <;> rcases kinds m' k' b' hm' ok' hb' with o2 | o2
    · obtain ⟨h1, h2, ⟨k0, h3, h3'⟩, _⟩ := o1
      obtain ⟨i1, i2, ⟨j0, i3, i3'⟩, _⟩ := o2
      exact h.inj m m' k0 j0 b b' h3 i3 h3' i3' h1 i1 hne
    · exact mixed m m' k' b b' o1 o2 hb'
    · exact (mixed m' m k b' b o2 o1 hb).symm
    · have e1 : c + (m - c) = m := by have := o1.1; omega
      have e2 : c + (m' - c) = m' := by have := o2.1; omega
      exact hi (m - c) (m' - c) b b' (by have := o1.1; omega) (by have := o2.1; omega) (by omega) (by rw [e1]; exact hb) (by rw [e2]; exact hb')
  · intro b o v hbo
    rcases hκ b o v hbo with hbo | ⟨_, h2, h3, _⟩
    · obtain ⟨g1, g2⟩ := h.im b o v hbo
      refine ⟨Nat.lt_of_lt_of_le g1 hsz, ?_⟩
      refine (World.cell?_of_block (w := w) (hframe b g1 ?_)).trans g2
      rintro ⟨p, b2, hp, hb2, rfl⟩
      obtain ⟨⟨k2, j2, j3⟩, _⟩ := hwr p hp
      rw [h.dis p.1 k2 b2 o j2 j3 hb2] at hbo; cases hbo
    · exact ⟨h2, h3⟩
  · intro m k b o hm ok hb
    cases hko : ρ'.κ b.1 o with
    | none => rfl
    | some v =>
      exfalso
      rcases kinds m k b hm ok hb with ⟨h1, h2, ⟨k0, h3, h3'⟩, h4⟩ | ⟨i1, i2⟩
      · rcases hκ _ _ _ hko with hbo | ⟨hor, _⟩
        · rw [h.dis m k0 b o h3 h3' h1] at hbo; cases hbo
        · rcases hor with hge | ⟨p, b0, hp, hb0, hbb, hall⟩
          · have := isold _ _ h1; omega
          · obtain ⟨⟨k2, j2, j3⟩, _⟩ := hwr p hp
            by_cases e1 : m = p.1
            · obtain ⟨q, hq, hqm, hqo⟩ := h4 p hp e1.symm
              have := hall q hq (by rw [hqm, e1])
              rw [hqo] at this; cases this
            · exact h.inj m p.1 k0 k2 b b0 h3 j2 h3' j3 h1 hb0 e1 hbb
      · have e1 : c + (m - c) = m := by omega
        rcases hκ _ _ _ hko with hbo | ⟨_, _, _, hne⟩
        · obtain ⟨b2, g1, g2, g3, g4⟩ := hk (m - c) k i2
          rw [e1, hb] at g1; cases g1
          rcases g4 with g4 | ⟨p, b0, hp, hb0, hbb, hall⟩
          · have := (h.im _ _ _ hbo).1; omega
          · obtain ⟨⟨k2, j2, j3⟩, _⟩ := hwr p hp
            rw [hbb, h.dis p.1 k2 b0 o j2 j3 hb0] at hbo; cases hbo
        · exact hne (m - c) k b i2 ok (by rw [e1]; exact hb) rfl
  · intro b o v hv hlt
    rw [hρ.k0]
    rcases hκ b o v hv with h1 | ⟨h1, _⟩
    · exact h.old b o v h1 hlt
    · exfalso
      rcases h1 with h1 | ⟨p, b0, hp, hb0, rfl, _⟩
      · have := h.bel.size; omega
      · have := hwb b0.1 ⟨p, b0, hp, hb0, rfl⟩; omega

end Go.V
end

section
/- The second engine, part 2: the operations of a region in whatever order: one state for each set of operations that have run. -/
namespace Go.V

/-- What is recorded of an operation in the text's order: the first new name, what it did (none: its guard said no), the names that it read. -/
structure Rec where
  c : Nat
  e : Option Eff
  rd : List Nat

def skip (dst : Option Tmp) (s : S) : S := { s with tm := match dst with | some d => upd s.tm d none | none => s.tm }
def doit (dst : Option Tmp) (r : Rec) (s : S) : S := match r.e with | some e => act dst r.c e s | none => skip dst s

/-- Names from one on, so many. -/
def names (c : Nat) : Nat → List Nat
  | 0 => []
  | n + 1 => c :: names (c + 1) n
theorem mem_names {c m : Nat} : ∀ {n : Nat}, m ∈ names c n ↔ c ≤ m ∧ m < c + n := by
  intro n
  induction n generalizing c with
  | zero => simp [names]
  | succ n ih => simp only [names, List.mem_cons, ih]; omega

def Rec.touch (r : Rec) : List Nat :=
  match r.e with
  | some e => e.wr.map (·.1) ++ names r.c e.nw.length
  | none => []

abbrev Item := Option Tmp × Rec

def runL (D : Nat → Bool) : List Item → Nat → S → S
  | [], _, s => s
  | x :: l, i, s => runL D l (i + 1) (if D i then doit x.1 x.2 s else s)

theorem doit_tm_ne (x : Item) (s : S) (t : Nat) (h : x.1 ≠ some t) : (doit x.1 x.2 s).tm t = s.tm t := by
  obtain ⟨d, r⟩ := x
  cases d with
  | none => unfold doit; split <;> rfl
  | some d =>
    have hne : t ≠ d := fun e => h (by simp [e])
    unfold doit
    split
    · simp only [act]; exact upd_ne _ _ hne
    · simp only [skip]; exact upd_ne _ _ hne

theorem doit_tm_eq (x : Item) (s s' : S) (t : Nat) (h : x.1 = some t) : (doit x.1 x.2 s).tm t = (doit x.1 x.2 s').tm t := by
  obtain ⟨d, r⟩ := x
  simp only at h; subst h
  unfold doit
  split
  · simp only [act, upd_same]
  · simp only [skip, upd_same]

theorem doit_hp_ne (x : Item) (s : S) (m : Nat) (h : m ∉ x.2.touch) : (doit x.1 x.2 s).hp m = s.hp m := by
  obtain ⟨d, r⟩ := x
  unfold doit
  simp only [Rec.touch] at h
  split
  · rename_i e he
    rw [he] at h
    simp only [List.mem_append, mem_names, not_or] at h
    simp only [act]
    rw [addNews_out (by omega)]
    refine wrs_out fun p hp hpm => h.1 ?_
    rw [← hpm]
    exact List.mem_map_of_mem hp
  · rfl

theorem addNews_congr {m : Nat} : ∀ {bs : List Blk} {c : Nat} {h h' : Nat → Option Blk}, h m = h' m → addNews c bs h m = addNews c bs h' m := by
  intro bs
  induction bs with
  | nil => intro c h h' e; exact e
  | cons b bs ih =>
    intro c h h' e
    simp only [addNews]
    refine ih ?_
    by_cases hm : m = c
    · subst hm; simp [upd_same]
    · simp [upd_ne _ _ hm, e]

theorem doit_hp_eq (x : Item) (s s' : S) (m : Nat) (h : m ∈ x.2.touch) : (doit x.1 x.2 s).hp m = (doit x.1 x.2 s').hp m := by
  obtain ⟨d, r⟩ := x
  unfold doit
  simp only [Rec.touch] at h
  split
  · rename_i e he
    rw [he] at h
    simp only [List.mem_append, mem_names] at h
    simp only [act]
    by_cases hn : r.c ≤ m ∧ m < r.c + e.nw.length
    · have k1 := fun (h : Nat → Option Blk) => addNews_in (c := r.c) (bs := e.nw) (h := h) (i := m - r.c) (by omega)
      rw [show r.c + (m - r.c) = m by omega] at k1
      rw [k1, k1]
    · have hw := h.resolve_right hn
      refine addNews_congr ?_
      obtain ⟨p, hp, hpm⟩ := List.mem_map.1 hw
      obtain ⟨k, _, h2⟩ := wrs_in (h := s.hp) ⟨p, hp, hpm⟩
      rw [h2, h2]
  · rename_i he; rw [he] at h; simp at h

theorem doit_hp_mono (x : Item) (s s' : S) (m : Nat) (h : s.hp m = s'.hp m) : (doit x.1 x.2 s).hp m = (doit x.1 x.2 s').hp m := by
  by_cases hm : m ∈ x.2.touch
  · exact doit_hp_eq x s s' m hm
  · rw [doit_hp_ne x s m hm, doit_hp_ne x s' m hm]; exact h

theorem doit_tm_mono (x : Item) (s s' : S) (t : Nat) (h : s.tm t = s'.tm t) : (doit x.1 x.2 s).tm t = (doit x.1 x.2 s').tm t := by
  by_cases hm : x.1 = some t
  · exact doit_tm_eq x s s' t hm
  · rw [doit_tm_ne x s t hm, doit_tm_ne x s' t hm]; exact h

theorem runL_tm {D D' : Nat → Bool} {t : Nat} : ∀ (l : List Item) (i : Nat) (s s' : S), s.tm t = s'.tm t →
    (∀ k x, l[k]? = some x → x.1 = some t → D (i + k) = D' (i + k)) → (runL D l i s).tm t = (runL D' l i s').tm t := by
  intro l
  induction l with
  | nil => intro i s s' h _; exact h
  | cons x l ih =>
    intro i s s' h hd
    simp only [runL]
    refine ih _ _ _ ?_ (fun k y hk hy => ?_)
    · by_cases ht : x.1 = some t
      · have e := hd 0 x rfl ht
        simp only [Nat.add_zero] at e
        rw [e]; split
        · exact doit_tm_eq x _ _ t ht
        · exact h
      · have a1 : (if D i = true then doit x.1 x.2 s else s).tm t = s.tm t := by split; exact doit_tm_ne x s t ht; rfl
        have a2 : (if D' i = true then doit x.1 x.2 s' else s').tm t = s'.tm t := by split; exact doit_tm_ne x s' t ht; rfl
        rw [a1, a2]; exact h
    · have := hd (k + 1) y (by simpa using hk) hy
      rw [show i + (k + 1) = i + 1 + k by omega] at this; exact this

theorem runL_hp {D D' : Nat → Bool} {m : Nat} : ∀ (l : List Item) (i : Nat) (s s' : S), s.hp m = s'.hp m →
    (∀ k x, l[k]? = some x → m ∈ x.2.touch → D (i + k) = D' (i + k)) → (runL D l i s).hp m = (runL D' l i s').hp m := by
  intro l
  induction l with
  | nil => intro i s s' h _; exact h
  | cons x l ih =>
    intro i s s' h hd
    simp only [runL]
    refine ih _ _ _ ?_ (fun k y hk hy => ?_)
    · by_cases ht : m ∈ x.2.touch
      · have e := hd 0 x rfl ht
        simp only [Nat.add_zero] at e
        rw [e]; split
        · exact doit_hp_eq x _ _ m ht
        · exact h
      · have a1 : (if D i = true then doit x.1 x.2 s else s).hp m = s.hp m := by split; exact doit_hp_ne x s m ht; rfl
        have a2 : (if D' i = true then doit x.1 x.2 s' else s').hp m = s'.hp m := by split; exact doit_hp_ne x s' m ht; rfl
        rw [a1, a2]; exact h
    · have := hd (k + 1) y (by simpa using hk) hy
      rw [show i + (k + 1) = i + 1 + k by omega] at this; exact this

/-- Two operations that touch nothing in common come to one state in either order. -/
theorem doit_comm (x y : Item) (s : S) (h1 : ∀ d, x.1 = some d → y.1 ≠ some d) (h2 : ∀ m, m ∈ x.2.touch → m ∉ y.2.touch) :
    doit x.1 x.2 (doit y.1 y.2 s) = doit y.1 y.2 (doit x.1 x.2 s) := by
  have ext : ∀ a b : S, (∀ t, a.tm t = b.tm t) → (∀ m, a.hp m = b.hp m) → a = b := by
    intro a b ht hm; cases a; cases b; simp only [S.mk.injEq]; exact ⟨funext ht, funext hm⟩
  refine ext _ _ (fun t => ?_) (fun m => ?_)
  · by_cases hx : x.1 = some t
    · rw [doit_tm_ne y _ t (h1 t hx)]
      exact doit_tm_eq x _ _ t hx
    · rw [doit_tm_ne x _ t hx]
      by_cases hy : y.1 = some t
      · exact doit_tm_eq y _ _ t hy
      · rw [doit_tm_ne y _ t hy, doit_tm_ne y _ t hy, doit_tm_ne x _ t hx]
  · by_cases hx : m ∈ x.2.touch
    · rw [doit_hp_ne y _ m (h2 m hx)]
      exact doit_hp_eq x _ _ m hx
    · rw [doit_hp_ne x _ m hx]
      by_cases hy : m ∈ y.2.touch
      · exact doit_hp_eq y _ _ m hy
      · rw [doit_hp_ne y _ m hy, doit_hp_ne y _ m hy, doit_hp_ne x _ m hx]

theorem runL_comm {D : Nat → Bool} (x : Item) : ∀ (l : List Item) (i : Nat) (s : S),
    (∀ k y, l[k]? = some y → D (i + k) = true → ∀ s, doit y.1 y.2 (doit x.1 x.2 s) = doit x.1 x.2 (doit y.1 y.2 s)) →
    runL D l i (doit x.1 x.2 s) = doit x.1 x.2 (runL D l i s) := by
  intro l
  induction l with
  | nil => intro i s _; rfl
  | cons y l ih =>
    intro i s h
    simp only [runL]
    have h0 := h 0 y rfl
    simp only [Nat.add_zero] at h0
    have e : (if D i = true then doit y.1 y.2 (doit x.1 x.2 s) else doit x.1 x.2 s) = doit x.1 x.2 (if D i = true then doit y.1 y.2 s else s) := by
      split
      · rename_i hd; exact h0 hd s
      · rfl
    rw [e]
    exact ih _ _ (fun k z hk hd => h (k + 1) z (by simpa using hk) (by rw [show i + (k + 1) = i + 1 + k by omega]; exact hd))

/-- One operation more. -/
theorem runL_ins {D D' : Nat → Bool} (x : Item) : ∀ (l : List Item) (i j : Nat) (s : S), l[j]? = some x → D (i + j) = false → D' (i + j) = true → (∀ k, k ≠ i + j → D' k = D k) →
    (∀ k y, l[k]? = some y → j < k → D (i + k) = true → ∀ s, doit y.1 y.2 (doit x.1 x.2 s) = doit x.1 x.2 (doit y.1 y.2 s)) →
    runL D' l i s = doit x.1 x.2 (runL D l i s) := by
  intro l
  induction l with
  | nil => intro i j s h; simp at h
  | cons y l ih =>
    intro i j s hj hD hD' hoff hc
    cases j with
    | zero =>
      simp at hj; subst hj
      simp only [Nat.add_zero] at hD hD' hoff
      simp only [runL, hD, hD', if_true, Bool.false_eq_true, if_false]
      have e : ∀ s, runL D' l (i + 1) s = runL D l (i + 1) s := by
        have : ∀ (l : List Item) (k : Nat), i < k → ∀ s, runL D' l k s = runL D l k s := by
          intro l
          induction l with
          | nil => intro k _ s; rfl
          | cons z l ih2 =>
            intro k hk s
            simp only [runL]
            rw [hoff k (by omega)]
            exact ih2 _ (by omega) _
        exact this l (i + 1) (by omega)
      rw [e]
      exact runL_comm y l (i + 1) s (fun k z hk hd => hc (k + 1) z (by simpa using hk) (by omega) (by rw [show i + (k + 1) = i + 1 + k by omega]; exact hd))
    | succ j =>
      simp only [runL]
      rw [hoff i (by omega)]
      refine ih (i + 1) j _ (by simpa using hj) ?_ ?_ ?_ ?_
      · rw [show i + 1 + j = i + (j + 1) by omega]; exact hD
      · rw [show i + 1 + j = i + (j + 1) by omega]; exact hD'
      · intro k hk; exact hoff k (by omega)
      · intro k z hk hjk hd
        exact hc (k + 1) z (by simpa using hk) (by omega) (by rw [show i + (k + 1) = i + 1 + k by omega]; exact hd)

theorem runL_all {D : Nat → Bool} : ∀ (l : List Item) (i : Nat) (s : S), (∀ k, k < l.length → D (i + k) = true) → runL D l i s = runL (fun _ => true) l i s := by
  intro l
  induction l with
  | nil => intro i s _; rfl
  | cons x l ih =>
    intro i s h
    have h0 := h 0 (by simp)
    simp only [Nat.add_zero] at h0
    simp only [runL, h0, if_true]
    exact ih _ _ (fun k hk => by rw [show i + 1 + k = i + (k + 1) by omega]; exact h (k + 1) (by simpa using hk))

/-- Slots that an operation looks at or writes. -/
def opTmps : List Operand → List Nat
  | [] => []
  | .tmp t :: l => t :: opTmps l
  | _ :: l => opTmps l
theorem mem_opTmps {t : Nat} : ∀ {l : List Operand}, Operand.tmp t ∈ l → t ∈ opTmps l
  | [], h => by simp at h
  | x :: l, h => by
    rcases List.mem_cons.1 h with h | h
    · subst h; simp [opTmps]
    · have ih := mem_opTmps h
      cases x <;> simp [opTmps, ih]
def dstOf (ops : Array Oper) (k : Nat) : Option Tmp := (ops[k]?).bind (·.dst)
def uses (ops : Array Oper) (o : Oper) : List Nat :=
  (match o.guard with | some (k, _) => (match dstOf ops k with | some d => [d] | none => []) | none => []) ++ (match o.dst with | some d => [d] | none => []) ++ opTmps o.op.operands.toList

/-- Which operations come before one, as the bits of a number. -/
def maskE (M : List Nat) : List Edge → Nat
  | [] => 0
  | e :: r => match Region.binds .any e with | true => ((1 <<< e.on) ||| M.getD e.on 0) ||| maskE M r | false => maskE M r
def masks : List Oper → List Nat → List Nat
  | [], acc => acc
  | o :: r, acc => masks r (acc ++ [maskE acc o.after.toList])

theorem maskE_bit {M : List Nat} {k : Nat} : ∀ {l : List Edge}, (maskE M l).testBit k = true → ∃ e ∈ l, Region.binds .any e = true ∧ (e.on = k ∨ (M.getD e.on 0).testBit k = true) := by
  intro l
  induction l with
  | nil => intro h; simp [maskE] at h
  | cons e r ih =>
    intro h
    simp only [maskE] at h
    split at h
    · rename_i hb
      simp only [Nat.testBit_or, Bool.or_eq_true] at h
      rcases h with (h | h) | h
      · refine ⟨e, by simp, hb, .inl ?_⟩
        rw [Nat.one_shiftLeft, Nat.testBit_two_pow] at h
        simpa using h
      · exact ⟨e, by simp, hb, .inr h⟩
      · obtain ⟨e', h1, h2⟩ := ih h
        exact ⟨e', by simp [h1], h2⟩
    · obtain ⟨e', h1, h2⟩ := ih h
      exact ⟨e', by simp [h1], h2⟩

/-- Each mask is what its edges say, and edges lead back. -/
def masksOk (M : List Nat) : List Oper → Nat → Bool
  | [], _ => true
  | o :: r, i => Nat.beq (M.getD i 0) (maskE M o.after.toList) && o.after.toList.all (fun e => !Region.binds .any e || Nat.blt e.on i) && masksOk M r (i + 1)

theorem masksOk_at {M : List Nat} : ∀ {l : List Oper} {i k : Nat} {o : Oper}, masksOk M l i = true → l[k]? = some o →
    M.getD (i + k) 0 = maskE M o.after.toList ∧ ∀ e ∈ o.after.toList, Region.binds .any e = true → e.on < i + k := by
  intro l
  induction l with
  | nil => intro i k o _ h; simp at h
  | cons x l ih =>
    intro i k o h hk
    simp only [masksOk, Bool.and_eq_true] at h
    cases k with
    | zero =>
      simp at hk; subst hk
      refine ⟨Nat.eq_of_beq_eq_true h.1.1, fun e he hb => ?_⟩
      have := List.all_eq_true.1 h.1.2 e he
      rw [hb] at this
      simpa [Nat.blt_eq] using this
    | succ k =>
      have := ih h.2 (by simpa using hk)
      rw [show i + (k + 1) = i + 1 + k by omega]; exact this

/-- Whether an operation may disturb another one. -/
def conf (us : List Nat) (x y : Item) : Bool :=
  (match x.1 with | some d => us.elem d | none => false) || x.2.touch.any (fun m => y.2.rd.elem m || y.2.touch.elem m)

def pairsOk (M : List Nat) (X : List Item) (j : Nat) (us : List Nat) (y : Item) : List Item → Nat → Bool
  | [], _ => true
  | x :: l, i => (Nat.beq i j || !conf us x y || (match Nat.blt i j with | true => (M.getD j 0).testBit i | false => (M.getD i 0).testBit j)) && pairsOk M X j us y l (i + 1)
def allPairsOk (ops : Array Oper) (M : List Nat) (X : List Item) : List Oper → List Item → Nat → Bool
  | o :: os, y :: ys, j => pairsOk M X j (uses ops o) y X 0 && allPairsOk ops M X os ys (j + 1)
  | _, _, _ => true

theorem pairsOk_at {M : List Nat} {X : List Item} {j : Nat} {us : List Nat} {y : Item} : ∀ {l : List Item} {i k : Nat} {x : Item}, pairsOk M X j us y l i = true → l[k]? = some x → i + k ≠ j → conf us x y = true →
    (i + k < j → (M.getD j 0).testBit (i + k) = true) ∧ (j < i + k → (M.getD (i + k) 0).testBit j = true) := by
  intro l
  induction l with
  | nil => intro i k x _ h; simp at h
  | cons z l ih =>
    intro i k x h hk hne hc
    simp only [pairsOk, Bool.and_eq_true] at h
    cases k with
    | zero =>
      simp at hk; subst hk
      simp only [Nat.add_zero] at hne ⊢
      have h1 := h.1
      have hb : Nat.beq i j = false := by cases hb : Nat.beq i j; rfl; exact absurd (Nat.eq_of_beq_eq_true hb) hne
      rw [hb, hc] at h1
      simp only [Bool.not_true, Bool.or_self, Bool.false_or] at h1
      constructor
      · intro hlt
        have : Nat.blt i j = true := by rw [Nat.blt_eq]; exact hlt
        rw [this] at h1; exact h1
      · intro hlt
        have : Nat.blt i j = false := by rw [← Bool.not_eq_true, Nat.blt_eq]; omega
        rw [this] at h1; exact h1
    | succ k =>
      have := ih h.2 (by simpa using hk) (by omega) hc
      rw [show i + (k + 1) = i + 1 + k by omega]; exact this

theorem allPairsOk_at {ops : Array Oper} {M : List Nat} {X : List Item} : ∀ {os : List Oper} {ys : List Item} {j k : Nat} {o : Oper} {y : Item}, allPairsOk ops M X os ys j = true → os[k]? = some o → ys[k]? = some y → pairsOk M X (j + k) (uses ops o) y X 0 = true := by
  intro os
  induction os with
  | nil => intro ys j k o y _ h; simp at h
  | cons z os ih =>
    intro ys j k o y h ho hy
    cases ys with
    | nil => simp at hy
    | cons w ys =>
      simp only [allPairsOk, Bool.and_eq_true] at h
      cases k with
      | zero => simp at ho hy; subst ho; subst hy; exact h.1
      | succ k =>
        have := ih h.2 (by simpa using ho) (by simpa using hy)
        rw [show j + (k + 1) = j + 1 + k by omega]; exact this

end Go.V
end

section
/- The second engine, part 3: operations that give a value and leave the world alone. -/
namespace Go.V

/-- Conditions that are owed. -/
def All : List Prop → Prop
  | [] => True
  | p :: l => p ∧ All l
theorem All.append : ∀ {l k : List Prop}, All (l ++ k) ↔ All l ∧ All k
  | [], k => by simp [All]
  | p :: l, k => by simp [All, All.append (l := l), and_assoc]

section
variable (P : Program)

/-- A run of the model's own text where it asks nothing of the world. -/
def pureRun {α : Type} : Sem α → Option α
  | .pure a => some a
  | .program k => pureRun (k P)
  | _ => none

theorem pureRun_run {α : Type} : ∀ (m : Sem α) {x : α} (w : World), pureRun P m = some x → m.run P w = .ok x w := by
  intro m
  induction m with
  | pure a => intro x w h; simp [pureRun] at h; subst h; rfl
  | program k ih => intro x w h; simp only [pureRun] at h; exact ih P w h
  | _ => intro x w h; simp [pureRun] at h
end

/-- A cell without an address, as a value. -/
def C.val : C → Option Value
  | .num k n => some (.int k n)
  | .int k n => some (.int k n)
  | .lit b => some (.bool b)
  | .bool b => some (.bool b)
  | .str s => some (.string s)
  | .nil => some (.pointer none)
  | .nsl => some (.slice none 0 0)
  | .op v => some v
  | _ => none
def valL : List C → Option (List Value)
  | [] => some []
  | c :: l => match c.val, valL l with | some v, some r => some (v :: r) | _, _ => none
def A.val : A → Option Value
  | .c x => x.val
  | .agg cs => match valL cs with | some l => some (.agg l.toArray) | none => none
def V.val : V → Option Value
  | .a x => x.val
  | .tup _ => none

def C.known : C → Bool
  | .int _ _ => false
  | .bool _ => false
  | .op _ => false
  | .str _ => false
  | _ => true
def A.known : A → Bool
  | .c x => x.known
  | .agg cs => cs.all C.known
def V.known : V → Bool
  | .a x => x.known
  | .tup _ => false

theorem C.val_rel {ρ : Ren} {c : C} {v x : Value} (h : c.val = some v) (r : c.rel ρ x) : x = v := by
  cases c <;> simp only [C.val, Option.some.injEq, reduceCtorEq] at h <;> simp only [C.rel] at r
  case op u => rw [r.1, h]
  all_goals (rw [r, h])

theorem valL_rel {ρ : Ren} : ∀ {cs : List C} {l xs : List Value}, valL cs = some l → F2 (C.rel ρ) cs xs → xs = l := by
  intro cs
  induction cs with
  | nil => intro l xs h r; cases r; simp [valL] at h; exact h.symm
  | cons c cs ih =>
    intro l xs h r
    cases r with
    | cons r0 rs =>
      simp only [valL] at h
      split at h
      · rename_i v r' hv hr
        simp at h; subst h
        rw [C.val_rel hv r0, ih hr rs]
      · cases h

theorem A.val_rel {ρ : Ren} {c : A} {v x : Value} (h : c.val = some v) (r : c.rel ρ x) : x = v := by
  cases c with
  | c y => exact C.val_rel h r
  | agg cs =>
    simp only [A.val] at h
    split at h
    · rename_i l hl
      simp at h; subst h
      obtain ⟨xs, hf, rfl⟩ := r
      rw [valL_rel hl hf]
    · cases h

/-- A still cell as a cell, and back. -/
def toC : D → C
  | .int k n => .int k n
  | .bool b => .bool b
  | .str s => .str s
  | .nilp => .nil
  | .op v => .op v
  | .sl q len st F => .im (.sl q len st F)
def toD : C → Option D
  | .num k n => some (.int k n)
  | .int k n => some (.int k n)
  | .lit b => some (.bool b)
  | .bool b => some (.bool b)
  | .str s => some (.str s)
  | .nil => some .nilp
  | .nsl => some (.sl false 0 0 fun _ _ => .nilp)
  | .op v => some (.op v)
  | .im d => some d
  | _ => none
theorem toC_rel {ρ : Ren} {d : D} {x : Value} (h : d.rel ρ.κ x) : (toC d).rel ρ x := by
  cases d <;> exact h
theorem toD_rel {ρ : Ren} {c : C} {d : D} {x : Value} (h : toD c = some d) (r : c.rel ρ x) : d.rel ρ.κ x := by
  cases c <;> simp only [toD, Option.some.injEq, reduceCtorEq] at h <;> subst h <;> try exact r
  exact .inl ⟨rfl, rfl, r⟩
def toDs : List C → Option (List D)
  | [] => some []
  | c :: l => match toD c, toDs l with | some d, some r => some (d :: r) | _, _ => none
theorem toDs_rel {ρ : Ren} : ∀ {cs : List C} {ds : List D} {xs : List Value}, toDs cs = some ds → F2 (C.rel ρ) cs xs → F2 (D.rel ρ.κ) ds xs := by
  intro cs
  induction cs with
  | nil => intro ds xs h r; cases r; simp [toDs] at h; subst h; exact .nil
  | cons c cs ih =>
    intro ds xs h r
    cases r with
    | cons r0 rs =>
      simp only [toDs] at h
      split at h
      · rename_i d r' hd hr
        simp at h; subst h
        exact .cons (toD_rel hd r0) (ih hr rs)
      · cases h

/-- A value as a cell: known, or any term. -/
def ofCell (known : Bool) (v : Value) : Option C :=
  match v with
  | .int k n => some (match known with | true => .num k n | false => .int k n)
  | .bool b => some (match known with | true => .lit b | false => .bool b)
  | .string s => some (.str s)
  | .pointer none => some .nil
  | .slice none 0 0 => some .nsl
  | .agg _ => none
  | .tuple _ => none
  | v => some (.op v)
def ofCells (known : Bool) : List Value → Option (List C)
  | [] => some []
  | v :: l => match ofCell known v, ofCells known l with | some c, some r => some (c :: r) | _, _ => none
def ofVal (known : Bool) (v : Value) : Option A :=
  match v with
  | .agg cs => match ofCells known cs.toList with | some l => some (.agg l) | none => none
  | v => match ofCell known v with | some c => some (.c c) | none => none

theorem ofCell_rel (ρ : Ren) {b : Bool} {v : Value} {c : C} (h : ofCell b v = some c) : c.rel ρ v := by
  unfold ofCell at h
  split at h
  case h_1 => cases b <;> (simp at h; subst h; rfl)
  case h_2 => cases b <;> (simp at h; subst h; rfl)
  case h_3 => simp at h; subst h; rfl
  case h_4 => simp at h; subst h; rfl
  case h_5 => simp at h; subst h; rfl
  case h_6 => cases h
  case h_7 => cases h
  case h_8 =>
    rename_i h7 h8
    simp at h; subst h
    refine ⟨rfl, ?_, fun cs e => h7 cs e, fun cs e => h8 cs e⟩
    cases v <;> first | rfl | (exact absurd rfl (h7 _))

theorem ofCells_rel (ρ : Ren) {b : Bool} : ∀ {l : List Value} {cs : List C}, ofCells b l = some cs → F2 (C.rel ρ) cs l := by
  intro l
  induction l with
  | nil => intro cs h; simp [ofCells] at h; subst h; exact .nil
  | cons v l ih =>
    intro cs h
    simp only [ofCells] at h
    split at h
    · rename_i c r hc hr
      simp at h; subst h
      exact .cons (ofCell_rel ρ hc) (ih hr)
    · cases h

theorem ofVal_rel (ρ : Ren) {b : Bool} {v : Value} {c : A} (h : ofVal b v = some c) : c.rel ρ v := by
  unfold ofVal at h
  split at h
  · rename_i cs
    split at h
    · rename_i l hl
      simp at h; subst h
      exact ⟨cs.toList, ofCells_rel ρ hl, by simp⟩
    · cases h
  · split at h
    · rename_i c' hc
      simp at h; subst h
      exact ofCell_rel ρ hc
    · cases h

/-- Package-level variables that hold data that lies still: of each one its cells. -/
abbrev GT := Nat → Option (Nat × (Nat → D))
/-- What an operand is known to be. -/
def look (G : GT) (s : S) : Operand → Option V
  | .tmp t => s.tm t
  | .const v => (match ofVal true v with | some a => some (.a a) | none => none)
  | .global g => match G g with | some (n, F) => some (.a (.c (.ip n F))) | none => none
  | .func f => some (.a (.c (.fn f [])))

/-- What an operation may use of 'Rel'. -/
structure View (G : GT) (ρ : Ren) (s : S) (a : Act) (w : World) : Prop where
  tm : ∀ t v, s.tm t = some v → v.rel ρ (a.tmps.getD t undef)
  hp : ∀ m k, s.hp m = some k → ∃ b, ρ m = some b ∧ b.1 < w.heap.size ∧ k.rel ρ b w
  im : Lies ρ.κ w
  gl : ∀ g n F, G g = some (n, F) → (C.ip n F).rel ρ (.pointer (some ⟨g, 0, none⟩))

theorem look_rel {G : GT} {ρ : Ren} {s : S} {a : Act} {w : World} (h : View G ρ s a w) {x : Operand} {v : V} (e : look G s x = some v) : v.rel ρ (a.eval x) := by
  cases x with
  | tmp t => exact h.tm t v e
  | const u =>
    simp only [look] at e
    split at e
    · rename_i c hc
      simp at e; subst e
      exact ofVal_rel ρ hc
    · cases e
  | global g =>
    simp only [look] at e
    split at e
    · rename_i n F hg
      simp at e; subst e
      exact h.gl g n F hg
    · cases e
  | func f =>
    simp only [look] at e
    simp at e; subst e
    exact ⟨[], .nil, rfl⟩

/-- The value of an operand without an address. -/
def evalO (G : GT) (s : S) (x : Operand) : Value := match look G s x with | some v => (match v.val with | some u => u | none => undef) | none => undef
def okO (G : GT) (s : S) (x : Operand) : Bool := match look G s x with | some (.a a) => (match a.val with | some _ => true | none => false) | _ => false
def knownO (G : GT) (s : S) (x : Operand) : Bool := match look G s x with | some v => v.known | none => false

theorem evalO_eq {G : GT} {ρ : Ren} {s : S} {a : Act} {w : World} (h : View G ρ s a w) {x : Operand} (ok : okO G s x = true) : evalO G s x = a.eval x := by
  unfold okO at ok
  unfold evalO
  cases hl : look G s x with
  | none => rw [hl] at ok; simp at ok
  | some v =>
    rw [hl] at ok
    cases v with
    | tup xs => simp at ok
    | a y =>
      simp only at ok
      cases hv : y.val with
      | none => rw [hv] at ok; simp at ok
      | some u =>
        have : (V.a y).val = some u := hv
        simp only [this]
        exact (A.val_rel hv (look_rel h hl)).symm

section
variable (P : Program) (G : GT)

/-- An operation on values without addresses, by the model's own text. -/
def effPure (o : Oper) (s : S) : Option V :=
  match o.op.operands.toList.all (okO G s) with
  | true =>
    match pureRun P (execOp (evalO G s) o) with
    | some (.value x) => (match ofVal (o.op.operands.toList.all (knownO G s)) x with | some a => some (.a a) | none => none)
    | _ => none
  | false => none

theorem effPure_sound {ρ : Ren} {s : S} {a : Act} {w : World} (h : View G ρ s a w) {o : Oper} {v : V} (hs : ∀ cs b, o.op ≠ .select cs b) (e : effPure P G o s = some v) :
    ∃ x, (execOp a.eval o).run P w = .ok (.value x) w ∧ v.rel ρ x := by
  unfold effPure at e
  split at e
  · rename_i hok
    split at e
    · rename_i x hx
      split at e
      · rename_i c hc
        simp at e; subst e
        refine ⟨x, ?_, ofVal_rel ρ hc⟩
        rw [← execOp_congr (ρ := evalO G s) o hs (fun y hy => evalO_eq h (List.all_eq_true.1 hok y (by simpa using hy)))]
        exact pureRun_run P _ w hx
      · cases e
    · cases e
  · cases e

/-- A struct's or an array's part. -/
def isAggD : TypeDesc → Bool | .struct _ => true | .array _ _ => true | _ => false
def partA (t : TypeId) (cs : List C) (off : Nat) : Option A :=
  match P.underlying t, P.info? t with
  | some d, some i => (match isAggD d with
    | true => some (.agg ((cs.drop off).take i.size))
    | false => (match cs[off]? with | some c => some (.c c) | none => none))
  | _, _ => none

theorem f2_drop {α β : Type} {R : α → β → Prop} : ∀ {l : List α} {k : List β}, F2 R l k → ∀ n, F2 R (l.drop n) (k.drop n)
  | _, _, .nil, n => by simp; exact .nil
  | _, _, .cons x xs, 0 => .cons x xs
  | _, _, .cons x xs, n + 1 => by simpa using f2_drop xs n
theorem f2_take {α β : Type} {R : α → β → Prop} : ∀ {l : List α} {k : List β}, F2 R l k → ∀ n, F2 R (l.take n) (k.take n)
  | _, _, .nil, n => by simp; exact .nil
  | _, _, .cons x xs, 0 => by simp; exact .nil
  | _, _, .cons x xs, n + 1 => by simpa using .cons x (f2_take xs n)
theorem f2_append {α β : Type} {R : α → β → Prop} : ∀ {l l' : List α} {k k' : List β}, F2 R l k → F2 R l' k' → F2 R (l ++ l') (k ++ k')
  | _, _, _, _, .nil, h => h
  | _, _, _, _, .cons x xs, h => .cons x (f2_append xs h)

theorem run_isAgg {t : TypeId} {d : TypeDesc} (h : P.underlying t = some d) (w : World) : (isAgg t).run P w = .ok (isAggD d) w := by
  unfold isAgg
  simp only [Sem.run_bind, run_underlying h, Result.andThen_ok]
  cases d <;> rfl
theorem run_sizeOf' {t : TypeId} {i : TypeInfo} (h : P.info? t = some i) (w : World) : (sizeOf t).run P w = .ok i.size w := by
  simp [sizeOf, typeInfo, h]

theorem partA_sound {ρ : Ren} {t : TypeId} {cs : List C} {off : Nat} {p : A} {xs : List Value} (h : partA P t cs off = some p) (r : F2 (C.rel ρ) cs xs) (w : World) :
    ∃ x, (part t xs.toArray off).run P w = .ok x w ∧ p.rel ρ x := by
  unfold partA at h
  split at h
  · rename_i d i hd hi
    unfold part
    simp only [Sem.run_bind, run_isAgg P hd, Result.andThen_ok]
    split at h
    · rename_i hg
      simp at h; subst h
      rw [if_pos hg]
      simp only [Sem.run_bind, run_sizeOf' P hi, Result.andThen_ok, Sem.run_pure]
      refine ⟨_, rfl, (xs.drop off).take i.size, f2_take (f2_drop r off) i.size, ?_⟩
      congr 1
      apply Array.ext'
      simp
    · rename_i hg
      split at h
      · rename_i c hc
        simp at h; subst h
        obtain ⟨x, hx, hr⟩ := f2_get r hc
        rw [if_neg (by simp [hg])]
        refine ⟨x, ?_, hr⟩
        simp [hx]
      · cases h
  · cases h

/-- Equality of plain values. -/
def eqFs (g : TypeId → A → A → Option Bool) (xs ys : List C) : List Field → Option Bool
  | [] => some true
  | f :: fs =>
    match f.name == "_" with
    | true => eqFs g xs ys fs
    | false =>
      match partA P f.type xs f.offset, partA P f.type ys f.offset with
      | some a, some b => (match g f.type a b, eqFs g xs ys fs with | some r, some q => some (r && q) | _, _ => none)
      | _, _ => none
def eqT : Nat → TypeId → A → A → Option Bool
  | 0, _, _, _ => none
  | d + 1, t, x, y =>
    match P.underlying t, x, y with
    | some (.int _), .c a, .c b => (match a.val, b.val with | some (.int k m), some (.int k' n) => (match decide (k = k') with | true => some (m == n) | false => none) | _, _ => none)
    | some .bool, .c a, .c b => (match a.val, b.val with | some (.bool m), some (.bool n) => some (m == n) | _, _ => none)
    | some .string, .c a, .c b => (match a.val, b.val with | some (.string m), some (.string n) => some (m.toList == n.toList) | _, _ => none)
    | some (.struct fs), .agg xs, .agg ys => (match P.stoodInHeld t with | true => none | false => eqFs P (eqT d) xs ys fs.toList)
    | _, _, _ => none

theorem eqT_sound {ρ : Ren} (w : World) : ∀ (d : Nat) (t : TypeId) (x y : A) (r : Bool) (u v : Value), eqT P d t x y = some r → x.rel ρ u → y.rel ρ v → (Op.equalIn d t u v).run P w = .ok r w := by
  intro d
  induction d with
  | zero => intro t x y r u v h; simp [eqT] at h
  | succ d ih =>
    intro t x y r u v h hx hy
    simp only [eqT] at h
    split at h
    · rename_i hu
      split at h
      · rename_i hk hn
        split at h
        · rename_i hkk
          simp at hkk; subst hkk
          simp at h; subst h
          rw [C.val_rel hk hx, C.val_rel hn hy]
          exact run_equalIn_int w d t _ _ _ _ hu
        · cases h
      · cases h
    · rename_i hu
      split at h
      · rename_i hk hn
        simp at h; subst h
        rw [C.val_rel hk hx, C.val_rel hn hy]
        exact run_equalIn_bool' w d t _ _ hu
      · cases h
    · rename_i hu
      split at h
      · rename_i hk hn
        simp at h; subst h
        rw [C.val_rel hk hx, C.val_rel hn hy]
        exact run_equalIn_string w d t _ _ hu
      · cases h
    · rename_i fs xs ys hu
      split at h
      · cases h
      · rename_i hst
        obtain ⟨us, hus, rfl⟩ := hx
        obtain ⟨vs, hvs, rfl⟩ := hy
        have hf : P.fieldsOf t = fs := by simp [Program.fieldsOf, hu]
        rw [run_equalIn_struct w d t _ _ (by rw [hu, hf]) hst, hf]
        generalize fs.toList = l at h ⊢
        clear hf hu
        induction l generalizing r with
        | nil => simp [eqFs] at h; subst h; simp [Op.eqFields]
        | cons f l ihl =>
          simp only [eqFs] at h
          simp only [Op.eqFields]
          split at h
          · rename_i hn
            rw [if_neg (by simpa using hn)]
            exact ihl r h
          · rename_i hn
            rw [if_pos (by simpa using hn)]
            split at h
            · rename_i p q hp hq
              split at h
              · rename_i r1 q1 hg hr
                simp at h; subst h
                obtain ⟨a1, ha1, hra⟩ := partA_sound P hp hus w
                obtain ⟨b1, hb1, hrb⟩ := partA_sound P hq hvs w
                simp only [Sem.run_bind, ha1, hb1, Result.andThen_ok, ih _ _ _ _ _ _ hg hra hrb]
                cases r1
                · simp
                · simpa using ihl q1 hr
              · cases h
            · cases h
    · cases h

end
end Go.V
end

section
/- The second engine, part 4: what each operation does to the abstract state. -/
namespace Go.V

/-- Cells of a block from a place on, so many. -/
def readN (k : Blk) (o : Nat) : Nat → Option (List C)
  | 0 => some []
  | n + 1 => match k.cell o, readN k (o + 1) n with | some c, some r => some (c :: r) | _, _ => none

theorem readN_sound {ρ : Ren} {b : Nat × Nat} {w : World} {k : Blk} (h : k.rel ρ b w) : ∀ {n o : Nat} {cs : List C}, readN k o n = some cs →
    ∃ xs : List Value, F2 (C.rel ρ) cs xs ∧ xs.length = n ∧ ∀ j v, xs[j]? = some v → w.cell? ((⟨b.1, o, none⟩ : Addr).add j) = some v := by
  intro n
  induction n with
  | zero => intro o cs e; simp [readN] at e; subst e; exact ⟨[], .nil, rfl, by simp⟩
  | succ n ih =>
    intro o cs e
    simp only [readN] at e
    split at e
    · rename_i c r hc hr
      simp at e; subst e
      obtain ⟨x, hx, hcell⟩ := Blk.rel_cell h hc
      obtain ⟨xs, hf, hl, hcs⟩ := ih hr
      refine ⟨x :: xs, .cons hx hf, by simp [hl], ?_⟩
      intro j v hj
      cases j with
      | zero => simp at hj; subst hj; simpa [Addr.add] using hcell
      | succ j =>
        have := hcs j v (by simpa using hj)
        have e1 : (⟨b.1, o, none⟩ : Addr).add (j + 1) = (⟨b.1, o + 1, none⟩ : Addr).add j := by
          simp only [Addr.add_lit]; congr 1; omega
        rw [e1]; exact this
    · cases e

/-- Still cells from a place on, so many. -/
def dCells (G : Nat → D) (o : Nat) : Nat → List C
  | 0 => []
  | n + 1 => toC (G o) :: dCells G (o + 1) n
theorem dCells_sound {ρ : Ren} {w : World} (hl : Lies ρ.κ w) {G : Nat → D} {a : Addr} (hs : a.spot = none) : ∀ {n o : Nat}, (∀ j, o ≤ j → j < o + n → ∃ y, ρ.κ a.block (a.off + j) = some y ∧ (G j).rel ρ.κ y) →
    ∃ xs : List Value, F2 (C.rel ρ) (dCells G o n) xs ∧ xs.length = n ∧ ∀ j v, xs[j]? = some v → w.cell? ((⟨a.block, a.off + o, none⟩ : Addr).add j) = some v := by
  intro n
  induction n with
  | zero => intro o _; exact ⟨[], .nil, rfl, by simp⟩
  | succ n ih =>
    intro o h
    obtain ⟨y, hy, hr⟩ := h o (by omega) (by omega)
    obtain ⟨xs, hf, hlen, hcs⟩ := ih (o := o + 1) (fun j h1 h2 => h j (by omega) (by omega))
    refine ⟨y :: xs, .cons (toC_rel hr) hf, by simp [hlen], ?_⟩
    intro j v hj
    cases j with
    | zero => simp at hj; subst hj; simpa [Addr.add] using (hl _ _ _ hy).2
    | succ j =>
      have := hcs j v (by simpa using hj)
      have e1 : (⟨a.block, a.off + o, none⟩ : Addr).add (j + 1) = (⟨a.block, a.off + (o + 1), none⟩ : Addr).add j := by
        simp only [Addr.add_lit]; congr 1; omega
      rw [e1]; exact this
/-- A row's cells. -/
def rowOf : Blk → Option (Nat × Nat × (Nat → Nat → D))
  | .row _ st len F => some (st, len, F)
  | .fz st len F => some (st, len, F)
  | _ => none
theorem rowOf_cap {ρ : Ren} {w : World} {k : Blk} {b : Nat × Nat} (hk : k.rel ρ b w) {st len : Nat} {F : Nat → Nat → D} (hr : rowOf k = some (st, len, F)) : len ≤ b.2 := by
  cases k with
  | row e st' len' F' =>
    simp only [rowOf, Option.some.injEq, Prod.mk.injEq] at hr
    obtain ⟨rfl, rfl, rfl⟩ := hr
    obtain ⟨xs, hh, h1, h2, _⟩ := hk
    exact h2
  | fz st' len' F' =>
    simp only [rowOf, Option.some.injEq, Prod.mk.injEq] at hr
    obtain ⟨rfl, rfl, rfl⟩ := hr
    exact hk.1
  | _ => simp [rowOf] at hr
theorem rCells_sound {ρ : Ren} {w : World} (hl : Lies ρ.κ w) {k : Blk} {b : Nat × Nat} (hk : k.rel ρ b w) {st len : Nat} {F : Nat → Nat → D} (hr : rowOf k = some (st, len, F)) {i : Nat} (hi : i < len) : ∀ {n o : Nat}, o + n ≤ st →
    ∃ xs : List Value, F2 (C.rel ρ) (dCells (F i) o n) xs ∧ xs.length = n ∧ ∀ j v, xs[j]? = some v → w.cell? ((⟨b.1, i * st + o, none⟩ : Addr).add j) = some v := by
  intro n
  induction n with
  | zero => intro o _; exact ⟨[], .nil, rfl, by simp⟩
  | succ n ih =>
    intro o ho
    have : ∃ y, w.cell? ⟨b.1, i * st + o, none⟩ = some y ∧ (F i o).rel ρ.κ y := by
      cases k with
      | row e st' len' F' =>
        simp only [rowOf, Option.some.injEq, Prod.mk.injEq] at hr
        obtain ⟨rfl, rfl, rfl⟩ := hr
        obtain ⟨xs, hh, h1, h2, h3, h4⟩ := hk
        obtain ⟨y, hy, hr⟩ := h4 i o hi (by omega)
        exact ⟨y, by simp [World.cell?, hh, hy], hr⟩
      | fz st' len' F' =>
        simp only [rowOf, Option.some.injEq, Prod.mk.injEq] at hr
        obtain ⟨rfl, rfl, rfl⟩ := hr
        obtain ⟨y, hy, hr⟩ := hk.2 i o hi (by omega)
        exact ⟨y, (hl _ _ _ hy).2, hr⟩
      | _ => simp [rowOf] at hr
    obtain ⟨y, hy, hr'⟩ := this
    obtain ⟨xs, hf, hlen, hcs⟩ := ih (o := o + 1) (by omega)
    refine ⟨y :: xs, .cons (toC_rel hr') hf, by simp [hlen], ?_⟩
    intro j v hj
    cases j with
    | zero => simp at hj; subst hj; simpa [Addr.add] using hy
    | succ j =>
      have := hcs j v (by simpa using hj)
      have e1 : (⟨b.1, i * st + o, none⟩ : Addr).add (j + 1) = (⟨b.1, i * st + (o + 1), none⟩ : Addr).add j := by
        simp only [Addr.add_lit]; congr 1; omega
      rw [e1]; exact this

def A.cells : A → List C
  | .c x => [x]
  | .agg cs => cs
theorem A.rel_cells {ρ : Ren} {p : A} {x : Value} (h : p.rel ρ x) : F2 (C.rel ρ) p.cells x.cells.toList := by
  cases p with
  | c y => rw [C.rel_cells h]; exact .cons h .nil
  | agg cs => obtain ⟨xs, hf, rfl⟩ := h; simpa [Value.cells, A.cells] using hf

theorem f2_oneCell {ρ : Ren} {cs : List C} {xs : List Value} (h : F2 (C.rel ρ) cs xs) : ∀ v ∈ xs, v.oneCell' = true := by
  induction h with
  | nil => simp
  | cons r _ ih =>
    intro v hv
    rcases List.mem_cons.1 hv with rfl | hv
    · have := C.rel_noAgg r
      cases v <;> first | rfl | exact absurd rfl (this.1 _) | exact absurd rfl (this.2 _)
    · exact ih v hv

/-- Parts of a literal laid into cells. -/
def setL (l : List C) (off : Nat) : List C → List C
  | [] => l
  | v :: vs => setL (l.set off v) (off + 1) vs
def fillA (place : Nat → Option (Nat × Nat)) (cells : List C) : List (Nat × A) → Option (List C)
  | [] => some cells
  | (i, v) :: rest =>
    match place i with
    | none => none
    | some (off, size) =>
      match Nat.beq v.cells.length size && Nat.ble (off + v.cells.length) cells.length with
      | true => fillA place (setL cells off v.cells) rest
      | false => none

theorem setL_sound {ρ : Ren} : ∀ {vs : List C} {us : List Value} {l : List C} {k : Array Value} {off j : Nat}, F2 (C.rel ρ) vs us → F2 (C.rel ρ) l k.toList →
    F2 (C.rel ρ) (setL l (off + j) vs) ((us.zipIdx j).foldl (fun cs (c, j) => cs.setIfInBounds (off + j) c) k).toList
  | _, _, l, k, off, j, .nil, h => h
  | _, _, l, k, off, j, .cons (a := a) (b := b) r rs, h => by
    simp only [setL, List.zipIdx_cons, List.foldl_cons]
    have := setL_sound (off := off) (j := j + 1) rs (l := l.set (off + j) a) (k := k.setIfInBounds (off + j) b) (by rw [Array.toList_setIfInBounds]; exact f2_set r h _)
    rw [show off + (j + 1) = off + j + 1 by omega] at this
    exact this

theorem setL_len {vs : List C} : ∀ {l : List C} {off : Nat}, (setL l off vs).length = l.length := by
  induction vs with
  | nil => intro l off; rfl
  | cons v vs ih => intro l off; simp [setL, ih]

inductive PartsRel (ρ : Ren) : List (Nat × A) → List (Nat × Value) → Prop where
  | nil : PartsRel ρ [] []
  | cons {i : Nat} {a : A} {v : Value} {l : List (Nat × A)} {k : List (Nat × Value)} : a.rel ρ v → PartsRel ρ l k → PartsRel ρ ((i, a) :: l) ((i, v) :: k)

theorem fillA_sound {ρ : Ren} {place : Nat → Option (Nat × Nat)} : ∀ {ps : List (Nat × A)} {qs : List (Nat × Value)} {l r : List C} {k : Array Value}, PartsRel ρ ps qs → F2 (C.rel ρ) l k.toList → fillA place l ps = some r →
    ∃ k', Instr.fill place k qs = some k' ∧ F2 (C.rel ρ) r k'.toList
  | _, _, l, r, k, .nil, h, e => by simp [fillA] at e; subst e; exact ⟨k, by simp [Instr.fill], h⟩
  | _, _, l, r, k, .cons (i := i) (a := a) (v := v) hv hs, h, e => by
    simp only [fillA] at e
    split at e
    · cases e
    · rename_i off size hp
      split at e
      · rename_i hok
        simp only [Bool.and_eq_true] at hok
        have h1 : a.cells.length = size := Nat.eq_of_beq_eq_true hok.1
        have h2 := Nat.le_of_ble_eq_true hok.2
        have hc := A.rel_cells hv
        have hl1 := f2_len hc
        have hl2 := f2_len h
        have := setL_sound (off := off) (j := 0) hc h
        obtain ⟨k', hk', hr⟩ := fillA_sound hs this (by simpa using e)
        refine ⟨k', ?_, hr⟩
        have hsz : v.cells.size = size := by rw [← h1, hl1]; simp
        simp only [Instr.fill, hp]
        rw [if_neg (by
          have hk2 : k.size = l.length := by rw [hl2]; simp
          rw [hl1] at h2
          simp only [Array.length_toList] at h2
          intro hor
          rcases Bool.or_eq_true_iff.1 hor with hor | hor
          · exact (of_decide_eq_true hor) hsz
          · have := of_decide_eq_true hor; omega)]
        rw [← Array.foldl_toList] 
        simpa using hk'
      · cases e

section
variable (P : Program) (G : GT)

def placesOf (fs : List Field) : Option (List (Nat × Nat)) := fs.mapM fun f => (P.info? f.type).map fun i => (f.offset, i.size)
def looks (s : S) : List (Nat × Operand) → Option (List (Nat × A))
  | [] => some []
  | (i, x) :: l => match look G s x, looks s l with | some (.a a), some r => some ((i, a) :: r) | _, _ => none
def lookAll (s : S) : List Operand → Option (List A)
  | [] => some []
  | x :: l => match look G s x, lookAll s l with | some (.a a), some r => some (a :: r) | _, _ => none

def buildA (s : S) (t : TypeId) (parts : List (Nat × Operand)) : Option A :=
  match P.info? t, P.underlying t, looks G s parts with
  | some it, some (.struct fs), some ps =>
    match it.zero, placesOf P fs.toList with
    | some z, some places =>
      (match ofCells true z.cells.toList with
      | some zs => (match fillA (places.toArray[·]?) zs ps with | some r => some (.agg r) | none => none)
      | none => none)
    | _, _ => none
  | some it, some (.array _ elem), some ps =>
    match it.zero, P.info? elem with
    | some z, some ie =>
      (match ofCells true z.cells.toList with
      | some zs => (match fillA (fun i => some (i * ie.size, ie.size)) zs ps with | some r => some (.agg r) | none => none)
      | none => none)
    | _, _ => none
  | _, _, _ => none

theorem looks_rel {ρ : Ren} {s : S} {a : Act} {w : World} (h : View G ρ s a w) : ∀ {l : List (Nat × Operand)} {ps : List (Nat × A)}, looks G s l = some ps → PartsRel ρ ps (l.map fun (i, x) => (i, a.eval x)) := by
  intro l
  induction l with
  | nil => intro ps e; simp [looks] at e; subst e; exact .nil
  | cons y l ih =>
    intro ps e
    obtain ⟨i, x⟩ := y
    simp only [looks] at e
    split at e
    · rename_i c r hc hr
      simp at e; subst e
      exact .cons (look_rel h hc) (ih hr)
    · cases e

theorem lookAll_rel {ρ : Ren} {s : S} {a : Act} {w : World} (h : View G ρ s a w) : ∀ {l : List Operand} {ps : List A}, lookAll G s l = some ps → F2 (A.rel ρ) ps (l.map a.eval) := by
  intro l
  induction l with
  | nil => intro ps e; simp [lookAll] at e; subst e; exact .nil
  | cons x l ih =>
    intro ps e
    simp only [lookAll] at e
    split at e
    · rename_i c r hc hr
      simp at e; subst e
      exact .cons (look_rel h hc) (ih hr)
    · cases e

theorem run_zeroValue' {t : TypeId} {i : TypeInfo} {z : Value} (h : P.info? t = some i) (hz : i.zero = some z) (w : World) : (zeroValue t).run P w = .ok z w := by
  simp [zeroValue, typeInfo, h, hz]

theorem buildA_sound {ρ : Ren} {s : S} {a : Act} {w : World} (h : View G ρ s a w) {t : TypeId} {parts : Array (Nat × Operand)} {p : A} (e : buildA P G s t parts.toList = some p) :
    ∃ x, (Instr.build t (parts.map fun (i, x) => (i, a.eval x))).run P w = .ok x w ∧ p.rel ρ x := by
  unfold buildA at e
  split at e
  · rename_i it fs ps hit hu hps
    split at e
    · rename_i z places hz hpl
      split at e
      · rename_i zs hzs
        split at e
        · rename_i r hr
          simp at e; subst e
          obtain ⟨k', hk, hrel⟩ := fillA_sound (looks_rel G h hps) (ofCells_rel ρ hzs) hr
          refine ⟨.agg k', ?_, k'.toList, hrel, by simp⟩
          refine run_build w t _ k' ?_
          unfold Program.built
          simp only [hit, hu, hz]
          unfold placesOf at hpl
          rw [hpl]
          simpa using hk
        · cases e
      · cases e
    · cases e
  · rename_i it n elem ps hit hu hps
    split at e
    · rename_i z ie hz hie
      split at e
      · rename_i zs hzs
        split at e
        · rename_i r hr
          simp at e; subst e
          obtain ⟨k', hk, hrel⟩ := fillA_sound (looks_rel G h hps) (ofCells_rel ρ hzs) hr
          refine ⟨.agg k', ?_, k'.toList, hrel, by simp⟩
          have hk' : Instr.fill (fun i => some (i * ie.size, ie.size)) z.cells (parts.toList.map fun (i, x) => (i, a.eval x)) = some k' := by simpa using hk
          simp [Instr.build, run_zeroValue' P hit hz, run_underlying hu, run_sizeOf' P hie, hk']
        · cases e
      · cases e
    · cases e
  · cases e


/-- The names that an operation reads. -/
def C.names : C → List Nat
  | .ptr m _ => [m]
  | .sl m _ _ _ => [m]
  | .gsl m _ => [m]
  | .fn _ caps => caps.map (·.1)
  | .ep m _ _ _ => [m]
  | _ => []
def A.names : A → List Nat
  | .c (.ptr m _) => [m]
  | .c (.sl m _ _ _) => [m]
  | .c (.gsl m _) => [m]
  | .c (.fn _ caps) => caps.map (·.1)
  | .c (.ep m _ _ _) => [m]
  | .agg cs => cs.flatMap C.names
  | _ => []
def V.names : V → List Nat
  | .a y => y.names
  | .tup _ => []
def lookNames (s : S) : List Operand → List Nat
  | [] => []
  | x :: l => (match look G s x with | some v => v.names | none => []) ++ lookNames s l
def rdOf (o : Oper) (s : S) : List Nat :=
  match o.op with
  | .load _ x => lookNames G s [x]
  | .slice _ x _ _ _ => lookNames G s [x]
  | .store _ x _ => lookNames G s [x]
  | .call c => (match c.callee with | .value f => lookNames G s (f :: c.args.toList) | .builtin .append => lookNames G s c.args.toList | _ => [])
  | _ => []

/-- An index: known or not. -/
def idxOf : V → Option Int
  | .a (.c (.num _ n)) => some n
  | .a (.c (.int _ n)) => some n
  | _ => none
/-- A bound of a slice. -/
def bndOf (s : S) : Option Operand → Option (Option Int)
  | none => some none
  | some x => (match look G s x with | some v => (match idxOf v with | some n => some (some n) | none => none) | none => none)
/-- A part of a slice that lies still: its low end, its high one, what is owed. -/
def subOf (len : Nat) (lo hi mx : Option Int) : Int × Int × List Prop :=
  match lo.getD 0, hi.getD len with
  | l, h => (l, h, [0 ≤ l, l ≤ h, h ≤ len] ++ (match mx with | some m => [h ≤ m, m ≤ len] | none => []))

/-- Operations with their own law: the value. -/
def effV (o : Oper) (s : S) : Option (V × List Prop) :=
  match o.op with
  | .move x | .assign x => (match look G s x with | some v => some (v, []) | none => none)
  | .pick c a b => (match look G s c with
    | some (.a (.c (.lit true))) => (match look G s a with | some v => some (v, []) | none => none)
    | some (.a (.c (.lit false))) => (match look G s b with | some v => some (v, []) | none => none)
    | _ => none)
  | .extract t i => (match look G s t with
    | some (.tup xs) => (match xs[i]? with | some a => some (.a a, []) | none => none)
    | _ => none)
  | .field t x f => (match look G s x, P.underlying t with
    | some (.a (.agg cs)), some (.struct fs) => (match fs[f]? with
      | some fd => (match partA P fd.type cs fd.offset with | some p => some (.a p, []) | none => none)
      | none => none)
    | _, _ => none)
  | .fieldAddr t x f => (match look G s x, P.underlying t with
    | some (.a (.c (.ptr m off))), some (.struct fs) => (match fs[f]? with
      | some fd => (match P.info? fd.type with
        | some i => (match Nat.beq i.size 0 with | true => none | false => some (.a (.c (.ptr m (off + fd.offset))), []))
        | none => none)
      | none => none)
    | some (.a (.c (.ip n F))), some (.struct fs) => (match fs[f]? with
      | some fd => (match P.info? fd.type with
        | some i => (match Nat.beq i.size 0, Nat.ble (fd.offset + i.size) n with | false, true => some (.a (.c (.ip i.size fun j => F (fd.offset + j))), []) | _, _ => none)
        | none => none)
      | none => none)
    | some (.a (.c (.ep m st e j))), some (.struct fs) => (match fs[f]? with
      | some fd => (match P.info? fd.type with
        | some i => (match Nat.beq i.size 0 with | false => some (.a (.c (.ep m st e (j + fd.offset))), []) | true => none)
        | none => none)
      | none => none)
    | _, _ => none)
  | .indexAddr t x ix => (match look G s x, look G s ix, P.underlying t with
    | some (.a (.c (.ptr m off))), some (.a (.c (.num _ n))), some (.array len e) => (match P.info? e, decide (0 ≤ n ∧ n < len) with
      | some i, true => some (.a (.c (.ptr m (off + n.toNat * i.size))), [])
      | _, _ => none)
    | some (.a (.c (.sl m off len _))), some (.a (.c (.num _ n))), some (.slice e) => (match P.info? e, decide (0 ≤ n ∧ n < len) with
      | some i, true => some (.a (.c (.ptr m (off + n.toNat * i.size))), [])
      | _, _ => none)
    | some (.a (.c (.im (.sl _ len st F)))), some v, some (.slice e) => (match P.info? e, idxOf v with
      | some i, some n => (match Nat.beq st i.size with | true => some (.a (.c (.ip st (F n.toNat))), [0 ≤ n, n < len]) | false => none)
      | _, _ => none)
    | some (.a (.c (.gsl m len))), some v, some (.slice e) => (match P.info? e, idxOf v with
      | some i, some n => some (.a (.c (.ep m i.size n.toNat 0)), [0 ≤ n, n < len])
      | _, _ => none)
    | some (.a (.c (.ip k F))), some v, some (.array len e) => (match P.info? e, idxOf v with
      | some i, some n => (match Nat.ble (len * i.size) k with | true => some (.a (.c (.ip i.size fun j => F (n.toNat * i.size + j))), [0 ≤ n, n < len]) | false => none)
      | _, _ => none)
    | _, _, _ => none)
  | .load t x => (match look G s x, P.underlying t, P.info? t with
    | some (.a (.c (.ptr m off))), some d, some i => (match s.hp m with
      | some k => (match isAggD d with
        | true => (match readN k off i.size with | some cs => some (.a (.agg cs), []) | none => none)
        | false => (match k.cell off with | some c => some (.a (.c c), []) | none => none))
      | none => none)
    | some (.a (.c (.ip n F))), some d, some i => (match isAggD d with
        | true => (match Nat.ble i.size n with | true => some (.a (.agg (dCells F 0 i.size)), []) | false => none)
        | false => (match Nat.ble 1 n with | true => some (.a (.c (toC (F 0))), []) | false => none))
    | some (.a (.c (.ep m st e j))), some d, some i => (match s.hp m with
      | some k => (match rowOf k with
        | some (st', len, F) => (match Nat.beq st st', isAggD d with
          | true, true => (match Nat.ble (j + i.size) st with | true => some (.a (.agg (dCells (F e) j i.size)), [e < len]) | false => none)
          | true, false => (match Nat.ble (j + 1) st with | true => some (.a (.c (toC (F e j))), [e < len]) | false => none)
          | _, _ => none)
        | none => none)
      | none => none)
    | _, _, _ => none)
  | .build t parts => (match buildA P G s t parts.toList with | some p => some (.a p, []) | none => none)
  | .nilCheck x => (match look G s x with
    | some (.a (.c (.ptr m off))) => some (.a (.c (.ptr m off)), [])
    | some (.a (.c (.ip n F))) => some (.a (.c (.ip n F)), [])
    | some (.a (.c (.ep m st e j))) => some (.a (.c (.ep m st e j)), [])
    | _ => none)
  | .slice t x lo hi mx => (match look G s x, P.underlying t, bndOf G s lo, bndOf G s hi, bndOf G s mx with
    | some (.a (.c (.im (.sl _ len st F)))), some (.slice e), some l, some h, some m => (match P.info? e, (hi.isSome || mx.isNone) with
      | some i, true => (match Nat.beq st i.size, subOf len l h m with
        | true, (l, h, p) => some (.a (.c (.im (.sl false (h - l).toNat st fun i j => F (l.toNat + i) j))), p)
        | false, _ => none)
      | _, _ => none)
    | some (.a (.c (.gsl m len))), some (.slice e), some none, some (some h), some none => (match P.info? e, s.hp m with
      | some _, some k => (match rowOf k with | some (_, L, _) => some (.a (.c (.gsl m h.toNat)), [0 ≤ h, h ≤ (L : Int)]) | none => none)
      | _, _ => none)
    | _, _, _, _, _ => none)
  | .binOp op t x y _ => (match look G s x, look G s y with
    | some (.a (.agg xs)), some (.a (.agg ys)) =>
      (match P.eqGuardType P.depth t, eqT P 10000 t (.agg xs) (.agg ys), op with
      | false, some r, .eql => some (.a (.c (.bool r)), [])
      | false, some r, .neq => some (.a (.c (.bool (!r))), [])
      | _, _, _ => none)
    | some (.a (.c a)), some (.a (.c (.int k' n))) =>
      (match op, a.val with
      | .quo, some (.int k m) => (match decide (k = k') with | true => some (.a (.c (.int k (k.wrap (m.tdiv n)))), [n ≠ 0]) | false => none)
      | .rem, some (.int k m) => (match decide (k = k') with | true => some (.a (.c (.int k (m.tmod n))), [n ≠ 0]) | false => none)
      | .shl, some (.int k m) => some (.a (.c (.int k (k.wrap (m * 2 ^ (min n.toNat k.bits))))), [0 ≤ n])
      | .shr, some (.int k m) => some (.a (.c (.int k (m.fdiv (2 ^ (min n.toNat k.bits))))), [0 ≤ n])
      | _, _ => (match effPure P G o s with | some v => some (v, []) | none => none))
    | _, _ => (match effPure P G o s with | some v => some (v, []) | none => none))
  | .makeFunc (.func f) first caps => (match first.toList, lookAll G s caps.toList with
    | [], some ps => (match ptrs ps with | some l => some (.a (.c (.fn f l)), []) | none => none)
    | _, _ => none)
  | .call c => (match c.callee, c.args.toList with
    | .builtin .len, [x] => (match look G s x, c.argTypes.toList with
      | some (.a (.c (.sl _ _ len _))), [t] => (match P.underlying t with | some (.slice _) => some (.a (.c (.num .i64 len)), []) | _ => none)
      | some (.a (.c (.gsl _ len))), [t] => (match P.underlying t with | some (.slice _) => some (.a (.c (.int .i64 len)), []) | _ => none)
      | some (.a (.c (.im (.sl _ len _ _)))), [t] => (match P.underlying t with | some (.slice _) => some (.a (.c (.int .i64 len)), []) | _ => none)
      | _, _ => (match effPure P G o s with | some v => some (v, []) | none => none))
    | .builtin _, _ => (match effPure P G o s with | some v => some (v, []) | none => none)
    | _, _ => none)
  | .unOp .. | .convert .. | .index .. | .makeInterface .. => (match effPure P G o s with | some v => some (v, []) | none => none)
  | _ => none
where
  ptrs : List A → Option (List (Nat × Nat))
    | [] => some []
    | .c (.ptr m off) :: l => (match ptrs l with | some r => some ((m, off) :: r) | none => none)
    | _ => none

theorem ptrs_rel {ρ : Ren} : ∀ {ps : List A} {l : List (Nat × Nat)} {xs : List Value}, effV.ptrs ps = some l → F2 (A.rel ρ) ps xs → F2 (PtrRel ρ) l xs := by
  intro ps
  induction ps with
  | nil => intro l xs h r; cases r; simp [effV.ptrs] at h; subst h; exact .nil
  | cons p ps ih =>
    intro l xs h r
    cases r with
    | cons r0 rs =>
      unfold effV.ptrs at h
      split at h
      · rename_i heq; cases heq
      · rename_i m off l' heq
        cases heq
        split at h
        · rename_i r' hr
          simp at h; subst h
          exact .cons r0 (ih hr rs)
        · cases h
      · cases h

end
end Go.V
end

section
/- The second engine, part 5: the values of operations are the model's. -/
namespace Go.V

section
variable {P : Program} {G : GT} {ρ : Ren} {s : S} {a : Act} {w : World}

theorem eval_of {x : Operand} {v : V} (h : View G ρ s a w) (e : look G s x = some v) : v.rel ρ (a.eval x) := look_rel h e

theorem run_loadVar_agg {t : TypeId} {d : TypeDesc} {i : TypeInfo} (hd : P.underlying t = some d) (hi : P.info? t = some i) (hg : isAggD d = true) {ad : Addr} {xs : List Value} (hl : xs.length = i.size)
    (hc : ∀ j v, xs[j]? = some v → w.cell? (ad.add j) = some v) : (loadVar t ad).run P w = .ok (.agg xs.toArray) w := by
  unfold loadVar
  simp only [Sem.run_bind, run_isAgg P hd, Result.andThen_ok, hg, if_true, run_sizeOf' P hi]
  rw [← hl, run_loadCells_list w ad xs hc]
  simp
theorem run_loadVar_one {t : TypeId} {d : TypeDesc} (hd : P.underlying t = some d) (hg : isAggD d = false) {ad : Addr} {x : Value} (hc : w.cell? ad = some x) : (loadVar t ad).run P w = .ok x w := by
  unfold loadVar
  simp only [Sem.run_bind, run_isAgg P hd, Result.andThen_ok, hg, Bool.false_eq_true, if_false]
  simp [run_load, hc]

theorem effV_binOp_div {o : Oper} {op : BinOp} {t yt : TypeId} {x y : Operand} (ho : o.op = .binOp op t x y yt) {k : IntKind} {m n : Int} {c : Value} (hx : a.eval x = .int k m) (hy : a.eval y = .int k n)
    (hc : (Op.intDiv op k m n).run P w = .ok c w) (hop : op = .quo ∨ op = .rem) : (execOp a.eval o).run P w = .ok (.value c) w := by
  rcases hop with rfl | rfl <;> simp [execOp, ho, hx, hy, eqGuard_at_int, binOp_quo, binOp_rem, hc]

theorem idxOf_rel {v : V} {x : Value} {n : Int} (r : v.rel ρ x) (h : idxOf v = some n) : ∃ k, x = .int k n := by
  unfold idxOf at h
  split at h
  · simp at h; subst h; exact ⟨_, r⟩
  · simp at h; subst h; exact ⟨_, r⟩
  · cases h

/-- A bound's value. -/
theorem bndOf_rel (h : View G ρ s a w) {o : Option Operand} {b : Option Int} (e : bndOf G s o = some b) : (o = none ∧ b = none) ∨ ∃ x n k, o = some x ∧ b = some n ∧ a.eval x = .int k n := by
  unfold bndOf at e
  split at e
  · simp at e; exact .inl ⟨rfl, e.symm⟩
  · rename_i x
    split at e
    · rename_i v hv
      split at e
      · rename_i n hn
        simp at e; subst e
        obtain ⟨k, hk⟩ := idxOf_rel (look_rel h hv) hn
        exact .inr ⟨x, n, k, rfl, rfl, hk⟩
      · cases e
    · cases e

theorem slice_sound (h : View G ρ s a w) {o : Oper} {t : TypeId} {x : Operand} {lo hi mx : Option Operand} (ho : o.op = .slice t x lo hi mx) {el : TypeId} (hu : P.underlying t = some (.slice el)) {i : TypeInfo} (hi' : P.info? el = some i)
    {l hh m : Option Int} (hl : bndOf G s lo = some l) (hh' : bndOf G s hi = some hh) (hm : bndOf G s mx = some m) {q : Bool} {len : Nat} {F : Nat → Nat → D} (hvx : (D.sl q len i.size F).rel ρ.κ (a.eval x))
    {l' h' : Int} {p' : List Prop} (hsub : subOf len l hh m = (l', h', p')) (hok : (hi.isSome || mx.isNone) = true) (hp : All p') :
    ∃ x, (execOp a.eval o).run P w = .ok (.value x) w ∧ (V.a (.c (.im (.sl false (h' - l').toNat i.size fun i j => F (l'.toNat + i) j)))).rel ρ x := by
  unfold subOf at hsub
  simp only [Prod.mk.injEq] at hsub
  obtain ⟨rfl, rfl, rfl⟩ := hsub
  rw [All.append] at hp
  obtain ⟨⟨p1, p2, p3, _⟩, p4⟩ := hp
  -- the slice's value
  have hval : ∃ (ao : Option Addr) (cap : Nat), a.eval x = .slice ao len cap ∧ len ≤ cap ∧ (ao = none → len = 0 ∧ cap = 0 ∧ q = false) ∧ (∀ ad, ao = some ad → (0 < len → ad.spot = none) ∧ ∀ i' j, i' < len → j < i.size → ∃ y, ρ.κ ad.block (ad.off + i' * i.size + j) = some y ∧ (F i' j).rel ρ.κ y) := by
    rcases hvx with ⟨hq, h0, hv⟩ | ⟨ad, cap, hv, hc, hsp, hcell⟩
    · exact ⟨none, 0, by rw [hv, h0], by omega, fun _ => ⟨h0, rfl, hq⟩, (fun ad he => by cases he)⟩
    · exact ⟨some ad, cap, hv, hc, (fun he => by cases he), (fun ad' he => by cases he; exact ⟨hsp, hcell⟩)⟩
  obtain ⟨ao, cap, hv, hc, hnone, hsome⟩ := hval
  -- the bounds
  have hb : ∃ mm : Nat, (l.getD 0).toNat ≤ (hh.getD len).toNat ∧ (hh.getD len).toNat ≤ mm ∧ mm ≤ cap ∧ (Instr.sliceBounds true len cap (lo.map a.eval) (hi.map a.eval) (mx.map a.eval)).run P w = .ok ((l.getD 0).toNat, (hh.getD len).toNat, mm) w := by
    rcases bndOf_rel h hl with ⟨rfl, rfl⟩ | ⟨xl, nl, kl, rfl, rfl, hxl⟩ <;> rcases bndOf_rel h hh' with ⟨rfl, rfl⟩ | ⟨xh, nh, kh, rfl, rfl, hxh⟩ <;> rcases bndOf_rel h hm with ⟨rfl, rfl⟩ | ⟨xm, nm, km, rfl, rfl, hxm⟩ <;>
      simp only [Option.getD_none, Option.getD_some] at p1 p2 p3 p4 hok ⊢ <;> first | (cases hok; done) | skip
    · exact ⟨cap, by omega, by simp; omega, by omega, by simp [Instr.sliceBounds]⟩
    · exact ⟨cap, by omega, by omega, by omega, by simp [Instr.sliceBounds, Instr.sliceBound, hxh, asIntOf, p2, show nh ≤ (cap : Int) by omega]⟩
    · obtain ⟨p4, p5, _⟩ := p4
      exact ⟨nm.toNat, by omega, by omega, by omega, by simp [Instr.sliceBounds, Instr.sliceBound, hxh, hxm, asIntOf, p2, show 0 ≤ nm by omega, show nm ≤ (cap : Int) by omega, show nh ≤ (nm.toNat : Int) by omega, show nh ≤ max nm 0 by omega]⟩
    · exact ⟨cap, by omega, by simp; omega, by omega, by simp [Instr.sliceBounds, Instr.sliceBound, hxl, asIntOf, p1, p2]⟩
    · exact ⟨cap, by omega, by omega, by omega, by simp [Instr.sliceBounds, Instr.sliceBound, hxh, hxl, asIntOf, p1, show 0 ≤ nh by omega, show nh ≤ (cap : Int) by omega, show nl ≤ (nh.toNat : Int) by omega, show nl ≤ max nh 0 by omega]⟩
    · obtain ⟨p4, p5, _⟩ := p4
      exact ⟨nm.toNat, by omega, by omega, by omega, by simp [Instr.sliceBounds, Instr.sliceBound, hxh, hxm, hxl, asIntOf, p1, show 0 ≤ nh by omega, show 0 ≤ nm by omega, show nm ≤ (cap : Int) by omega, show nh ≤ (nm.toNat : Int) by omega, show nl ≤ (nh.toNat : Int) by omega, show nl ≤ max nh 0 by omega, show nh ≤ max nm 0 by omega]⟩
  obtain ⟨mm, b1, b2, b3, hb⟩ := hb
  generalize l.getD 0 = L at *
  generalize hh.getD len = H at *
  have hrun : (execOp a.eval o).run P w = .ok (.value (.slice (if mm = L.toNat then ao else ao.map (·.add (L.toNat * i.size))) (H.toNat - L.toNat) (mm - L.toNat))) w := by
    simp [execOp, ho, Instr.sliceAt, Instr.slice, run_underlying hu, hv, hb, run_sizeOf' P hi']
  refine ⟨_, hrun, ?_⟩
  have hlen : (H - L).toNat = H.toNat - L.toNat := by omega
  rw [hlen]
  cases ao with
  | none =>
    obtain ⟨h0, hc0, hq⟩ := hnone rfl
    refine .inl ⟨rfl, by omega, ?_⟩
    have e1 : H.toNat - L.toNat = 0 := by omega
    have e2 : mm - L.toNat = 0 := by omega
    rw [e1, e2]
    split <;> rfl
  | some ad =>
    obtain ⟨hsp, hcell⟩ := hsome ad rfl
    obtain ⟨blk, off, spt⟩ := ad
    simp only at hsp hcell
    by_cases hml : mm = L.toNat
    · refine .inr ⟨⟨blk, off, spt⟩, mm - L.toNat, by rw [if_pos hml], by omega, fun h0 => by omega, fun i' j hi'' => by omega⟩
    · by_cases hs0 : L.toNat * i.size = 0
      · refine .inr ⟨⟨blk, off, spt⟩, mm - L.toNat, by rw [if_neg hml]; simp [Addr.add, hs0], by omega, fun h0 => hsp (by omega), fun i' j hi'' hj => ?_⟩
        obtain ⟨y, hy, hr⟩ := hcell (L.toNat + i') j (by omega) hj
        refine ⟨y, ?_, hr⟩
        rw [Nat.add_mul, hs0, Nat.zero_add] at hy
        exact hy
      · refine .inr ⟨⟨blk, off + L.toNat * i.size, none⟩, mm - L.toNat, by rw [if_neg hml]; simp [Addr.add, hs0], by omega, fun _ => rfl, fun i' j hi'' hj => ?_⟩
        obtain ⟨y, hy, hr⟩ := hcell (L.toNat + i') j (by omega) hj
        refine ⟨y, ?_, hr⟩
        rw [Nat.add_mul, ← Nat.add_assoc] at hy
        exact hy

theorem gslice_sound (h : View G ρ s a w) {o : Oper} {t : TypeId} {x : Operand} {lo hi mx : Option Operand} (ho : o.op = .slice t x lo hi mx) {el : TypeId} (hu : P.underlying t = some (.slice el))
    {hh : Int} (hl : bndOf G s lo = some none) (hh' : bndOf G s hi = some (some hh)) (hm : bndOf G s mx = some none) {i : TypeInfo} (hsz : P.info? el = some i) {m len : Nat} {b : Nat × Nat} (hb : ρ m = some b) (hv : a.eval x = .slice (some ⟨b.1, 0, none⟩) len b.2) (p1 : 0 ≤ hh) (hcap : hh ≤ (b.2 : Int)) :
    ∃ x, (execOp a.eval o).run P w = .ok (.value x) w ∧ (V.a (.c (.gsl m hh.toNat))).rel ρ x := by
  have hb0 : lo = none := by
    rcases bndOf_rel h hl with ⟨h1, _⟩ | ⟨_, _, _, _, h2, _⟩
    · exact h1
    · cases h2
  have hm0 : mx = none := by
    rcases bndOf_rel h hm with ⟨h1, _⟩ | ⟨_, _, _, _, h2, _⟩
    · exact h1
    · cases h2
  obtain ⟨xh, kh, rfl, hxh⟩ : ∃ xh kh, hi = some xh ∧ a.eval xh = .int kh hh := by
    rcases bndOf_rel h hh' with ⟨_, h1⟩ | ⟨x, n, k, h1, h2, h3⟩
    · cases h1
    · cases h2; exact ⟨x, k, h1, h3⟩
  subst hb0 hm0
  refine ⟨.slice (some ⟨b.1, 0, none⟩) hh.toNat b.2, ?_, b, hb, rfl⟩
  simp only [execOp, ho, Instr.sliceAt, Instr.slice, hv, Sem.run_bind, run_underlying hu, Result.andThen_ok, Option.map_some, Option.map_none]
  by_cases hz : b.2 = 0
  · have h0 : hh = 0 := by omega
    subst h0
    simp [Instr.sliceBounds, Instr.sliceBound, hxh, asIntOf, p1, hcap, run_sizeOf' P hsz, hz, Addr.add]
  · simp [Instr.sliceBounds, Instr.sliceBound, hxh, asIntOf, p1, hcap, run_sizeOf' P hsz, hz, Addr.add]

theorem effV_sound (h : View G ρ s a w) {o : Oper} {v : V} {p : List Prop} (e : effV P G o s = some (v, p)) (hp : All p) :
    ∃ x, (execOp a.eval o).run P w = .ok (.value x) w ∧ v.rel ρ x := by
  have pure_case : (∀ cs b, o.op ≠ .select cs b) → (match effPure P G o s with | some v => some (v, []) | none => none) = some (v, p) → ∃ x, (execOp a.eval o).run P w = .ok (.value x) w ∧ v.rel ρ x := by
    intro hs e
    split at e
    · rename_i v' hv
      simp at e; obtain ⟨rfl, _⟩ := e
      exact effPure_sound P G h hs hv
    · cases e
  unfold effV at e
  split at e
  case h_1 x ho =>
    split at e
    · rename_i v' hv
      simp at e; obtain ⟨rfl, _⟩ := e
      exact ⟨a.eval x, by simp [execOp, ho], look_rel h hv⟩
    · cases e
  case h_2 x ho =>
    split at e
    · rename_i v' hv
      simp at e; obtain ⟨rfl, _⟩ := e
      exact ⟨a.eval x, by simp [execOp, ho], look_rel h hv⟩
    · cases e
  case h_3 c x y ho =>
    split at e
    · rename_i hc
      have hcv : a.eval c = .bool true := look_rel h hc
      split at e
      · rename_i v' hv
        simp at e; obtain ⟨rfl, _⟩ := e
        exact ⟨a.eval x, by simp [execOp, ho, hcv, asBool], look_rel h hv⟩
      · cases e
    · rename_i hc
      have hcv : a.eval c = .bool false := look_rel h hc
      split at e
      · rename_i v' hv
        simp at e; obtain ⟨rfl, _⟩ := e
        exact ⟨a.eval y, by simp [execOp, ho, hcv, asBool], look_rel h hv⟩
      · cases e
    · cases e
  case h_4 t i ho =>
    split at e
    · rename_i xs hx
      obtain ⟨ys, hf, hy⟩ := look_rel h hx
      split at e
      · rename_i c hc
        simp at e; obtain ⟨rfl, _⟩ := e
        obtain ⟨z, hz, hr⟩ := f2_get hf hc
        exact ⟨z, by simp [execOp, ho, hy, Instr.extract, hz], hr⟩
      · cases e
    · cases e
  case h_5 t x f ho =>
    split at e
    · rename_i cs fs hx hu
      obtain ⟨xs, hf, hv⟩ := look_rel h hx
      split at e
      · rename_i fd hfd
        split at e
        · rename_i q hq
          simp at e; obtain ⟨rfl, _⟩ := e
          obtain ⟨z, hz, hr⟩ := partA_sound P hq hf w
          exact ⟨z, by simp [execOp, ho, hv, Instr.field, run_underlying hu, hfd, asAgg, hz], hr⟩
        · cases e
      · cases e
    · cases e
  case h_6 t x f ho =>
    split at e
    · rename_i m off fs hx hu
      obtain ⟨b, hb, hv⟩ := look_rel h hx
      split at e
      · rename_i fd hfd
        split at e
        · rename_i i hi
          split at e
          · cases e
          · rename_i hsz
            simp at e; obtain ⟨rfl, _⟩ := e
            have hne : i.size ≠ 0 := fun h0 => by rw [h0] at hsz; simp at hsz
            refine ⟨_, ?_, b, hb, rfl⟩
            simp [execOp, ho, hv, Instr.fieldAt, run_underlying hu, hfd, Instr.sureAddr, fieldPlace, run_sizeOf' P hi, hne, Addr.add_lit]
        · cases e
      · cases e
    · rename_i n F fs hx hu
      obtain ⟨ad, hv, hsp, hcell⟩ := look_rel h hx
      split at e
      · rename_i fd hfd
        split at e
        · rename_i i hi
          split at e
          · rename_i hsz hn
            simp at e; obtain ⟨rfl, _⟩ := e
            have hne : i.size ≠ 0 := fun h0 => by rw [h0] at hsz; simp at hsz
            have hn' := Nat.le_of_ble_eq_true hn
            obtain ⟨blk, off, spt⟩ := ad
            simp only at hsp; subst hsp
            refine ⟨.pointer (some ⟨blk, off + fd.offset, none⟩), ?_, _, rfl, rfl, ?_⟩
            · simp [execOp, ho, hv, Instr.fieldAt, run_underlying hu, hfd, Instr.sureAddr, fieldPlace, run_sizeOf' P hi, hne, Addr.add_lit]
            · intro j hj
              obtain ⟨y, hy, hr⟩ := hcell (fd.offset + j) (by omega)
              exact ⟨y, by rw [← Nat.add_assoc] at hy; exact hy, hr⟩
          · cases e
        · cases e
      · cases e
    · rename_i m st el j fs hx hu
      obtain ⟨b, hb, hv⟩ := look_rel h hx
      split at e
      · rename_i fd hfd
        split at e
        · rename_i i hi
          split at e
          · rename_i hsz
            simp at e; obtain ⟨rfl, _⟩ := e
            have hne : i.size ≠ 0 := fun h0 => by rw [h0] at hsz; simp at hsz
            refine ⟨_, ?_, b, hb, rfl⟩
            simp [execOp, ho, hv, Instr.fieldAt, run_underlying hu, hfd, Instr.sureAddr, fieldPlace, run_sizeOf' P hi, hne, Addr.add_lit, Nat.add_assoc]
          · cases e
        · cases e
      · cases e
    · cases e
  case h_7 t x ix ho =>
    split at e
    · rename_i m off k n len el hx hix hu
      obtain ⟨b, hb, hv⟩ := look_rel h hx
      have hn : a.eval ix = .int k n := look_rel h hix
      split at e
      · rename_i i hi hd
        simp at e; obtain ⟨rfl, _⟩ := e
        have hd' := of_decide_eq_true hd
        refine ⟨_, ?_, b, hb, rfl⟩
        simp [execOp, ho, hv, hn, Instr.indexAt, asIntOf, run_underlying hu, Instr.sureAddr, hd', run_sizeOf' P hi, Addr.add_lit]
      · cases e
    · rename_i m off len cap k n el hx hix hu
      obtain ⟨b, hb, hv⟩ := look_rel h hx
      have hn : a.eval ix = .int k n := look_rel h hix
      split at e
      · rename_i i hi hd
        simp at e; obtain ⟨rfl, _⟩ := e
        have hd' := of_decide_eq_true hd
        refine ⟨_, ?_, b, hb, rfl⟩
        simp [execOp, ho, hv, hn, Instr.indexAt, asIntOf, run_underlying hu, hd', run_sizeOf' P hi, Addr.add_lit]
      · cases e
    · rename_i q len st F v0 el hx hix hu
      have hvx : (D.sl q len st F).rel ρ.κ (a.eval x) := look_rel h hx
      split at e
      · rename_i i n hi hn
        obtain ⟨k, hnv⟩ := idxOf_rel (look_rel h hix) hn
        split at e
        · rename_i hst
          have hst' := Nat.eq_of_beq_eq_true hst
          simp only [Option.some.injEq, Prod.mk.injEq] at e; obtain ⟨rfl, rfl⟩ := e
          obtain ⟨p1, p2, _⟩ := hp
          rcases hvx with ⟨_, h0, _⟩ | ⟨ad, cap, hv, hc, hsp, hcell⟩
          · exfalso; subst h0; omega
          · have hlen : 0 < len := by omega
            have hsp' := hsp hlen
            obtain ⟨blk, off, spt⟩ := ad
            simp only at hsp'; subst hsp'
            have hd' : 0 ≤ n ∧ n < len := ⟨p1, p2⟩
            refine ⟨.pointer (some ⟨blk, off + n.toNat * i.size, none⟩), ?_, _, rfl, rfl, ?_⟩
            · simp [execOp, ho, hv, hnv, Instr.indexAt, asIntOf, run_underlying hu, hd', run_sizeOf' P hi, Addr.add_lit]
            · intro j hj
              obtain ⟨y, hy, hr⟩ := hcell n.toNat j (by omega) hj
              exact ⟨y, by rw [hst'] at hy; exact hy, hr⟩
        · cases e
      · cases e
    · rename_i m len v0 el hx hix hu
      obtain ⟨b, hb, hv⟩ := look_rel h hx
      split at e
      · rename_i i n hi hn
        obtain ⟨k, hnv⟩ := idxOf_rel (look_rel h hix) hn
        simp only [Option.some.injEq, Prod.mk.injEq] at e; obtain ⟨rfl, rfl⟩ := e
        obtain ⟨p1, p2, _⟩ := hp
        have hd' : 0 ≤ n ∧ n < len := ⟨p1, p2⟩
        refine ⟨_, ?_, b, hb, rfl⟩
        simp [execOp, ho, hv, hnv, Instr.indexAt, asIntOf, run_underlying hu, hd', run_sizeOf' P hi, Addr.add_lit]
      · cases e
    · rename_i kk F v0 len el hx hix hu
      obtain ⟨ad, hv, hsp, hcell⟩ := look_rel h hx
      split at e
      · rename_i i n hi hn
        obtain ⟨k, hnv⟩ := idxOf_rel (look_rel h hix) hn
        split at e
        · rename_i hle
          have hle' := Nat.le_of_ble_eq_true hle
          simp only [Option.some.injEq, Prod.mk.injEq] at e; obtain ⟨rfl, rfl⟩ := e
          obtain ⟨p1, p2, _⟩ := hp
          have hd' : 0 ≤ n ∧ n < len := ⟨p1, p2⟩
          obtain ⟨blk, off, spt⟩ := ad
          simp only at hsp; subst hsp
          refine ⟨.pointer (some ⟨blk, off + n.toNat * i.size, none⟩), ?_, _, rfl, rfl, ?_⟩
          · simp [execOp, ho, hv, hnv, Instr.indexAt, asIntOf, run_underlying hu, Instr.sureAddr, hd', run_sizeOf' P hi, Addr.add_lit]
          · intro j hj
            have hlt : n.toNat * i.size + j < kk := by
              have h1 : n.toNat + 1 ≤ len := by omega
              have := Nat.mul_le_mul_right i.size h1
              rw [Nat.add_mul] at this
              omega
            obtain ⟨y, hy, hr⟩ := hcell _ hlt
            exact ⟨y, by rw [← Nat.add_assoc] at hy; exact hy, hr⟩
        · cases e
      · cases e
    · cases e
  case h_8 t x ho =>
    split at e
    · rename_i m off d i hx hd hi
      obtain ⟨b, hb, hv⟩ := look_rel h hx
      split at e
      · rename_i k hk
        obtain ⟨b', hb', hlt, hrel⟩ := h.hp m k hk
        simp only at hb
        rw [hb] at hb'; cases hb'
        split at e
        · rename_i hg
          split at e
          · rename_i cs hcs
            simp at e; obtain ⟨rfl, _⟩ := e
            obtain ⟨xs, hf, hl, hc⟩ := readN_sound hrel hcs
            refine ⟨.agg xs.toArray, ?_, xs, hf, rfl⟩
            simp [execOp, ho, hv, Instr.loadAt, Instr.sureAddr, run_loadVar_agg hd hi hg hl hc]
          · cases e
        · rename_i hg
          split at e
          · rename_i c hc
            simp at e; obtain ⟨rfl, _⟩ := e
            obtain ⟨z, hz, hcell⟩ := Blk.rel_cell hrel hc
            refine ⟨z, ?_, hz⟩
            simp [execOp, ho, hv, Instr.loadAt, Instr.sureAddr, run_loadVar_one hd hg hcell]
          · cases e
      · cases e
    · rename_i n F d i hx hd hi
      obtain ⟨ad, hv, hsp, hcell⟩ := look_rel h hx
      obtain ⟨blk, off, spt⟩ := ad
      simp only at hsp; subst hsp
      split at e
      · rename_i hg
        split at e
        · rename_i hle
          have hle' := Nat.le_of_ble_eq_true hle
          simp at e; obtain ⟨rfl, _⟩ := e
          obtain ⟨xs, hf, hl, hc0⟩ := dCells_sound h.im (G := F) (a := ⟨blk, off, none⟩) rfl (n := i.size) (o := 0) (fun j _ hj => hcell j (by omega))
          have hc : ∀ j v, xs[j]? = some v → w.cell? ((⟨blk, off, none⟩ : Addr).add j) = some v := hc0
          refine ⟨.agg xs.toArray, ?_, xs, hf, rfl⟩
          simp [execOp, ho, hv, Instr.loadAt, Instr.sureAddr, run_loadVar_agg hd hi hg hl hc]
        · cases e
      · rename_i hg
        split at e
        · rename_i hle
          have hle' := Nat.le_of_ble_eq_true hle
          simp at e; obtain ⟨rfl, _⟩ := e
          obtain ⟨y, hy, hr⟩ := hcell 0 (by omega)
          refine ⟨y, ?_, toC_rel hr⟩
          have hy' : w.cell? ⟨blk, off, none⟩ = some y := (h.im _ _ _ hy).2
          simp [execOp, ho, hv, Instr.loadAt, Instr.sureAddr, run_loadVar_one hd hg hy']
        · cases e
    · rename_i m st el j d i hx hd hi
      obtain ⟨b, hb, hv⟩ := look_rel h hx
      split at e
      · rename_i k hk
        obtain ⟨b', hb', hlt, hrel⟩ := h.hp m k hk
        simp only at hb
        rw [hb] at hb'; cases hb'
        split at e
        · rename_i st' len F hrow
          split at e
          · rename_i hst hg
            have hst' := Nat.eq_of_beq_eq_true hst
            subst hst'
            split at e
            · rename_i hle
              have hle' := Nat.le_of_ble_eq_true hle
              simp only [Option.some.injEq, Prod.mk.injEq] at e; obtain ⟨rfl, rfl⟩ := e
              obtain ⟨xs, hf, hl, hc⟩ := rCells_sound h.im hrel hrow hp.1 (n := i.size) (o := j) hle'
              refine ⟨.agg xs.toArray, ?_, xs, hf, rfl⟩
              simp [execOp, ho, hv, Instr.loadAt, Instr.sureAddr, run_loadVar_agg hd hi hg hl hc]
            · cases e
          · rename_i hst hg
            have hst' := Nat.eq_of_beq_eq_true hst
            subst hst'
            split at e
            · rename_i hle
              have hle' := Nat.le_of_ble_eq_true hle
              simp only [Option.some.injEq, Prod.mk.injEq] at e; obtain ⟨rfl, rfl⟩ := e
              obtain ⟨xs, hf, hl, hc⟩ := rCells_sound h.im hrel hrow hp.1 (n := 1) (o := j) (by omega)
              simp only [dCells] at hf
              cases hf with
              | cons r0 rs =>
                rename_i y ys
                refine ⟨y, ?_, r0⟩
                have := hc 0 y (by simp)
                simp [execOp, ho, hv, Instr.loadAt, Instr.sureAddr, run_loadVar_one hd hg (by simpa [Addr.add] using this)]
            · cases e
          · cases e
        · cases e
      · cases e
    · cases e
  case h_9 t parts ho =>
    split at e
    · rename_i q hq
      simp at e; obtain ⟨rfl, _⟩ := e
      obtain ⟨z, hz, hr⟩ := buildA_sound P G h hq
      exact ⟨z, by simp [execOp, ho, hz], hr⟩
    · cases e
  case h_10 x ho =>
    split at e
    · rename_i m off hx
      simp at e; obtain ⟨rfl, _⟩ := e
      obtain ⟨b, hb, hv⟩ := look_rel h hx
      exact ⟨_, by simp [execOp, ho, hv], b, hb, rfl⟩
    · rename_i n F hx
      simp at e; obtain ⟨rfl, _⟩ := e
      have hr := look_rel h hx
      obtain ⟨ad, hv, _⟩ := id hr
      exact ⟨a.eval x, by simp [execOp, ho, hv], hr⟩
    · rename_i m st el j hx
      simp at e; obtain ⟨rfl, _⟩ := e
      obtain ⟨b, hb, hv⟩ := look_rel h hx
      exact ⟨_, by simp [execOp, ho, hv], b, hb, rfl⟩
    · cases e
  case h_11 t x lo hi mx ho =>
    split at e
    · rename_i q len st F el l hh m hx hu hl hh' hm
      have hvx : (D.sl q len st F).rel ρ.κ (a.eval x) := look_rel h hx
      split at e
      · rename_i i hi' hok
        split at e
        · rename_i l' h' p' hst hsub
          have hst' := Nat.eq_of_beq_eq_true hst
          subst hst'
          simp only [Option.some.injEq, Prod.mk.injEq] at e; obtain ⟨rfl, rfl⟩ := e
          exact slice_sound h ho hu hi' hl hh' hm hvx hsub hok hp
        · cases e
      · cases e
    · rename_i m len el hh hx hu hl hh' hm
      split at e
      · rename_i i0 k hi0 hk
        split at e
        · rename_i st L F hrow
          simp only [Option.some.injEq, Prod.mk.injEq] at e; obtain ⟨rfl, rfl⟩ := e
          obtain ⟨b, hb, hv⟩ := look_rel h hx
          obtain ⟨b', hb', hlt, hrel⟩ := h.hp m k hk
          rw [hb] at hb'; cases hb'
          have := rowOf_cap hrel hrow
          obtain ⟨p1, p2, _⟩ := hp
          exact gslice_sound h ho hu hl hh' hm hi0 hb hv p1 (by omega)
        · cases e
      · cases e
    · cases e
  case h_12 op t x y yt ho =>
    have hs : ∀ cs b, o.op ≠ .select cs b := by simp [ho]
    split at e
    · rename_i xs ys hx hy
      have hvx := look_rel h hx
      have hvy := look_rel h hy
      split at e
      · rename_i r hg he
        simp at e; obtain ⟨rfl, _⟩ := e
        have hrun := eqT_sound P w _ _ _ _ _ _ _ he hvx hvy
        obtain ⟨us, _, hux⟩ := hvx
        obtain ⟨vs, _, huy⟩ := hvy
        refine ⟨.bool r, ?_, rfl⟩
        rw [hux, huy] at hrun
        simp only [execOp, ho, hux, huy, Sem.run_bind, run_eqGuard_agg w _ _ _ _ _ _ hg, Result.andThen_ok, run_eql_struct, hrun, Sem.run_pure]
      · rename_i r hg he
        simp at e; obtain ⟨rfl, _⟩ := e
        have hrun := eqT_sound P w _ _ _ _ _ _ _ he hvx hvy
        obtain ⟨us, _, hux⟩ := hvx
        obtain ⟨vs, _, huy⟩ := hvy
        refine ⟨.bool (!r), ?_, rfl⟩
        rw [hux, huy] at hrun
        simp only [execOp, ho, hux, huy, Sem.run_bind, run_eqGuard_agg w _ _ _ _ _ _ hg, Result.andThen_ok, run_neq_struct, hrun, Sem.run_pure]
      · cases e
    · rename_i c k' n hx hy
      have hvy : a.eval y = .int k' n := look_rel h hy
      split at e
      · rename_i k m hm
        split at e
        · rename_i hk
          simp only [Option.some.injEq, Prod.mk.injEq] at e; obtain ⟨rfl, rfl⟩ := e
          replace hp := hp.1
          have hk' := of_decide_eq_true hk; subst hk'
          have hvx : a.eval x = .int k m := C.val_rel hm (look_rel h hx)
          refine ⟨_, effV_binOp_div ho hvx hvy ?_ (.inl rfl), rfl⟩
          simp [Op.intDiv, hp]
        · cases e
      · rename_i k m hm
        split at e
        · rename_i hk
          simp only [Option.some.injEq, Prod.mk.injEq] at e; obtain ⟨rfl, rfl⟩ := e
          replace hp := hp.1
          have hk' := of_decide_eq_true hk; subst hk'
          have hvx : a.eval x = .int k m := C.val_rel hm (look_rel h hx)
          refine ⟨_, effV_binOp_div ho hvx hvy ?_ (.inr rfl), rfl⟩
          simp [Op.intDiv, hp]
        · cases e
      · rename_i k m hm
        simp only [Option.some.injEq, Prod.mk.injEq] at e; obtain ⟨rfl, rfl⟩ := e
        replace hp := hp.1
        have hvx : a.eval x = .int k m := C.val_rel hm (look_rel h hx)
        refine ⟨_, ?_, rfl⟩
        have : ¬ n < 0 := by omega
        simp [execOp, ho, hvx, hvy, eqGuard_at_int, binOp_shl, Op.shift, this]
      · rename_i k m hm
        simp only [Option.some.injEq, Prod.mk.injEq] at e; obtain ⟨rfl, rfl⟩ := e
        replace hp := hp.1
        have hvx : a.eval x = .int k m := C.val_rel hm (look_rel h hx)
        refine ⟨_, ?_, rfl⟩
        have : ¬ n < 0 := by omega
        simp [execOp, ho, hvx, hvy, eqGuard_at_int, binOp_shr, Op.shift, this]
      · exact pure_case hs e
    · exact pure_case hs e
  case h_13 f first caps ho =>
    split at e
    · rename_i ps hfirst hps
      split at e
      · rename_i l hl
        simp at e; obtain ⟨rfl, _⟩ := e
        have := ptrs_rel hl (lookAll_rel G h hps)
        have hf0 : first = #[] := by cases first; simp_all
        refine ⟨.func (.func f) #[] (caps.map a.eval), ?_, caps.toList.map a.eval, this, ?_⟩
        · simp [execOp, ho, Instr.makeFunc, hf0]
        · congr 1; apply Array.ext'; simp
      · cases e
    · cases e
  case h_14 c ho =>
    have hs : ∀ cs b, o.op ≠ .select cs b := by simp [ho]
    split at e
    · rename_i x hcal hargs
      have ha : c.args = #[x] := by apply Array.ext'; simpa using hargs
      split at e
      · rename_i m off len cap t hx ht
        split at e
        · rename_i el hu
          simp at e; obtain ⟨rfl, _⟩ := e
          obtain ⟨b, hb, hv⟩ := look_rel h hx
          have hat : c.argTypes = #[t] := by apply Array.ext'; simpa using ht
          refine ⟨.int .i64 len, ?_, rfl⟩
          simp [execOp, ho, resolve, hcal, ha, hv, invoke, builtin, Builtin.len_, hat, run_underlying hu, goInt]
        · cases e
      · rename_i m len t hx ht
        split at e
        · rename_i el hu
          simp at e; obtain ⟨rfl, _⟩ := e
          obtain ⟨b, hb, hv⟩ := look_rel h hx
          have hat : c.argTypes = #[t] := by apply Array.ext'; simpa using ht
          refine ⟨.int .i64 len, ?_, rfl⟩
          simp [execOp, ho, resolve, hcal, ha, hv, invoke, builtin, Builtin.len_, hat, run_underlying hu, goInt]
        · cases e
      · rename_i q len st F t hx ht
        split at e
        · rename_i el hu
          simp at e; obtain ⟨rfl, _⟩ := e
          have hvx : (D.sl q len st F).rel ρ.κ (a.eval x) := look_rel h hx
          have hat : c.argTypes = #[t] := by apply Array.ext'; simpa using ht
          have hv : ∃ ao cap, a.eval x = .slice ao len cap := by
            rcases hvx with ⟨_, rfl, hv⟩ | ⟨ad, cap, hv, _⟩
            · exact ⟨_, _, hv⟩
            · exact ⟨_, _, hv⟩
          obtain ⟨ao, cap, hv⟩ := hv
          refine ⟨.int .i64 len, ?_, rfl⟩
          simp [execOp, ho, resolve, hcal, ha, hv, invoke, builtin, Builtin.len_, hat, run_underlying hu, goInt]
        · cases e
      · exact pure_case hs e
    · exact pure_case hs e
    · cases e
  case h_15 ho => exact pure_case (by simp [ho]) e
  case h_16 ho => exact pure_case (by simp [ho]) e
  case h_17 ho => exact pure_case (by simp [ho]) e
  case h_18 ho => exact pure_case (by simp [ho]) e
  case h_19 => cases e
end
end Go.V
end
