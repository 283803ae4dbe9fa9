/- The parts of the engines, of their contracts and of the plain laws that the claim rests on: ZU1, ZU2, ZU3, ZU4, ZU5, ZU6, ZU7, ZU8, ZU81. -/
import Derived.WalkKit
import Derived.RangeFuncFrom
import Derived.ChangeKeysEq
import Derived.OrdersIn
import Derived.LoopNIn
import Derived.ArgAppend
import Derived.Lib.ConvBytes
set_option linter.unusedVariables false
set_option linter.unusedSimpArgs false
section
set_option linter.unusedVariables false
set_option linter.unusedSimpArgs false
namespace Go.V
open Go.RowKit (Below)
inductive F2 {α β : Type} (R : α → β → Prop) : List α → List β → Prop where
  | nil : F2 R [] []
  | cons {a : α} {b : β} {l : List α} {k : List β} : R a b → F2 R l k → F2 R (a :: l) (b :: k)
inductive D where
  | int (k : IntKind) (n : Int)
  | bool (b : Bool)
  | str (s : ByteArray)
  | nilp
  | op (v : Value)
  | sl (q : Bool) (len st : Nat) (F : Nat → Nat → D)
  | fv (f : FuncId) (n : Nat) (F : Nat → D)
  | fc (f : FuncId) (n : Nat) (F : Nat → D)
  | ifx (b : Bool)
  | ifd (t : TypeId) (g : Bool) (n : Nat) (F : Nat → D)
abbrev Still := Nat → Nat → Option Value
def Still.le (κ κ' : Still) : Prop := ∀ b o v, κ b o = some v → κ' b o = some v
def D.rel (κ : Still) : D → Value → Prop
  | .int k n, x => x = .int k n
  | .bool b, x => x = .bool b
  | .str s, x => x = .string s
  | .nilp, x => x = .pointer none
  | .op v, x => x = v ∧ v.cells = #[v] ∧ (∀ cs, v ≠ .agg cs) ∧ (∀ cs, v ≠ .tuple cs)
  | .sl q len st F, x => (q = false ∧ len = 0 ∧ x = .slice none 0 0) ∨
      ∃ (a : Addr) (cap : Nat), x = .slice (some a) len cap ∧ len ≤ cap ∧ (0 < len → a.spot = none) ∧ ∀ i j, i < len → j < st → ∃ y, κ a.block (a.off + i * st + j) = some y ∧ D.rel κ (F i j) y
  | .fv f n F, x => ∃ xs : List Value, xs.length = n ∧ x = .func (.func f) #[.agg xs.toArray] #[] ∧ ∀ j, j < n → ∃ y, xs[j]? = some y ∧ D.rel κ (F j) y
  | .fc f n F, x => ∃ a : Addr, x = .func (.func f) #[] #[.pointer (some a)] ∧ a.spot = none ∧ ∀ j, j < n → ∃ y, κ a.block (a.off + j) = some y ∧ D.rel κ (F j) y
  | .ifx b, x => (b = true ∧ x = .nilIface) ∨ (b = false ∧ ∃ t v, x = .iface t v)
  | .ifd t g n F, x => (g = false ∧ ∃ y, x = .iface t y ∧ 0 < n ∧ D.rel κ (F 0) y) ∨ (g = true ∧ ∃ xs : List Value, xs.length = n ∧ x = .iface t (.agg xs.toArray) ∧ ∀ j, j < n → ∃ y, xs[j]? = some y ∧ D.rel κ (F j) y)
theorem D.rel_mono {κ κ' : Still} (h : κ.le κ') : ∀ (d : D) (x : Value), d.rel κ x → d.rel κ' x := by
  intro d
  induction d with
  | sl q len st F ih =>
    intro x r
    simp only [D.rel] at r ⊢
    rcases r with r | ⟨a, cap, h1, h2, h3, h4⟩
    · exact .inl r
    · refine .inr ⟨a, cap, h1, h2, h3, fun i j hi hj => ?_⟩
      obtain ⟨y, hy, hr⟩ := h4 i j hi hj
      exact ⟨y, h _ _ _ hy, ih i j y hr⟩
  | fv f n F ih =>
    intro x r
    simp only [D.rel] at r ⊢
    obtain ⟨xs, h1, h2, h3⟩ := r
    exact ⟨xs, h1, h2, fun j hj => by obtain ⟨y, hy, hr⟩ := h3 j hj; exact ⟨y, hy, ih j y hr⟩⟩
  | fc f n F ih =>
    intro x r
    simp only [D.rel] at r ⊢
    obtain ⟨a, h1, h2, h3⟩ := r
    exact ⟨a, h1, h2, fun j hj => by obtain ⟨y, hy, hr⟩ := h3 j hj; exact ⟨y, h _ _ _ hy, ih j y hr⟩⟩
  | ifd t g n F ih =>
    intro x r
    simp only [D.rel] at r ⊢
    rcases r with ⟨h0, y, h1, h2, h3⟩ | ⟨h0, xs, h1, h2, h3⟩
    · exact .inl ⟨h0, y, h1, h2, ih 0 y h3⟩
    · exact .inr ⟨h0, xs, h1, h2, fun j hj => by obtain ⟨y, hy, hr⟩ := h3 j hj; exact ⟨y, hy, ih j y hr⟩⟩
  | _ => intro x r; exact r
theorem D.rel_cells {κ : Still} {d : D} {x : Value} (r : d.rel κ x) : x.cells = #[x] := by
  cases d <;> simp only [D.rel] at r
  case op v => obtain ⟨rfl, h, _⟩ := r; exact h
  case sl => rcases r with ⟨_, _, rfl⟩ | ⟨a, cap, rfl, _⟩ <;> rfl
  case fv => obtain ⟨xs, _, rfl, _⟩ := r; rfl
  case fc => obtain ⟨a, rfl, _⟩ := r; rfl
  case ifx => rcases r with ⟨_, rfl⟩ | ⟨_, t, v, rfl⟩ <;> rfl
  case ifd => rcases r with ⟨_, y, rfl, _⟩ | ⟨_, xs, _, rfl, _⟩ <;> rfl
  all_goals (subst r; rfl)
theorem D.rel_noAgg {κ : Still} {d : D} {x : Value} (r : d.rel κ x) : (∀ cs, x ≠ .agg cs) ∧ (∀ cs, x ≠ .tuple cs) := by
  cases d <;> simp only [D.rel] at r
  case op v => obtain ⟨rfl, _, h⟩ := r; exact h
  case sl => rcases r with ⟨_, _, rfl⟩ | ⟨a, cap, rfl, _⟩ <;> simp
  case fv => obtain ⟨xs, _, rfl, _⟩ := r; simp
  case fc => obtain ⟨a, rfl, _⟩ := r; simp
  case ifx => rcases r with ⟨_, rfl⟩ | ⟨_, t, v, rfl⟩ <;> simp
  case ifd => rcases r with ⟨_, y, rfl, _⟩ | ⟨_, xs, _, rfl, _⟩ <;> simp
  all_goals (subst r; simp)
inductive Ar where
  | c (d : D)
  | agg (ds : List D)
abbrev Clo := List Ar → Option (List Prop × Ar)
inductive Ex where
  | normal
  | exit (id : Nat)
  | ret
structure Ren where
  nm : Nat → Option (Nat × Nat)
  κ : Still
  cl : Clo → Value → Prop
  k0 : Still
  fx : Nat → Option Obj
  lp : Nat → Option (Nat × Loop)
instance : CoeFun Ren (fun _ => Nat → Option (Nat × Nat)) := ⟨Ren.nm⟩
structure Ren.le (ρ ρ' : Ren) : Prop where
  nm : ∀ m b, ρ m = some b → ρ' m = some b
  κ : ρ.κ.le ρ'.κ
  cl : ρ'.cl = ρ.cl
  k0 : ρ'.k0 = ρ.k0
  fx : ρ'.fx = ρ.fx
  lp : ρ'.lp = ρ.lp
theorem Ren.le_refl (ρ : Ren) : ρ.le ρ := ⟨fun _ _ h => h, fun _ _ _ h => h, rfl, rfl, rfl, rfl⟩
theorem Ren.le_trans {a b c : Ren} (h : a.le b) (k : b.le c) : a.le c := ⟨fun m x e => k.nm m x (h.nm m x e), fun x y z e => k.κ x y z (h.κ x y z e), k.cl.trans h.cl, k.k0.trans h.k0, k.fx.trans h.fx, k.lp.trans h.lp⟩
inductive C where
  | num (k : IntKind) (n : Int)
  | int (k : IntKind) (n : Int)
  | lit (b : Bool)
  | bool (b : Bool)
  | str (s : ByteArray)
  | nil
  | ptr (m off : Nat)
  | nsl
  | sl (m off len cap : Nat)
  | gsl (m len : Nat)
  | fn (f : FuncId) (caps : List (Nat × Nat))
  | op (v : Value)
  | im (d : D)
  | ip (n : Nat) (G : Nat → D)
  | ep (m st i j : Nat)
  | clo (φ : Clo)
  | yl (k : Nat)
  | xl (len st : Nat) (F : Nat → Nat → D)
inductive A where
  | c (x : C)
  | agg (cs : List C)
inductive V where
  | a (x : A)
  | tup (xs : List A)
def PtrRel (ρ : Ren) (p : Nat × Nat) (x : Value) : Prop := ∃ b, ρ p.1 = some b ∧ x = .pointer (some ⟨b.1, p.2, none⟩)
def C.rel (ρ : Ren) : C → Value → Prop
  | .num k n, x => x = .int k n
  | .int k n, x => x = .int k n
  | .lit b, x => x = .bool b
  | .bool b, x => x = .bool b
  | .str s, x => x = .string s
  | .nil, x => x = .pointer none
  | .ptr m off, x => PtrRel ρ (m, off) x
  | .nsl, x => x = .slice none 0 0
  | .sl m off len cap, x => ∃ b, ρ m = some b ∧ x = .slice (some ⟨b.1, off, none⟩) len cap
  | .gsl m len, x => ∃ b, ρ m = some b ∧ x = .slice (some ⟨b.1, 0, none⟩) len b.2
  | .fn f caps, x => ∃ xs : List Value, F2 (PtrRel ρ) caps xs ∧ x = .func (.func f) #[] xs.toArray
  | .op v, x => x = v ∧ v.cells = #[v] ∧ (∀ cs, v ≠ .agg cs)  ∧ (∀ cs, v ≠ .tuple cs)
  | .im d, x => d.rel ρ.κ x
  | .ip n G, x => ∃ a : Addr, x = .pointer (some a) ∧ a.spot = none ∧ ∀ j, j < n → ∃ y, ρ.κ a.block (a.off + j) = some y ∧ (G j).rel ρ.κ y
  | .ep m st i j, x => PtrRel ρ (m, i * st + j) x
  | .clo φ, x => ρ.cl φ x ∧ ∃ f caps, x = .func (.func f) #[] caps
  | .yl k, x => ∃ l r, ρ.lp k = some (l, r) ∧ x = .func (.yield l) #[] #[]
  | .xl len st F, x => (D.sl false len st F).rel ρ.κ x ∧ ∃ ao, x = .slice ao len len
def A.rel (ρ : Ren) : A → Value → Prop
  | .c x, v => x.rel ρ v
  | .agg cs, v => ∃ xs : List Value, F2 (C.rel ρ) cs xs ∧ v = .agg xs.toArray
def V.rel (ρ : Ren) : V → Value → Prop
  | .a x, v => x.rel ρ v
  | .tup xs, v => ∃ ys : List Value, F2 (A.rel ρ) xs ys ∧ v = .tuple ys.toArray
theorem f2_imp {α β : Type} {R S : α → β → Prop} (h : ∀ a b, R a b → S a b) : ∀ {l : List α} {k : List β}, F2 R l k → F2 S l k
  | _, _, .nil => .nil
  | _, _, .cons x xs => .cons (h _ _ x) (f2_imp h xs)
theorem PtrRel.mono {ρ ρ' : Ren} (h : ρ.le ρ') (p : Nat × Nat) (x : Value) : PtrRel ρ p x → PtrRel ρ' p x
  | ⟨b, e, r⟩ => ⟨b, h.nm _ _ e, r⟩
theorem C.rel_mono {ρ ρ' : Ren} (h : ρ.le ρ') (c : C) (x : Value) (r : c.rel ρ x) : c.rel ρ' x := by
  cases c <;> simp only [C.rel] at r ⊢ <;> try exact r
  · exact PtrRel.mono h _ _ r
  · obtain ⟨b, e, r⟩ := r; exact ⟨b, h.nm _ _ e, r⟩
  · obtain ⟨b, e, r⟩ := r; exact ⟨b, h.nm _ _ e, r⟩
  · obtain ⟨xs, e, r⟩ := r; exact ⟨xs, f2_imp (PtrRel.mono h) e, r⟩
  · exact D.rel_mono h.κ _ _ r
  · obtain ⟨a, h1, h2, h3⟩ := r
    exact ⟨a, h1, h2, fun j hj => by obtain ⟨y, hy, hr⟩ := h3 j hj; exact ⟨y, h.κ _ _ _ hy, D.rel_mono h.κ _ _ hr⟩⟩
  · exact PtrRel.mono h _ _ r
  · exact ⟨h.cl ▸ r.1, r.2⟩
  · rw [h.lp]; exact r
  · exact ⟨D.rel_mono h.κ _ _ r.1, r.2⟩
theorem A.rel_mono {ρ ρ' : Ren} (h : ρ.le ρ') (c : A) (x : Value) (r : c.rel ρ x) : c.rel ρ' x := by
  cases c with
  | c y => exact C.rel_mono h y x r
  | agg cs => obtain ⟨xs, e, r⟩ := r; exact ⟨xs, f2_imp (C.rel_mono h) e, r⟩
theorem V.rel_mono {ρ ρ' : Ren} (h : ρ.le ρ') (c : V) (x : Value) (r : c.rel ρ x) : c.rel ρ' x := by
  cases c with
  | a y => exact A.rel_mono h y x r
  | tup cs => obtain ⟨xs, e, r⟩ := r; exact ⟨xs, f2_imp (A.rel_mono h) e, r⟩
theorem C.rel_cells {ρ : Ren} {c : C} {x : Value} (r : c.rel ρ x) : x.cells = #[x] := by
  cases c <;> simp only [C.rel, PtrRel] at r
  case op v => obtain ⟨rfl, h, _⟩ := r; exact h
  case ptr => obtain ⟨b, _, rfl⟩ := r; rfl
  case sl => obtain ⟨b, _, rfl⟩ := r; rfl
  case gsl => obtain ⟨b, _, rfl⟩ := r; rfl
  case fn => obtain ⟨b, _, rfl⟩ := r; rfl
  case im => exact D.rel_cells r
  case ip => obtain ⟨a, rfl, _⟩ := r; rfl
  case ep => obtain ⟨b, _, rfl⟩ := r; rfl
  case clo => obtain ⟨_, f, caps, rfl⟩ := r; rfl
  case yl => obtain ⟨_, _, _, rfl⟩ := r; rfl
  case xl => obtain ⟨_, _, rfl⟩ := r; rfl
  all_goals (subst r; rfl)
theorem C.rel_noAgg {ρ : Ren} {c : C} {x : Value} (r : c.rel ρ x) : (∀ cs, x ≠ .agg cs) ∧ (∀ cs, x ≠ .tuple cs) := by
  cases c <;> simp only [C.rel, PtrRel] at r
  case op v => obtain ⟨rfl, _, h⟩ := r; exact h
  case ptr => obtain ⟨b, _, rfl⟩ := r; simp
  case sl => obtain ⟨b, _, rfl⟩ := r; simp
  case gsl => obtain ⟨b, _, rfl⟩ := r; simp
  case fn => obtain ⟨b, _, rfl⟩ := r; simp
  case im => exact D.rel_noAgg r
  case ip => obtain ⟨a, rfl, _⟩ := r; simp
  case ep => obtain ⟨b, _, rfl⟩ := r; simp
  case clo => obtain ⟨_, f, caps, rfl⟩ := r; simp
  case yl => obtain ⟨_, _, _, rfl⟩ := r; simp
  case xl => obtain ⟨_, _, rfl⟩ := r; simp
  all_goals (subst r; simp)
inductive Blk where
  | known (e : TypeId) (cs : List C)
  | row (e : TypeId) (st len : Nat) (F : Nat → Nat → D)
  | fz (st len : Nat) (F : Nat → Nat → D)
  | fk (st len : Nat) (F : Nat → Nat → D)
  | dead
def Blk.own : Blk → Bool
  | .fz .. => false
  | .fk .. => false
  | .dead => false
  | _ => true
def Blk.cell : Blk → Nat → Option C
  | .known _ cs, o => cs[o]?
  | _, _ => none
def Blk.rel (ρ : Ren) (b : Nat × Nat) (w : World) : Blk → Prop
  | .known e cs => ∃ xs : List Value, F2 (C.rel ρ) cs xs ∧ w.heap[b.1]? = some (.cells xs.toArray e (0, 0))
  | .row e st len F => ∃ xs : List Value, w.heap[b.1]? = some (.cells xs.toArray e (0, 0)) ∧ xs.length = b.2 * st ∧ len ≤ b.2 ∧ b.2 ≤ maxLen ∧ ∀ i j, i < len → j < st → ∃ y, xs[i * st + j]? = some y ∧ (F i j).rel ρ.κ y
  | .fz st len F => len ≤ b.2 ∧ ∀ i j, i < len → j < st → ∃ y, ρ.κ b.1 (i * st + j) = some y ∧ (F i j).rel ρ.κ y
  | .fk st len F => ∀ i j, i < len → j < st → ∃ y, ρ.κ b.1 (i * st + j) = some y ∧ (F i j).rel ρ.κ y
  | .dead => True
theorem f2_get {α β : Type} {R : α → β → Prop} : ∀ {l : List α} {k : List β}, F2 R l k → ∀ {i : Nat} {a : α}, l[i]? = some a → ∃ b, k[i]? = some b ∧ R a b
  | _, _, .nil, i, a, h => by simp at h
  | _, _, .cons (a := a₀) (b := b₀) x xs, 0, a, h => by simp at h; subst h; exact ⟨b₀, rfl, x⟩
  | _, _, .cons x xs, i + 1, a, h => by simp at h; simpa using f2_get xs h
theorem f2_len {α β : Type} {R : α → β → Prop} : ∀ {l : List α} {k : List β}, F2 R l k → l.length = k.length
  | _, _, .nil => rfl
  | _, _, .cons _ xs => by simp [f2_len xs]
theorem f2_set {α β : Type} {R : α → β → Prop} {a : α} {b : β} (h : R a b) : ∀ {l : List α} {k : List β}, F2 R l k → ∀ i, F2 R (l.set i a) (k.set i b)
  | _, _, .nil, i => .nil
  | _, _, .cons x xs, 0 => .cons h xs
  | _, _, .cons x xs, i + 1 => .cons x (f2_set h xs i)
theorem Blk.rel_cell {ρ : Ren} {b : Nat × Nat} {w : World} {k : Blk} (h : k.rel ρ b w) {o : Nat} {c : C} (hc : k.cell o = some c) : ∃ x, c.rel ρ x ∧ w.cell? ⟨b.1, o, none⟩ = some x := by
  cases k with
  | known e cs =>
    obtain ⟨xs, hf, hh⟩ := h
    obtain ⟨x, hx, hr⟩ := f2_get hf hc
    exact ⟨x, hr, by simp [World.cell?, hh, hx]⟩
  | row => simp [Blk.cell] at hc
  | fz => simp [Blk.cell] at hc
  | fk => simp [Blk.cell] at hc
  | dead => simp [Blk.cell] at hc
theorem Blk.rel_mono {ρ ρ' : Ren} (hρ : ρ.le ρ') {b : Nat × Nat} {w w' : World} {k : Blk} (hw : w'.heap[b.1]? = w.heap[b.1]?) (h : k.rel ρ b w) : k.rel ρ' b w' := by
  cases k with
  | known e cs =>
    obtain ⟨xs, hf, hh⟩ := h
    exact ⟨xs, f2_imp (C.rel_mono hρ) hf, by rw [hw]; exact hh⟩
  | row e st len F =>
    obtain ⟨xs, hh, h1, h2, h3, h4⟩ := h
    refine ⟨xs, by rw [hw]; exact hh, h1, h2, h3, fun i j hi hj => ?_⟩
    obtain ⟨y, hy, hr⟩ := h4 i j hi hj
    exact ⟨y, hy, D.rel_mono hρ.κ _ _ hr⟩
  | fz st len F =>
    refine ⟨h.1, fun i j hi hj => ?_⟩
    obtain ⟨y, hy, hr⟩ := h.2 i j hi hj
    exact ⟨y, hρ.κ _ _ _ hy, D.rel_mono hρ.κ _ _ hr⟩
  | fk st len F =>
    intro i j hi hj
    obtain ⟨y, hy, hr⟩ := h i j hi hj
    exact ⟨y, hρ.κ _ _ _ hy, D.rel_mono hρ.κ _ _ hr⟩
  | dead => trivial
theorem Blk.own_cells {ρ : Ren} {b : Nat × Nat} {w : World} {k : Blk} (ho : k.own = true) (h : k.rel ρ b w) : ∃ xs e, w.heap[b.1]? = some (.cells xs e (0, 0)) := by
  cases k with
  | known e cs => obtain ⟨xs, _, hh⟩ := h; exact ⟨_, _, hh⟩
  | row e st len F => obtain ⟨xs, hh, _⟩ := h; exact ⟨_, _, hh⟩
  | _ => cases ho
theorem Blk.rel_mono' {ρ ρ' : Ren} (hρ : ρ.le ρ') {b : Nat × Nat} {w w' : World} {k : Blk} (hk : k.own = false) (h : k.rel ρ b w) : k.rel ρ' b w' := by
  cases k with
  | fz st len F =>
    refine ⟨h.1, fun i j hi hj => ?_⟩
    obtain ⟨y, hy, hr⟩ := h.2 i j hi hj
    exact ⟨y, hρ.κ _ _ _ hy, D.rel_mono hρ.κ _ _ hr⟩
  | fk st len F =>
    intro i j hi hj
    obtain ⟨y, hy, hr⟩ := h i j hi hj
    exact ⟨y, hρ.κ _ _ _ hy, D.rel_mono hρ.κ _ _ hr⟩
  | dead => trivial
  | _ => simp [Blk.own] at hk
def upd {α : Type _} (f : Nat → α) (k : Nat) (v : α) : Nat → α := fun x => match Nat.beq x k with | true => v | false => f x
theorem upd_same {α : Type _} (f : Nat → α) (k : Nat) (v : α) : upd f k v k = v := by simp [upd]
theorem upd_ne {α : Type _} (f : Nat → α) {k x : Nat} (v : α) (h : x ≠ k) : upd f k v x = f x := by
  have : Nat.beq x k = false := by cases hb : Nat.beq x k; rfl; exact absurd (Nat.eq_of_beq_eq_true hb) h
  simp [upd, this]
structure S where
  tm : Nat → Option V
  hp : Nat → Option Blk
  st : Nat → Option Ex
def lpObj (r : Loop) : Option Ex → Obj
  | none => .loop { r with state := .ready, pending := none }
  | some .normal => .loop { r with state := .busy, pending := none }
  | some (.exit id) => .loop { r with state := .done, pending := some (.exit id) }
  | some .ret => .loop { r with state := .done, pending := some .ret }
theorem lpObj_loop (r : Loop) (e : Option Ex) : ∃ q, lpObj r e = .loop q := by
  cases e with
  | none => exact ⟨_, rfl⟩
  | some e => cases e <;> exact ⟨_, rfl⟩
theorem lpObj_cells (r : Loop) (e : Option Ex) : (lpObj r e).isCells = false := by
  cases e with
  | none => rfl
  | some e => cases e <;> rfl
def Lies (κ : Still) (w : World) : Prop := ∀ b o v, κ b o = some v → b < w.heap.size ∧ w.cell? ⟨b, o, none⟩ = some v
def Marks (w0 : World) (l : List Deferred) (w : World) : Prop :=
  ∃ Ds : List Nat, l = Ds.map (fun D => { target := .collected D, args := #[] }) ∧ Ds.Nodup ∧ ∀ D, D ∈ Ds → w0.heap.size ≤ D ∧ w.heap[D]? = some (.deferred (some []))
theorem Marks.mono {w0 w w' : World} {l : List Deferred} (h : Marks w0 l w) (hw : ∀ D : Nat, w.heap[D]? = some (Obj.deferred (some [])) → w'.heap[D]? = w.heap[D]?) : Marks w0 l w' := by
  obtain ⟨Ds, h1, h2, h3⟩ := h
  exact ⟨Ds, h1, h2, fun D hD => ⟨(h3 D hD).1, (hw D (h3 D hD).2).trans (h3 D hD).2⟩⟩
structure Rel (w0 : World) (N : Nat) (ρ : Ren) (s : S) (a : Act) (w : World) : Prop where
  sz : a.tmps.size = N
  bel : Below w0.heap.size w0 w
  df : Marks w0 a.defers w
  tm : ∀ t v, s.tm t = some v → t < N ∧ v.rel ρ (a.tmps.getD t undef)
  dom : ∀ m, s.hp m = none → ρ m = none
  hp : ∀ m k, s.hp m = some k → ∃ b, ρ m = some b ∧ b.1 < w.heap.size ∧ k.rel ρ b w ∧ w0.heap.size ≤ b.1
  inj : ∀ m m' k k' b b', s.hp m = some k → s.hp m' = some k' → k.own = true → k'.own = true → ρ m = some b → ρ m' = some b' → m ≠ m' → b.1 ≠ b'.1
  im : Lies ρ.κ w
  dis : ∀ m k b o, s.hp m = some k → k.own = true → ρ m = some b → ρ.κ b.1 o = none
  old : ∀ b o v, ρ.κ b o = some v → b < w0.heap.size → ρ.k0 b o = some v
  fx : ∀ b o, ρ.fx b = some o → o.isCells = false ∧ w.heap[b]? = some o
  lp : ∀ k l r, ρ.lp k = some (l, r) → w.heap[l]? = some (lpObj r (s.st k))
  dfx : ∀ d D, d ∈ a.defers → d.target = .collected D → ρ.fx D = none
structure Eff where
  val : Option V
  nw : List Blk
  wr : List (Nat × Blk)
def addNews (c : Nat) : List Blk → (Nat → Option Blk) → Nat → Option Blk
  | [], h => h
  | b :: bs, h => addNews (c + 1) bs (upd h c (some b))
def wrs : List (Nat × Blk) → (Nat → Option Blk) → Nat → Option Blk
  | [], h => h
  | (m, b) :: l, h => wrs l (upd h m (some b))
def act (dst : Option Tmp) (c : Nat) (e : Eff) (s : S) : S :=
  { tm := match dst with | some d => upd s.tm d e.val | none => s.tm
    hp := addNews c e.nw (wrs e.wr s.hp)
    st := s.st }
theorem addNews_out {c m : Nat} : ∀ {bs : List Blk} {h : Nat → Option Blk}, (m < c ∨ c + bs.length ≤ m) → addNews c bs h m = h m := by
  intro bs
  induction bs generalizing c with
  | nil => intro h _; rfl
  | cons b bs ih =>
    intro h hm
    simp only [addNews, List.length_cons] at hm ⊢
    rw [ih (by omega), upd_ne _ _ (by omega)]
theorem addNews_in {c : Nat} : ∀ {bs : List Blk} {h : Nat → Option Blk} {i : Nat}, i < bs.length → addNews c bs h (c + i) = bs[i]? := by
  intro bs
  induction bs generalizing c with
  | nil => intro h i hi; simp at hi
  | cons b bs ih =>
    intro h i hi
    cases i with
    | zero => simp only [addNews]; rw [addNews_out (.inl (by omega))]; simp [upd_same]
    | succ i =>
      have := ih (c := c + 1) (h := upd h c (some b)) (i := i) (by simpa using hi)
      simp only [addNews]
      rw [show c + (i + 1) = c + 1 + i by omega, this]; simp
theorem wrs_out {m : Nat} : ∀ {l : List (Nat × Blk)} {h : Nat → Option Blk}, (∀ p, p ∈ l → p.1 ≠ m) → wrs l h m = h m := by
  intro l
  induction l with
  | nil => intro h _; rfl
  | cons p l ih =>
    intro h hm
    obtain ⟨m', b⟩ := p
    simp only [wrs]
    rw [ih fun q hq => hm q (List.mem_cons_of_mem _ hq), upd_ne _ _ (fun e => hm (m', b) (List.mem_cons_self ..) e.symm)]
theorem wrs_in {m : Nat} : ∀ {l : List (Nat × Blk)} {h : Nat → Option Blk}, (∃ p, p ∈ l ∧ p.1 = m) → ∃ k, (m, k) ∈ l ∧ ∀ h', wrs l h' m = some k := by
  intro l
  induction l with
  | nil => intro h ⟨p, hp, _⟩; cases hp
  | cons p l ih =>
    intro h hm
    obtain ⟨m', b⟩ := p
    by_cases e : ∃ p, p ∈ l ∧ p.1 = m
    · obtain ⟨k, h1, h2⟩ := ih (h := h) e
      exact ⟨k, List.mem_cons_of_mem _ h1, fun h' => by simp only [wrs]; exact h2 _⟩
    · have hm' : m' = m := by
        obtain ⟨q, hq, hqm⟩ := hm
        rcases List.mem_cons.1 hq with rfl | hq
        · exact hqm
        · exact absurd ⟨q, hq, hqm⟩ e
      subst hm'
      refine ⟨b, List.mem_cons_self .., fun h' => ?_⟩
      simp only [wrs]
      rw [wrs_out fun q hq he => e ⟨q, hq, he⟩, upd_same]
theorem put_getD (a : Act) (dst : Option Tmp) (v : Value) (t : Nat) (ht : t < a.tmps.size) :
    (a.put dst v).tmps.getD t undef = if dst = some t then v else a.tmps.getD t undef := by
  cases dst with
  | none => simp [Act.put]
  | some d =>
    simp only [Act.put, Array.getD_eq_getD_getElem?, Array.getElem?_setIfInBounds]
    by_cases h : d = t
    · subst h; simp [ht]
    · have : ¬ (some d = some t) := by simpa using h
      simp [h]
theorem put_size (a : Act) (dst : Option Tmp) (v : Value) : (a.put dst v).tmps.size = a.tmps.size := by
  cases dst <;> simp [Act.put]
theorem put_defers (a : Act) (dst : Option Tmp) (v : Value) : (a.put dst v).defers = a.defers := by
  cases dst <;> simp [Act.put]
theorem Rel.tm_put {w0 : World} {N : Nat} {ρ ρ' : Ren} {s : S} {a : Act} {w : World} (h : Rel w0 N ρ s a w) (hρ : ρ.le ρ') {dst : Option Tmp} {val : Option V} {x : Value}
    (hd : ∀ d, dst = some d → d < N) (hv : ∀ v, dst ≠ none → val = some v → v.rel ρ' x) :
    ∀ t v, (match dst with | some d => upd s.tm d val | none => s.tm) t = some v → t < N ∧ v.rel ρ' ((a.put dst x).tmps.getD t undef) := by
  intro t v ht
  cases dst with
  | none => obtain ⟨h1, h2⟩ := h.tm t v ht; exact ⟨h1, V.rel_mono hρ _ _ h2⟩
  | some d =>
    by_cases e : t = d
    · subst e
      have hlt := hd t rfl
      simp only [upd_same] at ht
      refine ⟨hlt, ?_⟩
      rw [put_getD _ _ _ _ (by rw [h.sz]; exact hlt), if_pos rfl]
      exact hv v (by simp) ht
    · simp only [upd_ne _ _ e] at ht
      obtain ⟨h1, h2⟩ := h.tm t v ht
      refine ⟨h1, ?_⟩
      rw [put_getD _ _ _ _ (by rw [h.sz]; exact h1), if_neg (by simpa using fun h => e h.symm)]
      exact V.rel_mono hρ _ _ h2
def wblk (ρ : Ren) (wr : List (Nat × Blk)) (i : Nat) : Prop := ∃ p b, p ∈ wr ∧ ρ p.1 = some b ∧ b.1 = i
theorem Rel.step {w0 : World} {N : Nat} {ρ ρ' : Ren} {s : S} {a : Act} {w w' : World} (h : Rel w0 N ρ s a w) {dst : Option Tmp} {c : Nat} {e : Eff} {x : Value}
    (hd : ∀ d, dst = some d → d < N) (hρ : ρ.le ρ')
    (ho : w'.os = w.os) (ht : w'.tape = w.tape) (hu : w'.output = w.output) (hsz : w.heap.size ≤ w'.heap.size)
    (hframe : ∀ i, i < w.heap.size → ¬ wblk ρ e.wr i → w'.heap[i]? = w.heap[i]?)
    (hnew : ∀ m, ρ m = none → (m < c ∨ c + e.nw.length ≤ m) → ρ' m = none)
    (hfresh : ∀ i, i < e.nw.length → s.hp (c + i) = none)
    (hv : ∀ v, dst ≠ none → e.val = some v → v.rel ρ' x)
    (hwr : ∀ p, p ∈ e.wr → (∃ k, s.hp p.1 = some k ∧ k.own = true) ∧ ∀ b, ρ p.1 = some b → p.2.rel ρ' b w')
    (hk : ∀ i k, e.nw[i]? = some k → ∃ b, ρ' (c + i) = some b ∧ b.1 < w'.heap.size ∧ k.rel ρ' b w' ∧
      (w.heap.size ≤ b.1 ∨ ∃ p b0, p ∈ e.wr ∧ ρ p.1 = some b0 ∧ b.1 = b0.1 ∧ ∀ q, q ∈ e.wr → q.1 = p.1 → q.2.own = false))
    (hi : ∀ i j b b', i < e.nw.length → j < e.nw.length → i ≠ j → ρ' (c + i) = some b → ρ' (c + j) = some b' → b.1 ≠ b'.1)
    (hκ : ∀ b o v, ρ'.κ b o = some v → ρ.κ b o = some v ∨ ((w.heap.size ≤ b ∨ ∃ p b0, p ∈ e.wr ∧ ρ p.1 = some b0 ∧ b = b0.1 ∧ ∀ q, q ∈ e.wr → q.1 = p.1 → q.2.own = false) ∧
      b < w'.heap.size ∧ w'.cell? ⟨b, o, none⟩ = some v ∧ ∀ i k b', e.nw[i]? = some k → k.own = true → ρ' (c + i) = some b' → b'.1 ≠ b)) :
    Rel w0 N ρ' (act dst c e s) (a.put dst x) w' := by
  have hwb : ∀ i, wblk ρ e.wr i → w0.heap.size ≤ i := by
    rintro i ⟨p, b, hp, hb, rfl⟩
    obtain ⟨⟨k, h2, _⟩, _⟩ := hwr p hp
    obtain ⟨b2, g1, g2, g3, g4⟩ := h.hp _ _ h2
    rw [hb] at g1; cases g1
    exact g4
  -- an old own block that is none of those written
  have apart : ∀ m k b i, s.hp m = some k → k.own = true → ρ m = some b → (∀ p, p ∈ e.wr → p.1 ≠ m) → wblk ρ e.wr i → b.1 ≠ i := by
    rintro m k b i hm hk0 hb hno ⟨p, b2, hp, hb2, rfl⟩
    obtain ⟨⟨k2, h2, h3⟩, _⟩ := hwr p hp
    exact h.inj m p.1 k k2 b b2 hm h2 hk0 h3 hb hb2 (fun e => hno p hp e.symm)
  have old : ∀ m b, ρ' m = some b → (m < c ∨ c + e.nw.length ≤ m) → ρ m = some b := by
    intro m b hm hin
    cases hr : ρ m with
    | none => rw [hnew m hr hin] at hm; cases hm
    | some b' => rw [hρ.nm _ _ hr] at hm; exact hm
  have isold : ∀ m b, ρ m = some b → b.1 < w.heap.size := by
    intro m b hm
    cases hr : s.hp m with
    | none => rw [h.dom m hr] at hm; cases hm
    | some k => obtain ⟨b', h1, h2, _⟩ := h.hp m k hr; rw [hm] at h1; cases h1; exact h2
  have hpout : ∀ m, (m < c ∨ c + e.nw.length ≤ m) → (act dst c e s).hp m = wrs e.wr s.hp m := fun m hin => by simp only [act]; exact addNews_out hin
  have hpin : ∀ m, ¬ (m < c ∨ c + e.nw.length ≤ m) → (act dst c e s).hp m = e.nw[m - c]? := fun m hin => by
    simp only [act]
    have := addNews_in (c := c) (bs := e.nw) (h := wrs e.wr s.hp) (i := m - c) (by omega)
    rw [show c + (m - c) = m by omega] at this
    exact this
  -- what an own block of the new state is
  have kinds : ∀ m k b, (act dst c e s).hp m = some k → k.own = true → ρ' m = some b →
      (ρ m = some b ∧ (m < c ∨ c + e.nw.length ≤ m) ∧ (∃ k0, s.hp m = some k0 ∧ k0.own = true) ∧ (∀ p, p ∈ e.wr → p.1 = m → ∃ q, q ∈ e.wr ∧ q.1 = m ∧ q.2.own = true)) ∨
      (¬ (m < c ∨ c + e.nw.length ≤ m) ∧ e.nw[m - c]? = some k) := by
    intro m k b hm hk0 hb
    by_cases hin : m < c ∨ c + e.nw.length ≤ m
    · rw [hpout m hin] at hm
      by_cases hw : ∃ p, p ∈ e.wr ∧ p.1 = m
      · obtain ⟨k2, h1, h2⟩ := wrs_in (h := s.hp) hw
        rw [h2] at hm; cases hm
        obtain ⟨hold, _⟩ := hwr _ h1
        exact .inl ⟨old m b hb hin, hin, hold, fun p hp hpm => ⟨_, h1, rfl, hk0⟩⟩
      · rw [wrs_out fun p hp e => hw ⟨p, hp, e⟩] at hm
        exact .inl ⟨old m b hb hin, hin, ⟨k, hm, hk0⟩, fun p hp hpm => absurd ⟨p, hp, hpm⟩ hw⟩
    · rw [hpin m hin] at hm
      exact .inr ⟨hin, hm⟩
  have stay : ∀ (b : Nat) (o : Obj), o.isCells = false → w.heap[b]? = some o → w'.heap[b]? = some o := by
    intro D o ho h3
    have hlt : D < w.heap.size := (Array.getElem?_eq_some_iff.1 h3).1
    refine (hframe D hlt ?_).trans h3
    rintro ⟨p, b, hp, hb, rfl⟩
    obtain ⟨⟨k, g1, g2⟩, _⟩ := hwr p hp
    obtain ⟨b2, i1, _, i3, _⟩ := h.hp _ _ g1
    rw [hb] at i1; cases i1
    obtain ⟨xs, e, hx⟩ := Blk.own_cells g2 i3
    rw [h3] at hx; cases hx; cases ho
  constructor
  · rw [put_size]; exact h.sz
  · refine h.bel.trans ⟨ho, ht, hu, hsz, fun i hi0 => hframe i (Nat.lt_of_lt_of_le hi0 h.bel.size) fun hw => ?_⟩
    have := hwb i hw; omega
  · rw [put_defers]
    refine h.df.mono fun D h3 => ?_
    have hlt : D < w.heap.size := (Array.getElem?_eq_some_iff.1 h3).1
    refine hframe D hlt ?_
    rintro ⟨p, b, hp, hb, rfl⟩
    obtain ⟨⟨k, g1, g2⟩, _⟩ := hwr p hp
    obtain ⟨b2, i1, _, i3, _⟩ := h.hp _ _ g1
    rw [hb] at i1; cases i1
    obtain ⟨xs, e, hx⟩ := Blk.own_cells g2 i3
    rw [h3] at hx; cases hx
  · exact h.tm_put hρ hd hv
  · intro m hm
    by_cases hin : m < c ∨ c + e.nw.length ≤ m
    · rw [hpout m hin] at hm
      by_cases hw : ∃ p, p ∈ e.wr ∧ p.1 = m
      · obtain ⟨k2, _, h2⟩ := wrs_in (h := s.hp) hw
        rw [h2] at hm; cases hm
      · rw [wrs_out fun p hp e => hw ⟨p, hp, e⟩] at hm
        exact hnew m (h.dom m hm) hin
    · exfalso
      rw [hpin m hin] at hm
      rw [List.getElem?_eq_none_iff] at hm
      omega
  · intro m k hm
    by_cases hin : m < c ∨ c + e.nw.length ≤ m
    · rw [hpout m hin] at hm
      by_cases hw : ∃ p, p ∈ e.wr ∧ p.1 = m
      · obtain ⟨k2, h1, h2⟩ := wrs_in (h := s.hp) hw
        rw [h2] at hm; cases hm
        obtain ⟨⟨k0, hk0, _⟩, hrel⟩ := hwr _ h1
        obtain ⟨b, g1, g2, g3, g4⟩ := h.hp _ _ hk0
        exact ⟨b, hρ.nm _ _ g1, Nat.lt_of_lt_of_le g2 hsz, hrel b g1, g4⟩
      · rw [wrs_out fun p hp e => hw ⟨p, hp, e⟩] at hm
        obtain ⟨b, g1, g2, g3, g4⟩ := h.hp m k hm
        refine ⟨b, hρ.nm _ _ g1, Nat.lt_of_lt_of_le g2 hsz, ?_, g4⟩
        cases hown : k.own with
        | false => exact Blk.rel_mono' hρ hown g3
        | true =>
          refine Blk.rel_mono hρ (hframe _ g2 fun hwb' => ?_) g3
          exact apart m k b _ hm hown g1 (fun p hp e => hw ⟨p, hp, e⟩) hwb' rfl
    · rw [hpin m hin] at hm
      obtain ⟨b, g1, g2, g3, g4⟩ := hk (m - c) k hm
      rw [show c + (m - c) = m by omega] at g1
      refine ⟨b, g1, g2, g3, ?_⟩
      rcases g4 with g4 | ⟨p, b0, hp, hb0, hbb, _⟩
      · exact Nat.le_trans h.bel.size g4
      · rw [hbb]; exact hwb _ ⟨p, b0, hp, hb0, rfl⟩
  · intro m m' k k' b b' hm hm' ok ok' hb hb' hne
    -- a new one against an old one
    have mixed : ∀ m m' k b b', (ρ m = some b ∧ (m < c ∨ c + e.nw.length ≤ m) ∧ (∃ k0, s.hp m = some k0 ∧ k0.own = true) ∧ (∀ p, p ∈ e.wr → p.1 = m → ∃ q, q ∈ e.wr ∧ q.1 = m ∧ q.2.own = true)) →
        (¬ (m' < c ∨ c + e.nw.length ≤ m') ∧ e.nw[m' - c]? = some k) → ρ' m' = some b' → b.1 ≠ b'.1 := by
      intro m m' k b b' ⟨h1, h2, ⟨k0, h3, h3'⟩, h4⟩ ⟨i1, i2⟩ hb'
      obtain ⟨b2, g1, g2, g3, g4⟩ := hk (m' - c) k i2
      rw [show c + (m' - c) = m' by omega, hb'] at g1; cases g1
      rcases g4 with g4 | ⟨p, b0, hp, hb0, hbb, hall⟩
      · have := isold _ _ h1; omega
      · rw [hbb]
        obtain ⟨⟨k2, j2, j3⟩, _⟩ := hwr p hp
        by_cases e1 : m = p.1
        · obtain ⟨q, hq, hqm, hqo⟩ := h4 p hp e1.symm
          have := hall q hq (by rw [hqm, e1])
          rw [hqo] at this; cases this
        · exact h.inj m p.1 k0 k2 b b0 h3 j2 h3' j3 h1 hb0 e1
    rcases kinds m k b hm ok hb with o1 | o1 <;> rcases kinds m' k' b' hm' ok' hb' with o2 | o2
    · obtain ⟨h1, h2, ⟨k0, h3, h3'⟩, _⟩ := o1
      obtain ⟨i1, i2, ⟨j0, i3, i3'⟩, _⟩ := o2
      exact h.inj m m' k0 j0 b b' h3 i3 h3' i3' h1 i1 hne
    · exact mixed m m' k' b b' o1 o2 hb'
    · exact (mixed m' m k b' b o2 o1 hb).symm
    · have e1 : c + (m - c) = m := by have := o1.1; omega
      have e2 : c + (m' - c) = m' := by have := o2.1; omega
      exact hi (m - c) (m' - c) b b' (by have := o1.1; omega) (by have := o2.1; omega) (by omega) (by rw [e1]; exact hb) (by rw [e2]; exact hb')
  · intro b o v hbo
    rcases hκ b o v hbo with hbo | ⟨_, h2, h3, _⟩
    · obtain ⟨g1, g2⟩ := h.im b o v hbo
      refine ⟨Nat.lt_of_lt_of_le g1 hsz, ?_⟩
      refine (World.cell?_of_block (w := w) (hframe b g1 ?_)).trans g2
      rintro ⟨p, b2, hp, hb2, rfl⟩
      obtain ⟨⟨k2, j2, j3⟩, _⟩ := hwr p hp
      rw [h.dis p.1 k2 b2 o j2 j3 hb2] at hbo; cases hbo
    · exact ⟨h2, h3⟩
  · intro m k b o hm ok hb
    cases hko : ρ'.κ b.1 o with
    | none => rfl
    | some v =>
      exfalso
      rcases kinds m k b hm ok hb with ⟨h1, h2, ⟨k0, h3, h3'⟩, h4⟩ | ⟨i1, i2⟩
      · rcases hκ _ _ _ hko with hbo | ⟨hor, _⟩
        · rw [h.dis m k0 b o h3 h3' h1] at hbo; cases hbo
        · rcases hor with hge | ⟨p, b0, hp, hb0, hbb, hall⟩
          · have := isold _ _ h1; omega
          · obtain ⟨⟨k2, j2, j3⟩, _⟩ := hwr p hp
            by_cases e1 : m = p.1
            · obtain ⟨q, hq, hqm, hqo⟩ := h4 p hp e1.symm
              have := hall q hq (by rw [hqm, e1])
              rw [hqo] at this; cases this
            · exact h.inj m p.1 k0 k2 b b0 h3 j2 h3' j3 h1 hb0 e1 hbb
      · have e1 : c + (m - c) = m := by omega
        rcases hκ _ _ _ hko with hbo | ⟨_, _, _, hne⟩
        · obtain ⟨b2, g1, g2, g3, g4⟩ := hk (m - c) k i2
          rw [e1, hb] at g1; cases g1
          rcases g4 with g4 | ⟨p, b0, hp, hb0, hbb, hall⟩
          · have := (h.im _ _ _ hbo).1; omega
          · obtain ⟨⟨k2, j2, j3⟩, _⟩ := hwr p hp
            rw [hbb, h.dis p.1 k2 b0 o j2 j3 hb0] at hbo; cases hbo
        · exact hne (m - c) k b i2 ok (by rw [e1]; exact hb) rfl
  · intro b o v hv hlt
    rw [hρ.k0]
    rcases hκ b o v hv with h1 | ⟨h1, _⟩
    · exact h.old b o v h1 hlt
    · exfalso
      rcases h1 with h1 | ⟨p, b0, hp, hb0, rfl, _⟩
      · have := h.bel.size; omega
      · have := hwb b0.1 ⟨p, b0, hp, hb0, rfl⟩; omega
  · intro b o hb
    rw [hρ.fx] at hb
    obtain ⟨g1, g2⟩ := h.fx b o hb
    exact ⟨g1, stay b o g1 g2⟩
  · intro k l r hk
    rw [hρ.lp] at hk
    exact stay l _ (lpObj_cells r _) (h.lp k l r hk)
  · rw [put_defers, hρ.fx]; exact h.dfx
end Go.V
end

section
namespace Go.V
structure Rec where
  c : Nat
  e : Option Eff
  rd : List Nat
def skip (dst : Option Tmp) (s : S) : S := { s with tm := match dst with | some d => upd s.tm d none | none => s.tm }
def doit (dst : Option Tmp) (r : Rec) (s : S) : S := match r.e with | some e => act dst r.c e s | none => skip dst s
def names (c : Nat) : Nat → List Nat
  | 0 => []
  | n + 1 => c :: names (c + 1) n
theorem mem_names {c m : Nat} : ∀ {n : Nat}, m ∈ names c n ↔ c ≤ m ∧ m < c + n := by
  intro n
  induction n generalizing c with
  | zero => simp [names]
  | succ n ih => simp only [names, List.mem_cons, ih]; omega
def Rec.touch (r : Rec) : List Nat :=
  match r.e with
  | some e => e.wr.map (·.1) ++ names r.c e.nw.length
  | none => []
abbrev Item := Option Tmp × Rec
def runL (D : Nat → Bool) : List Item → Nat → S → S
  | [], _, s => s
  | x :: l, i, s => runL D l (i + 1) (if D i then doit x.1 x.2 s else s)
theorem doit_tm_ne (x : Item) (s : S) (t : Nat) (h : x.1 ≠ some t) : (doit x.1 x.2 s).tm t = s.tm t := by
  obtain ⟨d, r⟩ := x
  cases d with
  | none => unfold doit; split <;> rfl
  | some d =>
    have hne : t ≠ d := fun e => h (by simp [e])
    unfold doit
    split
    · simp only [act]; exact upd_ne _ _ hne
    · simp only [skip]; exact upd_ne _ _ hne
theorem doit_tm_eq (x : Item) (s s' : S) (t : Nat) (h : x.1 = some t) : (doit x.1 x.2 s).tm t = (doit x.1 x.2 s').tm t := by
  obtain ⟨d, r⟩ := x
  simp only at h; subst h
  unfold doit
  split
  · simp only [act, upd_same]
  · simp only [skip, upd_same]
theorem doit_hp_ne (x : Item) (s : S) (m : Nat) (h : m ∉ x.2.touch) : (doit x.1 x.2 s).hp m = s.hp m := by
  obtain ⟨d, r⟩ := x
  unfold doit
  simp only [Rec.touch] at h
  split
  · rename_i e he
    rw [he] at h
    simp only [List.mem_append, mem_names, not_or] at h
    simp only [act]
    rw [addNews_out (by omega)]
    refine wrs_out fun p hp hpm => h.1 ?_
    rw [← hpm]
    exact List.mem_map_of_mem hp
  · rfl
theorem addNews_congr {m : Nat} : ∀ {bs : List Blk} {c : Nat} {h h' : Nat → Option Blk}, h m = h' m → addNews c bs h m = addNews c bs h' m := by
  intro bs
  induction bs with
  | nil => intro c h h' e; exact e
  | cons b bs ih =>
    intro c h h' e
    simp only [addNews]
    refine ih ?_
    by_cases hm : m = c
    · subst hm; simp [upd_same]
    · simp [upd_ne _ _ hm, e]
theorem doit_hp_eq (x : Item) (s s' : S) (m : Nat) (h : m ∈ x.2.touch) : (doit x.1 x.2 s).hp m = (doit x.1 x.2 s').hp m := by
  obtain ⟨d, r⟩ := x
  unfold doit
  simp only [Rec.touch] at h
  split
  · rename_i e he
    rw [he] at h
    simp only [List.mem_append, mem_names] at h
    simp only [act]
    by_cases hn : r.c ≤ m ∧ m < r.c + e.nw.length
    · have k1 := fun (h : Nat → Option Blk) => addNews_in (c := r.c) (bs := e.nw) (h := h) (i := m - r.c) (by omega)
      rw [show r.c + (m - r.c) = m by omega] at k1
      rw [k1, k1]
    · have hw := h.resolve_right hn
      refine addNews_congr ?_
      obtain ⟨p, hp, hpm⟩ := List.mem_map.1 hw
      obtain ⟨k, _, h2⟩ := wrs_in (h := s.hp) ⟨p, hp, hpm⟩
      rw [h2, h2]
  · rename_i he; rw [he] at h; simp at h
theorem runL_tm {D D' : Nat → Bool} {t : Nat} : ∀ (l : List Item) (i : Nat) (s s' : S), s.tm t = s'.tm t →
    (∀ k x, l[k]? = some x → x.1 = some t → D (i + k) = D' (i + k)) → (runL D l i s).tm t = (runL D' l i s').tm t := by
  intro l
  induction l with
  | nil => intro i s s' h _; exact h
  | cons x l ih =>
    intro i s s' h hd
    simp only [runL]
    refine ih _ _ _ ?_ (fun k y hk hy => ?_)
    · by_cases ht : x.1 = some t
      · have e := hd 0 x rfl ht
        simp only [Nat.add_zero] at e
        rw [e]; split
        · exact doit_tm_eq x _ _ t ht
        · exact h
      · have a1 : (if D i = true then doit x.1 x.2 s else s).tm t = s.tm t := by split; exact doit_tm_ne x s t ht; rfl
        have a2 : (if D' i = true then doit x.1 x.2 s' else s').tm t = s'.tm t := by split; exact doit_tm_ne x s' t ht; rfl
        rw [a1, a2]; exact h
    · have := hd (k + 1) y (by simpa using hk) hy
      rw [show i + (k + 1) = i + 1 + k by omega] at this; exact this
theorem runL_hp {D D' : Nat → Bool} {m : Nat} : ∀ (l : List Item) (i : Nat) (s s' : S), s.hp m = s'.hp m →
    (∀ k x, l[k]? = some x → m ∈ x.2.touch → D (i + k) = D' (i + k)) → (runL D l i s).hp m = (runL D' l i s').hp m := by
  intro l
  induction l with
  | nil => intro i s s' h _; exact h
  | cons x l ih =>
    intro i s s' h hd
    simp only [runL]
    refine ih _ _ _ ?_ (fun k y hk hy => ?_)
    · by_cases ht : m ∈ x.2.touch
      · have e := hd 0 x rfl ht
        simp only [Nat.add_zero] at e
        rw [e]; split
        · exact doit_hp_eq x _ _ m ht
        · exact h
      · have a1 : (if D i = true then doit x.1 x.2 s else s).hp m = s.hp m := by split; exact doit_hp_ne x s m ht; rfl
        have a2 : (if D' i = true then doit x.1 x.2 s' else s').hp m = s'.hp m := by split; exact doit_hp_ne x s' m ht; rfl
        rw [a1, a2]; exact h
    · have := hd (k + 1) y (by simpa using hk) hy
      rw [show i + (k + 1) = i + 1 + k by omega] at this; exact this
theorem doit_st (d : Option Tmp) (r : Rec) (s : S) : (doit d r s).st = s.st := by
  unfold doit
  split <;> rfl
theorem runL_st {D : Nat → Bool} : ∀ (l : List Item) (i : Nat) (s : S), (runL D l i s).st = s.st
  | [], _, _ => rfl
  | x :: l, i, s => by
    simp only [runL]
    rw [runL_st l]
    split
    · exact doit_st _ _ _
    · rfl
theorem doit_comm (x y : Item) (s : S) (h1 : ∀ d, x.1 = some d → y.1 ≠ some d) (h2 : ∀ m, m ∈ x.2.touch → m ∉ y.2.touch) :
    doit x.1 x.2 (doit y.1 y.2 s) = doit y.1 y.2 (doit x.1 x.2 s) := by
  have ext : ∀ a b : S, (∀ t, a.tm t = b.tm t) → (∀ m, a.hp m = b.hp m) → a.st = b.st → a = b := by
    intro a b ht hm hs; cases a; cases b; simp only [S.mk.injEq]; exact ⟨funext ht, funext hm, hs⟩
  refine ext _ _ (fun t => ?_) (fun m => ?_) (by rw [doit_st, doit_st, doit_st, doit_st])
  · by_cases hx : x.1 = some t
    · rw [doit_tm_ne y _ t (h1 t hx)]
      exact doit_tm_eq x _ _ t hx
    · rw [doit_tm_ne x _ t hx]
      by_cases hy : y.1 = some t
      · exact doit_tm_eq y _ _ t hy
      · rw [doit_tm_ne y _ t hy, doit_tm_ne y _ t hy, doit_tm_ne x _ t hx]
  · by_cases hx : m ∈ x.2.touch
    · rw [doit_hp_ne y _ m (h2 m hx)]
      exact doit_hp_eq x _ _ m hx
    · rw [doit_hp_ne x _ m hx]
      by_cases hy : m ∈ y.2.touch
      · exact doit_hp_eq y _ _ m hy
      · rw [doit_hp_ne y _ m hy, doit_hp_ne y _ m hy, doit_hp_ne x _ m hx]
theorem runL_comm {D : Nat → Bool} (x : Item) : ∀ (l : List Item) (i : Nat) (s : S),
    (∀ k y, l[k]? = some y → D (i + k) = true → ∀ s, doit y.1 y.2 (doit x.1 x.2 s) = doit x.1 x.2 (doit y.1 y.2 s)) →
    runL D l i (doit x.1 x.2 s) = doit x.1 x.2 (runL D l i s) := by
  intro l
  induction l with
  | nil => intro i s _; rfl
  | cons y l ih =>
    intro i s h
    simp only [runL]
    have h0 := h 0 y rfl
    simp only [Nat.add_zero] at h0
    have e : (if D i = true then doit y.1 y.2 (doit x.1 x.2 s) else doit x.1 x.2 s) = doit x.1 x.2 (if D i = true then doit y.1 y.2 s else s) := by
      split
      · rename_i hd; exact h0 hd s
      · rfl
    rw [e]
    exact ih _ _ (fun k z hk hd => h (k + 1) z (by simpa using hk) (by rw [show i + (k + 1) = i + 1 + k by omega]; exact hd))
theorem runL_ins {D D' : Nat → Bool} (x : Item) : ∀ (l : List Item) (i j : Nat) (s : S), l[j]? = some x → D (i + j) = false → D' (i + j) = true → (∀ k, k ≠ i + j → D' k = D k) →
    (∀ k y, l[k]? = some y → j < k → D (i + k) = true → ∀ s, doit y.1 y.2 (doit x.1 x.2 s) = doit x.1 x.2 (doit y.1 y.2 s)) →
    runL D' l i s = doit x.1 x.2 (runL D l i s) := by
  intro l
  induction l with
  | nil => intro i j s h; simp at h
  | cons y l ih =>
    intro i j s hj hD hD' hoff hc
    cases j with
    | zero =>
      simp at hj; subst hj
      simp only [Nat.add_zero] at hD hD' hoff
      simp only [runL, hD, hD', if_true, Bool.false_eq_true, if_false]
      have e : ∀ s, runL D' l (i + 1) s = runL D l (i + 1) s := by
        have : ∀ (l : List Item) (k : Nat), i < k → ∀ s, runL D' l k s = runL D l k s := by
          intro l
          induction l with
          | nil => intro k _ s; rfl
          | cons z l ih2 =>
            intro k hk s
            simp only [runL]
            rw [hoff k (by omega)]
            exact ih2 _ (by omega) _
        exact this l (i + 1) (by omega)
      rw [e]
      exact runL_comm y l (i + 1) s (fun k z hk hd => hc (k + 1) z (by simpa using hk) (by omega) (by rw [show i + (k + 1) = i + 1 + k by omega]; exact hd))
    | succ j =>
      simp only [runL]
      rw [hoff i (by omega)]
      refine ih (i + 1) j _ (by simpa using hj) ?_ ?_ ?_ ?_
      · rw [show i + 1 + j = i + (j + 1) by omega]; exact hD
      · rw [show i + 1 + j = i + (j + 1) by omega]; exact hD'
      · intro k hk; exact hoff k (by omega)
      · intro k z hk hjk hd
        exact hc (k + 1) z (by simpa using hk) (by omega) (by rw [show i + (k + 1) = i + 1 + k by omega]; exact hd)
theorem runL_all {D : Nat → Bool} : ∀ (l : List Item) (i : Nat) (s : S), (∀ k, k < l.length → D (i + k) = true) → runL D l i s = runL (fun _ => true) l i s := by
  intro l
  induction l with
  | nil => intro i s _; rfl
  | cons x l ih =>
    intro i s h
    have h0 := h 0 (by simp)
    simp only [Nat.add_zero] at h0
    simp only [runL, h0, if_true]
    exact ih _ _ (fun k hk => by rw [show i + 1 + k = i + (k + 1) by omega]; exact h (k + 1) (by simpa using hk))
def opTmps : List Operand → List Nat
  | [] => []
  | .tmp t :: l => t :: opTmps l
  | _ :: l => opTmps l
theorem mem_opTmps {t : Nat} : ∀ {l : List Operand}, Operand.tmp t ∈ l → t ∈ opTmps l
  | [], h => by simp at h
  | x :: l, h => by
    rcases List.mem_cons.1 h with h | h
    · subst h; simp [opTmps]
    · have ih := mem_opTmps h
      cases x <;> simp [opTmps, ih]
def dstOf (ops : Array Oper) (k : Nat) : Option Tmp := (ops[k]?).bind (·.dst)
def uses (ops : Array Oper) (o : Oper) : List Nat :=
  (match o.guard with | some (k, _) => (match dstOf ops k with | some d => [d] | none => []) | none => []) ++ (match o.dst with | some d => [d] | none => []) ++ opTmps o.op.operands.toList
def maskE (M : List Nat) : List Edge → Nat
  | [] => 0
  | e :: r => match Region.binds .any e with | true => ((1 <<< e.on) ||| M.getD e.on 0) ||| maskE M r | false => maskE M r
def masks : List Oper → List Nat → List Nat
  | [], acc => acc
  | o :: r, acc => masks r (acc ++ [maskE acc o.after.toList])
theorem maskE_bit {M : List Nat} {k : Nat} : ∀ {l : List Edge}, (maskE M l).testBit k = true → ∃ e ∈ l, Region.binds .any e = true ∧ (e.on = k ∨ (M.getD e.on 0).testBit k = true) := by
  intro l
  induction l with
  | nil => intro h; simp [maskE] at h
  | cons e r ih =>
    intro h
    simp only [maskE] at h
    split at h
    · rename_i hb
      simp only [Nat.testBit_or, Bool.or_eq_true] at h
      rcases h with (h | h) | h
      · refine ⟨e, by simp, hb, .inl ?_⟩
        rw [Nat.one_shiftLeft, Nat.testBit_two_pow] at h
        simpa using h
      · exact ⟨e, by simp, hb, .inr h⟩
      · obtain ⟨e', h1, h2⟩ := ih h
        exact ⟨e', by simp [h1], h2⟩
    · obtain ⟨e', h1, h2⟩ := ih h
      exact ⟨e', by simp [h1], h2⟩
def masksOk (M : List Nat) : List Oper → Nat → Bool
  | [], _ => true
  | o :: r, i => Nat.beq (M.getD i 0) (maskE M o.after.toList) && o.after.toList.all (fun e => !Region.binds .any e || Nat.blt e.on i) && masksOk M r (i + 1)
theorem masksOk_at {M : List Nat} : ∀ {l : List Oper} {i k : Nat} {o : Oper}, masksOk M l i = true → l[k]? = some o →
    M.getD (i + k) 0 = maskE M o.after.toList ∧ ∀ e ∈ o.after.toList, Region.binds .any e = true → e.on < i + k := by
  intro l
  induction l with
  | nil => intro i k o _ h; simp at h
  | cons x l ih =>
    intro i k o h hk
    simp only [masksOk, Bool.and_eq_true] at h
    cases k with
    | zero =>
      simp at hk; subst hk
      refine ⟨Nat.eq_of_beq_eq_true h.1.1, fun e he hb => ?_⟩
      have := List.all_eq_true.1 h.1.2 e he
      rw [hb] at this
      simpa [Nat.blt_eq] using this
    | succ k =>
      have := ih h.2 (by simpa using hk)
      rw [show i + (k + 1) = i + 1 + k by omega]; exact this
def conf (us : List Nat) (x y : Item) : Bool :=
  (match x.1 with | some d => us.elem d | none => false) || x.2.touch.any (fun m => y.2.rd.elem m || y.2.touch.elem m)
def pairsOk (M : List Nat) (X : List Item) (j : Nat) (us : List Nat) (y : Item) : List Item → Nat → Bool
  | [], _ => true
  | x :: l, i => (Nat.beq i j || !conf us x y || (match Nat.blt i j with | true => (M.getD j 0).testBit i | false => (M.getD i 0).testBit j)) && pairsOk M X j us y l (i + 1)
def allPairsOk (ops : Array Oper) (M : List Nat) (X : List Item) : List Oper → List Item → Nat → Bool
  | o :: os, y :: ys, j => pairsOk M X j (uses ops o) y X 0 && allPairsOk ops M X os ys (j + 1)
  | _, _, _ => true
theorem pairsOk_at {M : List Nat} {X : List Item} {j : Nat} {us : List Nat} {y : Item} : ∀ {l : List Item} {i k : Nat} {x : Item}, pairsOk M X j us y l i = true → l[k]? = some x → i + k ≠ j → conf us x y = true →
    (i + k < j → (M.getD j 0).testBit (i + k) = true) ∧ (j < i + k → (M.getD (i + k) 0).testBit j = true) := by
  intro l
  induction l with
  | nil => intro i k x _ h; simp at h
  | cons z l ih =>
    intro i k x h hk hne hc
    simp only [pairsOk, Bool.and_eq_true] at h
    cases k with
    | zero =>
      simp at hk; subst hk
      simp only [Nat.add_zero] at hne ⊢
      have h1 := h.1
      have hb : Nat.beq i j = false := by cases hb : Nat.beq i j; rfl; exact absurd (Nat.eq_of_beq_eq_true hb) hne
      rw [hb, hc] at h1
      simp only [Bool.not_true, Bool.or_self, Bool.false_or] at h1
      constructor
      · intro hlt
        have : Nat.blt i j = true := by rw [Nat.blt_eq]; exact hlt
        rw [this] at h1; exact h1
      · intro hlt
        have : Nat.blt i j = false := by rw [← Bool.not_eq_true, Nat.blt_eq]; omega
        rw [this] at h1; exact h1
    | succ k =>
      have := ih h.2 (by simpa using hk) (by omega) hc
      rw [show i + (k + 1) = i + 1 + k by omega]; exact this
theorem allPairsOk_at {ops : Array Oper} {M : List Nat} {X : List Item} : ∀ {os : List Oper} {ys : List Item} {j k : Nat} {o : Oper} {y : Item}, allPairsOk ops M X os ys j = true → os[k]? = some o → ys[k]? = some y → pairsOk M X (j + k) (uses ops o) y X 0 = true := by
  intro os
  induction os with
  | nil => intro ys j k o y _ h; simp at h
  | cons z os ih =>
    intro ys j k o y h ho hy
    cases ys with
    | nil => simp at hy
    | cons w ys =>
      simp only [allPairsOk, Bool.and_eq_true] at h
      cases k with
      | zero => simp at ho hy; subst ho; subst hy; exact h.1
      | succ k =>
        have := ih h.2 (by simpa using ho) (by simpa using hy)
        rw [show j + (k + 1) = j + 1 + k by omega]; exact this
end Go.V
end

section
namespace Go.V
def All : List Prop → Prop
  | [] => True
  | p :: l => p ∧ All l
theorem All.append : ∀ {l k : List Prop}, All (l ++ k) ↔ All l ∧ All k
  | [], k => by simp [All]
  | p :: l, k => by simp [All, All.append (l := l), and_assoc]
section
variable (P : Program)
def pureRun {α : Type} : Sem α → Option α
  | .pure a => some a
  | .program k => pureRun (k P)
  | _ => none
theorem pureRun_run {α : Type} : ∀ (m : Sem α) {x : α} (w : World), pureRun P m = some x → m.run P w = .ok x w := by
  intro m
  induction m with
  | pure a => intro x w h; simp [pureRun] at h; subst h; rfl
  | program k ih => intro x w h; simp only [pureRun] at h; exact ih P w h
  | _ => intro x w h; simp [pureRun] at h
end
def C.val : C → Option Value
  | .num k n => some (.int k n)
  | .int k n => some (.int k n)
  | .lit b => some (.bool b)
  | .bool b => some (.bool b)
  | .str s => some (.string s)
  | .nil => some (.pointer none)
  | .nsl => some (.slice none 0 0)
  | .op v => some v
  | _ => none
def valL : List C → Option (List Value)
  | [] => some []
  | c :: l => match c.val, valL l with | some v, some r => some (v :: r) | _, _ => none
def A.val : A → Option Value
  | .c x => x.val
  | .agg cs => match valL cs with | some l => some (.agg l.toArray) | none => none
def V.val : V → Option Value
  | .a x => x.val
  | .tup _ => none
def C.known : C → Bool
  | .int _ _ => false
  | .bool _ => false
  | .op _ => false
  | .str _ => false
  | _ => true
def A.known : A → Bool
  | .c x => x.known
  | .agg cs => cs.all C.known
def V.known : V → Bool
  | .a x => x.known
  | .tup _ => false
theorem C.val_rel {ρ : Ren} {c : C} {v x : Value} (h : c.val = some v) (r : c.rel ρ x) : x = v := by
  cases c <;> simp only [C.val, Option.some.injEq, reduceCtorEq] at h <;> simp only [C.rel] at r
  case op u => rw [r.1, h]
  all_goals (rw [r, h])
theorem valL_rel {ρ : Ren} : ∀ {cs : List C} {l xs : List Value}, valL cs = some l → F2 (C.rel ρ) cs xs → xs = l := by
  intro cs
  induction cs with
  | nil => intro l xs h r; cases r; simp [valL] at h; exact h.symm
  | cons c cs ih =>
    intro l xs h r
    cases r with
    | cons r0 rs =>
      simp only [valL] at h
      split at h
      · rename_i v r' hv hr
        simp at h; subst h
        rw [C.val_rel hv r0, ih hr rs]
      · cases h
theorem A.val_rel {ρ : Ren} {c : A} {v x : Value} (h : c.val = some v) (r : c.rel ρ x) : x = v := by
  cases c with
  | c y => exact C.val_rel h r
  | agg cs =>
    simp only [A.val] at h
    split at h
    · rename_i l hl
      simp at h; subst h
      obtain ⟨xs, hf, rfl⟩ := r
      rw [valL_rel hl hf]
    · cases h
def toC : D → C
  | .int k n => .int k n
  | .bool b => .bool b
  | .str s => .str s
  | .nilp => .nil
  | .op v => .op v
  | .sl q len st F => .im (.sl q len st F)
  | .fv f n F => .im (.fv f n F)
  | .fc f n F => .im (.fc f n F)
  | .ifx b => .im (.ifx b)
  | .ifd t g n F => .im (.ifd t g n F)
def toD : C → Option D
  | .num k n => some (.int k n)
  | .int k n => some (.int k n)
  | .lit b => some (.bool b)
  | .bool b => some (.bool b)
  | .str s => some (.str s)
  | .nil => some .nilp
  | .nsl => some (.sl false 0 0 fun _ _ => .nilp)
  | .op v => some (.op v)
  | .im d => some d
  | .fn f [] => some (.op (.func (.func f) #[] #[]))
  | .xl len st F => some (.sl false len st F)
  | _ => none
theorem toC_rel {ρ : Ren} {d : D} {x : Value} (h : d.rel ρ.κ x) : (toC d).rel ρ x := by
  cases d <;> exact h
theorem toD_rel {ρ : Ren} {c : C} {d : D} {x : Value} (h : toD c = some d) (r : c.rel ρ x) : d.rel ρ.κ x := by
  cases c with
  | fn f caps =>
    cases caps with
    | nil =>
      simp only [toD, Option.some.injEq] at h
      subst h
      obtain ⟨xs, h1, h2⟩ := r
      cases h1
      exact ⟨h2, rfl, by simp, by simp⟩
    | cons q l => simp [toD] at h
  | nsl =>
    simp only [toD, Option.some.injEq] at h
    subst h
    exact .inl ⟨rfl, rfl, r⟩
  | xl len st F =>
    simp only [toD, Option.some.injEq] at h
    subst h
    exact r.1
  | _ => simp only [toD, Option.some.injEq, reduceCtorEq] at h <;> subst h <;> exact r
def toDs : List C → Option (List D)
  | [] => some []
  | c :: l => match toD c, toDs l with | some d, some r => some (d :: r) | _, _ => none
theorem toDs_rel {ρ : Ren} : ∀ {cs : List C} {ds : List D} {xs : List Value}, toDs cs = some ds → F2 (C.rel ρ) cs xs → F2 (D.rel ρ.κ) ds xs := by
  intro cs
  induction cs with
  | nil => intro ds xs h r; cases r; simp [toDs] at h; subst h; exact .nil
  | cons c cs ih =>
    intro ds xs h r
    cases r with
    | cons r0 rs =>
      simp only [toDs] at h
      split at h
      · rename_i d r' hd hr
        simp at h; subst h
        exact .cons (toD_rel hd r0) (ih hr rs)
      · cases h
def toDe : C → Option D
  | .sl _ _ 0 _ => some (.sl true 0 0 (fun _ _ => .nilp))
  | x => toD x
theorem toDe_rel {ρ : Ren} {c : C} {d : D} {x : Value} (h : toDe c = some d) (r : c.rel ρ x) : d.rel ρ.κ x := by
  unfold toDe at h
  split at h
  · simp only [Option.some.injEq] at h
    subst h
    obtain ⟨b, _, rfl⟩ := r
    exact .inr ⟨⟨b.1, _, none⟩, _, rfl, Nat.zero_le _, fun h => absurd h (Nat.lt_irrefl 0), fun i j hi => absurd hi (Nat.not_lt_zero i)⟩
  · exact toD_rel h r
def toDes : List C → Option (List D)
  | [] => some []
  | c :: l => match toDe c, toDes l with | some d, some r => some (d :: r) | _, _ => none
theorem toDes_rel {ρ : Ren} : ∀ {cs : List C} {ds : List D} {xs : List Value}, toDes cs = some ds → F2 (C.rel ρ) cs xs → F2 (D.rel ρ.κ) ds xs := by
  intro cs
  induction cs with
  | nil => intro ds xs h r; cases r; simp [toDes] at h; subst h; exact .nil
  | cons c cs ih =>
    intro ds xs h r
    cases r with
    | cons r0 rs =>
      simp only [toDes] at h
      split at h
      · rename_i d r' hd hr
        simp at h; subst h
        exact .cons (toDe_rel hd r0) (ih hr rs)
      · cases h
def ofCell (known : Bool) (v : Value) : Option C :=
  match v with
  | .int k n => some (match known with | true => .num k n | false => .int k n)
  | .bool b => some (match known with | true => .lit b | false => .bool b)
  | .string s => some (.str s)
  | .pointer none => some .nil
  | .slice none 0 0 => some .nsl
  | .agg _ => none
  | .tuple _ => none
  | v => some (.op v)
def ofCells (known : Bool) : List Value → Option (List C)
  | [] => some []
  | v :: l => match ofCell known v, ofCells known l with | some c, some r => some (c :: r) | _, _ => none
def ofVal (known : Bool) (v : Value) : Option A :=
  match v with
  | .agg cs => match ofCells known cs.toList with | some l => some (.agg l) | none => none
  | v => match ofCell known v with | some c => some (.c c) | none => none
theorem ofCell_rel (ρ : Ren) {b : Bool} {v : Value} {c : C} (h : ofCell b v = some c) : c.rel ρ v := by
  unfold ofCell at h
  split at h
  case h_1 => cases b <;> (simp at h; subst h; rfl)
  case h_2 => cases b <;> (simp at h; subst h; rfl)
  case h_3 => simp at h; subst h; rfl
  case h_4 => simp at h; subst h; rfl
  case h_5 => simp at h; subst h; rfl
  case h_6 => cases h
  case h_7 => cases h
  case h_8 =>
    rename_i h7 h8
    simp at h; subst h
    refine ⟨rfl, ?_, fun cs e => h7 cs e, fun cs e => h8 cs e⟩
    cases v <;> first | rfl | (exact absurd rfl (h7 _))
theorem ofCells_rel (ρ : Ren) {b : Bool} : ∀ {l : List Value} {cs : List C}, ofCells b l = some cs → F2 (C.rel ρ) cs l := by
  intro l
  induction l with
  | nil => intro cs h; simp [ofCells] at h; subst h; exact .nil
  | cons v l ih =>
    intro cs h
    simp only [ofCells] at h
    split at h
    · rename_i c r hc hr
      simp at h; subst h
      exact .cons (ofCell_rel ρ hc) (ih hr)
    · cases h
theorem ofVal_rel (ρ : Ren) {b : Bool} {v : Value} {c : A} (h : ofVal b v = some c) : c.rel ρ v := by
  unfold ofVal at h
  split at h
  · rename_i cs
    split at h
    · rename_i l hl
      simp at h; subst h
      exact ⟨cs.toList, ofCells_rel ρ hl, by simp⟩
    · cases h
  · split at h
    · rename_i c' hc
      simp at h; subst h
      exact ofCell_rel ρ hc
    · cases h
abbrev GT := Nat → Option (Nat × (Nat → D))
def look (G : GT) (s : S) : Operand → Option V
  | .tmp t => s.tm t
  | .const v => (match ofVal true v with | some a => some (.a a) | none => none)
  | .global g => match G g with | some (n, F) => some (.a (.c (.ip n F))) | none => none
  | .func f => some (.a (.c (.fn f [])))
structure View (G : GT) (ρ : Ren) (s : S) (a : Act) (w : World) : Prop where
  tm : ∀ t v, s.tm t = some v → v.rel ρ (a.tmps.getD t undef)
  hp : ∀ m k, s.hp m = some k → ∃ b, ρ m = some b ∧ b.1 < w.heap.size ∧ k.rel ρ b w
  im : Lies ρ.κ w
  gl : ∀ g n F, G g = some (n, F) → (C.ip n F).rel ρ (.pointer (some ⟨g, 0, none⟩))
theorem look_rel {G : GT} {ρ : Ren} {s : S} {a : Act} {w : World} (h : View G ρ s a w) {x : Operand} {v : V} (e : look G s x = some v) : v.rel ρ (a.eval x) := by
  cases x with
  | tmp t => exact h.tm t v e
  | const u =>
    simp only [look] at e
    split at e
    · rename_i c hc
      simp at e; subst e
      exact ofVal_rel ρ hc
    · cases e
  | global g =>
    simp only [look] at e
    split at e
    · rename_i n F hg
      simp at e; subst e
      exact h.gl g n F hg
    · cases e
  | func f =>
    simp only [look] at e
    simp at e; subst e
    exact ⟨[], .nil, rfl⟩
def evalO (G : GT) (s : S) (x : Operand) : Value := match look G s x with | some v => (match v.val with | some u => u | none => undef) | none => undef
def okO (G : GT) (s : S) (x : Operand) : Bool := match look G s x with | some (.a a) => (match a.val with | some _ => true | none => false) | _ => false
def knownO (G : GT) (s : S) (x : Operand) : Bool := match look G s x with | some v => v.known | none => false
theorem evalO_eq {G : GT} {ρ : Ren} {s : S} {a : Act} {w : World} (h : View G ρ s a w) {x : Operand} (ok : okO G s x = true) : evalO G s x = a.eval x := by
  unfold okO at ok
  unfold evalO
  cases hl : look G s x with
  | none => rw [hl] at ok; simp at ok
  | some v =>
    rw [hl] at ok
    cases v with
    | tup xs => simp at ok
    | a y =>
      simp only at ok
      cases hv : y.val with
      | none => rw [hv] at ok; simp at ok
      | some u =>
        have : (V.a y).val = some u := hv
        simp only [this]
        exact (A.val_rel hv (look_rel h hl)).symm
section
variable (P : Program) (G : GT)
def effPure (o : Oper) (s : S) : Option V :=
  match o.op.operands.toList.all (okO G s) with
  | true =>
    match pureRun P (execOp (evalO G s) o) with
    | some (.value x) => (match ofVal (o.op.operands.toList.all (knownO G s)) x with | some a => some (.a a) | none => none)
    | _ => none
  | false => none
theorem effPure_sound {ρ : Ren} {s : S} {a : Act} {w : World} (h : View G ρ s a w) {o : Oper} {v : V} (hs : ∀ cs b, o.op ≠ .select cs b) (e : effPure P G o s = some v) :
    ∃ x, (execOp a.eval o).run P w = .ok (.value x) w ∧ v.rel ρ x := by
  unfold effPure at e
  split at e
  · rename_i hok
    split at e
    · rename_i x hx
      split at e
      · rename_i c hc
        simp at e; subst e
        refine ⟨x, ?_, ofVal_rel ρ hc⟩
        rw [← execOp_congr (ρ := evalO G s) o hs (fun y hy => evalO_eq h (List.all_eq_true.1 hok y (by simpa using hy)))]
        exact pureRun_run P _ w hx
      · cases e
    · cases e
  · cases e
def isAggD : TypeDesc → Bool | .struct _ => true | .array _ _ => true | _ => false
def partA (t : TypeId) (cs : List C) (off : Nat) : Option A :=
  match P.underlying t, P.info? t with
  | some d, some i => (match isAggD d with
    | true => some (.agg ((cs.drop off).take i.size))
    | false => (match cs[off]? with | some c => some (.c c) | none => none))
  | _, _ => none
theorem f2_drop {α β : Type} {R : α → β → Prop} : ∀ {l : List α} {k : List β}, F2 R l k → ∀ n, F2 R (l.drop n) (k.drop n)
  | _, _, .nil, n => by simp; exact .nil
  | _, _, .cons x xs, 0 => .cons x xs
  | _, _, .cons x xs, n + 1 => by simpa using f2_drop xs n
theorem f2_take {α β : Type} {R : α → β → Prop} : ∀ {l : List α} {k : List β}, F2 R l k → ∀ n, F2 R (l.take n) (k.take n)
  | _, _, .nil, n => by simp; exact .nil
  | _, _, .cons x xs, 0 => by simp; exact .nil
  | _, _, .cons x xs, n + 1 => by simpa using .cons x (f2_take xs n)
theorem f2_append {α β : Type} {R : α → β → Prop} : ∀ {l l' : List α} {k k' : List β}, F2 R l k → F2 R l' k' → F2 R (l ++ l') (k ++ k')
  | _, _, _, _, .nil, h => h
  | _, _, _, _, .cons x xs, h => .cons x (f2_append xs h)
theorem run_isAgg {t : TypeId} {d : TypeDesc} (h : P.underlying t = some d) (w : World) : (isAgg t).run P w = .ok (isAggD d) w := by
  unfold isAgg
  simp only [Sem.run_bind, run_underlying h, Result.andThen_ok]
  cases d <;> rfl
theorem run_sizeOf' {t : TypeId} {i : TypeInfo} (h : P.info? t = some i) (w : World) : (sizeOf t).run P w = .ok i.size w := by
  simp [sizeOf, typeInfo, h]
theorem partA_sound {ρ : Ren} {t : TypeId} {cs : List C} {off : Nat} {p : A} {xs : List Value} (h : partA P t cs off = some p) (r : F2 (C.rel ρ) cs xs) (w : World) :
    ∃ x, (part t xs.toArray off).run P w = .ok x w ∧ p.rel ρ x := by
  unfold partA at h
  split at h
  · rename_i d i hd hi
    unfold part
    simp only [Sem.run_bind, run_isAgg P hd, Result.andThen_ok]
    split at h
    · rename_i hg
      simp at h; subst h
      rw [if_pos hg]
      simp only [Sem.run_bind, run_sizeOf' P hi, Result.andThen_ok, Sem.run_pure]
      refine ⟨_, rfl, (xs.drop off).take i.size, f2_take (f2_drop r off) i.size, ?_⟩
      congr 1
      apply Array.ext'
      simp
    · rename_i hg
      split at h
      · rename_i c hc
        simp at h; subst h
        obtain ⟨x, hx, hr⟩ := f2_get r hc
        rw [if_neg (by simp [hg])]
        refine ⟨x, ?_, hr⟩
        simp [hx]
      · cases h
  · cases h
def eqFs (g : TypeId → A → A → Option Bool) (xs ys : List C) : List Field → Option Bool
  | [] => some true
  | f :: fs =>
    match f.name == "_" with
    | true => eqFs g xs ys fs
    | false =>
      match partA P f.type xs f.offset, partA P f.type ys f.offset with
      | some a, some b => (match g f.type a b, eqFs g xs ys fs with | some r, some q => some (r && q) | _, _ => none)
      | _, _ => none
def eqIs (g : TypeId → A → A → Option Bool) (e : TypeId) (sz : Nat) (xs ys : List C) : List Nat → Option Bool
  | [] => some true
  | j :: js =>
    match partA P e xs (j * sz), partA P e ys (j * sz) with
    | some a, some b => (match g e a b, eqIs g e sz xs ys js with | some r, some q => some (r && q) | _, _ => none)
    | _, _ => none
def eqT : Nat → TypeId → A → A → Option Bool
  | 0, _, _, _ => none
  | d + 1, t, x, y =>
    match P.underlying t, x, y with
    | some (.int _), .c a, .c b => (match a.val, b.val with | some (.int k m), some (.int k' n) => (match decide (k = k') with | true => some (m == n) | false => none) | _, _ => none)
    | some .bool, .c a, .c b => (match a.val, b.val with | some (.bool m), some (.bool n) => some (m == n) | _, _ => none)
    | some .string, .c a, .c b => (match a.val, b.val with | some (.string m), some (.string n) => some (m.toList == n.toList) | _, _ => none)
    | some (.struct fs), .agg xs, .agg ys => (match P.stoodInHeld t with | true => none | false => eqFs P (eqT d) xs ys fs.toList)
    | some (.array n e), .agg xs, .agg ys => (match P.info? e with | some _ => eqIs P (eqT d) e (P.cellsOf e) xs ys (List.range n) | none => none)
    | _, _, _ => none
theorem eqT_sound {ρ : Ren} (w : World) : ∀ (d : Nat) (t : TypeId) (x y : A) (r : Bool) (u v : Value), eqT P d t x y = some r → x.rel ρ u → y.rel ρ v → (Op.equalIn d t u v).run P w = .ok r w := by
  intro d
  induction d with
  | zero => intro t x y r u v h; simp [eqT] at h
  | succ d ih =>
    intro t x y r u v h hx hy
    simp only [eqT] at h
    split at h
    · rename_i hu
      split at h
      · rename_i hk hn
        split at h
        · rename_i hkk
          simp at hkk; subst hkk
          simp at h; subst h
          rw [C.val_rel hk hx, C.val_rel hn hy]
          exact run_equalIn_int w d t _ _ _ _ hu
        · cases h
      · cases h
    · rename_i hu
      split at h
      · rename_i hk hn
        simp at h; subst h
        rw [C.val_rel hk hx, C.val_rel hn hy]
        exact run_equalIn_bool' w d t _ _ hu
      · cases h
    · rename_i hu
      split at h
      · rename_i hk hn
        simp at h; subst h
        rw [C.val_rel hk hx, C.val_rel hn hy]
        exact run_equalIn_string w d t _ _ hu
      · cases h
    · rename_i fs xs ys hu
      split at h
      · cases h
      · rename_i hst
        obtain ⟨us, hus, rfl⟩ := hx
        obtain ⟨vs, hvs, rfl⟩ := hy
        have hf : P.fieldsOf t = fs := by simp [Program.fieldsOf, hu]
        rw [run_equalIn_struct w d t _ _ (by rw [hu, hf]) hst, hf]
        generalize fs.toList = l at h ⊢
        clear hf hu
        induction l generalizing r with
        | nil => simp [eqFs] at h; subst h; simp [Op.eqFields]
        | cons f l ihl =>
          simp only [eqFs] at h
          simp only [Op.eqFields]
          split at h
          · rename_i hn
            rw [if_neg (by simpa using hn)]
            exact ihl r h
          · rename_i hn
            rw [if_pos (by simpa using hn)]
            split at h
            · rename_i p q hp hq
              split at h
              · rename_i r1 q1 hg hr
                simp at h; subst h
                obtain ⟨a1, ha1, hra⟩ := partA_sound P hp hus w
                obtain ⟨b1, hb1, hrb⟩ := partA_sound P hq hvs w
                simp only [Sem.run_bind, ha1, hb1, Result.andThen_ok, ih _ _ _ _ _ _ hg hra hrb]
                cases r1
                · simp
                · simpa using ihl q1 hr
              · cases h
            · cases h
    · rename_i n e xs ys hu
      split at h
      · rename_i i hi
        obtain ⟨us, hus, rfl⟩ := hx
        obtain ⟨vs, hvs, rfl⟩ := hy
        rw [run_equalIn_array (w := w) d us.toArray vs.toArray hu hi]
        generalize List.range n = l at h ⊢
        induction l generalizing r with
        | nil => simp [eqIs] at h; subst h; simp [Op.eqItems]
        | cons f l ihl =>
          simp only [eqIs] at h
          simp only [Op.eqItems]
          split at h
          · rename_i p q hp hq
            split at h
            · rename_i r1 q1 hg hr
              simp at h; subst h
              obtain ⟨a1, ha1, hra⟩ := partA_sound P hp hus w
              obtain ⟨b1, hb1, hrb⟩ := partA_sound P hq hvs w
              simp only [Sem.run_bind, ha1, hb1, Result.andThen_ok, ih _ _ _ _ _ _ hg hra hrb]
              cases r1
              · simp
              · simpa using ihl q1 hr
            · cases h
          · cases h
      · cases h
    · cases h
end
end Go.V
end

section
namespace Go.V
def readN (k : Blk) (o : Nat) : Nat → Option (List C)
  | 0 => some []
  | n + 1 => match k.cell o, readN k (o + 1) n with | some c, some r => some (c :: r) | _, _ => none
theorem readN_sound {ρ : Ren} {b : Nat × Nat} {w : World} {k : Blk} (h : k.rel ρ b w) : ∀ {n o : Nat} {cs : List C}, readN k o n = some cs →
    ∃ xs : List Value, F2 (C.rel ρ) cs xs ∧ xs.length = n ∧ ∀ j v, xs[j]? = some v → w.cell? ((⟨b.1, o, none⟩ : Addr).add j) = some v := by
  intro n
  induction n with
  | zero => intro o cs e; simp [readN] at e; subst e; exact ⟨[], .nil, rfl, by simp⟩
  | succ n ih =>
    intro o cs e
    simp only [readN] at e
    split at e
    · rename_i c r hc hr
      simp at e; subst e
      obtain ⟨x, hx, hcell⟩ := Blk.rel_cell h hc
      obtain ⟨xs, hf, hl, hcs⟩ := ih hr
      refine ⟨x :: xs, .cons hx hf, by simp [hl], ?_⟩
      intro j v hj
      cases j with
      | zero => simp at hj; subst hj; simpa [Addr.add] using hcell
      | succ j =>
        have := hcs j v (by simpa using hj)
        have e1 : (⟨b.1, o, none⟩ : Addr).add (j + 1) = (⟨b.1, o + 1, none⟩ : Addr).add j := by
          simp only [Addr.add_lit]; congr 1; omega
        rw [e1]; exact this
    · cases e
def dCells (G : Nat → D) (o : Nat) : Nat → List C
  | 0 => []
  | n + 1 => toC (G o) :: dCells G (o + 1) n
theorem dCells_sound {ρ : Ren} {w : World} (hl : Lies ρ.κ w) {G : Nat → D} {a : Addr} (hs : a.spot = none) : ∀ {n o : Nat}, (∀ j, o ≤ j → j < o + n → ∃ y, ρ.κ a.block (a.off + j) = some y ∧ (G j).rel ρ.κ y) →
    ∃ xs : List Value, F2 (C.rel ρ) (dCells G o n) xs ∧ xs.length = n ∧ ∀ j v, xs[j]? = some v → w.cell? ((⟨a.block, a.off + o, none⟩ : Addr).add j) = some v := by
  intro n
  induction n with
  | zero => intro o _; exact ⟨[], .nil, rfl, by simp⟩
  | succ n ih =>
    intro o h
    obtain ⟨y, hy, hr⟩ := h o (by omega) (by omega)
    obtain ⟨xs, hf, hlen, hcs⟩ := ih (o := o + 1) (fun j h1 h2 => h j (by omega) (by omega))
    refine ⟨y :: xs, .cons (toC_rel hr) hf, by simp [hlen], ?_⟩
    intro j v hj
    cases j with
    | zero => simp at hj; subst hj; simpa [Addr.add] using (hl _ _ _ hy).2
    | succ j =>
      have := hcs j v (by simpa using hj)
      have e1 : (⟨a.block, a.off + o, none⟩ : Addr).add (j + 1) = (⟨a.block, a.off + (o + 1), none⟩ : Addr).add j := by
        simp only [Addr.add_lit]; congr 1; omega
      rw [e1]; exact this
def rowOf : Blk → Option (Nat × Nat × (Nat → Nat → D))
  | .row _ st len F => some (st, len, F)
  | .fz st len F => some (st, len, F)
  | _ => none
theorem rowOf_cap {ρ : Ren} {w : World} {k : Blk} {b : Nat × Nat} (hk : k.rel ρ b w) {st len : Nat} {F : Nat → Nat → D} (hr : rowOf k = some (st, len, F)) : len ≤ b.2 := by
  cases k with
  | row e st' len' F' =>
    simp only [rowOf, Option.some.injEq, Prod.mk.injEq] at hr
    obtain ⟨rfl, rfl, rfl⟩ := hr
    obtain ⟨xs, hh, h1, h2, _⟩ := hk
    exact h2
  | fz st' len' F' =>
    simp only [rowOf, Option.some.injEq, Prod.mk.injEq] at hr
    obtain ⟨rfl, rfl, rfl⟩ := hr
    exact hk.1
  | _ => simp [rowOf] at hr
theorem rCells_sound {ρ : Ren} {w : World} (hl : Lies ρ.κ w) {k : Blk} {b : Nat × Nat} (hk : k.rel ρ b w) {st len : Nat} {F : Nat → Nat → D} (hr : rowOf k = some (st, len, F)) {i : Nat} (hi : i < len) : ∀ {n o : Nat}, o + n ≤ st →
    ∃ xs : List Value, F2 (C.rel ρ) (dCells (F i) o n) xs ∧ xs.length = n ∧ ∀ j v, xs[j]? = some v → w.cell? ((⟨b.1, i * st + o, none⟩ : Addr).add j) = some v := by
  intro n
  induction n with
  | zero => intro o _; exact ⟨[], .nil, rfl, by simp⟩
  | succ n ih =>
    intro o ho
    have : ∃ y, w.cell? ⟨b.1, i * st + o, none⟩ = some y ∧ (F i o).rel ρ.κ y := by
      cases k with
      | row e st' len' F' =>
        simp only [rowOf, Option.some.injEq, Prod.mk.injEq] at hr
        obtain ⟨rfl, rfl, rfl⟩ := hr
        obtain ⟨xs, hh, h1, h2, h3, h4⟩ := hk
        obtain ⟨y, hy, hr⟩ := h4 i o hi (by omega)
        exact ⟨y, by simp [World.cell?, hh, hy], hr⟩
      | fz st' len' F' =>
        simp only [rowOf, Option.some.injEq, Prod.mk.injEq] at hr
        obtain ⟨rfl, rfl, rfl⟩ := hr
        obtain ⟨y, hy, hr⟩ := hk.2 i o hi (by omega)
        exact ⟨y, (hl _ _ _ hy).2, hr⟩
      | _ => simp [rowOf] at hr
    obtain ⟨y, hy, hr'⟩ := this
    obtain ⟨xs, hf, hlen, hcs⟩ := ih (o := o + 1) (by omega)
    refine ⟨y :: xs, .cons (toC_rel hr') hf, by simp [hlen], ?_⟩
    intro j v hj
    cases j with
    | zero => simp at hj; subst hj; simpa [Addr.add] using hy
    | succ j =>
      have := hcs j v (by simpa using hj)
      have e1 : (⟨b.1, i * st + o, none⟩ : Addr).add (j + 1) = (⟨b.1, i * st + (o + 1), none⟩ : Addr).add j := by
        simp only [Addr.add_lit]; congr 1; omega
      rw [e1]; exact this
def A.cells : A → List C
  | .c x => [x]
  | .agg cs => cs
theorem A.rel_cells {ρ : Ren} {p : A} {x : Value} (h : p.rel ρ x) : F2 (C.rel ρ) p.cells x.cells.toList := by
  cases p with
  | c y => rw [C.rel_cells h]; exact .cons h .nil
  | agg cs => obtain ⟨xs, hf, rfl⟩ := h; simpa [Value.cells, A.cells] using hf
theorem f2_oneCell {ρ : Ren} {cs : List C} {xs : List Value} (h : F2 (C.rel ρ) cs xs) : ∀ v ∈ xs, v.oneCell' = true := by
  induction h with
  | nil => simp
  | cons r _ ih =>
    intro v hv
    rcases List.mem_cons.1 hv with rfl | hv
    · have := C.rel_noAgg r
      cases v <;> first | rfl | exact absurd rfl (this.1 _) | exact absurd rfl (this.2 _)
    · exact ih v hv
def setL (l : List C) (off : Nat) : List C → List C
  | [] => l
  | v :: vs => setL (l.set off v) (off + 1) vs
def fillA (place : Nat → Option (Nat × Nat)) (cells : List C) : List (Nat × A) → Option (List C)
  | [] => some cells
  | (i, v) :: rest =>
    match place i with
    | none => none
    | some (off, size) =>
      match Nat.beq v.cells.length size && Nat.ble (off + v.cells.length) cells.length with
      | true => fillA place (setL cells off v.cells) rest
      | false => none
theorem setL_sound {ρ : Ren} : ∀ {vs : List C} {us : List Value} {l : List C} {k : Array Value} {off j : Nat}, F2 (C.rel ρ) vs us → F2 (C.rel ρ) l k.toList →
    F2 (C.rel ρ) (setL l (off + j) vs) ((us.zipIdx j).foldl (fun cs (c, j) => cs.setIfInBounds (off + j) c) k).toList
  | _, _, l, k, off, j, .nil, h => h
  | _, _, l, k, off, j, .cons (a := a) (b := b) r rs, h => by
    simp only [setL, List.zipIdx_cons, List.foldl_cons]
    have := setL_sound (off := off) (j := j + 1) rs (l := l.set (off + j) a) (k := k.setIfInBounds (off + j) b) (by rw [Array.toList_setIfInBounds]; exact f2_set r h _)
    rw [show off + (j + 1) = off + j + 1 by omega] at this
    exact this
inductive PartsRel (ρ : Ren) : List (Nat × A) → List (Nat × Value) → Prop where
  | nil : PartsRel ρ [] []
  | cons {i : Nat} {a : A} {v : Value} {l : List (Nat × A)} {k : List (Nat × Value)} : a.rel ρ v → PartsRel ρ l k → PartsRel ρ ((i, a) :: l) ((i, v) :: k)
theorem fillA_sound {ρ : Ren} {place : Nat → Option (Nat × Nat)} : ∀ {ps : List (Nat × A)} {qs : List (Nat × Value)} {l r : List C} {k : Array Value}, PartsRel ρ ps qs → F2 (C.rel ρ) l k.toList → fillA place l ps = some r →
    ∃ k', Instr.fill place k qs = some k' ∧ F2 (C.rel ρ) r k'.toList
  | _, _, l, r, k, .nil, h, e => by simp [fillA] at e; subst e; exact ⟨k, by simp [Instr.fill], h⟩
  | _, _, l, r, k, .cons (i := i) (a := a) (v := v) hv hs, h, e => by
    simp only [fillA] at e
    split at e
    · cases e
    · rename_i off size hp
      split at e
      · rename_i hok
        simp only [Bool.and_eq_true] at hok
        have h1 : a.cells.length = size := Nat.eq_of_beq_eq_true hok.1
        have h2 := Nat.le_of_ble_eq_true hok.2
        have hc := A.rel_cells hv
        have hl1 := f2_len hc
        have hl2 := f2_len h
        have := setL_sound (off := off) (j := 0) hc h
        obtain ⟨k', hk', hr⟩ := fillA_sound hs this (by simpa using e)
        refine ⟨k', ?_, hr⟩
        have hsz : v.cells.size = size := by rw [← h1, hl1]; simp
        simp only [Instr.fill, hp]
        rw [if_neg (by
          have hk2 : k.size = l.length := by rw [hl2]; simp
          rw [hl1] at h2
          simp only [Array.length_toList] at h2
          intro hor
          rcases Bool.or_eq_true_iff.1 hor with hor | hor
          · exact (of_decide_eq_true hor) hsz
          · have := of_decide_eq_true hor; omega)]
        rw [← Array.foldl_toList]
        simpa using hk'
      · cases e
section
variable (P : Program) (G : GT)
def placesOf (fs : List Field) : Option (List (Nat × Nat)) := fs.mapM fun f => (P.info? f.type).map fun i => (f.offset, i.size)
def looks (s : S) : List (Nat × Operand) → Option (List (Nat × A))
  | [] => some []
  | (i, x) :: l => match look G s x, looks s l with | some (.a a), some r => some ((i, a) :: r) | _, _ => none
def lookAll (s : S) : List Operand → Option (List A)
  | [] => some []
  | x :: l => match look G s x, lookAll s l with | some (.a a), some r => some (a :: r) | _, _ => none
def buildA (s : S) (t : TypeId) (parts : List (Nat × Operand)) : Option A :=
  match P.info? t, P.underlying t, looks G s parts with
  | some it, some (.struct fs), some ps =>
    match it.zero, placesOf P fs.toList with
    | some z, some places =>
      (match ofCells true z.cells.toList with
      | some zs => (match fillA (places.toArray[·]?) zs ps with | some r => some (.agg r) | none => none)
      | none => none)
    | _, _ => none
  | some it, some (.array _ elem), some ps =>
    match it.zero, P.info? elem with
    | some z, some ie =>
      (match ofCells true z.cells.toList with
      | some zs => (match fillA (fun i => some (i * ie.size, ie.size)) zs ps with | some r => some (.agg r) | none => none)
      | none => none)
    | _, _ => none
  | _, _, _ => none
theorem looks_rel {ρ : Ren} {s : S} {a : Act} {w : World} (h : View G ρ s a w) : ∀ {l : List (Nat × Operand)} {ps : List (Nat × A)}, looks G s l = some ps → PartsRel ρ ps (l.map fun (i, x) => (i, a.eval x)) := by
  intro l
  induction l with
  | nil => intro ps e; simp [looks] at e; subst e; exact .nil
  | cons y l ih =>
    intro ps e
    obtain ⟨i, x⟩ := y
    simp only [looks] at e
    split at e
    · rename_i c r hc hr
      simp at e; subst e
      exact .cons (look_rel h hc) (ih hr)
    · cases e
theorem lookAll_rel {ρ : Ren} {s : S} {a : Act} {w : World} (h : View G ρ s a w) : ∀ {l : List Operand} {ps : List A}, lookAll G s l = some ps → F2 (A.rel ρ) ps (l.map a.eval) := by
  intro l
  induction l with
  | nil => intro ps e; simp [lookAll] at e; subst e; exact .nil
  | cons x l ih =>
    intro ps e
    simp only [lookAll] at e
    split at e
    · rename_i c r hc hr
      simp at e; subst e
      exact .cons (look_rel h hc) (ih hr)
    · cases e
theorem run_zeroValue' {t : TypeId} {i : TypeInfo} {z : Value} (h : P.info? t = some i) (hz : i.zero = some z) (w : World) : (zeroValue t).run P w = .ok z w := by
  simp [zeroValue, typeInfo, h, hz]
theorem buildA_sound {ρ : Ren} {s : S} {a : Act} {w : World} (h : View G ρ s a w) {t : TypeId} {parts : Array (Nat × Operand)} {p : A} (e : buildA P G s t parts.toList = some p) :
    ∃ x, (Instr.build t (parts.map fun (i, x) => (i, a.eval x))).run P w = .ok x w ∧ p.rel ρ x := by
  unfold buildA at e
  split at e
  · rename_i it fs ps hit hu hps
    split at e
    · rename_i z places hz hpl
      split at e
      · rename_i zs hzs
        split at e
        · rename_i r hr
          simp at e; subst e
          obtain ⟨k', hk, hrel⟩ := fillA_sound (looks_rel G h hps) (ofCells_rel ρ hzs) hr
          refine ⟨.agg k', ?_, k'.toList, hrel, by simp⟩
          refine run_build w t _ k' ?_
          unfold Program.built
          simp only [hit, hu, hz]
          unfold placesOf at hpl
          rw [hpl]
          simpa using hk
        · cases e
      · cases e
    · cases e
  · rename_i it n elem ps hit hu hps
    split at e
    · rename_i z ie hz hie
      split at e
      · rename_i zs hzs
        split at e
        · rename_i r hr
          simp at e; subst e
          obtain ⟨k', hk, hrel⟩ := fillA_sound (looks_rel G h hps) (ofCells_rel ρ hzs) hr
          refine ⟨.agg k', ?_, k'.toList, hrel, by simp⟩
          have hk' : Instr.fill (fun i => some (i * ie.size, ie.size)) z.cells (parts.toList.map fun (i, x) => (i, a.eval x)) = some k' := by simpa using hk
          simp [Instr.build, run_zeroValue' P hit hz, run_underlying hu, run_sizeOf' P hie, hk']
        · cases e
      · cases e
    · cases e
  · cases e
def C.names : C → List Nat
  | .ptr m _ => [m]
  | .sl m _ _ _ => [m]
  | .gsl m _ => [m]
  | .fn _ caps => caps.map (·.1)
  | .ep m _ _ _ => [m]
  | _ => []
def A.names : A → List Nat
  | .c (.ptr m _) => [m]
  | .c (.sl m _ _ _) => [m]
  | .c (.gsl m _) => [m]
  | .c (.fn _ caps) => caps.map (·.1)
  | .c (.ep m _ _ _) => [m]
  | .agg cs => cs.flatMap C.names
  | _ => []
def V.names : V → List Nat
  | .a y => y.names
  | .tup _ => []
def lookNames (s : S) : List Operand → List Nat
  | [] => []
  | x :: l => (match look G s x with | some v => v.names | none => []) ++ lookNames s l
def rdOf (o : Oper) (s : S) : List Nat :=
  match o.op with
  | .load _ x => lookNames G s [x]
  | .slice _ x _ _ _ => lookNames G s [x]
  | .store _ x _ => lookNames G s [x]
  | .convert _ _ x => lookNames G s [x]
  | .call c => (match c.callee with | .value f => lookNames G s (f :: c.args.toList) | .builtin .append => lookNames G s c.args.toList | .builtin .len => lookNames G s c.args.toList | .builtin .copy => lookNames G s c.args.toList | _ => [])
  | _ => []
def idxOf : V → Option Int
  | .a (.c (.num _ n)) => some n
  | .a (.c (.int _ n)) => some n
  | _ => none
def bndOf (s : S) : Option Operand → Option (Option Int)
  | none => some none
  | some x => (match look G s x with | some v => (match idxOf v with | some n => some (some n) | none => none) | none => none)
def subOf (len : Nat) (lo hi mx : Option Int) : Int × Int × List Prop :=
  match lo.getD 0, hi.getD len with
  | l, h => (l, h, [0 ≤ l, l ≤ h, h ≤ len] ++ (match mx with | some m => [h ≤ m, m ≤ len] | none => []))
def effV (o : Oper) (s : S) : Option (V × List Prop) :=
  match o.op with
  | .move x | .assign x => (match look G s x with | some v => some (v, []) | none => none)
  | .pick c a b => (match look G s c with
    | some (.a (.c (.lit true))) => (match look G s a with | some v => some (v, []) | none => none)
    | some (.a (.c (.lit false))) => (match look G s b with | some v => some (v, []) | none => none)
    | _ => none)
  | .extract t i => (match look G s t with
    | some (.tup xs) => (match xs[i]? with | some a => some (.a a, []) | none => none)
    | _ => none)
  | .field t x f => (match look G s x, P.underlying t with
    | some (.a (.agg cs)), some (.struct fs) => (match fs[f]? with
      | some fd => (match partA P fd.type cs fd.offset with | some p => some (.a p, []) | none => none)
      | none => none)
    | _, _ => none)
  | .fieldAddr t x f => (match look G s x, P.underlying t with
    | some (.a (.c (.ptr m off))), some (.struct fs) => (match fs[f]? with
      | some fd => (match P.info? fd.type with
        | some i => (match Nat.beq i.size 0 with | true => none | false => some (.a (.c (.ptr m (off + fd.offset))), []))
        | none => none)
      | none => none)
    | some (.a (.c (.ip n F))), some (.struct fs) => (match fs[f]? with
      | some fd => (match P.info? fd.type with
        | some i => (match Nat.beq i.size 0, Nat.ble (fd.offset + i.size) n with | false, true => some (.a (.c (.ip i.size fun j => F (fd.offset + j))), []) | _, _ => none)
        | none => none)
      | none => none)
    | some (.a (.c (.ep m st e j))), some (.struct fs) => (match fs[f]? with
      | some fd => (match P.info? fd.type with
        | some i => (match Nat.beq i.size 0 with | false => some (.a (.c (.ep m st e (j + fd.offset))), []) | true => none)
        | none => none)
      | none => none)
    | _, _ => none)
  | .indexAddr t x ix => (match look G s x, look G s ix, P.underlying t with
    | some (.a (.c (.ptr m off))), some (.a (.c (.num _ n))), some (.array len e) => (match P.info? e, decide (0 ≤ n ∧ n < len) with
      | some i, true => some (.a (.c (.ptr m (off + n.toNat * i.size))), [])
      | _, _ => none)
    | some (.a (.c (.sl m off len _))), some (.a (.c (.num _ n))), some (.slice e) => (match P.info? e, decide (0 ≤ n ∧ n < len) with
      | some i, true => some (.a (.c (.ptr m (off + n.toNat * i.size))), [])
      | _, _ => none)
    | some (.a (.c (.im (.sl _ len st F)))), some v, some (.slice e) => (match P.info? e, idxOf v with
      | some i, some n => (match Nat.beq st i.size with | true => some (.a (.c (.ip st (F n.toNat))), [0 ≤ n, n < len]) | false => none)
      | _, _ => none)
    | some (.a (.c (.gsl m len))), some v, some (.slice e) => (match P.info? e, idxOf v with
      | some i, some n => some (.a (.c (.ep m i.size n.toNat 0)), [0 ≤ n, n < len])
      | _, _ => none)
    | some (.a (.c (.ip k F))), some v, some (.array len e) => (match P.info? e, idxOf v with
      | some i, some n => (match Nat.ble (len * i.size) k with | true => some (.a (.c (.ip i.size fun j => F (n.toNat * i.size + j))), [0 ≤ n, n < len]) | false => none)
      | _, _ => none)
    | _, _, _ => none)
  | .load t x => (match look G s x, P.underlying t, P.info? t with
    | some (.a (.c (.ptr m off))), some d, some i => (match s.hp m with
      | some k => (match isAggD d with
        | true => (match readN k off i.size with | some cs => some (.a (.agg cs), []) | none => none)
        | false => (match k.cell off with | some c => some (.a (.c c), []) | none => none))
      | none => none)
    | some (.a (.c (.ip n F))), some d, some i => (match isAggD d with
        | true => (match Nat.ble i.size n with | true => some (.a (.agg (dCells F 0 i.size)), []) | false => none)
        | false => (match Nat.ble 1 n with | true => some (.a (.c (toC (F 0))), []) | false => none))
    | some (.a (.c (.ep m st e j))), some d, some i => (match s.hp m with
      | some k => (match rowOf k with
        | some (st', len, F) => (match Nat.beq st st', isAggD d with
          | true, true => (match Nat.ble (j + i.size) st with | true => some (.a (.agg (dCells (F e) j i.size)), [e < len]) | false => none)
          | true, false => (match Nat.ble (j + 1) st with | true => some (.a (.c (toC (F e j))), [e < len]) | false => none)
          | _, _ => none)
        | none => none)
      | none => none)
    | _, _, _ => none)
  | .build t parts => (match buildA P G s t parts.toList with | some p => some (.a p, []) | none => none)
  | .nilCheck x => (match look G s x with
    | some (.a (.c (.ptr m off))) => some (.a (.c (.ptr m off)), [])
    | some (.a (.c (.ip n F))) => some (.a (.c (.ip n F)), [])
    | some (.a (.c (.ep m st e j))) => some (.a (.c (.ep m st e j)), [])
    | _ => none)
  | .slice t x lo hi mx => (match look G s x, P.underlying t, bndOf G s lo, bndOf G s hi, bndOf G s mx with
    | some (.a (.c (.im (.sl _ len st F)))), some (.slice e), some l, some h, some m => (match P.info? e, (hi.isSome || mx.isNone) with
      | some i, true => (match Nat.beq st i.size, subOf len l h m with
        | true, (l, h, p) => some (.a (.c (.im (.sl false (h - l).toNat st fun i j => F (l.toNat + i) j))), p)
        | false, _ => none)
      | _, _ => none)
    | some (.a (.c (.gsl m len))), some (.slice e), some none, some (some h), some none => (match P.info? e, s.hp m with
      | some _, some k => (match rowOf k with | some (_, L, _) => some (.a (.c (.gsl m h.toNat)), [0 ≤ h, h ≤ (L : Int)]) | none => none)
      | _, _ => none)
    | _, _, _, _, _ => none)
  | .binOp op t x y _ => (match look G s x, look G s y with
    | some (.a (.agg xs)), some (.a (.agg ys)) =>
      (match P.eqGuardType P.depth t, eqT P 10000 t (.agg xs) (.agg ys), op with
      | false, some r, .eql => some (.a (.c (.bool r)), [])
      | false, some r, .neq => some (.a (.c (.bool (!r))), [])
      | _, _, _ => none)
    | some (.a (.c a)), some (.a (.c (.int k' n))) =>
      (match op, a.val with
      | .quo, some (.int k m) => (match decide (k = k') with | true => some (.a (.c (.int k (k.wrap (m.tdiv n)))), [n ≠ 0]) | false => none)
      | .rem, some (.int k m) => (match decide (k = k') with | true => some (.a (.c (.int k (m.tmod n))), [n ≠ 0]) | false => none)
      | .shl, some (.int k m) => some (.a (.c (.int k (k.wrap (m * 2 ^ (min n.toNat k.bits))))), [0 ≤ n])
      | .shr, some (.int k m) => some (.a (.c (.int k (m.fdiv (2 ^ (min n.toNat k.bits))))), [0 ≤ n])
      | _, _ => (match effPure P G o s with | some v => some (v, []) | none => none))
    | _, _ => (match effPure P G o s with | some v => some (v, []) | none => none))
  | .makeFunc (.func f) first caps => (match first.toList, lookAll G s caps.toList with
    | [], some ps => (match ptrs ps with | some l => some (.a (.c (.fn f l)), []) | none => none)
    | [x], some [] => (match look G s x with
      | some (.a (.agg cs)) => (match toDs cs with | some ds => some (.a (.c (.im (.fv f ds.length fun j => ds.getD j .nilp))), []) | none => none)
      | _ => none)
    | _, _ => none)
  | .call c => (match c.callee, c.args.toList with
    | .builtin .len, [x] => (match look G s x, c.argTypes.toList with
      | some (.a (.c (.sl _ _ len _))), [t] => (match P.underlying t with | some (.slice _) => some (.a (.c (.num .i64 len)), []) | _ => none)
      | some (.a (.c (.gsl _ len))), [t] => (match P.underlying t with | some (.slice _) => some (.a (.c (.int .i64 len)), []) | _ => none)
      | some (.a (.c (.im (.sl _ len _ _)))), [t] => (match P.underlying t with | some (.slice _) => some (.a (.c (.int .i64 len)), []) | _ => none)
      | _, _ => (match effPure P G o s with | some v => some (v, []) | none => none))
    | .builtin _, _ => (match effPure P G o s with | some v => some (v, []) | none => none)
    | _, _ => none)
  | .unOp .. | .convert .. | .index .. | .makeInterface .. => (match effPure P G o s with | some v => some (v, []) | none => none)
  | _ => none
where
  ptrs : List A → Option (List (Nat × Nat))
    | [] => some []
    | .c (.ptr m off) :: l => (match ptrs l with | some r => some ((m, off) :: r) | none => none)
    | _ => none
theorem ptrs_rel {ρ : Ren} : ∀ {ps : List A} {l : List (Nat × Nat)} {xs : List Value}, effV.ptrs ps = some l → F2 (A.rel ρ) ps xs → F2 (PtrRel ρ) l xs := by
  intro ps
  induction ps with
  | nil => intro l xs h r; cases r; simp [effV.ptrs] at h; subst h; exact .nil
  | cons p ps ih =>
    intro l xs h r
    cases r with
    | cons r0 rs =>
      unfold effV.ptrs at h
      split at h
      · rename_i heq; cases heq
      · rename_i m off l' heq
        cases heq
        split at h
        · rename_i r' hr
          simp at h; subst h
          exact .cons r0 (ih hr rs)
        · cases h
      · cases h
end
end Go.V
end

section
namespace Go.V
section
variable {P : Program} {G : GT} {ρ : Ren} {s : S} {a : Act} {w : World}
theorem run_loadVar_agg {t : TypeId} {d : TypeDesc} {i : TypeInfo} (hd : P.underlying t = some d) (hi : P.info? t = some i) (hg : isAggD d = true) {ad : Addr} {xs : List Value} (hl : xs.length = i.size)
    (hc : ∀ j v, xs[j]? = some v → w.cell? (ad.add j) = some v) : (loadVar t ad).run P w = .ok (.agg xs.toArray) w := by
  unfold loadVar
  simp only [Sem.run_bind, run_isAgg P hd, Result.andThen_ok, hg, if_true, run_sizeOf' P hi]
  rw [← hl, run_loadCells_list w ad xs hc]
  simp
theorem run_loadVar_one {t : TypeId} {d : TypeDesc} (hd : P.underlying t = some d) (hg : isAggD d = false) {ad : Addr} {x : Value} (hc : w.cell? ad = some x) : (loadVar t ad).run P w = .ok x w := by
  unfold loadVar
  simp only [Sem.run_bind, run_isAgg P hd, Result.andThen_ok, hg, Bool.false_eq_true, if_false]
  simp [run_load, hc]
theorem effV_binOp_div {o : Oper} {op : BinOp} {t yt : TypeId} {x y : Operand} (ho : o.op = .binOp op t x y yt) {k : IntKind} {m n : Int} {c : Value} (hx : a.eval x = .int k m) (hy : a.eval y = .int k n)
    (hc : (Op.intDiv op k m n).run P w = .ok c w) (hop : op = .quo ∨ op = .rem) : (execOp a.eval o).run P w = .ok (.value c) w := by
  rcases hop with rfl | rfl <;> simp [execOp, ho, hx, hy, eqGuard_at_int, binOp_quo, binOp_rem, hc]
theorem idxOf_rel {v : V} {x : Value} {n : Int} (r : v.rel ρ x) (h : idxOf v = some n) : ∃ k, x = .int k n := by
  unfold idxOf at h
  split at h
  · simp at h; subst h; exact ⟨_, r⟩
  · simp at h; subst h; exact ⟨_, r⟩
  · cases h
theorem bndOf_rel (h : View G ρ s a w) {o : Option Operand} {b : Option Int} (e : bndOf G s o = some b) : (o = none ∧ b = none) ∨ ∃ x n k, o = some x ∧ b = some n ∧ a.eval x = .int k n := by
  unfold bndOf at e
  split at e
  · simp at e; exact .inl ⟨rfl, e.symm⟩
  · rename_i x
    split at e
    · rename_i v hv
      split at e
      · rename_i n hn
        simp at e; subst e
        obtain ⟨k, hk⟩ := idxOf_rel (look_rel h hv) hn
        exact .inr ⟨x, n, k, rfl, rfl, hk⟩
      · cases e
    · cases e
theorem slice_sound (h : View G ρ s a w) {o : Oper} {t : TypeId} {x : Operand} {lo hi mx : Option Operand} (ho : o.op = .slice t x lo hi mx) {el : TypeId} (hu : P.underlying t = some (.slice el)) {i : TypeInfo} (hi' : P.info? el = some i)
    {l hh m : Option Int} (hl : bndOf G s lo = some l) (hh' : bndOf G s hi = some hh) (hm : bndOf G s mx = some m) {q : Bool} {len : Nat} {F : Nat → Nat → D} (hvx : (D.sl q len i.size F).rel ρ.κ (a.eval x))
    {l' h' : Int} {p' : List Prop} (hsub : subOf len l hh m = (l', h', p')) (hok : (hi.isSome || mx.isNone) = true) (hp : All p') :
    ∃ x, (execOp a.eval o).run P w = .ok (.value x) w ∧ (V.a (.c (.im (.sl false (h' - l').toNat i.size fun i j => F (l'.toNat + i) j)))).rel ρ x := by
  unfold subOf at hsub
  simp only [Prod.mk.injEq] at hsub
  obtain ⟨rfl, rfl, rfl⟩ := hsub
  rw [All.append] at hp
  obtain ⟨⟨p1, p2, p3, _⟩, p4⟩ := hp
  -- the slice's value
  have hval : ∃ (ao : Option Addr) (cap : Nat), a.eval x = .slice ao len cap ∧ len ≤ cap ∧ (ao = none → len = 0 ∧ cap = 0 ∧ q = false) ∧ (∀ ad, ao = some ad → (0 < len → ad.spot = none) ∧ ∀ i' j, i' < len → j < i.size → ∃ y, ρ.κ ad.block (ad.off + i' * i.size + j) = some y ∧ (F i' j).rel ρ.κ y) := by
    rcases hvx with ⟨hq, h0, hv⟩ | ⟨ad, cap, hv, hc, hsp, hcell⟩
    · exact ⟨none, 0, by rw [hv, h0], by omega, fun _ => ⟨h0, rfl, hq⟩, (fun ad he => by cases he)⟩
    · exact ⟨some ad, cap, hv, hc, (fun he => by cases he), (fun ad' he => by cases he; exact ⟨hsp, hcell⟩)⟩
  obtain ⟨ao, cap, hv, hc, hnone, hsome⟩ := hval
  -- the bounds
  have hb : ∃ mm : Nat, (l.getD 0).toNat ≤ (hh.getD len).toNat ∧ (hh.getD len).toNat ≤ mm ∧ mm ≤ cap ∧ (Instr.sliceBounds true len cap (lo.map a.eval) (hi.map a.eval) (mx.map a.eval)).run P w = .ok ((l.getD 0).toNat, (hh.getD len).toNat, mm) w := by
    rcases bndOf_rel h hl with ⟨rfl, rfl⟩ | ⟨xl, nl, kl, rfl, rfl, hxl⟩ <;> rcases bndOf_rel h hh' with ⟨rfl, rfl⟩ | ⟨xh, nh, kh, rfl, rfl, hxh⟩ <;> rcases bndOf_rel h hm with ⟨rfl, rfl⟩ | ⟨xm, nm, km, rfl, rfl, hxm⟩ <;>
      simp only [Option.getD_none, Option.getD_some] at p1 p2 p3 p4 hok ⊢ <;> first | (cases hok; done) | skip
    · exact ⟨cap, by omega, by simp; omega, by omega, by simp [Instr.sliceBounds]⟩
    · exact ⟨cap, by omega, by omega, by omega, by simp [Instr.sliceBounds, Instr.sliceBound, hxh, asIntOf, p2, show nh ≤ (cap : Int) by omega]⟩
    · obtain ⟨p4, p5, _⟩ := p4
      exact ⟨nm.toNat, by omega, by omega, by omega, by simp [Instr.sliceBounds, Instr.sliceBound, hxh, hxm, asIntOf, p2, show 0 ≤ nm by omega, show nm ≤ (cap : Int) by omega, show nh ≤ (nm.toNat : Int) by omega, show nh ≤ max nm 0 by omega]⟩
    · exact ⟨cap, by omega, by simp; omega, by omega, by simp [Instr.sliceBounds, Instr.sliceBound, hxl, asIntOf, p1, p2]⟩
    · exact ⟨cap, by omega, by omega, by omega, by simp [Instr.sliceBounds, Instr.sliceBound, hxh, hxl, asIntOf, p1, show 0 ≤ nh by omega, show nh ≤ (cap : Int) by omega, show nl ≤ (nh.toNat : Int) by omega, show nl ≤ max nh 0 by omega]⟩
    · obtain ⟨p4, p5, _⟩ := p4
      exact ⟨nm.toNat, by omega, by omega, by omega, by simp [Instr.sliceBounds, Instr.sliceBound, hxh, hxm, hxl, asIntOf, p1, show 0 ≤ nh by omega, show 0 ≤ nm by omega, show nm ≤ (cap : Int) by omega, show nh ≤ (nm.toNat : Int) by omega, show nl ≤ (nh.toNat : Int) by omega, show nl ≤ max nh 0 by omega, show nh ≤ max nm 0 by omega]⟩
  obtain ⟨mm, b1, b2, b3, hb⟩ := hb
  generalize l.getD 0 = L at *
  generalize hh.getD len = H at *
  have hrun : (execOp a.eval o).run P w = .ok (.value (.slice (if mm = L.toNat then ao else ao.map (·.add (L.toNat * i.size))) (H.toNat - L.toNat) (mm - L.toNat))) w := by
    simp [execOp, ho, Instr.sliceAt, Instr.slice, run_underlying hu, hv, hb, run_sizeOf' P hi']
  refine ⟨_, hrun, ?_⟩
  have hlen : (H - L).toNat = H.toNat - L.toNat := by omega
  rw [hlen]
  cases ao with
  | none =>
    obtain ⟨h0, hc0, hq⟩ := hnone rfl
    refine .inl ⟨rfl, by omega, ?_⟩
    have e1 : H.toNat - L.toNat = 0 := by omega
    have e2 : mm - L.toNat = 0 := by omega
    rw [e1, e2]
    split <;> rfl
  | some ad =>
    obtain ⟨hsp, hcell⟩ := hsome ad rfl
    obtain ⟨blk, off, spt⟩ := ad
    simp only at hsp hcell
    by_cases hml : mm = L.toNat
    · refine .inr ⟨⟨blk, off, spt⟩, mm - L.toNat, by rw [if_pos hml], by omega, fun h0 => by omega, fun i' j hi'' => by omega⟩
    · by_cases hs0 : L.toNat * i.size = 0
      · refine .inr ⟨⟨blk, off, spt⟩, mm - L.toNat, by rw [if_neg hml]; simp [Addr.add, hs0], by omega, fun h0 => hsp (by omega), fun i' j hi'' hj => ?_⟩
        obtain ⟨y, hy, hr⟩ := hcell (L.toNat + i') j (by omega) hj
        refine ⟨y, ?_, hr⟩
        rw [Nat.add_mul, hs0, Nat.zero_add] at hy
        exact hy
      · refine .inr ⟨⟨blk, off + L.toNat * i.size, none⟩, mm - L.toNat, by rw [if_neg hml]; simp [Addr.add, hs0], by omega, fun _ => rfl, fun i' j hi'' hj => ?_⟩
        obtain ⟨y, hy, hr⟩ := hcell (L.toNat + i') j (by omega) hj
        refine ⟨y, ?_, hr⟩
        rw [Nat.add_mul, ← Nat.add_assoc] at hy
        exact hy
theorem gslice_sound (h : View G ρ s a w) {o : Oper} {t : TypeId} {x : Operand} {lo hi mx : Option Operand} (ho : o.op = .slice t x lo hi mx) {el : TypeId} (hu : P.underlying t = some (.slice el))
    {hh : Int} (hl : bndOf G s lo = some none) (hh' : bndOf G s hi = some (some hh)) (hm : bndOf G s mx = some none) {i : TypeInfo} (hsz : P.info? el = some i) {m len : Nat} {b : Nat × Nat} (hb : ρ m = some b) (hv : a.eval x = .slice (some ⟨b.1, 0, none⟩) len b.2) (p1 : 0 ≤ hh) (hcap : hh ≤ (b.2 : Int)) :
    ∃ x, (execOp a.eval o).run P w = .ok (.value x) w ∧ (V.a (.c (.gsl m hh.toNat))).rel ρ x := by
  have hb0 : lo = none := by
    rcases bndOf_rel h hl with ⟨h1, _⟩ | ⟨_, _, _, _, h2, _⟩
    · exact h1
    · cases h2
  have hm0 : mx = none := by
    rcases bndOf_rel h hm with ⟨h1, _⟩ | ⟨_, _, _, _, h2, _⟩
    · exact h1
    · cases h2
  obtain ⟨xh, kh, rfl, hxh⟩ : ∃ xh kh, hi = some xh ∧ a.eval xh = .int kh hh := by
    rcases bndOf_rel h hh' with ⟨_, h1⟩ | ⟨x, n, k, h1, h2, h3⟩
    · cases h1
    · cases h2; exact ⟨x, k, h1, h3⟩
  subst hb0 hm0
  refine ⟨.slice (some ⟨b.1, 0, none⟩) hh.toNat b.2, ?_, b, hb, rfl⟩
  simp only [execOp, ho, Instr.sliceAt, Instr.slice, hv, Sem.run_bind, run_underlying hu, Result.andThen_ok, Option.map_some, Option.map_none]
  by_cases hz : b.2 = 0
  · have h0 : hh = 0 := by omega
    subst h0
    simp [Instr.sliceBounds, Instr.sliceBound, hxh, asIntOf, p1, hcap, run_sizeOf' P hsz, hz, Addr.add]
  · simp [Instr.sliceBounds, Instr.sliceBound, hxh, asIntOf, p1, hcap, run_sizeOf' P hsz, hz, Addr.add]
theorem effV_sound (h : View G ρ s a w) {o : Oper} {v : V} {p : List Prop} (e : effV P G o s = some (v, p)) (hp : All p) :
    ∃ x, (execOp a.eval o).run P w = .ok (.value x) w ∧ v.rel ρ x := by
  have pure_case : (∀ cs b, o.op ≠ .select cs b) → (match effPure P G o s with | some v => some (v, []) | none => none) = some (v, p) → ∃ x, (execOp a.eval o).run P w = .ok (.value x) w ∧ v.rel ρ x := by
    intro hs e
    split at e
    · rename_i v' hv
      simp at e; obtain ⟨rfl, _⟩ := e
      exact effPure_sound P G h hs hv
    · cases e
  unfold effV at e
  split at e
  case h_1 x ho =>
    split at e
    · rename_i v' hv
      simp at e; obtain ⟨rfl, _⟩ := e
      exact ⟨a.eval x, by simp [execOp, ho], look_rel h hv⟩
    · cases e
  case h_2 x ho =>
    split at e
    · rename_i v' hv
      simp at e; obtain ⟨rfl, _⟩ := e
      exact ⟨a.eval x, by simp [execOp, ho], look_rel h hv⟩
    · cases e
  case h_3 c x y ho =>
    split at e
    · rename_i hc
      have hcv : a.eval c = .bool true := look_rel h hc
      split at e
      · rename_i v' hv
        simp at e; obtain ⟨rfl, _⟩ := e
        exact ⟨a.eval x, by simp [execOp, ho, hcv, asBool], look_rel h hv⟩
      · cases e
    · rename_i hc
      have hcv : a.eval c = .bool false := look_rel h hc
      split at e
      · rename_i v' hv
        simp at e; obtain ⟨rfl, _⟩ := e
        exact ⟨a.eval y, by simp [execOp, ho, hcv, asBool], look_rel h hv⟩
      · cases e
    · cases e
  case h_4 t i ho =>
    split at e
    · rename_i xs hx
      obtain ⟨ys, hf, hy⟩ := look_rel h hx
      split at e
      · rename_i c hc
        simp at e; obtain ⟨rfl, _⟩ := e
        obtain ⟨z, hz, hr⟩ := f2_get hf hc
        exact ⟨z, by simp [execOp, ho, hy, Instr.extract, hz], hr⟩
      · cases e
    · cases e
  case h_5 t x f ho =>
    split at e
    · rename_i cs fs hx hu
      obtain ⟨xs, hf, hv⟩ := look_rel h hx
      split at e
      · rename_i fd hfd
        split at e
        · rename_i q hq
          simp at e; obtain ⟨rfl, _⟩ := e
          obtain ⟨z, hz, hr⟩ := partA_sound P hq hf w
          exact ⟨z, by simp [execOp, ho, hv, Instr.field, run_underlying hu, hfd, asAgg, hz], hr⟩
        · cases e
      · cases e
    · cases e
  case h_6 t x f ho =>
    split at e
    · rename_i m off fs hx hu
      obtain ⟨b, hb, hv⟩ := look_rel h hx
      split at e
      · rename_i fd hfd
        split at e
        · rename_i i hi
          split at e
          · cases e
          · rename_i hsz
            simp at e; obtain ⟨rfl, _⟩ := e
            have hne : i.size ≠ 0 := fun h0 => by rw [h0] at hsz; simp at hsz
            refine ⟨_, ?_, b, hb, rfl⟩
            simp [execOp, ho, hv, Instr.fieldAt, run_underlying hu, hfd, Instr.sureAddr, fieldPlace, run_sizeOf' P hi, hne, Addr.add_lit]
        · cases e
      · cases e
    · rename_i n F fs hx hu
      obtain ⟨ad, hv, hsp, hcell⟩ := look_rel h hx
      split at e
      · rename_i fd hfd
        split at e
        · rename_i i hi
          split at e
          · rename_i hsz hn
            simp at e; obtain ⟨rfl, _⟩ := e
            have hne : i.size ≠ 0 := fun h0 => by rw [h0] at hsz; simp at hsz
            have hn' := Nat.le_of_ble_eq_true hn
            obtain ⟨blk, off, spt⟩ := ad
            simp only at hsp; subst hsp
            refine ⟨.pointer (some ⟨blk, off + fd.offset, none⟩), ?_, _, rfl, rfl, ?_⟩
            · simp [execOp, ho, hv, Instr.fieldAt, run_underlying hu, hfd, Instr.sureAddr, fieldPlace, run_sizeOf' P hi, hne, Addr.add_lit]
            · intro j hj
              obtain ⟨y, hy, hr⟩ := hcell (fd.offset + j) (by omega)
              exact ⟨y, by rw [← Nat.add_assoc] at hy; exact hy, hr⟩
          · cases e
        · cases e
      · cases e
    · rename_i m st el j fs hx hu
      obtain ⟨b, hb, hv⟩ := look_rel h hx
      split at e
      · rename_i fd hfd
        split at e
        · rename_i i hi
          split at e
          · rename_i hsz
            simp at e; obtain ⟨rfl, _⟩ := e
            have hne : i.size ≠ 0 := fun h0 => by rw [h0] at hsz; simp at hsz
            refine ⟨_, ?_, b, hb, rfl⟩
            simp [execOp, ho, hv, Instr.fieldAt, run_underlying hu, hfd, Instr.sureAddr, fieldPlace, run_sizeOf' P hi, hne, Addr.add_lit, Nat.add_assoc]
          · cases e
        · cases e
      · cases e
    · cases e
  case h_7 t x ix ho =>
    split at e
    · rename_i m off k n len el hx hix hu
      obtain ⟨b, hb, hv⟩ := look_rel h hx
      have hn : a.eval ix = .int k n := look_rel h hix
      split at e
      · rename_i i hi hd
        simp at e; obtain ⟨rfl, _⟩ := e
        have hd' := of_decide_eq_true hd
        refine ⟨_, ?_, b, hb, rfl⟩
        simp [execOp, ho, hv, hn, Instr.indexAt, asIntOf, run_underlying hu, Instr.sureAddr, hd', run_sizeOf' P hi, Addr.add_lit]
      · cases e
    · rename_i m off len cap k n el hx hix hu
      obtain ⟨b, hb, hv⟩ := look_rel h hx
      have hn : a.eval ix = .int k n := look_rel h hix
      split at e
      · rename_i i hi hd
        simp at e; obtain ⟨rfl, _⟩ := e
        have hd' := of_decide_eq_true hd
        refine ⟨_, ?_, b, hb, rfl⟩
        simp [execOp, ho, hv, hn, Instr.indexAt, asIntOf, run_underlying hu, hd', run_sizeOf' P hi, Addr.add_lit]
      · cases e
    · rename_i q len st F v0 el hx hix hu
      have hvx : (D.sl q len st F).rel ρ.κ (a.eval x) := look_rel h hx
      split at e
      · rename_i i n hi hn
        obtain ⟨k, hnv⟩ := idxOf_rel (look_rel h hix) hn
        split at e
        · rename_i hst
          have hst' := Nat.eq_of_beq_eq_true hst
          simp only [Option.some.injEq, Prod.mk.injEq] at e; obtain ⟨rfl, rfl⟩ := e
          obtain ⟨p1, p2, _⟩ := hp
          rcases hvx with ⟨_, h0, _⟩ | ⟨ad, cap, hv, hc, hsp, hcell⟩
          · exfalso; subst h0; omega
          · have hlen : 0 < len := by omega
            have hsp' := hsp hlen
            obtain ⟨blk, off, spt⟩ := ad
            simp only at hsp'; subst hsp'
            have hd' : 0 ≤ n ∧ n < len := ⟨p1, p2⟩
            refine ⟨.pointer (some ⟨blk, off + n.toNat * i.size, none⟩), ?_, _, rfl, rfl, ?_⟩
            · simp [execOp, ho, hv, hnv, Instr.indexAt, asIntOf, run_underlying hu, hd', run_sizeOf' P hi, Addr.add_lit]
            · intro j hj
              obtain ⟨y, hy, hr⟩ := hcell n.toNat j (by omega) hj
              exact ⟨y, by rw [hst'] at hy; exact hy, hr⟩
        · cases e
      · cases e
    · rename_i m len v0 el hx hix hu
      obtain ⟨b, hb, hv⟩ := look_rel h hx
      split at e
      · rename_i i n hi hn
        obtain ⟨k, hnv⟩ := idxOf_rel (look_rel h hix) hn
        simp only [Option.some.injEq, Prod.mk.injEq] at e; obtain ⟨rfl, rfl⟩ := e
        obtain ⟨p1, p2, _⟩ := hp
        have hd' : 0 ≤ n ∧ n < len := ⟨p1, p2⟩
        refine ⟨_, ?_, b, hb, rfl⟩
        simp [execOp, ho, hv, hnv, Instr.indexAt, asIntOf, run_underlying hu, hd', run_sizeOf' P hi, Addr.add_lit]
      · cases e
    · rename_i kk F v0 len el hx hix hu
      obtain ⟨ad, hv, hsp, hcell⟩ := look_rel h hx
      split at e
      · rename_i i n hi hn
        obtain ⟨k, hnv⟩ := idxOf_rel (look_rel h hix) hn
        split at e
        · rename_i hle
          have hle' := Nat.le_of_ble_eq_true hle
          simp only [Option.some.injEq, Prod.mk.injEq] at e; obtain ⟨rfl, rfl⟩ := e
          obtain ⟨p1, p2, _⟩ := hp
          have hd' : 0 ≤ n ∧ n < len := ⟨p1, p2⟩
          obtain ⟨blk, off, spt⟩ := ad
          simp only at hsp; subst hsp
          refine ⟨.pointer (some ⟨blk, off + n.toNat * i.size, none⟩), ?_, _, rfl, rfl, ?_⟩
          · simp [execOp, ho, hv, hnv, Instr.indexAt, asIntOf, run_underlying hu, Instr.sureAddr, hd', run_sizeOf' P hi, Addr.add_lit]
          · intro j hj
            have hlt : n.toNat * i.size + j < kk := by
              have h1 : n.toNat + 1 ≤ len := by omega
              have := Nat.mul_le_mul_right i.size h1
              rw [Nat.add_mul] at this
              omega
            obtain ⟨y, hy, hr⟩ := hcell _ hlt
            exact ⟨y, by rw [← Nat.add_assoc] at hy; exact hy, hr⟩
        · cases e
      · cases e
    · cases e
  case h_8 t x ho =>
    split at e
    · rename_i m off d i hx hd hi
      obtain ⟨b, hb, hv⟩ := look_rel h hx
      split at e
      · rename_i k hk
        obtain ⟨b', hb', hlt, hrel⟩ := h.hp m k hk
        simp only at hb
        rw [hb] at hb'; cases hb'
        split at e
        · rename_i hg
          split at e
          · rename_i cs hcs
            simp at e; obtain ⟨rfl, _⟩ := e
            obtain ⟨xs, hf, hl, hc⟩ := readN_sound hrel hcs
            refine ⟨.agg xs.toArray, ?_, xs, hf, rfl⟩
            simp [execOp, ho, hv, Instr.loadAt, Instr.sureAddr, run_loadVar_agg hd hi hg hl hc]
          · cases e
        · rename_i hg
          split at e
          · rename_i c hc
            simp at e; obtain ⟨rfl, _⟩ := e
            obtain ⟨z, hz, hcell⟩ := Blk.rel_cell hrel hc
            refine ⟨z, ?_, hz⟩
            simp [execOp, ho, hv, Instr.loadAt, Instr.sureAddr, run_loadVar_one hd hg hcell]
          · cases e
      · cases e
    · rename_i n F d i hx hd hi
      obtain ⟨ad, hv, hsp, hcell⟩ := look_rel h hx
      obtain ⟨blk, off, spt⟩ := ad
      simp only at hsp; subst hsp
      split at e
      · rename_i hg
        split at e
        · rename_i hle
          have hle' := Nat.le_of_ble_eq_true hle
          simp at e; obtain ⟨rfl, _⟩ := e
          obtain ⟨xs, hf, hl, hc0⟩ := dCells_sound h.im (G := F) (a := ⟨blk, off, none⟩) rfl (n := i.size) (o := 0) (fun j _ hj => hcell j (by omega))
          have hc : ∀ j v, xs[j]? = some v → w.cell? ((⟨blk, off, none⟩ : Addr).add j) = some v := hc0
          refine ⟨.agg xs.toArray, ?_, xs, hf, rfl⟩
          simp [execOp, ho, hv, Instr.loadAt, Instr.sureAddr, run_loadVar_agg hd hi hg hl hc]
        · cases e
      · rename_i hg
        split at e
        · rename_i hle
          have hle' := Nat.le_of_ble_eq_true hle
          simp at e; obtain ⟨rfl, _⟩ := e
          obtain ⟨y, hy, hr⟩ := hcell 0 (by omega)
          refine ⟨y, ?_, toC_rel hr⟩
          have hy' : w.cell? ⟨blk, off, none⟩ = some y := (h.im _ _ _ hy).2
          simp [execOp, ho, hv, Instr.loadAt, Instr.sureAddr, run_loadVar_one hd hg hy']
        · cases e
    · rename_i m st el j d i hx hd hi
      obtain ⟨b, hb, hv⟩ := look_rel h hx
      split at e
      · rename_i k hk
        obtain ⟨b', hb', hlt, hrel⟩ := h.hp m k hk
        simp only at hb
        rw [hb] at hb'; cases hb'
        split at e
        · rename_i st' len F hrow
          split at e
          · rename_i hst hg
            have hst' := Nat.eq_of_beq_eq_true hst
            subst hst'
            split at e
            · rename_i hle
              have hle' := Nat.le_of_ble_eq_true hle
              simp only [Option.some.injEq, Prod.mk.injEq] at e; obtain ⟨rfl, rfl⟩ := e
              obtain ⟨xs, hf, hl, hc⟩ := rCells_sound h.im hrel hrow hp.1 (n := i.size) (o := j) hle'
              refine ⟨.agg xs.toArray, ?_, xs, hf, rfl⟩
              simp [execOp, ho, hv, Instr.loadAt, Instr.sureAddr, run_loadVar_agg hd hi hg hl hc]
            · cases e
          · rename_i hst hg
            have hst' := Nat.eq_of_beq_eq_true hst
            subst hst'
            split at e
            · rename_i hle
              have hle' := Nat.le_of_ble_eq_true hle
              simp only [Option.some.injEq, Prod.mk.injEq] at e; obtain ⟨rfl, rfl⟩ := e
              obtain ⟨xs, hf, hl, hc⟩ := rCells_sound h.im hrel hrow hp.1 (n := 1) (o := j) (by omega)
              simp only [dCells] at hf
              cases hf with
              | cons r0 rs =>
                rename_i y ys
                refine ⟨y, ?_, r0⟩
                have := hc 0 y (by simp)
                simp [execOp, ho, hv, Instr.loadAt, Instr.sureAddr, run_loadVar_one hd hg (by simpa [Addr.add] using this)]
            · cases e
          · cases e
        · cases e
      · cases e
    · cases e
  case h_9 t parts ho =>
    split at e
    · rename_i q hq
      simp at e; obtain ⟨rfl, _⟩ := e
      obtain ⟨z, hz, hr⟩ := buildA_sound P G h hq
      exact ⟨z, by simp [execOp, ho, hz], hr⟩
    · cases e
  case h_10 x ho =>
    split at e
    · rename_i m off hx
      simp at e; obtain ⟨rfl, _⟩ := e
      obtain ⟨b, hb, hv⟩ := look_rel h hx
      exact ⟨_, by simp [execOp, ho, hv], b, hb, rfl⟩
    · rename_i n F hx
      simp at e; obtain ⟨rfl, _⟩ := e
      have hr := look_rel h hx
      obtain ⟨ad, hv, _⟩ := id hr
      exact ⟨a.eval x, by simp [execOp, ho, hv], hr⟩
    · rename_i m st el j hx
      simp at e; obtain ⟨rfl, _⟩ := e
      obtain ⟨b, hb, hv⟩ := look_rel h hx
      exact ⟨_, by simp [execOp, ho, hv], b, hb, rfl⟩
    · cases e
  case h_11 t x lo hi mx ho =>
    split at e
    · rename_i q len st F el l hh m hx hu hl hh' hm
      have hvx : (D.sl q len st F).rel ρ.κ (a.eval x) := look_rel h hx
      split at e
      · rename_i i hi' hok
        split at e
        · rename_i l' h' p' hst hsub
          have hst' := Nat.eq_of_beq_eq_true hst
          subst hst'
          simp only [Option.some.injEq, Prod.mk.injEq] at e; obtain ⟨rfl, rfl⟩ := e
          exact slice_sound h ho hu hi' hl hh' hm hvx hsub hok hp
        · cases e
      · cases e
    · rename_i m len el hh hx hu hl hh' hm
      split at e
      · rename_i i0 k hi0 hk
        split at e
        · rename_i st L F hrow
          simp only [Option.some.injEq, Prod.mk.injEq] at e; obtain ⟨rfl, rfl⟩ := e
          obtain ⟨b, hb, hv⟩ := look_rel h hx
          obtain ⟨b', hb', hlt, hrel⟩ := h.hp m k hk
          rw [hb] at hb'; cases hb'
          have := rowOf_cap hrel hrow
          obtain ⟨p1, p2, _⟩ := hp
          exact gslice_sound h ho hu hl hh' hm hi0 hb hv p1 (by omega)
        · cases e
      · cases e
    · cases e
  case h_12 op t x y yt ho =>
    have hs : ∀ cs b, o.op ≠ .select cs b := by simp [ho]
    split at e
    · rename_i xs ys hx hy
      have hvx := look_rel h hx
      have hvy := look_rel h hy
      split at e
      · rename_i r hg he
        simp at e; obtain ⟨rfl, _⟩ := e
        have hrun := eqT_sound P w _ _ _ _ _ _ _ he hvx hvy
        obtain ⟨us, _, hux⟩ := hvx
        obtain ⟨vs, _, huy⟩ := hvy
        refine ⟨.bool r, ?_, rfl⟩
        rw [hux, huy] at hrun
        simp only [execOp, ho, hux, huy, Sem.run_bind, run_eqGuard_agg w _ _ _ _ _ _ hg, Result.andThen_ok, run_eql_struct, hrun, Sem.run_pure]
      · rename_i r hg he
        simp at e; obtain ⟨rfl, _⟩ := e
        have hrun := eqT_sound P w _ _ _ _ _ _ _ he hvx hvy
        obtain ⟨us, _, hux⟩ := hvx
        obtain ⟨vs, _, huy⟩ := hvy
        refine ⟨.bool (!r), ?_, rfl⟩
        rw [hux, huy] at hrun
        simp only [execOp, ho, hux, huy, Sem.run_bind, run_eqGuard_agg w _ _ _ _ _ _ hg, Result.andThen_ok, run_neq_struct, hrun, Sem.run_pure]
      · cases e
    · rename_i c k' n hx hy
      have hvy : a.eval y = .int k' n := look_rel h hy
      split at e
      · rename_i k m hm
        split at e
        · rename_i hk
          simp only [Option.some.injEq, Prod.mk.injEq] at e; obtain ⟨rfl, rfl⟩ := e
          replace hp := hp.1
          have hk' := of_decide_eq_true hk; subst hk'
          have hvx : a.eval x = .int k m := C.val_rel hm (look_rel h hx)
          refine ⟨_, effV_binOp_div ho hvx hvy ?_ (.inl rfl), rfl⟩
          simp [Op.intDiv, hp]
        · cases e
      · rename_i k m hm
        split at e
        · rename_i hk
          simp only [Option.some.injEq, Prod.mk.injEq] at e; obtain ⟨rfl, rfl⟩ := e
          replace hp := hp.1
          have hk' := of_decide_eq_true hk; subst hk'
          have hvx : a.eval x = .int k m := C.val_rel hm (look_rel h hx)
          refine ⟨_, effV_binOp_div ho hvx hvy ?_ (.inr rfl), rfl⟩
          simp [Op.intDiv, hp]
        · cases e
      · rename_i k m hm
        simp only [Option.some.injEq, Prod.mk.injEq] at e; obtain ⟨rfl, rfl⟩ := e
        replace hp := hp.1
        have hvx : a.eval x = .int k m := C.val_rel hm (look_rel h hx)
        refine ⟨_, ?_, rfl⟩
        have : ¬ n < 0 := by omega
        simp [execOp, ho, hvx, hvy, eqGuard_at_int, binOp_shl, Op.shift, this]
      · rename_i k m hm
        simp only [Option.some.injEq, Prod.mk.injEq] at e; obtain ⟨rfl, rfl⟩ := e
        replace hp := hp.1
        have hvx : a.eval x = .int k m := C.val_rel hm (look_rel h hx)
        refine ⟨_, ?_, rfl⟩
        have : ¬ n < 0 := by omega
        simp [execOp, ho, hvx, hvy, eqGuard_at_int, binOp_shr, Op.shift, this]
      · exact pure_case hs e
    · exact pure_case hs e
  case h_13 f first caps ho =>
    split at e
    · rename_i ps hfirst hps
      split at e
      · rename_i l hl
        simp at e; obtain ⟨rfl, _⟩ := e
        have := ptrs_rel hl (lookAll_rel G h hps)
        have hf0 : first = #[] := by cases first; simp_all
        refine ⟨.func (.func f) #[] (caps.map a.eval), ?_, caps.toList.map a.eval, this, ?_⟩
        · simp [execOp, ho, Instr.makeFunc, hf0]
        · congr 1; apply Array.ext'; simp
      · cases e
    · rename_i x hfirst hps
      split at e
      · rename_i cs hx
        split at e
        · rename_i ds hds
          simp only [Option.some.injEq, Prod.mk.injEq] at e
          obtain ⟨rfl, _⟩ := e
          obtain ⟨xs, hxs, hxv⟩ := look_rel h hx
          have hf0 : first = #[x] := by apply Array.ext'; simpa using hfirst
          have hc0 : caps = #[] := by
            have : caps.toList = [] := by
              cases hcl : caps.toList with
              | nil => rfl
              | cons y l =>
                rw [hcl] at hps
                simp only [lookAll] at hps
                split at hps <;> cases hps
            apply Array.ext'; simpa using this
          have hdr := toDs_rel hds hxs
          refine ⟨.func (.func f) #[.agg xs.toArray] #[], ?_, xs, (f2_len hdr).symm, rfl, fun j hj => ?_⟩
          · have hxe : a.eval x = .agg xs.toArray := hxv
            simp [execOp, ho, Instr.makeFunc, hf0, hc0, hxe]
          · have hg : ds[j]? = some (ds.getD j .nilp) := by simp [hj]
            exact f2_get hdr hg
        · cases e
      · cases e
    · cases e
  case h_14 c ho =>
    have hs : ∀ cs b, o.op ≠ .select cs b := by simp [ho]
    split at e
    · rename_i x hcal hargs
      have ha : c.args = #[x] := by apply Array.ext'; simpa using hargs
      split at e
      · rename_i m off len cap t hx ht
        split at e
        · rename_i el hu
          simp at e; obtain ⟨rfl, _⟩ := e
          obtain ⟨b, hb, hv⟩ := look_rel h hx
          have hat : c.argTypes = #[t] := by apply Array.ext'; simpa using ht
          refine ⟨.int .i64 len, ?_, rfl⟩
          simp [execOp, ho, resolve, hcal, ha, hv, invoke, builtin, Builtin.len_, hat, run_underlying hu, goInt]
        · cases e
      · rename_i m len t hx ht
        split at e
        · rename_i el hu
          simp at e; obtain ⟨rfl, _⟩ := e
          obtain ⟨b, hb, hv⟩ := look_rel h hx
          have hat : c.argTypes = #[t] := by apply Array.ext'; simpa using ht
          refine ⟨.int .i64 len, ?_, rfl⟩
          simp [execOp, ho, resolve, hcal, ha, hv, invoke, builtin, Builtin.len_, hat, run_underlying hu, goInt]
        · cases e
      · rename_i q len st F t hx ht
        split at e
        · rename_i el hu
          simp at e; obtain ⟨rfl, _⟩ := e
          have hvx : (D.sl q len st F).rel ρ.κ (a.eval x) := look_rel h hx
          have hat : c.argTypes = #[t] := by apply Array.ext'; simpa using ht
          have hv : ∃ ao cap, a.eval x = .slice ao len cap := by
            rcases hvx with ⟨_, rfl, hv⟩ | ⟨ad, cap, hv, _⟩
            · exact ⟨_, _, hv⟩
            · exact ⟨_, _, hv⟩
          obtain ⟨ao, cap, hv⟩ := hv
          refine ⟨.int .i64 len, ?_, rfl⟩
          simp [execOp, ho, resolve, hcal, ha, hv, invoke, builtin, Builtin.len_, hat, run_underlying hu, goInt]
        · cases e
      · exact pure_case hs e
    · exact pure_case hs e
    · cases e
  case h_15 ho => exact pure_case (by simp [ho]) e
  case h_16 ho => exact pure_case (by simp [ho]) e
  case h_17 ho => exact pure_case (by simp [ho]) e
  case h_18 ho => exact pure_case (by simp [ho]) e
  case h_19 => cases e
end
end Go.V
end

section
set_option linter.unusedVariables false
set_option linter.unusedSimpArgs false
namespace Go.V
open Go.RowKit (Below)
def Fd (r : Option Nat) : Fence := { fn := fun _ => True, depth := none, alive := false, round := r }
def Ar.rel (κ : Still) : Ar → Value → Prop
  | .c d, x => d.rel κ x
  | .agg ds, x => ∃ xs : List Value, F2 (D.rel κ) ds xs ∧ x = .agg xs.toArray
theorem Ar.rel_mono {κ κ' : Still} (h : κ.le κ') (r : Ar) (x : Value) (hr : r.rel κ x) : r.rel κ' x := by
  cases r with
  | c d => exact D.rel_mono h d x hr
  | agg ds => obtain ⟨xs, hf, e⟩ := hr; exact ⟨xs, f2_imp (D.rel_mono h) hf, e⟩
def toAr : A → Option Ar
  | .c x => (match toD x with | some d => some (.c d) | none => none)
  | .agg cs => (match toDs cs with | some ds => some (.agg ds) | none => none)
def toArs : List A → Option (List Ar)
  | [] => some []
  | a :: l => match toAr a, toArs l with | some r, some k => some (r :: k) | _, _ => none
def ofAr : Ar → A
  | .c d => .c (toC d)
  | .agg ds => .agg (ds.map toC)
theorem toAr_rel {ρ : Ren} {p : A} {r : Ar} {x : Value} (h : toAr p = some r) (hr : p.rel ρ x) : r.rel ρ.κ x := by
  cases p with
  | c y =>
    simp only [toAr] at h
    split at h
    · rename_i d hd; simp at h; subst h; exact toD_rel hd hr
    · cases h
  | agg cs =>
    simp only [toAr] at h
    split at h
    · rename_i ds hd; simp at h; subst h
      obtain ⟨xs, hf, e⟩ := hr
      exact ⟨xs, toDs_rel hd hf, e⟩
    · cases h
theorem toArs_rel {ρ : Ren} : ∀ {ps : List A} {rs : List Ar} {xs : List Value}, toArs ps = some rs → F2 (A.rel ρ) ps xs → F2 (Ar.rel ρ.κ) rs xs := by
  intro ps
  induction ps with
  | nil => intro rs xs h r; cases r; simp [toArs] at h; subst h; exact .nil
  | cons p ps ih =>
    intro rs xs h r
    cases r with
    | cons r0 rs' =>
      simp only [toArs] at h
      split at h
      · rename_i q k hq hk
        simp at h; subst h
        exact .cons (toAr_rel hq r0) (ih hk rs')
      · cases h
theorem f2_toC {ρ : Ren} : ∀ {ds : List D} {xs : List Value}, F2 (D.rel ρ.κ) ds xs → F2 (C.rel ρ) (ds.map toC) xs
  | _, _, .nil => .nil
  | _, _, .cons r rs => .cons (toC_rel r) (f2_toC rs)
theorem ofAr_rel {ρ : Ren} {r : Ar} {x : Value} (h : r.rel ρ.κ x) : (ofAr r).rel ρ x := by
  cases r with
  | c d => exact toC_rel h
  | agg ds => obtain ⟨xs, hf, e⟩ := h; exact ⟨xs, f2_toC hf, e⟩
def CloOK (P : Program) (gw : World → Prop) (κ : Still) (φ : Clo) (x : Value) : Prop :=
  ∃ f caps, x = .func (.func f) #[] caps ∧ (∀ args w, (callFunc f args).run P w = .ok (.enter f args) w) ∧ ∀ κ' w ars p r xs, κ.le κ' → Lies κ' w → gw w → φ ars = some (p, r) → All p → F2 (Ar.rel κ') ars xs →
    Calls P f (xs.toArray ++ caps) w (fun e w' => ∃ x κ'', e = .returned x ∧ κ'.le κ'' ∧ Lies κ'' w' ∧ (∀ b o v, κ'' b o = some v → κ' b o = some v ∨ w.heap.size ≤ b) ∧ r.rel κ'' x ∧ Below w.heap.size w w')
theorem CloOK.mono {P : Program} {gw : World → Prop} {κ κ' : Still} (h : κ.le κ') {φ : Clo} {x : Value} (hc : CloOK P gw κ φ x) : CloOK P gw κ' φ x := by
  obtain ⟨f, caps, hx, he, hs⟩ := hc
  exact ⟨f, caps, hx, he, fun κ2 w ars p r xs hle => hs κ2 w ars p r xs (fun b o v hv => hle _ _ _ (h _ _ _ hv))⟩
abbrev Sm := List A → (Nat → Option Blk) → Nat → Option (List Prop × V × List Blk × List (Nat × Blk))
def Ends (ρ : Ren) (c : Nat) (v : V) (N : List Blk) (Z : List (Nat × Blk)) (w : World) (e : Ending) (w' : World) : Prop :=
  ∃ (ρ' : Ren) (x : Value), e = .returned x ∧ ρ.le ρ' ∧ (∀ m, ρ m = none → (m < c ∨ c + N.length ≤ m) → ρ' m = none) ∧ v.rel ρ' x ∧ Below w.heap.size w w' ∧
    (∀ i k, N[i]? = some k → ∃ b, ρ' (c + i) = some b ∧ w.heap.size ≤ b.1 ∧ b.1 < w'.heap.size ∧ k.rel ρ' b w') ∧
    (∀ i j b b', i < N.length → j < N.length → i ≠ j → ρ' (c + i) = some b → ρ' (c + j) = some b' → b.1 ≠ b'.1) ∧
    (∀ q, q ∈ Z → ∀ b, ρ q.1 = some b → q.2.rel ρ' b w') ∧
    (∀ b o v, ρ'.κ b o = some v → ρ.κ b o = some v ∨ ((w.heap.size ≤ b ∨ ∃ q b0, q ∈ Z ∧ ρ q.1 = some b0 ∧ b = b0.1) ∧ b < w'.heap.size ∧ w'.cell? ⟨b, o, none⟩ = some v ∧ ∀ i k b', N[i]? = some k → k.own = true → ρ' (c + i) = some b' → b'.1 ≠ b))
structure SumOK (P : Program) (G : GT) (gw : World → Prop) (f : FuncId) (σ : Sm) : Prop where
  enter : ∀ (args : Array Value) (w : World), (callFunc f args).run P w = .ok (.enter f args) w
  frz : ∀ args c hp p v N Z, σ args hp c = some (p, v, N, Z) → ∀ q, q ∈ Z → q.2.own = false ∧ ∃ k, hp q.1 = some k ∧ k.own = true
  ok : ∀ args c hp p v N Z, σ args hp c = some (p, v, N, Z) → All p → ∀ (ρ : Ren) (xs : List Value) (w : World), gw w → Lies ρ.κ w → (∀ φ x, ρ.cl φ x → CloOK P gw ρ.κ φ x) → (∀ g n F, G g = some (n, F) → (C.ip n F).rel ρ (.pointer (some ⟨g, 0, none⟩))) → F2 (A.rel ρ) args xs →
    (∀ m k, hp m = some k → ∃ b, ρ m = some b ∧ b.1 < w.heap.size ∧ k.rel ρ b w) → (∀ i, i < N.length → ρ (c + i) = none) → Calls P f xs.toArray w (Ends ρ c v N Z w)
theorem run_callFunc {P : Program} {f : FuncId} {fn : Func} (h : P.funcs[f]? = some fn) (hn : (fn.name == "runtime.NumGoroutine") = false) (hb : fn.body.isNone = false) (args : Array Value) (w : World) :
    (callFunc f args).run P w = .ok (.enter f args) w := by
  unfold callFunc
  simp only [Sem.run_bind, run_program, Result.andThen_ok, h, hn, Bool.false_eq_true, if_false, hb]
  rfl
section
variable (P : Program) (G : GT) (sg : FuncId → Option Sm)
def zeroL (n : Nat) (zl : List C) : List C := (List.range n).map fun i => zl.getD (i % zl.length) (.lit false)
def baseOf (s : S) (e : TypeId) (size : Nat) : V → Option (Option Nat × Nat × (Nat → Nat → D) × Bool × List Prop)
  | .a (.c .nsl) => some (none, 0, (fun _ _ => .nilp), false, [])
  | .a (.c (.gsl m len)) => (match s.hp m with
    | some (.row e' st L F) => (match Nat.beq e e' && Nat.beq st size with | true => some (some m, len, F, true, [len ≤ L]) | false => none)
    | _ => none)
  | .a (.c (.sl m 0 n cap)) => (match s.hp m with
    | some (.known e' cs) => (match toDes cs, Nat.beq e e' && Nat.beq cs.length (cap * size) && Nat.ble n cap && Nat.ble cap 1000000 with
      | some ds, true => some (some m, n, (fun i j => ds.getD (i * size + j) .nilp), true, [])
      | _, _ => none)
    | _ => none)
  | _ => none
def stD (hp : Nat → Option Blk) : C → Option (D × List Prop)
  | .gsl m len => (match hp m with | some (.fz st L F) => some (.sl true len st F, [len ≤ L]) | _ => none)
  | x => (match toD x with | some d => some (d, []) | none => none)
def stDs (hp : Nat → Option Blk) : List C → Option (List D × List Prop)
  | [] => some ([], [])
  | c :: l => match stD hp c, stDs hp l with | some (d, p), some (ds, q) => some (d :: ds, p ++ q) | _, _ => none
theorem stD_rel {ρ : Ren} {w : World} {hp : Nat → Option Blk} (hhp : ∀ m k, hp m = some k → ∃ b, ρ m = some b ∧ k.rel ρ b w) {c : C} {d : D} {p : List Prop} {x : Value} (h : stD hp c = some (d, p)) (hp' : All p) (r : c.rel ρ x) : d.rel ρ.κ x := by
  unfold stD at h
  split at h
  · rename_i m len
    split at h
    · rename_i st L F hm
      simp only [Option.some.injEq, Prod.mk.injEq] at h
      obtain ⟨rfl, rfl⟩ := h
      obtain ⟨b, hb, rfl⟩ := r
      obtain ⟨b', hb', hl, hc⟩ := hhp m _ hm
      rw [hb] at hb'; cases hb'
      have h1 := hp'.1
      refine .inr ⟨⟨b.1, 0, none⟩, b.2, rfl, by omega, fun _ => rfl, fun i j hi hj => ?_⟩
      obtain ⟨y, hy, hr⟩ := hc i j (by omega) hj
      exact ⟨y, by rw [Nat.zero_add]; exact hy, hr⟩
    · cases h
  · split at h
    · rename_i d' hd
      simp only [Option.some.injEq, Prod.mk.injEq] at h
      obtain ⟨rfl, rfl⟩ := h
      exact toD_rel hd r
    · cases h
theorem stDs_rel {ρ : Ren} {w : World} {hp : Nat → Option Blk} (hhp : ∀ m k, hp m = some k → ∃ b, ρ m = some b ∧ k.rel ρ b w) : ∀ {cs : List C} {ds : List D} {p : List Prop} {xs : List Value}, stDs hp cs = some (ds, p) → All p → F2 (C.rel ρ) cs xs → F2 (D.rel ρ.κ) ds xs := by
  intro cs
  induction cs with
  | nil => intro ds p xs h _ r; cases r; simp [stDs] at h; obtain ⟨rfl, _⟩ := h; exact .nil
  | cons c cs ih =>
    intro ds p xs h hp r
    cases r with
    | cons r0 rs =>
      simp only [stDs] at h
      split at h
      · rename_i d p1 ds' q1 hd hds
        simp only [Option.some.injEq, Prod.mk.injEq] at h
        obtain ⟨rfl, rfl⟩ := h
        obtain ⟨h1, h2⟩ := All.append.1 hp
        exact .cons (stD_rel hhp hd h1 r0) (ih hds h2 rs)
      · cases h
def moreOf (s : S) (e : TypeId) (size : Nat) : V → Option (Nat × (Nat → Nat → D) × Bool × List Prop)
  | .a (.c (.im (.sl _ n st F))) => (match Nat.beq st size with | true => some (n, F, false, []) | false => none)
  | .a (.c (.gsl m len)) => (match s.hp m with
    | some k => (match rowOf k with
      | some (st, L, F) => (match Nat.beq st size with | true => some (len, F, false, [len ≤ L]) | false => none)
      | none => none)
    | _ => none)
  | .a (.c (.sl m 0 n cap)) => (match s.hp m with
    | some (.known e' cs) => (match stDs s.hp cs, Nat.ble (n * size) cs.length with
      | some (ds, p), true => some (n, (fun i j => ds.getD (i * size + j) .nilp), Nat.blt 0 n, p)
      | _, _ => none)
    | _ => none)
  | _ => none
def joinF (len : Nat) (F F' : Nat → Nat → D) : Nat → Nat → D := fun i j => match Nat.blt i len with | true => F i j | false => F' (i - len) j
def putF (i j n : Nat) (ds : List D) (F : Nat → Nat → D) : Nat → Nat → D := fun i' j' => match Nat.beq i' i && (Nat.ble j j' && Nat.blt j' (j + n)) with | true => ds.getD (j' - j) .nilp | false => F i' j'
def appM (c : Nat) (s : S) (x y : Operand) (t : TypeId) : Option (Eff × List Prop) :=
  match P.underlying t, look G s x, look G s y with
  | some (.slice e), some vx, some vy => (match P.info? e with
    | some i => (match i.zero, Nat.blt 0 i.size && Nat.ble i.bytes 100000000 with
      | some z, true => (match Nat.beq z.cells.size i.size, baseOf s e i.size vx, moreOf s e i.size vy with
        | true, some (bm, len, F, q, p), some (n, F', q', p') => (match q || q' with
          | true => some (⟨some (.a (.c (.gsl c (len + n)))), [.row e i.size (len + n) (joinF len F F')], (match bm with | some m => [(m, .dead)] | none => [])⟩, (len + n ≤ 1000000) :: (p ++ p'))
          | false => some (⟨some (.a (.c (.im (.sl false n i.size F')))), [], []⟩, (len + n ≤ 1000000) :: (p ++ p')))
        | _, _, _ => none)
      | _, _ => none)
    | none => none)
  | _, _, _ => none
def fnV : V → V
  | .a (.c (.op (.func (.func g) a b))) => (match a.toList, b.toList with | [], [] => .a (.c (.fn g [])) | _, _ => .a (.c (.op (.func (.func g) a b))))
  | v => v
theorem fnV_rel {ρ : Ren} {v : V} {x : Value} (h : v.rel ρ x) : (fnV v).rel ρ x := by
  unfold fnV
  split
  · rename_i g a b
    split
    · rename_i ha hb
      have ea : a = #[] := by apply Array.ext'; simpa using ha
      have eb : b = #[] := by apply Array.ext'; simpa using hb
      subst ea eb
      exact ⟨[], .nil, h.1⟩
    · exact h
  · exact h
def effM (o : Oper) (c : Nat) (s : S) : Option (Eff × List Prop) :=
  match o.op with
  | .alloc elem => (match P.info? elem with
    | some i => (match i.zero with
      | some z => (match ofCells true z.cells.toList with | some cs => some (⟨some (.a (.c (.ptr c 0))), [.known elem cs], []⟩, []) | none => none)
      | none => none)
    | none => none)
  | .box elem x => (match look G s x with | some (.a y) => some (⟨some (.a (.c (.ptr c 0))), [.known elem y.cells], []⟩, []) | _ => none)
  | .buildSlice t len parts => (match P.underlying t, looks G s parts.toList with
    | some (.slice elem), some ps => (match P.info? elem with
      | some i => (match i.zero with
        | some z => (match ofCells true z.cells.toList, Nat.ble (len * i.size) 16777216 && Nat.blt 0 z.cells.size with
          | some zl, true => (match fillA (fun j => some (j * i.size, i.size)) (zeroL (len * i.size) zl) ps with
            | some r => some (⟨some (.a (.c (.sl c 0 len len))), [.known elem r], []⟩, [])
            | none => none)
          | _, _ => none)
        | none => none)
      | none => none)
    | _, _ => none)
  | .makeSlice t l cp => (match P.underlying t, look G s l, look G s cp with
    | some (.slice elem), some (.a (.c (.num _ n))), some (.a (.c (.num _ m))) => (match P.info? elem with
      | some i => (match i.zero with
        | some z => (match ofCells true z.cells.toList, decide (0 ≤ n ∧ n ≤ m ∧ m ≤ 1000000 ∧ i.bytes ≤ 1000000) && Nat.blt 0 z.cells.size with
          | some zl, true => some (⟨some (.a (.c (.sl c 0 n.toNat m.toNat))), [.known elem (zeroL (m.toNat * i.size) zl)], []⟩, [])
          | _, _ => none)
        | none => none)
      | none => none)
    | some (.slice elem), some (.a (.c (.int _ n))), some (.a (.c (.int _ m))) => (match P.info? elem with
      | some i => (match i.zero with
        | some z => (match ofCells true z.cells.toList, decide (i.bytes ≤ 1000000) && Nat.beq z.cells.size i.size && Nat.blt 0 i.size with
          | some zl, true => (match toDs zl with
            | some ds => some (⟨some (.a (.c (.gsl c n.toNat))), [.row elem i.size n.toNat (fun _ j => ds.getD j .nilp)], []⟩, [0 ≤ n, n ≤ m, m ≤ 1000000])
            | none => none)
          | _, _ => none)
        | none => none)
      | none => none)
    | _, _, _ => none)
  | .store t x y => (match look G s x, look G s y, P.info? t with
    | some (.a (.c (.ptr m off))), some (.a v), some i => (match s.hp m with
      | some (.known e cs) => (match Nat.beq v.cells.length i.size && Nat.ble (off + v.cells.length) cs.length with
        | true => some (⟨none, [], [(m, .known e (cs.take off ++ v.cells ++ cs.drop (off + v.cells.length)))]⟩, [])
        | false => none)
      | _ => none)
    | some (.a (.c (.ep m st e j))), some (.a v), some i => (match s.hp m with
      | some (.row el st' len F) => (match toDs v.cells, Nat.beq v.cells.length i.size && Nat.ble (j + v.cells.length) st && Nat.beq st st' with
        | some ds, true => some (⟨none, [], [(m, .row el st' len (putF e j v.cells.length ds F))]⟩, [e < len])
        | _, _ => none)
      | _ => none)
    | _, _, _ => none)
  | .call cl => (match cl.callee, cl.args.toList, cl.argTypes.toList with
    | .builtin .append, [x, y], [t, t'] => (match Nat.beq t t' with | true => appM P G c s x y t | false => none)
    | .value f, _, _ => (match (look G s f).map fnV, lookAll G s cl.args.toList with
      | some (.a (.c (.fn g caps))), some args => (match sg g with
        | some σ => (match σ (args ++ caps.map fun q => .c (.ptr q.1 q.2)) s.hp c with
          | some (p, v, N, Z) => some (⟨some v, N, Z⟩, p)
          | none => none)
        | none => none)
      | some (.a (.c (.im (.fc g n F)))), some args => (match sg g with
        | some σ => (match σ (args ++ [.c (.ip n F)]) s.hp c with
          | some (p, v, N, Z) => some (⟨some v, N, Z⟩, p)
          | none => none)
        | none => none)
      | some (.a (.c (.clo φ))), some args => (match toArs args with
        | some ars => (match φ ars with | some (p, r) => some (⟨some (.a (ofAr r)), [], []⟩, p) | none => none)
        | none => none)
      | _, _ => none)
    | _, _, _ => (match effV P G o s with | some (v, p) => some (⟨some v, [], []⟩, p) | none => none))
  | _ => (match effV P G o s with | some (v, p) => some (⟨some v, [], []⟩, p) | none => none)
end
section
variable {P : Program} {G : GT} {N : Nat} {r : Option Nat} {sg : FuncId → Option Sm} {gw : World → Prop} {w0 : World} {ρ : Ren} {s s' : S} {a : Act} {w : World} {Q : Exit → Act → World → Prop}
theorem ow_value {o : Oper} {K : Act → World → Prop} {v : Value} {w' : World} (h : (execOp a.eval o).run P w = .ok (.value v) w') (hd : ∀ c, o.op ≠ .defer c) (hk : K (a.put o.dst v) w') : o.wpIn (Fd r) 0 P a w K Q :=
  ⟨fun _ _ => trivial, by rw [Oper.semAt_eq _ _ _ hd, h]; exact hk⟩
theorem ow_skip {o : Oper} {K : Act → World → Prop} {w' : World} (h : (execOp a.eval o).run P w = .ok .skip w') (hd : ∀ c, o.op ≠ .defer c) (hk : K (a.put o.dst undef) w') : o.wpIn (Fd r) 0 P a w K Q :=
  ⟨fun _ _ => trivial, by rw [Oper.semAt_eq _ _ _ hd, h]; exact hk⟩
theorem callsIn_Fd {n : Nat} {f : FuncId} {args : Array Value} {R : Ending → World → Prop} (h : Calls P f args w R) : CallsIn (Fd r) n P f args w R := (callsIn_wide (n := n)).2 h
theorem ow_enter {o : Oper} {K : Act → World → Prop} {f : FuncId} {args : Array Value} (h : (execOp a.eval o).run P w = .ok (.enter f args) w) (hd : ∀ c, o.op ≠ .defer c)
    (hk : Calls P f args w (fun e w' => ∃ x, e = .returned x ∧ K (a.put o.dst x) w')) : o.wpIn (Fd r) 0 P a w K Q := by
  refine ⟨fun _ _ => trivial, ?_⟩
  rw [Oper.semAt_eq _ _ _ hd, h, Oper.uponIn_enter]
  refine ⟨fun h => (by cases h), callsIn_Fd (hk.mono ?_)⟩
  rintro e w' ⟨x, rfl, hx⟩
  exact hx
theorem f2_map_range {α β : Type} {R : α → β → Prop} {f : Nat → α} {g : Nat → β} (h : ∀ i, R (f i) (g i)) : ∀ (l : List Nat), F2 R (l.map f) (l.map g)
  | [] => .nil
  | x :: l => .cons (h x) (f2_map_range h l)
theorem zeroL_rel {ρ : Ren} {zl : List C} {z : Array Value} (h : F2 (C.rel ρ) zl z.toList) (hp : 0 < z.size) (n : Nat) : F2 (C.rel ρ) (zeroL n zl) ((Array.range n).map (z[· % z.size]!)).toList := by
  have hl : zl.length = z.size := by rw [f2_len h]; simp
  have e : ((Array.range n).map (z[· % z.size]!)).toList = (List.range n).map (fun i => z[i % z.size]!) := by simp
  rw [e]
  unfold zeroL
  refine f2_map_range (fun i => ?_) _
  have hi : i % zl.length < zl.length := Nat.mod_lt _ (by omega)
  obtain ⟨y, hy, hr⟩ := f2_get h (i := i % zl.length) (List.getElem?_eq_getElem hi)
  rw [hl] at hy
  simp only [List.getD_eq_getElem?_getD, List.getElem?_eq_getElem hi, Option.getD_some]
  have : z[i % z.size]! = y := by
    have : z[i % z.size]? = some y := by simpa using hy
    simp [getElem!_def, this]
  rw [this]; exact hr
theorem map_range_zero {α : Type} {n : Nat} (h : n = 0) (g : Nat → α) : (Array.range n).map g = #[] := by subst h; apply Array.ext'; simp
theorem ptr_names {ρ : Ren} : ∀ {l : List (Nat × Nat)} {xs : List Value}, F2 (PtrRel ρ) l xs → F2 (A.rel ρ) (l.map fun q => A.c (.ptr q.1 q.2)) xs
  | _, _, .nil => .nil
  | _, _, .cons r rs => .cons r (ptr_names rs)
def Ren.new (ρ : Ren) (c : Nat) (b : Nat × Nat) : Ren := { ρ with nm := upd ρ.nm c (some b) }
theorem new_le {c : Nat} (hf : ρ c = none) (b : Nat × Nat) : ρ.le (ρ.new c b) where
  nm := by
    intro m x hm
    show upd ρ.nm c (some b) m = some x
    by_cases e : m = c
    · subst e; rw [hf] at hm; cases hm
    · rw [upd_ne _ _ e]; exact hm
  κ := fun _ _ _ h => h
  cl := rfl
  k0 := rfl
  fx := rfl
  lp := rfl
theorem new_same {c : Nat} {b : Nat × Nat} : (ρ.new c b) c = some b := upd_same _ _ _
theorem Rel.alloc1 (h : Rel w0 N ρ s a w) {dst : Option Tmp} {c : Nat} {val : Option V} {k : Blk} {x : Value} {ob : Obj} (cap : Nat)
    (hd : ∀ d, dst = some d → d < N) (hfresh : s.hp c = none)
    (hv : ∀ v, val = some v → v.rel (ρ.new c (w.heap.size, cap)) x) (hk : k.rel (ρ.new c (w.heap.size, cap)) (w.heap.size, cap) (w.alloc ob)) :
    Rel w0 N (ρ.new c (w.heap.size, cap)) (act dst c ⟨val, [k], []⟩ s) (a.put dst x) (w.alloc ob) := by
  have hf := h.dom c hfresh
  have hb := (Below.refl _ w).alloc (Nat.le_refl _) ob
  refine h.step hd (new_le hf _) rfl rfl rfl hb.size (fun i hi _ => hb.block i hi) ?_ ?_ (fun v _ => hv v) (fun p hp => by cases hp) ?_ ?_ ?_
  · intro m hm hout
    simp only [List.length_singleton] at hout
    show upd ρ.nm c (some _) m = none
    rw [upd_ne _ _ (by omega)]; exact hm
  · intro i hi; simp at hi; subst hi; exact hfresh
  · intro i k' hi
    cases i with
    | zero =>
      simp at hi; subst hi
      exact ⟨_, new_same, by simp, hk, .inl (Nat.le_refl _)⟩
    | succ i => simp at hi
  · intro i j b b' hi hj hne; simp at hi hj; omega
  · intro b o v hv; exact .inl hv
theorem Rel.quiet (h : Rel w0 N ρ s a w) {dst : Option Tmp} {c : Nat} {val : Option V} {x : Value} (hd : ∀ d, dst = some d → d < N) (hv : ∀ v, val = some v → v.rel ρ x) :
    Rel w0 N ρ (act dst c ⟨val, [], []⟩ s) (a.put dst x) w := by
  refine h.step hd (Ren.le_refl _) rfl rfl rfl (Nat.le_refl _) (fun i _ _ => rfl) (fun m hm _ => hm) ?_ (fun v _ => hv v) (fun p hp => by cases hp) ?_ ?_ (fun b o v hv => .inl hv)
  · intro i hi; simp at hi
  · intro i k hi; simp at hi
  · intro i j b b' hi; simp at hi
theorem Rel.wrote (h : Rel w0 N ρ s a w) {dst : Option Tmp} {c : Nat} {val : Option V} {m : Nat} {b : Nat × Nat} {k k' : Blk} {x : Value} {w' : World}
    (hd : ∀ d, dst = some d → d < N) (hm : s.hp m = some k) (hown : k.own = true) (hb : ρ m = some b)
    (ho : w'.os = w.os) (ht : w'.tape = w.tape) (hu : w'.output = w.output) (hsz : w'.heap.size = w.heap.size) (hother : ∀ i, i ≠ b.1 → w'.heap[i]? = w.heap[i]?)
    (hk : k'.rel ρ b w') (hv : ∀ v, val = some v → v.rel ρ x) :
    Rel w0 N ρ (act dst c ⟨val, [], [(m, k')]⟩ s) (a.put dst x) w' := by
  refine h.step hd (Ren.le_refl _) ho ht hu (by omega) (fun i _ hw => hother i fun e => hw ⟨(m, k'), b, by simp, hb, e.symm⟩) (fun m hm _ => hm) ?_ (fun v _ => hv v) ?_ ?_ ?_ (fun b o v hv => .inl hv)
  · intro i hi; simp at hi
  · intro p hp
    simp only [List.mem_singleton] at hp
    subst hp
    refine ⟨⟨k, hm, hown⟩, fun b' hb' => ?_⟩
    rw [hb] at hb'; cases hb'; exact hk
  · intro i k hi; simp at hi
  · intro i j b b' hi; simp at hi
theorem new_block {w : World} {cs : Array Value} {e : TypeId} : (w.alloc (.cells cs e (0, 0))).heap[w.heap.size]? = some (.cells cs e (0, 0)) := heap_alloc_new w _
end
end Go.V
end

section
set_option linter.unusedVariables false
set_option linter.unusedSimpArgs false
namespace Go.V
open Go.RowKit (Below)
section
variable {P : Program} {G : GT} {N : Nat} {r : Option Nat} {gw : World → Prop} {w0 : World} {ρ : Ren} {s s' : S} {a : Act} {w : World} {Q : Exit → Act → World → Prop}
theorem el_lt {i j n st : Nat} (hi : i < n) (hj : j < st) : i * st + j < n * st := by
  have := Nat.mul_le_mul_right st (show i + 1 ≤ n from hi)
  rw [Nat.add_mul] at this
  omega
theorem getD_rel {κ : Still} {ds : List D} {xs : List Value} (h : F2 (D.rel κ) ds xs) {k : Nat} (hk : k < xs.length) : ∃ y, xs[k]? = some y ∧ (ds.getD k .nilp).rel κ y := by
  have hl := f2_len h
  obtain ⟨y, hy, hr⟩ := f2_get h (i := k) (List.getElem?_eq_getElem (by omega))
  exact ⟨y, hy, by rw [List.getD_eq_getElem?_getD, List.getElem?_eq_getElem (by omega)]; exact hr⟩
theorem base_sound (h : Rel w0 N ρ s a w) (hsub : ∀ m k, s'.hp m = some k → s.hp m = some k) {e : TypeId} {size : Nat} {vx : V} {v : Value} (hv : vx.rel ρ v) {bm : Option Nat} {len : Nat} {F : Nat → Nat → D} {q : Bool} {p : List Prop}
    (hb : baseOf s' e size vx = some (bm, len, F, q, p)) (hp : All p) :
    ∃ xs : List Value, xs.length = len * size ∧ (∀ i j, i < len → j < size → ∃ y, xs[i * size + j]? = some y ∧ (F i j).rel ρ.κ y) ∧
      ((bm = none ∧ q = false ∧ v = .slice none 0 0 ∧ len = 0) ∨
       ∃ m k b cap cur, bm = some m ∧ q = true ∧ s.hp m = some k ∧ k.own = true ∧ ρ m = some b ∧ v = .slice (some ⟨b.1, 0, none⟩) len cap ∧ w.heap[b.1]? = some (.cells cur e (0, 0)) ∧ len ≤ cap ∧ cap ≤ maxLen ∧ cur.size = cap * size ∧
         cur.toList.take (len * size) = xs) := by
  unfold baseOf at hb
  split at hb
  · simp only [Option.some.injEq, Prod.mk.injEq] at hb
    obtain ⟨rfl, rfl, rfl, rfl, rfl⟩ := hb
    exact ⟨[], by simp, fun i j hi => by omega, .inl ⟨rfl, rfl, hv, rfl⟩⟩
  · rename_i m len'
    split at hb
    · rename_i e' st L F' hm
      split at hb
      · rename_i hok
        simp only [Option.some.injEq, Prod.mk.injEq] at hb
        obtain ⟨rfl, rfl, rfl, rfl, rfl⟩ := hb
        simp only [Bool.and_eq_true] at hok
        have h1 := Nat.eq_of_beq_eq_true hok.1
        have h2 := Nat.eq_of_beq_eq_true hok.2
        subst h1 h2
        have hle := hp.1
        obtain ⟨b, hb, rfl⟩ := hv
        obtain ⟨b', hb', hlt, hrel, hge⟩ := h.hp m _ (hsub _ _ hm)
        rw [hb] at hb'; cases hb'
        obtain ⟨xs, hh, g1, g2, g3, g4⟩ := hrel
        have htot : len' * st ≤ xs.length := by rw [g1]; exact Nat.mul_le_mul_right st (by omega)
        refine ⟨xs.take (len' * st), by simp; omega, ?_, .inr ⟨m, _, b, b.2, xs.toArray, rfl, rfl, hsub _ _ hm, rfl, hb, rfl, hh, by omega, g3, by simpa using g1, rfl⟩⟩
        intro i j hi hj
        obtain ⟨y, hy, hr⟩ := g4 i j (by omega) hj
        exact ⟨y, by rw [List.getElem?_take, if_pos (el_lt hi hj)]; exact hy, hr⟩
      · cases hb
    · cases hb
  · rename_i m n cap
    split at hb
    · rename_i e' cs hm
      split at hb
      · rename_i ds hds hok
        simp only [Option.some.injEq, Prod.mk.injEq] at hb
        obtain ⟨rfl, rfl, rfl, rfl, rfl⟩ := hb
        simp only [Bool.and_eq_true] at hok
        have h1 := Nat.eq_of_beq_eq_true hok.1.1.1
        have h2 := Nat.eq_of_beq_eq_true hok.1.1.2
        have h3 := Nat.le_of_ble_eq_true hok.1.2
        have h4 := Nat.le_of_ble_eq_true hok.2
        subst h1
        obtain ⟨b, hb, rfl⟩ := hv
        obtain ⟨b', hb', hlt, hrel, hge⟩ := h.hp m _ (hsub _ _ hm)
        rw [hb] at hb'; cases hb'
        obtain ⟨xs, hf, hh⟩ := hrel
        have hl := f2_len hf
        have hf' := toDes_rel hds hf
        have htot : n * size ≤ xs.length := by rw [← hl, h2]; exact Nat.mul_le_mul_right size h3
        refine ⟨xs.take (n * size), by simp; omega, ?_, .inr ⟨m, _, b, cap, xs.toArray, rfl, rfl, hsub _ _ hm, rfl, hb, rfl, hh, h3, by simp only [maxLen]; omega, by simp; omega, rfl⟩⟩
        intro i j hi hj
        have hlt2 := el_lt hi hj
        obtain ⟨y, hy, hr⟩ := getD_rel hf' (k := i * size + j) (by omega)
        exact ⟨y, by rw [List.getElem?_take, if_pos hlt2]; exact hy, hr⟩
      · cases hb
    · cases hb
  · cases hb
theorem more_sound (h : Rel w0 N ρ s a w) (hsub : ∀ m k, s'.hp m = some k → s.hp m = some k) {e : TypeId} {size : Nat} (hsz : 0 < size) {vx : V} {v : Value} (hv : vx.rel ρ v) {n : Nat} {F : Nat → Nat → D} {q : Bool} {p : List Prop}
    (hb : moreOf s' e size vx = some (n, F, q, p)) (hp : All p) :
    ∃ (ao : Option Addr) (cap : Nat) (news : List Value), v = .slice ao n cap ∧ (ao = none → n = 0 ∧ cap = 0) ∧ (q = true → 0 < n) ∧ news.length = n * size ∧ (∀ ad, ao = some ad → ∀ j u, news[j]? = some u → w.cell? (ad.add j) = some u) ∧ (∀ u ∈ news, u.oneCell' = true) ∧
      (∀ i j, i < n → j < size → ∃ y, news[i * size + j]? = some y ∧ (F i j).rel ρ.κ y) := by
  have one : ∀ {d : D} {y : Value}, d.rel ρ.κ y → y.oneCell' = true := by
    intro d y hr
    have := D.rel_noAgg hr
    cases y <;> first | rfl | exact absurd rfl (this.1 _) | exact absurd rfl (this.2 _)
  -- cells that are there, one for each place
  have gather : ∀ (g : Nat → Option Value) (n : Nat) (F : Nat → Nat → D), (∀ i j, i < n → j < size → ∃ y, g (i * size + j) = some y ∧ (F i j).rel ρ.κ y) →
      ∃ news : List Value, news.length = n * size ∧ (∀ u ∈ news, u.oneCell' = true) ∧ (∀ k u, news[k]? = some u → g k = some u) ∧ (∀ i j, i < n → j < size → ∃ y, news[i * size + j]? = some y ∧ (F i j).rel ρ.κ y) := by
    intro g n F hg
    have each : ∀ k, k < n * size → ∃ y, g k = some y ∧ (F (k / size) (k % size)).rel ρ.κ y := by
      intro k hk
      have h1 : k / size < n := (Nat.div_lt_iff_lt_mul hsz).2 hk
      have h2 : k % size < size := Nat.mod_lt _ hsz
      have := hg _ _ h1 h2
      rwa [Nat.mul_comm, Nat.div_add_mod] at this
    refine ⟨(List.range (n * size)).map fun k => (g k).getD undef, by simp, ?_, ?_, ?_⟩
    · intro u hu
      simp only [List.mem_map, List.mem_range] at hu
      obtain ⟨k, hk, rfl⟩ := hu
      obtain ⟨y, hy, hr⟩ := each k hk
      rw [hy]; exact one hr
    · intro k u hk
      simp only [List.getElem?_map, Option.map_eq_some_iff, List.getElem?_eq_some_iff, List.getElem_range, List.length_range] at hk
      obtain ⟨k', ⟨hlt, rfl⟩, rfl⟩ := hk
      obtain ⟨y, hy, hr⟩ := each k hlt
      rw [hy]; rfl
    · intro i j hi hj
      obtain ⟨y, hy, hr⟩ := hg i j hi hj
      refine ⟨y, ?_, hr⟩
      have := el_lt hi hj
      simp [List.getElem?_range this, hy]
  unfold moreOf at hb
  split at hb
  · rename_i q0 n0 st F0
    split at hb
    · rename_i hst
      have := Nat.eq_of_beq_eq_true hst
      subst this
      simp only [Option.some.injEq, Prod.mk.injEq] at hb
      obtain ⟨rfl, rfl, rfl, rfl⟩ := hb
      rcases hv with ⟨_, rfl, hv⟩ | ⟨ad, cap, hv, hc, hsp, hcell⟩
      · exact ⟨none, 0, [], hv, (fun _ => ⟨rfl, rfl⟩), (fun h => by cases h), (by simp), (fun ad he => by cases he), (by simp), (fun i j hi => by omega)⟩
      · obtain ⟨news, g1, g2, g3, g4⟩ := gather (fun k => ρ.κ ad.block (ad.off + k)) n0 F0 (fun i j hi hj => by
          obtain ⟨y, hy, hr⟩ := hcell i j hi hj
          exact ⟨y, by rw [Nat.add_assoc] at hy; exact hy, hr⟩)
        refine ⟨some ad, cap, news, hv, (fun he => by cases he), (fun h => by cases h), g1, ?_, g2, g4⟩
        intro ad' he j u hj
        cases he
        have hlt := (List.getElem?_eq_some_iff.1 hj).1
        have hn0 : 0 < n0 := by
          rcases Nat.eq_zero_or_pos n0 with h0 | h0
          · subst h0; simp at g1; simp [g1] at hlt
          · exact h0
        have hs := hsp hn0
        obtain ⟨blk, off, spt⟩ := ad
        simp only at hs; subst hs
        have := (h.im _ _ _ (g3 j u hj)).2
        rw [Addr.add_lit]; exact this
    · cases hb
  · rename_i m len'
    split at hb
    · rename_i k hm
      split at hb
      · rename_i st L F' hrow
        split at hb
        · rename_i hst
          have := Nat.eq_of_beq_eq_true hst
          subst this
          simp only [Option.some.injEq, Prod.mk.injEq] at hb
          obtain ⟨rfl, rfl, rfl, rfl⟩ := hb
          obtain ⟨b, hb, rfl⟩ := hv
          obtain ⟨b', hb', hlt, hrel, hge⟩ := h.hp m _ (hsub _ _ hm)
          rw [hb] at hb'; cases hb'
          obtain ⟨news, g1, g2, g3, g4⟩ := gather (fun k => w.cell? ⟨b.1, k, none⟩) len' F' (fun i j hi hj => by
            obtain ⟨xs, hf, hl, hc⟩ := rCells_sound h.im hrel hrow (show i < L by have := hp.1; omega) (n := 1) (o := j) (by omega)
            simp only [dCells] at hf
            cases hf with
            | cons r0 rs =>
              rename_i y ys
              have hcy := hc 0 y (by simp)
              refine ⟨y, by simpa [Addr.add] using hcy, ?_⟩
              have : ∀ (d : D), (toC d).rel ρ y → d.rel ρ.κ y := by intro d hd; cases d <;> exact hd
              exact this _ r0)
          refine ⟨some ⟨b.1, 0, none⟩, b.2, news, rfl, (fun he => by cases he), (fun h => by cases h), g1, ?_, g2, g4⟩
          intro ad' he j u hj
          cases he
          rw [Addr.add_lit, Nat.zero_add]
          exact g3 j u hj
        · cases hb
      · cases hb
    · cases hb
  · rename_i m n0 cap
    split at hb
    · rename_i e' cs hm
      split at hb
      · rename_i ds p0 hds hok
        have hok' := Nat.le_of_ble_eq_true hok
        simp only [Option.some.injEq, Prod.mk.injEq] at hb
        obtain ⟨rfl, rfl, rfl, rfl⟩ := hb
        obtain ⟨b, hb, rfl⟩ := hv
        obtain ⟨b', hb', hlt, hrel, hge⟩ := h.hp m _ (hsub _ _ hm)
        rw [hb] at hb'; cases hb'
        obtain ⟨xs, hf, hh⟩ := hrel
        have hl := f2_len hf
        have hf' := stDs_rel (fun m k hk => by obtain ⟨b, h1, h2, h3, _⟩ := h.hp m k (hsub m k hk); exact ⟨b, h1, h3⟩) hds hp hf
        obtain ⟨news, g1, g2, g3, g4⟩ := gather (fun k => xs[k]?) n0 (fun i j => ds.getD (i * size + j) .nilp) (fun i j hi hj => by
          have := el_lt hi hj
          exact getD_rel hf' (k := i * size + j) (by omega))
        refine ⟨some ⟨b.1, 0, none⟩, cap, news, rfl, (fun he => by cases he), (fun h => by simpa [Nat.blt_eq] using h), g1, ?_, g2, g4⟩
        intro ad' he j u hj
        cases he
        rw [Addr.add_lit, Nat.zero_add]
        have := g3 j u hj
        simp [World.cell?, hh, this]
      · cases hb
    · cases hb
  · cases hb
theorem run_app (base : Nat) {t ty e : TypeId} {i : TypeInfo} {z : Value} (ht : P.underlying t = some (.slice e)) (hi : P.info? e = some i) (hz : i.zero = some z) (hzs : z.cells.size = i.size) (hsz : 0 < i.size) (hby : i.bytes ≤ 100000000)
    {v : Value} {n : Nat} {xs : List Value} (hown : w.ownsRow base e i.size v n xs) (hbase : base ≤ w.heap.size)
    {ao : Option Addr} {m cap : Nat} {news : List Value} (hao : ao = none → m = 0 ∧ cap = 0) (hl : news.length = m * i.size) (hnews : ∀ ad, ao = some ad → ∀ j u, news[j]? = some u → w.cell? (ad.add j) = some u) (h1 : ∀ u ∈ news, u.oneCell' = true) (hb : n + m ≤ 1000000) :
    ∃ v' w', (Builtin.append_ #[t, t] ty #[v, .slice ao m cap]).run P w = .ok v' w' ∧ w'.ownsRow base e i.size v' (n + m) (xs ++ news) ∧ w.grownBy w' v.ownBlock ∧ (v' = .slice none 0 0 ↔ v = .slice none 0 0 ∧ m = 0) ∧
      (∀ g c, v' = .slice (some ⟨g, 0, none⟩) (n + m) c → w.heap.size ≤ g ∨ v.ownBlock = some g) := by
  have hbytes : (n + m) * i.bytes ≤ 140737488355328 := Nat.le_trans (Nat.mul_le_mul hb hby) (by decide)
  have h63 : n + m ≤ maxLen := by simp only [maxLen]; omega
  cases ao with
  | none =>
    obtain ⟨rfl, rfl⟩ := hao rfl
    have hn0 : news = [] := List.eq_nil_of_length_eq_zero (by simpa using hl)
    subst hn0
    have hr := run_append_owned_none (P := P) w base t ty e i i.size ht hi v n xs hown
    refine ⟨v, w, hr, by simpa using hown, World.grownBy.refl _ _, by simp, fun g c hv => .inr ?_⟩
    rw [hv]; rfl
  | some ad =>
    rcases hown.2 with ⟨hv, hn⟩ | ⟨g, cp, cur, hv, hbg, hg, hnc, hcm, hcs, htake⟩
    · subst hv hn
      have hnil : xs = [] := List.eq_nil_of_length_eq_zero (by simpa using hown.1)
      subst hnil
      obtain ⟨v', w', hr, ho, hgr, hiff⟩ := run_append_own (P := P) w w.heap.size t ty e i z i.size i.bytes ht hi hz rfl rfl hzs hsz (.slice none 0 0) 0 [] (World.ownsRow_nil w _ e _) ad m cap news hl (hnews ad rfl) h1 h63 hbytes (Nat.le_refl _)
      refine ⟨v', w', hr, ⟨ho.1, ?_⟩, hgr, hiff, fun g c hv => ?_⟩
      · rcases ho.2 with h | ⟨g, cp, cur, h1, h2, h3⟩
        · exact .inl h
        · exact .inr ⟨g, cp, cur, h1, Nat.le_trans hbase h2, h3⟩
      · rcases ho.2 with ⟨h, _⟩ | ⟨g', cp, cur, h1, h2, _⟩
        · rw [hv] at h; cases h
        · rw [hv] at h1; cases h1; exact .inl h2
    · subst hv
      by_cases hroom : n + m ≤ cp
      · obtain ⟨w', hr, ho, hgr⟩ := run_append_fits (P := P) w base t ty e i i.size ht hi rfl g n cp xs hown ad m cap news hl (hnews ad rfl) h1 hroom
        exact ⟨_, w', hr, ho, hgr, by simp, fun g' c hv => by cases hv; exact .inr rfl⟩
      · have holds : ∀ j u, xs[j]? = some u → w.cell? ((⟨g, 0, none⟩ : Addr).add j) = some u := by
          intro j u hj
          rw [← htake, List.getElem?_take] at hj
          split at hj
          · rw [Addr.add_lit, Nat.zero_add]
            have : cur[j]? = some u := by simpa using hj
            simp [World.cell?, hg, this]
          · cases hj
        obtain ⟨v', w', hr, ho, hgr⟩ := run_append_arg_grows (P := P) w t ty e i z i.size i.bytes ht hi hz rfl rfl hzs hsz ⟨g, 0, none⟩ n cp xs hown.1 holds ad m cap news hl (hnews ad rfl) (by omega) h63 hbytes
        have hnn : v' ≠ .slice none 0 0 := by
          intro hv
          rcases ho.2 with ⟨_, h0⟩ | ⟨g', _, _, h, _⟩
          · omega
          · rw [hv] at h; cases h
        refine ⟨v', w', hr, ⟨ho.1, ?_⟩, ⟨hgr.os, hgr.tape, hgr.output, hgr.size, fun k hk _ => hgr.block k hk (by simp)⟩, by simp [hnn], fun g' c hv => ?_⟩
        · rcases ho.2 with h | ⟨g, cp, cur, h1, h2, h3⟩
          · exact .inl h
          · exact .inr ⟨g, cp, cur, h1, Nat.le_trans hbase h2, h3⟩
        · rcases ho.2 with ⟨h, _⟩ | ⟨g', cp, cur, h1, h2, _⟩
          · rw [hv] at h; cases h
          · rw [hv] at h1; cases h1; exact .inl h2
theorem join_rel {κ : Still} {len n size : Nat} {F F' : Nat → Nat → D} {xs news : List Value} (hlx : xs.length = len * size) (hx : ∀ i j, i < len → j < size → ∃ y, xs[i * size + j]? = some y ∧ (F i j).rel κ y)
    (hn : ∀ i j, i < n → j < size → ∃ y, news[i * size + j]? = some y ∧ (F' i j).rel κ y) : ∀ i j, i < len + n → j < size → ∃ y, (xs ++ news)[i * size + j]? = some y ∧ (joinF len F F' i j).rel κ y := by
  intro i j hi hj
  by_cases hlt : i < len
  · obtain ⟨y, hy, hr⟩ := hx i j hlt hj
    have : i * size + j < xs.length := by rw [hlx]; exact el_lt hlt hj
    refine ⟨y, by rw [List.getElem?_append_left this]; exact hy, ?_⟩
    have hb : Nat.blt i len = true := by rw [Nat.blt_eq]; exact hlt
    simp only [joinF, hb]; exact hr
  · obtain ⟨y, hy, hr⟩ := hn (i - len) j (by omega) hj
    have hge : xs.length ≤ i * size + j := by
      rw [hlx]
      have := Nat.mul_le_mul_right size (show len ≤ i by omega)
      omega
    refine ⟨y, ?_, ?_⟩
    · rw [List.getElem?_append_right hge, hlx]
      have : i * size + j - len * size = (i - len) * size + j := by rw [Nat.sub_mul]; have := Nat.mul_le_mul_right size (show len ≤ i by omega); omega
      rw [this]; exact hy
    · have hb : Nat.blt i len = false := by rw [← Bool.not_eq_true, Nat.blt_eq]; exact hlt
      simp only [joinF, hb]; exact hr
theorem app_sound (h : Rel w0 N ρ s a w) (hview : View G ρ s' a w) (hsub : ∀ m k, s'.hp m = some k → s.hp m = some k) {o : Oper} {cl : Call} (ho : o.op = .call cl) (hcal : cl.callee = .builtin .append) {x y : Operand} {t : TypeId}
    (hargs : cl.args = #[x, y]) (hty : cl.argTypes = #[t, t]) {c : Nat} {e : Eff} {p : List Prop} (he : appM P G c s' x y t = some (e, p)) (hp : All p) (hd : ∀ d, o.dst = some d → d < N) (hfresh : ∀ i, i < e.nw.length → s.hp (c + i) = none) :
    o.wpIn (Fd r) 0 P a w (fun a' w' => ∃ ρ', Rel w0 N ρ' (act o.dst c e s) a' w' ∧ ρ.le ρ') Q := by
  have hdf : ∀ c, o.op ≠ .defer c := by simp [ho]
  unfold appM at he
  split at he
  · rename_i el vx vy hu hvx hvy
    split at he
    · rename_i i hi
      split at he
      · rename_i z hz hok
        simp only [Bool.and_eq_true] at hok
        have hsz : 0 < i.size := by simpa [Nat.blt_eq] using hok.1
        have hby := Nat.le_of_ble_eq_true hok.2
        split at he
        · rename_i bm len F q p1 n F' q' p2 hzs hbase hmore
          have hzs' := Nat.eq_of_beq_eq_true hzs
          have hpp : All ((len + n ≤ 1000000) :: (p1 ++ p2)) := by
            split at he <;> (simp only [Option.some.injEq, Prod.mk.injEq] at he; rw [he.2]; exact hp)
          have hb := hpp.1
          obtain ⟨hp1, hp2⟩ := All.append.1 hpp.2
          have hrx := look_rel hview hvx
          have hry := look_rel hview hvy
          obtain ⟨xs, hxl, hxr, hbs⟩ := base_sound h hsub hrx hbase hp1
          obtain ⟨ao, cap, news, hvy', hao, hq', hnl, hnc, hn1, hnr⟩ := more_sound h hsub hsz hry hmore hp2
          have hown : w.ownsRow w0.heap.size el i.size (a.eval x) len xs := by
            rcases hbs with ⟨_, _, hv, h0⟩ | ⟨m, k, b, cp, cur, _, _, hm, _, hρ, hv, hh, g1, g2, g3, g4⟩
            · rw [hv]; exact ⟨hxl, .inl ⟨rfl, h0⟩⟩
            · rw [hv]
              obtain ⟨b', hb', _, _, hge⟩ := h.hp m k hm
              rw [hρ] at hb'; cases hb'
              exact ⟨hxl, .inr ⟨b.1, cp, cur, rfl, hge, hh, g1, g2, g3, g4⟩⟩
          obtain ⟨v', w', hrun, hown', hgr, hiff, hwhere⟩ := run_app (P := P) (ty := o.type) w0.heap.size hu hi hz hzs' hsz hby hown h.bel.size hao hnl hnc hn1 hb
          have hx : (execOp a.eval o).run P w = .ok (.value v') w' := by
            rw [hvy'.symm] at hrun
            simp [execOp, ho, resolve, hcal, hargs, hty, invoke, builtin, hrun]
          refine ow_value hx hdf ?_
          split at he
          · rename_i hqq
            simp only [Option.some.injEq, Prod.mk.injEq] at he; obtain ⟨rfl, rfl⟩ := he
            have hnn : v' ≠ .slice none 0 0 := by
              intro hv
              have := hiff.1 hv
              rcases hbs with ⟨_, hq0, _, _⟩ | ⟨m, k, b, cp, cur, _, _, _, _, _, hv2, _⟩
              · rw [hq0, Bool.false_or] at hqq
                have := hq' hqq; omega
              · rw [hv2] at this; cases this.1
            rcases hown'.2 with ⟨h0, _⟩ | ⟨g, cp', cur', hv', hge, hg, g1, g2, g3, g4⟩
            · exact absurd h0 hnn
            have hf := h.dom c (hfresh 0 (by simp))
            have hgl : g < w'.heap.size := (Array.getElem?_eq_some_iff.1 hg).1
            refine ⟨ρ.new c (g, cp'), h.step hd (new_le hf _) hgr.os hgr.tape hgr.output hgr.size ?_ ?_ ?_ ?_ ?_ ?_ ?_ (fun b o v hv => .inl hv), new_le hf _⟩
            · intro j hj hnw
              refine hgr.block j hj fun hrow => hnw ?_
              rcases hbs with ⟨_, _, hv, _⟩ | ⟨m, k, b, cp, cur, hbm, _, hm, _, hρ, hv, _⟩
              · rw [hv] at hrow; cases hrow
              · rw [hv] at hrow
                simp only [Value.ownBlock, Option.some.injEq] at hrow
                exact ⟨(m, .dead), b, by simp [hbm], hρ, hrow.symm⟩
            · intro m hm hout
              simp only [List.length_singleton] at hout
              show upd ρ.nm c (some _) m = none
              rw [upd_ne _ _ (by omega)]; exact hm
            · intro j hj; simp at hj; subst hj; exact hfresh 0 (by simp)
            · intro u _ hu; cases hu; exact ⟨_, new_same, hv'⟩
            · intro pr hpr
              rcases hbs with ⟨hbm, _⟩ | ⟨m, k, b, cp, cur, hbm, _, hm, hko, hρ, hv, _⟩
              · rw [hbm] at hpr; cases hpr
              · simp only [hbm, List.mem_singleton] at hpr
                subst hpr
                exact ⟨⟨k, hm, hko⟩, fun _ _ => trivial⟩
            · intro j k hj
              cases j with
              | zero =>
                simp at hj; subst hj
                refine ⟨_, new_same, hgl, ?_, ?_⟩
                · refine ⟨cur'.toList, by rw [Array.toArray_toList]; exact hg, by simpa using g3, g1, g2, ?_⟩
                  intro i' j' hi' hj'
                  obtain ⟨u, hu, hr⟩ := join_rel hxl hxr hnr i' j' hi' hj'
                  refine ⟨u, ?_, hr⟩
                  rw [← g4, List.getElem?_take, if_pos (el_lt hi' hj')] at hu
                  exact hu
                · rcases hwhere g cp' hv' with hge' | hob
                  · exact .inl hge'
                  · rcases hbs with ⟨_, _, hv, _⟩ | ⟨m, k, b, cp, cur, hbm, _, hm, hko, hρ, hv, _⟩
                    · rw [hv] at hob; cases hob
                    · rw [hv] at hob
                      simp only [Value.ownBlock, Option.some.injEq] at hob
                      refine .inr ⟨(m, .dead), b, by simp [hbm], hρ, hob.symm, ?_⟩
                      intro q hq _
                      simp only [hbm, List.mem_singleton] at hq
                      subst hq; rfl
              | succ j => simp at hj
            · intro j j' b b' hj hj' hne; simp at hj hj'; omega
          · rename_i hqq
            simp only [Option.some.injEq, Prod.mk.injEq] at he; obtain ⟨rfl, rfl⟩ := he
            rw [Bool.or_eq_false_iff] at hqq
            have hv0 : a.eval x = .slice none 0 0 ∧ len = 0 := by
              rcases hbs with ⟨_, _, hv, h0⟩ | ⟨m, k, b, cp, cur, _, hq1, _⟩
              · exact ⟨hv, h0⟩
              · rw [hqq.1] at hq1; cases hq1
            obtain ⟨hv, h0⟩ := hv0
            subst h0
            have hxs : xs = [] := List.eq_nil_of_length_eq_zero (by simpa using hxl)
            subst hxs
            rcases hown'.2 with ⟨hv', h0⟩ | ⟨g, cp', cur', hv', hge, hg, g1, g2, g3, g4⟩
            · refine ⟨ρ, h.step hd (Ren.le_refl _) hgr.os hgr.tape hgr.output hgr.size ?_ (fun m hm _ => hm) ?_ ?_ (fun pr hpr => by cases hpr) ?_ ?_ (fun b o v hv => .inl hv), Ren.le_refl _⟩
              · intro j hj _; exact hgr.block j hj (by rw [hv]; simp [Value.ownBlock])
              · intro j hj; simp at hj
              · intro u _ hu; cases hu; exact .inl ⟨rfl, by omega, hv'⟩
              · intro j k hj; simp at hj
              · intro j j' b b' hj; simp at hj
            · have hgw : w.heap.size ≤ g := by
                rcases hwhere g cp' hv' with hge' | hob
                · exact hge'
                · rw [hv] at hob; cases hob
              have hgl : g < w'.heap.size := (Array.getElem?_eq_some_iff.1 hg).1
              have hle : ρ.le { ρ with κ := fun b o => if b = g then cur'.toList[o]? else ρ.κ b o } := by
                refine ⟨fun _ _ h => h, fun b o u hu => ?_, rfl, rfl, rfl, rfl⟩
                have := (h.im b o u hu).1
                have hne : b ≠ g := by omega
                show (if b = g then cur'.toList[o]? else ρ.κ b o) = some u
                rw [if_neg hne]; exact hu
              refine ⟨_, h.step hd hle hgr.os hgr.tape hgr.output hgr.size ?_ (fun m hm _ => hm) ?_ ?_ (fun pr hpr => by cases hpr) ?_ ?_ ?_, hle⟩
              · intro j hj _; exact hgr.block j hj (by rw [hv]; simp [Value.ownBlock])
              · intro j hj; simp at hj
              · intro u _ hu; cases hu
                refine .inr ⟨⟨g, 0, none⟩, cp', by rw [hv']; congr 1; omega, by omega, fun _ => rfl, fun i' j' hi' hj' => ?_⟩
                obtain ⟨u, hu, hr⟩ := hnr i' j' hi' hj'
                refine ⟨u, ?_, D.rel_mono hle.κ _ _ hr⟩
                show (if g = g then cur'.toList[0 + i' * i.size + j']? else ρ.κ g _) = some u
                rw [if_pos rfl, Nat.zero_add]
                simp only [List.nil_append] at g4
                rw [← g4, List.getElem?_take, if_pos (by rw [Nat.zero_add]; exact el_lt hi' hj')] at hu
                exact hu
              · intro j k hj; simp at hj
              · intro j j' b b' hj; simp at hj
              · intro b o' u hu
                by_cases hb : b = g
                · subst hb
                  have hu' : cur'.toList[o']? = some u := by
                    have : (if b = b then cur'.toList[o']? else ρ.κ b o') = some u := hu
                    rwa [if_pos rfl] at this
                  refine .inr ⟨.inl hgw, hgl, ?_, fun i' k b' hj => by simp at hj⟩
                  have : cur'[o']? = some u := by simpa using hu'
                  simp [World.cell?, hg, this]
                · have : (if b = g then cur'.toList[o']? else ρ.κ b o') = some u := hu
                  rw [if_neg hb] at this
                  exact .inl this
        · cases he
      · cases he
    · cases he
  · cases he
end
end Go.V
end

section
set_option linter.unusedVariables false
set_option linter.unusedSimpArgs false
namespace Go.V
open Go.RowKit (Below)
section
variable {P : Program} {G : GT} {N : Nat} {r : Option Nat} {sg : FuncId → Option Sm} {gw : World → Prop} {w0 : World} {ρ : Ren} {s s' : S} {a : Act} {w : World} {Q : Exit → Act → World → Prop}
theorem clo_rel (h : Rel w0 N ρ s a w) {κ'' : Still} (hle : ρ.κ.le κ'') {w' : World} (hl : Lies κ'' w') (hn : ∀ b o v, κ'' b o = some v → ρ.κ b o = some v ∨ w.heap.size ≤ b) (hb : Below w.heap.size w w')
    {dst : Option Tmp} (hd : ∀ d, dst = some d → d < N) {c : Nat} {val : Option V} {x : Value} (hv : ∀ v, val = some v → v.rel { ρ with κ := κ'' } x) : Rel w0 N { ρ with κ := κ'' } (act dst c ⟨val, [], []⟩ s) (a.put dst x) w' := by
  refine h.step hd ⟨fun _ _ h => h, hle, rfl, rfl, rfl, rfl⟩ hb.os hb.tape hb.output hb.size (fun i hi _ => hb.block i hi) (fun m hm _ => hm) ?_ (fun v _ => hv v) (fun p hp => by cases hp) ?_ ?_ ?_
  · intro i hi; simp at hi
  · intro i k hi; simp at hi
  · intro i j b b' hi; simp at hi
  · intro b o v hv
    rcases hn b o v hv with h1 | h1
    · exact .inl h1
    · obtain ⟨g1, g2⟩ := hl b o v hv
      exact .inr ⟨.inl h1, g1, g2, fun i k b' hj => by simp at hj⟩
theorem effM_sound (hsg : ∀ f σ, sg f = some σ → SumOK P G gw f σ) (h : Rel w0 N ρ s a w) (hcl : ∀ φ x, ρ.cl φ x → CloOK P gw ρ.κ φ x) (hgw : gw w)
    (hview : View G ρ s' a w) (hsub : ∀ m k, s'.hp m = some k → s.hp m = some k)
    {o : Oper} {c : Nat} {e : Eff} {p : List Prop} (he : effM P G sg o c s' = some (e, p)) (hp : All p) (hd : ∀ d, o.dst = some d → d < N)
    (hfresh : ∀ i, i < e.nw.length → s.hp (c + i) = none) :
    o.wpIn (Fd r) 0 P a w (fun a' w' => ∃ ρ', Rel w0 N ρ' (act o.dst c e s) a' w' ∧ ρ.le ρ') Q := by
  have hdf : ∀ c, o.op ≠ .defer c := by
    intro c0 ho
    unfold effM at he
    simp [ho, effV] at he
  have val_case : (match effV P G o s' with | some (v, p) => some ((⟨some v, [], []⟩ : Eff), p) | none => none) = some (e, p) →
      o.wpIn (Fd r) 0 P a w (fun a' w' => ∃ ρ', Rel w0 N ρ' (act o.dst c e s) a' w' ∧ ρ.le ρ') Q := by
    intro he
    split at he
    · rename_i v p' hv
      simp only [Option.some.injEq, Prod.mk.injEq] at he; obtain ⟨rfl, rfl⟩ := he
      obtain ⟨x, hx, hr⟩ := effV_sound hview hv hp
      exact ow_value hx hdf ⟨ρ, h.quiet hd (fun v' hv' => by cases hv'; exact hr), Ren.le_refl _⟩
    · cases he
  unfold effM at he
  split at he
  case h_1 elem ho =>
    split at he
    · rename_i i hi
      split at he
      · rename_i z hz
        split at he
        · rename_i cs hcs
          simp only [Option.some.injEq, Prod.mk.injEq] at he; obtain ⟨rfl, rfl⟩ := he
          have hx : (execOp a.eval o).run P w = .ok (.value (.pointer (some ⟨w.heap.size, 0, none⟩))) (w.alloc (.cells z.cells elem (0, 0))) := by
            simp [execOp, ho, Instr.alloc, run_zeroValue' P hi hz, newVar, newRow]
          refine ow_value hx hdf ?_
          have hf := hfresh 0 (by simp)
          refine ⟨_, h.alloc1 0 hd hf ?_ ?_, new_le (h.dom c hf) _⟩
          · intro v hv; cases hv; exact ⟨_, new_same, rfl⟩
          · exact ⟨z.cells.toList, ofCells_rel _ hcs, by rw [Array.toArray_toList]; exact new_block⟩
        · cases he
      · cases he
    · cases he
  case h_2 elem x ho =>
    split at he
    · rename_i y hy
      simp only [Option.some.injEq, Prod.mk.injEq] at he; obtain ⟨rfl, rfl⟩ := he
      have hr := look_rel hview hy
      have hx : (execOp a.eval o).run P w = .ok (.value (.pointer (some ⟨w.heap.size, 0, none⟩))) (w.alloc (.cells (a.eval x).cells elem (0, 0))) := by
        simp [execOp, ho, Instr.box, newVar, newRow]
      refine ow_value hx hdf ?_
      have hf := hfresh 0 (by simp)
      have hle := new_le (h.dom c hf) (w.heap.size, 0)
      refine ⟨_, h.alloc1 0 hd hf ?_ ?_, hle⟩
      · intro v hv; cases hv; exact ⟨_, new_same, rfl⟩
      · exact ⟨(a.eval x).cells.toList, f2_imp (C.rel_mono hle) (A.rel_cells hr), by rw [Array.toArray_toList]; exact new_block⟩
    · cases he
  case h_3 t len parts ho =>
    split at he
    · rename_i elem ps hu hps
      split at he
      · rename_i i hi
        split at he
        · rename_i z hz
          split at he
          · rename_i zl hzl hok
            split at he
            · rename_i r hr
              simp only [Option.some.injEq, Prod.mk.injEq] at he; obtain ⟨rfl, rfl⟩ := he
              simp only [Bool.and_eq_true] at hok
              have h1 := Nat.le_of_ble_eq_true hok.1
              have h2 : 0 < z.cells.size := by simpa [Nat.blt_eq] using hok.2
              have hzr := zeroL_rel (ρ := ρ) (ofCells_rel ρ hzl) h2 (len * i.size)
              obtain ⟨k', hk, hrel⟩ := fillA_sound (looks_rel G hview hps) hzr hr
              have hk' : Instr.fill (fun j => some (j * i.size, i.size)) ((Array.range (len * i.size)).map (z.cells[· % z.cells.size]!)) (parts.map fun (i, x) => (i, a.eval x)).toList = some k' := by simpa using hk
              have hx : (execOp a.eval o).run P w = .ok (.value (.slice (some ⟨w.heap.size, 0, none⟩) len len)) (w.alloc (.cells k' elem (0, 0))) := by
                by_cases h0 : len * i.size = 0
                · have h3 : ¬ (2 ^ 24 < len * i.size) := by omega
                  rw [map_range_zero h0] at hk'
                  simp only [execOp, ho, Instr.buildSlice, Sem.run_bind, run_underlying hu, Result.andThen_ok, run_sizeOf' P hi, if_pos h0, newRow, run_newObj, Sem.run_pure, Sem.run_ite, gt_iff_lt, h3, if_false, map_range_zero h0, hk']
                  rfl
                · have h3 : ¬ (2 ^ 24 < len * i.size) := by omega
                  simp only [execOp, ho, Instr.buildSlice, Sem.run_bind, run_underlying hu, Result.andThen_ok, run_sizeOf' P hi, h0, if_false, run_zeroValue' P hi hz, hk', newRow, run_newObj, Sem.run_pure, Sem.run_ite, gt_iff_lt, h3]
                  rfl
              refine ow_value hx hdf ?_
              have hf := hfresh 0 (by simp)
              have hle := new_le (h.dom c hf) (w.heap.size, 0)
              refine ⟨_, h.alloc1 0 hd hf ?_ ?_, hle⟩
              · intro v hv; cases hv; exact ⟨_, new_same, rfl⟩
              · exact ⟨k'.toList, f2_imp (C.rel_mono hle) hrel, by rw [Array.toArray_toList]; exact new_block⟩
            · cases he
          · cases he
        · cases he
      · cases he
    · cases he
  case h_4 t l cp ho =>
    split at he
    · rename_i elem k1 n k2 m hu hl hc
      split at he
      · rename_i i hi
        split at he
        · rename_i z hz
          split at he
          · rename_i zl hzl hok
            simp only [Option.some.injEq, Prod.mk.injEq] at he; obtain ⟨rfl, rfl⟩ := he
            simp only [Bool.and_eq_true] at hok
            obtain ⟨g1, g2, g3, g4⟩ := of_decide_eq_true hok.1
            have h2 : 0 < z.cells.size := by simpa [Nat.blt_eq] using hok.2
            have hln : a.eval l = .int k1 n := look_rel hview hl
            have hcn : a.eval cp = .int k2 m := look_rel hview hc
            have hzr := zeroL_rel (ρ := ρ) (ofCells_rel ρ hzl) h2 (m.toNat * i.size)
            have wn : IntKind.i64.wrap n = n := by rw [IntKind.wrap_i64]; omega
            have wm : IntKind.i64.wrap m = m := by rw [IntKind.wrap_i64]; omega
            have hb : (i.bytes : Int) * m ≤ 2 ^ 48 := by
              have : (i.bytes : Int) * m ≤ 1000000 * 1000000 := Int.mul_le_mul (by omega) (by omega) (by omega) (by omega)
              omega
            have hx : (execOp a.eval o).run P w = .ok (.value (.slice (some ⟨w.heap.size, 0, none⟩) n.toNat m.toNat)) (w.alloc (.cells ((Array.range (m.toNat * i.size)).map (z.cells[· % z.cells.size]!)) elem (0, 0))) := by
              have c1 : ¬ (m < 0) := by omega
              have c2 : ¬ (281474976710656 < (i.bytes : Int) * m) := by omega
              have c3 : ¬ (n < 0) := by omega
              have c4 : ¬ (m < n) := by omega
              by_cases h0 : m.toNat * i.size = 0
              · rw [map_range_zero h0]
                simp [execOp, ho, hln, hcn, Instr.makeSlice, run_underlying hu, asInt, asIntOf, typeInfo, hi, wn, wm, c1, c2, c3, c4, run_sizeOf' P hi, if_pos h0, newRow, map_range_zero h0]
              · simp [execOp, ho, hln, hcn, Instr.makeSlice, run_underlying hu, asInt, asIntOf, typeInfo, hi, wn, wm, c1, c2, c3, c4, run_sizeOf' P hi, h0, newRow, run_zeroValue' P hi hz]
            refine ow_value hx hdf ?_
            have hf := hfresh 0 (by simp)
            have hle := new_le (h.dom c hf) (w.heap.size, 0)
            refine ⟨_, h.alloc1 0 hd hf ?_ ?_, hle⟩
            · intro v hv; cases hv; exact ⟨_, new_same, rfl⟩
            · exact ⟨_, f2_imp (C.rel_mono hle) hzr, by rw [Array.toArray_toList]; exact new_block⟩
          · cases he
        · cases he
      · cases he
    · rename_i elem k1 n k2 m hu hl hc
      split at he
      · rename_i i hi
        split at he
        · rename_i z hz
          split at he
          · rename_i zl hzl hok
            split at he
            · rename_i ds hds
              simp only [Option.some.injEq, Prod.mk.injEq] at he; obtain ⟨rfl, rfl⟩ := he
              simp only [Bool.and_eq_true] at hok
              have g4 := of_decide_eq_true hok.1.1
              have hzs := Nat.eq_of_beq_eq_true hok.1.2
              have h2 : 0 < i.size := by simpa [Nat.blt_eq] using hok.2
              obtain ⟨g1, g2, g3, _⟩ := hp
              have hln : a.eval l = .int k1 n := look_rel hview hl
              have hcn : a.eval cp = .int k2 m := look_rel hview hc
              have wn : IntKind.i64.wrap n = n := by rw [IntKind.wrap_i64]; omega
              have wm : IntKind.i64.wrap m = m := by rw [IntKind.wrap_i64]; omega
              have hb : (i.bytes : Int) * m ≤ 2 ^ 48 := by
                have : (i.bytes : Int) * m ≤ 1000000 * 1000000 := Int.mul_le_mul (by omega) (by omega) (by omega) (by omega)
                omega
              have hx : (execOp a.eval o).run P w = .ok (.value (.slice (some ⟨w.heap.size, 0, none⟩) n.toNat m.toNat)) (w.alloc (.cells ((Array.range (m.toNat * i.size)).map (z.cells[· % z.cells.size]!)) elem (0, 0))) := by
                have c1 : ¬ (m < 0) := by omega
                have c2 : ¬ (281474976710656 < (i.bytes : Int) * m) := by omega
                have c3 : ¬ (n < 0) := by omega
                have c4 : ¬ (m < n) := by omega
                by_cases h0 : m.toNat * i.size = 0
                · rw [map_range_zero h0]
                  simp [execOp, ho, hln, hcn, Instr.makeSlice, run_underlying hu, asInt, asIntOf, typeInfo, hi, wn, wm, c1, c2, c3, c4, run_sizeOf' P hi, if_pos h0, newRow, map_range_zero h0]
                · simp [execOp, ho, hln, hcn, Instr.makeSlice, run_underlying hu, asInt, asIntOf, typeInfo, hi, wn, wm, c1, c2, c3, c4, run_sizeOf' P hi, h0, newRow, run_zeroValue' P hi hz]
              refine ow_value hx hdf ?_
              have hf := hfresh 0 (by simp)
              have hle := new_le (h.dom c hf) (w.heap.size, m.toNat)
              refine ⟨_, h.alloc1 m.toNat hd hf ?_ ?_, hle⟩
              · intro v hv; cases hv; exact ⟨_, new_same, rfl⟩
              · have hzc : F2 (D.rel ρ.κ) ds z.cells.toList := toDs_rel hds (ofCells_rel ρ hzl)
                refine ⟨((Array.range (m.toNat * i.size)).map (z.cells[· % z.cells.size]!)).toList, by rw [Array.toArray_toList]; exact new_block, by simp, by simp; omega, by simp only [maxLen]; simp; omega, ?_⟩
                intro i' j' hi' hj'
                obtain ⟨y, hy, hr⟩ := getD_rel hzc (k := j') (by simp; omega)
                refine ⟨y, ?_, hr⟩
                have hlt : i' * i.size + j' < m.toNat * i.size := el_lt (by simp at hi'; omega) hj'
                have hmod : (i' * i.size + j') % z.cells.size = j' := by rw [hzs, Nat.mul_comm, Nat.mul_add_mod]; exact Nat.mod_eq_of_lt hj'
                have hy' : z.cells[j']? = some y := by simpa using hy
                simp only [Array.toList_map, Array.toList_range, List.getElem?_map, List.getElem?_range hlt, Option.map_some, hmod]
                simp [getElem!_def, hy']
            · cases he
          · cases he
        · cases he
      · cases he
    · cases he
  case h_5 t x y ho =>
    split at he
    · rename_i m off v i hx hy hi
      split at he
      · rename_i el cs hm
        split at he
        · rename_i hok
          simp only [Option.some.injEq, Prod.mk.injEq] at he; obtain ⟨rfl, rfl⟩ := he
          simp only [Bool.and_eq_true] at hok
          have g2 : v.cells.length = i.size := Nat.eq_of_beq_eq_true hok.1
          have g3 := Nat.le_of_ble_eq_true hok.2
          obtain ⟨b, hb, hxv⟩ := look_rel hview hx
          have hyv := look_rel hview hy
          have hcv := A.rel_cells hyv
          obtain ⟨b', hb', hlt, xs, hf, hh⟩ := hview.hp m _ hm
          simp only at hb
          rw [hb] at hb'; cases hb'
          have hlen : xs.length = cs.length := (f2_len hf).symm
          have hvl : (a.eval y).cells.toList.length = v.cells.length := (f2_len hcv).symm
          have hst := run_storeCells_at P b.1 off el (a.eval y).cells.toList 0 xs.toArray w hh (by simp only [Array.size_eq_length_toList] ; simp at hvl ⊢; omega) (f2_oneCell hcv)
          have hrun : (execOp a.eval o).run P w = .ok .skip (w.setRow b.1 (xs.take off ++ (a.eval y).cells.toList ++ xs.drop (off + (a.eval y).cells.toList.length)).toArray) := by
            have hsz : (a.eval y).cells.size = i.size := by rw [← g2, ← hvl]; simp
            simp only [execOp, ho, hxv, Instr.storeAt, Instr.sureAddr, Sem.run_bind, Sem.run_pure, Result.andThen_ok, storeVar, run_sizeOf' P hi, hsz, ne_eq, not_true_eq_false, if_false, Sem.run_ite, hst]
            simp [hst]
          refine ow_skip hrun hdf ?_
          refine ⟨ρ, ?_, Ren.le_refl _⟩
          refine h.wrote hd (hsub m _ hm) rfl hb rfl rfl rfl (size_setRow _ _ _) ?_ ?_ (fun v' hv' => by cases hv')
          · intro j hj; simp [World.setRow, Array.getElem?_modify, Ne.symm hj]
          · refine ⟨_, f2_append (f2_append (f2_take hf off) hcv) (f2_drop hf _), ?_⟩
            rw [setRow_heap w b.1 xs.toArray _ el _ hh]
            rw [hvl]
        · cases he
      · cases he
    · rename_i m st e0 j v i hx hy hi
      split at he
      · rename_i el st' len F hm
        split at he
        · rename_i ds hds hok
          simp only [Option.some.injEq, Prod.mk.injEq] at he; obtain ⟨rfl, rfl⟩ := he
          simp only [Bool.and_eq_true] at hok
          have g2 : v.cells.length = i.size := Nat.eq_of_beq_eq_true hok.1.1
          have g3 := Nat.le_of_ble_eq_true hok.1.2
          have g4 := Nat.eq_of_beq_eq_true hok.2
          subst g4
          have hlt0 := hp.1
          obtain ⟨b, hb, hxv⟩ := look_rel hview hx
          have hyv := look_rel hview hy
          have hcv := A.rel_cells hyv
          obtain ⟨b', hb', hlt, xs, hh, q1, q2, q3, q4⟩ := hview.hp m _ hm
          simp only at hb
          rw [hb] at hb'; cases hb'
          have hvl : (a.eval y).cells.toList.length = v.cells.length := (f2_len hcv).symm
          have hroom : e0 * st + j + v.cells.length ≤ xs.length := by
            rw [q1]
            have := Nat.mul_le_mul_right st (show e0 + 1 ≤ b.2 by omega)
            rw [Nat.add_mul] at this
            omega
          have hst := run_storeCells_at P b.1 (e0 * st + j) el (a.eval y).cells.toList 0 xs.toArray w hh (by simp only [Array.size_eq_length_toList] ; simp at hvl ⊢; omega) (f2_oneCell hcv)
          have hrun : (execOp a.eval o).run P w = .ok .skip (w.setRow b.1 (xs.take (e0 * st + j) ++ (a.eval y).cells.toList ++ xs.drop (e0 * st + j + (a.eval y).cells.toList.length)).toArray) := by
            have hsz : (a.eval y).cells.size = i.size := by rw [← g2, ← hvl]; simp
            simp only [execOp, ho, hxv, Instr.storeAt, Instr.sureAddr, Sem.run_bind, Sem.run_pure, Result.andThen_ok, storeVar, run_sizeOf' P hi, hsz, ne_eq, not_true_eq_false, if_false, Sem.run_ite, hst]
            simp [hst]
          refine ow_skip hrun hdf ?_
          refine ⟨ρ, ?_, Ren.le_refl _⟩
          refine h.wrote hd (hsub m _ hm) rfl hb rfl rfl rfl (size_setRow _ _ _) ?_ ?_ (fun v' hv' => by cases hv')
          · intro j hj; simp [World.setRow, Array.getElem?_modify, Ne.symm hj]
          · refine ⟨xs.take (e0 * st + j) ++ (a.eval y).cells.toList ++ xs.drop (e0 * st + j + (a.eval y).cells.toList.length), ?_, ?_, q2, q3, ?_⟩
            · rw [setRow_heap w b.1 xs.toArray _ el _ hh]
            · rw [← q1]; simp only [List.length_append, List.length_take, List.length_drop, hvl]; omega
            · intro i' j' hi' hj'
              have hds' := toDs_rel hds hcv
              have hdl := f2_len hds'
              by_cases hin : i' = e0 ∧ j ≤ j' ∧ j' < j + v.cells.length
              · obtain ⟨rfl, h1, h2⟩ := hin
                obtain ⟨u, hu, hr⟩ := getD_rel hds' (k := j' - j) (by rw [hvl]; omega)
                refine ⟨u, ?_, ?_⟩
                · rw [List.getElem?_append_left (by simp only [List.length_append, List.length_take, hvl]; omega), List.getElem?_append_right (by simp only [List.length_take]; omega)]
                  simp only [List.length_take]
                  rw [show i' * st + j' - min (i' * st + j) xs.length = j' - j by omega]
                  exact hu
                · have e1 : (Nat.beq i' i' && (Nat.ble j j' && Nat.blt j' (j + v.cells.length))) = true := by simp [Nat.blt_eq, Nat.ble_eq, h1, h2]
                  simp only [putF, e1]; exact hr
              · obtain ⟨u, hu, hr⟩ := q4 i' j' hi' hj'
                have hne : i' * st + j' < e0 * st + j ∨ e0 * st + j + v.cells.length ≤ i' * st + j' := by
                  by_cases h1 : i' = e0
                  · subst h1; omega
                  · rcases Nat.lt_or_gt_of_ne h1 with h2 | h2
                    · have := Nat.mul_le_mul_right st (show i' + 1 ≤ e0 from h2)
                      rw [Nat.add_mul] at this
                      omega
                    · have := Nat.mul_le_mul_right st (show e0 + 1 ≤ i' from h2)
                      rw [Nat.add_mul] at this
                      omega
                refine ⟨u, ?_, ?_⟩
                · rcases hne with h1 | h1
                  · rw [List.getElem?_append_left (by simp only [List.length_append, List.length_take]; omega), List.getElem?_append_left (by simp only [List.length_take]; omega), List.getElem?_take, if_pos h1]
                    exact hu
                  · rw [List.getElem?_append_right (by simp only [List.length_append, List.length_take, hvl]; omega)]
                    simp only [List.length_append, List.length_take, hvl, List.getElem?_drop]
                    rw [show e0 * st + j + v.cells.length + (i' * st + j' - (min (e0 * st + j) xs.length + v.cells.length)) = i' * st + j' by omega]
                    exact hu
                · have e1 : (Nat.beq i' e0 && (Nat.ble j j' && Nat.blt j' (j + v.cells.length))) = false := by
                    rw [Bool.and_eq_false_iff]
                    by_cases h1 : i' = e0
                    · right
                      rw [← Bool.not_eq_true]
                      simp only [Bool.and_eq_true, Nat.blt_eq, Nat.ble_eq]
                      intro h2; exact hin ⟨h1, h2⟩
                    · left
                      rw [← Bool.not_eq_true]
                      intro h2; exact h1 (Nat.eq_of_beq_eq_true h2)
                  simp only [putF, e1]; exact hr
        · cases he
      · cases he
    · cases he
  case h_6 cl ho =>
    split at he
    · rename_i x y t t' hcal hargs htys
      split at he
      · rename_i htt
        have := Nat.eq_of_beq_eq_true htt
        subst this
        have ha : cl.args = #[x, y] := by apply Array.ext'; simpa using hargs
        have hat : cl.argTypes = #[t, t] := by apply Array.ext'; simpa using htys
        exact app_sound h hview hsub ho hcal ha hat he hp hd hfresh
      · cases he
    · rename_i f hcal
      split at he
      · rename_i g caps args hf hargs
        split at he
        · rename_i σ hσ
          split at he
          · rename_i p' v N' Z hs
            simp only [Option.some.injEq, Prod.mk.injEq] at he; obtain ⟨rfl, rfl⟩ := he
            have S := hsg g σ hσ
            obtain ⟨v0, hf0, hf1⟩ := Option.map_eq_some_iff.1 hf
            obtain ⟨cx, hcx, hfv⟩ := hf1 ▸ fnV_rel (look_rel hview hf0)
            have hax := lookAll_rel G hview hargs
            have hrun : (execOp a.eval o).run P w = .ok (.enter g (cl.args.map a.eval ++ cx.toArray)) w := by
              simp only [execOp, ho, resolve, hcal, hfv, Deferred.ofValue, Sem.run_bind, Sem.run_pure, Result.andThen_ok, invoke, Array.empty_append, S.enter]
            refine ow_enter hrun hdf ?_
            have hall : F2 (A.rel ρ) (args ++ caps.map fun q => .c (.ptr q.1 q.2)) (cl.args.toList.map a.eval ++ cx) := f2_append hax (ptr_names hcx)
            have hc := S.ok _ c s'.hp p' v N' Z hs hp ρ _ w hgw h.im hcl hview.gl hall hview.hp (fun i hi => h.dom _ (hfresh i hi))
            have earr : (cl.args.toList.map a.eval ++ cx).toArray = cl.args.map a.eval ++ cx.toArray := by apply Array.ext'; simp
            rw [earr] at hc
            refine hc.mono ?_
            rintro en w' ⟨ρ', x, rfl, hle, hno, hv, hbel, hnew, hdist, hZ, hκ⟩
            have hfz := S.frz _ c s'.hp p' v N' Z hs
            refine ⟨x, rfl, ρ', h.step hd hle hbel.os hbel.tape hbel.output hbel.size (fun i hi _ => hbel.block i hi) hno hfresh (fun v' _ hv' => by cases hv'; exact hv) ?_ ?_ hdist ?_, hle⟩
            · intro q hq
              obtain ⟨_, k, g1, g2⟩ := hfz q hq
              exact ⟨⟨k, hsub _ _ g1, g2⟩, hZ q hq⟩
            · intro i k hi
              obtain ⟨b, g1, g2, g3, g4⟩ := hnew i k hi
              exact ⟨b, g1, g3, g4, .inl g2⟩
            · intro b o v hv
              rcases hκ b o v hv with h1 | ⟨h1, h2, h3, h4⟩
              · exact .inl h1
              · refine .inr ⟨?_, h2, h3, h4⟩
                rcases h1 with h1 | ⟨q, b0, hq, hb0, hbb⟩
                · exact .inl h1
                · exact .inr ⟨q, b0, hq, hb0, hbb, fun q' hq' _ => (hfz q' hq').1⟩
          · cases he
        · cases he
      · rename_i g n F args hf hargs
        split at he
        · rename_i σ hσ
          split at he
          · rename_i p' v N' Z hs
            simp only [Option.some.injEq, Prod.mk.injEq] at he; obtain ⟨rfl, rfl⟩ := he
            have S := hsg g σ hσ
            obtain ⟨v0, hf0, hf1⟩ := Option.map_eq_some_iff.1 hf
            obtain ⟨ad, hfv, hspot, hcell⟩ := hf1 ▸ fnV_rel (look_rel hview hf0)
            obtain ⟨cx, hcxe⟩ : ∃ cx : List Value, cx = [.pointer (some ad)] := ⟨_, rfl⟩
            have hfv : a.eval f = .func (.func g) #[] cx.toArray := by rw [hcxe]; exact hfv
            have hax := lookAll_rel G hview hargs
            have hrun : (execOp a.eval o).run P w = .ok (.enter g (cl.args.map a.eval ++ cx.toArray)) w := by
              simp only [execOp, ho, resolve, hcal, hfv, Deferred.ofValue, Sem.run_bind, Sem.run_pure, Result.andThen_ok, invoke, Array.empty_append, S.enter]
            refine ow_enter hrun hdf ?_
            have hall : F2 (A.rel ρ) (args ++ [.c (.ip n F)]) (cl.args.toList.map a.eval ++ cx) := f2_append hax (by rw [hcxe]; exact .cons ⟨ad, rfl, hspot, hcell⟩ .nil)
            have hc := S.ok _ c s'.hp p' v N' Z hs hp ρ _ w hgw h.im hcl hview.gl hall hview.hp (fun i hi => h.dom _ (hfresh i hi))
            have earr : (cl.args.toList.map a.eval ++ cx).toArray = cl.args.map a.eval ++ cx.toArray := by apply Array.ext'; simp
            rw [earr] at hc
            refine hc.mono ?_
            rintro en w' ⟨ρ', x, rfl, hle, hno, hv, hbel, hnew, hdist, hZ, hκ⟩
            have hfz := S.frz _ c s'.hp p' v N' Z hs
            refine ⟨x, rfl, ρ', h.step hd hle hbel.os hbel.tape hbel.output hbel.size (fun i hi _ => hbel.block i hi) hno hfresh (fun v' _ hv' => by cases hv'; exact hv) ?_ ?_ hdist ?_, hle⟩
            · intro q hq
              obtain ⟨_, k, g1, g2⟩ := hfz q hq
              exact ⟨⟨k, hsub _ _ g1, g2⟩, hZ q hq⟩
            · intro i k hi
              obtain ⟨b, g1, g2, g3, g4⟩ := hnew i k hi
              exact ⟨b, g1, g3, g4, .inl g2⟩
            · intro b o v hv
              rcases hκ b o v hv with h1 | ⟨h1, h2, h3, h4⟩
              · exact .inl h1
              · refine .inr ⟨?_, h2, h3, h4⟩
                rcases h1 with h1 | ⟨q, b0, hq, hb0, hbb⟩
                · exact .inl h1
                · exact .inr ⟨q, b0, hq, hb0, hbb, fun q' hq' _ => (hfz q' hq').1⟩
          · cases he
        · cases he
      · rename_i φ args hf hargs
        split at he
        · rename_i ars hars
          split at he
          · rename_i p' r' hφ
            simp only [Option.some.injEq, Prod.mk.injEq] at he; obtain ⟨rfl, rfl⟩ := he
            obtain ⟨v0, hf0, hf1⟩ := Option.map_eq_some_iff.1 hf
            have hfv := hf1 ▸ fnV_rel (look_rel hview hf0)
            obtain ⟨fid, caps, hfe, hent, hcall⟩ := hcl φ _ hfv.1
            have hax := lookAll_rel G hview hargs
            have hrun : (execOp a.eval o).run P w = .ok (.enter fid (cl.args.map a.eval ++ caps)) w := by
              simp only [execOp, ho, resolve, hcal, hfe, Deferred.ofValue, Sem.run_bind, Sem.run_pure, Result.andThen_ok, invoke, Array.empty_append, hent]
            refine ow_enter hrun hdf ?_
            have hc := hcall ρ.κ w ars p' r' _ (fun _ _ _ h => h) h.im hgw hφ hp (toArs_rel hars hax)
            have earr : (cl.args.toList.map a.eval).toArray ++ caps = cl.args.map a.eval ++ caps := by apply Array.ext'; simp
            rw [earr] at hc
            refine hc.mono ?_
            rintro en w' ⟨x, κ'', rfl, hle, hl, hn, hr, hb⟩
            exact ⟨x, rfl, _, clo_rel h hle hl hn hb hd (fun v hv => by cases hv; exact ofAr_rel (ρ := { ρ with κ := κ'' }) hr), ⟨fun _ _ h => h, hle, rfl, rfl, rfl, rfl⟩⟩
          · cases he
        · cases he
      · cases he
    · exact val_case he
  case h_7 => exact val_case he
end
end Go.V
end

section
set_option linter.unusedVariables false
set_option linter.unusedSimpArgs false
namespace Go.V
open Go.RowKit (Below)
def byteAt (s : ByteArray) (n : Int) : Int := ((s.data.toList.getD n.toNat 0).toNat : Int)
def bnd1 (G : GT) (s : S) : Option Operand → Option Int
  | some x => (match look G s x with | some v => idxOf v | none => none)
  | none => none
theorem run_equalIn_slice_nil {P : Program} (w : World) (d : Nat) (t e : TypeId) (ad : Addr) (n c : Nat) (h : P.underlying t = some (.slice e)) : (Op.equalIn (d + 1) t (.slice (some ad) n c) (.slice none 0 0)).run P w = .ok false w := by
  simp [Op.equalIn, run_underlying h]
theorem run_eql_slice_nil {P : Program} (w : World) (t e : TypeId) (ad : Addr) (n c : Nat) (h : P.underlying t = some (.slice e)) : (binOp .eql t (.slice (some ad) n c) (.slice none 0 0)).run P w = .ok (.bool false) w := by
  simp only [binOp]
  simp [Op.equal, Op.maxDepth, run_equalIn_slice_nil w 9999 t e ad n c h]
theorem run_neq_slice_nil {P : Program} (w : World) (t e : TypeId) (ad : Addr) (n c : Nat) (h : P.underlying t = some (.slice e)) : (binOp .neq t (.slice (some ad) n c) (.slice none 0 0)).run P w = .ok (.bool true) w := by
  simp only [binOp]
  simp [Op.equal, Op.maxDepth, run_equalIn_slice_nil w 9999 t e ad n c h]
theorem run_eqGuard_slice {P : Program} (w : World) (op : BinOp) (t : TypeId) (x y : Operand) (a : Option Addr) (n c : Nat) (v : Value) : (eqGuard op t x y (.slice a n c) v).run P w = .ok () w := by
  unfold eqGuard
  cases op <;> cases v <;> simp
theorem run_append_zero {P : Program} (w : World) (t ty e : TypeId) (i : TypeInfo) (ht : P.underlying t = some (.slice e)) (hi : P.info? e = some i) (base : Option Addr) (l cp : Nat) (hl : l ≤ cp) (ao : Option Addr) (c : Nat) :
    (Builtin.append_ #[t, t] ty #[.slice base l cp, .slice ao 0 c]).run P w = .ok (.slice base l cp) w := by
  have hf : (Builtin.firstCells i.size 0 (.slice ao 0 c)).run P w = .ok #[] w := by
    cases ao with
    | none => exact run_firstCells_none ..
    | some a => exact run_firstCells_some (P := P) w i.size 0 a 0 c [] (by simp) (by simp)
  cases base <;> simp [Builtin.append_, run_underlying ht, sizeOf, typeInfo, hi, Builtin.lenOf, hl, hf, storeCells]
def notNil : V → Bool
  | .a (.c (.gsl ..)) => true
  | .a (.c (.sl ..)) => true
  | .a (.c (.im (.sl true ..))) => true
  | _ => false
theorem notNil_rel {ρ : Ren} {v : V} (h : notNil v = true) {x : Value} (r : v.rel ρ x) : ∃ ad n c, x = .slice (some ad) n c := by
  unfold notNil at h
  split at h
  · obtain ⟨b, _, rfl⟩ := r; exact ⟨_, _, _, rfl⟩
  · obtain ⟨b, _, rfl⟩ := r; exact ⟨_, _, _, rfl⟩
  · rcases r with ⟨h, _⟩ | ⟨a, cap, rfl, _⟩
    · cases h
    · exact ⟨_, _, _, rfl⟩
  · cases h
def numC : V → Option (IntKind × Int)
  | .a (.c (.int k v)) => some (k, v)
  | .a (.c (.num k v)) => some (k, v)
  | _ => none
theorem numC_rel {ρ : Ren} {v : V} {k : IntKind} {n : Int} (h : numC v = some (k, n)) {x : Value} (r : v.rel ρ x) : x = .int k n := by
  unfold numC at h
  split at h
  · simp only [Option.some.injEq, Prod.mk.injEq] at h; obtain ⟨rfl, rfl⟩ := h; exact r
  · simp only [Option.some.injEq, Prod.mk.injEq] at h; obtain ⟨rfl, rfl⟩ := h; exact r
  · cases h
def updC (k : IntKind) (v : Int) (e p : Nat) : C → C
  | .int k' n => (match decide (k = k') with | true => .int k (if e = p then v else n) | false => .int k' n)
  | .num k' n => (match decide (k = k') with | true => .int k (if e = p then v else n) | false => .num k' n)
  | c => c
def updP (k : IntKind) (e p : Nat) : C → List Prop
  | .int k' _ => (match decide (k = k') with | true => [] | false => [e ≠ p])
  | .num k' _ => (match decide (k = k') with | true => [] | false => [e ≠ p])
  | _ => [e ≠ p]
def updI (k : IntKind) (v : Int) (e : Nat) : List C → Nat → List C × List Prop
  | [], p => ([], [e < p])
  | c :: l, p => (updC k v e p c :: (updI k v e l (p + 1)).1, updP k e p c ++ (updI k v e l (p + 1)).2)
theorem updC_ne {ρ : Ren} {k : IntKind} {v : Int} {e p : Nat} (h : e ≠ p) {c : C} {x : Value} (r : c.rel ρ x) : (updC k v e p c).rel ρ x := by
  cases c <;> simp only [updC] <;> (try exact r)
  all_goals (split <;> (try exact r))
  all_goals (rename_i hk; have hk := of_decide_eq_true hk; subst hk; rw [if_neg h]; exact r)
theorem updC_eq {ρ : Ren} {k : IntKind} {v : Int} {e : Nat} {c : C} (h : All (updP k e e c)) : (updC k v e e c).rel ρ (.int k v) := by
  cases c
  case int k' n =>
    simp only [updC, updP] at h ⊢
    by_cases hk : k = k'
    · rw [decide_eq_true hk, if_pos trivial]; rfl
    · rw [decide_eq_false hk] at h; exact absurd rfl h.1
  case num k' n =>
    simp only [updC, updP] at h ⊢
    by_cases hk : k = k'
    · rw [decide_eq_true hk, if_pos trivial]; rfl
    · rw [decide_eq_false hk] at h; exact absurd rfl h.1
  all_goals exact absurd rfl h.1
theorem updI_past {ρ : Ren} {k : IntKind} {v : Int} {e : Nat} : ∀ {l : List C} {q : Nat} {ys : List Value}, e < q → F2 (C.rel ρ) l ys → F2 (C.rel ρ) (updI k v e l q).1 ys := by
  intro l
  induction l with
  | nil => intro q ys _ r; cases r; exact .nil
  | cons c l ih =>
    intro q ys hq r
    cases r with
    | cons r0 rs => exact .cons (updC_ne (by omega) r0) (ih (by omega) rs)
theorem updI_rel {ρ : Ren} {k : IntKind} {v : Int} {e : Nat} : ∀ {l : List C} {p : Nat} {xs : List Value}, All (updI k v e l p).2 → p ≤ e → F2 (C.rel ρ) l xs →
    e < p + l.length ∧ F2 (C.rel ρ) (updI k v e l p).1 (xs.set (e - p) (.int k v)) := by
  intro l
  induction l with
  | nil =>
    intro p xs h hp r
    simp only [updI] at h
    exact absurd h.1 (by omega)
  | cons c l ih =>
    intro p xs h hp r
    simp only [updI] at h
    obtain ⟨h1, h2⟩ := All.append.1 h
    cases r with
    | cons r0 rs =>
      rename_i x ys
      by_cases hep : e = p
      · subst hep
        refine ⟨by simp, ?_⟩
        rw [Nat.sub_self, List.set_cons_zero]
        exact .cons (updC_eq h1) (updI_past (by omega) rs)
      · obtain ⟨g1, g2⟩ := ih h2 (by omega) rs
        refine ⟨by simp; omega, ?_⟩
        rw [show e - p = (e - (p + 1)) + 1 by omega, List.set_cons_succ]
        exact .cons (updC_ne hep r0) g2
section
variable (P : Program) (G : GT) (sg : FuncId → Option Sm)
def effX (o : Oper) (c : Nat) (s : S) : Option (Eff × List Prop) :=
  match o.op with
  | .index t x ix => (match look G s x, look G s ix, P.underlying t with
    | some (.a (.c (.str b))), some v, some .string => (match idxOf v with
      | some n => some (⟨some (.a (.c (.int .u8 (byteAt b n)))), [], []⟩, [0 ≤ n, n < (b.size : Int)])
      | none => none)
    | _, _, _ => effM P G sg o c s)
  | .convert src dst x => (match look G s x, P.underlying src, P.underlying dst with
    | some (.a (.c (.str b))), some _, some (.slice e) => (match P.underlying e with
      | some (.int .u8) => some (⟨some (.a (.c (.im (.sl true b.size 1 fun i _ => .int .u8 (byteAt b i))))), [], []⟩, [])
      | _ => none)
    | _, _, _ => effM P G sg o c s)
  | .slice t x lo hi mx => (match look G s x, P.underlying t, lo, bnd1 G s hi, bnd1 G s mx with
    | some (.a (.c (.ptr m off))), some (.array n e), none, none, none => (match P.info? e, hi, mx with
      | some _, none, none => some (⟨some (.a (.c (.sl m off n n))), [], []⟩, [])
      | _, _, _ => none)
    | some (.a (.c (.ptr m off))), some (.pointer arr), none, none, none => (match P.underlying arr, hi, mx with
      | some (.array n e), none, none => (match P.info? e with | some _ => some (⟨some (.a (.c (.sl m off n n))), [], []⟩, []) | none => none)
      | _, _, _ => none)
    | some (.a (.c .nsl)), some (.slice e), none, some h, some k => (match P.info? e with
      | some i => some (⟨some (.a (.c (.xl 0 i.size fun _ _ => .nilp))), [], []⟩, [h = 0, k = 0])
      | none => none)
    | some (.a (.c (.gsl m len))), some (.slice e), none, some h, some k => (match P.info? e, s.hp m with
      | some i, some (.fz st L F) => (match Nat.beq st i.size with
        | true => some (⟨some (.a (.c (.xl h.toNat st F))), [], []⟩, [0 ≤ h, h = k, h ≤ (L : Int)])
        | false => none)
      | _, _ => none)
    | some (.a (.c (.im (.sl q len st F)))), some (.slice e), none, some h, some k => (match P.info? e with
      | some i => (match Nat.beq st i.size with
        | true => some (⟨some (.a (.c (.xl h.toNat st F))), [], []⟩, [0 ≤ h, h = k, h ≤ (len : Int)])
        | false => none)
      | none => none)
    | _, _, _, _, _ => effM P G sg o c s)
  | .call cl => (match cl.callee, cl.args.toList, cl.argTypes.toList with
    | .builtin .append, [x, y], [t, t'] => (match look G s x, look G s y, P.underlying t with
      | some (.a (.c (.xl len st F))), some vy, some (.slice e) => (match Nat.beq t t', P.info? e with
        | true, some i => (match i.zero, moreOf s e i.size vy, Nat.blt 0 i.size && Nat.ble i.bytes 100000000 && Nat.beq st i.size with
          | some z, some (n, F', true, p), true => (match Nat.beq z.cells.size i.size with
            | true => some (⟨some (.a (.c (.gsl c (len + n)))), [.row e i.size (len + n) (joinF len F F')], []⟩, (len + n ≤ 1000000) :: p)
            | false => none)
          | some z, some (n, F', false, p), true => (match Nat.beq z.cells.size i.size with
            | true => some (⟨some (.a (.c (.im (.sl false (len + n) i.size (joinF len F F'))))), [], []⟩, (len + n ≤ 1000000) :: p)
            | false => none)
          | _, _, _ => none)
        | _, _ => none)
      | _, _, _ => effM P G sg o c s)
    | _, _, _ => effM P G sg o c s)
  | .indexAddr t x ix => (match look G s x, look G s ix, P.underlying t with
    | some (.a (.c (.ptr m off))), some (.a (.c (.int k n))), some (.array len e) => (match P.info? e with
      | some i => some (⟨some (.a (.c (.ep m i.size n.toNat off))), [], []⟩, [0 ≤ n, n < len])
      | none => none)
    | _, _, _ => effM P G sg o c s)
  | .store t x y => (match look G s x, (look G s y).map numC, P.info? t with
    | some (.a (.c (.ep m 1 e j))), some (some (k, v)), some i => (match s.hp m with
      | some (.known el cs) => (match Nat.beq i.size 1 && Nat.ble j cs.length with
        | true => some (⟨none, [], [(m, .known el (cs.take j ++ (updI k v e (cs.drop j) 0).1))]⟩, (updI k v e (cs.drop j) 0).2)
        | false => none)
      | _ => effM P G sg o c s)
    | _, _, _ => effM P G sg o c s)
  | .binOp op t x y _ => (match op, (look G s x).map notNil, look G s y, P.underlying t with
    | .eql, some true, some (.a (.c .nsl)), some (.slice _) => some (⟨some (.a (.c (.lit false))), [], []⟩, [])
    | .neq, some true, some (.a (.c .nsl)), some (.slice _) => some (⟨some (.a (.c (.lit true))), [], []⟩, [])
    | _, _, _, _ => effM P G sg o c s)
  | _ => effM P G sg o c s
end
section
variable {P : Program} {G : GT} {N : Nat} {r : Option Nat} {sg : FuncId → Option Sm} {gw : World → Prop} {w0 : World} {ρ : Ren} {s s' : S} {a : Act} {w : World} {Q : Exit → Act → World → Prop}
theorem bnd1_rel (h : View G ρ s a w) {o : Option Operand} {n : Int} (e : bnd1 G s o = some n) : ∃ x k, o = some x ∧ a.eval x = .int k n := by
  unfold bnd1 at e
  split at e
  · rename_i x
    split at e
    · rename_i v hv
      obtain ⟨k, hk⟩ := idxOf_rel (look_rel h hv) e
      exact ⟨x, k, rfl, hk⟩
    · cases e
  · cases e
theorem effX_sound (hsg : ∀ f σ, sg f = some σ → SumOK P G gw f σ) (h : Rel w0 N ρ s a w) (hcl : ∀ φ x, ρ.cl φ x → CloOK P gw ρ.κ φ x) (hgw : gw w)
    (hview : View G ρ s' a w) (hsub : ∀ m k, s'.hp m = some k → s.hp m = some k)
    {o : Oper} {c : Nat} {e : Eff} {p : List Prop} (he : effX P G sg o c s' = some (e, p)) (hp : All p) (hd : ∀ d, o.dst = some d → d < N)
    (hfresh : ∀ i, i < e.nw.length → s.hp (c + i) = none) :
    o.wpIn (Fd r) 0 P a w (fun a' w' => ∃ ρ', Rel w0 N ρ' (act o.dst c e s) a' w' ∧ ρ.le ρ') Q := by
  have elder : effM P G sg o c s' = some (e, p) → o.wpIn (Fd r) 0 P a w (fun a' w' => ∃ ρ', Rel w0 N ρ' (act o.dst c e s) a' w' ∧ ρ.le ρ') Q :=
    fun he => effM_sound hsg h hcl hgw hview hsub he hp hd hfresh
  unfold effX at he
  split at he
  case h_1 t x ix ho =>
    have hdf : ∀ c, o.op ≠ .defer c := by simp [ho]
    split at he
    · rename_i b v hx hix hu
      split at he
      · rename_i n hn
        simp only [Option.some.injEq, Prod.mk.injEq] at he; obtain ⟨rfl, rfl⟩ := he
        obtain ⟨p1, p2, _⟩ := hp
        have hxv : a.eval x = .string b := look_rel hview hx
        obtain ⟨k, hk⟩ := idxOf_rel (look_rel hview hix) hn
        have hlt : n.toNat < b.size := by omega
        have hget : b[n.toNat]? = some b[n.toNat] := by simp [hlt]
        have hb : byteAt b n = (b[n.toNat].toNat : Int) := by
          have hlt' : n.toNat < b.data.toList.length := by simpa using hlt
          unfold byteAt
          rw [List.getD_eq_getElem?_getD, List.getElem?_eq_getElem hlt']
          rfl
        have hrun : (execOp a.eval o).run P w = .ok (.value (.int .u8 (byteAt b n))) w := by
          rw [hb]
          simp [execOp, ho, hxv, hk, Instr.index, asIntOf, run_underlying hu, p1, hget]
        refine ow_value hrun hdf ⟨ρ, h.quiet hd (fun v' hv' => by cases hv'; rfl), Ren.le_refl _⟩
      · cases he
    · exact elder he
  case h_2 src dst x ho =>
    have hdf : ∀ c, o.op ≠ .defer c := by simp [ho]
    split at he
    · rename_i b u el hx hu hv
      split at he
      · rename_i he8
        simp only [Option.some.injEq, Prod.mk.injEq] at he; obtain ⟨rfl, rfl⟩ := he
        have hxv : a.eval x = .string b := look_rel hview hx
        have hrun : (execOp a.eval o).run P w = .ok (.value (.slice (some ⟨w.heap.size, 0, none⟩) b.size (grownCap w b.size 0 el))) (Lib.bytesWorld w el b) := by
          have := Lib.run_convert_string_bytes (P := P) w src dst el b hu hv he8
          simp [execOp, ho, hxv, this]
        have hsz := Lib.bytesWorld_size w el b
        have hold := Lib.bytesWorld_at_old w el b
        have hbel : Below w.heap.size w (Lib.bytesWorld w el b) := ⟨rfl, rfl, rfl, by omega, fun i hi => hold i hi⟩
        refine ow_value hrun hdf ?_
        obtain ⟨κ'', hκ⟩ : ∃ κ'' : Still, κ'' = fun bb o' => if bb = w.heap.size then (if o' < b.size then some (.int .u8 (b.data.toList.getD o' 0).toNat) else none) else ρ.κ bb o' := ⟨_, rfl⟩
        have hle : ρ.κ.le κ'' := by
          intro bb o' v hv'
          have := (h.im bb o' v hv').1
          rw [hκ]
          simp only
          rw [if_neg (by omega)]; exact hv'
        have hl : Lies κ'' (Lib.bytesWorld w el b) := by
          intro bb o' v hv'
          rw [hκ] at hv'
          simp only at hv'
          split at hv'
          · rename_i hbb
            subst hbb
            split at hv'
            · rename_i ho'
              cases hv'
              exact ⟨by omega, Lib.bytesWorld_cell w el b o' ho'⟩
            · cases hv'
          · obtain ⟨g1, g2⟩ := h.im bb o' v hv'
            exact ⟨by omega, (Lib.bytesWorld_old w el b ⟨bb, o', none⟩ g1).trans g2⟩
        refine ⟨{ ρ with κ := κ'' }, clo_rel h hle hl (fun bb o' v hv' => ?_) hbel hd ?_, ⟨fun _ _ h => h, hle, rfl, rfl, rfl, rfl⟩⟩
        · rw [hκ] at hv'
          simp only at hv'
          split at hv'
          · rename_i hbb; exact .inr (by omega)
          · exact .inl hv'
        · intro v' hv'
          cases hv'
          refine .inr ⟨⟨w.heap.size, 0, none⟩, _, rfl, ?_, fun _ => rfl, fun i j hi hj => ?_⟩
          · exact grownCap_ge w b.size 0 el
          · obtain rfl : j = 0 := by omega
            refine ⟨.int .u8 (b.data.toList.getD i 0).toNat, ?_, ?_⟩
            · show κ'' w.heap.size (0 + i * 1 + 0) = _
              rw [hκ]
              simp only [Nat.zero_add, Nat.mul_one, Nat.add_zero]
              rw [if_pos trivial, if_pos hi]
            · show _ = Value.int .u8 (byteAt b i)
              unfold byteAt
              rw [Int.toNat_natCast]
      · cases he
    · exact elder he
  case h_3 t x lo hi mx ho =>
    have hdf : ∀ c, o.op ≠ .defer c := by simp [ho]
    split at he
    · rename_i m off n el hx hu hb1 hb2
      split at he
      · rename_i i0 hi0
        simp only [Option.some.injEq, Prod.mk.injEq] at he; obtain ⟨rfl, rfl⟩ := he
        obtain ⟨b, hb, hxv⟩ := look_rel hview hx
        have hxv : a.eval x = .pointer (some ⟨b.1, off, none⟩) := hxv
        have hrun : (execOp a.eval o).run P w = .ok (.value (.slice (some ⟨b.1, off, none⟩) n n)) w := by
          have had : (⟨b.1, off, none⟩ : Addr).add 0 = ⟨b.1, off, none⟩ := by simp [Addr.add]
          by_cases h0 : n = 0
          · subst h0
            simp [execOp, ho, hxv, Instr.sliceAt, Instr.slice, Instr.sliceBounds, Instr.sureAddr, asAddr, run_underlying hu, run_sizeOf' P hi0]
          · have h1 : ¬ (0 = n) := fun e => h0 e.symm
            simp [execOp, ho, hxv, Instr.sliceAt, Instr.slice, Instr.sliceBounds, Instr.sureAddr, asAddr, run_underlying hu, run_sizeOf' P hi0, had]
        refine ow_value hrun hdf ⟨ρ, h.quiet hd (fun v' hv' => by cases hv'; exact ⟨b, hb, rfl⟩), Ren.le_refl _⟩
      · cases he
    · rename_i m off arr hx hu hb1 hb2
      split at he
      · rename_i n el harr
        split at he
        case h_2 => cases he
        rename_i i0 hi0
        simp only [Option.some.injEq, Prod.mk.injEq] at he; obtain ⟨rfl, rfl⟩ := he
        obtain ⟨b, hb, hxv⟩ := look_rel hview hx
        have hxv : a.eval x = .pointer (some ⟨b.1, off, none⟩) := hxv
        have hrun : (execOp a.eval o).run P w = .ok (.value (.slice (some ⟨b.1, off, none⟩) n n)) w := by
          have had : (⟨b.1, off, none⟩ : Addr).add 0 = ⟨b.1, off, none⟩ := by simp [Addr.add]
          by_cases h0 : n = 0
          · subst h0
            simp [execOp, ho, hxv, Instr.sliceAt, Instr.slice, Instr.sliceBounds, asAddr, run_underlying hu, run_underlying harr, run_sizeOf' P hi0]
          · have h1 : ¬ (0 = n) := fun e => h0 e.symm
            simp [execOp, ho, hxv, Instr.sliceAt, Instr.slice, Instr.sliceBounds, asAddr, run_underlying hu, run_underlying harr, run_sizeOf' P hi0, had]
        refine ow_value hrun hdf ⟨ρ, h.quiet hd (fun v' hv' => by cases hv'; exact ⟨b, hb, rfl⟩), Ren.le_refl _⟩
      · cases he
    · rename_i el h1 k1 hx hu hb1 hb2
      split at he
      · rename_i i hi'
        simp only [Option.some.injEq, Prod.mk.injEq] at he; obtain ⟨rfl, rfl⟩ := he
        obtain ⟨p1, p2, _⟩ := hp
        subst p1 p2
        obtain ⟨xh, kh, rfl, hxh⟩ := bnd1_rel hview hb1
        obtain ⟨xm, km, rfl, hxm⟩ := bnd1_rel hview hb2
        have hxv : a.eval x = .slice none 0 0 := look_rel hview hx
        have hrun : (execOp a.eval o).run P w = .ok (.value (.slice none 0 0)) w := by
          simp [execOp, ho, hxv, hxh, hxm, Instr.sliceAt, Instr.slice, Instr.sliceBounds, Instr.sliceBound, asIntOf, run_underlying hu, run_sizeOf' P hi']
        refine ow_value hrun hdf ⟨ρ, h.quiet hd (fun v' hv' => by cases hv'; exact ⟨.inl ⟨rfl, rfl, rfl⟩, none, rfl⟩), Ren.le_refl _⟩
      · cases he
    · rename_i m len el h1 k1 hx hu hb1 hb2
      split at he
      · rename_i i st L F hi' hm
        split at he
        · rename_i hst
          have hst := Nat.eq_of_beq_eq_true hst
          subst hst
          simp only [Option.some.injEq, Prod.mk.injEq] at he; obtain ⟨rfl, rfl⟩ := he
          obtain ⟨p1, p2, p3, _⟩ := hp
          subst p2
          obtain ⟨xh, kh, rfl, hxh⟩ := bnd1_rel hview hb1
          obtain ⟨xm, km, rfl, hxm⟩ := bnd1_rel hview hb2
          obtain ⟨b, hb, hxv⟩ := look_rel hview hx
          have hxv : a.eval x = .slice (some ⟨b.1, 0, none⟩) len b.2 := hxv
          obtain ⟨b', hb', hlt, hLb, hc⟩ := hview.hp m _ hm
          rw [hb] at hb'; cases hb'
          obtain ⟨nh, rfl⟩ : ∃ nh : Nat, h1 = (nh : Int) := ⟨h1.toNat, by omega⟩
          have hcap : nh ≤ b.2 := by omega
          have hrun : (execOp a.eval o).run P w = .ok (.value (.slice (some ⟨b.1, 0, none⟩) nh nh)) w := by
            have had : (⟨b.1, 0, none⟩ : Addr).add 0 = ⟨b.1, 0, none⟩ := by simp [Addr.add]
            by_cases h0 : nh = 0
            · subst h0
              simp [execOp, ho, hxv, hxh, hxm, Instr.sliceAt, Instr.slice, Instr.sliceBounds, Instr.sliceBound, asIntOf, run_underlying hu, run_sizeOf' P hi']
            · simp [execOp, ho, hxv, hxh, hxm, Instr.sliceAt, Instr.slice, Instr.sliceBounds, Instr.sliceBound, asIntOf, run_underlying hu, run_sizeOf' P hi', hcap, had]
          refine ow_value hrun hdf ⟨ρ, h.quiet hd (fun v' hv' => by
            cases hv'
            rw [Int.toNat_natCast]
            refine ⟨.inr ⟨⟨b.1, 0, none⟩, nh, rfl, Nat.le_refl _, fun _ => rfl, fun i' j hi2 hj => ?_⟩, _, rfl⟩
            obtain ⟨y, hy, hr⟩ := hc i' j (by omega) hj
            exact ⟨y, by rw [Nat.zero_add]; exact hy, hr⟩), Ren.le_refl _⟩
        · cases he
      · cases he
    · rename_i q len st F el h1 k1 hx hu hb1 hb2
      split at he
      · rename_i i hi'
        split at he
        · rename_i hst
          have hst := Nat.eq_of_beq_eq_true hst
          subst hst
          simp only [Option.some.injEq, Prod.mk.injEq] at he; obtain ⟨rfl, rfl⟩ := he
          obtain ⟨p1, p2, p3, _⟩ := hp
          subst p2
          obtain ⟨xh, kh, rfl, hxh⟩ := bnd1_rel hview hb1
          obtain ⟨xm, km, rfl, hxm⟩ := bnd1_rel hview hb2
          have hvx : (D.sl q len i.size F).rel ρ.κ (a.eval x) := look_rel hview hx
          obtain ⟨nh, rfl⟩ : ∃ nh : Nat, h1 = (nh : Int) := ⟨h1.toNat, by omega⟩
          rcases hvx with ⟨_, rfl, hxv⟩ | ⟨ad, cap, hxv, hlc, hsp, hc⟩
          · obtain rfl : nh = 0 := by omega
            have hrun : (execOp a.eval o).run P w = .ok (.value (.slice none 0 0)) w := by
              simp [execOp, ho, hxv, hxh, hxm, Instr.sliceAt, Instr.slice, Instr.sliceBounds, Instr.sliceBound, asIntOf, run_underlying hu, run_sizeOf' P hi']
            refine ow_value hrun hdf ⟨ρ, h.quiet hd (fun v' hv' => by cases hv'; exact ⟨.inl ⟨rfl, rfl, rfl⟩, none, rfl⟩), Ren.le_refl _⟩
          · have hcap : nh ≤ cap := by omega
            have hrun : (execOp a.eval o).run P w = .ok (.value (.slice (some ad) nh nh)) w := by
              by_cases h0 : nh = 0
              · subst h0
                simp [execOp, ho, hxv, hxh, hxm, Instr.sliceAt, Instr.slice, Instr.sliceBounds, Instr.sliceBound, asIntOf, run_underlying hu, run_sizeOf' P hi']
              · have : ad.add 0 = ad := by cases ad; simp [Addr.add]
                simp [execOp, ho, hxv, hxh, hxm, Instr.sliceAt, Instr.slice, Instr.sliceBounds, Instr.sliceBound, asIntOf, run_underlying hu, run_sizeOf' P hi', hcap, this]
            refine ow_value hrun hdf ⟨ρ, h.quiet hd (fun v' hv' => by
              cases hv'
              rw [Int.toNat_natCast]
              exact ⟨.inr ⟨ad, nh, rfl, Nat.le_refl _, fun h0 => hsp (by omega), fun i' j hi2 hj => hc i' j (by omega) hj⟩, _, rfl⟩), Ren.le_refl _⟩
        · cases he
      · cases he
    · exact elder he
  case h_4 cl ho =>
    have hdf : ∀ c, o.op ≠ .defer c := by simp [ho]
    split at he
    · rename_i x y t t' hcal hargs htys
      split at he
      · rename_i len st F vy el hvx hvy hu
        split at he
        · rename_i i htt hi
          have htt := Nat.eq_of_beq_eq_true htt
          subst htt
          split at he
          · rename_i z n F' p2 hz hmore hok
            simp only [Bool.and_eq_true] at hok
            have hsz : 0 < i.size := by simpa [Nat.blt_eq] using hok.1.1
            have hby := Nat.le_of_ble_eq_true hok.1.2
            have hst := Nat.eq_of_beq_eq_true hok.2
            subst hst
            split at he
            · rename_i hzs
              have hzs' := Nat.eq_of_beq_eq_true hzs
              simp only [Option.some.injEq, Prod.mk.injEq] at he; obtain ⟨rfl, rfl⟩ := he
              have ha : cl.args = #[x, y] := by apply Array.ext'; simpa using hargs
              have hat : cl.argTypes = #[t, t] := by apply Array.ext'; simpa using htys
              obtain ⟨hb, hp2⟩ := hp
              have hrx := look_rel hview hvx
              have hry := look_rel hview hvy
              obtain ⟨ao, cap, news, hvy', hao, hq', hnl, hnc, hn1, hnr⟩ := more_sound h hsub hsz hry hmore hp2
              have hn0 := hq' rfl
              obtain ⟨ad, hao'⟩ : ∃ ad, ao = some ad := by
                cases ao with
                | none => have := (hao rfl).1; omega
                | some ad => exact ⟨ad, rfl⟩
              subst hao'
              have hbytes : (len + n) * i.bytes ≤ 140737488355328 := Nat.le_trans (Nat.mul_le_mul hb hby) (by decide)
              have h63 : len + n ≤ maxLen := by simp only [maxLen]; omega
              -- the base's cells
              have key : ∃ xs : List Value, xs.length = len * i.size ∧ (∀ i' j, i' < len → j < i.size → ∃ y, xs[i' * i.size + j]? = some y ∧ (F i' j).rel ρ.κ y) ∧
                  ∃ v' w', (Builtin.append_ #[t, t] o.type #[a.eval x, .slice (some ad) n cap]).run P w = .ok v' w' ∧ w'.ownsRow w.heap.size el i.size v' (len + n) (xs ++ news) ∧ w.grownBy w' none := by
                obtain ⟨hdx, ao', hxv⟩ := hrx
                rcases hdx with ⟨_, h0, hxv'⟩ | ⟨ad', cap', hxv', hlc, hsp, hc⟩
                · subst h0
                  have hxv' : a.eval x = .slice none 0 0 := hxv'
                  obtain ⟨v', w', hr, ho', hgr, hiff⟩ := run_append_own (P := P) (ty := o.type) w w.heap.size t el i z i.size i.bytes hu hi hz rfl rfl hzs' hsz (.slice none 0 0) 0 [] (World.ownsRow_nil w _ el _) ad n cap news hnl (hnc ad rfl) hn1 (by omega) (by simpa using hbytes) (Nat.le_refl _)
                  exact ⟨[], by simp, fun i' j h => by omega, v', w', by rw [hxv']; exact hr, ho', hgr⟩
                · have hxv : a.eval x = .slice ao' len len := hxv
                  rw [hxv] at hxv'
                  cases hxv'
                  have each : ∀ k, k < len * i.size → ∃ y, ρ.κ ad'.block (ad'.off + k) = some y ∧ (F (k / i.size) (k % i.size)).rel ρ.κ y := by
                    intro k hk
                    have h1 : k / i.size < len := (Nat.div_lt_iff_lt_mul hsz).2 hk
                    have h2 : k % i.size < i.size := Nat.mod_lt _ hsz
                    have := hc _ _ h1 h2
                    rwa [Nat.add_assoc, Nat.mul_comm (k / i.size), Nat.div_add_mod] at this
                  obtain ⟨xs, hxs⟩ : ∃ xs : List Value, xs = (List.range (len * i.size)).map fun k => (ρ.κ ad'.block (ad'.off + k)).getD undef := ⟨_, rfl⟩
                  have hxl : xs.length = len * i.size := by rw [hxs]; simp
                  have hget : ∀ k u, xs[k]? = some u → k < len * i.size ∧ ρ.κ ad'.block (ad'.off + k) = some u := by
                    intro k u hk
                    rw [hxs] at hk
                    simp only [List.getElem?_map, Option.map_eq_some_iff, List.getElem?_eq_some_iff, List.getElem_range, List.length_range] at hk
                    obtain ⟨k', ⟨hlt, rfl⟩, rfl⟩ := hk
                    obtain ⟨y, hy, _⟩ := each k hlt
                    exact ⟨hlt, by rw [hy]; rfl⟩
                  have hsp' : 0 < len → ad'.spot = none := hsp
                  have holds : ∀ j u, xs[j]? = some u → w.cell? (ad'.add j) = some u := by
                    intro j u hj
                    obtain ⟨hlt, hu'⟩ := hget j u hj
                    have hl0 : 0 < len := by
                      rcases Nat.eq_zero_or_pos len with h0 | h0
                      · subst h0; simp at hlt
                      · exact h0
                    obtain ⟨blk, off, spt⟩ := ad'
                    have := hsp' hl0
                    simp only at this
                    subst this
                    rw [Addr.add_lit]
                    exact (h.im _ _ _ hu').2
                  obtain ⟨v', w', hr, ho', hgr⟩ := run_append_arg_grows (P := P) w t o.type el i z i.size i.bytes hu hi hz rfl rfl hzs' hsz ad' len len xs hxl holds ad n cap news hnl (hnc ad rfl) (by omega) h63 hbytes
                  refine ⟨xs, hxl, fun i' j hi2 hj => ?_, v', w', by rw [hxv]; exact hr, ho', hgr⟩
                  obtain ⟨y, hy, hr'⟩ := hc i' j hi2 hj
                  refine ⟨y, ?_, hr'⟩
                  have hlt := el_lt hi2 hj
                  rw [Nat.add_assoc] at hy
                  rw [hxs, List.getElem?_map, List.getElem?_range hlt, Option.map_some, hy]
                  rfl
              obtain ⟨xs, hxl, hxr, v', w', hrun, hown', hgr⟩ := key
              have hx : (execOp a.eval o).run P w = .ok (.value v') w' := by
                rw [hvy'.symm] at hrun
                simp [execOp, ho, resolve, hcal, ha, hat, invoke, builtin, hrun]
              refine ow_value hx hdf ?_
              rcases hown'.2 with ⟨_, h0⟩ | ⟨g, cp', cur', hv', hge, hg, g1, g2, g3, g4⟩
              · omega
              have hf := h.dom c (hfresh 0 (by simp))
              have hgl : g < w'.heap.size := (Array.getElem?_eq_some_iff.1 hg).1
              refine ⟨ρ.new c (g, cp'), h.step hd (new_le hf _) hgr.os hgr.tape hgr.output hgr.size ?_ ?_ ?_ ?_ (fun pr hpr => by cases hpr) ?_ ?_ (fun b o v hv => .inl hv), new_le hf _⟩
              · intro j hj _; exact hgr.block j hj (by simp)
              · intro m hm hout
                simp only [List.length_singleton] at hout
                show upd ρ.nm c (some _) m = none
                rw [upd_ne _ _ (by omega)]; exact hm
              · intro j hj; simp at hj; subst hj; exact hfresh 0 (by simp)
              · intro u _ hu; cases hu; exact ⟨_, new_same, hv'⟩
              · intro j k hj
                cases j with
                | zero =>
                  simp at hj; subst hj
                  refine ⟨_, new_same, hgl, ?_, .inl hge⟩
                  refine ⟨cur'.toList, by rw [Array.toArray_toList]; exact hg, by simpa using g3, g1, g2, ?_⟩
                  intro i' j' hi' hj'
                  obtain ⟨u, hu, hr⟩ := join_rel hxl hxr hnr i' j' hi' hj'
                  refine ⟨u, ?_, hr⟩
                  rw [← g4, List.getElem?_take, if_pos (el_lt hi' hj')] at hu
                  exact hu
                | succ j => simp at hj
              · intro j j' b b' hj hj' hne; simp at hj hj'; omega
            · cases he
          · rename_i z n F' p2 hz hmore hok
            simp only [Bool.and_eq_true] at hok
            have hsz : 0 < i.size := by simpa [Nat.blt_eq] using hok.1.1
            have hby := Nat.le_of_ble_eq_true hok.1.2
            have hst := Nat.eq_of_beq_eq_true hok.2
            subst hst
            split at he
            · rename_i hzs
              have hzs' := Nat.eq_of_beq_eq_true hzs
              simp only [Option.some.injEq, Prod.mk.injEq] at he; obtain ⟨rfl, rfl⟩ := he
              have ha : cl.args = #[x, y] := by apply Array.ext'; simpa using hargs
              have hat : cl.argTypes = #[t, t] := by apply Array.ext'; simpa using htys
              obtain ⟨hb, hp2⟩ := hp
              have hrx := look_rel hview hvx
              have hry := look_rel hview hvy
              obtain ⟨ao, cap, news, hvy', hao, hq', hnl, hnc, hn1, hnr⟩ := more_sound h hsub hsz hry hmore hp2
              by_cases hnz : n = 0
              · subst hnz
                obtain ⟨hdx, ao', hxv⟩ := hrx
                have hxv : a.eval x = .slice ao' len len := hxv
                have hrun := run_append_zero (P := P) w t o.type el i hu hi ao' len len (Nat.le_refl _) ao cap
                have hx : (execOp a.eval o).run P w = .ok (.value (.slice ao' len len)) w := by
                  rw [hvy'.symm, ← hxv] at hrun
                  rw [← hxv]
                  simp [execOp, ho, resolve, hcal, ha, hat, invoke, builtin, hrun]
                refine ow_value hx hdf ?_
                refine ⟨ρ, h.quiet hd (fun u hu => ?_), Ren.le_refl _⟩
                cases hu
                rw [← hxv]
                rcases hdx with ⟨_, h0, hxv'⟩ | ⟨ad', cap', hxv', hlc, hsp, hc⟩
                · exact .inl ⟨rfl, by omega, hxv'⟩
                · refine .inr ⟨ad', cap', hxv', hlc, hsp, fun i' j' hi' hj' => ?_⟩
                  obtain ⟨u, hu', hr⟩ := hc i' j' hi' hj'
                  refine ⟨u, hu', ?_⟩
                  unfold joinF
                  rw [show Nat.blt i' len = true by simp [Nat.blt_eq]; exact hi']
                  exact hr
              have hn0 : 0 < n := Nat.pos_of_ne_zero hnz
              obtain ⟨ad, hao'⟩ : ∃ ad, ao = some ad := by
                cases ao with
                | none => have := (hao rfl).1; omega
                | some ad => exact ⟨ad, rfl⟩
              subst hao'
              have hbytes : (len + n) * i.bytes ≤ 140737488355328 := Nat.le_trans (Nat.mul_le_mul hb hby) (by decide)
              have h63 : len + n ≤ maxLen := by simp only [maxLen]; omega
              -- the base's cells
              have key : ∃ xs : List Value, xs.length = len * i.size ∧ (∀ i' j, i' < len → j < i.size → ∃ y, xs[i' * i.size + j]? = some y ∧ (F i' j).rel ρ.κ y) ∧
                  ∃ v' w', (Builtin.append_ #[t, t] o.type #[a.eval x, .slice (some ad) n cap]).run P w = .ok v' w' ∧ w'.ownsRow w.heap.size el i.size v' (len + n) (xs ++ news) ∧ w.grownBy w' none := by
                obtain ⟨hdx, ao', hxv⟩ := hrx
                rcases hdx with ⟨_, h0, hxv'⟩ | ⟨ad', cap', hxv', hlc, hsp, hc⟩
                · subst h0
                  have hxv' : a.eval x = .slice none 0 0 := hxv'
                  obtain ⟨v', w', hr, ho', hgr, hiff⟩ := run_append_own (P := P) (ty := o.type) w w.heap.size t el i z i.size i.bytes hu hi hz rfl rfl hzs' hsz (.slice none 0 0) 0 [] (World.ownsRow_nil w _ el _) ad n cap news hnl (hnc ad rfl) hn1 (by omega) (by simpa using hbytes) (Nat.le_refl _)
                  exact ⟨[], by simp, fun i' j h => by omega, v', w', by rw [hxv']; exact hr, ho', hgr⟩
                · have hxv : a.eval x = .slice ao' len len := hxv
                  rw [hxv] at hxv'
                  cases hxv'
                  have each : ∀ k, k < len * i.size → ∃ y, ρ.κ ad'.block (ad'.off + k) = some y ∧ (F (k / i.size) (k % i.size)).rel ρ.κ y := by
                    intro k hk
                    have h1 : k / i.size < len := (Nat.div_lt_iff_lt_mul hsz).2 hk
                    have h2 : k % i.size < i.size := Nat.mod_lt _ hsz
                    have := hc _ _ h1 h2
                    rwa [Nat.add_assoc, Nat.mul_comm (k / i.size), Nat.div_add_mod] at this
                  obtain ⟨xs, hxs⟩ : ∃ xs : List Value, xs = (List.range (len * i.size)).map fun k => (ρ.κ ad'.block (ad'.off + k)).getD undef := ⟨_, rfl⟩
                  have hxl : xs.length = len * i.size := by rw [hxs]; simp
                  have hget : ∀ k u, xs[k]? = some u → k < len * i.size ∧ ρ.κ ad'.block (ad'.off + k) = some u := by
                    intro k u hk
                    rw [hxs] at hk
                    simp only [List.getElem?_map, Option.map_eq_some_iff, List.getElem?_eq_some_iff, List.getElem_range, List.length_range] at hk
                    obtain ⟨k', ⟨hlt, rfl⟩, rfl⟩ := hk
                    obtain ⟨y, hy, _⟩ := each k hlt
                    exact ⟨hlt, by rw [hy]; rfl⟩
                  have hsp' : 0 < len → ad'.spot = none := hsp
                  have holds : ∀ j u, xs[j]? = some u → w.cell? (ad'.add j) = some u := by
                    intro j u hj
                    obtain ⟨hlt, hu'⟩ := hget j u hj
                    have hl0 : 0 < len := by
                      rcases Nat.eq_zero_or_pos len with h0 | h0
                      · subst h0; simp at hlt
                      · exact h0
                    obtain ⟨blk, off, spt⟩ := ad'
                    have := hsp' hl0
                    simp only at this
                    subst this
                    rw [Addr.add_lit]
                    exact (h.im _ _ _ hu').2
                  obtain ⟨v', w', hr, ho', hgr⟩ := run_append_arg_grows (P := P) w t o.type el i z i.size i.bytes hu hi hz rfl rfl hzs' hsz ad' len len xs hxl holds ad n cap news hnl (hnc ad rfl) (by omega) h63 hbytes
                  refine ⟨xs, hxl, fun i' j hi2 hj => ?_, v', w', by rw [hxv]; exact hr, ho', hgr⟩
                  obtain ⟨y, hy, hr'⟩ := hc i' j hi2 hj
                  refine ⟨y, ?_, hr'⟩
                  have hlt := el_lt hi2 hj
                  rw [Nat.add_assoc] at hy
                  rw [hxs, List.getElem?_map, List.getElem?_range hlt, Option.map_some, hy]
                  rfl
              obtain ⟨xs, hxl, hxr, v', w', hrun, hown', hgr⟩ := key
              have hx : (execOp a.eval o).run P w = .ok (.value v') w' := by
                rw [hvy'.symm] at hrun
                simp [execOp, ho, resolve, hcal, ha, hat, invoke, builtin, hrun]
              refine ow_value hx hdf ?_
              rcases hown'.2 with ⟨_, h0⟩ | ⟨g, cp', cur', hv', hge, hg, g1, g2, g3, g4⟩
              · omega
              have hgl : g < w'.heap.size := (Array.getElem?_eq_some_iff.1 hg).1
              have hle : ρ.le { ρ with κ := fun b o => if b = g then cur'.toList[o]? else ρ.κ b o } := by
                refine ⟨fun _ _ h => h, fun b o u hu => ?_, rfl, rfl, rfl, rfl⟩
                have := (h.im b o u hu).1
                have hne : b ≠ g := by omega
                show (if b = g then cur'.toList[o]? else ρ.κ b o) = some u
                rw [if_neg hne]; exact hu
              refine ⟨_, h.step hd hle hgr.os hgr.tape hgr.output hgr.size ?_ (fun m hm _ => hm) ?_ ?_ (fun pr hpr => by cases hpr) ?_ ?_ ?_, hle⟩
              · intro j hj _; exact hgr.block j hj (by simp)
              · intro j hj; simp at hj
              · intro u _ hu; cases hu
                refine .inr ⟨⟨g, 0, none⟩, cp', hv', by omega, fun _ => rfl, fun i' j' hi' hj' => ?_⟩
                obtain ⟨u, hu, hr⟩ := join_rel hxl hxr hnr i' j' hi' hj'
                refine ⟨u, ?_, D.rel_mono hle.κ _ _ hr⟩
                show (if g = g then cur'.toList[0 + i' * i.size + j']? else ρ.κ g _) = some u
                rw [if_pos rfl, Nat.zero_add]
                rw [← g4, List.getElem?_take, if_pos (el_lt hi' hj')] at hu
                exact hu
              · intro j k hj; simp at hj
              · intro j j' b b' hj; simp at hj
              · intro b o' u hu
                by_cases hb : b = g
                · subst hb
                  have hu' : cur'.toList[o']? = some u := by
                    have : (if b = b then cur'.toList[o']? else ρ.κ b o') = some u := hu
                    rwa [if_pos rfl] at this
                  refine .inr ⟨.inl hge, hgl, ?_, fun i' k b' hj => by simp at hj⟩
                  have : cur'[o']? = some u := by simpa using hu'
                  simp [World.cell?, hg, this]
                · have : (if b = g then cur'.toList[o']? else ρ.κ b o') = some u := hu
                  rw [if_neg hb] at this
                  exact .inl this
            · cases he
          · cases he
        · cases he
      · exact elder he
    · exact elder he
  case h_5 t x ix ho =>
    have hdf : ∀ c, o.op ≠ .defer c := by simp [ho]
    split at he
    · rename_i m off k n len el hx hix hu
      split at he
      · rename_i i hi
        simp only [Option.some.injEq, Prod.mk.injEq] at he; obtain ⟨rfl, rfl⟩ := he
        obtain ⟨p1, p2, _⟩ := hp
        obtain ⟨b, hb, hv⟩ := look_rel hview hx
        have hv : a.eval x = .pointer (some ⟨b.1, off, none⟩) := hv
        have hn : a.eval ix = .int k n := look_rel hview hix
        have hd' : 0 ≤ n ∧ n < len := ⟨p1, p2⟩
        have hrun : (execOp a.eval o).run P w = .ok (.value (.pointer (some ⟨b.1, off + n.toNat * i.size, none⟩))) w := by
          simp [execOp, ho, hv, hn, Instr.indexAt, asIntOf, run_underlying hu, Instr.sureAddr, hd', run_sizeOf' P hi, Addr.add_lit]
        exact ow_value hrun hdf ⟨ρ, h.quiet hd (fun v' hv' => by cases hv'; exact ⟨b, hb, by rw [Nat.add_comm]⟩), Ren.le_refl _⟩
      · cases he
    · exact elder he
  case h_6 t x y ho =>
    have hdf : ∀ c, o.op ≠ .defer c := by simp [ho]
    split at he
    · rename_i m e0 j k v i hx hy hi
      split at he
      · rename_i el cs hm
        split at he
        · rename_i hok
          simp only [Option.some.injEq, Prod.mk.injEq] at he; obtain ⟨rfl, rfl⟩ := he
          simp only [Bool.and_eq_true] at hok
          have g2 : i.size = 1 := Nat.eq_of_beq_eq_true hok.1
          have g3 := Nat.le_of_ble_eq_true hok.2
          obtain ⟨b, hb, hxv⟩ := look_rel hview hx
          obtain ⟨vy, hvy, hny⟩ := Option.map_eq_some_iff.1 hy
          have hyv : a.eval y = .int k v := numC_rel hny (look_rel hview hvy)
          obtain ⟨b', hb', hlt, xs, hf, hh⟩ := hview.hp m _ hm
          simp only at hb
          rw [hb] at hb'; cases hb'
          have hlen : xs.length = cs.length := (f2_len hf).symm
          have hfd := f2_drop hf j
          obtain ⟨u1, u2⟩ := updI_rel (k := k) (v := v) (e := e0) (p := 0) hp (Nat.zero_le _) hfd
          rw [List.length_drop] at u1
          have hxv : a.eval x = .pointer (some ⟨b.1, e0 * 1 + j, none⟩) := hxv
          have hcv : (a.eval y).cells = #[Value.int k v] := by rw [hyv]; rfl
          have hst := run_storeCells_at P b.1 (e0 * 1 + j) el [Value.int k v] 0 xs.toArray w hh (by simp; omega) (fun x hx => by
            simp only [List.mem_singleton] at hx; subst hx; rfl)
          have hrun : (execOp a.eval o).run P w = .ok .skip (w.setRow b.1 (xs.take (e0 * 1 + j) ++ [Value.int k v] ++ xs.drop (e0 * 1 + j + 1)).toArray) := by
            simp only [execOp, ho, hxv, Instr.storeAt, Instr.sureAddr, Sem.run_bind, Sem.run_pure, Result.andThen_ok, storeVar, run_sizeOf' P hi, hcv, g2, ne_eq, not_true_eq_false, if_false, Sem.run_ite, hst]
            simp [hst]
          refine ow_skip hrun hdf ?_
          refine ⟨ρ, ?_, Ren.le_refl _⟩
          refine h.wrote hd (hsub m _ hm) rfl hb rfl rfl rfl (size_setRow _ _ _) ?_ ?_ (fun v' hv' => by cases hv')
          · intro j hj; simp [World.setRow, Array.getElem?_modify, Ne.symm hj]
          · refine ⟨_, f2_append (f2_take hf j) u2, ?_⟩
            rw [setRow_heap w b.1 xs.toArray _ el _ hh]
            rw [Nat.sub_zero]
            have e1 : xs.take j ++ (xs.drop j).set e0 (Value.int k v) = xs.set (j + e0) (Value.int k v) := by
              have hj : (xs.take j).length = j := by rw [List.length_take]; omega
              conv => rhs; rw [← List.take_append_drop j xs]
              rw [List.set_append_right _ _ (by rw [hj]; omega), hj, Nat.add_sub_cancel_left]
            have e2 : xs.set (j + e0) (Value.int k v) = xs.take (e0 * 1 + j) ++ [Value.int k v] ++ xs.drop (e0 * 1 + j + 1) := by
              rw [List.set_eq_take_append_cons_drop, if_pos (by omega), Nat.mul_one, Nat.add_comm e0 j, List.append_assoc]
              rfl
            rw [e1, e2]
        · cases he
      · exact elder he
    · exact elder he
  case h_7 op t x y ty ho =>
    have hdf : ∀ c, o.op ≠ .defer c := by simp [ho]
    split at he
    · rename_i el hx hy hu
      simp only [Option.some.injEq, Prod.mk.injEq] at he; obtain ⟨rfl, rfl⟩ := he
      obtain ⟨vx, hvx, hnx⟩ := Option.map_eq_some_iff.1 hx
      obtain ⟨ad, n, cp, hxv⟩ := notNil_rel hnx (look_rel hview hvx)
      have hyv : a.eval y = .slice none 0 0 := look_rel hview hy
      have hrun : (execOp a.eval o).run P w = .ok (.value (.bool false)) w := by
        simp only [execOp, ho, hxv, hyv, Sem.run_bind, run_eqGuard_slice, Result.andThen_ok, run_eql_slice_nil w _ _ _ _ _ hu, Sem.run_pure]
      exact ow_value hrun hdf ⟨ρ, h.quiet hd (fun v' hv' => by cases hv'; rfl), Ren.le_refl _⟩
    · rename_i el hx hy hu
      simp only [Option.some.injEq, Prod.mk.injEq] at he; obtain ⟨rfl, rfl⟩ := he
      obtain ⟨vx, hvx, hnx⟩ := Option.map_eq_some_iff.1 hx
      obtain ⟨ad, n, cp, hxv⟩ := notNil_rel hnx (look_rel hview hvx)
      have hyv : a.eval y = .slice none 0 0 := look_rel hview hy
      have hrun : (execOp a.eval o).run P w = .ok (.value (.bool true)) w := by
        simp only [execOp, ho, hxv, hyv, Sem.run_bind, run_eqGuard_slice, Result.andThen_ok, run_neq_slice_nil w _ _ _ _ _ hu, Sem.run_pure]
      exact ow_value hrun hdf ⟨ρ, h.quiet hd (fun v' hv' => by cases hv'; rfl), Ren.le_refl _⟩
    · exact elder he
  case h_8 => exact elder he
end
end Go.V
end
