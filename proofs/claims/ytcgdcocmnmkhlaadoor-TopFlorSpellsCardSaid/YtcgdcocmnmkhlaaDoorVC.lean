/- The second engine, parts 11 to 15: trees, loops, execution and its soundness. -/
import Derived.Test.YtcgdcocmnmkhlaaDoorVB
set_option linter.unusedVariables false
set_option linter.unusedSimpArgs false
section
/- The second engine, part 11: trees of the ways, with loops; what a loop's round begins with. -/
set_option linter.unusedVariables false
set_option linter.unusedSimpArgs false
namespace Go.V
open Go.RowKit (Below)

/-- A tree of the ways: a test on a bool, a condition that is owed, a loop (what it begins with, what a round does: the next round's beginning, or an end), an end. -/
inductive T : Type → Type 1 where
  | ret {α : Type} (x : α) : T α
  | br {α : Type} (b : Bool) (t e : T α) : T α
  | need {α : Type} (p : Prop) (t : T α) : T α
  | fail {α : Type} : T α
  | loop {α : Type} (X : Type) (x0 : X) (body : X → T (X ⊕ α)) : T α
  | loop2 {α : Type} (X Y : Type) (x0 : X ⊕ Y) (b1 : X → T ((X ⊕ Y) ⊕ α)) (b2 : Y → T ((X ⊕ Y) ⊕ α)) : T α

/-- What a loop's round must come to. -/
def LoopP {X α : Type} (I : X → Prop) (μ : X → Nat) (n : Nat) (Q : α → Prop) : X ⊕ α → Prop
  | .inl y => I y ∧ μ y < n
  | .inr a => Q a

def T.wp : {α : Type} → T α → (α → Prop) → Prop
  | _, .ret x, Q => Q x
  | _, .br b t e, Q => (b = true → t.wp Q) ∧ (b = false → e.wp Q)
  | _, .need p t, Q => p ∧ t.wp Q
  | _, .fail, _ => False
  | _, .loop X x0 body, Q => ∃ (I : X → Prop) (μ : X → Nat), I x0 ∧ ∀ x, I x → (body x).wp (LoopP I μ (μ x) Q)
  | _, .loop2 X Y x0 b1 b2, Q => ∃ (I : X ⊕ Y → Prop) (μ : X ⊕ Y → Nat), I x0 ∧ (∀ x, I (.inl x) → (b1 x).wp (LoopP I μ (μ (.inl x)) Q)) ∧ (∀ y, I (.inr y) → (b2 y).wp (LoopP I μ (μ (.inr y)) Q))

def sumMap {X α β : Type} (g : α → β) : X ⊕ α → X ⊕ β
  | .inl y => .inl y
  | .inr a => .inr (g a)
def T.map : {α β : Type} → (α → β) → T α → T β
  | _, _, g, .ret x => .ret (g x)
  | _, _, g, .br b t e => .br b (t.map g) (e.map g)
  | _, _, g, .need p t => .need p (t.map g)
  | _, _, _, .fail => .fail
  | _, _, g, .loop X x0 body => .loop X x0 fun x => (body x).map (sumMap g)
  | _, _, g, .loop2 X Y x0 b1 b2 => .loop2 X Y x0 (fun x => (b1 x).map (sumMap g)) (fun y => (b2 y).map (sumMap g))
def sumBind {X α β : Type} (f : α → T β) : X ⊕ α → T (X ⊕ β)
  | .inl y => .ret (.inl y)
  | .inr a => (f a).map .inr
def T.bind : {α β : Type} → T α → (α → T β) → T β
  | _, _, .ret x, f => f x
  | _, _, .br b t e, f => .br b (t.bind f) (e.bind f)
  | _, _, .need p t, f => .need p (t.bind f)
  | _, _, .fail, _ => .fail
  | _, _, .loop X x0 body, f => .loop X x0 fun x => (body x).bind (sumBind f)
  | _, _, .loop2 X Y x0 b1 b2, f => .loop2 X Y x0 (fun x => (b1 x).bind (sumBind f)) (fun y => (b2 y).bind (sumBind f))

theorem T.wp_mono : ∀ {α : Type} {t : T α} {Q R : α → Prop}, (∀ x, Q x → R x) → t.wp Q → t.wp R := by
  intro α t
  induction t with
  | ret x => exact fun h k => h x k
  | br b t e iht ihe => exact fun h k => ⟨fun hb => iht h (k.1 hb), fun hb => ihe h (k.2 hb)⟩
  | need p t ih => exact fun h k => ⟨k.1, ih h k.2⟩
  | fail => exact fun _ k => k
  | loop X x0 body ih =>
    rintro Q R h ⟨I, μ, h0, hb⟩
    refine ⟨I, μ, h0, fun x hx => ih x ?_ (hb x hx)⟩
    intro r hr
    cases r with
    | inl y => exact hr
    | inr a => exact h a hr
  | loop2 X Y x0 b1 b2 ih1 ih2 =>
    rintro Q R h ⟨I, μ, h0, hb1, hb2⟩
    refine ⟨I, μ, h0, fun x hx => ih1 x ?_ (hb1 x hx), fun x hx => ih2 x ?_ (hb2 x hx)⟩
    all_goals (intro r hr; cases r with | inl y => exact hr | inr a => exact h a hr)

theorem T.wp_map : ∀ {α : Type} {t : T α} {β : Type} {g : α → β} {Q : β → Prop}, (t.map g).wp Q → t.wp (fun x => Q (g x)) := by
  intro α t
  induction t with
  | ret x => exact fun h => h
  | br b t e iht ihe => exact fun h => ⟨fun hb => iht (h.1 hb), fun hb => ihe (h.2 hb)⟩
  | need p t ih => exact fun h => ⟨h.1, ih h.2⟩
  | fail => exact fun h => h
  | loop X x0 body ih =>
    rintro β g Q ⟨I, μ, h0, hb⟩
    refine ⟨I, μ, h0, fun x hx => T.wp_mono ?_ (ih x (hb x hx))⟩
    intro r hr
    cases r with
    | inl y => exact hr
    | inr a => exact hr
  | loop2 X Y x0 b1 b2 ih1 ih2 =>
    rintro β g Q ⟨I, μ, h0, hb1, hb2⟩
    refine ⟨I, μ, h0, fun x hx => T.wp_mono ?_ (ih1 x (hb1 x hx)), fun x hx => T.wp_mono ?_ (ih2 x (hb2 x hx))⟩
    all_goals (intro r hr; cases r with | inl y => exact hr | inr a => exact hr)

theorem T.wp_bind : ∀ {α : Type} {t : T α} {β : Type} {f : α → T β} {Q : β → Prop}, (t.bind f).wp Q → t.wp (fun x => (f x).wp Q) := by
  intro α t
  induction t with
  | ret x => exact fun h => h
  | br b t e iht ihe => exact fun h => ⟨fun hb => iht (h.1 hb), fun hb => ihe (h.2 hb)⟩
  | need p t ih => exact fun h => ⟨h.1, ih h.2⟩
  | fail => exact fun h => h
  | loop X x0 body ih =>
    rintro β f Q ⟨I, μ, h0, hb⟩
    refine ⟨I, μ, h0, fun x hx => T.wp_mono ?_ (ih x (hb x hx))⟩
    intro r hr
    cases r with
    | inl y => exact hr
    | inr a => exact T.wp_mono (fun b hb => hb) (T.wp_map (t := f a) (g := Sum.inr) hr)
  | loop2 X Y x0 b1 b2 ih1 ih2 =>
    rintro β f Q ⟨I, μ, h0, hb1, hb2⟩
    refine ⟨I, μ, h0, fun x hx => T.wp_mono ?_ (ih1 x (hb1 x hx)), fun x hx => T.wp_mono ?_ (ih2 x (hb2 x hx))⟩
    all_goals (intro r hr; cases r with | inl y => exact hr | inr a => exact T.wp_mono (fun b hb => hb) (T.wp_map (t := f a) (g := Sum.inr) hr))

/-- All ends of a tree. -/
def T.all : {α : Type} → T α → (α → Prop) → Prop
  | _, .ret x, Q => Q x
  | _, .br _ t e, Q => t.all Q ∧ e.all Q
  | _, .need _ t, Q => t.all Q
  | _, .fail, _ => True
  | _, .loop _ _ body, Q => ∀ x, (body x).all (fun r => match r with | .inl _ => True | .inr a => Q a)
  | _, .loop2 _ _ _ b1 b2, Q => (∀ x, (b1 x).all (fun r => match r with | .inl _ => True | .inr a => Q a)) ∧ (∀ x, (b2 x).all (fun r => match r with | .inl _ => True | .inr a => Q a))

theorem T.all_mono : ∀ {α : Type} {t : T α} {Q R : α → Prop}, (∀ x, Q x → R x) → t.all Q → t.all R := by
  intro α t
  induction t with
  | ret x => exact fun h k => h x k
  | br b t e iht ihe => exact fun h k => ⟨iht h k.1, ihe h k.2⟩
  | need p t ih => exact fun h k => ih h k
  | fail => exact fun _ k => k
  | loop X x0 body ih =>
    intro Q R h k x
    refine ih x ?_ (k x)
    intro r hr; cases r with | inl y => exact hr | inr a => exact h a hr
  | loop2 X Y x0 b1 b2 ih1 ih2 =>
    intro Q R h k
    refine ⟨fun x => ih1 x ?_ (k.1 x), fun x => ih2 x ?_ (k.2 x)⟩
    all_goals (intro r hr; cases r with | inl y => exact hr | inr a => exact h a hr)
theorem T.all_map : ∀ {α : Type} {t : T α} {β : Type} {g : α → β} {Q : β → Prop}, t.all (fun x => Q (g x)) → (t.map g).all Q := by
  intro α t
  induction t with
  | ret x => exact fun h => h
  | br b t e iht ihe => exact fun h => ⟨iht h.1, ihe h.2⟩
  | need p t ih => exact fun h => ih h
  | fail => exact fun h => h
  | loop X x0 body ih =>
    intro β g Q h x
    refine ih x (T.all_mono ?_ (h x))
    intro r hr; cases r with | inl y => exact hr | inr a => exact hr
  | loop2 X Y x0 b1 b2 ih1 ih2 =>
    intro β g Q h
    refine ⟨fun x => ih1 x (T.all_mono ?_ (h.1 x)), fun x => ih2 x (T.all_mono ?_ (h.2 x))⟩
    all_goals (intro r hr; cases r with | inl y => exact hr | inr a => exact hr)
theorem T.all_bind : ∀ {α : Type} {t : T α} {β : Type} {f : α → T β} {Q : β → Prop}, t.all (fun x => (f x).all Q) → (t.bind f).all Q := by
  intro α t
  induction t with
  | ret x => exact fun h => h
  | br b t e iht ihe => exact fun h => ⟨iht h.1, ihe h.2⟩
  | need p t ih => exact fun h => ih h
  | fail => exact fun h => h
  | loop X x0 body ih =>
    intro β f Q h x
    refine ih x (T.all_mono ?_ (h x))
    intro r hr; cases r with | inl y => exact trivial | inr a => exact T.all_map hr
  | loop2 X Y x0 b1 b2 ih1 ih2 =>
    intro β f Q h
    refine ⟨fun x => ih1 x (T.all_mono ?_ (h.1 x)), fun x => ih2 x (T.all_mono ?_ (h.2 x))⟩
    all_goals (intro r hr; cases r with | inl y => exact trivial | inr a => exact T.all_map hr)
theorem T.wp_all : ∀ {α : Type} {t : T α} {Q R : α → Prop}, t.wp Q → t.all R → t.wp (fun x => Q x ∧ R x) := by
  intro α t
  induction t with
  | ret x => exact fun h k => ⟨h, k⟩
  | br b t e iht ihe => exact fun h k => ⟨fun hb => iht (h.1 hb) k.1, fun hb => ihe (h.2 hb) k.2⟩
  | need p t ih => exact fun h k => ⟨h.1, ih h.2 k⟩
  | fail => exact fun h _ => h
  | loop X x0 body ih =>
    rintro Q R ⟨I, μ, h0, hb⟩ k
    refine ⟨I, μ, h0, fun x hx => T.wp_mono ?_ (ih x (hb x hx) (k x))⟩
    intro r hr; cases r with | inl y => exact hr.1 | inr a => exact hr
  | loop2 X Y x0 b1 b2 ih1 ih2 =>
    rintro Q R ⟨I, μ, h0, hb1, hb2⟩ k
    refine ⟨I, μ, h0, fun x hx => T.wp_mono ?_ (ih1 x (hb1 x hx) (k.1 x)), fun x hx => T.wp_mono ?_ (ih2 x (hb2 x hx) (k.2 x))⟩
    all_goals (intro r hr; cases r with | inl y => exact hr.1 | inr a => exact hr)

def T.needs {α : Type} : List Prop → T α → T α
  | [], t => t
  | p :: l, t => .need p (T.needs l t)
theorem T.wp_needs {α : Type} {Q : α → Prop} {t : T α} : ∀ {l : List Prop}, (T.needs l t).wp Q → All l ∧ t.wp Q
  | [], h => ⟨trivial, h⟩
  | _ :: _, h => ⟨⟨h.1, (T.wp_needs h.2).1⟩, (T.wp_needs h.2).2⟩
theorem T.all_needs {α : Type} {Q : α → Prop} {t : T α} : ∀ {l : List Prop}, t.all Q → (T.needs l t).all Q
  | [], h => h
  | _ :: l, h => T.all_needs (l := l) h

/-- The same data, as far as it goes. -/
def D.eqv : D → D → Prop
  | .sl q n st F, d => (match d with
    | .sl q' n' st' F' => (q' = true → q = true) ∧ n = n' ∧ (0 < n → st = st') ∧ ∀ i j, i < n → j < st → (F i j).eqv (F' i j)
    | _ => False)
  | d, d' => d = d'
theorem D.eqv_rel {κ : Still} : ∀ {d d' : D} {x : Value}, d.eqv d' → d.rel κ x → d'.rel κ x := by
  intro d
  induction d with
  | sl q n st F ih =>
    intro d' x h r
    cases d' with
    | sl q' n' st' F' =>
      obtain ⟨h1, rfl, h0, h2⟩ := h
      rcases r with ⟨rfl, g2, g3⟩ | ⟨a, cap, g1, g2, g3, g4⟩
      · refine .inl ⟨?_, g2, g3⟩
        cases q' with
        | false => rfl
        | true => cases h1 rfl
      · refine .inr ⟨a, cap, g1, g2, g3, fun i j hi hj => ?_⟩
        have hst := h0 (by omega)
        subst hst
        obtain ⟨y, hy, hr⟩ := g4 i j hi hj
        exact ⟨y, hy, ih i j (h2 i j hi hj) hr⟩
    | _ => exact h.elim
  | _ => intro d' x h r; simp only [D.eqv] at h; subst h; exact r
theorem D.eqv_refl : ∀ (d : D), d.eqv d := by
  intro d
  induction d with
  | sl q n st F ih => exact ⟨id, rfl, fun _ => rfl, fun i j _ _ => ih i j⟩
  | _ => rfl
/-- How an element lies in a slice. -/
structure Enc (α : Type) where
  st : Nat
  enc : α → Nat → D
  rd : (Nat → D) → α
  dflt : α
  law : ∀ a, rd (enc a) = a

section
variable {α : Type}
def Enc.list (E : Enc α) (len : Nat) (F : Nat → Nat → D) : List α := (List.range len).map fun i => E.rd (F i)
def Enc.Is (E : Enc α) (len : Nat) (F : Nat → Nat → D) : Prop := ∀ i j, i < len → j < E.st → (F i j).eqv (E.enc (E.rd (F i)) j)
def Enc.F (E : Enc α) (l : List α) : Nat → Nat → D := fun i => E.enc (l.getD i E.dflt)

theorem Enc.list_len (E : Enc α) {len : Nat} {F : Nat → Nat → D} : (E.list len F).length = len := by simp [Enc.list]
theorem Enc.list_get (E : Enc α) {len : Nat} {F : Nat → Nat → D} {i : Nat} (h : i < len) : (E.list len F).getD i E.dflt = E.rd (F i) := by
  simp [Enc.list, h]
theorem Enc.to (E : Enc α) {q q' : Bool} {len : Nat} {F : Nat → Nat → D} (hq : q' = true → q = true) (h : E.Is len F) : (D.sl q len E.st F).eqv (.sl q' (E.list len F).length E.st (E.F (E.list len F))) := by
  refine ⟨hq, E.list_len.symm, fun _ => rfl, fun i j hi hj => ?_⟩
  have := h i j hi hj
  simp only [Enc.F]
  rw [E.list_get hi]
  exact this
end
/-- What a cell that varies from round to round holds. -/
inductive CS where
  | int (k : IntKind)
  | bool
  | str
  | nsl
  | row (e : TypeId) (st : Nat)
  | im
  | rowE {α : Type} (e : TypeId) (E : Enc α)
@[reducible] def CS.ty : CS → Type
  | .int _ => Int
  | .bool => Bool
  | .str => ByteArray
  | .nsl => Unit
  | .row _ _ => Nat × (Nat → Nat → D)
  | .im => D
  | .rowE (α := α) _ _ => List α
@[reducible] def Tys : List CS → Type
  | [] => Unit
  | c :: l => c.ty × Tys l

/-- A row that a round takes under a new name: its old name, its capacity (none: as it was), the block. -/
structure Req where
  m : Nat
  cap : Option Nat
  k : Blk

def rd1 (s : S) : (cs : CS) → C → Option (cs.ty × List Prop × Option Req)
  | .int k, .num k' n => (match decide (k = k') with | true => some (n, [], none) | false => none)
  | .int k, .int k' n => (match decide (k = k') with | true => some (n, [], none) | false => none)
  | .bool, .lit b => some (b, [], none)
  | .bool, .bool b => some (b, [], none)
  | .str, .str b => some (b, [], none)
  | .nsl, .nsl => some ((), [], none)
  | .row e st, .gsl m len => (match baseOf s e st (.a (.c (.gsl m len))) with
    | some (some m, n, F, true, p) => some ((n, F), p, some ⟨m, none, .row e st n F⟩)
    | _ => none)
  | .row e st, .sl m off n cap => (match baseOf s e st (.a (.c (.sl m off n cap))) with
    | some (some m, n, F, true, p) => some ((n, F), p, some ⟨m, some cap, .row e st n F⟩)
    | _ => none)
  | .im, .im d => some (d, [], none)
  | .rowE e E, .gsl m len => (match baseOf s e E.st (.a (.c (.gsl m len))) with
    | some (some m, n, F, true, p) => some (E.list n F, E.Is n F :: p, some ⟨m, none, .row e E.st (E.list n F).length (E.F (E.list n F))⟩)
    | _ => none)
  | .rowE e E, .sl m off n cap => (match baseOf s e E.st (.a (.c (.sl m off n cap))) with
    | some (some m, n, F, true, p) => some (E.list n F, E.Is n F :: p, some ⟨m, some cap, .row e E.st (E.list n F).length (E.F (E.list n F))⟩)
    | _ => none)
  | _, _ => none
def pt1 : (cs : CS) → cs.ty → Nat → C
  | .int k, n, _ => .int k n
  | .bool, b, _ => .bool b
  | .str, b, _ => .str b
  | .nsl, _, _ => .nsl
  | .row _ _, x, c => .gsl c x.1
  | .im, d, _ => .im d
  | .rowE _ _, x, c => .gsl c x.length
def bk1 : (cs : CS) → cs.ty → List Blk
  | .row e st, x => [.row e st x.1 x.2]
  | .rowE e E, x => [.row e E.st x.length (E.F x)]
  | _, _ => []
def CS.n : CS → Nat
  | .row _ _ => 1
  | .rowE _ _ => 1
  | _ => 0

def rdL (s : S) : (l : List CS) → List C → Option (Tys l × List Prop × List Req)
  | [], [] => some ((), [], [])
  | cs :: l, c :: k => (match rd1 s cs c, rdL s l k with
    | some (x, p, q), some (y, p', q') => some ((x, y), p ++ p', q.toList ++ q')
    | _, _ => none)
  | _, _ => none
def nL : List CS → Nat
  | [] => 0
  | cs :: l => cs.n + nL l
def ptL : (l : List CS) → Tys l → Nat → List C
  | [], _, _ => []
  | cs :: l, x, c => pt1 cs x.1 c :: ptL l x.2 (c + cs.n)
def bkL : (l : List CS) → Tys l → List Blk
  | [], _ => []
  | cs :: l, x => bk1 cs x.1 ++ bkL l x.2

/-- The requests are met: from the name c on. -/
def Met (ρ ρ' : Ren) (c : Nat) (q : List Req) : Prop := ∀ i r, q[i]? = some r → ∀ b, ρ r.m = some b → ρ' (c + i) = some (b.1, r.cap.getD b.2)
theorem Met.tail {ρ ρ' : Ren} {c : Nat} {q q' : List Req} (h : Met ρ ρ' c (q ++ q')) : Met ρ ρ' (c + q.length) q' := by
  intro i r hi b hb
  have := h (q.length + i) r (by rw [List.getElem?_append_right (by omega)]; simpa using hi) b hb
  rw [Nat.add_assoc]; exact this

section
variable {ρ ρ' : Ren} {s : S}

theorem rd1_req {cs : CS} {c : C} {x : cs.ty} {p : List Prop} {q : Option Req} (h : rd1 s cs c = some (x, p, q)) : q.toList.length = cs.n ∧ bk1 cs x = q.toList.map (·.k) := by
  unfold rd1 at h
  split at h
  all_goals first
    | (simp only [Option.some.injEq, Prod.mk.injEq] at h; obtain ⟨_, _, rfl⟩ := h; exact ⟨rfl, rfl⟩)
    | (split at h
       · simp only [Option.some.injEq, Prod.mk.injEq] at h; obtain ⟨h1, _, rfl⟩ := h; first | (subst h1; exact ⟨rfl, rfl⟩) | exact ⟨rfl, rfl⟩
       · cases h)
    | cases h

theorem rd1_rel (hκ : ρ.κ.le ρ'.κ) {cs : CS} {c : C} {x : cs.ty} {p : List Prop} {q : Option Req} (h : rd1 s cs c = some (x, p, q)) {c0 : Nat} (hm : Met ρ ρ' c0 q.toList) {v : Value} (hr : c.rel ρ v) : (pt1 cs x c0).rel ρ' v := by
  unfold rd1 at h
  split at h
  case h_1 =>
    split at h
    · rename_i hk; simp at hk; subst hk
      simp only [Option.some.injEq, Prod.mk.injEq] at h; obtain ⟨h1, _, rfl⟩ := h; subst h1; exact hr
    · cases h
  case h_2 =>
    split at h
    · rename_i hk; simp at hk; subst hk
      simp only [Option.some.injEq, Prod.mk.injEq] at h; obtain ⟨h1, _, rfl⟩ := h; subst h1; exact hr
    · cases h
  case h_3 => simp only [Option.some.injEq, Prod.mk.injEq] at h; obtain ⟨h1, _, rfl⟩ := h; subst h1; exact hr
  case h_4 => simp only [Option.some.injEq, Prod.mk.injEq] at h; obtain ⟨h1, _, rfl⟩ := h; subst h1; exact hr
  case h_5 => simp only [Option.some.injEq, Prod.mk.injEq] at h; obtain ⟨h1, _, rfl⟩ := h; subst h1; exact hr
  case h_6 => exact hr
  case h_7 =>
    split at h
    · rename_i m len m' n F p' hb
      simp only [Option.some.injEq, Prod.mk.injEq] at h; obtain ⟨h1, _, rfl⟩ := h; subst h1
      unfold baseOf at hb
      simp only at hb
      split at hb
      · split at hb
        · simp only [Option.some.injEq, Prod.mk.injEq] at hb
          obtain ⟨h1, h2, h3, _⟩ := hb
          subst h1 h2 h3
          obtain ⟨b, hb, rfl⟩ := hr
          exact ⟨_, hm 0 _ rfl b hb, rfl⟩
        · cases hb
      · cases hb
    · cases h
  case h_8 =>
    split at h
    · rename_i m off n0 cap m' n F p' hb
      simp only [Option.some.injEq, Prod.mk.injEq] at h; obtain ⟨h1, _, rfl⟩ := h; subst h1
      unfold baseOf at hb
      split at hb
      · rename_i heq; cases heq
      · rename_i heq; cases heq
      · rename_i heq
        cases heq
        split at hb
        · split at hb
          · simp only [Option.some.injEq, Prod.mk.injEq] at hb
            obtain ⟨h1, h2, h3, _⟩ := hb
            subst h1 h2 h3
            obtain ⟨b, hb, rfl⟩ := hr
            exact ⟨_, hm 0 _ rfl b hb, rfl⟩
          · cases hb
        · cases hb
      · cases hb
    · cases h
  case h_9 => simp only [Option.some.injEq, Prod.mk.injEq] at h; obtain ⟨h1, _, rfl⟩ := h; subst h1; exact D.rel_mono hκ _ _ hr
  case h_10 =>
    split at h
    · rename_i m len m' n F p' hb
      simp only [Option.some.injEq, Prod.mk.injEq] at h; obtain ⟨h1, _, rfl⟩ := h; subst h1
      unfold baseOf at hb
      simp only at hb
      split at hb
      · split at hb
        · simp only [Option.some.injEq, Prod.mk.injEq] at hb
          obtain ⟨h1, h2, h3, _⟩ := hb
          subst h1 h2 h3
          obtain ⟨b, hb, rfl⟩ := hr
          exact ⟨_, hm 0 _ rfl b hb, by rw [Enc.list_len]; rfl⟩
        · cases hb
      · cases hb
    · cases h
  case h_11 =>
    split at h
    · rename_i m off n0 cap m' n F p' hb
      simp only [Option.some.injEq, Prod.mk.injEq] at h; obtain ⟨h1, _, rfl⟩ := h; subst h1
      unfold baseOf at hb
      split at hb
      · rename_i heq; cases heq
      · rename_i heq; cases heq
      · rename_i heq
        cases heq
        split at hb
        · split at hb
          · simp only [Option.some.injEq, Prod.mk.injEq] at hb
            obtain ⟨h1, h2, h3, _⟩ := hb
            subst h1 h2 h3
            obtain ⟨b, hb, rfl⟩ := hr
            exact ⟨_, hm 0 _ rfl b hb, by rw [Enc.list_len]; rfl⟩
          · cases hb
        · cases hb
      · cases hb
    · cases h
  case h_12 => cases h

theorem rdL_req : ∀ {l : List CS} {cs : List C} {x : Tys l} {p : List Prop} {q : List Req}, rdL s l cs = some (x, p, q) → q.length = nL l ∧ bkL l x = q.map (·.k) := by
  intro l
  induction l with
  | nil =>
    intro cs x p q h
    cases cs with
    | nil => simp [rdL] at h; obtain ⟨_, rfl⟩ := h; exact ⟨rfl, rfl⟩
    | cons c k => simp [rdL] at h
  | cons a l ih =>
    intro cs x p q h
    cases cs with
    | nil => simp [rdL] at h
    | cons c k =>
      simp only [rdL] at h
      split at h
      · rename_i x1 p1 q1 y1 p2 q2 h1 h2
        simp only [Option.some.injEq, Prod.mk.injEq] at h; obtain ⟨h3, _, rfl⟩ := h
        obtain ⟨i1, i2⟩ := rd1_req h1
        obtain ⟨j1, j2⟩ := ih h2
        refine ⟨by simp [nL, i1, j1], ?_⟩
        rw [← h3]
        simp only [bkL, i2, j2, List.map_append]
      · cases h

theorem rdL_rel (hκ : ρ.κ.le ρ'.κ) : ∀ {l : List CS} {cs : List C} {x : Tys l} {p : List Prop} {q : List Req} {c0 : Nat} {vs : List Value}, rdL s l cs = some (x, p, q) → Met ρ ρ' c0 q → F2 (C.rel ρ) cs vs → F2 (C.rel ρ') (ptL l x c0) vs := by
  intro l
  induction l with
  | nil =>
    intro cs x p q c0 vs h hm hr
    cases cs with
    | nil => cases hr; exact .nil
    | cons c k => simp [rdL] at h
  | cons a l ih =>
    intro cs x p q c0 vs h hm hr
    cases cs with
    | nil => simp [rdL] at h
    | cons c k =>
      simp only [rdL] at h
      split at h
      · rename_i x1 p1 q1 y1 p2 q2 h1 h2
        simp only [Option.some.injEq, Prod.mk.injEq] at h; obtain ⟨h3, _, rfl⟩ := h
        cases hr with
        | cons r0 rs =>
          have hm1 : Met ρ ρ' c0 q1.toList := fun i r hi b hb => hm i r (by rw [List.getElem?_append_left (List.getElem?_eq_some_iff.1 hi).1]; exact hi) b hb
          have hm2 := hm.tail
          rw [(rd1_req h1).1] at hm2
          rw [← h3]
          exact .cons (rd1_rel hκ h1 hm1 r0) (ih h2 hm2 rs)
      · cases h
end
end Go.V
end

section
/- The second engine, part 12: what a loop's round begins with, taken from what there is. -/
set_option linter.unusedVariables false
set_option linter.unusedSimpArgs false
namespace Go.V
open Go.RowKit (Below)

/-- What varies: a slot's cell, a slot's struct, the block that a slot points to. -/
inductive It where
  | slot (t : Nat) (c : CS)
  | agg (t : Nat) (l : List CS)
  | blk (t : Nat) (l : List CS)
@[reducible] def It.shape : It → List CS
  | .slot _ c => [c]
  | .agg _ l => l
  | .blk _ l => l
@[reducible] def shapes : List It → List CS
  | [] => []
  | i :: l => i.shape ++ shapes l

/-- The block of an item: its name, its type. -/
def blkOf (s : S) (t : Nat) : Option (Nat × TypeId) :=
  match s.tm t with
  | some (.a (.c (.ptr m 0))) => (match s.hp m with | some (.known e _) => some (m, e) | _ => none)
  | _ => none

/-- The cells that vary; s0: where the loop began. -/
def It.cells (s0 s : S) : It → Option (List C)
  | .slot t _ => (match s.tm t with | some (.a (.c c)) => some [c] | _ => none)
  | .agg t l => (match s.tm t with | some (.a (.agg cs)) => (match Nat.beq cs.length l.length with | true => some cs | false => none) | _ => none)
  | .blk t l => (match blkOf s0 t with
    | some (m, e) => (match s.hp m with | some (.known e' cs) => (match Nat.beq e e' && Nat.beq cs.length l.length with | true => some cs | false => none) | _ => none)
    | none => none)
def gather (s0 s : S) : List It → Option (List C)
  | [] => some []
  | i :: l => match i.cells s0 s, gather s0 s l with | some a, some b => some (a ++ b) | _, _ => none

def It.put (s0 : S) (cs : List C) (s : S) : It → S
  | .slot t _ => (match cs with | [c] => { s with tm := upd s.tm t (some (.a (.c c))) } | _ => s)
  | .agg t _ => { s with tm := upd s.tm t (some (.a (.agg cs))) }
  | .blk t _ => (match blkOf s0 t with | some (m, e) => { s with hp := upd s.hp m (some (.known e cs)) } | none => s)
def putAll (s0 : S) : List It → List C → S → S
  | [], _, s => s
  | i :: l, cs, s => putAll s0 l (cs.drop i.shape.length) (i.put s0 (cs.take i.shape.length) s)

/-- What does not vary. -/
def bs (s : S) (c : Nat) (W : List Nat) (dead : List Nat) : S :=
  { tm := fun t => match memN W t with | true => none | false => s.tm t
    hp := fun m => match Nat.blt m c with | true => (match memN dead m with | true => some .dead | false => s.hp m) | false => none }
/-- The blocks among the items. -/
def tblks (s : S) : List It → List Nat
  | [] => []
  | .blk t _ :: l => (match blkOf s t with | some (m, _) => m :: tblks s l | none => tblks s l)
  | _ :: l => tblks s l
/-- What a round begins with. -/
def stOf (s : S) (c : Nat) (W : List Nat) (dead : List Nat) (its : List It) (x : Tys (shapes its)) : S :=
  match putAll s its (ptL (shapes its) x c) (bs s c W (dead ++ tblks s its)) with
  | s1 => { s1 with hp := addNews c (bkL (shapes its) x) s1.hp }

/-- All names of a value. -/
def V.all : V → List Nat
  | .a (.c c) => c.names
  | .a (.agg cs) => cs.flatMap C.names
  | .tup l => l.flatMap fun a => match a with | .c c => c.names | .agg cs => cs.flatMap C.names
def allLt (c : Nat) (l : List Nat) : Bool := l.all fun m => Nat.blt m c

section
variable {P : Program} {G : GT} {N : Nat} {w0 : World} {ρ ρ' : Ren} {s s0 s1 : S} {a : Act} {w : World}

theorem C.rel_ren (hκ : ρ.κ.le ρ'.κ) (hc : ρ'.cl = ρ.cl) {c : C} {x : Value} (hm : ∀ m, m ∈ c.names → ρ' m = ρ m) (r : c.rel ρ x) : c.rel ρ' x := by
  cases c <;> simp only [C.rel] at r ⊢ <;> simp only [C.names] at hm <;> try exact r
  · obtain ⟨b, e, h⟩ := r; exact ⟨b, (hm _ (by simp)).trans e, h⟩
  · obtain ⟨b, e, h⟩ := r; exact ⟨b, (hm _ (by simp)).trans e, h⟩
  · obtain ⟨b, e, h⟩ := r; exact ⟨b, (hm _ (by simp)).trans e, h⟩
  · rename_i f caps
    obtain ⟨xs, e, h⟩ := r
    refine ⟨xs, ?_, h⟩
    clear h
    induction e with
    | nil => exact .nil
    | cons r0 rs ih =>
      obtain ⟨b, e, h⟩ := r0
      exact .cons ⟨b, (hm _ (by simp)).trans e, h⟩ (ih fun m hm' => hm m (by simp at hm' ⊢; exact .inr hm'))
  · exact D.rel_mono hκ _ _ r
  · obtain ⟨ad, h1, h2, h3⟩ := r
    exact ⟨ad, h1, h2, fun j hj => by obtain ⟨y, hy, hr⟩ := h3 j hj; exact ⟨y, hκ _ _ _ hy, D.rel_mono hκ _ _ hr⟩⟩
  · obtain ⟨b, e, h⟩ := r; exact ⟨b, (hm _ (by simp)).trans e, h⟩
  · exact ⟨by rw [hc]; exact r.1, r.2⟩
theorem f2_ren (hκ : ρ.κ.le ρ'.κ) (hc : ρ'.cl = ρ.cl) : ∀ {cs : List C} {xs : List Value}, (∀ m, m ∈ cs.flatMap C.names → ρ' m = ρ m) → F2 (C.rel ρ) cs xs → F2 (C.rel ρ') cs xs
  | _, _, _, .nil => .nil
  | _, _, hm, .cons r rs => .cons (C.rel_ren hκ hc (fun m h => hm m (by simp [h])) r) (f2_ren hκ hc (fun m h => hm m (by rw [List.flatMap_cons]; exact List.mem_append_right _ h)) rs)
theorem A.rel_ren (hκ : ρ.κ.le ρ'.κ) (hc : ρ'.cl = ρ.cl) {y : A} {x : Value} (hm : ∀ m, m ∈ V.all (.a y) → ρ' m = ρ m) (r : y.rel ρ x) : y.rel ρ' x := by
  cases y with
  | c c => exact C.rel_ren hκ hc hm r
  | agg cs => obtain ⟨xs, h, e⟩ := r; exact ⟨xs, f2_ren hκ hc hm h, e⟩
theorem V.rel_ren (hκ : ρ.κ.le ρ'.κ) (hc : ρ'.cl = ρ.cl) {v : V} {x : Value} (hm : ∀ m, m ∈ v.all → ρ' m = ρ m) (r : v.rel ρ x) : v.rel ρ' x := by
  cases v with
  | a y => exact A.rel_ren hκ hc hm r
  | tup l =>
    obtain ⟨ys, h, e⟩ := r
    refine ⟨ys, ?_, e⟩
    clear e
    induction h with
    | nil => exact .nil
    | @cons y _ _ _ r0 rs ih =>
      refine .cons (A.rel_ren hκ hc (fun m hm' => hm m ?_) r0) (ih fun m hm' => hm m ?_)
      · simp only [V.all, List.flatMap_cons]
        refine List.mem_append_left _ ?_
        cases y <;> exact hm'
      · simp only [V.all, List.flatMap_cons] at hm' ⊢
        exact List.mem_append_right _ hm'

/-- Slots and blocks, without what they are to each other. -/
structure Half (w0 : World) (N : Nat) (ρ : Ren) (s : S) (a : Act) (w : World) : Prop where
  tm : ∀ t v, s.tm t = some v → t < N ∧ v.rel ρ (a.tmps.getD t undef)
  hp : ∀ m k, s.hp m = some k → ∃ b, ρ m = some b ∧ b.1 < w.heap.size ∧ k.rel ρ b w ∧ w0.heap.size ≤ b.1

/-- A row's request. -/
theorem rd1_blk (h : Rel w0 N ρ s a w) (hκ : ρ.κ.le ρ'.κ) {cs : CS} {c : C} {x : cs.ty} {p : List Prop} {q : Option Req} (hr : rd1 s cs c = some (x, p, q)) (hp : All p) : ∀ r, q = some r →
    (∃ k, s.hp r.m = some k ∧ k.own = true) ∧ r.k.own = true ∧ ∀ b, ρ r.m = some b → r.k.rel ρ' (b.1, r.cap.getD b.2) w := by
  intro r hq
  subst hq
  unfold rd1 at hr
  split at hr
  case h_7 =>
    split at hr
    · rename_i m len m' n F p' hb
      simp only [Option.some.injEq, Prod.mk.injEq] at hr; obtain ⟨_, h2, h3⟩ := hr; subst h2 h3
      unfold baseOf at hb
      simp only at hb
      split at hb
      · rename_i hm
        split at hb
        · rename_i hok
          simp only [Option.some.injEq, Prod.mk.injEq] at hb
          obtain ⟨h1, h2, h3, _, h5⟩ := hb
          subst h1 h2 h3 h5
          simp only [Bool.and_eq_true] at hok
          have g1 := Nat.eq_of_beq_eq_true hok.1
          have g2 := Nat.eq_of_beq_eq_true hok.2
          subst g1 g2
          refine ⟨⟨_, hm, rfl⟩, rfl, fun b hb => ?_⟩
          obtain ⟨b', hb', _, hrel, _⟩ := h.hp _ _ hm
          rw [hb] at hb'; cases hb'
          obtain ⟨xs, q1, q2, q3, q4, q5⟩ := hrel
          refine ⟨xs, q1, q2, ?_, q4, fun i j hi hj => ?_⟩
          · simp only [Option.getD_none]; have := hp.1; omega
          · obtain ⟨y, hy, hr⟩ := q5 i j (by have := hp.1; omega) hj
            exact ⟨y, hy, D.rel_mono hκ _ _ hr⟩
        · cases hb
      · cases hb
    · cases hr
  case h_8 =>
    split at hr
    · rename_i m off n0 cap m' n F p' hb
      simp only [Option.some.injEq, Prod.mk.injEq] at hr; obtain ⟨_, h2, h3⟩ := hr; subst h2 h3
      unfold baseOf at hb
      split at hb
      · rename_i heq; cases heq
      · rename_i heq; cases heq
      · rename_i heq
        cases heq
        split at hb
        · rename_i hm
          split at hb
          · rename_i ds hds hok
            simp only [Option.some.injEq, Prod.mk.injEq] at hb
            obtain ⟨h1, h2, h3, _, h5⟩ := hb
            subst h1 h2 h3 h5
            simp only [Bool.and_eq_true] at hok
            have g1 := Nat.eq_of_beq_eq_true hok.1.1.1
            have g2 := Nat.eq_of_beq_eq_true hok.1.1.2
            have g3 := Nat.le_of_ble_eq_true hok.1.2
            have g4 := Nat.le_of_ble_eq_true hok.2
            subst g1
            refine ⟨⟨_, hm, rfl⟩, rfl, fun b hb => ?_⟩
            obtain ⟨b', hb', _, hrel, _⟩ := h.hp _ _ hm
            rw [hb] at hb'; cases hb'
            obtain ⟨xs, hf, hh⟩ := hrel
            have hl := f2_len hf
            refine ⟨xs, hh, by simp only [Option.getD_some]; omega, g3, by simp only [Option.getD_some, maxLen]; omega, fun i j hi hj => ?_⟩
            have hlt := el_lt hi hj
            have hle := Nat.lt_of_lt_of_le hlt (show _ ≤ xs.length by rw [← hl, g2]; exact Nat.mul_le_mul_right _ g3)
            obtain ⟨y, hy, hr⟩ := getD_rel (toDs_rel hds hf) hle
            exact ⟨y, hy, D.rel_mono hκ _ _ hr⟩
          · cases hb
        · cases hb
      · cases hb
    · cases hr
  case h_10 =>
    split at hr
    · rename_i m len m' n F p' hb
      simp only [Option.some.injEq, Prod.mk.injEq] at hr; obtain ⟨_, h2, h3⟩ := hr; subst h2 h3
      obtain ⟨hIs, hp⟩ := hp
      unfold baseOf at hb
      simp only at hb
      split at hb
      · rename_i hm
        split at hb
        · rename_i hok
          simp only [Option.some.injEq, Prod.mk.injEq] at hb
          obtain ⟨h1, h2, h3, _, h5⟩ := hb
          subst h1 h2 h3 h5
          simp only [Bool.and_eq_true] at hok
          have g1 := Nat.eq_of_beq_eq_true hok.1
          have g2 := Nat.eq_of_beq_eq_true hok.2
          subst g1 g2
          refine ⟨⟨_, hm, rfl⟩, rfl, fun b hb => ?_⟩
          obtain ⟨b', hb', _, hrel, _⟩ := h.hp _ _ hm
          rw [hb] at hb'; cases hb'
          obtain ⟨xs, q1, q2, q3, q4, q5⟩ := hrel
          refine ⟨xs, q1, q2, ?_, q4, fun i j hi hj => ?_⟩
          · rw [Enc.list_len]; simp only [Option.getD_none]; have := hp.1; omega
          · rw [Enc.list_len] at hi
            obtain ⟨y, hy, hr⟩ := q5 i j (by have := hp.1; omega) hj
            refine ⟨y, hy, D.rel_mono hκ _ _ ?_⟩
            have := D.eqv_rel (hIs i j hi hj) hr
            simp only [Enc.F]
            rw [Enc.list_get _ hi]; exact this
        · cases hb
      · cases hb
    · cases hr
  case h_11 =>
    split at hr
    · rename_i m off n0 cap m' n F p' hb
      simp only [Option.some.injEq, Prod.mk.injEq] at hr; obtain ⟨_, h2, h3⟩ := hr; subst h2 h3
      obtain ⟨hIs, hp⟩ := hp
      unfold baseOf at hb
      split at hb
      · rename_i heq; cases heq
      · rename_i heq; cases heq
      · rename_i heq
        cases heq
        split at hb
        · rename_i hm
          split at hb
          · rename_i ds hds hok
            simp only [Option.some.injEq, Prod.mk.injEq] at hb
            obtain ⟨h1, h2, h3, _, h5⟩ := hb
            subst h1 h2 h3 h5
            simp only [Bool.and_eq_true] at hok
            have g1 := Nat.eq_of_beq_eq_true hok.1.1.1
            have g2 := Nat.eq_of_beq_eq_true hok.1.1.2
            have g3 := Nat.le_of_ble_eq_true hok.1.2
            have g4 := Nat.le_of_ble_eq_true hok.2
            subst g1
            refine ⟨⟨_, hm, rfl⟩, rfl, fun b hb => ?_⟩
            obtain ⟨b', hb', _, hrel, _⟩ := h.hp _ _ hm
            rw [hb] at hb'; cases hb'
            obtain ⟨xs, hf, hh⟩ := hrel
            have hl := f2_len hf
            refine ⟨xs, hh, by simp only [Option.getD_some]; omega, by rw [Enc.list_len]; exact g3, by simp only [Option.getD_some, maxLen]; omega, fun i j hi hj => ?_⟩
            rw [Enc.list_len] at hi
            have hlt := el_lt hi hj
            have hle := Nat.lt_of_lt_of_le hlt (show _ ≤ xs.length by rw [← hl, g2]; exact Nat.mul_le_mul_right _ g3)
            obtain ⟨y, hy, hr⟩ := getD_rel (toDs_rel hds hf) hle
            refine ⟨y, hy, D.rel_mono hκ _ _ ?_⟩
            have := D.eqv_rel (hIs i j hi hj) hr
            simp only [Enc.F]
            rw [Enc.list_get _ hi]; exact this
          · cases hb
        · cases hb
      · cases hb
    · cases hr
  all_goals first
    | (simp only [Option.some.injEq, Prod.mk.injEq, reduceCtorEq, and_false] at hr; done)
    | (split at hr <;> simp only [Option.some.injEq, Prod.mk.injEq, reduceCtorEq, and_false] at hr; done)
    | cases hr

theorem rdL_blk (h : Rel w0 N ρ s a w) (hκ : ρ.κ.le ρ'.κ) : ∀ {l : List CS} {cs : List C} {x : Tys l} {p : List Prop} {q : List Req}, rdL s l cs = some (x, p, q) → All p → ∀ r, r ∈ q →
    (∃ k, s.hp r.m = some k ∧ k.own = true) ∧ r.k.own = true ∧ ∀ b, ρ r.m = some b → r.k.rel ρ' (b.1, r.cap.getD b.2) w := by
  intro l
  induction l with
  | nil =>
    intro cs x p q hr hp r hq
    cases cs with
    | nil => simp [rdL] at hr; obtain ⟨_, rfl⟩ := hr; cases hq
    | cons c k => simp [rdL] at hr
  | cons b l ih =>
    intro cs x p q hr hp r hq
    cases cs with
    | nil => simp [rdL] at hr
    | cons c k =>
      simp only [rdL] at hr
      split at hr
      · rename_i x1 p1 q1 y1 p2 q2 h1 h2
        simp only [Option.some.injEq, Prod.mk.injEq] at hr; obtain ⟨_, rfl, rfl⟩ := hr
        obtain ⟨hp1, hp2⟩ := All.append.1 hp
        rcases List.mem_append.1 hq with hq | hq
        · exact rd1_blk h hκ h1 hp1 r (by simpa using hq)
        · exact ih h2 hp2 r hq
      · cases hr
end
/-- What is checked where a loop begins: what does not vary names nothing that is not there. -/
def keepT (s : S) (c : Nat) (W : List Nat) : Nat → Bool
  | 0 => true
  | n + 1 => (memN W n || (match s.tm n with | some v => allLt c v.all | none => true)) && keepT s c W n
def keepH (s : S) (c : Nat) : Nat → Bool
  | 0 => true
  | n + 1 => (match s.hp n with | some (.known _ cs) => allLt c (cs.flatMap C.names) | _ => true) && keepH s c n
theorem keepT_at {s : S} {c : Nat} {W : List Nat} : ∀ {N t : Nat} {v : V}, keepT s c W N = true → t < N → memN W t = false → s.tm t = some v → ∀ m, m ∈ v.all → m < c := by
  intro N
  induction N with
  | zero => intro t v _ ht; omega
  | succ N ih =>
    intro t v h ht hw hv m hm
    simp only [keepT, Bool.and_eq_true, Bool.or_eq_true] at h
    rcases Nat.lt_or_ge t N with hlt | hge
    · exact ih h.2 hlt hw hv m hm
    · obtain rfl : t = N := by omega
      rcases h.1 with h1 | h1
      · rw [hw] at h1; cases h1
      · rw [hv] at h1
        simp only [allLt, List.all_eq_true, Nat.blt_eq] at h1
        exact h1 m hm
theorem keepH_at {s : S} {c : Nat} : ∀ {n m : Nat} {e : TypeId} {cs : List C}, keepH s c n = true → m < n → s.hp m = some (.known e cs) → ∀ j, j ∈ cs.flatMap C.names → j < c := by
  intro n
  induction n with
  | zero => intro m e cs _ hm; omega
  | succ n ih =>
    intro m e cs h hm hv j hj
    simp only [keepH, Bool.and_eq_true] at h
    rcases Nat.lt_or_ge m n with hlt | hge
    · exact ih h.2 hlt hv j hj
    · obtain rfl : m = n := by omega
      have h1 := h.1
      rw [hv] at h1
      simp only [allLt, List.all_eq_true, Nat.blt_eq] at h1
      exact h1 j hj

/-- The slots among the items are written, the pointers are not. -/
def itsOk (s : S) (c : Nat) (W : List Nat) : List It → Bool
  | [] => true
  | .slot t _ :: l => memN W t && itsOk s c W l
  | .agg t _ :: l => memN W t && itsOk s c W l
  | .blk t _ :: l => !memN W t && (match blkOf s t with | some (m, _) => Nat.blt m c | none => false) && itsOk s c W l

section
variable {P : Program} {G : GT} {N : Nat} {w0 : World} {ρ ρ' : Ren} {s s0 s1 : S} {a : Act} {w : World}

theorem blkOf_spec {s : S} {t m : Nat} {e : TypeId} (h : blkOf s t = some (m, e)) : s.tm t = some (.a (.c (.ptr m 0))) ∧ ∃ cs, s.hp m = some (.known e cs) := by
  unfold blkOf at h
  split at h
  · rename_i m' ht
    split at h
    · rename_i e' cs hm
      simp only [Option.some.injEq, Prod.mk.injEq] at h
      obtain ⟨rfl, rfl⟩ := h
      exact ⟨ht, cs, hm⟩
    · cases h
  · cases h

/-- One item laid. -/
theorem put_half (h : Rel w0 N ρ s1 a w) {i : It} {c : Nat} {W : List Nat} (hok : itsOk s0 c W [i] = true) {cs : List C} (hc : i.cells s0 s1 = some cs) (hnm : ∀ m, m < c → ρ' m = ρ m) {cs' : List C} (hcs : ∀ vs, F2 (C.rel ρ) cs vs → F2 (C.rel ρ') cs' vs)
    {s : S} (hs : Half w0 N ρ' s a w) : Half w0 N ρ' (i.put s0 cs' s) a w := by
  cases i with
  | slot t sh =>
    simp only [It.cells] at hc
    split at hc
    · rename_i x hx
      simp only [Option.some.injEq] at hc; subst hc
      obtain ⟨hlt, hr⟩ := h.tm t _ hx
      have := hcs [a.tmps.getD t undef] (.cons hr .nil)
      cases this with
      | cons r0 rs =>
        cases rs
        refine ⟨?_, hs.hp⟩
        intro t' v ht'
        simp only [It.put] at ht'
        by_cases e : t' = t
        · subst e
          rw [upd_same] at ht'; cases ht'
          exact ⟨hlt, r0⟩
        · rw [upd_ne _ _ e] at ht'
          exact hs.tm t' v ht'
    · cases hc
  | agg t sh =>
    simp only [It.cells] at hc
    split at hc
    · rename_i x hx
      split at hc
      · simp only [Option.some.injEq] at hc; subst hc
        obtain ⟨hlt, vs, hf, hv⟩ := h.tm t _ hx
        refine ⟨?_, hs.hp⟩
        intro t' v ht'
        simp only [It.put] at ht'
        by_cases e : t' = t
        · subst e
          rw [upd_same] at ht'; cases ht'
          exact ⟨hlt, vs, hcs vs hf, hv⟩
        · rw [upd_ne _ _ e] at ht'
          exact hs.tm t' v ht'
      · cases hc
    · cases hc
  | blk t sh =>
    simp only [It.cells] at hc
    simp only [itsOk, Bool.and_eq_true] at hok
    split at hc
    · rename_i m e hb
      rw [hb] at hok
      have hmc : m < c := by simpa [Nat.blt_eq] using hok.1.2
      split at hc
      · rename_i e' x hx
        split at hc
        · rename_i hee
          simp only [Bool.and_eq_true] at hee
          have := Nat.eq_of_beq_eq_true hee.1
          subst this
          simp only [Option.some.injEq] at hc; subst hc
          obtain ⟨b, g1, g2, ⟨vs, hf, hh⟩, g4⟩ := h.hp m _ hx
          refine ⟨?_, ?_⟩
          · intro t' v ht'
            simp only [It.put, hb] at ht'
            exact hs.tm t' v ht'
          · intro m' k hk
            simp only [It.put, hb] at hk
            by_cases e2 : m' = m
            · subst e2
              rw [upd_same] at hk; cases hk
              exact ⟨b, (hnm _ hmc).trans g1, g2, ⟨vs, hcs vs hf, hh⟩, g4⟩
            · rw [upd_ne _ _ e2] at hk
              exact hs.hp m' k hk
        · cases hc
      · cases hc
    · cases hc

theorem cells_len {i : It} {cs : List C} (hc : i.cells s0 s1 = some cs) : cs.length = i.shape.length := by
  cases i with
  | slot t sh =>
    simp only [It.cells] at hc
    split at hc
    · simp only [Option.some.injEq] at hc; subst hc; rfl
    · cases hc
  | agg t sh =>
    simp only [It.cells] at hc
    split at hc
    · split at hc
      · rename_i hb
        simp only [Option.some.injEq] at hc; subst hc
        exact Nat.eq_of_beq_eq_true hb
      · cases hc
    · cases hc
  | blk t sh =>
    simp only [It.cells] at hc
    split at hc
    · split at hc
      · split at hc
        · rename_i hb
          simp only [Bool.and_eq_true] at hb
          simp only [Option.some.injEq] at hc; subst hc
          exact Nat.eq_of_beq_eq_true hb.2
        · cases hc
      · cases hc
    · cases hc

theorem itsOk_cons {i : It} {l : List It} {c : Nat} {W : List Nat} (h : itsOk s0 c W (i :: l) = true) : itsOk s0 c W [i] = true ∧ itsOk s0 c W l = true := by
  cases i <;> simp only [itsOk, Bool.and_eq_true, and_true] at h ⊢
  · exact h
  · exact h
  · exact ⟨h.1, h.2⟩

theorem f2_split {α β : Type} {R : α → β → Prop} : ∀ {l l' : List α} {k : List β}, F2 R (l ++ l') k → ∃ k1 k2, k = k1 ++ k2 ∧ F2 R l k1 ∧ F2 R l' k2
  | [], _, k, h => ⟨[], k, rfl, .nil, h⟩
  | _ :: l, l', _, .cons r rs => by
    obtain ⟨k1, k2, e, h1, h2⟩ := f2_split rs
    exact ⟨_ :: k1, k2, by rw [e]; rfl, .cons r h1, h2⟩

/-- All items laid. -/
theorem putAll_half (h : Rel w0 N ρ s1 a w) {c : Nat} {W : List Nat} (hnm : ∀ m, m < c → ρ' m = ρ m) : ∀ {its : List It} {cs cs' : List C} {s : S}, itsOk s0 c W its = true → gather s0 s1 its = some cs → cs'.length = cs.length →
    (∀ vs, F2 (C.rel ρ) cs vs → F2 (C.rel ρ') cs' vs) → (∃ vs, F2 (C.rel ρ) cs vs) → Half w0 N ρ' s a w → Half w0 N ρ' (putAll s0 its cs' s) a w := by
  intro its
  induction its with
  | nil => intro cs cs' s _ _ _ _ _ hs; exact hs
  | cons i l ih =>
    intro cs cs' s hok hg hl hcs hex hs
    obtain ⟨o1, o2⟩ := itsOk_cons hok
    simp only [gather] at hg
    split at hg
    · rename_i x y hx hy
      simp only [Option.some.injEq] at hg; subst hg
      have hxl := cells_len hx
      obtain ⟨vs0, hv0⟩ := hex
      obtain ⟨k1, k2, rfl, f1, f2⟩ := f2_split hv0
      simp only [putAll]
      refine ih o2 hy ?_ ?_ ⟨k2, f2⟩ (put_half h o1 hx hnm ?_ hs)
      · simp only [List.length_append] at hl
        simp only [List.length_drop]; omega
      · intro vs hvs
        have := hcs (k1 ++ vs) (f2_append f1 hvs)
        have h2 := f2_drop this i.shape.length
        have e : (k1 ++ vs).drop i.shape.length = vs := List.drop_left' (by rw [← f2_len f1, hxl])
        rw [e] at h2; exact h2
      · intro vs hvs
        have := hcs (vs ++ k2) (f2_append hvs f2)
        have h2 := f2_take this i.shape.length
        have e : (vs ++ k2).take i.shape.length = vs := List.take_left' (by rw [← f2_len hvs, hxl])
        rw [e] at h2; exact h2
    · cases hg

theorem gather_vals (h : Rel w0 N ρ s1 a w) : ∀ {its : List It} {cs : List C}, gather s0 s1 its = some cs → ∃ vs, F2 (C.rel ρ) cs vs := by
  intro its
  induction its with
  | nil => intro cs hg; simp [gather] at hg; subst hg; exact ⟨[], .nil⟩
  | cons i l ih =>
    intro cs hg
    simp only [gather] at hg
    split at hg
    · rename_i x y hx hy
      simp only [Option.some.injEq] at hg; subst hg
      obtain ⟨k2, f2⟩ := ih hy
      have : ∃ k1, F2 (C.rel ρ) x k1 := by
        cases i with
        | slot t sh =>
          simp only [It.cells] at hx
          split at hx
          · rename_i z hz
            simp only [Option.some.injEq] at hx; subst hx
            exact ⟨_, .cons (h.tm t _ hz).2 .nil⟩
          · cases hx
        | agg t sh =>
          simp only [It.cells] at hx
          split at hx
          · rename_i z hz
            split at hx
            · simp only [Option.some.injEq] at hx; subst hx
              obtain ⟨_, vs, hf, _⟩ := h.tm t _ hz
              exact ⟨vs, hf⟩
            · cases hx
          · cases hx
        | blk t sh =>
          simp only [It.cells] at hx
          split at hx
          · split at hx
            · rename_i z hz
              split at hx
              · simp only [Option.some.injEq] at hx; subst hx
                obtain ⟨b, _, _, ⟨vs, hf, _⟩, _⟩ := h.hp _ _ hz
                exact ⟨vs, hf⟩
              · cases hx
            · cases hx
          · cases hx
      obtain ⟨k1, f1⟩ := this
      exact ⟨k1 ++ k2, f2_append f1 f2⟩
    · cases hg

theorem ptL_len : ∀ {l : List CS} {x : Tys l} {c : Nat}, (ptL l x c).length = l.length := by
  intro l
  induction l with
  | nil => intro x c; rfl
  | cons b l ih => intro x c; simp [ptL, ih]
theorem rdL_len {l : List CS} {cs : List C} {x : Tys l} {p : List Prop} {q : List Req} : rdL s l cs = some (x, p, q) → cs.length = l.length := by
  induction l generalizing cs p q with
  | nil =>
    intro h
    cases cs with
    | nil => rfl
    | cons c k => simp [rdL] at h
  | cons b l ih =>
    intro h
    cases cs with
    | nil => simp [rdL] at h
    | cons c k =>
      simp only [rdL] at h
      split at h
      · rename_i h1 h2
        simp [ih h2]
      · cases h

/-- The slots and blocks behind putAll. -/
theorem putAll_hp {m : Nat} : ∀ {its : List It} {cs : List C} {s : S}, (putAll s0 its cs s).hp m = s.hp m ∨ (m ∈ tblks s0 its ∧ ∃ e cs', (putAll s0 its cs s).hp m = some (.known e cs')) := by
  intro its
  induction its with
  | nil => intro cs s; exact .inl rfl
  | cons i l ih =>
    intro cs s
    simp only [putAll]
    cases i with
    | slot t sh =>
      rcases ih (cs := cs.drop (It.slot t sh).shape.length) (s := (It.slot t sh).put s0 (cs.take (It.slot t sh).shape.length) s) with h | ⟨h1, h2⟩
      · refine .inl (h.trans ?_)
        simp only [It.put]
        split <;> rfl
      · exact .inr ⟨by simpa [tblks] using h1, h2⟩
    | agg t sh =>
      rcases ih (cs := cs.drop (It.agg t sh).shape.length) (s := (It.agg t sh).put s0 (cs.take (It.agg t sh).shape.length) s) with h | ⟨h1, h2⟩
      · exact .inl h
      · exact .inr ⟨by simpa [tblks] using h1, h2⟩
    | blk t sh =>
      rcases ih (cs := cs.drop (It.blk t sh).shape.length) (s := (It.blk t sh).put s0 (cs.take (It.blk t sh).shape.length) s) with h | ⟨h1, h2⟩
      · cases hb : blkOf s0 t with
        | none =>
          have e0 : (It.blk t sh).put s0 (cs.take (It.blk t sh).shape.length) s = s := by simp only [It.put, hb]
          rw [e0] at h ⊢
          exact .inl h
        | some me =>
          obtain ⟨m', e⟩ := me
          have e0 : (It.blk t sh).put s0 (cs.take (It.blk t sh).shape.length) s = { s with hp := upd s.hp m' (some (.known e (cs.take (It.blk t sh).shape.length))) } := by simp only [It.put, hb]
          rw [e0] at h ⊢
          by_cases e1 : m = m'
          · subst e1
            simp only [upd_same] at h
            exact .inr ⟨by simp [tblks, hb], _, _, h⟩
          · simp only [upd_ne _ _ e1] at h
            exact .inl h
      · refine .inr ⟨?_, h2⟩
        simp only [tblks]
        split
        · exact List.mem_cons_of_mem _ h1
        · exact h1
end
end Go.V
end

section
/- The second engine, part 13: a loop's round begins with what it is said to begin with. -/
set_option linter.unusedVariables false
set_option linter.unusedSimpArgs false
namespace Go.V
open Go.RowKit (Below)

/-- The requests are of blocks of their own. -/
def nodupB : List Nat → Bool
  | [] => true
  | m :: l => !memN l m && nodupB l
theorem nodupB_at : ∀ {l : List Nat} {i j m : Nat}, nodupB l = true → l[i]? = some m → l[j]? = some m → i = j := by
  intro l
  induction l with
  | nil => intro i j m _ h; simp at h
  | cons x l ih =>
    intro i j m h hi hj
    simp only [nodupB, Bool.and_eq_true, Bool.not_eq_true'] at h
    have hx : x ∉ l := by
      intro hm
      have := memN_iff.2 hm
      rw [h.1] at this; cases this
    cases i with
    | zero =>
      cases j with
      | zero => rfl
      | succ j =>
        simp at hi hj; subst hi
        exact absurd (List.mem_of_getElem? hj) hx
    | succ i =>
      cases j with
      | zero =>
        simp at hi hj; subst hj
        exact absurd (List.mem_of_getElem? hi) hx
      | succ j => exact congrArg (· + 1) (ih h.2 (by simpa using hi) (by simpa using hj))

section
variable {P : Program} {G : GT} {N : Nat} {w0 : World} {ρ : Ren} {s s0 s1 : S} {a : Act} {w : World}

theorem gather_tblk : ∀ {its : List It} {cs : List C} {m : Nat}, gather s0 s1 its = some cs → m ∈ tblks s0 its → ∃ e cs', s1.hp m = some (.known e cs') := by
  intro its
  induction its with
  | nil => intro cs m _ h; simp [tblks] at h
  | cons i l ih =>
    intro cs m hg hm
    simp only [gather] at hg
    split at hg
    · rename_i x y hx hy
      cases i with
      | slot t sh => exact ih hy (by simpa [tblks] using hm)
      | agg t sh => exact ih hy (by simpa [tblks] using hm)
      | blk t sh =>
        simp only [It.cells] at hx
        simp only [tblks] at hm
        split at hx
        · rename_i m' e hb
          rw [hb] at hm
          simp only [List.mem_cons] at hm
          split at hx
          · rename_i e' cs' hc
            rcases hm with rfl | hm
            · exact ⟨_, _, hc⟩
            · exact ih hy hm
          · cases hx
        · cases hx
    · cases hg

theorem tblks_lt {c : Nat} {W : List Nat} : ∀ {its : List It} {m : Nat}, itsOk s0 c W its = true → m ∈ tblks s0 its → m < c := by
  intro its
  induction its with
  | nil => intro m _ h; simp [tblks] at h
  | cons i l ih =>
    intro m hok hm
    cases i with
    | slot t sh => simp only [itsOk, Bool.and_eq_true] at hok; exact ih hok.2 (by simpa [tblks] using hm)
    | agg t sh => simp only [itsOk, Bool.and_eq_true] at hok; exact ih hok.2 (by simpa [tblks] using hm)
    | blk t sh =>
      simp only [itsOk, Bool.and_eq_true] at hok
      simp only [tblks] at hm
      split at hm
      · rename_i m' e hb
        rw [hb] at hok
        rcases List.mem_cons.1 hm with rfl | hm
        · simpa [Nat.blt_eq] using hok.1.2
        · exact ih hok.2 hm
      · exact ih hok.2 hm

theorem stOf_tm {c : Nat} {W dead : List Nat} {its : List It} {x : Tys (shapes its)} : (stOf s0 c W dead its x).tm = (putAll s0 its (ptL (shapes its) x c) (bs s0 c W (dead ++ tblks s0 its))).tm := rfl

/-- The blocks that a round begins with. -/
theorem stOf_hp_lt {c : Nat} {W dead : List Nat} {its : List It} {x : Tys (shapes its)} {m : Nat} (hm : m < c) :
    ((stOf s0 c W dead its x).hp m = (match memN (dead ++ tblks s0 its) m with | true => some .dead | false => s0.hp m)) ∨ (m ∈ tblks s0 its ∧ ∃ e cs, (stOf s0 c W dead its x).hp m = some (.known e cs)) := by
  have e1 : (stOf s0 c W dead its x).hp m = (putAll s0 its (ptL (shapes its) x c) (bs s0 c W (dead ++ tblks s0 its))).hp m := by
    simp only [stOf]; exact addNews_out (.inl hm)
  rw [e1]
  rcases putAll_hp (s0 := s0) (m := m) (its := its) (cs := ptL (shapes its) x c) (s := bs s0 c W (dead ++ tblks s0 its)) with h | ⟨h1, h2⟩
  · left
    rw [h]
    have : Nat.blt m c = true := by rw [Nat.blt_eq]; exact hm
    simp only [bs, this] <;> rfl
  · exact .inr ⟨h1, h2⟩
theorem stOf_hp_ge {c : Nat} {W dead : List Nat} {its : List It} {x : Tys (shapes its)} {m : Nat} (hok : itsOk s0 c W its = true) (hm : c ≤ m) : (stOf s0 c W dead its x).hp m = (bkL (shapes its) x)[m - c]? := by
  by_cases hin : m < c + (bkL (shapes its) x).length
  · have := addNews_in (c := c) (bs := bkL (shapes its) x) (h := (putAll s0 its (ptL (shapes its) x c) (bs s0 c W (dead ++ tblks s0 its))).hp) (i := m - c) (by omega)
    rw [show c + (m - c) = m by omega] at this
    exact this
  · have e1 : (stOf s0 c W dead its x).hp m = (putAll s0 its (ptL (shapes its) x c) (bs s0 c W (dead ++ tblks s0 its))).hp m := by
      simp only [stOf]; exact addNews_out (.inr (by omega))
    rw [e1, List.getElem?_eq_none (by omega)]
    rcases putAll_hp (s0 := s0) (m := m) (its := its) (cs := ptL (shapes its) x c) (s := bs s0 c W (dead ++ tblks s0 its)) with h | ⟨h1, _⟩
    · rw [h]
      have : Nat.blt m c = false := by rw [← Bool.not_eq_true, Nat.blt_eq]; omega
      simp only [bs, this]
    · have := tblks_lt hok h1; omega

/-- What is kept of the surroundings. -/
structure Ren.up (ρ ρ' : Ren) : Prop where
  κ : ρ.κ.le ρ'.κ
  cl : ρ'.cl = ρ.cl
  k0 : ρ'.k0 = ρ.k0
theorem Ren.up_refl (ρ : Ren) : ρ.up ρ := ⟨fun _ _ _ h => h, rfl, rfl⟩
theorem Ren.up_trans {a b c : Ren} (h : a.up b) (k : b.up c) : a.up c := ⟨fun x y z e => k.κ x y z (h.κ x y z e), k.cl.trans h.cl, k.k0.trans h.k0⟩
theorem Ren.le.up {a b : Ren} (h : a.le b) : a.up b := ⟨h.κ, h.cl, h.k0⟩

theorem reload (h : Rel w0 N ρ s1 a w) {c : Nat} {W dead : List Nat} {its : List It} (hok : itsOk s0 c W its = true) (hkT : keepT s0 c W N = true) (hkH : keepH s0 c c = true) (hdt : ∀ m, m ∈ dead → m ∉ tblks s0 its)
    (hT : ∀ t, memN W t = false → s1.tm t = s0.tm t) (hH : ∀ m, m < c → memN dead m = false → m ∉ tblks s0 its → s1.hp m = s0.hp m) (hHd : ∀ m, m < c → memN dead m = true → s1.hp m ≠ none)
    {cs : List C} (hg : gather s0 s1 its = some cs) {x : Tys (shapes its)} {p : List Prop} {q : List Req} (hr : rdL s1 (shapes its) cs = some (x, p, q)) (hp : All p)
    (hnd : nodupB (q.map (·.m)) = true) (hqm : ∀ r, r ∈ q → c ≤ r.m ∨ r.m ∈ dead) :
    ∃ ρ', Rel w0 N ρ' (stOf s0 c W dead its x) a w ∧ ρ.up ρ' := by
  obtain ⟨ρ', hρ'⟩ : ∃ ρ' : Ren, ρ' = { nm := fun m => if m < c then ρ m else (q[m - c]?).bind fun r => (ρ r.m).map fun b => (b.1, r.cap.getD b.2), κ := ρ.κ, cl := ρ.cl, k0 := ρ.k0 } := ⟨_, rfl⟩
  have hκ : ρ'.κ = ρ.κ := by rw [hρ']
  have hcl : ρ'.cl = ρ.cl := by rw [hρ']
  have hk0 : ρ'.k0 = ρ.k0 := by rw [hρ']
  have hlt : ∀ m, m < c → ρ' m = ρ m := by intro m hm; rw [hρ']; show (if m < c then ρ m else _) = _; rw [if_pos hm]
  have hge : ∀ m, c ≤ m → ρ' m = (q[m - c]?).bind fun r => (ρ r.m).map fun b => (b.1, r.cap.getD b.2) := by
    intro m hm; rw [hρ']
    show (if m < c then ρ m else _) = _
    rw [if_neg (by omega)]
  have hκle : ρ.κ.le ρ'.κ := by rw [hκ]; exact fun _ _ _ h => h
  obtain ⟨q1, q2⟩ := rdL_req hr
  have hmet : Met ρ ρ' c q := by
    intro i r hi b hb
    rw [hge _ (by omega), show c + i - c = i by omega, hi]
    simp [hb]
  have hblk := rdL_blk h hκle hr hp
  -- the half
  have base : Half w0 N ρ' (bs s0 c W (dead ++ tblks s0 its)) a w := by
    refine ⟨?_, ?_⟩
    · intro t v ht
      simp only [bs] at ht
      split at ht
      · cases ht
      · rename_i hw
        obtain ⟨g1, g2⟩ := h.tm t v (by rw [hT t hw]; exact ht)
        exact ⟨g1, V.rel_ren hκle hcl (fun m hm => hlt m (keepT_at hkT g1 hw ht m hm)) g2⟩
    · intro m k hk
      simp only [bs] at hk
      split at hk
      · rename_i hmc
        have hmc' : m < c := by simpa [Nat.blt_eq] using hmc
        split at hk
        · rename_i hd
          cases hk
          have hne : s1.hp m ≠ none := by
            rcases List.mem_append.1 (memN_iff.1 hd) with h1 | h1
            · exact hHd m hmc' (memN_iff.2 h1)
            · obtain ⟨e, cs', hs⟩ := gather_tblk hg h1
              rw [hs]; simp
          cases hs : s1.hp m with
          | none => exact absurd hs hne
          | some k0 =>
            obtain ⟨b, g1, g2, _, g4⟩ := h.hp m k0 hs
            exact ⟨b, (hlt m hmc').trans g1, g2, trivial, g4⟩
        · rename_i hd
          have hd' : m ∉ dead ++ tblks s0 its := fun hm => by rw [memN_iff.2 hm] at hd; cases hd
          simp only [List.mem_append, not_or] at hd'
          have hs : s1.hp m = some k := (hH m hmc' (by rw [← Bool.not_eq_true]; exact fun e => hd'.1 (memN_iff.1 e)) hd'.2).trans hk
          obtain ⟨b, g1, g2, g3, g4⟩ := h.hp m k hs
          refine ⟨b, (hlt m hmc').trans g1, g2, ?_, g4⟩
          cases k with
          | known e cs' =>
            obtain ⟨xs, hf, hh⟩ := g3
            exact ⟨xs, f2_ren hκle hcl (fun j hj => hlt j (keepH_at hkH hmc' hk j hj)) hf, hh⟩
          | row e st len F => rw [show (Blk.row e st len F).rel ρ' b w = (Blk.row e st len F).rel ρ b w by simp only [Blk.rel, hκ]]; exact g3
          | fz st len F => rw [show (Blk.fz st len F).rel ρ' b w = (Blk.fz st len F).rel ρ b w by simp only [Blk.rel, hκ]]; exact g3
          | dead => trivial
      · cases hk
  have half := putAll_half h hlt hok hg (by rw [ptL_len, rdL_len hr]) (fun vs hvs => rdL_rel hκle hr hmet hvs) (gather_vals h hg) base
  -- what an own block of the new state was
  have origin : ∀ m k b, (stOf s0 c W dead its x).hp m = some k → k.own = true → ρ' m = some b → ∃ mo ko bo, s1.hp mo = some ko ∧ ko.own = true ∧ ρ mo = some bo ∧ bo.1 = b.1 ∧
      ((m < c ∧ mo = m ∧ m ∉ dead) ∨ (c ≤ m ∧ ∃ r, q[m - c]? = some r ∧ mo = r.m)) := by
    intro m k b hm ho hb
    by_cases hmc : m < c
    · rcases stOf_hp_lt (s0 := s0) (c := c) (W := W) (dead := dead) (its := its) (x := x) hmc with h1 | ⟨h1, e, cs', h2⟩
      · rw [h1] at hm
        split at hm
        · cases hm; cases ho
        · rename_i hd
          have hd' : m ∉ dead ++ tblks s0 its := fun hm => by rw [memN_iff.2 hm] at hd; cases hd
          simp only [List.mem_append, not_or] at hd'
          have hs : s1.hp m = some k := (hH m hmc (by rw [← Bool.not_eq_true]; exact fun e => hd'.1 (memN_iff.1 e)) hd'.2).trans hm
          exact ⟨m, k, b, hs, ho, (hlt m hmc).symm.trans hb, rfl, .inl ⟨hmc, rfl, hd'.1⟩⟩
      · obtain ⟨e1, cs1, hs⟩ := gather_tblk hg h1
        exact ⟨m, _, b, hs, rfl, (hlt m hmc).symm.trans hb, rfl, .inl ⟨hmc, rfl, fun hd => hdt m hd h1⟩⟩
    · have hge' : c ≤ m := by omega
      rw [hge m hge'] at hb
      cases hqr : q[m - c]? with
      | none => rw [hqr] at hb; cases hb
      | some r =>
        rw [hqr] at hb
        simp only [Option.bind_some, Option.map_eq_some_iff] at hb
        obtain ⟨b0, hb0, rfl⟩ := hb
        obtain ⟨⟨k0, g1, g2⟩, _⟩ := hblk r (List.mem_of_getElem? hqr)
        exact ⟨r.m, k0, b0, g1, g2, hb0, rfl, .inr ⟨hge', r, rfl, rfl⟩⟩
  refine ⟨ρ', ⟨h.sz, h.bel, h.df, ?_, ?_, ?_, ?_, ?_, ?_, ?_⟩, ⟨hκle, hcl, hk0⟩⟩
  · intro t v ht
    exact half.tm t v ht
  · intro m hm
    by_cases hmc : m < c
    · rw [hlt m hmc]
      rcases stOf_hp_lt (s0 := s0) (c := c) (W := W) (dead := dead) (its := its) (x := x) hmc with h1 | ⟨_, e, cs', h2⟩
      · rw [h1] at hm
        split at hm
        · cases hm
        · rename_i hd
          have hd' : m ∉ dead ++ tblks s0 its := fun hm => by rw [memN_iff.2 hm] at hd; cases hd
          simp only [List.mem_append, not_or] at hd'
          exact h.dom m ((hH m hmc (by rw [← Bool.not_eq_true]; exact fun e => hd'.1 (memN_iff.1 e)) hd'.2).trans hm)
      · rw [h2] at hm; cases hm
    · rw [stOf_hp_ge hok (by omega), q2, List.getElem?_map] at hm
      rw [hge m (by omega)]
      cases hqr : q[m - c]? with
      | none => rfl
      | some r => rw [hqr] at hm; cases hm
  · intro m k hm
    by_cases hmc : m < c
    · refine half.hp m k ?_
      rw [← hm]
      simp only [stOf]; exact (addNews_out (.inl hmc)).symm
    · rw [stOf_hp_ge hok (by omega), q2, List.getElem?_map] at hm
      cases hqr : q[m - c]? with
      | none => rw [hqr] at hm; cases hm
      | some r =>
        rw [hqr] at hm
        simp only [Option.map_some, Option.some.injEq] at hm
        subst hm
        obtain ⟨⟨k0, g1, g2⟩, _, g3⟩ := hblk r (List.mem_of_getElem? hqr)
        obtain ⟨b, i1, i2, _, i4⟩ := h.hp _ _ g1
        exact ⟨(b.1, r.cap.getD b.2), by rw [hge m (by omega), hqr]; simp [i1], i2, g3 b i1, i4⟩
  · intro m m' k k' b b' hm hm' ok ok' hb hb' hne
    obtain ⟨mo, ko, bo, g1, g2, g3, g4, g5⟩ := origin m k b hm ok hb
    obtain ⟨mo', ko', bo', j1, j2, j3, j4, j5⟩ := origin m' k' b' hm' ok' hb'
    rw [← g4, ← j4]
    refine h.inj mo mo' ko ko' bo bo' g1 j1 g2 j2 g3 j3 ?_
    rcases g5 with ⟨e1, rfl, e2⟩ | ⟨e1, r, e2, rfl⟩ <;> rcases j5 with ⟨f1, rfl, f2⟩ | ⟨f1, r', f2, rfl⟩
    · exact hne
    · rcases hqm r' (List.mem_of_getElem? f2) with h1 | h1
      · omega
      · intro e; rw [e] at e2; exact e2 h1
    · rcases hqm r (List.mem_of_getElem? e2) with h1 | h1
      · omega
      · intro e; rw [← e] at f2; exact f2 h1
    · intro e
      have := nodupB_at hnd (i := m - c) (j := m' - c) (m := r.m) (by simp [e2]) (by simp [f2, e])
      omega
  · rw [hκ]; exact h.im
  · intro m k b o hm ok hb
    obtain ⟨mo, ko, bo, g1, g2, g3, g4, g5⟩ := origin m k b hm ok hb
    rw [hκ, ← g4]
    exact h.dis mo ko bo o g1 g2 g3
  · rw [hκ, hk0]; exact h.old
end
end Go.V
end

section
/- The second engine, part 14: code. -/
set_option linter.unusedVariables false
set_option linter.unusedSimpArgs false
namespace Go.V
open Go.RowKit (Below)

inductive Ex where
  | normal
  | exit (id : Nat)
  | ret

abbrev St3 := Ex × Nat × S

def setO (orc : Nat → Option Bool) (k : Nat) (b : Bool) : Nat → Option Bool := upd orc k (some b)

/-- All slots that code may write. -/
def dsts : Code → List Nat
  | .region _ ops _ => ops.toList.filterMap (·.dst)
  | .seq x y => dsts x ++ dsts y
  | .cond _ y z => dsts y ++ dsts z
  | .block _ x => dsts x
  | .loop x => dsts x
  | _ => []
/-- The number of its first region: a loop's name. -/
def firstId : Code → Option Nat
  | .region id _ _ => some id
  | .seq x y => (match firstId x with | some i => some i | none => firstId y)
  | .cond _ y z => (match firstId y with | some i => some i | none => firstId z)
  | .block _ x => firstId x
  | .loop x => firstId x
  | _ => none

/-- What varies in loops, by their names: one shape, or two. -/
abbrev An := List (Nat × List It × Option (List It))
def anOf : An → Option Nat → Option (List It × Option (List It))
  | [], _ => none
  | (k, a) :: l, i => (match i with | some j => (match Nat.beq k j with | true => some a | false => anOf l i) | none => none)

/-- Where a loop begins. -/
def enter (N c : Nat) (s : S) (W : List Nat) (its : List It) : Option (Tys (shapes its) × List Prop × List Nat) :=
  match gather s s its with
  | some cs => (match rdL s (shapes its) cs with
    | some (x, p, q) => (match itsOk s c W its && keepT s c W N && keepH s c c && nodupB (q.map (·.m)) && (q.all fun r => Nat.blt r.m c && !memN (tblks s its) r.m) with
      | true => some (x, p, q.map (·.m))
      | false => none)
    | none => none)
  | none => none
/-- Where a round begins again. -/
def again (c : Nat) (s0 s1 : S) (its : List It) : Option (Tys (shapes its) × List Prop) :=
  match gather s0 s1 its with
  | some cs => (match rdL s1 (shapes its) cs with
    | some (x, p, q) => (match nodupB (q.map (·.m)) && (q.all fun r => Nat.ble c r.m) with
      | true => some (x, p)
      | false => none)
    | none => none)
  | none => none

section
variable (P : Program) (G : GT) (N : Nat) (sg : FuncId → Option Sm) (an : An)

def rtree (ops : Array Oper) (draw : Bool) (wk : Nat → Bool) (c : Nat) (s : S) : Nat → (Nat → Option Bool) → T St3
  | 0, _ => .fail
  | fuel + 1, orc =>
    match rrun P G N sg wk ops orc ops.toList 0 c s with
    | .done L s' c' p => (match !draw || anyOk ops L with | true => T.needs p (.ret (.normal, c', s')) | false => .fail)
    | .ask k b => .br b (rtree ops draw wk c s fuel (setO orc k true)) (rtree ops draw wk c s fuel (setO orc k false))
    | .fail => .fail

def loopN (f : Nat → S → T St3) : Nat → Nat → S → T St3
  | 0, _, _ => .fail
  | n + 1, c, s => (f c s).bind fun r => match r with
    | (.normal, c', s') => loopN f n c' s'
    | r => .ret r

/-- Whether a loop's blocks may be written here. -/
def mayWr (wk : Nat → Bool) (s : S) (its : List It) (dead : List Nat) : Bool := (dead ++ tblks s its).all wk
def wkIn (c : Nat) (s : S) (its : List It) (m : Nat) : Bool := Nat.ble c m || memN (tblks s its) m

/-- A round's end. -/
def roundEnd (c : Nat) (s0 : S) (its : List It) : St3 → T (Tys (shapes its) ⊕ St3)
  | (.normal, _, s') => (match again c s0 s' its with | some (y, p) => T.needs p (.ret (.inl y)) | none => .fail)
  | r => .ret (.inr r)
def roundEnd2 (c : Nat) (s0 : S) (i1 i2 : List It) : St3 → T ((Tys (shapes i1) ⊕ Tys (shapes i2)) ⊕ St3)
  | (.normal, _, s') => (match again c s0 s' i1 with
    | some (y, p) => T.needs p (.ret (.inl (.inl y)))
    | none => (match again c s0 s' i2 with
      | some (y, p) => T.needs p (.ret (.inl (.inr y)))
      | none => .fail))
  | r => .ret (.inr r)

def exec (fuel : Nat) : Code → (Nat → Bool) → Nat → S → T St3
  | .skip, _, c, s => .ret (.normal, c, s)
  | .region _ ops draw, wk, c, s => rtree P G N sg ops draw wk c s fuel (fun _ => none)
  | .seq x y, wk, c, s => (exec fuel x wk c s).bind fun r => match r with
    | (.normal, c', s') => exec fuel y wk c' s'
    | r => .ret r
  | .cond x y z, wk, c, s => (match look G s x with
    | some (.a (.c (.lit true))) => exec fuel y wk c s
    | some (.a (.c (.lit false))) => exec fuel z wk c s
    | some (.a (.c (.bool b))) => .br b (exec fuel y wk c s) (exec fuel z wk c s)
    | _ => .fail)
  | .block id x, wk, c, s => (exec fuel x wk c s).bind fun r => match r with
    | (.exit i, c', s') => (match Nat.beq i id with | true => .ret (.normal, c', s') | false => .ret (.exit i, c', s'))
    | r => .ret r
  | .loop x, wk, c, s => (match anOf an (firstId x) with
    | none => loopN (exec fuel x wk) fuel c s
    | some (i1, none) => (match enter N c s (dsts x) i1 with
      | some (x0, p, dead) => (match mayWr wk s i1 dead with
        | true => T.needs p (.loop (Tys (shapes i1)) x0 fun y =>
            (exec fuel x (wkIn c s i1) (c + nL (shapes i1)) (stOf s c (dsts x) dead i1 y)).bind (roundEnd c s i1))
        | false => .fail)
      | none => .fail)
    | some (i1, some i2) => (match enter N c s (dsts x) i1 with
      | some (x0, p, dead) => (match mayWr wk s i1 dead && itsOk s c (dsts x) i2 && ((tblks s i2).all (memN (tblks s i1)) && (tblks s i1).all (memN (tblks s i2))) with
        | true => T.needs p (.loop2 (Tys (shapes i1)) (Tys (shapes i2)) (.inl x0)
            (fun y => (exec fuel x (wkIn c s i1) (c + nL (shapes i1)) (stOf s c (dsts x) dead i1 y)).bind (roundEnd2 c s i1 i2))
            (fun y => (exec fuel x (wkIn c s i1) (c + nL (shapes i2)) (stOf s c (dsts x) dead i2 y)).bind (roundEnd2 c s i1 i2)))
        | false => .fail)
      | none => .fail))
  | .exit id, _, c, s => .ret (.exit id, c, s)
  | .ret, _, c, s => .ret (.ret, c, s)
  | _, _, _, _ => .fail

end
section
variable {P : Program} {G : GT} {N : Nat} {sg : FuncId → Option Sm} {an : An} {gw : World → Prop} {w0 : World} {rr : Option Nat} {s s0 : S}

theorem putAll_tm {t : Nat} {c : Nat} {W : List Nat} (ht : memN W t = false) : ∀ {its : List It} {cs : List C} {s : S}, itsOk s0 c W its = true → (putAll s0 its cs s).tm t = s.tm t := by
  intro its
  induction its with
  | nil => intro cs s _; rfl
  | cons i l ih =>
    intro cs s hok
    simp only [putAll]
    obtain ⟨o1, o2⟩ := itsOk_cons hok
    rw [ih o2]
    cases i with
    | slot t' sh =>
      simp only [itsOk, Bool.and_eq_true] at o1
      have hne : t ≠ t' := fun e => by rw [e, o1.1] at ht; cases ht
      simp only [It.put]
      split
      · exact upd_ne _ _ hne
      · rfl
    | agg t' sh =>
      simp only [itsOk, Bool.and_eq_true] at o1
      have hne : t ≠ t' := fun e => by rw [e, o1.1] at ht; cases ht
      simp only [It.put]
      exact upd_ne _ _ hne
    | blk t' sh =>
      simp only [It.put]
      split <;> rfl
theorem stOf_keepT {c : Nat} {W dead : List Nat} {its : List It} {x : Tys (shapes its)} (hok : itsOk s0 c W its = true) {t : Nat} (ht : memN W t = false) : (stOf s0 c W dead its x).tm t = s0.tm t := by
  rw [stOf_tm, putAll_tm ht hok]
  simp only [bs, ht]
theorem stOf_keepH {c : Nat} {W dead : List Nat} {its : List It} {x : Tys (shapes its)} {m : Nat} (hm : m < c) (hd : memN dead m = false) (htb : m ∉ tblks s0 its) : (stOf s0 c W dead its x).hp m = s0.hp m := by
  rcases stOf_hp_lt (s0 := s0) (c := c) (W := W) (dead := dead) (its := its) (x := x) hm with h | ⟨h, _⟩
  · rw [h]
    have : memN (dead ++ tblks s0 its) m = false := by
      rw [← Bool.not_eq_true, memN_iff, List.mem_append, not_or]
      exact ⟨(fun h => by rw [memN_iff.2 h] at hd; cases hd), htb⟩
    rw [this]
  · exact absurd h htb
theorem stOf_dead {c : Nat} {W dead : List Nat} {its : List It} {x : Tys (shapes its)} {m : Nat} (hm : m < c) (hd : memN dead m = true) : (stOf s0 c W dead its x).hp m ≠ none := by
  rcases stOf_hp_lt (s0 := s0) (c := c) (W := W) (dead := dead) (its := its) (x := x) hm with h | ⟨_, e, cs, h⟩
  · rw [h]
    have : memN (dead ++ tblks s0 its) m = true := memN_iff.2 (List.mem_append_left _ (memN_iff.1 hd))
    rw [this]; simp
  · rw [h]; simp

/-- What code leaves as it was. -/
def Keeps (c : Nat) (s : S) (wk : Nat → Bool) (D : List Nat) (r : St3) : Prop :=
  c ≤ r.2.1 ∧ (∀ t, memN D t = false → r.2.2.tm t = s.tm t) ∧ (∀ m, m < c → wk m = false → r.2.2.hp m = s.hp m)
theorem Keeps.refl (c : Nat) (s : S) (wk : Nat → Bool) (D : List Nat) (e : Ex) : Keeps c s wk D (e, c, s) := ⟨Nat.le_refl _, fun _ _ => rfl, fun _ _ _ => rfl⟩
theorem memN_append {l k : List Nat} {t : Nat} (h : memN (l ++ k) t = false) : memN l t = false ∧ memN k t = false := by
  constructor <;>
  · rw [← Bool.not_eq_true, memN_iff]
    intro hm
    have : memN (l ++ k) t = true := memN_iff.2 (by simp [hm])
    rw [h] at this; cases this
theorem Keeps.trans {c c' : Nat} {s s' : S} {wk : Nat → Bool} {D D' : List Nat} {e : Ex} {r : St3} (h : Keeps c s wk D (e, c', s')) (k : Keeps c' s' wk D' r) : Keeps c s wk (D ++ D') r :=
  ⟨Nat.le_trans h.1 k.1, fun t ht => (k.2.1 t (memN_append ht).2).trans (h.2.1 t (memN_append ht).1), fun m hm hw => (k.2.2 m (Nat.lt_of_lt_of_le hm h.1) hw).trans (h.2.2 m hm hw)⟩
theorem Keeps.wider {c : Nat} {s : S} {wk : Nat → Bool} {D D' : List Nat} {r : St3} (h : Keeps c s wk D r) (hD : ∀ t, memN D' t = false → memN D t = false) : Keeps c s wk D' r :=
  ⟨h.1, fun t ht => h.2.1 t (hD t ht), h.2.2⟩

theorem rtree_keeps {id : Nat} {ops : Array Oper} {draw : Bool} {wk : Nat → Bool} {c : Nat} {s : S} : ∀ {fuel : Nat} {orc : Nat → Option Bool}, (rtree P G N sg ops draw wk c s fuel orc).all (Keeps c s wk (dsts (.region id ops draw))) := by
  intro fuel
  induction fuel with
  | zero => intro orc; trivial
  | succ fuel ih =>
    intro orc
    simp only [rtree]
    split
    · rename_i L s' c' p hr
      split
      · refine T.all_needs ?_
        obtain ⟨h1, h2, h3⟩ := rrun_keeps hr
        refine ⟨h1, fun t ht => h2 t fun o ho hd => ?_, h3⟩
        have : memN (dsts (.region id ops draw)) t = true := memN_iff.2 (by simp only [dsts, List.mem_filterMap]; exact ⟨o, ho, hd⟩)
        rw [ht] at this; cases this
      · trivial
    · exact ⟨ih, ih⟩
    · trivial

theorem round_keeps {c : Nat} {s : S} {wk : Nat → Bool} {W dead : List Nat} {its : List It} {x : Tys (shapes its)} (hok : itsOk s c W its = true) (hw : mayWr wk s its dead = true) {n : Nat} {r : St3}
    (h : Keeps (c + n) (stOf s c W dead its x) (wkIn c s its) W r) : Keeps c s wk W r := by
  obtain ⟨h1, h2, h3⟩ := h
  refine ⟨by omega, fun t ht => (h2 t ht).trans (stOf_keepT hok ht), fun m hm hwm => ?_⟩
  have hnot : m ∉ dead ++ tblks s its := by
    intro hmem
    have := List.all_eq_true.1 hw m hmem
    rw [hwm] at this; cases this
  simp only [List.mem_append, not_or] at hnot
  rw [h3 m (by omega), stOf_keepH hm (by rw [← Bool.not_eq_true, memN_iff]; exact hnot.1) hnot.2]
  simp only [wkIn, Bool.or_eq_false_iff]
  exact ⟨by rw [← Bool.not_eq_true, Nat.ble_eq]; omega, by rw [← Bool.not_eq_true, memN_iff]; exact hnot.2⟩

theorem wkIn_congr {c : Nat} {s : S} {i1 i2 : List It} (h1 : (tblks s i2).all (memN (tblks s i1)) = true) (h2 : (tblks s i1).all (memN (tblks s i2)) = true) : wkIn c s i1 = wkIn c s i2 := by
  funext m
  simp only [wkIn]
  congr 1
  rw [Bool.eq_iff_iff, memN_iff, memN_iff]
  exact ⟨fun h => memN_iff.1 (List.all_eq_true.1 h2 m h), fun h => memN_iff.1 (List.all_eq_true.1 h1 m h)⟩
theorem mayWr_congr {wk : Nat → Bool} {s : S} {i1 i2 : List It} {dead : List Nat} (h1 : (tblks s i2).all (memN (tblks s i1)) = true) (h : mayWr wk s i1 dead = true) : mayWr wk s i2 dead = true := by
  simp only [mayWr, List.all_eq_true, List.mem_append] at h ⊢
  rintro m (hm | hm)
  · exact h m (.inl hm)
  · exact h m (.inr (memN_iff.1 (List.all_eq_true.1 h1 m hm)))

theorem enter_spec {c : Nat} {W : List Nat} {its : List It} {x : Tys (shapes its)} {p : List Prop} {dead : List Nat} (h : enter N c s W its = some (x, p, dead)) :
    ∃ cs q, gather s s its = some cs ∧ rdL s (shapes its) cs = some (x, p, q) ∧ dead = q.map (·.m) ∧ itsOk s c W its = true ∧ keepT s c W N = true ∧ keepH s c c = true ∧ nodupB (q.map (·.m)) = true ∧ (∀ r, r ∈ q → r.m < c ∧ r.m ∉ tblks s its) := by
  unfold enter at h
  split at h
  · rename_i cs hg
    split at h
    · rename_i x' p' q hr
      split at h
      · rename_i hok
        simp only [Option.some.injEq, Prod.mk.injEq] at h
        obtain ⟨rfl, rfl, rfl⟩ := h
        simp only [Bool.and_eq_true] at hok
        refine ⟨cs, q, hg, hr, rfl, hok.1.1.1.1, hok.1.1.1.2, hok.1.1.2, hok.1.2, fun r hrq => ?_⟩
        have := List.all_eq_true.1 hok.2 r hrq
        simp only [Bool.and_eq_true, Bool.not_eq_true', Nat.blt_eq] at this
        exact ⟨this.1, fun hm => by rw [memN_iff.2 hm] at this; cases this.2⟩
      · cases h
    · cases h
  · cases h

theorem exec_keeps (fuel : Nat) : ∀ (code : Code) (wk : Nat → Bool) (c : Nat) (s : S), (exec P G N sg an fuel code wk c s).all (Keeps c s wk (dsts code)) := by
  intro code
  induction code with
  | skip => intro wk c s; exact Keeps.refl _ _ _ _ _
  | region id ops draw => intro wk c s; exact rtree_keeps
  | seq x y ihx ihy =>
    intro wk c s
    simp only [exec]
    refine T.all_bind (T.all_mono ?_ (ihx wk c s))
    rintro ⟨e, c', s'⟩ h
    cases e with
    | normal => exact T.all_mono (fun r hr => h.trans hr) (ihy wk c' s')
    | exit i => exact Keeps.wider h fun t ht => (memN_append ht).1
    | ret => exact Keeps.wider h fun t ht => (memN_append ht).1
  | cond x y z ihy ihz =>
    intro wk c s
    simp only [exec]
    split
    · exact T.all_mono (fun r hr => Keeps.wider hr fun t ht => (memN_append ht).1) (ihy wk c s)
    · exact T.all_mono (fun r hr => Keeps.wider hr fun t ht => (memN_append ht).2) (ihz wk c s)
    · exact ⟨T.all_mono (fun r hr => Keeps.wider hr fun t ht => (memN_append ht).1) (ihy wk c s), T.all_mono (fun r hr => Keeps.wider hr fun t ht => (memN_append ht).2) (ihz wk c s)⟩
    · trivial
  | block id x ih =>
    intro wk c s
    simp only [exec]
    refine T.all_bind (T.all_mono ?_ (ih wk c s))
    rintro ⟨e, c', s'⟩ h
    cases e with
    | normal => exact h
    | ret => exact h
    | exit i =>
      simp only
      split
      · exact h
      · exact h
  | loop x ih =>
    intro wk c s
    simp only [exec]
    split
    · have key : ∀ n c s, (loopN (exec P G N sg an fuel x wk) n c s).all (Keeps c s wk (dsts (.loop x))) := by
        intro n
        induction n with
        | zero => intro c s; trivial
        | succ n ihn =>
          intro c s
          simp only [loopN]
          refine T.all_bind (T.all_mono ?_ (ih wk c s))
          rintro ⟨e, c', s'⟩ h
          cases e with
          | normal => exact T.all_mono (fun r hr => Keeps.wider (h.trans hr) fun t ht => by
              rw [← Bool.not_eq_true, memN_iff, List.mem_append, not_or]
              constructor <;>
              · intro hm
                have : memN (dsts (.loop x)) t = true := memN_iff.2 hm
                rw [ht] at this; cases this) (ihn c' s')
          | exit i => exact h
          | ret => exact h
      exact key fuel c s
    · rename_i i1 _
      split
      · rename_i x0 p dead he
        split
        · rename_i hw
          obtain ⟨cs, q, _, _, _, hok, _⟩ := enter_spec he
          refine T.all_needs fun y => T.all_bind (T.all_mono ?_ (ih _ _ _))
          rintro ⟨e, c', s'⟩ h
          cases e with
          | normal =>
            simp only [roundEnd]
            split
            · exact T.all_needs trivial
            · trivial
          | exit i => exact round_keeps hok hw h
          | ret => exact round_keeps hok hw h
        · trivial
      · trivial
    · rename_i i1 i2 _
      split
      · rename_i x0 p dead he
        split
        · rename_i hw
          simp only [Bool.and_eq_true] at hw
          obtain ⟨⟨hw, hok2⟩, hs1, hs2⟩ := hw
          obtain ⟨cs, q, _, _, _, hok, _⟩ := enter_spec he
          refine T.all_needs ⟨fun y => T.all_bind (T.all_mono ?_ (ih _ _ _)), fun y => T.all_bind (T.all_mono ?_ (ih _ _ _))⟩
          · rintro ⟨e, c', s'⟩ h
            cases e with
            | normal =>
              simp only [roundEnd2]
              split
              · exact T.all_needs trivial
              · split
                · exact T.all_needs trivial
                · trivial
            | exit i => exact round_keeps hok hw h
            | ret => exact round_keeps hok hw h
          · rw [wkIn_congr hs1 hs2]
            rintro ⟨e, c', s'⟩ h
            cases e with
            | normal =>
              simp only [roundEnd2]
              split
              · exact T.all_needs trivial
              · split
                · exact T.all_needs trivial
                · trivial
            | exit i => exact round_keeps hok2 (mayWr_congr hs1 hw) h
            | ret => exact round_keeps hok2 (mayWr_congr hs1 hw) h
        · trivial
      · trivial
  | exit id => intro wk c s; exact Keeps.refl _ _ _ _ _
  | ret => intro wk c s; exact Keeps.refl _ _ _ _ _
  | _ => intro wk c s; trivial
end
end Go.V
end

section
/- The second engine, part 15: code does what its tree says. -/
set_option linter.unusedVariables false
set_option linter.unusedSimpArgs false
namespace Go.V
open Go.RowKit (Below)

section
variable {P : Program} {G : GT} {N : Nat} {sg : FuncId → Option Sm} {an : An} {gw : World → Prop} {w0 : World} {rr : Option Nat}

/-- What the ways' ends say of frame and world. -/
def CP (w0 : World) (N : Nat) (ρ : Ren) (R : St3 → Prop) : Exit → Act → World → Prop
  | .normal, a, w => ∃ c s ρ', R (.normal, c, s) ∧ Rel w0 N ρ' s a w ∧ ρ.up ρ'
  | .exit id, a, w => ∃ c s ρ', R (.exit id, c, s) ∧ Rel w0 N ρ' s a w ∧ ρ.up ρ'
  | .ret, a, w => ∃ c s ρ', R (.ret, c, s) ∧ Rel w0 N ρ' s a w ∧ ρ.up ρ'
  | _, _, _ => False

theorem CP.mono {ρ ρ1 : Ren} {R R' : St3 → Prop} (hle : ρ.up ρ1) (h : ∀ r, R r → R' r) : ∀ e a w, CP w0 N ρ1 R e a w → CP w0 N ρ R' e a w := by
  intro e a w hc
  cases e <;> simp only [CP] at hc ⊢
  all_goals (try exact hc)
  all_goals (obtain ⟨c, s, ρ', h1, h2, h3⟩ := hc; exact ⟨c, s, ρ', h _ h1, h2, Ren.up_trans hle h3⟩)

structure Env (P : Program) (G : GT) (sg : FuncId → Option Sm) (gw : World → Prop) : Prop where
  mixed : P.follows .mixedOrders = true
  sums : ∀ f σ, sg f = some σ → SumOK P G gw f σ
  stable : ∀ w w', gw w → Below w.heap.size w w' → gw w'

theorem Amb.up {ρ ρ' : Ren} (h : Amb P G gw ρ) (hle : ρ.up ρ') : Amb P G gw ρ' where
  gl := fun g n F e => by
    obtain ⟨a, h1, h2, h3⟩ := h.gl g n F e
    exact ⟨a, h1, h2, fun j hj => by obtain ⟨y, hy, hr⟩ := h3 j hj; exact ⟨y, hle.κ _ _ _ hy, D.rel_mono hle.κ _ _ hr⟩⟩
  cl := fun φ x hx => CloOK.mono hle.κ (h.cl φ x (by rw [← hle.cl]; exact hx))

theorem Rel.drew {ρ : Ren} {s : S} {a : Act} {w : World} (h : Rel w0 N ρ s a w) : Rel w0 N ρ s a { w with drawn := w.drawn + 1 } where
  sz := h.sz
  bel := h.bel.trans ⟨rfl, rfl, rfl, Nat.le_refl _, fun _ _ => rfl⟩
  df := h.df
  tm := h.tm
  dom := h.dom
  hp := by
    intro m k hk
    obtain ⟨b, h1, h2, h3, h4⟩ := h.hp m k hk
    exact ⟨b, h1, h2, Blk.rel_mono (w := w) (Ren.le_refl _) rfl h3, h4⟩
  inj := h.inj
  im := h.im
  dis := h.dis
  old := h.old

theorem rtree_sound (E : Env P G sg gw) (hgw0 : gw w0) {id : Nat} {ops : Array Oper} {draw : Bool} {wk : Nat → Bool} {c : Nat} {s : S} {R : St3 → Prop} {ρ : Ren} {a : Act} {w : World} (hrel : Rel w0 N ρ s a w) (hgl : Amb P G gw ρ) :
    ∀ {fuel : Nat} {orc : Nat → Option Bool}, (rtree P G N sg ops draw wk c s fuel orc).wp R → (Code.region id ops draw).wpIn (Fd rr) 0 P (CP w0 N ρ R) a w := by
  intro fuel
  induction fuel with
  | zero => intro orc h; exact h.elim
  | succ fuel ih =>
    intro orc h
    simp only [rtree] at h
    split at h
    · rename_i L s' c' p hr
      split at h
      · rename_i hok
        obtain ⟨hp, hR⟩ := T.wp_needs h
        have hQ : ∀ a' w' ρ', Rel w0 N ρ' s' a' w' → ρ.le ρ' → CP w0 N ρ R .normal a' w' := fun a' w' ρ' h1 h2 => ⟨c', s', ρ', hR, h1, h2.up⟩
        cases draw with
        | false => exact wpIn_region (region_seq E.sums E.stable hgw0 hr hp hrel hgl hQ)
        | true => exact wpIn_region_any E.mixed (region_any E.sums E.stable hgw0 hr hp (by simpa using hok) hrel.drew hgl hQ)
      · exact h.elim
    · rename_i k b _
      cases b with
      | true => exact ih (h.1 rfl)
      | false => exact ih (h.2 rfl)
    · exact h.elim

/-- A round that goes on begins again. -/
theorem again_sound {c n : Nat} {s : S} {W dead : List Nat} {its i2 : List It} {x : Tys (shapes its)} (hok : itsOk s c W its = true) (hok2 : itsOk s c W i2 = true) (hkT : keepT s c W N = true) (hkH : keepH s c c = true)
    (hdl : ∀ m, m ∈ dead → m < c) (hdt : ∀ m, m ∈ dead → m ∉ tblks s its) (hsame : ∀ m, m ∈ tblks s its ↔ m ∈ tblks s i2) {e : Ex} {c' : Nat} {s' : S} (hk : Keeps (c + n) (stOf s c W dead its x) (wkIn c s its) W (e, c', s'))
    {ρ : Ren} {a : Act} {w : World} (h : Rel w0 N ρ s' a w) {y : Tys (shapes i2)} {p : List Prop} (ha : again c s s' i2 = some (y, p)) (hp : All p) : ∃ ρ', Rel w0 N ρ' (stOf s c W dead i2 y) a w ∧ ρ.up ρ' := by
  unfold again at ha
  split at ha
  · rename_i cs hg
    split at ha
    · rename_i y' p' q hr
      split at ha
      · rename_i hq
        simp only [Option.some.injEq, Prod.mk.injEq] at ha
        obtain ⟨rfl, rfl⟩ := ha
        simp only [Bool.and_eq_true] at hq
        obtain ⟨k1, k2, k3⟩ := hk
        have hwk : ∀ m, m < c → m ∉ tblks s its → wkIn c s its m = false := by
          intro m hm ht
          simp only [wkIn, Bool.or_eq_false_iff]
          exact ⟨by rw [← Bool.not_eq_true, Nat.ble_eq]; omega, by rw [← Bool.not_eq_true, memN_iff]; exact ht⟩
        refine reload h hok2 hkT hkH (fun m hm ht => hdt m hm ((hsame m).2 ht)) (fun t ht => (k2 t ht).trans (stOf_keepT hok ht)) ?_ ?_ hg hr hp hq.1 ?_
        · intro m hm hd ht
          have ht' : m ∉ tblks s its := fun h => ht ((hsame m).1 h)
          exact (k3 m (by omega) (hwk m hm ht')).trans (stOf_keepH hm hd ht')
        · intro m hm hd
          have ht' := hdt m (memN_iff.1 hd)
          have := k3 m (by omega) (hwk m hm ht')
          simp only at this
          rw [this]; exact stOf_dead hm hd
        · intro r hr
          have := List.all_eq_true.1 hq.2 r hr
          exact .inl (by simpa [Nat.ble_eq] using this)
      · cases ha
    · cases ha
  · cases ha

theorem enter_sound {c : Nat} {s : S} {W : List Nat} {its : List It} {x : Tys (shapes its)} {p : List Prop} {dead : List Nat} (he : enter N c s W its = some (x, p, dead)) (hp : All p)
    {ρ : Ren} {a : Act} {w : World} (h : Rel w0 N ρ s a w) : itsOk s c W its = true ∧ keepT s c W N = true ∧ keepH s c c = true ∧ (∀ m, m ∈ dead → m < c) ∧ (∀ m, m ∈ dead → m ∉ tblks s its) ∧ ∃ ρ', Rel w0 N ρ' (stOf s c W dead its x) a w ∧ ρ.up ρ' := by
  obtain ⟨cs, q, hg, hr, rfl, hok, hkT, hkH, hnd, hall⟩ := enter_spec he
  have h1 : ∀ m, m ∈ q.map (·.m) → m < c := by
    intro m hm
    obtain ⟨r, hr, rfl⟩ := List.mem_map.1 hm
    exact (hall r hr).1
  have h2 : ∀ m, m ∈ q.map (·.m) → m ∉ tblks s its := by
    intro m hm
    obtain ⟨r, hr, rfl⟩ := List.mem_map.1 hm
    exact (hall r hr).2
  refine ⟨hok, hkT, hkH, h1, h2, reload h hok hkT hkH h2 (fun _ _ => rfl) (fun _ _ _ _ => rfl) ?_ hg hr hp hnd ?_⟩
  · intro m hm hd
    obtain ⟨r, hrq, rfl⟩ := List.mem_map.1 (memN_iff.1 hd)
    obtain ⟨⟨k, hk, _⟩, _⟩ := rdL_blk (ρ' := ρ) h (fun _ _ _ h => h) hr hp r hrq
    rw [hk]; simp
  · intro r hr
    exact .inr (List.mem_map_of_mem hr)

theorem exec_sound (E : Env P G sg gw) (hgw0 : gw w0) (fuel : Nat) : ∀ (code : Code) {wk : Nat → Bool} {c : Nat} {s : S} {R : St3 → Prop} {ρ : Ren} {a : Act} {w : World}, Rel w0 N ρ s a w → Amb P G gw ρ →
    (exec P G N sg an fuel code wk c s).wp R → code.wpIn (Fd rr) 0 P (CP w0 N ρ R) a w := by
  intro code
  induction code with
  | skip => intro wk c s R ρ a w hrel hgl h; exact wpIn_skip ⟨c, s, ρ, h, hrel, Ren.up_refl _⟩
  | region id ops draw => intro wk c s R ρ a w hrel hgl h; exact rtree_sound E hgw0 hrel hgl h
  | seq x y ihx ihy =>
    intro wk c s R ρ a w hrel hgl h
    simp only [exec] at h
    have h1 := T.wp_bind h
    refine wpIn_seq (wpIn_mono (ihx hrel hgl h1) ?_)
    intro e a' w' hc
    cases e <;> simp only [CP, Exit.then] at hc ⊢
    case normal =>
      obtain ⟨c', s', ρ', hr, hrel', hle⟩ := hc
      exact wpIn_mono (ihy hrel' (hgl.up hle) hr) (CP.mono hle (fun _ h => h))
    case exit id => exact hc
    case ret => exact hc
  | cond x y z ihy ihz =>
    intro wk c s R ρ a w hrel hgl h
    simp only [exec] at h
    have hview : View G ρ s a w := ⟨fun t v ht => (hrel.tm t v ht).2, fun m k hk => by obtain ⟨b, h1, h2, h3, _⟩ := hrel.hp m k hk; exact ⟨b, h1, h2, h3⟩, hrel.im, hgl.gl⟩
    split at h
    · rename_i hl; exact wpIn_cond_true (look_rel hview hl) (ihy hrel hgl h)
    · rename_i hl; exact wpIn_cond_false (look_rel hview hl) (ihz hrel hgl h)
    · rename_i b hl
      exact wpIn_cond_split (look_rel hview hl) (fun hb => ihy hrel hgl (h.1 hb)) (fun hb => ihz hrel hgl (h.2 hb))
    · exact h.elim
  | block id x ih =>
    intro wk c s R ρ a w hrel hgl h
    simp only [exec] at h
    have h1 := T.wp_bind h
    refine wpIn_block (wpIn_mono (ih hrel hgl h1) ?_)
    intro e a' w' hc
    cases e <;> simp only [CP, Exit.inBlock] at hc ⊢
    case normal => exact hc
    case ret => exact hc
    case exit i =>
      obtain ⟨c', s', ρ', hr, hrel', hle⟩ := hc
      split at hr
      · rename_i hb
        have := Nat.eq_of_beq_eq_true hb
        rw [if_pos this]
        exact ⟨c', s', ρ', hr, hrel', hle⟩
      · rename_i hb
        rw [if_neg (by intro e; subst e; simp at hb)]
        exact ⟨c', s', ρ', hr, hrel', hle⟩
  | loop x ih =>
    intro wk c s R ρ a w hrel hgl h
    simp only [exec] at h
    split at h
    · have key : ∀ n c s, (loopN (exec P G N sg an fuel x wk) n c s).wp R → ∀ ρ1 a w, Rel w0 N ρ1 s a w → ρ.up ρ1 → Code.roundsIn (Fd rr) 0 P x (CP w0 N ρ R) n a w := by
        intro n
        induction n with
        | zero => intro c s h; exact h.elim
        | succ n ihn =>
          intro c s h ρ1 a w hrel1 hle1
          simp only [loopN] at h
          have h1 := T.wp_bind h
          rw [roundsIn_succ]
          refine wpIn_mono (ih hrel1 (hgl.up hle1) h1) ?_
          intro e a' w' hc
          cases e <;> simp only [CP, Exit.then] at hc ⊢
          case normal =>
            obtain ⟨c', s', ρ', hr, hrel', hle⟩ := hc
            exact ihn c' s' hr ρ' a' w' hrel' (Ren.up_trans hle1 hle)
          case exit id => obtain ⟨c', s', ρ', hr, hrel', hle⟩ := hc; exact ⟨c', s', ρ', hr, hrel', Ren.up_trans hle1 hle⟩
          case ret => obtain ⟨c', s', ρ', hr, hrel', hle⟩ := hc; exact ⟨c', s', ρ', hr, hrel', Ren.up_trans hle1 hle⟩
      exact wpIn_loop_rounds fuel (key fuel c s h ρ a w hrel (Ren.up_refl _))
    · rename_i i1 _
      split at h
      · rename_i x0 p dead he
        split at h
        · rename_i hw
          obtain ⟨hp, I, μ, hI0, hI⟩ := T.wp_needs h
          obtain ⟨hok, hkT, hkH, hdl, hdt, ρ1, hrel1, hup1⟩ := enter_sound he hp hrel
          have key : ∀ n y, I y → μ y < n → ∀ ρ1 a w, Rel w0 N ρ1 (stOf s c (dsts x) dead i1 y) a w → ρ.up ρ1 → Code.roundsIn (Fd rr) 0 P x (CP w0 N ρ R) n a w := by
            intro n
            induction n with
            | zero => intro y _ h; omega
            | succ n ihn =>
              intro y hIy hlt ρ1 a w hrel1 hle1
              have h1 := T.wp_all (T.wp_bind (hI y hIy)) (exec_keeps fuel x _ _ _)
              rw [roundsIn_succ]
              refine wpIn_mono (ih hrel1 (hgl.up hle1) h1) ?_
              intro e a' w' hc
              cases e <;> simp only [CP, Exit.then] at hc ⊢
              case normal =>
                obtain ⟨c', s', ρ', ⟨hr, hkp⟩, hrel', hle⟩ := hc
                simp only [roundEnd] at hr
                split at hr
                · rename_i y2 p2 ha
                  obtain ⟨hp2, hI2, hμ2⟩ := T.wp_needs hr
                  obtain ⟨ρ2, hrel2, hup2⟩ := again_sound hok hok hkT hkH hdl hdt (fun m => Iff.rfl) hkp hrel' ha hp2
                  exact ihn y2 hI2 (by omega) ρ2 a' w' hrel2 (Ren.up_trans hle1 (Ren.up_trans hle hup2))
                · exact hr.elim
              case exit id => obtain ⟨c', s', ρ', ⟨hr, _⟩, hrel', hle⟩ := hc; exact ⟨c', s', ρ', hr, hrel', Ren.up_trans hle1 hle⟩
              case ret => obtain ⟨c', s', ρ', ⟨hr, _⟩, hrel', hle⟩ := hc; exact ⟨c', s', ρ', hr, hrel', Ren.up_trans hle1 hle⟩
          exact wpIn_loop_rounds _ (key (μ x0 + 1) x0 hI0 (by omega) ρ1 a w hrel1 hup1)
        · exact h.elim
      · exact h.elim
    · rename_i i1 i2 _
      split at h
      · rename_i x0 p dead he
        split at h
        · rename_i hw
          simp only [Bool.and_eq_true] at hw
          obtain ⟨⟨hw, hok2⟩, hs1, hs2⟩ := hw
          obtain ⟨hp, I, μ, hI0, hI1, hI2⟩ := T.wp_needs h
          obtain ⟨hok, hkT, hkH, hdl, hdt, ρ1, hrel1, hup1⟩ := enter_sound he hp hrel
          have hsame : ∀ m, m ∈ tblks s i1 ↔ m ∈ tblks s i2 := fun m => ⟨fun h => memN_iff.1 (List.all_eq_true.1 hs2 m h), fun h => memN_iff.1 (List.all_eq_true.1 hs1 m h)⟩
          have hdt2 : ∀ m, m ∈ dead → m ∉ tblks s i2 := fun m hm ht => hdt m hm ((hsame m).2 ht)
          have hwk2 := wkIn_congr (c := c) hs1 hs2
          have key : ∀ n y, I y → μ y < n → ∀ ρ1 a w, Rel w0 N ρ1 (match y with | .inl y => stOf s c (dsts x) dead i1 y | .inr y => stOf s c (dsts x) dead i2 y) a w → ρ.up ρ1 → Code.roundsIn (Fd rr) 0 P x (CP w0 N ρ R) n a w := by
            intro n
            induction n with
            | zero => intro y _ h; omega
            | succ n ihn =>
              -- what a round's end leads to
              have fin : ∀ (its : List It) (y : Tys (shapes its)) (m : Nat), itsOk s c (dsts x) its = true → (∀ m, m ∈ dead → m ∉ tblks s its) → (∀ m, m ∈ tblks s its ↔ m ∈ tblks s i1) → (∀ m, m ∈ tblks s its ↔ m ∈ tblks s i2) → ∀ (μy : Nat), μy < n + 1 → ∀ ρ1 : Ren, ρ.up ρ1 →
                  ∀ e a' w', CP w0 N ρ1 (fun r => ((roundEnd2 c s i1 i2 r).wp (LoopP I μ μy R)) ∧ Keeps (c + m) (stOf s c (dsts x) dead its y) (wkIn c s its) (dsts x) r) e a' w' →
                  Exit.then (Code.roundsIn (Fd rr) 0 P x (CP w0 N ρ R) n) (CP w0 N ρ R) e a' w' := by
                intro its y m hoki hdti hsi1 hsi2 μy hlt ρ1 hle1 e a' w' hc
                cases e <;> simp only [CP, Exit.then] at hc ⊢
                case normal =>
                  obtain ⟨c', s', ρ', ⟨hr, hkp⟩, hrel', hle⟩ := hc
                  simp only [roundEnd2] at hr
                  split at hr
                  · rename_i y2 p2 ha
                    obtain ⟨hp2, hI2, hμ2⟩ := T.wp_needs hr
                    obtain ⟨ρ2, hrel2, hup2⟩ := again_sound hoki hok hkT hkH hdl hdti hsi1 hkp hrel' ha hp2
                    exact ihn (.inl y2) hI2 (by omega) ρ2 a' w' hrel2 (Ren.up_trans hle1 (Ren.up_trans hle hup2))
                  · split at hr
                    · rename_i y2 p2 ha
                      obtain ⟨hp2, hI2, hμ2⟩ := T.wp_needs hr
                      obtain ⟨ρ2, hrel2, hup2⟩ := again_sound hoki hok2 hkT hkH hdl hdti hsi2 hkp hrel' ha hp2
                      exact ihn (.inr y2) hI2 (by omega) ρ2 a' w' hrel2 (Ren.up_trans hle1 (Ren.up_trans hle hup2))
                    · exact hr.elim
                case exit id => obtain ⟨c', s', ρ', ⟨hr, _⟩, hrel', hle⟩ := hc; exact ⟨c', s', ρ', hr, hrel', Ren.up_trans hle1 hle⟩
                case ret => obtain ⟨c', s', ρ', ⟨hr, _⟩, hrel', hle⟩ := hc; exact ⟨c', s', ρ', hr, hrel', Ren.up_trans hle1 hle⟩
              intro y hIy hlt ρ1 a w hrel1 hle1
              rw [roundsIn_succ]
              cases y with
              | inl y =>
                have h1 := T.wp_all (T.wp_bind (hI1 y hIy)) (exec_keeps fuel x _ _ _)
                exact wpIn_mono (ih hrel1 (hgl.up hle1) h1) (fin i1 y _ hok hdt (fun m => Iff.rfl) hsame _ hlt ρ1 hle1)
              | inr y =>
                have h1 := T.wp_all (T.wp_bind (hI2 y hIy)) (exec_keeps fuel x _ _ _)
                rw [hwk2] at h1
                exact wpIn_mono (ih hrel1 (hgl.up hle1) h1) (fin i2 y _ hok2 hdt2 (fun m => (hsame m).symm) (fun m => Iff.rfl) _ hlt ρ1 hle1)
          exact wpIn_loop_rounds _ (key (μ (.inl x0) + 1) (.inl x0) hI0 (by omega) ρ1 a w hrel1 hup1)
        · exact h.elim
      · exact h.elim
  | exit id => intro wk c s R ρ a w hrel hgl h; exact wpIn_exit ⟨c, s, ρ, h, hrel, Ren.up_refl _⟩
  | ret => intro wk c s R ρ a w hrel hgl h; exact wpIn_ret ⟨c, s, ρ, h, hrel, Ren.up_refl _⟩
  | _ => intro wk c s R ρ a w hrel hgl h; exact h.elim

end
end Go.V
end
