/- The parts of the engines, of their contracts and of the plain laws that the claim rests on: UC, E1, E2, E3, E4, E5, E6, E7, E8, E9, E10, E11, E12. -/
import Derived.Test.YtcgdcocmnmkhlaaDoorFA1
import Derived.WalkKit
set_option linter.unusedVariables false
set_option linter.unusedSimpArgs false
section
set_option linter.unusedVariables false
set_option linter.unusedSimpArgs false
section
set_option linter.unusedVariables false
set_option linter.unusedSimpArgs false
namespace Go.V
open Go.RowKit (Below)
/-- A tree of the ways: a test on a bool, a condition that is owed, a loop (what it begins with, what a round does: the next round's beginning, or an end), an end. -/
inductive T : Type → Type 1 where
  | ret {α : Type} (x : α) : T α
  | br {α : Type} (b : Bool) (t e : T α) : T α
  | need {α : Type} (p : Prop) (t : T α) : T α
  | fail {α : Type} : T α
  | loop {α : Type} (X : Type) (x0 : X) (body : X → T (X ⊕ α)) : T α
  | loop2 {α : Type} (X Y : Type) (x0 : X ⊕ Y) (b1 : X → T ((X ⊕ Y) ⊕ α)) (b2 : Y → T ((X ⊕ Y) ⊕ α)) : T α
/-- What a loop's round must come to. -/
def LoopP {X α : Type} (I : X → Prop) (μ : X → Nat) (n : Nat) (Q : α → Prop) : X ⊕ α → Prop
  | .inl y => I y ∧ μ y < n
  | .inr a => Q a
def T.wp : {α : Type} → T α → (α → Prop) → Prop
  | _, .ret x, Q => Q x
  | _, .br b t e, Q => (b = true → t.wp Q) ∧ (b = false → e.wp Q)
  | _, .need p t, Q => p ∧ t.wp Q
  | _, .fail, _ => False
  | _, .loop X x0 body, Q => ∃ (I : X → Prop) (μ : X → Nat), I x0 ∧ ∀ x, I x → (body x).wp (LoopP I μ (μ x) Q)
  | _, .loop2 X Y x0 b1 b2, Q => ∃ (I : X ⊕ Y → Prop) (μ : X ⊕ Y → Nat), I x0 ∧ (∀ x, I (.inl x) → (b1 x).wp (LoopP I μ (μ (.inl x)) Q)) ∧ (∀ y, I (.inr y) → (b2 y).wp (LoopP I μ (μ (.inr y)) Q))
def sumMap {X α β : Type} (g : α → β) : X ⊕ α → X ⊕ β
  | .inl y => .inl y
  | .inr a => .inr (g a)
def T.map : {α β : Type} → (α → β) → T α → T β
  | _, _, g, .ret x => .ret (g x)
  | _, _, g, .br b t e => .br b (t.map g) (e.map g)
  | _, _, g, .need p t => .need p (t.map g)
  | _, _, _, .fail => .fail
  | _, _, g, .loop X x0 body => .loop X x0 fun x => (body x).map (sumMap g)
  | _, _, g, .loop2 X Y x0 b1 b2 => .loop2 X Y x0 (fun x => (b1 x).map (sumMap g)) (fun y => (b2 y).map (sumMap g))
def sumBind {X α β : Type} (f : α → T β) : X ⊕ α → T (X ⊕ β)
  | .inl y => .ret (.inl y)
  | .inr a => (f a).map .inr
def T.bind : {α β : Type} → T α → (α → T β) → T β
  | _, _, .ret x, f => f x
  | _, _, .br b t e, f => .br b (t.bind f) (e.bind f)
  | _, _, .need p t, f => .need p (t.bind f)
  | _, _, .fail, _ => .fail
  | _, _, .loop X x0 body, f => .loop X x0 fun x => (body x).bind (sumBind f)
  | _, _, .loop2 X Y x0 b1 b2, f => .loop2 X Y x0 (fun x => (b1 x).bind (sumBind f)) (fun y => (b2 y).bind (sumBind f))
theorem T.wp_mono : ∀ {α : Type} {t : T α} {Q R : α → Prop}, (∀ x, Q x → R x) → t.wp Q → t.wp R := by
  intro α t
  induction t with
  | ret x => exact fun h k => h x k
  | br b t e iht ihe => exact fun h k => ⟨fun hb => iht h (k.1 hb), fun hb => ihe h (k.2 hb)⟩
  | need p t ih => exact fun h k => ⟨k.1, ih h k.2⟩
  | fail => exact fun _ k => k
  | loop X x0 body ih =>
    rintro Q R h ⟨I, μ, h0, hb⟩
    refine ⟨I, μ, h0, fun x hx => ih x ?_ (hb x hx)⟩
    intro r hr
    cases r with
    | inl y => exact hr
    | inr a => exact h a hr
  | loop2 X Y x0 b1 b2 ih1 ih2 =>
    rintro Q R h ⟨I, μ, h0, hb1, hb2⟩
    refine ⟨I, μ, h0, fun x hx => ih1 x ?_ (hb1 x hx), fun x hx => ih2 x ?_ (hb2 x hx)⟩
    all_goals (intro r hr; cases r with | inl y => exact hr | inr a => exact h a hr)
theorem T.wp_map : ∀ {α : Type} {t : T α} {β : Type} {g : α → β} {Q : β → Prop}, (t.map g).wp Q → t.wp (fun x => Q (g x)) := by
  intro α t
  induction t with
  | ret x => exact fun h => h
  | br b t e iht ihe => exact fun h => ⟨fun hb => iht (h.1 hb), fun hb => ihe (h.2 hb)⟩
  | need p t ih => exact fun h => ⟨h.1, ih h.2⟩
  | fail => exact fun h => h
  | loop X x0 body ih =>
    rintro β g Q ⟨I, μ, h0, hb⟩
    refine ⟨I, μ, h0, fun x hx => T.wp_mono ?_ (ih x (hb x hx))⟩
    intro r hr
    cases r with
    | inl y => exact hr
    | inr a => exact hr
  | loop2 X Y x0 b1 b2 ih1 ih2 =>
    rintro β g Q ⟨I, μ, h0, hb1, hb2⟩
    refine ⟨I, μ, h0, fun x hx => T.wp_mono ?_ (ih1 x (hb1 x hx)), fun x hx => T.wp_mono ?_ (ih2 x (hb2 x hx))⟩
    all_goals (intro r hr; cases r with | inl y => exact hr | inr a => exact hr)
theorem T.wp_bind : ∀ {α : Type} {t : T α} {β : Type} {f : α → T β} {Q : β → Prop}, (t.bind f).wp Q → t.wp (fun x => (f x).wp Q) := by
  intro α t
  induction t with
  | ret x => exact fun h => h
  | br b t e iht ihe => exact fun h => ⟨fun hb => iht (h.1 hb), fun hb => ihe (h.2 hb)⟩
  | need p t ih => exact fun h => ⟨h.1, ih h.2⟩
  | fail => exact fun h => h
  | loop X x0 body ih =>
    rintro β f Q ⟨I, μ, h0, hb⟩
    refine ⟨I, μ, h0, fun x hx => T.wp_mono ?_ (ih x (hb x hx))⟩
    intro r hr
    cases r with
    | inl y => exact hr
    | inr a => exact T.wp_mono (fun b hb => hb) (T.wp_map (t := f a) (g := Sum.inr) hr)
  | loop2 X Y x0 b1 b2 ih1 ih2 =>
    rintro β f Q ⟨I, μ, h0, hb1, hb2⟩
    refine ⟨I, μ, h0, fun x hx => T.wp_mono ?_ (ih1 x (hb1 x hx)), fun x hx => T.wp_mono ?_ (ih2 x (hb2 x hx))⟩
    all_goals (intro r hr; cases r with | inl y => exact hr | inr a => exact T.wp_mono (fun b hb => hb) (T.wp_map (t := f a) (g := Sum.inr) hr))
/-- All ends of a tree. -/
def T.all : {α : Type} → T α → (α → Prop) → Prop
  | _, .ret x, Q => Q x
  | _, .br _ t e, Q => t.all Q ∧ e.all Q
  | _, .need _ t, Q => t.all Q
  | _, .fail, _ => True
  | _, .loop _ _ body, Q => ∀ x, (body x).all (fun r => match r with | .inl _ => True | .inr a => Q a)
  | _, .loop2 _ _ _ b1 b2, Q => (∀ x, (b1 x).all (fun r => match r with | .inl _ => True | .inr a => Q a)) ∧ (∀ x, (b2 x).all (fun r => match r with | .inl _ => True | .inr a => Q a))
theorem T.all_mono : ∀ {α : Type} {t : T α} {Q R : α → Prop}, (∀ x, Q x → R x) → t.all Q → t.all R := by
  intro α t
  induction t with
  | ret x => exact fun h k => h x k
  | br b t e iht ihe => exact fun h k => ⟨iht h k.1, ihe h k.2⟩
  | need p t ih => exact fun h k => ih h k
  | fail => exact fun _ k => k
  | loop X x0 body ih =>
    intro Q R h k x
    refine ih x ?_ (k x)
    intro r hr; cases r with | inl y => exact hr | inr a => exact h a hr
  | loop2 X Y x0 b1 b2 ih1 ih2 =>
    intro Q R h k
    refine ⟨fun x => ih1 x ?_ (k.1 x), fun x => ih2 x ?_ (k.2 x)⟩
    all_goals (intro r hr; cases r with | inl y => exact hr | inr a => exact h a hr)
theorem T.all_map : ∀ {α : Type} {t : T α} {β : Type} {g : α → β} {Q : β → Prop}, t.all (fun x => Q (g x)) → (t.map g).all Q := by
  intro α t
  induction t with
  | ret x => exact fun h => h
  | br b t e iht ihe => exact fun h => ⟨iht h.1, ihe h.2⟩
  | need p t ih => exact fun h => ih h
  | fail => exact fun h => h
  | loop X x0 body ih =>
    intro β g Q h x
    refine ih x (T.all_mono ?_ (h x))
    intro r hr; cases r with | inl y => exact hr | inr a => exact hr
  | loop2 X Y x0 b1 b2 ih1 ih2 =>
    intro β g Q h
    refine ⟨fun x => ih1 x (T.all_mono ?_ (h.1 x)), fun x => ih2 x (T.all_mono ?_ (h.2 x))⟩
    all_goals (intro r hr; cases r with | inl y => exact hr | inr a => exact hr)
theorem T.all_bind : ∀ {α : Type} {t : T α} {β : Type} {f : α → T β} {Q : β → Prop}, t.all (fun x => (f x).all Q) → (t.bind f).all Q := by
  intro α t
  induction t with
  | ret x => exact fun h => h
  | br b t e iht ihe => exact fun h => ⟨iht h.1, ihe h.2⟩
  | need p t ih => exact fun h => ih h
  | fail => exact fun h => h
  | loop X x0 body ih =>
    intro β f Q h x
    refine ih x (T.all_mono ?_ (h x))
    intro r hr; cases r with | inl y => exact trivial | inr a => exact T.all_map hr
  | loop2 X Y x0 b1 b2 ih1 ih2 =>
    intro β f Q h
    refine ⟨fun x => ih1 x (T.all_mono ?_ (h.1 x)), fun x => ih2 x (T.all_mono ?_ (h.2 x))⟩
    all_goals (intro r hr; cases r with | inl y => exact trivial | inr a => exact T.all_map hr)
theorem T.wp_all : ∀ {α : Type} {t : T α} {Q R : α → Prop}, t.wp Q → t.all R → t.wp (fun x => Q x ∧ R x) := by
  intro α t
  induction t with
  | ret x => exact fun h k => ⟨h, k⟩
  | br b t e iht ihe => exact fun h k => ⟨fun hb => iht (h.1 hb) k.1, fun hb => ihe (h.2 hb) k.2⟩
  | need p t ih => exact fun h k => ⟨h.1, ih h.2 k⟩
  | fail => exact fun h _ => h
  | loop X x0 body ih =>
    rintro Q R ⟨I, μ, h0, hb⟩ k
    refine ⟨I, μ, h0, fun x hx => T.wp_mono ?_ (ih x (hb x hx) (k x))⟩
    intro r hr; cases r with | inl y => exact hr.1 | inr a => exact hr
  | loop2 X Y x0 b1 b2 ih1 ih2 =>
    rintro Q R ⟨I, μ, h0, hb1, hb2⟩ k
    refine ⟨I, μ, h0, fun x hx => T.wp_mono ?_ (ih1 x (hb1 x hx) (k.1 x)), fun x hx => T.wp_mono ?_ (ih2 x (hb2 x hx) (k.2 x))⟩
    all_goals (intro r hr; cases r with | inl y => exact hr.1 | inr a => exact hr)
def T.needs {α : Type} : List Prop → T α → T α
  | [], t => t
  | p :: l, t => .need p (T.needs l t)
theorem T.wp_needs {α : Type} {Q : α → Prop} {t : T α} : ∀ {l : List Prop}, (T.needs l t).wp Q → All l ∧ t.wp Q
  | [], h => ⟨trivial, h⟩
  | _ :: _, h => ⟨⟨h.1, (T.wp_needs h.2).1⟩, (T.wp_needs h.2).2⟩
theorem T.all_needs {α : Type} {Q : α → Prop} {t : T α} : ∀ {l : List Prop}, t.all Q → (T.needs l t).all Q
  | [], h => h
  | _ :: l, h => T.all_needs (l := l) h
/-- The same data, as far as it goes. -/
def D.eqv : D → D → Prop
  | .sl q n st F, d => (match d with
    | .sl q' n' st' F' => (q' = true → q = true) ∧ n = n' ∧ (0 < n → st = st') ∧ ∀ i j, i < n → j < st → (F i j).eqv (F' i j)
    | _ => False)
  | d, d' => d = d'
theorem D.eqv_rel {κ : Still} : ∀ {d d' : D} {x : Value}, d.eqv d' → d.rel κ x → d'.rel κ x := by
  intro d
  induction d with
  | sl q n st F ih =>
    intro d' x h r
    cases d' with
    | sl q' n' st' F' =>
      obtain ⟨h1, rfl, h0, h2⟩ := h
      rcases r with ⟨rfl, g2, g3⟩ | ⟨a, cap, g1, g2, g3, g4⟩
      · refine .inl ⟨?_, g2, g3⟩
        cases q' with
        | false => rfl
        | true => cases h1 rfl
      · refine .inr ⟨a, cap, g1, g2, g3, fun i j hi hj => ?_⟩
        have hst := h0 (by omega)
        subst hst
        obtain ⟨y, hy, hr⟩ := g4 i j hi hj
        exact ⟨y, hy, ih i j (h2 i j hi hj) hr⟩
    | _ => exact h.elim
  | _ => intro d' x h r; simp only [D.eqv] at h; subst h; exact r
theorem D.eqv_refl : ∀ (d : D), d.eqv d := by
  intro d
  induction d with
  | sl q n st F ih => exact ⟨id, rfl, fun _ => rfl, fun i j _ _ => ih i j⟩
  | _ => rfl
/-- How an element lies in a slice. -/
structure Enc (α : Type) where
  st : Nat
  enc : α → Nat → D
  rd : (Nat → D) → α
  dflt : α
  law : ∀ a, rd (enc a) = a
section
variable {α : Type}
def Enc.list (E : Enc α) (len : Nat) (F : Nat → Nat → D) : List α := (List.range len).map fun i => E.rd (F i)
def Enc.Is (E : Enc α) (len : Nat) (F : Nat → Nat → D) : Prop := ∀ i j, i < len → j < E.st → (F i j).eqv (E.enc (E.rd (F i)) j)
def Enc.F (E : Enc α) (l : List α) : Nat → Nat → D := fun i => E.enc (l.getD i E.dflt)
theorem Enc.list_len (E : Enc α) {len : Nat} {F : Nat → Nat → D} : (E.list len F).length = len := by simp [Enc.list]
theorem Enc.list_get (E : Enc α) {len : Nat} {F : Nat → Nat → D} {i : Nat} (h : i < len) : (E.list len F).getD i E.dflt = E.rd (F i) := by
  simp [Enc.list, h]
theorem Enc.to (E : Enc α) {q q' : Bool} {len : Nat} {F : Nat → Nat → D} (hq : q' = true → q = true) (h : E.Is len F) : (D.sl q len E.st F).eqv (.sl q' (E.list len F).length E.st (E.F (E.list len F))) := by
  refine ⟨hq, E.list_len.symm, fun _ => rfl, fun i j hi hj => ?_⟩
  have := h i j hi hj
  simp only [Enc.F]
  rw [E.list_get hi]
  exact this
end
/-- What a cell that varies from round to round holds. -/
inductive CS where
  | int (k : IntKind)
  | bool
  | str
  | nsl
  | row (e : TypeId) (st : Nat)
  | im
  | rowE {α : Type} (e : TypeId) (E : Enc α)
@[reducible] def CS.ty : CS → Type
  | .int _ => Int
  | .bool => Bool
  | .str => ByteArray
  | .nsl => Unit
  | .row _ _ => Nat × (Nat → Nat → D)
  | .im => D
  | .rowE (α := α) _ _ => List α
@[reducible] def Tys : List CS → Type
  | [] => Unit
  | c :: l => c.ty × Tys l
/-- A row that a round takes under a new name: its old name, its capacity (none: as it was), the block. -/
structure Req where
  m : Nat
  cap : Option Nat
  k : Blk
def rd1 (s : S) : (cs : CS) → C → Option (cs.ty × List Prop × Option Req)
  | .int k, .num k' n => (match decide (k = k') with | true => some (n, [], none) | false => none)
  | .int k, .int k' n => (match decide (k = k') with | true => some (n, [], none) | false => none)
  | .bool, .lit b => some (b, [], none)
  | .bool, .bool b => some (b, [], none)
  | .str, .str b => some (b, [], none)
  | .nsl, .nsl => some ((), [], none)
  | .row e st, .gsl m len => (match baseOf s e st (.a (.c (.gsl m len))) with
    | some (some m, n, F, true, p) => some ((n, F), p, some ⟨m, none, .row e st n F⟩)
    | _ => none)
  | .row e st, .sl m off n cap => (match baseOf s e st (.a (.c (.sl m off n cap))) with
    | some (some m, n, F, true, p) => some ((n, F), p, some ⟨m, some cap, .row e st n F⟩)
    | _ => none)
  | .im, .im d => some (d, [], none)
  | .rowE e E, .gsl m len => (match baseOf s e E.st (.a (.c (.gsl m len))) with
    | some (some m, n, F, true, p) => some (E.list n F, E.Is n F :: p, some ⟨m, none, .row e E.st (E.list n F).length (E.F (E.list n F))⟩)
    | _ => none)
  | .rowE e E, .sl m off n cap => (match baseOf s e E.st (.a (.c (.sl m off n cap))) with
    | some (some m, n, F, true, p) => some (E.list n F, E.Is n F :: p, some ⟨m, some cap, .row e E.st (E.list n F).length (E.F (E.list n F))⟩)
    | _ => none)
  | _, _ => none
def pt1 : (cs : CS) → cs.ty → Nat → C
  | .int k, n, _ => .int k n
  | .bool, b, _ => .bool b
  | .str, b, _ => .str b
  | .nsl, _, _ => .nsl
  | .row _ _, x, c => .gsl c x.1
  | .im, d, _ => .im d
  | .rowE _ _, x, c => .gsl c x.length
def bk1 : (cs : CS) → cs.ty → List Blk
  | .row e st, x => [.row e st x.1 x.2]
  | .rowE e E, x => [.row e E.st x.length (E.F x)]
  | _, _ => []
def CS.n : CS → Nat
  | .row _ _ => 1
  | .rowE _ _ => 1
  | _ => 0
def rdL (s : S) : (l : List CS) → List C → Option (Tys l × List Prop × List Req)
  | [], [] => some ((), [], [])
  | cs :: l, c :: k => (match rd1 s cs c, rdL s l k with
    | some (x, p, q), some (y, p', q') => some ((x, y), p ++ p', q.toList ++ q')
    | _, _ => none)
  | _, _ => none
def nL : List CS → Nat
  | [] => 0
  | cs :: l => cs.n + nL l
def ptL : (l : List CS) → Tys l → Nat → List C
  | [], _, _ => []
  | cs :: l, x, c => pt1 cs x.1 c :: ptL l x.2 (c + cs.n)
def bkL : (l : List CS) → Tys l → List Blk
  | [], _ => []
  | cs :: l, x => bk1 cs x.1 ++ bkL l x.2
/-- The requests are met: from the name c on. -/
def Met (ρ ρ' : Ren) (c : Nat) (q : List Req) : Prop := ∀ i r, q[i]? = some r → ∀ b, ρ r.m = some b → ρ' (c + i) = some (b.1, r.cap.getD b.2)
theorem Met.tail {ρ ρ' : Ren} {c : Nat} {q q' : List Req} (h : Met ρ ρ' c (q ++ q')) : Met ρ ρ' (c + q.length) q' := by
  intro i r hi b hb
  have := h (q.length + i) r (by rw [List.getElem?_append_right (by omega)]; simpa using hi) b hb
  rw [Nat.add_assoc]; exact this
section
variable {ρ ρ' : Ren} {s : S}
theorem rd1_req {cs : CS} {c : C} {x : cs.ty} {p : List Prop} {q : Option Req} (h : rd1 s cs c = some (x, p, q)) : q.toList.length = cs.n ∧ bk1 cs x = q.toList.map (·.k) := by
  unfold rd1 at h
  split at h
  all_goals first
    | (simp only [Option.some.injEq, Prod.mk.injEq] at h; obtain ⟨_, _, rfl⟩ := h; exact ⟨rfl, rfl⟩)
    | (split at h
       · simp only [Option.some.injEq, Prod.mk.injEq] at h; obtain ⟨h1, _, rfl⟩ := h; first | (subst h1; exact ⟨rfl, rfl⟩) | exact ⟨rfl, rfl⟩
       · cases h)
    | cases h
theorem rd1_rel (hκ : ρ.κ.le ρ'.κ) {cs : CS} {c : C} {x : cs.ty} {p : List Prop} {q : Option Req} (h : rd1 s cs c = some (x, p, q)) {c0 : Nat} (hm : Met ρ ρ' c0 q.toList) {v : Value} (hr : c.rel ρ v) : (pt1 cs x c0).rel ρ' v := by
  unfold rd1 at h
  split at h
  case h_1 =>
    split at h
    · rename_i hk; simp at hk; subst hk
      simp only [Option.some.injEq, Prod.mk.injEq] at h; obtain ⟨h1, _, rfl⟩ := h; subst h1; exact hr
    · cases h
  case h_2 =>
    split at h
    · rename_i hk; simp at hk; subst hk
      simp only [Option.some.injEq, Prod.mk.injEq] at h; obtain ⟨h1, _, rfl⟩ := h; subst h1; exact hr
    · cases h
  case h_3 => simp only [Option.some.injEq, Prod.mk.injEq] at h; obtain ⟨h1, _, rfl⟩ := h; subst h1; exact hr
  case h_4 => simp only [Option.some.injEq, Prod.mk.injEq] at h; obtain ⟨h1, _, rfl⟩ := h; subst h1; exact hr
  case h_5 => simp only [Option.some.injEq, Prod.mk.injEq] at h; obtain ⟨h1, _, rfl⟩ := h; subst h1; exact hr
  case h_6 => exact hr
  case h_7 =>
    split at h
    · rename_i m len m' n F p' hb
      simp only [Option.some.injEq, Prod.mk.injEq] at h; obtain ⟨h1, _, rfl⟩ := h; subst h1
      unfold baseOf at hb
      simp only at hb
      split at hb
      · split at hb
        · simp only [Option.some.injEq, Prod.mk.injEq] at hb
          obtain ⟨h1, h2, h3, _⟩ := hb
          subst h1 h2 h3
          obtain ⟨b, hb, rfl⟩ := hr
          exact ⟨_, hm 0 _ rfl b hb, rfl⟩
        · cases hb
      · cases hb
    · cases h
  case h_8 =>
    split at h
    · rename_i m off n0 cap m' n F p' hb
      simp only [Option.some.injEq, Prod.mk.injEq] at h; obtain ⟨h1, _, rfl⟩ := h; subst h1
      unfold baseOf at hb
      split at hb
      · rename_i heq; cases heq
      · rename_i heq; cases heq
      · rename_i heq
        cases heq
        split at hb
        · split at hb
          · simp only [Option.some.injEq, Prod.mk.injEq] at hb
            obtain ⟨h1, h2, h3, _⟩ := hb
            subst h1 h2 h3
            obtain ⟨b, hb, rfl⟩ := hr
            exact ⟨_, hm 0 _ rfl b hb, rfl⟩
          · cases hb
        · cases hb
      · cases hb
    · cases h
  case h_9 => simp only [Option.some.injEq, Prod.mk.injEq] at h; obtain ⟨h1, _, rfl⟩ := h; subst h1; exact D.rel_mono hκ _ _ hr
  case h_10 =>
    split at h
    · rename_i m len m' n F p' hb
      simp only [Option.some.injEq, Prod.mk.injEq] at h; obtain ⟨h1, _, rfl⟩ := h; subst h1
      unfold baseOf at hb
      simp only at hb
      split at hb
      · split at hb
        · simp only [Option.some.injEq, Prod.mk.injEq] at hb
          obtain ⟨h1, h2, h3, _⟩ := hb
          subst h1 h2 h3
          obtain ⟨b, hb, rfl⟩ := hr
          exact ⟨_, hm 0 _ rfl b hb, by rw [Enc.list_len]; rfl⟩
        · cases hb
      · cases hb
    · cases h
  case h_11 =>
    split at h
    · rename_i m off n0 cap m' n F p' hb
      simp only [Option.some.injEq, Prod.mk.injEq] at h; obtain ⟨h1, _, rfl⟩ := h; subst h1
      unfold baseOf at hb
      split at hb
      · rename_i heq; cases heq
      · rename_i heq; cases heq
      · rename_i heq
        cases heq
        split at hb
        · split at hb
          · simp only [Option.some.injEq, Prod.mk.injEq] at hb
            obtain ⟨h1, h2, h3, _⟩ := hb
            subst h1 h2 h3
            obtain ⟨b, hb, rfl⟩ := hr
            exact ⟨_, hm 0 _ rfl b hb, by rw [Enc.list_len]; rfl⟩
          · cases hb
        · cases hb
      · cases hb
    · cases h
  case h_12 => cases h
theorem rdL_req : ∀ {l : List CS} {cs : List C} {x : Tys l} {p : List Prop} {q : List Req}, rdL s l cs = some (x, p, q) → q.length = nL l ∧ bkL l x = q.map (·.k) := by
  intro l
  induction l with
  | nil =>
    intro cs x p q h
    cases cs with
    | nil => simp [rdL] at h; obtain ⟨_, rfl⟩ := h; exact ⟨rfl, rfl⟩
    | cons c k => simp [rdL] at h
  | cons a l ih =>
    intro cs x p q h
    cases cs with
    | nil => simp [rdL] at h
    | cons c k =>
      simp only [rdL] at h
      split at h
      · rename_i x1 p1 q1 y1 p2 q2 h1 h2
        simp only [Option.some.injEq, Prod.mk.injEq] at h; obtain ⟨h3, _, rfl⟩ := h
        obtain ⟨i1, i2⟩ := rd1_req h1
        obtain ⟨j1, j2⟩ := ih h2
        refine ⟨by simp [nL, i1, j1], ?_⟩
        rw [← h3]
        simp only [bkL, i2, j2, List.map_append]
      · cases h
theorem rdL_rel (hκ : ρ.κ.le ρ'.κ) : ∀ {l : List CS} {cs : List C} {x : Tys l} {p : List Prop} {q : List Req} {c0 : Nat} {vs : List Value}, rdL s l cs = some (x, p, q) → Met ρ ρ' c0 q → F2 (C.rel ρ) cs vs → F2 (C.rel ρ') (ptL l x c0) vs := by
  intro l
  induction l with
  | nil =>
    intro cs x p q c0 vs h hm hr
    cases cs with
    | nil => cases hr; exact .nil
    | cons c k => simp [rdL] at h
  | cons a l ih =>
    intro cs x p q c0 vs h hm hr
    cases cs with
    | nil => simp [rdL] at h
    | cons c k =>
      simp only [rdL] at h
      split at h
      · rename_i x1 p1 q1 y1 p2 q2 h1 h2
        simp only [Option.some.injEq, Prod.mk.injEq] at h; obtain ⟨h3, _, rfl⟩ := h
        cases hr with
        | cons r0 rs =>
          have hm1 : Met ρ ρ' c0 q1.toList := fun i r hi b hb => hm i r (by rw [List.getElem?_append_left (List.getElem?_eq_some_iff.1 hi).1]; exact hi) b hb
          have hm2 := hm.tail
          rw [(rd1_req h1).1] at hm2
          rw [← h3]
          exact .cons (rd1_rel hκ h1 hm1 r0) (ih h2 hm2 rs)
      · cases h
end
end Go.V
end
section
set_option linter.unusedVariables false
set_option linter.unusedSimpArgs false
namespace Go.V
open Go.RowKit (Below)
/-- What varies: a slot's cell, a slot's struct, the block that a slot points to. -/
inductive It where
  | slot (t : Nat) (c : CS)
  | agg (t : Nat) (l : List CS)
  | blk (t : Nat) (l : List CS)
@[reducible] def It.shape : It → List CS
  | .slot _ c => [c]
  | .agg _ l => l
  | .blk _ l => l
@[reducible] def shapes : List It → List CS
  | [] => []
  | i :: l => i.shape ++ shapes l
/-- The block of an item: its name, its type. From a million on: the name itself. -/
def blkOf (s : S) (t : Nat) : Option (Nat × TypeId) :=
  match Nat.ble 1000000 t with
  | true => (match s.hp (t - 1000000) with | some (.known e _) => some (t - 1000000, e) | _ => none)
  | false => (match s.tm t with
    | some (.a (.c (.ptr m 0))) => (match s.hp m with | some (.known e _) => some (m, e) | _ => none)
    | _ => none)
/-- The cells that vary; s0: where the loop began. -/
def It.cells (s0 s : S) : It → Option (List C)
  | .slot t _ => (match s.tm t with | some (.a (.c c)) => some [c] | _ => none)
  | .agg t l => (match s.tm t with | some (.a (.agg cs)) => (match Nat.beq cs.length l.length with | true => some cs | false => none) | _ => none)
  | .blk t l => (match blkOf s0 t with
    | some (m, e) => (match s.hp m with | some (.known e' cs) => (match Nat.beq e e' && Nat.beq cs.length l.length with | true => some cs | false => none) | _ => none)
    | none => none)
def gather (s0 s : S) : List It → Option (List C)
  | [] => some []
  | i :: l => match i.cells s0 s, gather s0 s l with | some a, some b => some (a ++ b) | _, _ => none
def It.put (s0 : S) (cs : List C) (s : S) : It → S
  | .slot t _ => (match cs with | [c] => { s with tm := upd s.tm t (some (.a (.c c))) } | _ => s)
  | .agg t _ => { s with tm := upd s.tm t (some (.a (.agg cs))) }
  | .blk t _ => (match blkOf s0 t with | some (m, e) => { s with hp := upd s.hp m (some (.known e cs)) } | none => s)
def putAll (s0 : S) : List It → List C → S → S
  | [], _, s => s
  | i :: l, cs, s => putAll s0 l (cs.drop i.shape.length) (i.put s0 (cs.take i.shape.length) s)
/-- What does not vary. -/
def bs (s : S) (c : Nat) (W : List Nat) (dead : List Nat) : S :=
  { tm := fun t => match memN W t with | true => none | false => s.tm t
    hp := fun m => match Nat.blt m c with | true => (match memN dead m with | true => some .dead | false => s.hp m) | false => none
    st := s.st }
/-- The blocks among the items. -/
def tblks (s : S) : List It → List Nat
  | [] => []
  | .blk t _ :: l => (match blkOf s t with | some (m, _) => m :: tblks s l | none => tblks s l)
  | _ :: l => tblks s l
/-- What a round begins with. -/
def stOf (s : S) (c : Nat) (W : List Nat) (dead : List Nat) (its : List It) (x : Tys (shapes its)) : S :=
  match putAll s its (ptL (shapes its) x c) (bs s c W (dead ++ tblks s its)) with
  | s1 => { s1 with hp := addNews c (bkL (shapes its) x) s1.hp }
/-- All names of a value. -/
def V.all : V → List Nat
  | .a (.c c) => c.names
  | .a (.agg cs) => cs.flatMap C.names
  | .tup l => l.flatMap fun a => match a with | .c c => c.names | .agg cs => cs.flatMap C.names
def allLt (c : Nat) (l : List Nat) : Bool := l.all fun m => Nat.blt m c
section
variable {P : Program} {G : GT} {N : Nat} {w0 : World} {ρ ρ' : Ren} {s s0 s1 : S} {a : Act} {w : World}
theorem C.rel_ren (hκ : ρ.κ.le ρ'.κ) (hc : ρ'.cl = ρ.cl ∧ ∀ k p, ρ.lp k = some p → ρ'.lp k = some p) {c : C} {x : Value} (hm : ∀ m, m ∈ c.names → ∀ b, ρ m = some b → ρ' m = some b) (r : c.rel ρ x) : c.rel ρ' x := by
  cases c <;> simp only [C.rel] at r ⊢ <;> simp only [C.names] at hm <;> try exact r
  · obtain ⟨b, e, h⟩ := r; exact ⟨b, hm _ (by simp) _ e, h⟩
  · obtain ⟨b, e, h⟩ := r; exact ⟨b, hm _ (by simp) _ e, h⟩
  · obtain ⟨b, e, h⟩ := r; exact ⟨b, hm _ (by simp) _ e, h⟩
  · rename_i f caps
    obtain ⟨xs, e, h⟩ := r
    refine ⟨xs, ?_, h⟩
    clear h
    induction e with
    | nil => exact .nil
    | cons r0 rs ih =>
      obtain ⟨b, e, h⟩ := r0
      exact .cons ⟨b, hm _ (by simp) _ e, h⟩ (ih fun m hm' => hm m (by simp at hm' ⊢; exact .inr hm'))
  · exact D.rel_mono hκ _ _ r
  · obtain ⟨ad, h1, h2, h3⟩ := r
    exact ⟨ad, h1, h2, fun j hj => by obtain ⟨y, hy, hr⟩ := h3 j hj; exact ⟨y, hκ _ _ _ hy, D.rel_mono hκ _ _ hr⟩⟩
  · obtain ⟨b, e, h⟩ := r; exact ⟨b, hm _ (by simp) _ e, h⟩
  · exact ⟨by rw [hc.1]; exact r.1, r.2⟩
  · obtain ⟨l, q, e, h⟩ := r; exact ⟨l, q, hc.2 _ _ e, h⟩
theorem f2_ren (hκ : ρ.κ.le ρ'.κ) (hc : ρ'.cl = ρ.cl ∧ ∀ k p, ρ.lp k = some p → ρ'.lp k = some p) : ∀ {cs : List C} {xs : List Value}, (∀ m, m ∈ cs.flatMap C.names → ∀ b, ρ m = some b → ρ' m = some b) → F2 (C.rel ρ) cs xs → F2 (C.rel ρ') cs xs
  | _, _, _, .nil => .nil
  | _, _, hm, .cons r rs => .cons (C.rel_ren hκ hc (fun m h => hm m (by simp [h])) r) (f2_ren hκ hc (fun m h => hm m (by rw [List.flatMap_cons]; exact List.mem_append_right _ h)) rs)
theorem A.rel_ren (hκ : ρ.κ.le ρ'.κ) (hc : ρ'.cl = ρ.cl ∧ ∀ k p, ρ.lp k = some p → ρ'.lp k = some p) {y : A} {x : Value} (hm : ∀ m, m ∈ V.all (.a y) → ∀ b, ρ m = some b → ρ' m = some b) (r : y.rel ρ x) : y.rel ρ' x := by
  cases y with
  | c c => exact C.rel_ren hκ hc hm r
  | agg cs => obtain ⟨xs, h, e⟩ := r; exact ⟨xs, f2_ren hκ hc hm h, e⟩
theorem V.rel_ren (hκ : ρ.κ.le ρ'.κ) (hc : ρ'.cl = ρ.cl ∧ ∀ k p, ρ.lp k = some p → ρ'.lp k = some p) {v : V} {x : Value} (hm : ∀ m, m ∈ v.all → ∀ b, ρ m = some b → ρ' m = some b) (r : v.rel ρ x) : v.rel ρ' x := by
  cases v with
  | a y => exact A.rel_ren hκ hc hm r
  | tup l =>
    obtain ⟨ys, h, e⟩ := r
    refine ⟨ys, ?_, e⟩
    clear e
    induction h with
    | nil => exact .nil
    | @cons y _ _ _ r0 rs ih =>
      refine .cons (A.rel_ren hκ hc (fun m hm' => hm m ?_) r0) (ih fun m hm' => hm m ?_)
      · simp only [V.all, List.flatMap_cons]
        refine List.mem_append_left _ ?_
        cases y <;> exact hm'
      · simp only [V.all, List.flatMap_cons] at hm' ⊢
        exact List.mem_append_right _ hm'
/-- Slots and blocks, without what they are to each other. -/
structure Half (w0 : World) (N : Nat) (ρ : Ren) (s : S) (a : Act) (w : World) : Prop where
  tm : ∀ t v, s.tm t = some v → t < N ∧ v.rel ρ (a.tmps.getD t undef)
  hp : ∀ m k, s.hp m = some k → ∃ b, ρ m = some b ∧ b.1 < w.heap.size ∧ k.rel ρ b w ∧ w0.heap.size ≤ b.1
/-- A row's request. -/
theorem rd1_blk (h : Rel w0 N ρ s a w) (hκ : ρ.κ.le ρ'.κ) {cs : CS} {c : C} {x : cs.ty} {p : List Prop} {q : Option Req} (hr : rd1 s cs c = some (x, p, q)) (hp : All p) : ∀ r, q = some r →
    (∃ k, s.hp r.m = some k ∧ k.own = true) ∧ r.k.own = true ∧ ∀ b, ρ r.m = some b → r.k.rel ρ' (b.1, r.cap.getD b.2) w := by
  intro r hq
  subst hq
  unfold rd1 at hr
  split at hr
  case h_7 =>
    split at hr
    · rename_i m len m' n F p' hb
      simp only [Option.some.injEq, Prod.mk.injEq] at hr; obtain ⟨_, h2, h3⟩ := hr; subst h2 h3
      unfold baseOf at hb
      simp only at hb
      split at hb
      · rename_i hm
        split at hb
        · rename_i hok
          simp only [Option.some.injEq, Prod.mk.injEq] at hb
          obtain ⟨h1, h2, h3, _, h5⟩ := hb
          subst h1 h2 h3 h5
          simp only [Bool.and_eq_true] at hok
          have g1 := Nat.eq_of_beq_eq_true hok.1
          have g2 := Nat.eq_of_beq_eq_true hok.2
          subst g1 g2
          refine ⟨⟨_, hm, rfl⟩, rfl, fun b hb => ?_⟩
          obtain ⟨b', hb', _, hrel, _⟩ := h.hp _ _ hm
          rw [hb] at hb'; cases hb'
          obtain ⟨xs, q1, q2, q3, q4, q5⟩ := hrel
          refine ⟨xs, q1, q2, ?_, q4, fun i j hi hj => ?_⟩
          · simp only [Option.getD_none]; have := hp.1; omega
          · obtain ⟨y, hy, hr⟩ := q5 i j (by have := hp.1; omega) hj
            exact ⟨y, hy, D.rel_mono hκ _ _ hr⟩
        · cases hb
      · cases hb
    · cases hr
  case h_8 =>
    split at hr
    · rename_i m off n0 cap m' n F p' hb
      simp only [Option.some.injEq, Prod.mk.injEq] at hr; obtain ⟨_, h2, h3⟩ := hr; subst h2 h3
      unfold baseOf at hb
      split at hb
      · rename_i heq; cases heq
      · rename_i heq; cases heq
      · rename_i heq
        cases heq
        split at hb
        · rename_i hm
          split at hb
          · rename_i ds hds hok
            simp only [Option.some.injEq, Prod.mk.injEq] at hb
            obtain ⟨h1, h2, h3, _, h5⟩ := hb
            subst h1 h2 h3 h5
            simp only [Bool.and_eq_true] at hok
            have g1 := Nat.eq_of_beq_eq_true hok.1.1.1
            have g2 := Nat.eq_of_beq_eq_true hok.1.1.2
            have g3 := Nat.le_of_ble_eq_true hok.1.2
            have g4 := Nat.le_of_ble_eq_true hok.2
            subst g1
            refine ⟨⟨_, hm, rfl⟩, rfl, fun b hb => ?_⟩
            obtain ⟨b', hb', _, hrel, _⟩ := h.hp _ _ hm
            rw [hb] at hb'; cases hb'
            obtain ⟨xs, hf, hh⟩ := hrel
            have hl := f2_len hf
            refine ⟨xs, hh, by simp only [Option.getD_some]; omega, g3, by simp only [Option.getD_some, maxLen]; omega, fun i j hi hj => ?_⟩
            have hlt := el_lt hi hj
            have hle := Nat.lt_of_lt_of_le hlt (show _ ≤ xs.length by rw [← hl, g2]; exact Nat.mul_le_mul_right _ g3)
            obtain ⟨y, hy, hr⟩ := getD_rel (toDs_rel hds hf) hle
            exact ⟨y, hy, D.rel_mono hκ _ _ hr⟩
          · cases hb
        · cases hb
      · cases hb
    · cases hr
  case h_10 =>
    split at hr
    · rename_i m len m' n F p' hb
      simp only [Option.some.injEq, Prod.mk.injEq] at hr; obtain ⟨_, h2, h3⟩ := hr; subst h2 h3
      obtain ⟨hIs, hp⟩ := hp
      unfold baseOf at hb
      simp only at hb
      split at hb
      · rename_i hm
        split at hb
        · rename_i hok
          simp only [Option.some.injEq, Prod.mk.injEq] at hb
          obtain ⟨h1, h2, h3, _, h5⟩ := hb
          subst h1 h2 h3 h5
          simp only [Bool.and_eq_true] at hok
          have g1 := Nat.eq_of_beq_eq_true hok.1
          have g2 := Nat.eq_of_beq_eq_true hok.2
          subst g1 g2
          refine ⟨⟨_, hm, rfl⟩, rfl, fun b hb => ?_⟩
          obtain ⟨b', hb', _, hrel, _⟩ := h.hp _ _ hm
          rw [hb] at hb'; cases hb'
          obtain ⟨xs, q1, q2, q3, q4, q5⟩ := hrel
          refine ⟨xs, q1, q2, ?_, q4, fun i j hi hj => ?_⟩
          · rw [Enc.list_len]; simp only [Option.getD_none]; have := hp.1; omega
          · rw [Enc.list_len] at hi
            obtain ⟨y, hy, hr⟩ := q5 i j (by have := hp.1; omega) hj
            refine ⟨y, hy, D.rel_mono hκ _ _ ?_⟩
            have := D.eqv_rel (hIs i j hi hj) hr
            simp only [Enc.F]
            rw [Enc.list_get _ hi]; exact this
        · cases hb
      · cases hb
    · cases hr
  case h_11 =>
    split at hr
    · rename_i m off n0 cap m' n F p' hb
      simp only [Option.some.injEq, Prod.mk.injEq] at hr; obtain ⟨_, h2, h3⟩ := hr; subst h2 h3
      obtain ⟨hIs, hp⟩ := hp
      unfold baseOf at hb
      split at hb
      · rename_i heq; cases heq
      · rename_i heq; cases heq
      · rename_i heq
        cases heq
        split at hb
        · rename_i hm
          split at hb
          · rename_i ds hds hok
            simp only [Option.some.injEq, Prod.mk.injEq] at hb
            obtain ⟨h1, h2, h3, _, h5⟩ := hb
            subst h1 h2 h3 h5
            simp only [Bool.and_eq_true] at hok
            have g1 := Nat.eq_of_beq_eq_true hok.1.1.1
            have g2 := Nat.eq_of_beq_eq_true hok.1.1.2
            have g3 := Nat.le_of_ble_eq_true hok.1.2
            have g4 := Nat.le_of_ble_eq_true hok.2
            subst g1
            refine ⟨⟨_, hm, rfl⟩, rfl, fun b hb => ?_⟩
            obtain ⟨b', hb', _, hrel, _⟩ := h.hp _ _ hm
            rw [hb] at hb'; cases hb'
            obtain ⟨xs, hf, hh⟩ := hrel
            have hl := f2_len hf
            refine ⟨xs, hh, by simp only [Option.getD_some]; omega, by rw [Enc.list_len]; exact g3, by simp only [Option.getD_some, maxLen]; omega, fun i j hi hj => ?_⟩
            rw [Enc.list_len] at hi
            have hlt := el_lt hi hj
            have hle := Nat.lt_of_lt_of_le hlt (show _ ≤ xs.length by rw [← hl, g2]; exact Nat.mul_le_mul_right _ g3)
            obtain ⟨y, hy, hr⟩ := getD_rel (toDs_rel hds hf) hle
            refine ⟨y, hy, D.rel_mono hκ _ _ ?_⟩
            have := D.eqv_rel (hIs i j hi hj) hr
            simp only [Enc.F]
            rw [Enc.list_get _ hi]; exact this
          · cases hb
        · cases hb
      · cases hb
    · cases hr
  all_goals first
    | (simp only [Option.some.injEq, Prod.mk.injEq, reduceCtorEq, and_false] at hr; done)
    | (split at hr <;> simp only [Option.some.injEq, Prod.mk.injEq, reduceCtorEq, and_false] at hr; done)
    | cases hr
theorem rdL_blk (h : Rel w0 N ρ s a w) (hκ : ρ.κ.le ρ'.κ) : ∀ {l : List CS} {cs : List C} {x : Tys l} {p : List Prop} {q : List Req}, rdL s l cs = some (x, p, q) → All p → ∀ r, r ∈ q →
    (∃ k, s.hp r.m = some k ∧ k.own = true) ∧ r.k.own = true ∧ ∀ b, ρ r.m = some b → r.k.rel ρ' (b.1, r.cap.getD b.2) w := by
  intro l
  induction l with
  | nil =>
    intro cs x p q hr hp r hq
    cases cs with
    | nil => simp [rdL] at hr; obtain ⟨_, rfl⟩ := hr; cases hq
    | cons c k => simp [rdL] at hr
  | cons b l ih =>
    intro cs x p q hr hp r hq
    cases cs with
    | nil => simp [rdL] at hr
    | cons c k =>
      simp only [rdL] at hr
      split at hr
      · rename_i x1 p1 q1 y1 p2 q2 h1 h2
        simp only [Option.some.injEq, Prod.mk.injEq] at hr; obtain ⟨_, rfl, rfl⟩ := hr
        obtain ⟨hp1, hp2⟩ := All.append.1 hp
        rcases List.mem_append.1 hq with hq | hq
        · exact rd1_blk h hκ h1 hp1 r (by simpa using hq)
        · exact ih h2 hp2 r hq
      · cases hr
end
/-- What is checked where a loop begins: what does not vary names nothing that is not there. -/
def keepT (s : S) (c : Nat) (W : List Nat) : Nat → Bool
  | 0 => true
  | n + 1 => (memN W n || (match s.tm n with | some v => allLt c v.all | none => true)) && keepT s c W n
def keepH (s : S) (c : Nat) : Nat → Bool
  | 0 => true
  | n + 1 => (match s.hp n with | some (.known _ cs) => allLt c (cs.flatMap C.names) | _ => true) && keepH s c n
theorem keepT_at {s : S} {c : Nat} {W : List Nat} : ∀ {N t : Nat} {v : V}, keepT s c W N = true → t < N → memN W t = false → s.tm t = some v → ∀ m, m ∈ v.all → m < c := by
  intro N
  induction N with
  | zero => intro t v _ ht; omega
  | succ N ih =>
    intro t v h ht hw hv m hm
    simp only [keepT, Bool.and_eq_true, Bool.or_eq_true] at h
    rcases Nat.lt_or_ge t N with hlt | hge
    · exact ih h.2 hlt hw hv m hm
    · obtain rfl : t = N := by omega
      rcases h.1 with h1 | h1
      · rw [hw] at h1; cases h1
      · rw [hv] at h1
        simp only [allLt, List.all_eq_true, Nat.blt_eq] at h1
        exact h1 m hm
theorem keepH_at {s : S} {c : Nat} : ∀ {n m : Nat} {e : TypeId} {cs : List C}, keepH s c n = true → m < n → s.hp m = some (.known e cs) → ∀ j, j ∈ cs.flatMap C.names → j < c := by
  intro n
  induction n with
  | zero => intro m e cs _ hm; omega
  | succ n ih =>
    intro m e cs h hm hv j hj
    simp only [keepH, Bool.and_eq_true] at h
    rcases Nat.lt_or_ge m n with hlt | hge
    · exact ih h.2 hlt hv j hj
    · obtain rfl : m = n := by omega
      have h1 := h.1
      rw [hv] at h1
      simp only [allLt, List.all_eq_true, Nat.blt_eq] at h1
      exact h1 j hj
/-- The slots among the items are written, the pointers are not. -/
def itsOk (s : S) (c : Nat) (W : List Nat) : List It → Bool
  | [] => true
  | .slot t _ :: l => memN W t && itsOk s c W l
  | .agg t _ :: l => memN W t && itsOk s c W l
  | .blk t _ :: l => !memN W t && (match blkOf s t with | some (m, _) => Nat.blt m c | none => false) && itsOk s c W l
section
variable {P : Program} {G : GT} {N : Nat} {w0 : World} {ρ ρ' : Ren} {s s0 s1 : S} {a : Act} {w : World}
/-- One item laid. -/
theorem put_half (h : Rel w0 N ρ s1 a w) {i : It} {c : Nat} {W : List Nat} (hok : itsOk s0 c W [i] = true) {cs : List C} (hc : i.cells s0 s1 = some cs) (hnm : ∀ m, m < c → ρ' m = ρ m) {cs' : List C} (hcs : ∀ vs, F2 (C.rel ρ) cs vs → F2 (C.rel ρ') cs' vs)
    {s : S} (hs : Half w0 N ρ' s a w) : Half w0 N ρ' (i.put s0 cs' s) a w := by
  cases i with
  | slot t sh =>
    simp only [It.cells] at hc
    split at hc
    · rename_i x hx
      simp only [Option.some.injEq] at hc; subst hc
      obtain ⟨hlt, hr⟩ := h.tm t _ hx
      have := hcs [a.tmps.getD t undef] (.cons hr .nil)
      cases this with
      | cons r0 rs =>
        cases rs
        refine ⟨?_, hs.hp⟩
        intro t' v ht'
        simp only [It.put] at ht'
        by_cases e : t' = t
        · subst e
          rw [upd_same] at ht'; cases ht'
          exact ⟨hlt, r0⟩
        · rw [upd_ne _ _ e] at ht'
          exact hs.tm t' v ht'
    · cases hc
  | agg t sh =>
    simp only [It.cells] at hc
    split at hc
    · rename_i x hx
      split at hc
      · simp only [Option.some.injEq] at hc; subst hc
        obtain ⟨hlt, vs, hf, hv⟩ := h.tm t _ hx
        refine ⟨?_, hs.hp⟩
        intro t' v ht'
        simp only [It.put] at ht'
        by_cases e : t' = t
        · subst e
          rw [upd_same] at ht'; cases ht'
          exact ⟨hlt, vs, hcs vs hf, hv⟩
        · rw [upd_ne _ _ e] at ht'
          exact hs.tm t' v ht'
      · cases hc
    · cases hc
  | blk t sh =>
    simp only [It.cells] at hc
    simp only [itsOk, Bool.and_eq_true] at hok
    split at hc
    · rename_i m e hb
      rw [hb] at hok
      have hmc : m < c := by simpa [Nat.blt_eq] using hok.1.2
      split at hc
      · rename_i e' x hx
        split at hc
        · rename_i hee
          simp only [Bool.and_eq_true] at hee
          have := Nat.eq_of_beq_eq_true hee.1
          subst this
          simp only [Option.some.injEq] at hc; subst hc
          obtain ⟨b, g1, g2, ⟨vs, hf, hh⟩, g4⟩ := h.hp m _ hx
          refine ⟨?_, ?_⟩
          · intro t' v ht'
            simp only [It.put, hb] at ht'
            exact hs.tm t' v ht'
          · intro m' k hk
            simp only [It.put, hb] at hk
            by_cases e2 : m' = m
            · subst e2
              rw [upd_same] at hk; cases hk
              exact ⟨b, (hnm _ hmc).trans g1, g2, ⟨vs, hcs vs hf, hh⟩, g4⟩
            · rw [upd_ne _ _ e2] at hk
              exact hs.hp m' k hk
        · cases hc
      · cases hc
    · cases hc
theorem cells_len {i : It} {cs : List C} (hc : i.cells s0 s1 = some cs) : cs.length = i.shape.length := by
  cases i with
  | slot t sh =>
    simp only [It.cells] at hc
    split at hc
    · simp only [Option.some.injEq] at hc; subst hc; rfl
    · cases hc
  | agg t sh =>
    simp only [It.cells] at hc
    split at hc
    · split at hc
      · rename_i hb
        simp only [Option.some.injEq] at hc; subst hc
        exact Nat.eq_of_beq_eq_true hb
      · cases hc
    · cases hc
  | blk t sh =>
    simp only [It.cells] at hc
    split at hc
    · split at hc
      · split at hc
        · rename_i hb
          simp only [Bool.and_eq_true] at hb
          simp only [Option.some.injEq] at hc; subst hc
          exact Nat.eq_of_beq_eq_true hb.2
        · cases hc
      · cases hc
    · cases hc
theorem itsOk_cons {i : It} {l : List It} {c : Nat} {W : List Nat} (h : itsOk s0 c W (i :: l) = true) : itsOk s0 c W [i] = true ∧ itsOk s0 c W l = true := by
  cases i <;> simp only [itsOk, Bool.and_eq_true, and_true] at h ⊢
  · exact h
  · exact h
  · exact ⟨h.1, h.2⟩
theorem f2_split {α β : Type} {R : α → β → Prop} : ∀ {l l' : List α} {k : List β}, F2 R (l ++ l') k → ∃ k1 k2, k = k1 ++ k2 ∧ F2 R l k1 ∧ F2 R l' k2
  | [], _, k, h => ⟨[], k, rfl, .nil, h⟩
  | _ :: l, l', _, .cons r rs => by
    obtain ⟨k1, k2, e, h1, h2⟩ := f2_split rs
    exact ⟨_ :: k1, k2, by rw [e]; rfl, .cons r h1, h2⟩
/-- All items laid. -/
theorem putAll_half (h : Rel w0 N ρ s1 a w) {c : Nat} {W : List Nat} (hnm : ∀ m, m < c → ρ' m = ρ m) : ∀ {its : List It} {cs cs' : List C} {s : S}, itsOk s0 c W its = true → gather s0 s1 its = some cs → cs'.length = cs.length →
    (∀ vs, F2 (C.rel ρ) cs vs → F2 (C.rel ρ') cs' vs) → (∃ vs, F2 (C.rel ρ) cs vs) → Half w0 N ρ' s a w → Half w0 N ρ' (putAll s0 its cs' s) a w := by
  intro its
  induction its with
  | nil => intro cs cs' s _ _ _ _ _ hs; exact hs
  | cons i l ih =>
    intro cs cs' s hok hg hl hcs hex hs
    obtain ⟨o1, o2⟩ := itsOk_cons hok
    simp only [gather] at hg
    split at hg
    · rename_i x y hx hy
      simp only [Option.some.injEq] at hg; subst hg
      have hxl := cells_len hx
      obtain ⟨vs0, hv0⟩ := hex
      obtain ⟨k1, k2, rfl, f1, f2⟩ := f2_split hv0
      simp only [putAll]
      refine ih o2 hy ?_ ?_ ⟨k2, f2⟩ (put_half h o1 hx hnm ?_ hs)
      · simp only [List.length_append] at hl
        simp only [List.length_drop]; omega
      · intro vs hvs
        have := hcs (k1 ++ vs) (f2_append f1 hvs)
        have h2 := f2_drop this i.shape.length
        have e : (k1 ++ vs).drop i.shape.length = vs := List.drop_left' (by rw [← f2_len f1, hxl])
        rw [e] at h2; exact h2
      · intro vs hvs
        have := hcs (vs ++ k2) (f2_append hvs f2)
        have h2 := f2_take this i.shape.length
        have e : (vs ++ k2).take i.shape.length = vs := List.take_left' (by rw [← f2_len hvs, hxl])
        rw [e] at h2; exact h2
    · cases hg
theorem gather_vals (h : Rel w0 N ρ s1 a w) : ∀ {its : List It} {cs : List C}, gather s0 s1 its = some cs → ∃ vs, F2 (C.rel ρ) cs vs := by
  intro its
  induction its with
  | nil => intro cs hg; simp [gather] at hg; subst hg; exact ⟨[], .nil⟩
  | cons i l ih =>
    intro cs hg
    simp only [gather] at hg
    split at hg
    · rename_i x y hx hy
      simp only [Option.some.injEq] at hg; subst hg
      obtain ⟨k2, f2⟩ := ih hy
      have : ∃ k1, F2 (C.rel ρ) x k1 := by
        cases i with
        | slot t sh =>
          simp only [It.cells] at hx
          split at hx
          · rename_i z hz
            simp only [Option.some.injEq] at hx; subst hx
            exact ⟨_, .cons (h.tm t _ hz).2 .nil⟩
          · cases hx
        | agg t sh =>
          simp only [It.cells] at hx
          split at hx
          · rename_i z hz
            split at hx
            · simp only [Option.some.injEq] at hx; subst hx
              obtain ⟨_, vs, hf, _⟩ := h.tm t _ hz
              exact ⟨vs, hf⟩
            · cases hx
          · cases hx
        | blk t sh =>
          simp only [It.cells] at hx
          split at hx
          · split at hx
            · rename_i z hz
              split at hx
              · simp only [Option.some.injEq] at hx; subst hx
                obtain ⟨b, _, _, ⟨vs, hf, _⟩, _⟩ := h.hp _ _ hz
                exact ⟨vs, hf⟩
              · cases hx
            · cases hx
          · cases hx
      obtain ⟨k1, f1⟩ := this
      exact ⟨k1 ++ k2, f2_append f1 f2⟩
    · cases hg
theorem ptL_len : ∀ {l : List CS} {x : Tys l} {c : Nat}, (ptL l x c).length = l.length := by
  intro l
  induction l with
  | nil => intro x c; rfl
  | cons b l ih => intro x c; simp [ptL, ih]
theorem rdL_len {l : List CS} {cs : List C} {x : Tys l} {p : List Prop} {q : List Req} : rdL s l cs = some (x, p, q) → cs.length = l.length := by
  induction l generalizing cs p q with
  | nil =>
    intro h
    cases cs with
    | nil => rfl
    | cons c k => simp [rdL] at h
  | cons b l ih =>
    intro h
    cases cs with
    | nil => simp [rdL] at h
    | cons c k =>
      simp only [rdL] at h
      split at h
      · rename_i h1 h2
        simp [ih h2]
      · cases h
/-- The slots and blocks behind putAll. -/
theorem putAll_hp {m : Nat} : ∀ {its : List It} {cs : List C} {s : S}, (putAll s0 its cs s).hp m = s.hp m ∨ (m ∈ tblks s0 its ∧ ∃ e cs', (putAll s0 its cs s).hp m = some (.known e cs')) := by
  intro its
  induction its with
  | nil => intro cs s; exact .inl rfl
  | cons i l ih =>
    intro cs s
    simp only [putAll]
    cases i with
    | slot t sh =>
      rcases ih (cs := cs.drop (It.slot t sh).shape.length) (s := (It.slot t sh).put s0 (cs.take (It.slot t sh).shape.length) s) with h | ⟨h1, h2⟩
      · refine .inl (h.trans ?_)
        simp only [It.put]
        split <;> rfl
      · exact .inr ⟨by simpa [tblks] using h1, h2⟩
    | agg t sh =>
      rcases ih (cs := cs.drop (It.agg t sh).shape.length) (s := (It.agg t sh).put s0 (cs.take (It.agg t sh).shape.length) s) with h | ⟨h1, h2⟩
      · exact .inl h
      · exact .inr ⟨by simpa [tblks] using h1, h2⟩
    | blk t sh =>
      rcases ih (cs := cs.drop (It.blk t sh).shape.length) (s := (It.blk t sh).put s0 (cs.take (It.blk t sh).shape.length) s) with h | ⟨h1, h2⟩
      · cases hb : blkOf s0 t with
        | none =>
          have e0 : (It.blk t sh).put s0 (cs.take (It.blk t sh).shape.length) s = s := by simp only [It.put, hb]
          rw [e0] at h ⊢
          exact .inl h
        | some me =>
          obtain ⟨m', e⟩ := me
          have e0 : (It.blk t sh).put s0 (cs.take (It.blk t sh).shape.length) s = { s with hp := upd s.hp m' (some (.known e (cs.take (It.blk t sh).shape.length))) } := by simp only [It.put, hb]
          rw [e0] at h ⊢
          by_cases e1 : m = m'
          · subst e1
            simp only [upd_same] at h
            exact .inr ⟨by simp [tblks, hb], _, _, h⟩
          · simp only [upd_ne _ _ e1] at h
            exact .inl h
      · refine .inr ⟨?_, h2⟩
        simp only [tblks]
        split
        · exact List.mem_cons_of_mem _ h1
        · exact h1
end
end Go.V
end
section
set_option linter.unusedVariables false
set_option linter.unusedSimpArgs false
namespace Go.V
open Go.RowKit (Below)
/-- The requests are of blocks of their own. -/
def nodupB : List Nat → Bool
  | [] => true
  | m :: l => !memN l m && nodupB l
theorem nodupB_at : ∀ {l : List Nat} {i j m : Nat}, nodupB l = true → l[i]? = some m → l[j]? = some m → i = j := by
  intro l
  induction l with
  | nil => intro i j m _ h; simp at h
  | cons x l ih =>
    intro i j m h hi hj
    simp only [nodupB, Bool.and_eq_true, Bool.not_eq_true'] at h
    have hx : x ∉ l := by
      intro hm
      have := memN_iff.2 hm
      rw [h.1] at this; cases this
    cases i with
    | zero =>
      cases j with
      | zero => rfl
      | succ j =>
        simp at hi hj; subst hi
        exact absurd (List.mem_of_getElem? hj) hx
    | succ i =>
      cases j with
      | zero =>
        simp at hi hj; subst hj
        exact absurd (List.mem_of_getElem? hi) hx
      | succ j => exact congrArg (· + 1) (ih h.2 (by simpa using hi) (by simpa using hj))
section
variable {P : Program} {G : GT} {N : Nat} {w0 : World} {ρ : Ren} {s s0 s1 : S} {a : Act} {w : World}
theorem gather_tblk : ∀ {its : List It} {cs : List C} {m : Nat}, gather s0 s1 its = some cs → m ∈ tblks s0 its → ∃ e cs', s1.hp m = some (.known e cs') := by
  intro its
  induction its with
  | nil => intro cs m _ h; simp [tblks] at h
  | cons i l ih =>
    intro cs m hg hm
    simp only [gather] at hg
    split at hg
    · rename_i x y hx hy
      cases i with
      | slot t sh => exact ih hy (by simpa [tblks] using hm)
      | agg t sh => exact ih hy (by simpa [tblks] using hm)
      | blk t sh =>
        simp only [It.cells] at hx
        simp only [tblks] at hm
        split at hx
        · rename_i m' e hb
          rw [hb] at hm
          simp only [List.mem_cons] at hm
          split at hx
          · rename_i e' cs' hc
            rcases hm with rfl | hm
            · exact ⟨_, _, hc⟩
            · exact ih hy hm
          · cases hx
        · cases hx
    · cases hg
theorem tblks_lt {c : Nat} {W : List Nat} : ∀ {its : List It} {m : Nat}, itsOk s0 c W its = true → m ∈ tblks s0 its → m < c := by
  intro its
  induction its with
  | nil => intro m _ h; simp [tblks] at h
  | cons i l ih =>
    intro m hok hm
    cases i with
    | slot t sh => simp only [itsOk, Bool.and_eq_true] at hok; exact ih hok.2 (by simpa [tblks] using hm)
    | agg t sh => simp only [itsOk, Bool.and_eq_true] at hok; exact ih hok.2 (by simpa [tblks] using hm)
    | blk t sh =>
      simp only [itsOk, Bool.and_eq_true] at hok
      simp only [tblks] at hm
      split at hm
      · rename_i m' e hb
        rw [hb] at hok
        rcases List.mem_cons.1 hm with rfl | hm
        · simpa [Nat.blt_eq] using hok.1.2
        · exact ih hok.2 hm
      · exact ih hok.2 hm
theorem stOf_tm {c : Nat} {W dead : List Nat} {its : List It} {x : Tys (shapes its)} : (stOf s0 c W dead its x).tm = (putAll s0 its (ptL (shapes its) x c) (bs s0 c W (dead ++ tblks s0 its))).tm := rfl
/-- The blocks that a round begins with. -/
theorem stOf_hp_lt {c : Nat} {W dead : List Nat} {its : List It} {x : Tys (shapes its)} {m : Nat} (hm : m < c) :
    ((stOf s0 c W dead its x).hp m = (match memN (dead ++ tblks s0 its) m with | true => some .dead | false => s0.hp m)) ∨ (m ∈ tblks s0 its ∧ ∃ e cs, (stOf s0 c W dead its x).hp m = some (.known e cs)) := by
  have e1 : (stOf s0 c W dead its x).hp m = (putAll s0 its (ptL (shapes its) x c) (bs s0 c W (dead ++ tblks s0 its))).hp m := by
    simp only [stOf]; exact addNews_out (.inl hm)
  rw [e1]
  rcases putAll_hp (s0 := s0) (m := m) (its := its) (cs := ptL (shapes its) x c) (s := bs s0 c W (dead ++ tblks s0 its)) with h | ⟨h1, h2⟩
  · left
    rw [h]
    have : Nat.blt m c = true := by rw [Nat.blt_eq]; exact hm
    simp only [bs, this] <;> rfl
  · exact .inr ⟨h1, h2⟩
theorem stOf_hp_ge {c : Nat} {W dead : List Nat} {its : List It} {x : Tys (shapes its)} {m : Nat} (hok : itsOk s0 c W its = true) (hm : c ≤ m) : (stOf s0 c W dead its x).hp m = (bkL (shapes its) x)[m - c]? := by
  by_cases hin : m < c + (bkL (shapes its) x).length
  · have := addNews_in (c := c) (bs := bkL (shapes its) x) (h := (putAll s0 its (ptL (shapes its) x c) (bs s0 c W (dead ++ tblks s0 its))).hp) (i := m - c) (by omega)
    rw [show c + (m - c) = m by omega] at this
    exact this
  · have e1 : (stOf s0 c W dead its x).hp m = (putAll s0 its (ptL (shapes its) x c) (bs s0 c W (dead ++ tblks s0 its))).hp m := by
      simp only [stOf]; exact addNews_out (.inr (by omega))
    rw [e1, List.getElem?_eq_none (by omega)]
    rcases putAll_hp (s0 := s0) (m := m) (its := its) (cs := ptL (shapes its) x c) (s := bs s0 c W (dead ++ tblks s0 its)) with h | ⟨h1, _⟩
    · rw [h]
      have : Nat.blt m c = false := by rw [← Bool.not_eq_true, Nat.blt_eq]; omega
      simp only [bs, this]
    · have := tblks_lt hok h1; omega
/-- What is kept of the surroundings. -/
structure Ren.up (cz : Nat) (ρ ρ' : Ren) : Prop where
  κ : ρ.κ.le ρ'.κ
  cl : ρ'.cl = ρ.cl
  k0 : ρ'.k0 = ρ.k0
  fx : ρ'.fx = ρ.fx
  lp : ρ'.lp = ρ.lp
  nm : ∀ m b, m < cz → ρ m = some b → ρ' m = some b
theorem Ren.up_refl {cz : Nat} (ρ : Ren) : ρ.up cz ρ := ⟨fun _ _ _ h => h, rfl, rfl, rfl, rfl, fun _ _ _ h => h⟩
theorem Ren.up_trans {cz : Nat} {a b c : Ren} (h : a.up cz b) (k : b.up cz c) : a.up cz c := ⟨fun x y z e => k.κ x y z (h.κ x y z e), k.cl.trans h.cl, k.k0.trans h.k0, k.fx.trans h.fx, k.lp.trans h.lp, fun m x hm e => k.nm m x hm (h.nm m x hm e)⟩
theorem Ren.le.up {cz : Nat} {a b : Ren} (h : a.le b) : a.up cz b := ⟨h.κ, h.cl, h.k0, h.fx, h.lp, fun m x _ e => h.nm m x e⟩
theorem Ren.up.less {cz cy : Nat} {a b : Ren} (h : a.up cz b) (hc : cy ≤ cz) : a.up cy b := ⟨h.κ, h.cl, h.k0, h.fx, h.lp, fun m x hm e => h.nm m x (by omega) e⟩
theorem putAll_st : ∀ {its : List It} {cs : List C} {s : S}, (putAll s0 its cs s).st = s.st := by
  intro its
  induction its with
  | nil => intro cs s; rfl
  | cons i l ih =>
    intro cs s
    simp only [putAll]
    rw [ih]
    cases i with
    | slot t sh => simp only [It.put]; split <;> rfl
    | agg t sh => rfl
    | blk t sh => simp only [It.put]; split <;> rfl
theorem stOf_st {c : Nat} {W dead : List Nat} {its : List It} {x : Tys (shapes its)} : (stOf s0 c W dead its x).st = s0.st := by
  simp only [stOf]
  exact putAll_st
theorem reload (h : Rel w0 N ρ s1 a w) {c : Nat} {W dead : List Nat} {its : List It} (hok : itsOk s0 c W its = true) (hkT : keepT s0 c W N = true) (hkH : keepH s0 c c = true) (hdt : ∀ m, m ∈ dead → m ∉ tblks s0 its)
    (hT : ∀ t, memN W t = false → s1.tm t = s0.tm t) (hH : ∀ m, m < c → memN dead m = false → m ∉ tblks s0 its → s1.hp m = s0.hp m) (hHd : ∀ m, m < c → memN dead m = true → s1.hp m ≠ none)
    {cs : List C} (hg : gather s0 s1 its = some cs) {x : Tys (shapes its)} {p : List Prop} {q : List Req} (hr : rdL s1 (shapes its) cs = some (x, p, q)) (hp : All p)
    (hnd : nodupB (q.map (·.m)) = true) (hst : ∀ k l r, ρ.lp k = some (l, r) → s1.st k = s0.st k) (hqm : ∀ r, r ∈ q → c ≤ r.m ∨ r.m ∈ dead) :
    ∃ ρ', Rel w0 N ρ' (stOf s0 c W dead its x) a w ∧ ρ.up c ρ' := by
  obtain ⟨ρ', hρ'⟩ : ∃ ρ' : Ren, ρ' = { nm := fun m => if m < c then ρ m else (q[m - c]?).bind fun r => (ρ r.m).map fun b => (b.1, r.cap.getD b.2), κ := ρ.κ, cl := ρ.cl, k0 := ρ.k0, fx := ρ.fx, lp := ρ.lp } := ⟨_, rfl⟩
  have hκ : ρ'.κ = ρ.κ := by rw [hρ']
  have hcl : ρ'.cl = ρ.cl := by rw [hρ']
  have hk0 : ρ'.k0 = ρ.k0 := by rw [hρ']
  have hfx : ρ'.fx = ρ.fx := by rw [hρ']
  have hlp : ρ'.lp = ρ.lp := by rw [hρ']
  have hlt : ∀ m, m < c → ρ' m = ρ m := by intro m hm; rw [hρ']; show (if m < c then ρ m else _) = _; rw [if_pos hm]
  have hge : ∀ m, c ≤ m → ρ' m = (q[m - c]?).bind fun r => (ρ r.m).map fun b => (b.1, r.cap.getD b.2) := by
    intro m hm; rw [hρ']
    show (if m < c then ρ m else _) = _
    rw [if_neg (by omega)]
  have hκle : ρ.κ.le ρ'.κ := by rw [hκ]; exact fun _ _ _ h => h
  obtain ⟨q1, q2⟩ := rdL_req hr
  have hmet : Met ρ ρ' c q := by
    intro i r hi b hb
    rw [hge _ (by omega), show c + i - c = i by omega, hi]
    simp [hb]
  have hblk := rdL_blk h hκle hr hp
  -- the half
  have base : Half w0 N ρ' (bs s0 c W (dead ++ tblks s0 its)) a w := by
    refine ⟨?_, ?_⟩
    · intro t v ht
      simp only [bs] at ht
      split at ht
      · cases ht
      · rename_i hw
        obtain ⟨g1, g2⟩ := h.tm t v (by rw [hT t hw]; exact ht)
        exact ⟨g1, V.rel_ren hκle ⟨hcl, fun k p e => by rw [hlp]; exact e⟩ (fun m hm b e => (hlt m (keepT_at hkT g1 hw ht m hm)).trans e) g2⟩
    · intro m k hk
      simp only [bs] at hk
      split at hk
      · rename_i hmc
        have hmc' : m < c := by simpa [Nat.blt_eq] using hmc
        split at hk
        · rename_i hd
          cases hk
          have hne : s1.hp m ≠ none := by
            rcases List.mem_append.1 (memN_iff.1 hd) with h1 | h1
            · exact hHd m hmc' (memN_iff.2 h1)
            · obtain ⟨e, cs', hs⟩ := gather_tblk hg h1
              rw [hs]; simp
          cases hs : s1.hp m with
          | none => exact absurd hs hne
          | some k0 =>
            obtain ⟨b, g1, g2, _, g4⟩ := h.hp m k0 hs
            exact ⟨b, (hlt m hmc').trans g1, g2, trivial, g4⟩
        · rename_i hd
          have hd' : m ∉ dead ++ tblks s0 its := fun hm => by rw [memN_iff.2 hm] at hd; cases hd
          simp only [List.mem_append, not_or] at hd'
          have hs : s1.hp m = some k := (hH m hmc' (by rw [← Bool.not_eq_true]; exact fun e => hd'.1 (memN_iff.1 e)) hd'.2).trans hk
          obtain ⟨b, g1, g2, g3, g4⟩ := h.hp m k hs
          refine ⟨b, (hlt m hmc').trans g1, g2, ?_, g4⟩
          cases k with
          | known e cs' =>
            obtain ⟨xs, hf, hh⟩ := g3
            exact ⟨xs, f2_ren hκle ⟨hcl, fun k p e => by rw [hlp]; exact e⟩ (fun j hj b e => (hlt j (keepH_at hkH hmc' hk j hj)).trans e) hf, hh⟩
          | row e st len F => rw [show (Blk.row e st len F).rel ρ' b w = (Blk.row e st len F).rel ρ b w by simp only [Blk.rel, hκ]]; exact g3
          | fz st len F => rw [show (Blk.fz st len F).rel ρ' b w = (Blk.fz st len F).rel ρ b w by simp only [Blk.rel, hκ]]; exact g3
          | dead => trivial
      · cases hk
  have half := putAll_half h hlt hok hg (by rw [ptL_len, rdL_len hr]) (fun vs hvs => rdL_rel hκle hr hmet hvs) (gather_vals h hg) base
  -- what an own block of the new state was
  have origin : ∀ m k b, (stOf s0 c W dead its x).hp m = some k → k.own = true → ρ' m = some b → ∃ mo ko bo, s1.hp mo = some ko ∧ ko.own = true ∧ ρ mo = some bo ∧ bo.1 = b.1 ∧
      ((m < c ∧ mo = m ∧ m ∉ dead) ∨ (c ≤ m ∧ ∃ r, q[m - c]? = some r ∧ mo = r.m)) := by
    intro m k b hm ho hb
    by_cases hmc : m < c
    · rcases stOf_hp_lt (s0 := s0) (c := c) (W := W) (dead := dead) (its := its) (x := x) hmc with h1 | ⟨h1, e, cs', h2⟩
      · rw [h1] at hm
        split at hm
        · cases hm; cases ho
        · rename_i hd
          have hd' : m ∉ dead ++ tblks s0 its := fun hm => by rw [memN_iff.2 hm] at hd; cases hd
          simp only [List.mem_append, not_or] at hd'
          have hs : s1.hp m = some k := (hH m hmc (by rw [← Bool.not_eq_true]; exact fun e => hd'.1 (memN_iff.1 e)) hd'.2).trans hm
          exact ⟨m, k, b, hs, ho, (hlt m hmc).symm.trans hb, rfl, .inl ⟨hmc, rfl, hd'.1⟩⟩
      · obtain ⟨e1, cs1, hs⟩ := gather_tblk hg h1
        exact ⟨m, _, b, hs, rfl, (hlt m hmc).symm.trans hb, rfl, .inl ⟨hmc, rfl, fun hd => hdt m hd h1⟩⟩
    · have hge' : c ≤ m := by omega
      rw [hge m hge'] at hb
      cases hqr : q[m - c]? with
      | none => rw [hqr] at hb; cases hb
      | some r =>
        rw [hqr] at hb
        simp only [Option.bind_some, Option.map_eq_some_iff] at hb
        obtain ⟨b0, hb0, rfl⟩ := hb
        obtain ⟨⟨k0, g1, g2⟩, _⟩ := hblk r (List.mem_of_getElem? hqr)
        exact ⟨r.m, k0, b0, g1, g2, hb0, rfl, .inr ⟨hge', r, rfl, rfl⟩⟩
  refine ⟨ρ', ⟨h.sz, h.bel, h.df, ?_, ?_, ?_, ?_, ?_, ?_, ?_, by rw [hfx]; exact h.fx, by
    rw [hlp]
    intro k l r hk
    rw [stOf_st, ← hst k l r hk]
    exact h.lp k l r hk, by rw [hfx]; exact h.dfx⟩, ⟨hκle, hcl, hk0, hfx, hlp, fun m b hm e => (hlt m hm).trans e⟩⟩
  · intro t v ht
    exact half.tm t v ht
  · intro m hm
    by_cases hmc : m < c
    · rw [hlt m hmc]
      rcases stOf_hp_lt (s0 := s0) (c := c) (W := W) (dead := dead) (its := its) (x := x) hmc with h1 | ⟨_, e, cs', h2⟩
      · rw [h1] at hm
        split at hm
        · cases hm
        · rename_i hd
          have hd' : m ∉ dead ++ tblks s0 its := fun hm => by rw [memN_iff.2 hm] at hd; cases hd
          simp only [List.mem_append, not_or] at hd'
          exact h.dom m ((hH m hmc (by rw [← Bool.not_eq_true]; exact fun e => hd'.1 (memN_iff.1 e)) hd'.2).trans hm)
      · rw [h2] at hm; cases hm
    · rw [stOf_hp_ge hok (by omega), q2, List.getElem?_map] at hm
      rw [hge m (by omega)]
      cases hqr : q[m - c]? with
      | none => rfl
      | some r => rw [hqr] at hm; cases hm
  · intro m k hm
    by_cases hmc : m < c
    · refine half.hp m k ?_
      rw [← hm]
      simp only [stOf]; exact (addNews_out (.inl hmc)).symm
    · rw [stOf_hp_ge hok (by omega), q2, List.getElem?_map] at hm
      cases hqr : q[m - c]? with
      | none => rw [hqr] at hm; cases hm
      | some r =>
        rw [hqr] at hm
        simp only [Option.map_some, Option.some.injEq] at hm
        subst hm
        obtain ⟨⟨k0, g1, g2⟩, _, g3⟩ := hblk r (List.mem_of_getElem? hqr)
        obtain ⟨b, i1, i2, _, i4⟩ := h.hp _ _ g1
        exact ⟨(b.1, r.cap.getD b.2), by rw [hge m (by omega), hqr]; simp [i1], i2, g3 b i1, i4⟩
  · intro m m' k k' b b' hm hm' ok ok' hb hb' hne
    obtain ⟨mo, ko, bo, g1, g2, g3, g4, g5⟩ := origin m k b hm ok hb
    obtain ⟨mo', ko', bo', j1, j2, j3, j4, j5⟩ := origin m' k' b' hm' ok' hb'
    rw [← g4, ← j4]
    refine h.inj mo mo' ko ko' bo bo' g1 j1 g2 j2 g3 j3 ?_
    rcases g5 with ⟨e1, rfl, e2⟩ | ⟨e1, r, e2, rfl⟩ <;> rcases j5 with ⟨f1, rfl, f2⟩ | ⟨f1, r', f2, rfl⟩
    · exact hne
    · rcases hqm r' (List.mem_of_getElem? f2) with h1 | h1
      · omega
      · intro e; rw [e] at e2; exact e2 h1
    · rcases hqm r (List.mem_of_getElem? e2) with h1 | h1
      · omega
      · intro e; rw [← e] at f2; exact f2 h1
    · intro e
      have := nodupB_at hnd (i := m - c) (j := m' - c) (m := r.m) (by simp [e2]) (by simp [f2, e])
      omega
  · rw [hκ]; exact h.im
  · intro m k b o hm ok hb
    obtain ⟨mo, ko, bo, g1, g2, g3, g4, g5⟩ := origin m k b hm ok hb
    rw [hκ, ← g4]
    exact h.dis mo ko bo o g1 g2 g3
  · rw [hκ, hk0]; exact h.old
end
end Go.V
end
section
set_option linter.unusedVariables false
set_option linter.unusedSimpArgs false
namespace Go.V
open Go.RowKit (Below)
abbrev St3 := Ex × Nat × S
def setO (orc : Nat → Option Bool) (k : Nat) (b : Bool) : Nat → Option Bool := upd orc k (some b)
/-- All slots that code may write. -/
def dsts : Code → List Nat
  | .region _ ops _ => ops.toList.filterMap (·.dst)
  | .seq x y => dsts x ++ dsts y
  | .cond _ y z => dsts y ++ dsts z
  | .block _ x => dsts x
  | .loop x => dsts x
  | _ => []
/-- The number of its first region: a loop's name. -/
def firstId : Code → Option Nat
  | .region id _ _ => some id
  | .seq x y => (match firstId x with | some i => some i | none => firstId y)
  | .cond _ y z => (match firstId y with | some i => some i | none => firstId z)
  | .block _ x => firstId x
  | .loop x => firstId x
  | _ => none
/-- What varies in loops, by their names: one shape, or two. -/
abbrev An := List (Nat × List It × Option (List It))
def anOf : An → Option Nat → Option (List It × Option (List It))
  | [], _ => none
  | (k, a) :: l, i => (match i with | some j => (match Nat.beq k j with | true => some a | false => anOf l i) | none => none)
/-- Blocks from two millions on: counted back from the first new name. -/
def relIt (c : Nat) : It → It
  | .blk t l => .blk (match Nat.ble 2000000 t with | true => 1000000 + (c - (t - 2000000)) | false => t) l
  | i => i
def relIts (c : Nat) : List It → List It
  | [] => []
  | i :: l => relIt c i :: relIts c l
def relAn (c : Nat) : Option (List It × Option (List It)) → Option (List It × Option (List It))
  | some (i, some j) => some (relIts c i, some (relIts c j))
  | some (i, none) => some (relIts c i, none)
  | none => none
/-- Where a loop begins. -/
def enter (N c : Nat) (s : S) (W : List Nat) (its : List It) : Option (Tys (shapes its) × List Prop × List Nat) :=
  match gather s s its with
  | some cs => (match rdL s (shapes its) cs with
    | some (x, p, q) => (match itsOk s c W its && keepT s c W N && keepH s c c && nodupB (q.map (·.m)) && (q.all fun r => Nat.blt r.m c && !memN (tblks s its) r.m) with
      | true => some (x, p, q.map (·.m))
      | false => none)
    | none => none)
  | none => none
/-- Where a round begins again. -/
def again0 (c : Nat) (s0 s1 : S) (its : List It) : Option (Tys (shapes its) × List Prop) :=
  match gather s0 s1 its with
  | some cs => (match rdL s1 (shapes its) cs with
    | some (x, p, q) => (match nodupB (q.map (·.m)) && (q.all fun r => Nat.ble c r.m) with
      | true => some (x, p)
      | false => none)
    | none => none)
  | none => none
/-- The loops over functions are where they were: ready, or within a round. -/
def stSame (lv : Nat) (s s' : S) : Bool := (List.range lv).all fun k => match s.st k, s'.st k with
  | none, none => true
  | some .normal, some .normal => true
  | _, _ => false
theorem stSame_at {lv : Nat} {s s' : S} (h : stSame lv s s' = true) {k : Nat} (hk : k < lv) : s'.st k = s.st k := by
  have := List.all_eq_true.1 h k (List.mem_range.2 hk)
  split at this
  · rename_i h1 h2; rw [h1, h2]
  · rename_i h1 h2; rw [h1, h2]
  · cases this
def again (lv c : Nat) (s0 s1 : S) (its : List It) : Option (Tys (shapes its) × List Prop) :=
  match stSame lv s0 s1 with
  | true => again0 c s0 s1 its
  | false => none
section
variable (P : Program) (G : GT) (N : Nat) (sg : FuncId → Option Sm) (an : An) (lv : Nat)
def rtree (ops : Array Oper) (draw : Bool) (wk : Nat → Bool) (c : Nat) (s : S) : Nat → (Nat → Option Bool) → T St3
  | 0, _ => .fail
  | fuel + 1, orc =>
    match rrun P G N sg wk ops orc ops.toList 0 c s with
    | .done L s' c' p => (match !draw || anyOk ops L with | true => T.needs p (.ret (.normal, c', s')) | false => .fail)
    | .ask k b => .br b (rtree ops draw wk c s fuel (setO orc k true)) (rtree ops draw wk c s fuel (setO orc k false))
    | .fail => .fail
def loopN (f : Nat → S → T St3) : Nat → Nat → S → T St3
  | 0, _, _ => .fail
  | n + 1, c, s => (f c s).bind fun r => match r with
    | (.normal, c', s') => loopN f n c' s'
    | r => .ret r
/-- Whether a loop's blocks may be written here. -/
def mayWr (wk : Nat → Bool) (s : S) (its : List It) (dead : List Nat) : Bool := (dead ++ tblks s its).all wk
def wkIn (c : Nat) (s : S) (its : List It) (m : Nat) : Bool := Nat.ble c m || memN (tblks s its) m
/-- A round's end. -/
def roundEnd (c : Nat) (s0 : S) (its : List It) : St3 → T (Tys (shapes its) ⊕ St3)
  | (.normal, _, s') => (match again lv c s0 s' its with | some (y, p) => T.needs p (.ret (.inl y)) | none => .fail)
  | r => .ret (.inr r)
def roundEnd2 (c : Nat) (s0 : S) (i1 i2 : List It) : St3 → T ((Tys (shapes i1) ⊕ Tys (shapes i2)) ⊕ St3)
  | (.normal, _, s') => (match again lv c s0 s' i1 with
    | some (y, p) => T.needs p (.ret (.inl (.inl y)))
    | none => (match again lv c s0 s' i2 with
      | some (y, p) => T.needs p (.ret (.inl (.inr y)))
      | none => .fail))
  | r => .ret (.inr r)
end
/-- What runs a region; what runs a loop over a function. -/
abbrev RX := Array Oper → Bool → (Nat → Bool) → Nat → S → T St3
abbrev RF := Operand → Array Tmp → Code → Code → (Nat → Bool) → Nat → S → T St3
section
variable (G : GT) (N : Nat) (an : An) (lv : Nat) (rx : RX) (rf : RF)
def exec (fuel : Nat) : Code → (Nat → Bool) → Nat → S → T St3
  | .skip, _, c, s => .ret (.normal, c, s)
  | .region _ ops draw, wk, c, s => rx ops draw wk c s
  | .rangeFunc g ps x y, wk, c, s => rf g ps x y wk c s
  | .seq x y, wk, c, s => (exec fuel x wk c s).bind fun r => match r with
    | (.normal, c', s') => exec fuel y wk c' s'
    | r => .ret r
  | .cond x y z, wk, c, s => (match look G s x with
    | some (.a (.c (.lit true))) => exec fuel y wk c s
    | some (.a (.c (.lit false))) => exec fuel z wk c s
    | some (.a (.c (.bool b))) => .br b (exec fuel y wk c s) (exec fuel z wk c s)
    | _ => .fail)
  | .block id x, wk, c, s => (exec fuel x wk c s).bind fun r => match r with
    | (.exit i, c', s') => (match Nat.beq i id with | true => .ret (.normal, c', s') | false => .ret (.exit i, c', s'))
    | r => .ret r
  | .loop x, wk, c, s => (match relAn c (anOf an (firstId x)) with
    | none => loopN (exec fuel x wk) fuel c s
    | some (i1, none) => (match enter N c s (dsts x) i1 with
      | some (x0, p, dead) => (match mayWr wk s i1 dead with
        | true => T.needs p (.loop (Tys (shapes i1)) x0 fun y =>
            (exec fuel x (wkIn c s i1) (c + nL (shapes i1)) (stOf s c (dsts x) dead i1 y)).bind (roundEnd lv c s i1))
        | false => .fail)
      | none => .fail)
    | some (i1, some i2) => (match enter N c s (dsts x) i1 with
      | some (x0, p, dead) => (match mayWr wk s i1 dead && itsOk s c (dsts x) i2 && ((tblks s i2).all (memN (tblks s i1)) && (tblks s i1).all (memN (tblks s i2))) with
        | true => T.needs p (.loop2 (Tys (shapes i1)) (Tys (shapes i2)) (.inl x0)
            (fun y => (exec fuel x (wkIn c s i1) (c + nL (shapes i1)) (stOf s c (dsts x) dead i1 y)).bind (roundEnd2 lv c s i1 i2))
            (fun y => (exec fuel x (wkIn c s i1) (c + nL (shapes i2)) (stOf s c (dsts x) dead i2 y)).bind (roundEnd2 lv c s i1 i2)))
        | false => .fail)
      | none => .fail))
  | .exit id, _, c, s => .ret (.exit id, c, s)
  | .ret, _, c, s => .ret (.ret, c, s)
  | _, _, _, _ => .fail
end
section
variable {P : Program} {G : GT} {N : Nat} {sg : FuncId → Option Sm} {an : An} {lv : Nat} {gw : World → Prop} {w0 : World} {rr : Option Nat} {s s0 : S}
theorem putAll_tm {t : Nat} {c : Nat} {W : List Nat} (ht : memN W t = false) : ∀ {its : List It} {cs : List C} {s : S}, itsOk s0 c W its = true → (putAll s0 its cs s).tm t = s.tm t := by
  intro its
  induction its with
  | nil => intro cs s _; rfl
  | cons i l ih =>
    intro cs s hok
    simp only [putAll]
    obtain ⟨o1, o2⟩ := itsOk_cons hok
    rw [ih o2]
    cases i with
    | slot t' sh =>
      simp only [itsOk, Bool.and_eq_true] at o1
      have hne : t ≠ t' := fun e => by rw [e, o1.1] at ht; cases ht
      simp only [It.put]
      split
      · exact upd_ne _ _ hne
      · rfl
    | agg t' sh =>
      simp only [itsOk, Bool.and_eq_true] at o1
      have hne : t ≠ t' := fun e => by rw [e, o1.1] at ht; cases ht
      simp only [It.put]
      exact upd_ne _ _ hne
    | blk t' sh =>
      simp only [It.put]
      split <;> rfl
theorem stOf_keepT {c : Nat} {W dead : List Nat} {its : List It} {x : Tys (shapes its)} (hok : itsOk s0 c W its = true) {t : Nat} (ht : memN W t = false) : (stOf s0 c W dead its x).tm t = s0.tm t := by
  rw [stOf_tm, putAll_tm ht hok]
  simp only [bs, ht]
theorem stOf_keepH {c : Nat} {W dead : List Nat} {its : List It} {x : Tys (shapes its)} {m : Nat} (hm : m < c) (hd : memN dead m = false) (htb : m ∉ tblks s0 its) : (stOf s0 c W dead its x).hp m = s0.hp m := by
  rcases stOf_hp_lt (s0 := s0) (c := c) (W := W) (dead := dead) (its := its) (x := x) hm with h | ⟨h, _⟩
  · rw [h]
    have : memN (dead ++ tblks s0 its) m = false := by
      rw [← Bool.not_eq_true, memN_iff, List.mem_append, not_or]
      exact ⟨(fun h => by rw [memN_iff.2 h] at hd; cases hd), htb⟩
    rw [this]
  · exact absurd h htb
theorem stOf_dead {c : Nat} {W dead : List Nat} {its : List It} {x : Tys (shapes its)} {m : Nat} (hm : m < c) (hd : memN dead m = true) : (stOf s0 c W dead its x).hp m ≠ none := by
  rcases stOf_hp_lt (s0 := s0) (c := c) (W := W) (dead := dead) (its := its) (x := x) hm with h | ⟨_, e, cs, h⟩
  · rw [h]
    have : memN (dead ++ tblks s0 its) m = true := memN_iff.2 (List.mem_append_left _ (memN_iff.1 hd))
    rw [this]; simp
  · rw [h]; simp
/-- What code leaves as it was. -/
def Keeps (c : Nat) (s : S) (wk : Nat → Bool) (D : List Nat) (r : St3) : Prop :=
  c ≤ r.2.1 ∧ (∀ t, memN D t = false → r.2.2.tm t = s.tm t) ∧ (∀ m, m < c → wk m = false → r.2.2.hp m = s.hp m)
theorem Keeps.refl (c : Nat) (s : S) (wk : Nat → Bool) (D : List Nat) (e : Ex) : Keeps c s wk D (e, c, s) := ⟨Nat.le_refl _, fun _ _ => rfl, fun _ _ _ => rfl⟩
theorem memN_append {l k : List Nat} {t : Nat} (h : memN (l ++ k) t = false) : memN l t = false ∧ memN k t = false := by
  constructor <;>
  · rw [← Bool.not_eq_true, memN_iff]
    intro hm
    have : memN (l ++ k) t = true := memN_iff.2 (by simp [hm])
    rw [h] at this; cases this
theorem Keeps.trans {c c' : Nat} {s s' : S} {wk : Nat → Bool} {D D' : List Nat} {e : Ex} {r : St3} (h : Keeps c s wk D (e, c', s')) (k : Keeps c' s' wk D' r) : Keeps c s wk (D ++ D') r :=
  ⟨Nat.le_trans h.1 k.1, fun t ht => (k.2.1 t (memN_append ht).2).trans (h.2.1 t (memN_append ht).1), fun m hm hw => (k.2.2 m (Nat.lt_of_lt_of_le hm h.1) hw).trans (h.2.2 m hm hw)⟩
theorem Keeps.wider {c : Nat} {s : S} {wk : Nat → Bool} {D D' : List Nat} {r : St3} (h : Keeps c s wk D r) (hD : ∀ t, memN D' t = false → memN D t = false) : Keeps c s wk D' r :=
  ⟨h.1, fun t ht => h.2.1 t (hD t ht), h.2.2⟩
theorem rtree_keeps {id : Nat} {ops : Array Oper} {draw : Bool} {wk : Nat → Bool} {c : Nat} {s : S} : ∀ {fuel : Nat} {orc : Nat → Option Bool}, (rtree P G N sg ops draw wk c s fuel orc).all (Keeps c s wk (dsts (.region id ops draw))) := by
  intro fuel
  induction fuel with
  | zero => intro orc; trivial
  | succ fuel ih =>
    intro orc
    simp only [rtree]
    split
    · rename_i L s' c' p hr
      split
      · refine T.all_needs ?_
        obtain ⟨h1, h2, h3⟩ := rrun_keeps hr
        refine ⟨h1, fun t ht => h2 t fun o ho hd => ?_, h3⟩
        have : memN (dsts (.region id ops draw)) t = true := memN_iff.2 (by simp only [dsts, List.mem_filterMap]; exact ⟨o, ho, hd⟩)
        rw [ht] at this; cases this
      · trivial
    · exact ⟨ih, ih⟩
    · trivial
theorem round_keeps {c : Nat} {s : S} {wk : Nat → Bool} {W dead : List Nat} {its : List It} {x : Tys (shapes its)} (hok : itsOk s c W its = true) (hw : mayWr wk s its dead = true) {n : Nat} {r : St3}
    (h : Keeps (c + n) (stOf s c W dead its x) (wkIn c s its) W r) : Keeps c s wk W r := by
  obtain ⟨h1, h2, h3⟩ := h
  refine ⟨by omega, fun t ht => (h2 t ht).trans (stOf_keepT hok ht), fun m hm hwm => ?_⟩
  have hnot : m ∉ dead ++ tblks s its := by
    intro hmem
    have := List.all_eq_true.1 hw m hmem
    rw [hwm] at this; cases this
  simp only [List.mem_append, not_or] at hnot
  rw [h3 m (by omega), stOf_keepH hm (by rw [← Bool.not_eq_true, memN_iff]; exact hnot.1) hnot.2]
  simp only [wkIn, Bool.or_eq_false_iff]
  exact ⟨by rw [← Bool.not_eq_true, Nat.ble_eq]; omega, by rw [← Bool.not_eq_true, memN_iff]; exact hnot.2⟩
theorem wkIn_congr {c : Nat} {s : S} {i1 i2 : List It} (h1 : (tblks s i2).all (memN (tblks s i1)) = true) (h2 : (tblks s i1).all (memN (tblks s i2)) = true) : wkIn c s i1 = wkIn c s i2 := by
  funext m
  simp only [wkIn]
  congr 1
  rw [Bool.eq_iff_iff, memN_iff, memN_iff]
  exact ⟨fun h => memN_iff.1 (List.all_eq_true.1 h2 m h), fun h => memN_iff.1 (List.all_eq_true.1 h1 m h)⟩
theorem mayWr_congr {wk : Nat → Bool} {s : S} {i1 i2 : List It} {dead : List Nat} (h1 : (tblks s i2).all (memN (tblks s i1)) = true) (h : mayWr wk s i1 dead = true) : mayWr wk s i2 dead = true := by
  simp only [mayWr, List.all_eq_true, List.mem_append] at h ⊢
  rintro m (hm | hm)
  · exact h m (.inl hm)
  · exact h m (.inr (memN_iff.1 (List.all_eq_true.1 h1 m hm)))
theorem enter_spec {c : Nat} {W : List Nat} {its : List It} {x : Tys (shapes its)} {p : List Prop} {dead : List Nat} (h : enter N c s W its = some (x, p, dead)) :
    ∃ cs q, gather s s its = some cs ∧ rdL s (shapes its) cs = some (x, p, q) ∧ dead = q.map (·.m) ∧ itsOk s c W its = true ∧ keepT s c W N = true ∧ keepH s c c = true ∧ nodupB (q.map (·.m)) = true ∧ (∀ r, r ∈ q → r.m < c ∧ r.m ∉ tblks s its) := by
  unfold enter at h
  split at h
  · rename_i cs hg
    split at h
    · rename_i x' p' q hr
      split at h
      · rename_i hok
        simp only [Option.some.injEq, Prod.mk.injEq] at h
        obtain ⟨rfl, rfl, rfl⟩ := h
        simp only [Bool.and_eq_true] at hok
        refine ⟨cs, q, hg, hr, rfl, hok.1.1.1.1, hok.1.1.1.2, hok.1.1.2, hok.1.2, fun r hrq => ?_⟩
        have := List.all_eq_true.1 hok.2 r hrq
        simp only [Bool.and_eq_true, Bool.not_eq_true', Nat.blt_eq] at this
        exact ⟨this.1, fun hm => by rw [memN_iff.2 hm] at this; cases this.2⟩
      · cases h
    · cases h
  · cases h
theorem exec_keeps {rx : RX} {rf : RF} (hxk : ∀ id ops draw wk c s, (rx ops draw wk c s).all (Keeps c s wk (dsts (.region id ops draw)))) (hfk : ∀ g ps x y wk c s, (rf g ps x y wk c s).all (Keeps c s wk [])) (fuel : Nat) : ∀ (code : Code) (wk : Nat → Bool) (c : Nat) (s : S), (exec G N an lv rx rf fuel code wk c s).all (Keeps c s wk (dsts code)) := by
  intro code
  induction code with
  | skip => intro wk c s; exact Keeps.refl _ _ _ _ _
  | region id ops draw => intro wk c s; exact hxk id ops draw wk c s
  | rangeFunc g ps x y => intro wk c s; exact hfk g ps x y wk c s
  | seq x y ihx ihy =>
    intro wk c s
    simp only [exec]
    refine T.all_bind (T.all_mono ?_ (ihx wk c s))
    rintro ⟨e, c', s'⟩ h
    cases e with
    | normal => exact T.all_mono (fun r hr => h.trans hr) (ihy wk c' s')
    | exit i => exact Keeps.wider h fun t ht => (memN_append ht).1
    | ret => exact Keeps.wider h fun t ht => (memN_append ht).1
  | cond x y z ihy ihz =>
    intro wk c s
    simp only [exec]
    split
    · exact T.all_mono (fun r hr => Keeps.wider hr fun t ht => (memN_append ht).1) (ihy wk c s)
    · exact T.all_mono (fun r hr => Keeps.wider hr fun t ht => (memN_append ht).2) (ihz wk c s)
    · exact ⟨T.all_mono (fun r hr => Keeps.wider hr fun t ht => (memN_append ht).1) (ihy wk c s), T.all_mono (fun r hr => Keeps.wider hr fun t ht => (memN_append ht).2) (ihz wk c s)⟩
    · trivial
  | block id x ih =>
    intro wk c s
    simp only [exec]
    refine T.all_bind (T.all_mono ?_ (ih wk c s))
    rintro ⟨e, c', s'⟩ h
    cases e with
    | normal => exact h
    | ret => exact h
    | exit i =>
      simp only
      split
      · exact h
      · exact h
  | loop x ih =>
    intro wk c s
    simp only [exec]
    split
    · have key : ∀ n c s, (loopN (exec G N an lv rx rf fuel x wk) n c s).all (Keeps c s wk (dsts (.loop x))) := by
        intro n
        induction n with
        | zero => intro c s; trivial
        | succ n ihn =>
          intro c s
          simp only [loopN]
          refine T.all_bind (T.all_mono ?_ (ih wk c s))
          rintro ⟨e, c', s'⟩ h
          cases e with
          | normal => exact T.all_mono (fun r hr => Keeps.wider (h.trans hr) fun t ht => by
              rw [← Bool.not_eq_true, memN_iff, List.mem_append, not_or]
              constructor <;>
              · intro hm
                have : memN (dsts (.loop x)) t = true := memN_iff.2 hm
                rw [ht] at this; cases this) (ihn c' s')
          | exit i => exact h
          | ret => exact h
      exact key fuel c s
    · rename_i i1 _
      split
      · rename_i x0 p dead he
        split
        · rename_i hw
          obtain ⟨cs, q, _, _, _, hok, _⟩ := enter_spec he
          refine T.all_needs fun y => T.all_bind (T.all_mono ?_ (ih _ _ _))
          rintro ⟨e, c', s'⟩ h
          cases e with
          | normal =>
            simp only [roundEnd]
            split
            · exact T.all_needs trivial
            · trivial
          | exit i => exact round_keeps hok hw h
          | ret => exact round_keeps hok hw h
        · trivial
      · trivial
    · rename_i i1 i2 _
      split
      · rename_i x0 p dead he
        split
        · rename_i hw
          simp only [Bool.and_eq_true] at hw
          obtain ⟨⟨hw, hok2⟩, hs1, hs2⟩ := hw
          obtain ⟨cs, q, _, _, _, hok, _⟩ := enter_spec he
          refine T.all_needs ⟨fun y => T.all_bind (T.all_mono ?_ (ih _ _ _)), fun y => T.all_bind (T.all_mono ?_ (ih _ _ _))⟩
          · rintro ⟨e, c', s'⟩ h
            cases e with
            | normal =>
              simp only [roundEnd2]
              split
              · exact T.all_needs trivial
              · split
                · exact T.all_needs trivial
                · trivial
            | exit i => exact round_keeps hok hw h
            | ret => exact round_keeps hok hw h
          · rw [wkIn_congr hs1 hs2]
            rintro ⟨e, c', s'⟩ h
            cases e with
            | normal =>
              simp only [roundEnd2]
              split
              · exact T.all_needs trivial
              · split
                · exact T.all_needs trivial
                · trivial
            | exit i => exact round_keeps hok2 (mayWr_congr hs1 hw) h
            | ret => exact round_keeps hok2 (mayWr_congr hs1 hw) h
        · trivial
      · trivial
  | exit id => intro wk c s; exact Keeps.refl _ _ _ _ _
  | ret => intro wk c s; exact Keeps.refl _ _ _ _ _
  | _ => intro wk c s; trivial
end
end Go.V
end
section
set_option linter.unusedVariables false
set_option linter.unusedSimpArgs false
namespace Go.V
open Go.RowKit (Below)
section
variable {P : Program} {G : GT} {N : Nat} {sg : FuncId → Option Sm} {an : An} {lv cz : Nat} {gw : World → Prop} {w0 : World} {rr : Option Nat}
/-- What the ways' ends say of frame and world. -/
def CP (cz : Nat) (w0 : World) (N : Nat) (ρ : Ren) (R : St3 → Prop) : Exit → Act → World → Prop
  | .normal, a, w => ∃ c s ρ', R (.normal, c, s) ∧ Rel w0 N ρ' s a w ∧ ρ.up cz ρ'
  | .exit id, a, w => ∃ c s ρ', R (.exit id, c, s) ∧ Rel w0 N ρ' s a w ∧ ρ.up cz ρ'
  | .ret, a, w => ∃ c s ρ', R (.ret, c, s) ∧ Rel w0 N ρ' s a w ∧ ρ.up cz ρ'
  | _, _, _ => False
theorem CP.mono {ρ ρ1 : Ren} {R R' : St3 → Prop} (hle : ρ.up cz ρ1) (h : ∀ r, R r → R' r) : ∀ e a w, CP cz w0 N ρ1 R e a w → CP cz w0 N ρ R' e a w := by
  intro e a w hc
  cases e <;> simp only [CP] at hc ⊢
  all_goals (try exact hc)
  all_goals (obtain ⟨c, s, ρ', h1, h2, h3⟩ := hc; exact ⟨c, s, ρ', h _ h1, h2, Ren.up_trans hle h3⟩)
structure Env (P : Program) (G : GT) (sg : FuncId → Option Sm) (gw : World → Prop) : Prop where
  mixed : P.follows .mixedOrders = true
  sums : ∀ f σ, sg f = some σ → SumOK P G gw f σ
  stable : ∀ w w', gw w → Below w.heap.size w w' → gw w'
theorem Amb.up {ρ ρ' : Ren} (h : Amb P G gw ρ) (hle : ρ.up cz ρ') : Amb P G gw ρ' where
  gl := fun g n F e => by
    obtain ⟨a, h1, h2, h3⟩ := h.gl g n F e
    exact ⟨a, h1, h2, fun j hj => by obtain ⟨y, hy, hr⟩ := h3 j hj; exact ⟨y, hle.κ _ _ _ hy, D.rel_mono hle.κ _ _ hr⟩⟩
  cl := fun φ x hx => CloOK.mono hle.κ (h.cl φ x (by rw [← hle.cl]; exact hx))
theorem Rel.drew {ρ : Ren} {s : S} {a : Act} {w : World} (h : Rel w0 N ρ s a w) : Rel w0 N ρ s a { w with drawn := w.drawn + 1 } where
  sz := h.sz
  bel := h.bel.trans ⟨rfl, rfl, rfl, Nat.le_refl _, fun _ _ => rfl⟩
  df := h.df
  tm := h.tm
  dom := h.dom
  hp := by
    intro m k hk
    obtain ⟨b, h1, h2, h3, h4⟩ := h.hp m k hk
    exact ⟨b, h1, h2, Blk.rel_mono (w := w) (Ren.le_refl _) rfl h3, h4⟩
  inj := h.inj
  im := h.im
  dis := h.dis
  old := h.old
  fx := h.fx
  lp := h.lp
  dfx := h.dfx
theorem rtree_sound (E : Env P G sg gw) (hgw0 : gw w0) {id : Nat} {ops : Array Oper} {draw : Bool} {wk : Nat → Bool} {c : Nat} {s : S} {R : St3 → Prop} {ρ : Ren} {a : Act} {w : World} (hrel : Rel w0 N ρ s a w) (hgl : Amb P G gw ρ) :
    ∀ {fuel : Nat} {orc : Nat → Option Bool}, (rtree P G N sg ops draw wk c s fuel orc).wp R → (Code.region id ops draw).wpIn (Fd rr) 0 P (CP cz w0 N ρ R) a w := by
  intro fuel
  induction fuel with
  | zero => intro orc h; exact h.elim
  | succ fuel ih =>
    intro orc h
    simp only [rtree] at h
    split at h
    · rename_i L s' c' p hr
      split at h
      · rename_i hok
        obtain ⟨hp, hR⟩ := T.wp_needs h
        have hQ : ∀ a' w' ρ', Rel w0 N ρ' s' a' w' → ρ.le ρ' → CP cz w0 N ρ R .normal a' w' := fun a' w' ρ' h1 h2 => ⟨c', s', ρ', hR, h1, h2.up⟩
        cases draw with
        | false => exact wpIn_region (region_seq E.sums E.stable hgw0 hr hp hrel hgl hQ)
        | true => exact wpIn_region_any E.mixed (region_any E.sums E.stable hgw0 hr hp (by simpa using hok) hrel.drew hgl hQ)
      · exact h.elim
    · rename_i k b _
      cases b with
      | true => exact ih (h.1 rfl)
      | false => exact ih (h.2 rfl)
    · exact h.elim
/-- A round that goes on begins again. -/
theorem again_sound {c n : Nat} {s : S} {W dead : List Nat} {its i2 : List It} {x : Tys (shapes its)} (hok : itsOk s c W its = true) (hok2 : itsOk s c W i2 = true) (hkT : keepT s c W N = true) (hkH : keepH s c c = true)
    (hdl : ∀ m, m ∈ dead → m < c) (hdt : ∀ m, m ∈ dead → m ∉ tblks s its) (hsame : ∀ m, m ∈ tblks s its ↔ m ∈ tblks s i2) {e : Ex} {c' : Nat} {s' : S} (hk : Keeps (c + n) (stOf s c W dead its x) (wkIn c s its) W (e, c', s'))
    {ρ : Ren} {a : Act} {w : World} (h : Rel w0 N ρ s' a w) {y : Tys (shapes i2)} {p : List Prop} (ha : again lv c s s' i2 = some (y, p)) (hlv : ∀ k l r, ρ.lp k = some (l, r) → k < lv) (hp : All p) : ∃ ρ', Rel w0 N ρ' (stOf s c W dead i2 y) a w ∧ ρ.up c ρ' := by
  unfold again at ha
  split at ha
  case h_2 => cases ha
  rename_i hst
  unfold again0 at ha
  split at ha
  · rename_i cs hg
    split at ha
    · rename_i y' p' q hr
      split at ha
      · rename_i hq
        simp only [Option.some.injEq, Prod.mk.injEq] at ha
        obtain ⟨rfl, rfl⟩ := ha
        simp only [Bool.and_eq_true] at hq
        obtain ⟨k1, k2, k3⟩ := hk
        have hwk : ∀ m, m < c → m ∉ tblks s its → wkIn c s its m = false := by
          intro m hm ht
          simp only [wkIn, Bool.or_eq_false_iff]
          exact ⟨by rw [← Bool.not_eq_true, Nat.ble_eq]; omega, by rw [← Bool.not_eq_true, memN_iff]; exact ht⟩
        refine reload h hok2 hkT hkH (fun m hm ht => hdt m hm ((hsame m).2 ht)) (fun t ht => (k2 t ht).trans (stOf_keepT hok ht)) ?_ ?_ hg hr hp hq.1 (fun k l r hk => stSame_at hst (hlv k l r hk)) ?_
        · intro m hm hd ht
          have ht' : m ∉ tblks s its := fun h => ht ((hsame m).1 h)
          exact (k3 m (by omega) (hwk m hm ht')).trans (stOf_keepH hm hd ht')
        · intro m hm hd
          have ht' := hdt m (memN_iff.1 hd)
          have := k3 m (by omega) (hwk m hm ht')
          simp only at this
          rw [this]; exact stOf_dead hm hd
        · intro r hr
          have := List.all_eq_true.1 hq.2 r hr
          exact .inl (by simpa [Nat.ble_eq] using this)
      · cases ha
    · cases ha
  · cases ha
theorem enter_sound {c : Nat} {s : S} {W : List Nat} {its : List It} {x : Tys (shapes its)} {p : List Prop} {dead : List Nat} (he : enter N c s W its = some (x, p, dead)) (hp : All p)
    {ρ : Ren} {a : Act} {w : World} (h : Rel w0 N ρ s a w) : itsOk s c W its = true ∧ keepT s c W N = true ∧ keepH s c c = true ∧ (∀ m, m ∈ dead → m < c) ∧ (∀ m, m ∈ dead → m ∉ tblks s its) ∧ ∃ ρ', Rel w0 N ρ' (stOf s c W dead its x) a w ∧ ρ.up c ρ' := by
  obtain ⟨cs, q, hg, hr, rfl, hok, hkT, hkH, hnd, hall⟩ := enter_spec he
  have h1 : ∀ m, m ∈ q.map (·.m) → m < c := by
    intro m hm
    obtain ⟨r, hr, rfl⟩ := List.mem_map.1 hm
    exact (hall r hr).1
  have h2 : ∀ m, m ∈ q.map (·.m) → m ∉ tblks s its := by
    intro m hm
    obtain ⟨r, hr, rfl⟩ := List.mem_map.1 hm
    exact (hall r hr).2
  refine ⟨hok, hkT, hkH, h1, h2, reload h hok hkT hkH h2 (fun _ _ => rfl) (fun _ _ _ _ => rfl) ?_ hg hr hp hnd (fun _ _ _ _ => rfl) ?_⟩
  · intro m hm hd
    obtain ⟨r, hrq, rfl⟩ := List.mem_map.1 (memN_iff.1 hd)
    obtain ⟨⟨k, hk, _⟩, _⟩ := rdL_blk (ρ' := ρ) h (fun _ _ _ h => h) hr hp r hrq
    rw [hk]; simp
  · intro r hr
    exact .inr (List.mem_map_of_mem hr)
theorem lv_up {ρ ρ' : Ren} (h : ∀ k l r, ρ.lp k = some (l, r) → k < lv) (hle : ρ.up cz ρ') : ∀ k l r, ρ'.lp k = some (l, r) → k < lv := by
  intro k l r hk
  rw [hle.lp] at hk
  exact h k l r hk
/-- What is asked of what runs regions and loops over functions. K: what is known of the surroundings all the time. -/
structure XOK (P : Program) (G : GT) (N : Nat) (gw : World → Prop) (lv cz : Nat) (w0 : World) (rr : Option Nat) (K : Ren → Prop) (rx : RX) (rf : RF) : Prop where
  kA : ∀ {ρ}, K ρ → Amb P G gw ρ
  kL : ∀ {ρ}, K ρ → ∀ k l r, ρ.lp k = some (l, r) → k < lv
  kU : ∀ {ρ ρ'}, K ρ → ρ.up cz ρ' → K ρ'
  xk : ∀ id ops draw wk c s, (rx ops draw wk c s).all (Keeps c s wk (dsts (.region id ops draw)))
  fk : ∀ g ps x y wk c s, (rf g ps x y wk c s).all (Keeps c s wk [])
  xs : ∀ {id ops draw wk c s R ρ a w}, Rel w0 N ρ s a w → K ρ → cz ≤ c → (rx ops draw wk c s).wp R → (Code.region id ops draw).wpIn (Fd rr) 0 P (CP cz w0 N ρ R) a w
  fs : ∀ {g ps x y wk c s R ρ a w}, Rel w0 N ρ s a w → K ρ → cz ≤ c → (rf g ps x y wk c s).wp R → (Code.rangeFunc g ps x y).wpIn (Fd rr) 0 P (CP cz w0 N ρ R) a w
/-- Regions as they are; no loops over functions. -/
def rx0 (P : Program) (G : GT) (N : Nat) (sg : FuncId → Option Sm) (fuel : Nat) : RX := fun ops draw wk c s => rtree P G N sg ops draw wk c s fuel (fun _ => none)
def rf0 : RF := fun _ _ _ _ _ _ _ => .fail
theorem xok0 (E : Env P G sg gw) (hgw0 : gw w0) {fuel : Nat} : XOK P G N gw lv cz w0 rr (fun ρ => Amb P G gw ρ ∧ ∀ k l r, ρ.lp k = some (l, r) → k < lv) (rx0 P G N sg fuel) rf0 where
  kA := fun h => h.1
  kL := fun h => h.2
  kU := fun h hle => ⟨h.1.up hle, lv_up h.2 hle⟩
  xk := fun id ops draw wk c s => rtree_keeps
  fk := fun _ _ _ _ _ _ _ => trivial
  xs := fun hrel hgl _ h => rtree_sound E hgw0 hrel hgl.1 h
  fs := fun _ _ _ h => h.elim
theorem exec_sound {K : Ren → Prop} {rx : RX} {rf : RF} (E : XOK P G N gw lv cz w0 rr K rx rf) (fuel : Nat) : ∀ (code : Code) {wk : Nat → Bool} {c : Nat} {s : S} {R : St3 → Prop} {ρ : Ren} {a : Act} {w : World}, Rel w0 N ρ s a w → K ρ → cz ≤ c →
    (exec G N an lv rx rf fuel code wk c s).wp R → code.wpIn (Fd rr) 0 P (CP cz w0 N ρ R) a w := by
  intro code
  induction code with
  | skip => intro wk c s R ρ a w hrel hgl hcz h; exact wpIn_skip ⟨c, s, ρ, h, hrel, Ren.up_refl _⟩
  | region id ops draw => intro wk c s R ρ a w hrel hgl hcz h; exact E.xs hrel hgl hcz h
  | rangeFunc g ps x y => intro wk c s R ρ a w hrel hgl hcz h; exact E.fs hrel hgl hcz h
  | seq x y ihx ihy =>
    intro wk c s R ρ a w hrel hgl hcz h
    simp only [exec] at h
    have h1 := T.wp_all (T.wp_bind h) (exec_keeps E.xk E.fk fuel x _ _ _)
    refine wpIn_seq (wpIn_mono (ihx hrel hgl hcz h1) ?_)
    intro e a' w' hc
    cases e <;> simp only [CP, Exit.then] at hc ⊢
    case normal =>
      obtain ⟨c', s', ρ', ⟨hr, hk, _⟩, hrel', hle⟩ := hc
      exact wpIn_mono (ihy hrel' (E.kU hgl hle) (Nat.le_trans hcz hk) hr) (CP.mono hle (fun _ h => h))
    case exit id => obtain ⟨c', s', ρ', ⟨hr, _⟩, h2⟩ := hc; exact ⟨c', s', ρ', hr, h2⟩
    case ret => obtain ⟨c', s', ρ', ⟨hr, _⟩, h2⟩ := hc; exact ⟨c', s', ρ', hr, h2⟩
  | cond x y z ihy ihz =>
    intro wk c s R ρ a w hrel hgl hcz h
    simp only [exec] at h
    have hview : View G ρ s a w := ⟨fun t v ht => (hrel.tm t v ht).2, fun m k hk => by obtain ⟨b, h1, h2, h3, _⟩ := hrel.hp m k hk; exact ⟨b, h1, h2, h3⟩, hrel.im, (E.kA hgl).gl⟩
    split at h
    · rename_i hl; exact wpIn_cond_true (look_rel hview hl) (ihy hrel hgl hcz h)
    · rename_i hl; exact wpIn_cond_false (look_rel hview hl) (ihz hrel hgl hcz h)
    · rename_i b hl
      exact wpIn_cond_split (look_rel hview hl) (fun hb => ihy hrel hgl hcz (h.1 hb)) (fun hb => ihz hrel hgl hcz (h.2 hb))
    · exact h.elim
  | block id x ih =>
    intro wk c s R ρ a w hrel hgl hcz h
    simp only [exec] at h
    have h1 := T.wp_bind h
    refine wpIn_block (wpIn_mono (ih hrel hgl hcz h1) ?_)
    intro e a' w' hc
    cases e <;> simp only [CP, Exit.inBlock] at hc ⊢
    case normal => exact hc
    case ret => exact hc
    case exit i =>
      obtain ⟨c', s', ρ', hr, hrel', hle⟩ := hc
      split at hr
      · rename_i hb
        have := Nat.eq_of_beq_eq_true hb
        rw [if_pos this]
        exact ⟨c', s', ρ', hr, hrel', hle⟩
      · rename_i hb
        rw [if_neg (by intro e; subst e; simp at hb)]
        exact ⟨c', s', ρ', hr, hrel', hle⟩
  | loop x ih =>
    intro wk c s R ρ a w hrel hgl hcz h
    simp only [exec] at h
    split at h
    · have key : ∀ n c s, cz ≤ c → (loopN (exec G N an lv rx rf fuel x wk) n c s).wp R → ∀ ρ1 a w, Rel w0 N ρ1 s a w → ρ.up cz ρ1 → Code.roundsIn (Fd rr) 0 P x (CP cz w0 N ρ R) n a w := by
        intro n
        induction n with
        | zero => intro c s _ h; exact h.elim
        | succ n ihn =>
          intro c s hcz h ρ1 a w hrel1 hle1
          simp only [loopN] at h
          have h1 := T.wp_all (T.wp_bind h) (exec_keeps E.xk E.fk fuel x _ _ _)
          rw [roundsIn_succ]
          refine wpIn_mono (ih hrel1 (E.kU hgl hle1) hcz h1) ?_
          intro e a' w' hc
          cases e <;> simp only [CP, Exit.then] at hc ⊢
          case normal =>
            obtain ⟨c', s', ρ', ⟨hr, hkc, _⟩, hrel', hle⟩ := hc
            exact ihn c' s' (Nat.le_trans hcz hkc) hr ρ' a' w' hrel' (Ren.up_trans hle1 hle)
          case exit id => obtain ⟨c', s', ρ', ⟨hr, _⟩, hrel', hle⟩ := hc; exact ⟨c', s', ρ', hr, hrel', Ren.up_trans hle1 hle⟩
          case ret => obtain ⟨c', s', ρ', ⟨hr, _⟩, hrel', hle⟩ := hc; exact ⟨c', s', ρ', hr, hrel', Ren.up_trans hle1 hle⟩
      exact wpIn_loop_rounds fuel (key fuel c s hcz h ρ a w hrel (Ren.up_refl _))
    · rename_i i1 _
      split at h
      · rename_i x0 p dead he
        split at h
        · rename_i hw
          obtain ⟨hp, I, μ, hI0, hI⟩ := T.wp_needs h
          obtain ⟨hok, hkT, hkH, hdl, hdt, ρ1, hrel1, hup1⟩ := enter_sound he hp hrel
          have key : ∀ n y, I y → μ y < n → ∀ ρ1 a w, Rel w0 N ρ1 (stOf s c (dsts x) dead i1 y) a w → ρ.up cz ρ1 → Code.roundsIn (Fd rr) 0 P x (CP cz w0 N ρ R) n a w := by
            intro n
            induction n with
            | zero => intro y _ h; omega
            | succ n ihn =>
              intro y hIy hlt ρ1 a w hrel1 hle1
              have h1 := T.wp_all (T.wp_bind (hI y hIy)) (exec_keeps E.xk E.fk fuel x _ _ _)
              rw [roundsIn_succ]
              refine wpIn_mono (ih hrel1 (E.kU hgl hle1) (Nat.le_trans hcz (Nat.le_add_right _ _)) h1) ?_
              intro e a' w' hc
              cases e <;> simp only [CP, Exit.then] at hc ⊢
              case normal =>
                obtain ⟨c', s', ρ', ⟨hr, hkp⟩, hrel', hle⟩ := hc
                simp only [roundEnd] at hr
                split at hr
                · rename_i y2 p2 ha
                  obtain ⟨hp2, hI2, hμ2⟩ := T.wp_needs hr
                  obtain ⟨ρ2, hrel2, hup2⟩ := again_sound hok hok hkT hkH hdl hdt (fun m => Iff.rfl) hkp hrel' ha (E.kL (E.kU (E.kU hgl hle1) hle)) hp2
                  exact ihn y2 hI2 (by omega) ρ2 a' w' hrel2 (Ren.up_trans hle1 (Ren.up_trans hle (hup2.less hcz)))
                · exact hr.elim
              case exit id => obtain ⟨c', s', ρ', ⟨hr, _⟩, hrel', hle⟩ := hc; exact ⟨c', s', ρ', hr, hrel', Ren.up_trans hle1 hle⟩
              case ret => obtain ⟨c', s', ρ', ⟨hr, _⟩, hrel', hle⟩ := hc; exact ⟨c', s', ρ', hr, hrel', Ren.up_trans hle1 hle⟩
          exact wpIn_loop_rounds _ (key (μ x0 + 1) x0 hI0 (by omega) ρ1 a w hrel1 (hup1.less hcz))
        · exact h.elim
      · exact h.elim
    · rename_i i1 i2 _
      split at h
      · rename_i x0 p dead he
        split at h
        · rename_i hw
          simp only [Bool.and_eq_true] at hw
          obtain ⟨⟨hw, hok2⟩, hs1, hs2⟩ := hw
          obtain ⟨hp, I, μ, hI0, hI1, hI2⟩ := T.wp_needs h
          obtain ⟨hok, hkT, hkH, hdl, hdt, ρ1, hrel1, hup1⟩ := enter_sound he hp hrel
          have hsame : ∀ m, m ∈ tblks s i1 ↔ m ∈ tblks s i2 := fun m => ⟨fun h => memN_iff.1 (List.all_eq_true.1 hs2 m h), fun h => memN_iff.1 (List.all_eq_true.1 hs1 m h)⟩
          have hdt2 : ∀ m, m ∈ dead → m ∉ tblks s i2 := fun m hm ht => hdt m hm ((hsame m).2 ht)
          have hwk2 := wkIn_congr (c := c) hs1 hs2
          have key : ∀ n y, I y → μ y < n → ∀ ρ1 a w, Rel w0 N ρ1 (match y with | .inl y => stOf s c (dsts x) dead i1 y | .inr y => stOf s c (dsts x) dead i2 y) a w → ρ.up cz ρ1 → Code.roundsIn (Fd rr) 0 P x (CP cz w0 N ρ R) n a w := by
            intro n
            induction n with
            | zero => intro y _ h; omega
            | succ n ihn =>
              -- what a round's end leads to
              have fin : ∀ (its : List It) (y : Tys (shapes its)) (m : Nat), itsOk s c (dsts x) its = true → (∀ m, m ∈ dead → m ∉ tblks s its) → (∀ m, m ∈ tblks s its ↔ m ∈ tblks s i1) → (∀ m, m ∈ tblks s its ↔ m ∈ tblks s i2) → ∀ (μy : Nat), μy < n + 1 → ∀ ρ1 : Ren, ρ.up cz ρ1 →
                  ∀ e a' w', CP cz w0 N ρ1 (fun r => ((roundEnd2 lv c s i1 i2 r).wp (LoopP I μ μy R)) ∧ Keeps (c + m) (stOf s c (dsts x) dead its y) (wkIn c s its) (dsts x) r) e a' w' →
                  Exit.then (Code.roundsIn (Fd rr) 0 P x (CP cz w0 N ρ R) n) (CP cz w0 N ρ R) e a' w' := by
                intro its y m hoki hdti hsi1 hsi2 μy hlt ρ1 hle1 e a' w' hc
                cases e <;> simp only [CP, Exit.then] at hc ⊢
                case normal =>
                  obtain ⟨c', s', ρ', ⟨hr, hkp⟩, hrel', hle⟩ := hc
                  simp only [roundEnd2] at hr
                  split at hr
                  · rename_i y2 p2 ha
                    obtain ⟨hp2, hI2, hμ2⟩ := T.wp_needs hr
                    obtain ⟨ρ2, hrel2, hup2⟩ := again_sound hoki hok hkT hkH hdl hdti hsi1 hkp hrel' ha (E.kL (E.kU (E.kU hgl hle1) hle)) hp2
                    exact ihn (.inl y2) hI2 (by omega) ρ2 a' w' hrel2 (Ren.up_trans hle1 (Ren.up_trans hle (hup2.less hcz)))
                  · split at hr
                    · rename_i y2 p2 ha
                      obtain ⟨hp2, hI2, hμ2⟩ := T.wp_needs hr
                      obtain ⟨ρ2, hrel2, hup2⟩ := again_sound hoki hok2 hkT hkH hdl hdti hsi2 hkp hrel' ha (E.kL (E.kU (E.kU hgl hle1) hle)) hp2
                      exact ihn (.inr y2) hI2 (by omega) ρ2 a' w' hrel2 (Ren.up_trans hle1 (Ren.up_trans hle (hup2.less hcz)))
                    · exact hr.elim
                case exit id => obtain ⟨c', s', ρ', ⟨hr, _⟩, hrel', hle⟩ := hc; exact ⟨c', s', ρ', hr, hrel', Ren.up_trans hle1 hle⟩
                case ret => obtain ⟨c', s', ρ', ⟨hr, _⟩, hrel', hle⟩ := hc; exact ⟨c', s', ρ', hr, hrel', Ren.up_trans hle1 hle⟩
              intro y hIy hlt ρ1 a w hrel1 hle1
              rw [roundsIn_succ]
              cases y with
              | inl y =>
                have h1 := T.wp_all (T.wp_bind (hI1 y hIy)) (exec_keeps E.xk E.fk fuel x _ _ _)
                exact wpIn_mono (ih hrel1 (E.kU hgl hle1) (Nat.le_trans hcz (Nat.le_add_right _ _)) h1) (fin i1 y _ hok hdt (fun m => Iff.rfl) hsame _ hlt ρ1 hle1)
              | inr y =>
                have h1 := T.wp_all (T.wp_bind (hI2 y hIy)) (exec_keeps E.xk E.fk fuel x _ _ _)
                rw [hwk2] at h1
                exact wpIn_mono (ih hrel1 (E.kU hgl hle1) (Nat.le_trans hcz (Nat.le_add_right _ _)) h1) (fin i2 y _ hok2 hdt2 (fun m => (hsame m).symm) (fun m => Iff.rfl) _ hlt ρ1 hle1)
          exact wpIn_loop_rounds _ (key (μ (.inl x0) + 1) (.inl x0) hI0 (by omega) ρ1 a w hrel1 (hup1.less hcz))
        · exact h.elim
      · exact h.elim
  | exit id => intro wk c s R ρ a w hrel hgl hcz h; exact wpIn_exit ⟨c, s, ρ, h, hrel, Ren.up_refl _⟩
  | ret => intro wk c s R ρ a w hrel hgl hcz h; exact wpIn_ret ⟨c, s, ρ, h, hrel, Ren.up_refl _⟩
  | _ => intro wk c s R ρ a w hrel hgl hcz h; exact h.elim
end
end Go.V
end
end

section
set_option linter.unusedVariables false
set_option linter.unusedSimpArgs false
namespace Go.Eng
open Go.RowKit (Below)
/-- Two lists, related part by part. -/
inductive F2 {α β : Type} (R : α → β → Prop) : List α → List β → Prop where
  | nil : F2 R [] []
  | cons {a : α} {b : β} {l : List α} {k : List β} : R a b → F2 R l k → F2 R (a :: l) (b :: k)
/-- A renaming: of each name the block that bears it, and a capacity. -/
abbrev Ren := Nat → Option (Nat × Nat)
/-- What one cell holds. 'num', 'lit': known; 'int', 'bool': any term. -/
inductive C where
  | num (k : IntKind) (n : Int)
  | int (k : IntKind) (n : Int)
  | lit (b : Bool)
  | bool (b : Bool)
  | str (s : ByteArray)
  | nil
  | ptr (m off : Nat)
  | nsl
  | sl (m off len cap : Nat)
  | gsl (m len : Nat)
  | fn (f : FuncId) (caps : List (Nat × Nat))
  | op (v : Value)
/-- A value: a cell, or a struct or array. -/
inductive A where
  | c (x : C)
  | agg (cs : List C)
/-- What a slot holds: a value, or several results. -/
inductive V where
  | a (x : A)
  | tup (xs : List A)
def PtrRel (ρ : Ren) (p : Nat × Nat) (x : Value) : Prop := ∃ b, ρ p.1 = some b ∧ x = .pointer (some ⟨b.1, p.2, none⟩)
def C.rel (ρ : Ren) : C → Value → Prop
  | .num k n, x => x = .int k n
  | .int k n, x => x = .int k n
  | .lit b, x => x = .bool b
  | .bool b, x => x = .bool b
  | .str s, x => x = .string s
  | .nil, x => x = .pointer none
  | .ptr m off, x => PtrRel ρ (m, off) x
  | .nsl, x => x = .slice none 0 0
  | .sl m off len cap, x => ∃ b, ρ m = some b ∧ x = .slice (some ⟨b.1, off, none⟩) len cap
  | .gsl m len, x => ∃ b, ρ m = some b ∧ x = .slice (some ⟨b.1, 0, none⟩) len b.2
  | .fn f caps, x => ∃ xs : List Value, F2 (PtrRel ρ) caps xs ∧ x = .func (.func f) #[] xs.toArray
  | .op v, x => x = v ∧ v.cells = #[v] ∧ (∀ cs, v ≠ .agg cs)  ∧ (∀ cs, v ≠ .tuple cs)
def A.rel (ρ : Ren) : A → Value → Prop
  | .c x, v => x.rel ρ v
  | .agg cs, v => ∃ xs : List Value, F2 (C.rel ρ) cs xs ∧ v = .agg xs.toArray
def V.rel (ρ : Ren) : V → Value → Prop
  | .a x, v => x.rel ρ v
  | .tup xs, v => ∃ ys : List Value, F2 (A.rel ρ) xs ys ∧ v = .tuple ys.toArray
def Ren.le (ρ ρ' : Ren) : Prop := ∀ m b, ρ m = some b → ρ' m = some b
theorem Ren.le_refl (ρ : Ren) : ρ.le ρ := fun _ _ h => h
theorem Ren.le_trans {a b c : Ren} (h : a.le b) (k : b.le c) : a.le c := fun m x e => k m x (h m x e)
theorem f2_imp {α β : Type} {R S : α → β → Prop} (h : ∀ a b, R a b → S a b) : ∀ {l : List α} {k : List β}, F2 R l k → F2 S l k
  | _, _, .nil => .nil
  | _, _, .cons x xs => .cons (h _ _ x) (f2_imp h xs)
theorem PtrRel.mono {ρ ρ' : Ren} (h : ρ.le ρ') (p : Nat × Nat) (x : Value) : PtrRel ρ p x → PtrRel ρ' p x
  | ⟨b, e, r⟩ => ⟨b, h _ _ e, r⟩
theorem C.rel_mono {ρ ρ' : Ren} (h : ρ.le ρ') (c : C) (x : Value) (r : c.rel ρ x) : c.rel ρ' x := by
  cases c <;> simp only [C.rel] at r ⊢ <;> try exact r
  · exact PtrRel.mono h _ _ r
  · obtain ⟨b, e, r⟩ := r; exact ⟨b, h _ _ e, r⟩
  · obtain ⟨b, e, r⟩ := r; exact ⟨b, h _ _ e, r⟩
  · obtain ⟨xs, e, r⟩ := r; exact ⟨xs, f2_imp (PtrRel.mono h) e, r⟩
theorem A.rel_mono {ρ ρ' : Ren} (h : ρ.le ρ') (c : A) (x : Value) (r : c.rel ρ x) : c.rel ρ' x := by
  cases c with
  | c y => exact C.rel_mono h y x r
  | agg cs => obtain ⟨xs, e, r⟩ := r; exact ⟨xs, f2_imp (C.rel_mono h) e, r⟩
theorem V.rel_mono {ρ ρ' : Ren} (h : ρ.le ρ') (c : V) (x : Value) (r : c.rel ρ x) : c.rel ρ' x := by
  cases c with
  | a y => exact A.rel_mono h y x r
  | tup cs => obtain ⟨xs, e, r⟩ := r; exact ⟨xs, f2_imp (A.rel_mono h) e, r⟩
/-- A related cell is one cell. -/
theorem C.rel_cells {ρ : Ren} {c : C} {x : Value} (r : c.rel ρ x) : x.cells = #[x] := by
  cases c <;> simp only [C.rel, PtrRel] at r
  case op v => obtain ⟨rfl, h, _⟩ := r; exact h
  case ptr => obtain ⟨b, _, rfl⟩ := r; rfl
  case sl => obtain ⟨b, _, rfl⟩ := r; rfl
  case gsl => obtain ⟨b, _, rfl⟩ := r; rfl
  case fn => obtain ⟨b, _, rfl⟩ := r; rfl
  all_goals (subst r; rfl)
theorem C.rel_noAgg {ρ : Ren} {c : C} {x : Value} (r : c.rel ρ x) : (∀ cs, x ≠ .agg cs) ∧ (∀ cs, x ≠ .tuple cs) := by
  cases c <;> simp only [C.rel, PtrRel] at r
  case op v => obtain ⟨rfl, _, h⟩ := r; exact h
  case ptr => obtain ⟨b, _, rfl⟩ := r; simp
  case sl => obtain ⟨b, _, rfl⟩ := r; simp
  case gsl => obtain ⟨b, _, rfl⟩ := r; simp
  case fn => obtain ⟨b, _, rfl⟩ := r; simp
  all_goals (subst r; simp)
/-- A block: known whole; known in part (read alone); one that an append may make longer; forgotten. -/
inductive Blk where
  | known (e : TypeId) (cs : List C)
  | part (base : Nat) (cs : List C)
  | dead
def Blk.cell : Blk → Nat → Option C
  | .known _ cs, o => cs[o]?
  | .part base cs, o => match Nat.ble base o with | true => cs[o - base]? | false => none
  | .dead, _ => none
def Blk.rel (ρ : Ren) (b : Nat) (w : World) : Blk → Prop
  | .known e cs => ∃ xs : List Value, F2 (C.rel ρ) cs xs ∧ w.heap[b]? = some (.cells xs.toArray e (0, 0))
  | .part base cs => ∀ j c, cs[j]? = some c → ∃ x, c.rel ρ x ∧ w.cell? ⟨b, base + j, none⟩ = some x
  | .dead => True
theorem f2_get {α β : Type} {R : α → β → Prop} : ∀ {l : List α} {k : List β}, F2 R l k → ∀ {i : Nat} {a : α}, l[i]? = some a → ∃ b, k[i]? = some b ∧ R a b
  | _, _, .nil, i, a, h => by simp at h
  | _, _, .cons (a := a₀) (b := b₀) x xs, 0, a, h => by simp at h; subst h; exact ⟨b₀, rfl, x⟩
  | _, _, .cons x xs, i + 1, a, h => by simp at h; simpa using f2_get xs h
theorem f2_len {α β : Type} {R : α → β → Prop} : ∀ {l : List α} {k : List β}, F2 R l k → l.length = k.length
  | _, _, .nil => rfl
  | _, _, .cons _ xs => by simp [f2_len xs]
theorem f2_set {α β : Type} {R : α → β → Prop} {a : α} {b : β} (h : R a b) : ∀ {l : List α} {k : List β}, F2 R l k → ∀ i, F2 R (l.set i a) (k.set i b)
  | _, _, .nil, i => .nil
  | _, _, .cons x xs, 0 => .cons h xs
  | _, _, .cons x xs, i + 1 => .cons x (f2_set h xs i)
theorem Blk.rel_cell {ρ : Ren} {b : Nat} {w : World} {k : Blk} (h : k.rel ρ b w) {o : Nat} {c : C} (hc : k.cell o = some c) : ∃ x, c.rel ρ x ∧ w.cell? ⟨b, o, none⟩ = some x := by
  cases k with
  | known e cs =>
    obtain ⟨xs, hf, hh⟩ := h
    obtain ⟨x, hx, hr⟩ := f2_get hf hc
    exact ⟨x, hr, by simp [World.cell?, hh, hx]⟩
  | part base cs =>
    simp only [Blk.cell] at hc
    split at hc
    · rename_i hb
      have hb' : base ≤ o := Nat.le_of_ble_eq_true hb
      obtain ⟨x, hr, hx⟩ := h _ _ hc
      exact ⟨x, hr, by rw [show base + (o - base) = o by omega] at hx; exact hx⟩
    · cases hc
  | dead => simp [Blk.cell] at hc
theorem Blk.rel_mono {ρ ρ' : Ren} (hρ : ρ.le ρ') {b : Nat} {w w' : World} {k : Blk} (hw : w'.heap[b]? = w.heap[b]?) (h : k.rel ρ b w) : k.rel ρ' b w' := by
  cases k with
  | known e cs =>
    obtain ⟨xs, hf, hh⟩ := h
    exact ⟨xs, f2_imp (C.rel_mono hρ) hf, by rw [hw]; exact hh⟩
  | part base cs =>
    intro j c hc
    obtain ⟨x, hr, hx⟩ := h j c hc
    exact ⟨x, C.rel_mono hρ _ _ hr, by rw [World.cell?_of_block (w := w) hw]; exact hx⟩
  | dead => trivial
def upd {α : Type} (f : Nat → α) (k : Nat) (v : α) : Nat → α := fun x => match Nat.beq x k with | true => v | false => f x
theorem upd_same {α : Type} (f : Nat → α) (k : Nat) (v : α) : upd f k v k = v := by simp [upd]
theorem upd_ne {α : Type} (f : Nat → α) {k x : Nat} (v : α) (h : x ≠ k) : upd f k v x = f x := by
  have : Nat.beq x k = false := by cases hb : Nat.beq x k; rfl; exact absurd (Nat.eq_of_beq_eq_true hb) h
  simp [upd, this]
/-- The abstract state: what is known of the slots and of the named blocks. -/
structure S where
  tm : Nat → Option V
  hp : Nat → Option Blk
/-- How the abstract state stands to a frame and a world. w0, B: the world and its size when the function began; names below n0 are blocks that were there. -/
structure Rel (w0 : World) (n0 N : Nat) (ρ : Ren) (s : S) (a : Act) (w : World) : Prop where
  sz : a.tmps.size = N
  df : a.defers = []
  bel : Below w0.heap.size w0 w
  tm : ∀ t v, s.tm t = some v → t < N ∧ v.rel ρ (a.tmps.getD t undef)
  dom : ∀ m, s.hp m = none → ρ m = none
  hp : ∀ m k, s.hp m = some k → ∃ b, ρ m = some b ∧ b.1 < w.heap.size ∧ k.rel ρ b.1 w ∧ (n0 ≤ m → w0.heap.size ≤ b.1) ∧ (m < n0 → b.1 < w0.heap.size)
  inj : ∀ m m' b b', ρ m = some b → ρ m' = some b' → n0 ≤ m → n0 ≤ m' → m ≠ m' → b.1 ≠ b'.1
/-- What one operation does. -/
structure Eff where
  val : Option V
  nw : List Blk
  wr : Option (Nat × Blk)
def addNews (c : Nat) : List Blk → (Nat → Option Blk) → Nat → Option Blk
  | [], h => h
  | b :: bs, h => addNews (c + 1) bs (upd h c (some b))
def act (dst : Option Tmp) (c : Nat) (e : Eff) (s : S) : S :=
  { tm := match dst with | some d => upd s.tm d e.val | none => s.tm
    hp := addNews c e.nw (match e.wr with | some (m, b) => upd s.hp m (some b) | none => s.hp) }
theorem addNews_out {c m : Nat} : ∀ {bs : List Blk} {h : Nat → Option Blk}, (m < c ∨ c + bs.length ≤ m) → addNews c bs h m = h m := by
  intro bs
  induction bs generalizing c with
  | nil => intro h _; rfl
  | cons b bs ih =>
    intro h hm
    simp only [addNews, List.length_cons] at hm ⊢
    rw [ih (by omega), upd_ne _ _ (by omega)]
theorem addNews_in {c : Nat} : ∀ {bs : List Blk} {h : Nat → Option Blk} {i : Nat}, i < bs.length → addNews c bs h (c + i) = bs[i]? := by
  intro bs
  induction bs generalizing c with
  | nil => intro h i hi; simp at hi
  | cons b bs ih =>
    intro h i hi
    cases i with
    | zero => simp only [addNews]; rw [addNews_out (.inl (by omega))]; simp [upd_same]
    | succ i =>
      have := ih (c := c + 1) (h := upd h c (some b)) (i := i) (by simpa using hi)
      simp only [addNews]
      rw [show c + (i + 1) = c + 1 + i by omega, this]; simp
theorem put_getD (a : Act) (dst : Option Tmp) (v : Value) (t : Nat) (ht : t < a.tmps.size) :
    (a.put dst v).tmps.getD t undef = if dst = some t then v else a.tmps.getD t undef := by
  cases dst with
  | none => simp [Act.put]
  | some d =>
    simp only [Act.put, Array.getD_eq_getD_getElem?, Array.getElem?_setIfInBounds]
    by_cases h : d = t
    · subst h; simp [ht]
    · have : ¬ (some d = some t) := by simpa using h
      simp [h]
theorem put_size (a : Act) (dst : Option Tmp) (v : Value) : (a.put dst v).tmps.size = a.tmps.size := by
  cases dst <;> simp [Act.put]
theorem put_defers (a : Act) (dst : Option Tmp) (v : Value) : (a.put dst v).defers = a.defers := by
  cases dst <;> simp [Act.put]
/-- Slots behind one operation. -/
theorem Rel.tm_put {w0 : World} {n0 N : Nat} {ρ ρ' : Ren} {s : S} {a : Act} {w : World} (h : Rel w0 n0 N ρ s a w) (hρ : ρ.le ρ') {dst : Option Tmp} {val : Option V} {x : Value}
    (hd : ∀ d, dst = some d → d < N) (hv : ∀ v, dst ≠ none → val = some v → v.rel ρ' x) :
    ∀ t v, (match dst with | some d => upd s.tm d val | none => s.tm) t = some v → t < N ∧ v.rel ρ' ((a.put dst x).tmps.getD t undef) := by
  intro t v ht
  cases dst with
  | none => obtain ⟨h1, h2⟩ := h.tm t v ht; exact ⟨h1, V.rel_mono hρ _ _ h2⟩
  | some d =>
    by_cases e : t = d
    · subst e
      have hlt := hd t rfl
      simp only [upd_same] at ht
      refine ⟨hlt, ?_⟩
      rw [put_getD _ _ _ _ (by rw [h.sz]; exact hlt), if_pos rfl]
      exact hv v (by simp) ht
    · simp only [upd_ne _ _ e] at ht
      obtain ⟨h1, h2⟩ := h.tm t v ht
      refine ⟨h1, ?_⟩
      rw [put_getD _ _ _ _ (by rw [h.sz]; exact h1), if_neg (by simpa using fun h => e h.symm)]
      exact V.rel_mono hρ _ _ h2
/-- An operation that changes no block that was there (and may make new ones). -/
theorem Rel.grow {w0 : World} {n0 N : Nat} {ρ ρ' : Ren} {s : S} {a : Act} {w w' : World} (h : Rel w0 n0 N ρ s a w) {dst : Option Tmp} {c : Nat} {val : Option V} {nw : List Blk} {x : Value}
    (hd : ∀ d, dst = some d → d < N) (hn : n0 ≤ c) (hb : Below w.heap.size w w') (hρ : ρ.le ρ')
    (hnew : ∀ m, ρ m = none → (m < c ∨ c + nw.length ≤ m) → ρ' m = none)
    (hfresh : ∀ i, i < nw.length → s.hp (c + i) = none)
    (hv : ∀ v, dst ≠ none → val = some v → v.rel ρ' x)
    (hk : ∀ i k, nw[i]? = some k → ∃ b, ρ' (c + i) = some b ∧ w.heap.size ≤ b.1 ∧ b.1 < w'.heap.size ∧ k.rel ρ' b.1 w')
    (hi : ∀ i j b b', i < nw.length → j < nw.length → i ≠ j → ρ' (c + i) = some b → ρ' (c + j) = some b' → b.1 ≠ b'.1) :
    Rel w0 n0 N ρ' (act dst c ⟨val, nw, none⟩ s) (a.put dst x) w' where
  sz := by rw [put_size]; exact h.sz
  df := by rw [put_defers]; exact h.df
  bel := h.bel.trans (hb.mono h.bel.size)
  tm := h.tm_put hρ hd hv
  dom := by
    intro m hm
    simp only [act] at hm
    by_cases hin : m < c ∨ c + nw.length ≤ m
    · rw [addNews_out hin] at hm; exact hnew m (h.dom m hm) hin
    · exfalso
      have := addNews_in (c := c) (bs := nw) (h := s.hp) (i := m - c) (by omega)
      rw [show c + (m - c) = m by omega, hm] at this
      simp at this; omega
  hp := by
    intro m k hm
    simp only [act] at hm
    by_cases hin : m < c ∨ c + nw.length ≤ m
    · rw [addNews_out hin] at hm
      obtain ⟨b, h1, h2, h3, h4⟩ := h.hp m k hm
      exact ⟨b, hρ _ _ h1, Nat.lt_of_lt_of_le h2 hb.size, Blk.rel_mono hρ (hb.block _ h2) h3, h4⟩
    · have := addNews_in (c := c) (bs := nw) (h := s.hp) (i := m - c) (by omega)
      rw [show c + (m - c) = m by omega, hm] at this
      obtain ⟨b, h1, h2, h3, h4⟩ := hk (m - c) k this.symm
      rw [show c + (m - c) = m by omega] at h1
      exact ⟨b, h1, h3, h4, fun _ => Nat.le_trans h.bel.size h2, fun hlt => by omega⟩
  inj := by
    have old : ∀ m b, ρ' m = some b → (m < c ∨ c + nw.length ≤ m) → ρ m = some b := by
      intro m b hm hin
      cases hr : ρ m with
      | none => rw [hnew m hr hin] at hm; cases hm
      | some b' => rw [hρ _ _ hr] at hm; exact hm
    have isnew : ∀ m b, ρ' m = some b → ¬ (m < c ∨ c + nw.length ≤ m) → w.heap.size ≤ b.1 := by
      intro m b hm hin
      have hlt : m - c < nw.length := by omega
      obtain ⟨b', h1, h2, _⟩ := hk (m - c) nw[m - c] (List.getElem?_eq_getElem hlt)
      rw [show c + (m - c) = m by omega, hm] at h1
      cases h1; exact h2
    have isold : ∀ m b, ρ m = some b → b.1 < w.heap.size := by
      intro m b hm
      cases hr : s.hp m with
      | none => rw [h.dom m hr] at hm; cases hm
      | some k => obtain ⟨b', h1, h2, _⟩ := h.hp m k hr; rw [hm] at h1; cases h1; exact h2
    intro m m' b b' hm hm' hn1 hn2 hne
    by_cases i1 : m < c ∨ c + nw.length ≤ m
    · by_cases i2 : m' < c ∨ c + nw.length ≤ m'
      · exact h.inj m m' b b' (old _ _ hm i1) (old _ _ hm' i2) hn1 hn2 hne
      · have := isold _ _ (old _ _ hm i1); have := isnew _ _ hm' i2; omega
    · by_cases i2 : m' < c ∨ c + nw.length ≤ m'
      · have := isold _ _ (old _ _ hm' i2); have := isnew _ _ hm i1; omega
      · have e1 : c + (m - c) = m := by omega
        have e2 : c + (m' - c) = m' := by omega
        exact hi (m - c) (m' - c) b b' (by omega) (by omega) (by omega) (by rw [e1]; exact hm) (by rw [e2]; exact hm')
/-- An operation that writes into one block of the call's own. -/
theorem Rel.wrote {w0 : World} {n0 N : Nat} {ρ : Ren} {s : S} {a : Act} {w w' : World} (h : Rel w0 n0 N ρ s a w) {dst : Option Tmp} {c : Nat} {val : Option V} {m : Nat} {b : Nat × Nat} {k k' : Blk} {x : Value}
    (hd : ∀ d, dst = some d → d < N) (hm : s.hp m = some k) (hn : n0 ≤ m) (hb : ρ m = some b)
    (ho : w'.os = w.os) (ht : w'.tape = w.tape) (hu : w'.output = w.output) (hsz : w'.heap.size = w.heap.size) (hother : ∀ i, i ≠ b.1 → w'.heap[i]? = w.heap[i]?)
    (hk : k'.rel ρ b.1 w') (hv : ∀ v, dst ≠ none → val = some v → v.rel ρ x) :
    Rel w0 n0 N ρ (act dst c ⟨val, [], some (m, k')⟩ s) (a.put dst x) w' where
  sz := by rw [put_size]; exact h.sz
  df := by rw [put_defers]; exact h.df
  bel := by
    obtain ⟨b2, h1, h2, h3, h4, h5⟩ := h.hp m k hm
    rw [hb] at h1; cases h1
    have := h4 hn
    exact h.bel.trans ⟨ho, ht, hu, by omega, fun i hi => hother i (by omega)⟩
  tm := h.tm_put (Ren.le_refl _) hd hv
  dom := by
    intro i hi
    simp only [act, addNews] at hi
    by_cases e : i = m
    · subst e; rw [upd_same] at hi; cases hi
    · rw [upd_ne _ _ e] at hi; exact h.dom i hi
  hp := by
    intro i k2 hi
    simp only [act, addNews] at hi
    by_cases e : i = m
    · subst e
      rw [upd_same] at hi; cases hi
      obtain ⟨b2, h1, h2, h3, h4, h5⟩ := h.hp i k hm
      rw [hb] at h1; cases h1
      exact ⟨b, hb, by omega, hk, h4, h5⟩
    · rw [upd_ne _ _ e] at hi
      obtain ⟨b2, h1, h2, h3, h4, h5⟩ := h.hp i k2 hi
      have hne : b2.1 ≠ b.1 := by
        obtain ⟨b3, g1, g2, g3, g4, g5⟩ := h.hp m k hm
        rw [hb] at g1; cases g1
        by_cases hin : n0 ≤ i
        · exact h.inj i m b2 b h1 hb hin hn e
        · have := h5 (by omega); have := g4 hn; omega
      exact ⟨b2, h1, by omega, Blk.rel_mono (Ren.le_refl _) (hother _ hne) h3, h4, h5⟩
  inj := h.inj
end Go.Eng
end

section
namespace Go.Eng
/-- What is recorded of an operation in the text's order: the first new name, what it did (none: its guard said no), the names that it read. -/
structure Rec where
  c : Nat
  e : Option Eff
  rd : List Nat
def skip (dst : Option Tmp) (s : S) : S := { s with tm := match dst with | some d => upd s.tm d none | none => s.tm }
def doit (dst : Option Tmp) (r : Rec) (s : S) : S := match r.e with | some e => act dst r.c e s | none => skip dst s
/-- Names from one on, so many. -/
def names (c : Nat) : Nat → List Nat
  | 0 => []
  | n + 1 => c :: names (c + 1) n
theorem mem_names {c m : Nat} : ∀ {n : Nat}, m ∈ names c n ↔ c ≤ m ∧ m < c + n := by
  intro n
  induction n generalizing c with
  | zero => simp [names]
  | succ n ih => simp only [names, List.mem_cons, ih]; omega
def Rec.touch (r : Rec) : List Nat :=
  match r.e with
  | some e => (match e.wr with | some (m, _) => [m] | none => []) ++ names r.c e.nw.length
  | none => []
abbrev Item := Option Tmp × Rec
def runL (D : Nat → Bool) : List Item → Nat → S → S
  | [], _, s => s
  | x :: l, i, s => runL D l (i + 1) (if D i then doit x.1 x.2 s else s)
theorem doit_tm_ne (x : Item) (s : S) (t : Nat) (h : x.1 ≠ some t) : (doit x.1 x.2 s).tm t = s.tm t := by
  obtain ⟨d, r⟩ := x
  cases d with
  | none => unfold doit; split <;> rfl
  | some d =>
    have hne : t ≠ d := fun e => h (by simp [e])
    unfold doit
    split
    · simp only [act]; exact upd_ne _ _ hne
    · simp only [skip]; exact upd_ne _ _ hne
theorem doit_tm_eq (x : Item) (s s' : S) (t : Nat) (h : x.1 = some t) : (doit x.1 x.2 s).tm t = (doit x.1 x.2 s').tm t := by
  obtain ⟨d, r⟩ := x
  simp only at h; subst h
  unfold doit
  split
  · simp only [act, upd_same]
  · simp only [skip, upd_same]
theorem doit_hp_ne (x : Item) (s : S) (m : Nat) (h : m ∉ x.2.touch) : (doit x.1 x.2 s).hp m = s.hp m := by
  obtain ⟨d, r⟩ := x
  unfold doit
  simp only [Rec.touch] at h
  split
  · rename_i e he
    rw [he] at h
    simp only [List.mem_append, mem_names, not_or] at h
    simp only [act]
    rw [addNews_out (by omega)]
    cases hw : e.wr with
    | none => rfl
    | some p =>
      rw [hw] at h
      exact upd_ne _ _ (by simpa using h.1)
  · rfl
theorem addNews_congr {m : Nat} : ∀ {bs : List Blk} {c : Nat} {h h' : Nat → Option Blk}, h m = h' m → addNews c bs h m = addNews c bs h' m := by
  intro bs
  induction bs with
  | nil => intro c h h' e; exact e
  | cons b bs ih =>
    intro c h h' e
    simp only [addNews]
    refine ih ?_
    by_cases hm : m = c
    · subst hm; simp [upd_same]
    · simp [upd_ne _ _ hm, e]
theorem doit_hp_eq (x : Item) (s s' : S) (m : Nat) (h : m ∈ x.2.touch) : (doit x.1 x.2 s).hp m = (doit x.1 x.2 s').hp m := by
  obtain ⟨d, r⟩ := x
  unfold doit
  simp only [Rec.touch] at h
  split
  · rename_i e he
    rw [he] at h
    simp only [List.mem_append, mem_names] at h
    simp only [act]
    by_cases hn : r.c ≤ m ∧ m < r.c + e.nw.length
    · have k1 := fun (h : Nat → Option Blk) => addNews_in (c := r.c) (bs := e.nw) (h := h) (i := m - r.c) (by omega)
      rw [show r.c + (m - r.c) = m by omega] at k1
      rw [k1, k1]
    · have hw := h.resolve_right hn
      refine addNews_congr ?_
      split at hw
      · rename_i m' b hw'
        have : m = m' := by simpa using hw
        subst this; simp only [hw']; rw [upd_same, upd_same]
      · simp at hw
  · rename_i he; rw [he] at h; simp at h
theorem runL_tm {D D' : Nat → Bool} {t : Nat} : ∀ (l : List Item) (i : Nat) (s s' : S), s.tm t = s'.tm t →
    (∀ k x, l[k]? = some x → x.1 = some t → D (i + k) = D' (i + k)) → (runL D l i s).tm t = (runL D' l i s').tm t := by
  intro l
  induction l with
  | nil => intro i s s' h _; exact h
  | cons x l ih =>
    intro i s s' h hd
    simp only [runL]
    refine ih _ _ _ ?_ (fun k y hk hy => ?_)
    · by_cases ht : x.1 = some t
      · have e := hd 0 x rfl ht
        simp only [Nat.add_zero] at e
        rw [e]; split
        · exact doit_tm_eq x _ _ t ht
        · exact h
      · have a1 : (if D i = true then doit x.1 x.2 s else s).tm t = s.tm t := by split; exact doit_tm_ne x s t ht; rfl
        have a2 : (if D' i = true then doit x.1 x.2 s' else s').tm t = s'.tm t := by split; exact doit_tm_ne x s' t ht; rfl
        rw [a1, a2]; exact h
    · have := hd (k + 1) y (by simpa using hk) hy
      rw [show i + (k + 1) = i + 1 + k by omega] at this; exact this
theorem runL_hp {D D' : Nat → Bool} {m : Nat} : ∀ (l : List Item) (i : Nat) (s s' : S), s.hp m = s'.hp m →
    (∀ k x, l[k]? = some x → m ∈ x.2.touch → D (i + k) = D' (i + k)) → (runL D l i s).hp m = (runL D' l i s').hp m := by
  intro l
  induction l with
  | nil => intro i s s' h _; exact h
  | cons x l ih =>
    intro i s s' h hd
    simp only [runL]
    refine ih _ _ _ ?_ (fun k y hk hy => ?_)
    · by_cases ht : m ∈ x.2.touch
      · have e := hd 0 x rfl ht
        simp only [Nat.add_zero] at e
        rw [e]; split
        · exact doit_hp_eq x _ _ m ht
        · exact h
      · have a1 : (if D i = true then doit x.1 x.2 s else s).hp m = s.hp m := by split; exact doit_hp_ne x s m ht; rfl
        have a2 : (if D' i = true then doit x.1 x.2 s' else s').hp m = s'.hp m := by split; exact doit_hp_ne x s' m ht; rfl
        rw [a1, a2]; exact h
    · have := hd (k + 1) y (by simpa using hk) hy
      rw [show i + (k + 1) = i + 1 + k by omega] at this; exact this
/-- Two operations that touch nothing in common come to one state in either order. -/
theorem doit_comm (x y : Item) (s : S) (h1 : ∀ d, x.1 = some d → y.1 ≠ some d) (h2 : ∀ m, m ∈ x.2.touch → m ∉ y.2.touch) :
    doit x.1 x.2 (doit y.1 y.2 s) = doit y.1 y.2 (doit x.1 x.2 s) := by
  have ext : ∀ a b : S, (∀ t, a.tm t = b.tm t) → (∀ m, a.hp m = b.hp m) → a = b := by
    intro a b ht hm; cases a; cases b; simp only [S.mk.injEq]; exact ⟨funext ht, funext hm⟩
  refine ext _ _ (fun t => ?_) (fun m => ?_)
  · by_cases hx : x.1 = some t
    · rw [doit_tm_ne y _ t (h1 t hx)]
      exact doit_tm_eq x _ _ t hx
    · rw [doit_tm_ne x _ t hx]
      by_cases hy : y.1 = some t
      · exact doit_tm_eq y _ _ t hy
      · rw [doit_tm_ne y _ t hy, doit_tm_ne y _ t hy, doit_tm_ne x _ t hx]
  · by_cases hx : m ∈ x.2.touch
    · rw [doit_hp_ne y _ m (h2 m hx)]
      exact doit_hp_eq x _ _ m hx
    · rw [doit_hp_ne x _ m hx]
      by_cases hy : m ∈ y.2.touch
      · exact doit_hp_eq y _ _ m hy
      · rw [doit_hp_ne y _ m hy, doit_hp_ne y _ m hy, doit_hp_ne x _ m hx]
theorem runL_comm {D : Nat → Bool} (x : Item) : ∀ (l : List Item) (i : Nat) (s : S),
    (∀ k y, l[k]? = some y → D (i + k) = true → ∀ s, doit y.1 y.2 (doit x.1 x.2 s) = doit x.1 x.2 (doit y.1 y.2 s)) →
    runL D l i (doit x.1 x.2 s) = doit x.1 x.2 (runL D l i s) := by
  intro l
  induction l with
  | nil => intro i s _; rfl
  | cons y l ih =>
    intro i s h
    simp only [runL]
    have h0 := h 0 y rfl
    simp only [Nat.add_zero] at h0
    have e : (if D i = true then doit y.1 y.2 (doit x.1 x.2 s) else doit x.1 x.2 s) = doit x.1 x.2 (if D i = true then doit y.1 y.2 s else s) := by
      split
      · rename_i hd; exact h0 hd s
      · rfl
    rw [e]
    exact ih _ _ (fun k z hk hd => h (k + 1) z (by simpa using hk) (by rw [show i + (k + 1) = i + 1 + k by omega]; exact hd))
/-- One operation more. -/
theorem runL_ins {D D' : Nat → Bool} (x : Item) : ∀ (l : List Item) (i j : Nat) (s : S), l[j]? = some x → D (i + j) = false → D' (i + j) = true → (∀ k, k ≠ i + j → D' k = D k) →
    (∀ k y, l[k]? = some y → j < k → D (i + k) = true → ∀ s, doit y.1 y.2 (doit x.1 x.2 s) = doit x.1 x.2 (doit y.1 y.2 s)) →
    runL D' l i s = doit x.1 x.2 (runL D l i s) := by
  intro l
  induction l with
  | nil => intro i j s h; simp at h
  | cons y l ih =>
    intro i j s hj hD hD' hoff hc
    cases j with
    | zero =>
      simp at hj; subst hj
      simp only [Nat.add_zero] at hD hD' hoff
      simp only [runL, hD, hD', if_true, Bool.false_eq_true, if_false]
      have e : ∀ s, runL D' l (i + 1) s = runL D l (i + 1) s := by
        have : ∀ (l : List Item) (k : Nat), i < k → ∀ s, runL D' l k s = runL D l k s := by
          intro l
          induction l with
          | nil => intro k _ s; rfl
          | cons z l ih2 =>
            intro k hk s
            simp only [runL]
            rw [hoff k (by omega)]
            exact ih2 _ (by omega) _
        exact this l (i + 1) (by omega)
      rw [e]
      exact runL_comm y l (i + 1) s (fun k z hk hd => hc (k + 1) z (by simpa using hk) (by omega) (by rw [show i + (k + 1) = i + 1 + k by omega]; exact hd))
    | succ j =>
      simp only [runL]
      rw [hoff i (by omega)]
      refine ih (i + 1) j _ (by simpa using hj) ?_ ?_ ?_ ?_
      · rw [show i + 1 + j = i + (j + 1) by omega]; exact hD
      · rw [show i + 1 + j = i + (j + 1) by omega]; exact hD'
      · intro k hk; exact hoff k (by omega)
      · intro k z hk hjk hd
        exact hc (k + 1) z (by simpa using hk) (by omega) (by rw [show i + (k + 1) = i + 1 + k by omega]; exact hd)
theorem runL_all {D : Nat → Bool} : ∀ (l : List Item) (i : Nat) (s : S), (∀ k, k < l.length → D (i + k) = true) → runL D l i s = runL (fun _ => true) l i s := by
  intro l
  induction l with
  | nil => intro i s _; rfl
  | cons x l ih =>
    intro i s h
    have h0 := h 0 (by simp)
    simp only [Nat.add_zero] at h0
    simp only [runL, h0, if_true]
    exact ih _ _ (fun k hk => by rw [show i + 1 + k = i + (k + 1) by omega]; exact h (k + 1) (by simpa using hk))
/-- Slots that an operation looks at or writes. -/
def opTmps : List Operand → List Nat
  | [] => []
  | .tmp t :: l => t :: opTmps l
  | _ :: l => opTmps l
def dstOf (ops : Array Oper) (k : Nat) : Option Tmp := (ops[k]?).bind (·.dst)
def uses (ops : Array Oper) (o : Oper) : List Nat :=
  (match o.guard with | some (k, _) => (match dstOf ops k with | some d => [d] | none => []) | none => []) ++ (match o.dst with | some d => [d] | none => []) ++ opTmps o.op.operands.toList
/-- Which operations come before one, as the bits of a number. -/
def maskE (M : List Nat) : List Edge → Nat
  | [] => 0
  | e :: r => match Region.binds .any e with | true => ((1 <<< e.on) ||| M.getD e.on 0) ||| maskE M r | false => maskE M r
def masks : List Oper → List Nat → List Nat
  | [], acc => acc
  | o :: r, acc => masks r (acc ++ [maskE acc o.after.toList])
theorem maskE_bit {M : List Nat} {k : Nat} : ∀ {l : List Edge}, (maskE M l).testBit k = true → ∃ e ∈ l, Region.binds .any e = true ∧ (e.on = k ∨ (M.getD e.on 0).testBit k = true) := by
  intro l
  induction l with
  | nil => intro h; simp [maskE] at h
  | cons e r ih =>
    intro h
    simp only [maskE] at h
    split at h
    · rename_i hb
      simp only [Nat.testBit_or, Bool.or_eq_true] at h
      rcases h with (h | h) | h
      · refine ⟨e, by simp, hb, .inl ?_⟩
        rw [Nat.one_shiftLeft, Nat.testBit_two_pow] at h
        simpa using h
      · exact ⟨e, by simp, hb, .inr h⟩
      · obtain ⟨e', h1, h2⟩ := ih h
        exact ⟨e', by simp [h1], h2⟩
    · obtain ⟨e', h1, h2⟩ := ih h
      exact ⟨e', by simp [h1], h2⟩
/-- Each mask is what its edges say, and edges lead back. -/
def masksOk (M : List Nat) : List Oper → Nat → Bool
  | [], _ => true
  | o :: r, i => Nat.beq (M.getD i 0) (maskE M o.after.toList) && o.after.toList.all (fun e => !Region.binds .any e || Nat.blt e.on i) && masksOk M r (i + 1)
theorem masksOk_at {M : List Nat} : ∀ {l : List Oper} {i k : Nat} {o : Oper}, masksOk M l i = true → l[k]? = some o →
    M.getD (i + k) 0 = maskE M o.after.toList ∧ ∀ e ∈ o.after.toList, Region.binds .any e = true → e.on < i + k := by
  intro l
  induction l with
  | nil => intro i k o _ h; simp at h
  | cons x l ih =>
    intro i k o h hk
    simp only [masksOk, Bool.and_eq_true] at h
    cases k with
    | zero =>
      simp at hk; subst hk
      refine ⟨Nat.eq_of_beq_eq_true h.1.1, fun e he hb => ?_⟩
      have := List.all_eq_true.1 h.1.2 e he
      rw [hb] at this
      simpa [Nat.blt_eq] using this
    | succ k =>
      have := ih h.2 (by simpa using hk)
      rw [show i + (k + 1) = i + 1 + k by omega]; exact this
/-- Whether an operation may disturb another one. -/
def conf (us : List Nat) (x y : Item) : Bool :=
  (match x.1 with | some d => us.elem d | none => false) || x.2.touch.any (fun m => y.2.rd.elem m || y.2.touch.elem m)
def pairsOk (M : List Nat) (X : List Item) (j : Nat) (us : List Nat) (y : Item) : List Item → Nat → Bool
  | [], _ => true
  | x :: l, i => (Nat.beq i j || !conf us x y || (match Nat.blt i j with | true => (M.getD j 0).testBit i | false => (M.getD i 0).testBit j)) && pairsOk M X j us y l (i + 1)
def allPairsOk (ops : Array Oper) (M : List Nat) (X : List Item) : List Oper → List Item → Nat → Bool
  | o :: os, y :: ys, j => pairsOk M X j (uses ops o) y X 0 && allPairsOk ops M X os ys (j + 1)
  | _, _, _ => true
theorem pairsOk_at {M : List Nat} {X : List Item} {j : Nat} {us : List Nat} {y : Item} : ∀ {l : List Item} {i k : Nat} {x : Item}, pairsOk M X j us y l i = true → l[k]? = some x → i + k ≠ j → conf us x y = true →
    (i + k < j → (M.getD j 0).testBit (i + k) = true) ∧ (j < i + k → (M.getD (i + k) 0).testBit j = true) := by
  intro l
  induction l with
  | nil => intro i k x _ h; simp at h
  | cons z l ih =>
    intro i k x h hk hne hc
    simp only [pairsOk, Bool.and_eq_true] at h
    cases k with
    | zero =>
      simp at hk; subst hk
      simp only [Nat.add_zero] at hne ⊢
      have h1 := h.1
      have hb : Nat.beq i j = false := by cases hb : Nat.beq i j; rfl; exact absurd (Nat.eq_of_beq_eq_true hb) hne
      rw [hb, hc] at h1
      simp only [Bool.not_true, Bool.or_self, Bool.false_or] at h1
      constructor
      · intro hlt
        have : Nat.blt i j = true := by rw [Nat.blt_eq]; exact hlt
        rw [this] at h1; exact h1
      · intro hlt
        have : Nat.blt i j = false := by rw [← Bool.not_eq_true, Nat.blt_eq]; omega
        rw [this] at h1; exact h1
    | succ k =>
      have := ih h.2 (by simpa using hk) (by omega) hc
      rw [show i + (k + 1) = i + 1 + k by omega]; exact this
theorem allPairsOk_at {ops : Array Oper} {M : List Nat} {X : List Item} : ∀ {os : List Oper} {ys : List Item} {j k : Nat} {o : Oper} {y : Item}, allPairsOk ops M X os ys j = true → os[k]? = some o → ys[k]? = some y → pairsOk M X (j + k) (uses ops o) y X 0 = true := by
  intro os
  induction os with
  | nil => intro ys j k o y _ h; simp at h
  | cons z os ih =>
    intro ys j k o y h ho hy
    cases ys with
    | nil => simp at hy
    | cons w ys =>
      simp only [allPairsOk, Bool.and_eq_true] at h
      cases k with
      | zero => simp at ho hy; subst ho; subst hy; exact h.1
      | succ k =>
        have := ih h.2 (by simpa using ho) (by simpa using hy)
        rw [show j + (k + 1) = j + 1 + k by omega]; exact this
end Go.Eng
end

section
namespace Go.Eng
/-- Conditions that are owed. -/
def All : List Prop → Prop
  | [] => True
  | p :: l => p ∧ All l
theorem All.append : ∀ {l k : List Prop}, All (l ++ k) ↔ All l ∧ All k
  | [], k => by simp [All]
  | p :: l, k => by simp [All, All.append (l := l), and_assoc]
section
variable (P : Program)
/-- A run of the model's own text where it asks nothing of the world. -/
def pureRun {α : Type} : Sem α → Option α
  | .pure a => some a
  | .program k => pureRun (k P)
  | _ => none
theorem pureRun_run {α : Type} : ∀ (m : Sem α) {x : α} (w : World), pureRun P m = some x → m.run P w = .ok x w := by
  intro m
  induction m with
  | pure a => intro x w h; simp [pureRun] at h; subst h; rfl
  | program k ih => intro x w h; simp only [pureRun] at h; exact ih P w h
  | _ => intro x w h; simp [pureRun] at h
end
/-- A cell without an address, as a value. -/
def C.val : C → Option Value
  | .num k n => some (.int k n)
  | .int k n => some (.int k n)
  | .lit b => some (.bool b)
  | .bool b => some (.bool b)
  | .str s => some (.string s)
  | .nil => some (.pointer none)
  | .nsl => some (.slice none 0 0)
  | .op v => some v
  | _ => none
def valL : List C → Option (List Value)
  | [] => some []
  | c :: l => match c.val, valL l with | some v, some r => some (v :: r) | _, _ => none
def A.val : A → Option Value
  | .c x => x.val
  | .agg cs => match valL cs with | some l => some (.agg l.toArray) | none => none
def V.val : V → Option Value
  | .a x => x.val
  | .tup _ => none
def C.known : C → Bool
  | .int _ _ => false
  | .bool _ => false
  | .op _ => false
  | .str _ => false
  | _ => true
def A.known : A → Bool
  | .c x => x.known
  | .agg cs => cs.all C.known
def V.known : V → Bool
  | .a x => x.known
  | .tup _ => false
theorem C.val_rel {ρ : Ren} {c : C} {v x : Value} (h : c.val = some v) (r : c.rel ρ x) : x = v := by
  cases c <;> simp only [C.val, Option.some.injEq, reduceCtorEq] at h <;> simp only [C.rel] at r
  case op u => rw [r.1, h]
  all_goals (rw [r, h])
theorem valL_rel {ρ : Ren} : ∀ {cs : List C} {l xs : List Value}, valL cs = some l → F2 (C.rel ρ) cs xs → xs = l := by
  intro cs
  induction cs with
  | nil => intro l xs h r; cases r; simp [valL] at h; exact h.symm
  | cons c cs ih =>
    intro l xs h r
    cases r with
    | cons r0 rs =>
      simp only [valL] at h
      split at h
      · rename_i v r' hv hr
        simp at h; subst h
        rw [C.val_rel hv r0, ih hr rs]
      · cases h
theorem A.val_rel {ρ : Ren} {c : A} {v x : Value} (h : c.val = some v) (r : c.rel ρ x) : x = v := by
  cases c with
  | c y => exact C.val_rel h r
  | agg cs =>
    simp only [A.val] at h
    split at h
    · rename_i l hl
      simp at h; subst h
      obtain ⟨xs, hf, rfl⟩ := r
      rw [valL_rel hl hf]
    · cases h
/-- A value as a cell: known, or any term. -/
def ofCell (known : Bool) (v : Value) : Option C :=
  match v with
  | .int k n => some (match known with | true => .num k n | false => .int k n)
  | .bool b => some (match known with | true => .lit b | false => .bool b)
  | .string s => some (.str s)
  | .pointer none => some .nil
  | .slice none 0 0 => some .nsl
  | .agg _ => none
  | .tuple _ => none
  | v => some (.op v)
def ofCells (known : Bool) : List Value → Option (List C)
  | [] => some []
  | v :: l => match ofCell known v, ofCells known l with | some c, some r => some (c :: r) | _, _ => none
def ofVal (known : Bool) (v : Value) : Option A :=
  match v with
  | .agg cs => match ofCells known cs.toList with | some l => some (.agg l) | none => none
  | v => match ofCell known v with | some c => some (.c c) | none => none
theorem ofCell_rel (ρ : Ren) {b : Bool} {v : Value} {c : C} (h : ofCell b v = some c) : c.rel ρ v := by
  unfold ofCell at h
  split at h
  case h_1 => cases b <;> (simp at h; subst h; rfl)
  case h_2 => cases b <;> (simp at h; subst h; rfl)
  case h_3 => simp at h; subst h; rfl
  case h_4 => simp at h; subst h; rfl
  case h_5 => simp at h; subst h; rfl
  case h_6 => cases h
  case h_7 => cases h
  case h_8 =>
    rename_i h7 h8
    simp at h; subst h
    refine ⟨rfl, ?_, fun cs e => h7 cs e, fun cs e => h8 cs e⟩
    cases v <;> first | rfl | (exact absurd rfl (h7 _))
theorem ofCells_rel (ρ : Ren) {b : Bool} : ∀ {l : List Value} {cs : List C}, ofCells b l = some cs → F2 (C.rel ρ) cs l := by
  intro l
  induction l with
  | nil => intro cs h; simp [ofCells] at h; subst h; exact .nil
  | cons v l ih =>
    intro cs h
    simp only [ofCells] at h
    split at h
    · rename_i c r hc hr
      simp at h; subst h
      exact .cons (ofCell_rel ρ hc) (ih hr)
    · cases h
theorem ofVal_rel (ρ : Ren) {b : Bool} {v : Value} {c : A} (h : ofVal b v = some c) : c.rel ρ v := by
  unfold ofVal at h
  split at h
  · rename_i cs
    split at h
    · rename_i l hl
      simp at h; subst h
      exact ⟨cs.toList, ofCells_rel ρ hl, by simp⟩
    · cases h
  · split at h
    · rename_i c' hc
      simp at h; subst h
      exact ofCell_rel ρ hc
    · cases h
/-- What an operand is known to be. G: so many package-level variables are blocks with a name. -/
def look (G : Nat) (s : S) : Operand → Option V
  | .tmp t => s.tm t
  | .const v => (match ofVal true v with | some a => some (.a a) | none => none)
  | .global g => match Nat.blt g G with | true => some (.a (.c (.ptr g 0))) | false => none
  | .func f => some (.a (.c (.fn f [])))
/-- What an operation may use of 'Rel'. -/
structure View (G : Nat) (ρ : Ren) (s : S) (a : Act) (w : World) : Prop where
  tm : ∀ t v, s.tm t = some v → v.rel ρ (a.tmps.getD t undef)
  hp : ∀ m k, s.hp m = some k → ∃ b, ρ m = some b ∧ b.1 < w.heap.size ∧ k.rel ρ b.1 w
  gl : ∀ g, g < G → ρ g = some (g, 0)
theorem look_rel {G : Nat} {ρ : Ren} {s : S} {a : Act} {w : World} (h : View G ρ s a w) {x : Operand} {v : V} (e : look G s x = some v) : v.rel ρ (a.eval x) := by
  cases x with
  | tmp t => exact h.tm t v e
  | const u =>
    simp only [look] at e
    split at e
    · rename_i c hc
      simp at e; subst e
      exact ofVal_rel ρ hc
    · cases e
  | global g =>
    simp only [look] at e
    split at e
    · rename_i hg
      simp at e; subst e
      exact ⟨(g, 0), h.gl g (by simpa [Nat.blt_eq] using hg), rfl⟩
    · cases e
  | func f =>
    simp only [look] at e
    simp at e; subst e
    exact ⟨[], .nil, rfl⟩
/-- The value of an operand without an address. -/
def evalO (G : Nat) (s : S) (x : Operand) : Value := match look G s x with | some v => (match v.val with | some u => u | none => undef) | none => undef
def okO (G : Nat) (s : S) (x : Operand) : Bool := match look G s x with | some (.a a) => (match a.val with | some _ => true | none => false) | _ => false
def knownO (G : Nat) (s : S) (x : Operand) : Bool := match look G s x with | some v => v.known | none => false
theorem evalO_eq {G : Nat} {ρ : Ren} {s : S} {a : Act} {w : World} (h : View G ρ s a w) {x : Operand} (ok : okO G s x = true) : evalO G s x = a.eval x := by
  unfold okO at ok
  unfold evalO
  cases hl : look G s x with
  | none => rw [hl] at ok; simp at ok
  | some v =>
    rw [hl] at ok
    cases v with
    | tup xs => simp at ok
    | a y =>
      simp only at ok
      cases hv : y.val with
      | none => rw [hv] at ok; simp at ok
      | some u =>
        have : (V.a y).val = some u := hv
        simp only [this]
        exact (A.val_rel hv (look_rel h hl)).symm
section
variable (P : Program) (G : Nat)
/-- An operation on values without addresses, by the model's own text. -/
def effPure (o : Oper) (s : S) : Option V :=
  match o.op.operands.toList.all (okO G s) with
  | true =>
    match pureRun P (execOp (evalO G s) o) with
    | some (.value x) => (match ofVal (o.op.operands.toList.all (knownO G s)) x with | some a => some (.a a) | none => none)
    | _ => none
  | false => none
theorem effPure_sound {ρ : Ren} {s : S} {a : Act} {w : World} (h : View G ρ s a w) {o : Oper} {v : V} (hs : ∀ cs b, o.op ≠ .select cs b) (e : effPure P G o s = some v) :
    ∃ x, (execOp a.eval o).run P w = .ok (.value x) w ∧ v.rel ρ x := by
  unfold effPure at e
  split at e
  · rename_i hok
    split at e
    · rename_i x hx
      split at e
      · rename_i c hc
        simp at e; subst e
        refine ⟨x, ?_, ofVal_rel ρ hc⟩
        rw [← execOp_congr (ρ := evalO G s) o hs (fun y hy => evalO_eq h (List.all_eq_true.1 hok y (by simpa using hy)))]
        exact pureRun_run P _ w hx
      · cases e
    · cases e
  · cases e
/-- A struct's or an array's part. -/
def isAggD : TypeDesc → Bool | .struct _ => true | .array _ _ => true | _ => false
def partA (t : TypeId) (cs : List C) (off : Nat) : Option A :=
  match P.underlying t, P.info? t with
  | some d, some i => (match isAggD d with
    | true => some (.agg ((cs.drop off).take i.size))
    | false => (match cs[off]? with | some c => some (.c c) | none => none))
  | _, _ => none
theorem f2_drop {α β : Type} {R : α → β → Prop} : ∀ {l : List α} {k : List β}, F2 R l k → ∀ n, F2 R (l.drop n) (k.drop n)
  | _, _, .nil, n => by simp; exact .nil
  | _, _, .cons x xs, 0 => .cons x xs
  | _, _, .cons x xs, n + 1 => by simpa using f2_drop xs n
theorem f2_take {α β : Type} {R : α → β → Prop} : ∀ {l : List α} {k : List β}, F2 R l k → ∀ n, F2 R (l.take n) (k.take n)
  | _, _, .nil, n => by simp; exact .nil
  | _, _, .cons x xs, 0 => by simp; exact .nil
  | _, _, .cons x xs, n + 1 => by simpa using .cons x (f2_take xs n)
theorem f2_append {α β : Type} {R : α → β → Prop} : ∀ {l l' : List α} {k k' : List β}, F2 R l k → F2 R l' k' → F2 R (l ++ l') (k ++ k')
  | _, _, _, _, .nil, h => h
  | _, _, _, _, .cons x xs, h => .cons x (f2_append xs h)
theorem run_isAgg {t : TypeId} {d : TypeDesc} (h : P.underlying t = some d) (w : World) : (isAgg t).run P w = .ok (isAggD d) w := by
  unfold isAgg
  simp only [Sem.run_bind, run_underlying h, Result.andThen_ok]
  cases d <;> rfl
theorem run_sizeOf' {t : TypeId} {i : TypeInfo} (h : P.info? t = some i) (w : World) : (sizeOf t).run P w = .ok i.size w := by
  simp [sizeOf, typeInfo, h]
theorem partA_sound {ρ : Ren} {t : TypeId} {cs : List C} {off : Nat} {p : A} {xs : List Value} (h : partA P t cs off = some p) (r : F2 (C.rel ρ) cs xs) (w : World) :
    ∃ x, (part t xs.toArray off).run P w = .ok x w ∧ p.rel ρ x := by
  unfold partA at h
  split at h
  · rename_i d i hd hi
    unfold part
    simp only [Sem.run_bind, run_isAgg P hd, Result.andThen_ok]
    split at h
    · rename_i hg
      simp at h; subst h
      rw [if_pos hg]
      simp only [Sem.run_bind, run_sizeOf' P hi, Result.andThen_ok, Sem.run_pure]
      refine ⟨_, rfl, (xs.drop off).take i.size, f2_take (f2_drop r off) i.size, ?_⟩
      congr 1
      apply Array.ext'
      simp
    · rename_i hg
      split at h
      · rename_i c hc
        simp at h; subst h
        obtain ⟨x, hx, hr⟩ := f2_get r hc
        rw [if_neg (by simp [hg])]
        refine ⟨x, ?_, hr⟩
        simp [hx]
      · cases h
  · cases h
/-- Equality of plain values. -/
def eqFs (g : TypeId → A → A → Option Bool) (xs ys : List C) : List Field → Option Bool
  | [] => some true
  | f :: fs =>
    match f.name == "_" with
    | true => eqFs g xs ys fs
    | false =>
      match partA P f.type xs f.offset, partA P f.type ys f.offset with
      | some a, some b => (match g f.type a b, eqFs g xs ys fs with | some r, some q => some (r && q) | _, _ => none)
      | _, _ => none
def eqT : Nat → TypeId → A → A → Option Bool
  | 0, _, _, _ => none
  | d + 1, t, x, y =>
    match P.underlying t, x, y with
    | some (.int _), .c a, .c b => (match a.val, b.val with | some (.int k m), some (.int k' n) => (match decide (k = k') with | true => some (m == n) | false => none) | _, _ => none)
    | some .bool, .c a, .c b => (match a.val, b.val with | some (.bool m), some (.bool n) => some (m == n) | _, _ => none)
    | some .string, .c a, .c b => (match a.val, b.val with | some (.string m), some (.string n) => some (m.toList == n.toList) | _, _ => none)
    | some (.struct fs), .agg xs, .agg ys => (match P.stoodInHeld t with | true => none | false => eqFs P (eqT d) xs ys fs.toList)
    | _, _, _ => none
theorem eqT_sound {ρ : Ren} (w : World) : ∀ (d : Nat) (t : TypeId) (x y : A) (r : Bool) (u v : Value), eqT P d t x y = some r → x.rel ρ u → y.rel ρ v → (Op.equalIn d t u v).run P w = .ok r w := by
  intro d
  induction d with
  | zero => intro t x y r u v h; simp [eqT] at h
  | succ d ih =>
    intro t x y r u v h hx hy
    simp only [eqT] at h
    split at h
    · rename_i hu
      split at h
      · rename_i hk hn
        split at h
        · rename_i hkk
          simp at hkk; subst hkk
          simp at h; subst h
          rw [C.val_rel hk hx, C.val_rel hn hy]
          exact run_equalIn_int w d t _ _ _ _ hu
        · cases h
      · cases h
    · rename_i hu
      split at h
      · rename_i hk hn
        simp at h; subst h
        rw [C.val_rel hk hx, C.val_rel hn hy]
        exact run_equalIn_bool' w d t _ _ hu
      · cases h
    · rename_i hu
      split at h
      · rename_i hk hn
        simp at h; subst h
        rw [C.val_rel hk hx, C.val_rel hn hy]
        exact run_equalIn_string w d t _ _ hu
      · cases h
    · rename_i fs xs ys hu
      split at h
      · cases h
      · rename_i hst
        obtain ⟨us, hus, rfl⟩ := hx
        obtain ⟨vs, hvs, rfl⟩ := hy
        have hf : P.fieldsOf t = fs := by simp [Program.fieldsOf, hu]
        rw [run_equalIn_struct w d t _ _ (by rw [hu, hf]) hst, hf]
        generalize fs.toList = l at h ⊢
        clear hf hu
        induction l generalizing r with
        | nil => simp [eqFs] at h; subst h; simp [Op.eqFields]
        | cons f l ihl =>
          simp only [eqFs] at h
          simp only [Op.eqFields]
          split at h
          · rename_i hn
            rw [if_neg (by simpa using hn)]
            exact ihl r h
          · rename_i hn
            rw [if_pos (by simpa using hn)]
            split at h
            · rename_i p q hp hq
              split at h
              · rename_i r1 q1 hg hr
                simp at h; subst h
                obtain ⟨a1, ha1, hra⟩ := partA_sound P hp hus w
                obtain ⟨b1, hb1, hrb⟩ := partA_sound P hq hvs w
                simp only [Sem.run_bind, ha1, hb1, Result.andThen_ok, ih _ _ _ _ _ _ hg hra hrb]
                cases r1
                · simp
                · simpa using ihl q1 hr
              · cases h
            · cases h
    · cases h
end
end Go.Eng
end

section
namespace Go.Eng
/-- Cells of a block from a place on, so many. -/
def readN (k : Blk) (o : Nat) : Nat → Option (List C)
  | 0 => some []
  | n + 1 => match k.cell o, readN k (o + 1) n with | some c, some r => some (c :: r) | _, _ => none
theorem readN_sound {ρ : Ren} {b : Nat} {w : World} {k : Blk} (h : k.rel ρ b w) : ∀ {n o : Nat} {cs : List C}, readN k o n = some cs →
    ∃ xs : List Value, F2 (C.rel ρ) cs xs ∧ xs.length = n ∧ ∀ j v, xs[j]? = some v → w.cell? ((⟨b, o, none⟩ : Addr).add j) = some v := by
  intro n
  induction n with
  | zero => intro o cs e; simp [readN] at e; subst e; exact ⟨[], .nil, rfl, by simp⟩
  | succ n ih =>
    intro o cs e
    simp only [readN] at e
    split at e
    · rename_i c r hc hr
      simp at e; subst e
      obtain ⟨x, hx, hcell⟩ := Blk.rel_cell h hc
      obtain ⟨xs, hf, hl, hcs⟩ := ih hr
      refine ⟨x :: xs, .cons hx hf, by simp [hl], ?_⟩
      intro j v hj
      cases j with
      | zero => simp at hj; subst hj; simpa [Addr.add] using hcell
      | succ j =>
        have := hcs j v (by simpa using hj)
        have e1 : (⟨b, o, none⟩ : Addr).add (j + 1) = (⟨b, o + 1, none⟩ : Addr).add j := by
          simp only [Addr.add_lit]; congr 1; omega
        rw [e1]; exact this
    · cases e
def A.cells : A → List C
  | .c x => [x]
  | .agg cs => cs
theorem A.rel_cells {ρ : Ren} {p : A} {x : Value} (h : p.rel ρ x) : F2 (C.rel ρ) p.cells x.cells.toList := by
  cases p with
  | c y => rw [C.rel_cells h]; exact .cons h .nil
  | agg cs => obtain ⟨xs, hf, rfl⟩ := h; simpa [Value.cells, A.cells] using hf
theorem f2_oneCell {ρ : Ren} {cs : List C} {xs : List Value} (h : F2 (C.rel ρ) cs xs) : ∀ v ∈ xs, v.oneCell' = true := by
  induction h with
  | nil => simp
  | cons r _ ih =>
    intro v hv
    rcases List.mem_cons.1 hv with rfl | hv
    · have := C.rel_noAgg r
      cases v <;> first | rfl | exact absurd rfl (this.1 _) | exact absurd rfl (this.2 _)
    · exact ih v hv
/-- Parts of a literal laid into cells. -/
def setL (l : List C) (off : Nat) : List C → List C
  | [] => l
  | v :: vs => setL (l.set off v) (off + 1) vs
def fillA (place : Nat → Option (Nat × Nat)) (cells : List C) : List (Nat × A) → Option (List C)
  | [] => some cells
  | (i, v) :: rest =>
    match place i with
    | none => none
    | some (off, size) =>
      match Nat.beq v.cells.length size && Nat.ble (off + v.cells.length) cells.length with
      | true => fillA place (setL cells off v.cells) rest
      | false => none
theorem setL_sound {ρ : Ren} : ∀ {vs : List C} {us : List Value} {l : List C} {k : Array Value} {off j : Nat}, F2 (C.rel ρ) vs us → F2 (C.rel ρ) l k.toList →
    F2 (C.rel ρ) (setL l (off + j) vs) ((us.zipIdx j).foldl (fun cs (c, j) => cs.setIfInBounds (off + j) c) k).toList
  | _, _, l, k, off, j, .nil, h => h
  | _, _, l, k, off, j, .cons (a := a) (b := b) r rs, h => by
    simp only [setL, List.zipIdx_cons, List.foldl_cons]
    have := setL_sound (off := off) (j := j + 1) rs (l := l.set (off + j) a) (k := k.setIfInBounds (off + j) b) (by rw [Array.toList_setIfInBounds]; exact f2_set r h _)
    rw [show off + (j + 1) = off + j + 1 by omega] at this
    exact this
inductive PartsRel (ρ : Ren) : List (Nat × A) → List (Nat × Value) → Prop where
  | nil : PartsRel ρ [] []
  | cons {i : Nat} {a : A} {v : Value} {l : List (Nat × A)} {k : List (Nat × Value)} : a.rel ρ v → PartsRel ρ l k → PartsRel ρ ((i, a) :: l) ((i, v) :: k)
theorem fillA_sound {ρ : Ren} {place : Nat → Option (Nat × Nat)} : ∀ {ps : List (Nat × A)} {qs : List (Nat × Value)} {l r : List C} {k : Array Value}, PartsRel ρ ps qs → F2 (C.rel ρ) l k.toList → fillA place l ps = some r →
    ∃ k', Instr.fill place k qs = some k' ∧ F2 (C.rel ρ) r k'.toList
  | _, _, l, r, k, .nil, h, e => by simp [fillA] at e; subst e; exact ⟨k, by simp [Instr.fill], h⟩
  | _, _, l, r, k, .cons (i := i) (a := a) (v := v) hv hs, h, e => by
    simp only [fillA] at e
    split at e
    · cases e
    · rename_i off size hp
      split at e
      · rename_i hok
        simp only [Bool.and_eq_true] at hok
        have h1 : a.cells.length = size := Nat.eq_of_beq_eq_true hok.1
        have h2 := Nat.le_of_ble_eq_true hok.2
        have hc := A.rel_cells hv
        have hl1 := f2_len hc
        have hl2 := f2_len h
        have := setL_sound (off := off) (j := 0) hc h
        obtain ⟨k', hk', hr⟩ := fillA_sound hs this (by simpa using e)
        refine ⟨k', ?_, hr⟩
        have hsz : v.cells.size = size := by rw [← h1, hl1]; simp
        simp only [Instr.fill, hp]
        rw [if_neg (by
          have hk2 : k.size = l.length := by rw [hl2]; simp
          rw [hl1] at h2
          simp only [Array.length_toList] at h2
          intro hor
          rcases Bool.or_eq_true_iff.1 hor with hor | hor
          · exact (of_decide_eq_true hor) hsz
          · have := of_decide_eq_true hor; omega)]
        rw [← Array.foldl_toList] 
        simpa using hk'
      · cases e
section
variable (P : Program) (G : Nat)
def placesOf (fs : List Field) : Option (List (Nat × Nat)) := fs.mapM fun f => (P.info? f.type).map fun i => (f.offset, i.size)
def looks (s : S) : List (Nat × Operand) → Option (List (Nat × A))
  | [] => some []
  | (i, x) :: l => match look G s x, looks s l with | some (.a a), some r => some ((i, a) :: r) | _, _ => none
def lookAll (s : S) : List Operand → Option (List A)
  | [] => some []
  | x :: l => match look G s x, lookAll s l with | some (.a a), some r => some (a :: r) | _, _ => none
def buildA (s : S) (t : TypeId) (parts : List (Nat × Operand)) : Option A :=
  match P.info? t, P.underlying t, looks G s parts with
  | some it, some (.struct fs), some ps =>
    match it.zero, placesOf P fs.toList with
    | some z, some places =>
      (match ofCells true z.cells.toList with
      | some zs => (match fillA (places.toArray[·]?) zs ps with | some r => some (.agg r) | none => none)
      | none => none)
    | _, _ => none
  | some it, some (.array _ elem), some ps =>
    match it.zero, P.info? elem with
    | some z, some ie =>
      (match ofCells true z.cells.toList with
      | some zs => (match fillA (fun i => some (i * ie.size, ie.size)) zs ps with | some r => some (.agg r) | none => none)
      | none => none)
    | _, _ => none
  | _, _, _ => none
theorem looks_rel {ρ : Ren} {s : S} {a : Act} {w : World} (h : View G ρ s a w) : ∀ {l : List (Nat × Operand)} {ps : List (Nat × A)}, looks G s l = some ps → PartsRel ρ ps (l.map fun (i, x) => (i, a.eval x)) := by
  intro l
  induction l with
  | nil => intro ps e; simp [looks] at e; subst e; exact .nil
  | cons y l ih =>
    intro ps e
    obtain ⟨i, x⟩ := y
    simp only [looks] at e
    split at e
    · rename_i c r hc hr
      simp at e; subst e
      exact .cons (look_rel h hc) (ih hr)
    · cases e
theorem lookAll_rel {ρ : Ren} {s : S} {a : Act} {w : World} (h : View G ρ s a w) : ∀ {l : List Operand} {ps : List A}, lookAll G s l = some ps → F2 (A.rel ρ) ps (l.map a.eval) := by
  intro l
  induction l with
  | nil => intro ps e; simp [lookAll] at e; subst e; exact .nil
  | cons x l ih =>
    intro ps e
    simp only [lookAll] at e
    split at e
    · rename_i c r hc hr
      simp at e; subst e
      exact .cons (look_rel h hc) (ih hr)
    · cases e
theorem run_zeroValue' {t : TypeId} {i : TypeInfo} {z : Value} (h : P.info? t = some i) (hz : i.zero = some z) (w : World) : (zeroValue t).run P w = .ok z w := by
  simp [zeroValue, typeInfo, h, hz]
theorem buildA_sound {ρ : Ren} {s : S} {a : Act} {w : World} (h : View G ρ s a w) {t : TypeId} {parts : Array (Nat × Operand)} {p : A} (e : buildA P G s t parts.toList = some p) :
    ∃ x, (Instr.build t (parts.map fun (i, x) => (i, a.eval x))).run P w = .ok x w ∧ p.rel ρ x := by
  unfold buildA at e
  split at e
  · rename_i it fs ps hit hu hps
    split at e
    · rename_i z places hz hpl
      split at e
      · rename_i zs hzs
        split at e
        · rename_i r hr
          simp at e; subst e
          obtain ⟨k', hk, hrel⟩ := fillA_sound (looks_rel G h hps) (ofCells_rel ρ hzs) hr
          refine ⟨.agg k', ?_, k'.toList, hrel, by simp⟩
          refine run_build w t _ k' ?_
          unfold Program.built
          simp only [hit, hu, hz]
          unfold placesOf at hpl
          rw [hpl]
          simpa using hk
        · cases e
      · cases e
    · cases e
  · rename_i it n elem ps hit hu hps
    split at e
    · rename_i z ie hz hie
      split at e
      · rename_i zs hzs
        split at e
        · rename_i r hr
          simp at e; subst e
          obtain ⟨k', hk, hrel⟩ := fillA_sound (looks_rel G h hps) (ofCells_rel ρ hzs) hr
          refine ⟨.agg k', ?_, k'.toList, hrel, by simp⟩
          have hk' : Instr.fill (fun i => some (i * ie.size, ie.size)) z.cells (parts.toList.map fun (i, x) => (i, a.eval x)) = some k' := by simpa using hk
          simp [Instr.build, run_zeroValue' P hit hz, run_underlying hu, run_sizeOf' P hie, hk']
        · cases e
      · cases e
    · cases e
  · cases e
/-- The names that an operation reads. -/
def A.names : A → List Nat
  | .c (.ptr m _) => [m]
  | .c (.sl m _ _ _) => [m]
  | .c (.gsl m _) => [m]
  | .c (.fn _ caps) => caps.map (·.1)
  | _ => []
def V.names : V → List Nat
  | .a y => y.names
  | .tup _ => []
def lookNames (s : S) : List Operand → List Nat
  | [] => []
  | x :: l => (match look G s x with | some v => v.names | none => []) ++ lookNames s l
def rdOf (o : Oper) (s : S) : List Nat :=
  match o.op with
  | .load _ x => lookNames G s [x]
  | .store _ x _ => lookNames G s [x]
  | .call c => (match c.callee with | .value f => lookNames G s (f :: c.args.toList) | _ => [])
  | _ => []
/-- Operations with their own law: the value. -/
def effV (o : Oper) (s : S) : Option (V × List Prop) :=
  match o.op with
  | .move x | .assign x => (match look G s x with | some v => some (v, []) | none => none)
  | .pick c a b => (match look G s c with
    | some (.a (.c (.lit true))) => (match look G s a with | some v => some (v, []) | none => none)
    | some (.a (.c (.lit false))) => (match look G s b with | some v => some (v, []) | none => none)
    | _ => none)
  | .extract t i => (match look G s t with
    | some (.tup xs) => (match xs[i]? with | some a => some (.a a, []) | none => none)
    | _ => none)
  | .field t x f => (match look G s x, P.underlying t with
    | some (.a (.agg cs)), some (.struct fs) => (match fs[f]? with
      | some fd => (match partA P fd.type cs fd.offset with | some p => some (.a p, []) | none => none)
      | none => none)
    | _, _ => none)
  | .fieldAddr t x f => (match look G s x, P.underlying t with
    | some (.a (.c (.ptr m off))), some (.struct fs) => (match fs[f]? with
      | some fd => (match P.info? fd.type with
        | some i => (match Nat.beq i.size 0 with | true => none | false => some (.a (.c (.ptr m (off + fd.offset))), []))
        | none => none)
      | none => none)
    | _, _ => none)
  | .indexAddr t x ix => (match look G s x, look G s ix, P.underlying t with
    | some (.a (.c (.ptr m off))), some (.a (.c (.num _ n))), some (.array len e) => (match P.info? e, decide (0 ≤ n ∧ n < len) with
      | some i, true => some (.a (.c (.ptr m (off + n.toNat * i.size))), [])
      | _, _ => none)
    | some (.a (.c (.sl m off len _))), some (.a (.c (.num _ n))), some (.slice e) => (match P.info? e, decide (0 ≤ n ∧ n < len) with
      | some i, true => some (.a (.c (.ptr m (off + n.toNat * i.size))), [])
      | _, _ => none)
    | _, _, _ => none)
  | .load t x => (match look G s x, P.underlying t, P.info? t with
    | some (.a (.c (.ptr m off))), some d, some i => (match s.hp m with
      | some k => (match isAggD d with
        | true => (match readN k off i.size with | some cs => some (.a (.agg cs), []) | none => none)
        | false => (match k.cell off with | some c => some (.a (.c c), []) | none => none))
      | none => none)
    | _, _, _ => none)
  | .build t parts => (match buildA P G s t parts.toList with | some p => some (.a p, []) | none => none)
  | .nilCheck x => (match look G s x with | some (.a (.c (.ptr m off))) => some (.a (.c (.ptr m off)), []) | _ => none)
  | .binOp op t x y _ => (match look G s x, look G s y with
    | some (.a (.agg xs)), some (.a (.agg ys)) =>
      (match P.eqGuardType P.depth t, eqT P 10000 t (.agg xs) (.agg ys), op with
      | false, some r, .eql => some (.a (.c (.bool r)), [])
      | false, some r, .neq => some (.a (.c (.bool (!r))), [])
      | _, _, _ => none)
    | some (.a (.c a)), some (.a (.c (.int k' n))) =>
      (match op, a.val with
      | .quo, some (.int k m) => (match decide (k = k') with | true => some (.a (.c (.int k (k.wrap (m.tdiv n)))), [n ≠ 0]) | false => none)
      | .rem, some (.int k m) => (match decide (k = k') with | true => some (.a (.c (.int k (m.tmod n))), [n ≠ 0]) | false => none)
      | .shl, some (.int k m) => some (.a (.c (.int k (k.wrap (m * 2 ^ (min n.toNat k.bits))))), [0 ≤ n])
      | .shr, some (.int k m) => some (.a (.c (.int k (m.fdiv (2 ^ (min n.toNat k.bits))))), [0 ≤ n])
      | _, _ => (match effPure P G o s with | some v => some (v, []) | none => none))
    | _, _ => (match effPure P G o s with | some v => some (v, []) | none => none))
  | .makeFunc (.func f) first caps => (match first.toList, lookAll G s caps.toList with
    | [], some ps => (match ptrs ps with | some l => some (.a (.c (.fn f l)), []) | none => none)
    | _, _ => none)
  | .call c => (match c.callee, c.args.toList with
    | .builtin .len, [x] => (match look G s x, c.argTypes.toList with
      | some (.a (.c (.sl _ _ len _))), [t] => (match P.underlying t with | some (.slice _) => some (.a (.c (.num .i64 len)), []) | _ => none)
      | some (.a (.c (.gsl _ len))), [t] => (match P.underlying t with | some (.slice _) => some (.a (.c (.num .i64 len)), []) | _ => none)
      | _, _ => (match effPure P G o s with | some v => some (v, []) | none => none))
    | .builtin _, _ => (match effPure P G o s with | some v => some (v, []) | none => none)
    | _, _ => none)
  | .unOp .. | .convert .. | .index .. | .makeInterface .. => (match effPure P G o s with | some v => some (v, []) | none => none)
  | _ => none
where
  ptrs : List A → Option (List (Nat × Nat))
    | [] => some []
    | .c (.ptr m off) :: l => (match ptrs l with | some r => some ((m, off) :: r) | none => none)
    | _ => none
theorem ptrs_rel {ρ : Ren} : ∀ {ps : List A} {l : List (Nat × Nat)} {xs : List Value}, effV.ptrs ps = some l → F2 (A.rel ρ) ps xs → F2 (PtrRel ρ) l xs := by
  intro ps
  induction ps with
  | nil => intro l xs h r; cases r; simp [effV.ptrs] at h; subst h; exact .nil
  | cons p ps ih =>
    intro l xs h r
    cases r with
    | cons r0 rs =>
      unfold effV.ptrs at h
      split at h
      · rename_i heq; cases heq
      · rename_i m off l' heq
        cases heq
        split at h
        · rename_i r' hr
          simp at h; subst h
          exact .cons r0 (ih hr rs)
        · cases h
      · cases h
end
end Go.Eng
end

section
namespace Go.Eng
section
variable {P : Program} {G : Nat} {ρ : Ren} {s : S} {a : Act} {w : World}
theorem run_loadVar_agg {t : TypeId} {d : TypeDesc} {i : TypeInfo} (hd : P.underlying t = some d) (hi : P.info? t = some i) (hg : isAggD d = true) {ad : Addr} {xs : List Value} (hl : xs.length = i.size)
    (hc : ∀ j v, xs[j]? = some v → w.cell? (ad.add j) = some v) : (loadVar t ad).run P w = .ok (.agg xs.toArray) w := by
  unfold loadVar
  simp only [Sem.run_bind, run_isAgg P hd, Result.andThen_ok, hg, if_true, run_sizeOf' P hi]
  rw [← hl, run_loadCells_list w ad xs hc]
  simp
theorem run_loadVar_one {t : TypeId} {d : TypeDesc} (hd : P.underlying t = some d) (hg : isAggD d = false) {ad : Addr} {x : Value} (hc : w.cell? ad = some x) : (loadVar t ad).run P w = .ok x w := by
  unfold loadVar
  simp only [Sem.run_bind, run_isAgg P hd, Result.andThen_ok, hg, Bool.false_eq_true, if_false]
  simp [run_load, hc]
theorem effV_binOp_div {o : Oper} {op : BinOp} {t yt : TypeId} {x y : Operand} (ho : o.op = .binOp op t x y yt) {k : IntKind} {m n : Int} {c : Value} (hx : a.eval x = .int k m) (hy : a.eval y = .int k n)
    (hc : (Op.intDiv op k m n).run P w = .ok c w) (hop : op = .quo ∨ op = .rem) : (execOp a.eval o).run P w = .ok (.value c) w := by
  rcases hop with rfl | rfl <;> simp [execOp, ho, hx, hy, eqGuard_at_int, binOp_quo, binOp_rem, hc]
theorem effV_sound (h : View G ρ s a w) {o : Oper} {v : V} {p : List Prop} (e : effV P G o s = some (v, p)) (hp : All p) :
    ∃ x, (execOp a.eval o).run P w = .ok (.value x) w ∧ v.rel ρ x := by
  have pure_case : (∀ cs b, o.op ≠ .select cs b) → (match effPure P G o s with | some v => some (v, []) | none => none) = some (v, p) → ∃ x, (execOp a.eval o).run P w = .ok (.value x) w ∧ v.rel ρ x := by
    intro hs e
    split at e
    · rename_i v' hv
      simp at e; obtain ⟨rfl, _⟩ := e
      exact effPure_sound P G h hs hv
    · cases e
  unfold effV at e
  split at e
  case h_1 x ho =>
    split at e
    · rename_i v' hv
      simp at e; obtain ⟨rfl, _⟩ := e
      exact ⟨a.eval x, by simp [execOp, ho], look_rel h hv⟩
    · cases e
  case h_2 x ho =>
    split at e
    · rename_i v' hv
      simp at e; obtain ⟨rfl, _⟩ := e
      exact ⟨a.eval x, by simp [execOp, ho], look_rel h hv⟩
    · cases e
  case h_3 c x y ho =>
    split at e
    · rename_i hc
      have hcv : a.eval c = .bool true := look_rel h hc
      split at e
      · rename_i v' hv
        simp at e; obtain ⟨rfl, _⟩ := e
        exact ⟨a.eval x, by simp [execOp, ho, hcv, asBool], look_rel h hv⟩
      · cases e
    · rename_i hc
      have hcv : a.eval c = .bool false := look_rel h hc
      split at e
      · rename_i v' hv
        simp at e; obtain ⟨rfl, _⟩ := e
        exact ⟨a.eval y, by simp [execOp, ho, hcv, asBool], look_rel h hv⟩
      · cases e
    · cases e
  case h_4 t i ho =>
    split at e
    · rename_i xs hx
      obtain ⟨ys, hf, hy⟩ := look_rel h hx
      split at e
      · rename_i c hc
        simp at e; obtain ⟨rfl, _⟩ := e
        obtain ⟨z, hz, hr⟩ := f2_get hf hc
        exact ⟨z, by simp [execOp, ho, hy, Instr.extract, hz], hr⟩
      · cases e
    · cases e
  case h_5 t x f ho =>
    split at e
    · rename_i cs fs hx hu
      obtain ⟨xs, hf, hv⟩ := look_rel h hx
      split at e
      · rename_i fd hfd
        split at e
        · rename_i q hq
          simp at e; obtain ⟨rfl, _⟩ := e
          obtain ⟨z, hz, hr⟩ := partA_sound P hq hf w
          exact ⟨z, by simp [execOp, ho, hv, Instr.field, run_underlying hu, hfd, asAgg, hz], hr⟩
        · cases e
      · cases e
    · cases e
  case h_6 t x f ho =>
    split at e
    · rename_i m off fs hx hu
      obtain ⟨b, hb, hv⟩ := look_rel h hx
      split at e
      · rename_i fd hfd
        split at e
        · rename_i i hi
          split at e
          · cases e
          · rename_i hsz
            simp at e; obtain ⟨rfl, _⟩ := e
            have hne : i.size ≠ 0 := fun h0 => by rw [h0] at hsz; simp at hsz
            refine ⟨_, ?_, b, hb, rfl⟩
            simp [execOp, ho, hv, Instr.fieldAt, run_underlying hu, hfd, Instr.sureAddr, fieldPlace, run_sizeOf' P hi, hne, Addr.add_lit]
        · cases e
      · cases e
    · cases e
  case h_7 t x ix ho =>
    split at e
    · rename_i m off k n len el hx hix hu
      obtain ⟨b, hb, hv⟩ := look_rel h hx
      have hn : a.eval ix = .int k n := look_rel h hix
      split at e
      · rename_i i hi hd
        simp at e; obtain ⟨rfl, _⟩ := e
        have hd' := of_decide_eq_true hd
        refine ⟨_, ?_, b, hb, rfl⟩
        simp [execOp, ho, hv, hn, Instr.indexAt, asIntOf, run_underlying hu, Instr.sureAddr, hd', run_sizeOf' P hi, Addr.add_lit]
      · cases e
    · rename_i m off len cap k n el hx hix hu
      obtain ⟨b, hb, hv⟩ := look_rel h hx
      have hn : a.eval ix = .int k n := look_rel h hix
      split at e
      · rename_i i hi hd
        simp at e; obtain ⟨rfl, _⟩ := e
        have hd' := of_decide_eq_true hd
        refine ⟨_, ?_, b, hb, rfl⟩
        simp [execOp, ho, hv, hn, Instr.indexAt, asIntOf, run_underlying hu, hd', run_sizeOf' P hi, Addr.add_lit]
      · cases e
    · cases e
  case h_8 t x ho =>
    split at e
    · rename_i m off d i hx hd hi
      obtain ⟨b, hb, hv⟩ := look_rel h hx
      split at e
      · rename_i k hk
        obtain ⟨b', hb', hlt, hrel⟩ := h.hp m k hk
        simp only at hb
        rw [hb] at hb'; cases hb'
        split at e
        · rename_i hg
          split at e
          · rename_i cs hcs
            simp at e; obtain ⟨rfl, _⟩ := e
            obtain ⟨xs, hf, hl, hc⟩ := readN_sound hrel hcs
            refine ⟨.agg xs.toArray, ?_, xs, hf, rfl⟩
            simp [execOp, ho, hv, Instr.loadAt, Instr.sureAddr, run_loadVar_agg hd hi hg hl hc]
          · cases e
        · rename_i hg
          split at e
          · rename_i c hc
            simp at e; obtain ⟨rfl, _⟩ := e
            obtain ⟨z, hz, hcell⟩ := Blk.rel_cell hrel hc
            refine ⟨z, ?_, hz⟩
            simp [execOp, ho, hv, Instr.loadAt, Instr.sureAddr, run_loadVar_one hd hg hcell]
          · cases e
      · cases e
    · cases e
  case h_9 t parts ho =>
    split at e
    · rename_i q hq
      simp at e; obtain ⟨rfl, _⟩ := e
      obtain ⟨z, hz, hr⟩ := buildA_sound P G h hq
      exact ⟨z, by simp [execOp, ho, hz], hr⟩
    · cases e
  case h_10 x ho =>
    split at e
    · rename_i m off hx
      simp at e; obtain ⟨rfl, _⟩ := e
      obtain ⟨b, hb, hv⟩ := look_rel h hx
      exact ⟨_, by simp [execOp, ho, hv], b, hb, rfl⟩
    · cases e
  case h_11 op t x y yt ho =>
    have hs : ∀ cs b, o.op ≠ .select cs b := by simp [ho]
    split at e
    · rename_i xs ys hx hy
      have hvx := look_rel h hx
      have hvy := look_rel h hy
      split at e
      · rename_i r hg he
        simp at e; obtain ⟨rfl, _⟩ := e
        have hrun := eqT_sound P w _ _ _ _ _ _ _ he hvx hvy
        obtain ⟨us, _, hux⟩ := hvx
        obtain ⟨vs, _, huy⟩ := hvy
        refine ⟨.bool r, ?_, rfl⟩
        rw [hux, huy] at hrun
        simp only [execOp, ho, hux, huy, Sem.run_bind, run_eqGuard_agg w _ _ _ _ _ _ hg, Result.andThen_ok, run_eql_struct, hrun, Sem.run_pure]
      · rename_i r hg he
        simp at e; obtain ⟨rfl, _⟩ := e
        have hrun := eqT_sound P w _ _ _ _ _ _ _ he hvx hvy
        obtain ⟨us, _, hux⟩ := hvx
        obtain ⟨vs, _, huy⟩ := hvy
        refine ⟨.bool (!r), ?_, rfl⟩
        rw [hux, huy] at hrun
        simp only [execOp, ho, hux, huy, Sem.run_bind, run_eqGuard_agg w _ _ _ _ _ _ hg, Result.andThen_ok, run_neq_struct, hrun, Sem.run_pure]
      · cases e
    · rename_i c k' n hx hy
      have hvy : a.eval y = .int k' n := look_rel h hy
      split at e
      · rename_i k m hm
        split at e
        · rename_i hk
          simp only [Option.some.injEq, Prod.mk.injEq] at e; obtain ⟨rfl, rfl⟩ := e
          replace hp := hp.1
          have hk' := of_decide_eq_true hk; subst hk'
          have hvx : a.eval x = .int k m := C.val_rel hm (look_rel h hx)
          refine ⟨_, effV_binOp_div ho hvx hvy ?_ (.inl rfl), rfl⟩
          simp [Op.intDiv, hp]
        · cases e
      · rename_i k m hm
        split at e
        · rename_i hk
          simp only [Option.some.injEq, Prod.mk.injEq] at e; obtain ⟨rfl, rfl⟩ := e
          replace hp := hp.1
          have hk' := of_decide_eq_true hk; subst hk'
          have hvx : a.eval x = .int k m := C.val_rel hm (look_rel h hx)
          refine ⟨_, effV_binOp_div ho hvx hvy ?_ (.inr rfl), rfl⟩
          simp [Op.intDiv, hp]
        · cases e
      · rename_i k m hm
        simp only [Option.some.injEq, Prod.mk.injEq] at e; obtain ⟨rfl, rfl⟩ := e
        replace hp := hp.1
        have hvx : a.eval x = .int k m := C.val_rel hm (look_rel h hx)
        refine ⟨_, ?_, rfl⟩
        have : ¬ n < 0 := by omega
        simp [execOp, ho, hvx, hvy, eqGuard_at_int, binOp_shl, Op.shift, this]
      · rename_i k m hm
        simp only [Option.some.injEq, Prod.mk.injEq] at e; obtain ⟨rfl, rfl⟩ := e
        replace hp := hp.1
        have hvx : a.eval x = .int k m := C.val_rel hm (look_rel h hx)
        refine ⟨_, ?_, rfl⟩
        have : ¬ n < 0 := by omega
        simp [execOp, ho, hvx, hvy, eqGuard_at_int, binOp_shr, Op.shift, this]
      · exact pure_case hs e
    · exact pure_case hs e
  case h_12 f first caps ho =>
    split at e
    · rename_i ps hfirst hps
      split at e
      · rename_i l hl
        simp at e; obtain ⟨rfl, _⟩ := e
        have := ptrs_rel hl (lookAll_rel G h hps)
        have hf0 : first = #[] := by cases first; simp_all
        refine ⟨.func (.func f) #[] (caps.map a.eval), ?_, caps.toList.map a.eval, this, ?_⟩
        · simp [execOp, ho, Instr.makeFunc, hf0]
        · congr 1; apply Array.ext'; simp
      · cases e
    · cases e
  case h_13 c ho =>
    have hs : ∀ cs b, o.op ≠ .select cs b := by simp [ho]
    split at e
    · rename_i x hcal hargs
      have ha : c.args = #[x] := by apply Array.ext'; simpa using hargs
      split at e
      · rename_i m off len cap t hx ht
        split at e
        · rename_i el hu
          simp at e; obtain ⟨rfl, _⟩ := e
          obtain ⟨b, hb, hv⟩ := look_rel h hx
          have hat : c.argTypes = #[t] := by apply Array.ext'; simpa using ht
          refine ⟨.int .i64 len, ?_, rfl⟩
          simp [execOp, ho, resolve, hcal, ha, hv, invoke, builtin, Builtin.len_, hat, run_underlying hu, goInt]
        · cases e
      · rename_i m len t hx ht
        split at e
        · rename_i el hu
          simp at e; obtain ⟨rfl, _⟩ := e
          obtain ⟨b, hb, hv⟩ := look_rel h hx
          have hat : c.argTypes = #[t] := by apply Array.ext'; simpa using ht
          refine ⟨.int .i64 len, ?_, rfl⟩
          simp [execOp, ho, resolve, hcal, ha, hv, invoke, builtin, Builtin.len_, hat, run_underlying hu, goInt]
        · cases e
      · exact pure_case hs e
    · exact pure_case hs e
    · cases e
  case h_14 ho => exact pure_case (by simp [ho]) e
  case h_15 ho => exact pure_case (by simp [ho]) e
  case h_16 ho => exact pure_case (by simp [ho]) e
  case h_17 ho => exact pure_case (by simp [ho]) e
  case h_18 => cases e
end
end Go.Eng
end

section
set_option linter.unusedVariables false
set_option linter.unusedSimpArgs false
namespace Go.Eng
open Go.RowKit (Below)
/-- A summary: of the arguments, the named blocks and the first new name: a condition, the result, the new blocks. -/
abbrev Sm := List A → (Nat → Option Blk) → Nat → Option (List Prop × V × List Blk)
/-- What a call of a summed function comes to. -/
def Ends (ρ : Ren) (c : Nat) (v : V) (N : List Blk) (w : World) (e : Ending) (w' : World) : Prop :=
  ∃ (ρ' : Ren) (x : Value), e = .returned x ∧ ρ.le ρ' ∧ (∀ m, ρ m = none → (m < c ∨ c + N.length ≤ m) → ρ' m = none) ∧ v.rel ρ' x ∧ Below w.heap.size w w' ∧
    (∀ i k, N[i]? = some k → ∃ b, ρ' (c + i) = some b ∧ w.heap.size ≤ b.1 ∧ b.1 < w'.heap.size ∧ k.rel ρ' b.1 w') ∧
    (∀ i j b b', i < N.length → j < N.length → i ≠ j → ρ' (c + i) = some b → ρ' (c + j) = some b' → b.1 ≠ b'.1)
def namesL : List A → List Nat
  | [] => []
  | a :: l => a.names ++ namesL l
structure SumOK (P : Program) (gw : World → Prop) (f : FuncId) (σ : Sm) : Prop where
  enter : ∀ (args : Array Value) (w : World), (callFunc f args).run P w = .ok (.enter f args) w
  loc : ∀ args c hp hp', (∀ m, m ∈ namesL args → hp m = hp' m) → σ args hp c = σ args hp' c
  ok : ∀ args c hp p v N, σ args hp c = some (p, v, N) → All p → ∀ (ρ : Ren) (xs : List Value) (w : World), gw w → F2 (A.rel ρ) args xs →
    (∀ m k, hp m = some k → ∃ b, ρ m = some b ∧ b.1 < w.heap.size ∧ k.rel ρ b.1 w) → (∀ i, i < N.length → ρ (c + i) = none) → Calls P f xs.toArray w (Ends ρ c v N w)
theorem run_callFunc {P : Program} {f : FuncId} {fn : Func} (h : P.funcs[f]? = some fn) (hn : (fn.name == "runtime.NumGoroutine") = false) (hb : fn.body.isNone = false) (args : Array Value) (w : World) :
    (callFunc f args).run P w = .ok (.enter f args) w := by
  unfold callFunc
  simp only [Sem.run_bind, run_program, Result.andThen_ok, h, hn, Bool.false_eq_true, if_false, hb]
  rfl
section
variable (P : Program) (G n0 : Nat) (sg : FuncId → Option Sm)
def zeroL (n : Nat) (zl : List C) : List C := (List.range n).map fun i => zl.getD (i % zl.length) (.lit false)
def effM (o : Oper) (c : Nat) (s : S) : Option (Eff × List Prop) :=
  match o.op with
  | .alloc elem => (match P.info? elem with
    | some i => (match i.zero with
      | some z => (match ofCells true z.cells.toList with | some cs => some (⟨some (.a (.c (.ptr c 0))), [.known elem cs], none⟩, []) | none => none)
      | none => none)
    | none => none)
  | .box elem x => (match look G s x with | some (.a y) => some (⟨some (.a (.c (.ptr c 0))), [.known elem y.cells], none⟩, []) | _ => none)
  | .buildSlice t len parts => (match P.underlying t, looks G s parts.toList with
    | some (.slice elem), some ps => (match P.info? elem with
      | some i => (match i.zero with
        | some z => (match ofCells true z.cells.toList, Nat.ble (len * i.size) 16777216 && Nat.blt 0 z.cells.size with
          | some zl, true => (match fillA (fun j => some (j * i.size, i.size)) (zeroL (len * i.size) zl) ps with
            | some r => some (⟨some (.a (.c (.sl c 0 len len))), [.known elem r], none⟩, [])
            | none => none)
          | _, _ => none)
        | none => none)
      | none => none)
    | _, _ => none)
  | .makeSlice t l cp => (match P.underlying t, look G s l, look G s cp with
    | some (.slice elem), some (.a (.c (.num _ n))), some (.a (.c (.num _ m))) => (match P.info? elem with
      | some i => (match i.zero with
        | some z => (match ofCells true z.cells.toList, decide (0 ≤ n ∧ n ≤ m ∧ m ≤ 1000000 ∧ i.bytes ≤ 1000000) && Nat.blt 0 z.cells.size with
          | some zl, true => some (⟨some (.a (.c (.sl c 0 n.toNat m.toNat))), [.known elem (zeroL (m.toNat * i.size) zl)], none⟩, [])
          | _, _ => none)
        | none => none)
      | none => none)
    | _, _, _ => none)
  | .store t x y => (match look G s x, look G s y, P.info? t with
    | some (.a (.c (.ptr m off))), some (.a v), some i => (match s.hp m with
      | some (.known e cs) => (match Nat.ble n0 m && Nat.beq v.cells.length i.size && Nat.ble (off + v.cells.length) cs.length with
        | true => some (⟨none, [], some (m, .known e (cs.take off ++ v.cells ++ cs.drop (off + v.cells.length)))⟩, [])
        | false => none)
      | _ => none)
    | _, _, _ => none)
  | .call cl => (match cl.callee with
    | .value f => (match look G s f, lookAll G s cl.args.toList with
      | some (.a (.c (.fn g caps))), some args => (match sg g with
        | some σ => (match σ (args ++ caps.map fun q => .c (.ptr q.1 q.2)) s.hp c with
          | some (p, v, N) => some (⟨some v, N, none⟩, p)
          | none => none)
        | none => none)
      | _, _ => none)
    | _ => (match effV P G o s with | some (v, p) => some (⟨some v, [], none⟩, p) | none => none))
  | _ => (match effV P G o s with | some (v, p) => some (⟨some v, [], none⟩, p) | none => none)
end
section
variable {P : Program} {G n0 N : Nat} {sg : FuncId → Option Sm} {gw : World → Prop} {w0 : World} {ρ : Ren} {s s' : S} {a : Act} {w : World} {Q : Exit → Act → World → Prop}
theorem f2_map_range {α β : Type} {R : α → β → Prop} {f : Nat → α} {g : Nat → β} (h : ∀ i, R (f i) (g i)) : ∀ (l : List Nat), F2 R (l.map f) (l.map g)
  | [] => .nil
  | x :: l => .cons (h x) (f2_map_range h l)
theorem zeroL_rel {ρ : Ren} {zl : List C} {z : Array Value} (h : F2 (C.rel ρ) zl z.toList) (hp : 0 < z.size) (n : Nat) : F2 (C.rel ρ) (zeroL n zl) ((Array.range n).map (z[· % z.size]!)).toList := by
  have hl : zl.length = z.size := by rw [f2_len h]; simp
  have e : ((Array.range n).map (z[· % z.size]!)).toList = (List.range n).map (fun i => z[i % z.size]!) := by simp
  rw [e]
  unfold zeroL
  refine f2_map_range (fun i => ?_) _
  have hi : i % zl.length < zl.length := Nat.mod_lt _ (by omega)
  obtain ⟨y, hy, hr⟩ := f2_get h (i := i % zl.length) (List.getElem?_eq_getElem hi)
  rw [hl] at hy
  simp only [List.getD_eq_getElem?_getD, List.getElem?_eq_getElem hi, Option.getD_some]
  have : z[i % z.size]! = y := by
    have : z[i % z.size]? = some y := by simpa using hy
    simp [getElem!_def, this]
  rw [this]; exact hr
theorem map_range_zero {α : Type} {n : Nat} (h : n = 0) (g : Nat → α) : (Array.range n).map g = #[] := by subst h; apply Array.ext'; simp
theorem ptr_names {ρ : Ren} : ∀ {l : List (Nat × Nat)} {xs : List Value}, F2 (PtrRel ρ) l xs → F2 (A.rel ρ) (l.map fun q => A.c (.ptr q.1 q.2)) xs
  | _, _, .nil => .nil
  | _, _, .cons r rs => .cons r (ptr_names rs)
theorem new_le {c : Nat} (hf : ρ c = none) (b : Nat × Nat) : ρ.le (upd ρ c (some b)) := by
  intro m x hm
  by_cases e : m = c
  · subst e; rw [hf] at hm; cases hm
  · rw [upd_ne _ _ e]; exact hm
/-- One new block. -/
theorem Rel.alloc1 (h : Rel w0 n0 N ρ s a w) {dst : Option Tmp} {c : Nat} {val : Option V} {k : Blk} {x : Value} {ob : Obj} (cap : Nat)
    (hd : ∀ d, dst = some d → d < N) (hn : n0 ≤ c) (hfresh : s.hp c = none)
    (hv : ∀ v, val = some v → v.rel (upd ρ c (some (w.heap.size, cap))) x) (hk : k.rel (upd ρ c (some (w.heap.size, cap))) w.heap.size (w.alloc ob)) :
    Rel w0 n0 N (upd ρ c (some (w.heap.size, cap))) (act dst c ⟨val, [k], none⟩ s) (a.put dst x) (w.alloc ob) := by
  have hf := h.dom c hfresh
  refine h.grow hd hn ((Below.refl _ _).alloc (Nat.le_refl _) ob) (new_le hf _) ?_ ?_ (fun v _ => hv v) ?_ ?_
  · intro m hm hout
    simp only [List.length_singleton] at hout
    rw [upd_ne _ _ (by omega)]; exact hm
  · intro i hi; simp at hi; subst hi; exact hfresh
  · intro i k' hi
    cases i with
    | zero =>
      simp at hi; subst hi
      exact ⟨_, upd_same _ _ _, Nat.le_refl _, by simp, hk⟩
    | succ i => simp at hi
  · intro i j b b' hi hj hne; simp at hi hj; omega
theorem Rel.quiet (h : Rel w0 n0 N ρ s a w) {dst : Option Tmp} {c : Nat} {val : Option V} {x : Value} (hd : ∀ d, dst = some d → d < N) (hn : n0 ≤ c) (hv : ∀ v, val = some v → v.rel ρ x) :
    Rel w0 n0 N ρ (act dst c ⟨val, [], none⟩ s) (a.put dst x) w := by
  refine h.grow hd hn (Below.refl _ _) (Ren.le_refl _) (fun m hm _ => hm) ?_ (fun v _ => hv v) ?_ ?_
  · intro i hi; simp at hi
  · intro i k hi; simp at hi
  · intro i j b b' hi; simp at hi
theorem new_block {w : World} {cs : Array Value} {e : TypeId} : (w.alloc (.cells cs e (0, 0))).heap[w.heap.size]? = some (.cells cs e (0, 0)) := heap_alloc_new w _
/-- ONE OPERATION: what the abstract state becomes is what the frame and the world become. sr: what the operation may see of s. -/
theorem effM_sound (hsg : ∀ f σ, sg f = some σ → SumOK P gw f σ) (h : Rel w0 n0 N ρ s a w) (hgl : ∀ g, g < G → ρ g = some (g, 0)) (hgw : gw w)
    (hview : View G ρ s' a w) (hsub : ∀ m k, s'.hp m = some k → s.hp m = some k)
    {o : Oper} {c : Nat} {e : Eff} {p : List Prop} (he : effM P G n0 sg o c s' = some (e, p)) (hp : All p) (hd : ∀ d, o.dst = some d → d < N) (hn : n0 ≤ c)
    (hfresh : ∀ i, i < e.nw.length → s.hp (c + i) = none) :
    o.wp P a w (fun a' w' => ∃ ρ', Rel w0 n0 N ρ' (act o.dst c e s) a' w' ∧ ρ.le ρ') Q := by
  have val_case : (match effV P G o s' with | some (v, p) => some ((⟨some v, [], none⟩ : Eff), p) | none => none) = some (e, p) →
      o.wp P a w (fun a' w' => ∃ ρ', Rel w0 n0 N ρ' (act o.dst c e s) a' w' ∧ ρ.le ρ') Q := by
    intro he
    split at he
    · rename_i v p' hv
      simp only [Option.some.injEq, Prod.mk.injEq] at he; obtain ⟨rfl, rfl⟩ := he
      obtain ⟨x, hx, hr⟩ := effV_sound hview hv hp
      unfold Oper.wp
      rw [hx, Oper.upon_value]
      exact ⟨ρ, h.quiet hd hn (fun v' hv' => by cases hv'; exact hr), Ren.le_refl _⟩
    · cases he
  unfold effM at he
  split at he
  case h_1 elem ho =>
    split at he
    · rename_i i hi
      split at he
      · rename_i z hz
        split at he
        · rename_i cs hcs
          simp only [Option.some.injEq, Prod.mk.injEq] at he; obtain ⟨rfl, rfl⟩ := he
          have hx : (execOp a.eval o).run P w = .ok (.value (.pointer (some ⟨w.heap.size, 0, none⟩))) (w.alloc (.cells z.cells elem (0, 0))) := by
            simp [execOp, ho, Instr.alloc, run_zeroValue' P hi hz, newVar, newRow]
          unfold Oper.wp
          rw [hx, Oper.upon_value]
          have hf := hfresh 0 (by simp)
          refine ⟨_, h.alloc1 0 hd hn hf ?_ ?_, new_le (h.dom c hf) _⟩
          · intro v hv; cases hv; exact ⟨_, upd_same _ _ _, rfl⟩
          · exact ⟨z.cells.toList, ofCells_rel _ hcs, by rw [Array.toArray_toList]; exact new_block⟩
        · cases he
      · cases he
    · cases he
  case h_2 elem x ho =>
    split at he
    · rename_i y hy
      simp only [Option.some.injEq, Prod.mk.injEq] at he; obtain ⟨rfl, rfl⟩ := he
      have hr := look_rel hview hy
      have hx : (execOp a.eval o).run P w = .ok (.value (.pointer (some ⟨w.heap.size, 0, none⟩))) (w.alloc (.cells (a.eval x).cells elem (0, 0))) := by
        simp [execOp, ho, Instr.box, newVar, newRow]
      unfold Oper.wp
      rw [hx, Oper.upon_value]
      have hf := hfresh 0 (by simp)
      have hle := new_le (h.dom c hf) (w.heap.size, 0)
      refine ⟨_, h.alloc1 0 hd hn hf ?_ ?_, hle⟩
      · intro v hv; cases hv; exact ⟨_, upd_same _ _ _, rfl⟩
      · exact ⟨(a.eval x).cells.toList, f2_imp (C.rel_mono hle) (A.rel_cells hr), by rw [Array.toArray_toList]; exact new_block⟩
    · cases he
  case h_3 t len parts ho =>
    split at he
    · rename_i elem ps hu hps
      split at he
      · rename_i i hi
        split at he
        · rename_i z hz
          split at he
          · rename_i zl hzl hok
            split at he
            · rename_i r hr
              simp only [Option.some.injEq, Prod.mk.injEq] at he; obtain ⟨rfl, rfl⟩ := he
              simp only [Bool.and_eq_true] at hok
              have h1 := Nat.le_of_ble_eq_true hok.1
              have h2 : 0 < z.cells.size := by simpa [Nat.blt_eq] using hok.2
              have hzr := zeroL_rel (ρ := ρ) (ofCells_rel ρ hzl) h2 (len * i.size)
              obtain ⟨k', hk, hrel⟩ := fillA_sound (looks_rel G hview hps) hzr hr
              have hk' : Instr.fill (fun j => some (j * i.size, i.size)) ((Array.range (len * i.size)).map (z.cells[· % z.cells.size]!)) (parts.map fun (i, x) => (i, a.eval x)).toList = some k' := by simpa using hk
              have hx : (execOp a.eval o).run P w = .ok (.value (.slice (some ⟨w.heap.size, 0, none⟩) len len)) (w.alloc (.cells k' elem (0, 0))) := by
                by_cases h0 : len * i.size = 0
                · have h3 : ¬ (2 ^ 24 < len * i.size) := by omega
                  rw [map_range_zero h0] at hk'
                  simp only [execOp, ho, Instr.buildSlice, Sem.run_bind, run_underlying hu, Result.andThen_ok, run_sizeOf' P hi, if_pos h0, newRow, run_newObj, Sem.run_pure, Sem.run_ite, gt_iff_lt, h3, if_false, map_range_zero h0, hk']
                  rfl
                · have h3 : ¬ (2 ^ 24 < len * i.size) := by omega
                  simp only [execOp, ho, Instr.buildSlice, Sem.run_bind, run_underlying hu, Result.andThen_ok, run_sizeOf' P hi, h0, if_false, run_zeroValue' P hi hz, hk', newRow, run_newObj, Sem.run_pure, Sem.run_ite, gt_iff_lt, h3]
                  rfl
              unfold Oper.wp
              rw [hx, Oper.upon_value]
              have hf := hfresh 0 (by simp)
              have hle := new_le (h.dom c hf) (w.heap.size, 0)
              refine ⟨_, h.alloc1 0 hd hn hf ?_ ?_, hle⟩
              · intro v hv; cases hv; exact ⟨_, upd_same _ _ _, rfl⟩
              · exact ⟨k'.toList, f2_imp (C.rel_mono hle) hrel, by rw [Array.toArray_toList]; exact new_block⟩
            · cases he
          · cases he
        · cases he
      · cases he
    · cases he
  case h_4 t l cp ho =>
    split at he
    · rename_i elem k1 n k2 m hu hl hc
      split at he
      · rename_i i hi
        split at he
        · rename_i z hz
          split at he
          · rename_i zl hzl hok
            simp only [Option.some.injEq, Prod.mk.injEq] at he; obtain ⟨rfl, rfl⟩ := he
            simp only [Bool.and_eq_true] at hok
            obtain ⟨g1, g2, g3, g4⟩ := of_decide_eq_true hok.1
            have h2 : 0 < z.cells.size := by simpa [Nat.blt_eq] using hok.2
            have hln : a.eval l = .int k1 n := look_rel hview hl
            have hcn : a.eval cp = .int k2 m := look_rel hview hc
            have hzr := zeroL_rel (ρ := ρ) (ofCells_rel ρ hzl) h2 (m.toNat * i.size)
            have wn : IntKind.i64.wrap n = n := by rw [IntKind.wrap_i64]; omega
            have wm : IntKind.i64.wrap m = m := by rw [IntKind.wrap_i64]; omega
            have hb : (i.bytes : Int) * m ≤ 2 ^ 48 := by
              have : (i.bytes : Int) * m ≤ 1000000 * 1000000 := Int.mul_le_mul (by omega) (by omega) (by omega) (by omega)
              omega
            have hx : (execOp a.eval o).run P w = .ok (.value (.slice (some ⟨w.heap.size, 0, none⟩) n.toNat m.toNat)) (w.alloc (.cells ((Array.range (m.toNat * i.size)).map (z.cells[· % z.cells.size]!)) elem (0, 0))) := by
              have c1 : ¬ (m < 0) := by omega
              have c2 : ¬ (281474976710656 < (i.bytes : Int) * m) := by omega
              have c3 : ¬ (n < 0) := by omega
              have c4 : ¬ (m < n) := by omega
              by_cases h0 : m.toNat * i.size = 0
              · rw [map_range_zero h0]
                simp [execOp, ho, hln, hcn, Instr.makeSlice, run_underlying hu, asInt, asIntOf, typeInfo, hi, wn, wm, c1, c2, c3, c4, run_sizeOf' P hi, if_pos h0, newRow, map_range_zero h0]
              · simp [execOp, ho, hln, hcn, Instr.makeSlice, run_underlying hu, asInt, asIntOf, typeInfo, hi, wn, wm, c1, c2, c3, c4, run_sizeOf' P hi, h0, newRow, run_zeroValue' P hi hz]
            unfold Oper.wp
            rw [hx, Oper.upon_value]
            have hf := hfresh 0 (by simp)
            have hle := new_le (h.dom c hf) (w.heap.size, 0)
            refine ⟨_, h.alloc1 0 hd hn hf ?_ ?_, hle⟩
            · intro v hv; cases hv; exact ⟨_, upd_same _ _ _, rfl⟩
            · exact ⟨_, f2_imp (C.rel_mono hle) hzr, by rw [Array.toArray_toList]; exact new_block⟩
          · cases he
        · cases he
      · cases he
    · cases he
  case h_5 t x y ho =>
    split at he
    · rename_i m off v i hx hy hi
      split at he
      · rename_i el cs hm
        split at he
        · rename_i hok
          simp only [Option.some.injEq, Prod.mk.injEq] at he; obtain ⟨rfl, rfl⟩ := he
          simp only [Bool.and_eq_true] at hok
          have g1 := Nat.le_of_ble_eq_true hok.1.1
          have g2 : v.cells.length = i.size := Nat.eq_of_beq_eq_true hok.1.2
          have g3 := Nat.le_of_ble_eq_true hok.2
          obtain ⟨b, hb, hxv⟩ := look_rel hview hx
          have hyv := look_rel hview hy
          have hcv := A.rel_cells hyv
          obtain ⟨b', hb', hlt, xs, hf, hh⟩ := hview.hp m _ hm
          simp only at hb
          rw [hb] at hb'; cases hb'
          have hlen : xs.length = cs.length := (f2_len hf).symm
          have hvl : (a.eval y).cells.toList.length = v.cells.length := (f2_len hcv).symm
          have hst := run_storeCells_at P b.1 off el (a.eval y).cells.toList 0 xs.toArray w hh (by simp only [Array.size_eq_length_toList] ; simp at hvl ⊢; omega) (f2_oneCell hcv)
          have hrun : (execOp a.eval o).run P w = .ok .skip (w.setRow b.1 (xs.take off ++ (a.eval y).cells.toList ++ xs.drop (off + (a.eval y).cells.toList.length)).toArray) := by
            have hsz : (a.eval y).cells.size = i.size := by rw [← g2, ← hvl]; simp
            simp only [execOp, ho, hxv, Instr.storeAt, Instr.sureAddr, Sem.run_bind, Sem.run_pure, Result.andThen_ok, storeVar, run_sizeOf' P hi, hsz, ne_eq, not_true_eq_false, if_false, Sem.run_ite, hst]
            simp [hst]
          unfold Oper.wp
          rw [hrun, Oper.upon_skip]
          refine ⟨ρ, ?_, Ren.le_refl _⟩
          refine h.wrote hd (hsub m _ hm) g1 hb rfl rfl rfl (size_setRow _ _ _) ?_ ?_ (fun v' hdn hv' => by cases hv')
          · intro j hj; simp [World.setRow, Array.getElem?_modify, Ne.symm hj]
          · refine ⟨_, f2_append (f2_append (f2_take hf off) hcv) (f2_drop hf _), ?_⟩
            rw [setRow_heap w b.1 xs.toArray _ el _ hh]
            rw [hvl]
        · cases he
      · cases he
    · cases he
  case h_6 cl ho =>
    split at he
    · rename_i f hcal
      split at he
      · rename_i g caps args hf hargs
        split at he
        · rename_i σ hσ
          split at he
          · rename_i p' v N' hs
            simp only [Option.some.injEq, Prod.mk.injEq] at he; obtain ⟨rfl, rfl⟩ := he
            have S := hsg g σ hσ
            obtain ⟨cx, hcx, hfv⟩ := look_rel hview hf
            have hax := lookAll_rel G hview hargs
            have hrun : (execOp a.eval o).run P w = .ok (.enter g (cl.args.map a.eval ++ cx.toArray)) w := by
              simp only [execOp, ho, resolve, hcal, hfv, Deferred.ofValue, Sem.run_bind, Sem.run_pure, Result.andThen_ok, invoke, Array.empty_append, S.enter]
            unfold Oper.wp
            rw [hrun, Oper.upon_enter]
            have hall : F2 (A.rel ρ) (args ++ caps.map fun q => .c (.ptr q.1 q.2)) (cl.args.toList.map a.eval ++ cx) := f2_append hax (ptr_names hcx)
            have hc := S.ok _ c s'.hp p' v N' hs hp ρ _ w hgw hall hview.hp (fun i hi => h.dom _ (hfresh i hi))
            have earr : (cl.args.toList.map a.eval ++ cx).toArray = cl.args.map a.eval ++ cx.toArray := by apply Array.ext'; simp
            rw [earr] at hc
            refine hc.mono ?_
            rintro en w' ⟨ρ', x, rfl, hle, hno, hv, hbel, hnew, hdist⟩
            exact ⟨ρ', h.grow hd hn hbel hle hno hfresh (fun v' _ hv' => by cases hv'; exact hv) hnew hdist, hle⟩
          · cases he
        · cases he
      · cases he
    · exact val_case he
  case h_7 => exact val_case he
end
end Go.Eng
end

section
namespace Go.Eng
open Go.RowKit (Below)
def memN : List Nat → Nat → Bool
  | [], _ => false
  | x :: l, m => match Nat.beq x m with | true => true | false => memN l m
theorem memN_iff {m : Nat} : ∀ {l : List Nat}, memN l m = true ↔ m ∈ l := by
  intro l
  induction l with
  | nil => simp [memN]
  | cons x l ih =>
    simp only [memN]
    split
    · rename_i h; have := Nat.eq_of_beq_eq_true h; subst this; simp
    · rename_i h
      rw [ih, List.mem_cons]
      constructor
      · exact .inr
      · rintro (rfl | h')
        · simp at h
        · exact h'
def restr (s : S) (ts ms : List Nat) : S :=
  { tm := fun t => match memN ts t with | true => s.tm t | false => none
    hp := fun m => match memN ms m with | true => s.hp m | false => none }
theorem restr_congr {s s' : S} {ts ms : List Nat} (ht : ∀ t, t ∈ ts → s.tm t = s'.tm t) (hm : ∀ m, m ∈ ms → s.hp m = s'.hp m) : restr s ts ms = restr s' ts ms := by
  unfold restr
  congr 1
  · funext t; split
    · rename_i h; exact ht t (memN_iff.1 h)
    · rfl
  · funext m; split
    · rename_i h; exact hm m (memN_iff.1 h)
    · rfl
/-- What has been assumed of a bool that a guard asks. -/
def assume (orc : Option Bool) (r : Eff × List Prop) : Eff × List Prop :=
  match orc, r.1.val with
  | some b0, some (.a (.c (.bool b))) => ({ r.1 with val := some (.a (.c (.lit b0))) }, (b = b0) :: r.2)
  | _, _ => r
inductive St where
  | ok (e : Option Eff) (p : List Prop) (rd : List Nat)
  | ask (k : Nat) (b : Bool)
  | fail
def freshB (s : S) : List Nat → Bool
  | [] => true
  | m :: l => match s.hp m with | none => freshB s l | some _ => false
theorem freshB_at {s : S} : ∀ {l : List Nat} {m : Nat}, freshB s l = true → m ∈ l → s.hp m = none := by
  intro l
  induction l with
  | nil => intro m _ h; simp at h
  | cons x l ih =>
    intro m h hm
    simp only [freshB] at h
    split at h
    · rename_i hx
      rcases List.mem_cons.1 hm with rfl | hm
      · exact hx
      · exact ih h hm
    · cases h
section
variable (P : Program) (G n0 N : Nat) (sg : FuncId → Option Sm)
def opEff (orc : Option Bool) (o : Oper) (c : Nat) (s : S) : St :=
  match rdOf G o (restr s (opTmps o.op.operands.toList) []) with
  | rd =>
    match effM P G n0 sg o c (restr s (opTmps o.op.operands.toList) rd) with
    | some r =>
      match (match o.dst with | some d => Nat.blt d N | none => true) && Nat.ble n0 c && freshB s (names c r.1.nw.length) with
      | true => .ok (some (assume orc r).1) (assume orc r).2 rd
      | false => .fail
    | none => .fail
/-- An operation that its guard leaves out. -/
def skipA (N : Nat) (o : Oper) : St := match (match o.dst with | some d => Nat.blt d N | none => true) with | true => .ok (some ⟨some (.tup []), [], none⟩) [] [] | false => .fail
def stepA (ops : Array Oper) (orc : Nat → Option Bool) (i c : Nat) (o : Oper) (s : S) : St :=
  match o.guard with
  | none => opEff P G n0 N sg (orc i) o c s
  | some (k, want) =>
    match dstOf ops k with
    | some d =>
      match s.tm d with
      | some (.a (.c (.lit b))) => (match b == want with
        | true => opEff P G n0 N sg (orc i) o c s
        | false => skipA N o)
      | some (.a (.c (.bool b))) => .ask k b
      | some (.tup []) => skipA N o
      | _ => .fail
    | none => .fail
inductive RR where
  | done (L : List Item) (s : S) (c : Nat) (p : List Prop)
  | ask (k : Nat) (b : Bool)
  | fail
def newsOf : Option Eff → Nat
  | some e => e.nw.length
  | none => 0
def rrun (ops : Array Oper) (orc : Nat → Option Bool) : List Oper → Nat → Nat → S → RR
  | [], _, c, s => .done [] s c []
  | o :: l, i, c, s =>
    match stepA P G n0 N sg ops orc i c o s with
    | .ok e p rd =>
      (match rrun ops orc l (i + 1) (c + newsOf e) (doit o.dst ⟨c, e, rd⟩ s) with
      | .done L s' c' q => .done ((o.dst, ⟨c, e, rd⟩) :: L) s' c' (p ++ q)
      | r => r)
    | .ask k b => .ask k b
    | .fail => .fail
end
section
variable {P : Program} {G n0 N : Nat} {sg : FuncId → Option Sm} {gw : World → Prop} {w0 : World} {ρ : Ren} {a : Act} {w : World} {Q : Exit → Act → World → Prop}
theorem Rel.view {s : S} (h : Rel w0 n0 N ρ s a w) (hgl : ∀ g, g < G → ρ g = some (g, 0)) (ts ms : List Nat) : View G ρ (restr s ts ms) a w where
  tm := by
    intro t v ht
    simp only [restr] at ht
    split at ht
    · exact (h.tm t v ht).2
    · cases ht
  hp := by
    intro m k hk
    simp only [restr] at hk
    split at hk
    · obtain ⟨b, h1, h2, h3, _⟩ := h.hp m k hk; exact ⟨b, h1, h2, h3⟩
    · cases hk
  gl := hgl
/-- A weaker state. -/
theorem Rel.weaken {s s' : S} (h : Rel w0 n0 N ρ s a w) (ht : ∀ t v', s'.tm t = some v' → ∃ v, s.tm t = some v ∧ ∀ x, v.rel ρ x → v'.rel ρ x) (hm : ∀ m, s'.hp m = s.hp m) : Rel w0 n0 N ρ s' a w where
  sz := h.sz
  df := h.df
  bel := h.bel
  tm := by
    intro t v' hv
    obtain ⟨v, h1, h2⟩ := ht t v' hv
    obtain ⟨h3, h4⟩ := h.tm t v h1
    exact ⟨h3, h2 _ h4⟩
  dom := fun m hd => h.dom m (by rw [← hm]; exact hd)
  hp := fun m k hk => h.hp m k (by rw [← hm]; exact hk)
  inj := h.inj
theorem assume_rel {orc : Option Bool} {r : Eff × List Prop} {dst : Option Tmp} {c : Nat} {s : S} (hp : All (assume orc r).2) (h : Rel w0 n0 N ρ (act dst c r.1 s) a w) : Rel w0 n0 N ρ (act dst c (assume orc r).1 s) a w := by
  unfold assume at hp ⊢
  split at hp
  · rename_i b0 b hv
    simp only at hp
    obtain ⟨rfl, _⟩ := hp
    refine h.weaken ?_ (fun m => rfl)
    intro t v' ht
    cases dst with
    | none => simp only [act] at ht ⊢; exact ⟨v', ht, fun x hx => hx⟩
    | some d =>
      simp only [act] at ht ⊢
      by_cases e : t = d
      · subst e
        rw [upd_same] at ht; cases ht
        refine ⟨.a (.c (.bool _)), by rw [upd_same]; exact hv, fun x hx => hx⟩
      · rw [upd_ne _ _ e] at ht ⊢
        exact ⟨v', ht, fun x hx => hx⟩
  · exact h
theorem assume_p {orc : Option Bool} {r : Eff × List Prop} (hp : All (assume orc r).2) : All r.2 := by
  unfold assume at hp
  split at hp
  · exact hp.2
  · exact hp
theorem assume_nw {orc : Option Bool} {r : Eff × List Prop} : (assume orc r).1.nw = r.1.nw ∧ (assume orc r).1.wr = r.1.wr := by
  unfold assume; split <;> exact ⟨rfl, rfl⟩
theorem opEff_sound (hsg : ∀ f σ, sg f = some σ → SumOK P gw f σ) (hgl : ∀ g, g < G → ρ g = some (g, 0)) (hgw : gw w) {orc : Option Bool} {o : Oper} {c : Nat} {T T' : S} {e : Option Eff} {p : List Prop} {rd : List Nat}
    (he : opEff P G n0 N sg orc o c T' = .ok e p rd) (hp : All p) (h : Rel w0 n0 N ρ T a w)
    (h1 : ∀ t, t ∈ opTmps o.op.operands.toList → T.tm t = T'.tm t) (h2 : ∀ m, m ∈ rd → T.hp m = T'.hp m) (h3 : ∀ m, m ∈ (Rec.mk c e rd).touch → T.hp m = T'.hp m) :
    o.wp P a w (fun a' w' => ∃ ρ', Rel w0 n0 N ρ' (doit o.dst ⟨c, e, rd⟩ T) a' w' ∧ ρ.le ρ') Q := by
  unfold opEff at he
  simp only at he
  split at he
  · rename_i r hr
    split at he
    · rename_i hok
      simp only [St.ok.injEq] at he
      obtain ⟨rfl, rfl, rfl⟩ := he
      simp only [Bool.and_eq_true] at hok
      have hn := Nat.le_of_ble_eq_true hok.1.2
      have hd : ∀ d, o.dst = some d → d < N := by
        intro d hd
        have := hok.1.1
        rw [hd] at this
        simpa [Nat.blt_eq] using this
      have e1 : restr T (opTmps o.op.operands.toList) [] = restr T' (opTmps o.op.operands.toList) [] := restr_congr h1 (by simp)
      rw [← e1] at hr h2
      have e2 : restr T (opTmps o.op.operands.toList) (rdOf G o (restr T (opTmps o.op.operands.toList) [])) = restr T' (opTmps o.op.operands.toList) (rdOf G o (restr T (opTmps o.op.operands.toList) [])) := restr_congr h1 h2
      rw [← e2] at hr
      have hfr : ∀ i, i < r.1.nw.length → T.hp (c + i) = none := by
        intro i hi
        have hm : c + i ∈ names c r.1.nw.length := mem_names.2 ⟨by omega, by omega⟩
        rw [h3 (c + i) (by simp only [Rec.touch, assume_nw.1]; exact List.mem_append_right _ hm)]
        exact freshB_at hok.2 hm
      have key := effM_sound (Q := Q) hsg h hgl hgw (h.view hgl (opTmps o.op.operands.toList) (rdOf G o (restr T (opTmps o.op.operands.toList) []))) (fun m k hk => by
        simp only [restr] at hk
        split at hk
        · exact hk
        · cases hk) hr (assume_p hp) hd hn hfr
      refine Oper.wp_mono ?_ key
      rintro a' w' ⟨ρ', hrel, hle⟩
      exact ⟨ρ', assume_rel hp hrel, hle⟩
    · cases he
  · cases he
theorem skipA_sound {c : Nat} {o : Oper} {T : S} {e : Option Eff} {p : List Prop} {rd : List Nat} (he : skipA N o = .ok e p rd) (h : Rel w0 n0 N ρ T a w) :
    ∃ ρ', Rel w0 n0 N ρ' (doit o.dst ⟨c, e, rd⟩ T) (a.put o.dst undef) w ∧ ρ.le ρ' := by
  unfold skipA at he
  split at he
  · rename_i hdn
    simp only [St.ok.injEq] at he
    obtain ⟨rfl, rfl, rfl⟩ := he
    refine ⟨ρ, ?_, Ren.le_refl _⟩
    have hdn' : ∀ d, o.dst = some d → d < N := by
      intro d hd; rw [hd] at hdn; simpa [Nat.blt_eq] using hdn
    have := h.quiet (dst := o.dst) (c := n0) (val := some (.tup [])) (x := undef) hdn' (Nat.le_refl _) (fun v hv => by cases hv; exact ⟨[], .nil, rfl⟩)
    exact this
  · cases he
theorem stepA_sound (hsg : ∀ f σ, sg f = some σ → SumOK P gw f σ) (hgl : ∀ g, g < G → ρ g = some (g, 0)) (hgw : gw w) {ops : Array Oper} {orc : Nat → Option Bool} {i c : Nat} {o : Oper} {T T' : S} {e : Option Eff} {p : List Prop} {rd : List Nat}
    (ho : ops[i]? = some o) (he : stepA P G n0 N sg ops orc i c o T' = .ok e p rd) (hp : All p) (h : Rel w0 n0 N ρ T a w)
    (h1 : ∀ t, t ∈ uses ops o → T.tm t = T'.tm t) (h2 : ∀ m, m ∈ rd → T.hp m = T'.hp m) (h3 : ∀ m, m ∈ (Rec.mk c e rd).touch → T.hp m = T'.hp m) :
    wpOp P ops Q i (fun a' w' => ∃ ρ', Rel w0 n0 N ρ' (doit o.dst ⟨c, e, rd⟩ T) a' w' ∧ ρ.le ρ') a w := by
  have hu : ∀ t, t ∈ opTmps o.op.operands.toList → T.tm t = T'.tm t := fun t ht => h1 t (by unfold uses; exact List.mem_append_right _ ht)
  unfold wpOp
  rw [ho]
  simp only
  unfold stepA at he
  split at he
  · rename_i hg
    rw [if_pos (by simp [Region.wanted, hg])]
    exact .inl (opEff_sound hsg hgl hgw he hp h hu h2 h3)
  · rename_i k want hg
    split at he
    · rename_i d hd
      have hT : T.tm d = T'.tm d := h1 d (by unfold uses; rw [hg]; simp [hd])
      split at he
      · rename_i b hb
        rw [← hT] at hb
        obtain ⟨hlt, hv⟩ := h.tm d _ hb
        have hv' : a.tmps.getD d undef = .bool b := hv
        have hy : yielded ops a.tmps k = some b := by
          have hd' : (ops[k]?).bind (·.dst) = some d := hd
          have : a.tmps[d]? = some (.bool b) := by
            rw [Array.getD_eq_getD_getElem?] at hv'
            have hlt' : d < a.tmps.size := by rw [h.sz]; exact hlt
            rw [Array.getElem?_eq_getElem hlt'] at hv' ⊢
            simpa using hv'
          simp [yielded, hd', this]
        split at he
        · rename_i hw
          have : b = want := by simpa using hw
          subst this
          rw [if_pos (by simp [Region.wanted, hg, hy])]
          exact .inl (opEff_sound hsg hgl hgw he hp h hu h2 h3)
        · rename_i hw
          rw [if_neg (by simp [Region.wanted, hg, hy]; simpa using hw)]
          exact skipA_sound he h
      · cases he
      · rename_i hb
        rw [← hT] at hb
        obtain ⟨hlt, hv⟩ := h.tm d _ hb
        have hv' : a.tmps.getD d undef = .tuple #[] := by
          obtain ⟨ys, h1, h2⟩ := hv
          cases h1
          exact h2
        have hy : yielded ops a.tmps k = none := by
          have hd' : (ops[k]?).bind (·.dst) = some d := hd
          have : a.tmps[d]? = some (.tuple #[]) := by
            rw [Array.getD_eq_getD_getElem?] at hv'
            have hlt' : d < a.tmps.size := by rw [h.sz]; exact hlt
            rw [Array.getElem?_eq_getElem hlt'] at hv' ⊢
            simpa using hv'
          simp [yielded, hd', this]
        rw [if_neg (by simp [Region.wanted, hg, hy])]
        exact skipA_sound he h
      · cases he
    · cases he
theorem rrun_spec {ops : Array Oper} {orc : Nat → Option Bool} : ∀ {l : List Oper} {i c : Nat} {s : S} {L : List Item} {s' : S} {c' : Nat} {q : List Prop}, rrun P G n0 N sg ops orc l i c s = .done L s' c' q → All q →
    L.length = l.length ∧ s' = runL (fun _ => true) L i s ∧ ∀ j o x, l[j]? = some o → L[j]? = some x →
      x.1 = o.dst ∧ ∃ p, stepA P G n0 N sg ops orc (i + j) x.2.c o (runL (fun k => Nat.blt k (i + j)) L i s) = .ok x.2.e p x.2.rd ∧ All p := by
  intro l
  induction l with
  | nil =>
    intro i c s L s' c' q h hq
    simp only [rrun, RR.done.injEq] at h
    obtain ⟨rfl, rfl, rfl, rfl⟩ := h
    exact ⟨rfl, rfl, fun j o x h => by simp at h⟩
  | cons o l ih =>
    intro i c s L s' c' q h hq
    simp only [rrun] at h
    split at h
    · rename_i e p rd hst
      split at h
      · rename_i L2 s2 c2 q2 hr
        simp only [RR.done.injEq] at h
        obtain ⟨rfl, rfl, rfl, rfl⟩ := h
        obtain ⟨hp, hq2⟩ := All.append.1 hq
        obtain ⟨i1, i2, i3⟩ := ih hr hq2
        refine ⟨by simp [i1], by simp [runL, i2], ?_⟩
        intro j o' x ho hx
        cases j with
        | zero =>
          simp at ho hx; subst ho; subst hx
          refine ⟨rfl, p, ?_, hp⟩
          have : ∀ (l : List Item) (k : Nat), i ≤ k → ∀ s, runL (fun k => Nat.blt k (i + 0)) l k s = s := by
            intro l
            induction l with
            | nil => intro k _ s; rfl
            | cons x l ih =>
              intro k hk s
              have : Nat.blt k (i + 0) = false := by rw [← Bool.not_eq_true, Nat.blt_eq]; omega
              simp only [runL, this, Bool.false_eq_true, if_false]
              exact ih _ (by omega) _
          rw [this _ _ (Nat.le_refl _)]
          exact hst
        | succ j =>
          obtain ⟨k1, p', k2, k3⟩ := i3 j o' x (by simpa using ho) (by simpa using hx)
          refine ⟨k1, p', ?_, k3⟩
          have hlt : Nat.blt i (i + (j + 1)) = true := by rw [Nat.blt_eq]; omega
          simp only [runL, hlt, if_true]
          rw [show i + (j + 1) = i + 1 + j by omega]
          exact k2
      · rename_i hne
        exact absurd h (by intro hh; exact hne _ _ _ _ hh)
    · cases h
    · cases h
/-- In the text's order. -/
theorem region_seq (hsg : ∀ f σ, sg f = some σ → SumOK P gw f σ) (hst : ∀ w w', gw w → Below w.heap.size w w' → gw w') (hgw0 : gw w0) {ops : Array Oper} {orc : Nat → Option Bool} {c c' : Nat} {s s' : S} {L : List Item} {q : List Prop}
    (hr : rrun P G n0 N sg ops orc ops.toList 0 c s = .done L s' c' q) (hq : All q) (h : Rel w0 n0 N ρ s a w) (hgl : ∀ g, g < G → ρ g = some (g, 0))
    (hQ : ∀ a' w' ρ', Rel w0 n0 N ρ' s' a' w' → ρ.le ρ' → Q .normal a' w') : wpOps P ops Q (List.range ops.size) a w := by
  obtain ⟨hlen, hs', hall⟩ := rrun_spec hr hq
  have key : ∀ n, n ≤ ops.size → ∀ (a : Act) (w : World) (ρ1 : Ren), Rel w0 n0 N ρ1 (runL (fun k => Nat.blt k (ops.size - n)) L 0 s) a w → ρ.le ρ1 →
      wpOps P ops Q (List.range' (ops.size - n) n) a w := by
    intro n
    induction n with
    | zero =>
      intro _ a w ρ1 h1 hle
      simp only [List.range'_zero, wpOps]
      refine hQ a w ρ1 ?_ hle
      rw [hs', ← runL_all (D := fun k => Nat.blt k (ops.size - 0)) L 0 s (fun k hk => by rw [Nat.blt_eq]; simp at hlen; omega)]
      exact h1
    | succ n ih =>
      intro hn a w ρ1 h1 hle
      rw [List.range'_succ, wpOps_cons]
      have hj : ops.size - (n + 1) < ops.size := by omega
      have ho : ops[ops.size - (n + 1)]? = some ops[ops.size - (n + 1)] := Array.getElem?_eq_getElem hj
      have hjL : ops.size - (n + 1) < L.length := by rw [hlen]; simpa using hj
      obtain ⟨k1, p, k2, k3⟩ := hall (ops.size - (n + 1)) _ L[ops.size - (n + 1)] (by rw [Array.getElem?_toList]; exact ho) (List.getElem?_eq_getElem hjL)
      simp only [Nat.zero_add] at k2
      have st := stepA_sound (Q := Q) hsg (fun g hg => hle _ _ (hgl g hg)) (hst _ _ hgw0 h1.bel) ho k2 k3 h1 (fun t _ => rfl) (fun m _ => rfl) (fun m _ => rfl)
      refine wpOp_mono ?_ st
      rintro a' w' ⟨ρ', hrel, hle'⟩
      have := ih (by omega) a' w' ρ' ?_ (Ren.le_trans hle hle')
      · rw [show ops.size - (n + 1) + 1 = ops.size - n by omega]; exact this
      · have e := runL_ins (D := fun k => Nat.blt k (ops.size - (n + 1))) (D' := fun k => Nat.blt k (ops.size - n)) L[ops.size - (n + 1)] L 0 (ops.size - (n + 1)) s (List.getElem?_eq_getElem hjL)
          (by rw [← Bool.not_eq_true, Nat.blt_eq]; omega) (by rw [Nat.blt_eq]; omega)
          (fun k hk => by
            have : (k < ops.size - n) ↔ (k < ops.size - (n + 1)) := by omega
            rw [Bool.eq_iff_iff, Nat.blt_eq, Nat.blt_eq]; exact this)
          (fun k y _ hjk hD => by rw [Nat.blt_eq] at hD; omega)
        rw [e, k1]
        exact hrel
  have := key ops.size (Nat.le_refl _) a w ρ (by
    have : ∀ (l : List Item) (i : Nat), runL (fun k => Nat.blt k (ops.size - ops.size)) l i s = s := by
      intro l
      induction l with
      | nil => intro i; rfl
      | cons x l ih =>
        intro i
        have : Nat.blt i (ops.size - ops.size) = false := by rw [← Bool.not_eq_true, Nat.blt_eq]; omega
        simp only [runL, this, Bool.false_eq_true, if_false]
        exact ih _
    rw [this]; exact h) (Ren.le_refl _)
  rw [Nat.sub_self, ← List.range_eq_range'] at this
  exact this
end
end Go.Eng
end

section
namespace Go.Eng
open Go.RowKit (Below)
/-- All that must hold of a region's record if its order is drawn. -/
def anyOk (ops : Array Oper) (L : List Item) : Bool :=
  match masks ops.toList [] with
  | M => masksOk M ops.toList 0 && allPairsOk ops M L ops.toList L 0
theorem count_set : ∀ {l : List Bool} {j : Nat} (hj : j < l.length), l[j] = false → ((l.set j true).filter id).length = (l.filter id).length + 1
  | [], j, hj, _ => by simp at hj
  | x :: l, 0, _, h => by simp at h; subst h; simp
  | x :: l, j + 1, hj, h => by
    have := count_set (l := l) (j := j) (by simpa using hj) (by simpa using h)
    cases x <;> simp [this]
section
variable {P : Program} {G n0 N : Nat} {sg : FuncId → Option Sm} {gw : World → Prop} {w0 : World} {ρ : Ren} {a : Act} {w : World} {Q : Exit → Act → World → Prop}
theorem mem_ready' {ops : Array Oper} {listed : Array Bool} {j : Nat} (h : j ∈ Region.ready .any ops listed) :
    ∃ o, ops[j]? = some o ∧ j < ops.size ∧ listed.getD j true = false ∧ ∀ e ∈ o.after.toList, Region.binds .any e = true → listed.getD e.on false = true := by
  unfold Region.ready at h
  rw [List.mem_filter, List.mem_range] at h
  obtain ⟨hj, h2⟩ := h
  have ho : ops[j]? = some ops[j] := Array.getElem?_eq_getElem hj
  rw [ho] at h2
  simp only [Option.map_some, Option.getD_some, Bool.and_eq_true, Bool.not_eq_true'] at h2
  refine ⟨_, ho, hj, h2.1, fun e he hb => ?_⟩
  have := Array.all_eq_true_iff_forall_mem.1 h2.2 e (by simpa using he)
  rw [hb] at this
  simpa using this
theorem ready_nil {ops : Array Oper} {listed : Array Bool} (hs : listed.size = ops.size) {M : List Nat} (hM : masksOk M ops.toList 0 = true) (h : Region.ready .any ops listed = []) :
    ∀ i, i < ops.size → listed.getD i false = true := by
  intro i
  induction i using Nat.strongRecOn with
  | _ i ih =>
    intro hi
    cases hl : listed.getD i false with
    | true => rfl
    | false =>
      exfalso
      have ho : ops[i]? = some ops[i] := Array.getElem?_eq_getElem hi
      have hm := (masksOk_at hM (k := i) (o := ops[i]) (by rw [Array.getElem?_toList]; exact ho)).2
      have : i ∈ Region.ready .any ops listed := by
        unfold Region.ready
        rw [List.mem_filter, List.mem_range]
        refine ⟨hi, ?_⟩
        rw [ho]
        simp only [Option.map_some, Option.getD_some, Bool.and_eq_true, Bool.not_eq_true']
        constructor
        · have hi' : i < listed.size := by omega
          rw [Array.getD_eq_getD_getElem?, Array.getElem?_eq_getElem hi'] at hl ⊢
          simpa using hl
        · rw [Array.all_eq_true_iff_forall_mem]
          intro e he
          by_cases hb : Region.binds .any e = true
          · have h1 := hm e (by simpa using he) hb
            rw [hb, ih e.on (by omega) (by omega)]; rfl
          · simp [hb]
      rw [h] at this; simp at this
theorem region_any (hsg : ∀ f σ, sg f = some σ → SumOK P gw f σ) (hst : ∀ w w', gw w → Below w.heap.size w w' → gw w') (hgw0 : gw w0) {ops : Array Oper} {orc : Nat → Option Bool} {c c' : Nat} {s s' : S} {L : List Item} {q : List Prop}
    (hr : rrun P G n0 N sg ops orc ops.toList 0 c s = .done L s' c' q) (hq : All q) (hok : anyOk ops L = true) (h : Rel w0 n0 N ρ s a w) (hgl : ∀ g, g < G → ρ g = some (g, 0))
    (hQ : ∀ a' w' ρ', Rel w0 n0 N ρ' s' a' w' → ρ.le ρ' → Q .normal a' w') : wpAny P .any ops Q ops.size (Array.replicate ops.size false) a w := by
  obtain ⟨hlen, hs', hall⟩ := rrun_spec hr hq
  unfold anyOk at hok
  simp only [Bool.and_eq_true] at hok
  obtain ⟨hM, hP⟩ := hok
  generalize masks ops.toList [] = M at hM hP
  have key : ∀ fuel (listed : Array Bool) (a : Act) (w : World) (ρ1 : Ren), listed.size = ops.size → ops.size ≤ fuel + (listed.toList.filter id).length →
      (∀ j o, ops[j]? = some o → listed.getD j false = true → ∀ e ∈ o.after.toList, Region.binds .any e = true → listed.getD e.on false = true) →
      Rel w0 n0 N ρ1 (runL (fun k => listed.getD k false) L 0 s) a w → ρ.le ρ1 → wpAny P .any ops Q fuel listed a w := by
    have fin : ∀ (listed : Array Bool) (a : Act) (w : World) (ρ1 : Ren), listed.size = ops.size → Region.ready .any ops listed = [] →
        Rel w0 n0 N ρ1 (runL (fun k => listed.getD k false) L 0 s) a w → ρ.le ρ1 → Q .normal a w := by
      intro listed a w ρ1 hs hnil h1 hle
      have hf := ready_nil hs hM hnil
      refine hQ a w ρ1 ?_ hle
      rw [hs', ← runL_all (D := fun k => listed.getD k false) L 0 s (fun k hk => by
        rw [Nat.zero_add]; exact hf k (by rw [hlen] at hk; simpa using hk))]
      exact h1
    intro fuel
    induction fuel with
    | zero =>
      intro listed a w ρ1 hs hcount hcl h1 hle
      have hfull : ∀ i, i < ops.size → listed.getD i false = true := by
        intro i hi
        have hl : (listed.toList.filter id).length = listed.toList.length := by
          have := List.length_filter_le id listed.toList
          simp at this hcount ⊢; omega
        rw [List.length_filter_eq_length_iff] at hl
        have hi' : i < listed.size := by omega
        have := hl listed[i] (by simp)
        rw [Array.getD_eq_getD_getElem?, Array.getElem?_eq_getElem hi']
        simpa using this
      have hnil : Region.ready .any ops listed = [] := by
        rw [List.eq_nil_iff_forall_not_mem]
        intro j hj
        obtain ⟨o, _, hlt, hn, _⟩ := mem_ready' hj
        have := hfull j hlt
        have hi' : j < listed.size := by omega
        rw [Array.getD_eq_getD_getElem?, Array.getElem?_eq_getElem hi'] at hn this
        simp at hn this
        rw [hn] at this; cases this
      exact ⟨hnil, fin listed a w ρ1 hs hnil h1 hle⟩
    | succ fuel ih =>
      intro listed a w ρ1 hs hcount hcl h1 hle
      refine ⟨fun hnil => fin listed a w ρ1 hs hnil h1 hle, ?_⟩
      intro j hj
      obtain ⟨o, ho, hjlt, hnot, hpre⟩ := mem_ready' hj
      have hjs : j < listed.size := by omega
      have hnot' : listed.getD j false = false := by
        rw [Array.getD_eq_getD_getElem?, Array.getElem?_eq_getElem hjs] at hnot ⊢
        simpa using hnot
      have hjL : j < L.length := by rw [hlen]; simpa using hjlt
      obtain ⟨k1, p, k2, k3⟩ := hall j o L[j] (by rw [Array.getElem?_toList]; exact ho) (List.getElem?_eq_getElem hjL)
      simp only [Nat.zero_add] at k2
      have hpairs := allPairsOk_at hP (k := j) (o := o) (y := L[j]) (by rw [Array.getElem?_toList]; exact ho) (List.getElem?_eq_getElem hjL)
      rw [Nat.zero_add] at hpairs
      -- what comes before one that has run has run
      have hdown : ∀ (i k : Nat), listed.getD i false = true → (M.getD i 0).testBit k = true → listed.getD k false = true := by
        intro i
        induction i using Nat.strongRecOn with
        | _ i ihd =>
          intro k hi hk
          have his : i < ops.size := by
            have : i < listed.size := by
              by_cases hlt : i < listed.size
              · exact hlt
              · rw [Array.getD_eq_getD_getElem?, Array.getElem?_eq_none (by omega)] at hi; simp at hi
            omega
          have hoi : ops[i]? = some ops[i] := Array.getElem?_eq_getElem his
          obtain ⟨m1, m2⟩ := masksOk_at hM (k := i) (o := ops[i]) (by rw [Array.getElem?_toList]; exact hoi)
          rw [Nat.zero_add] at m1 m2
          rw [m1] at hk
          obtain ⟨e, he, hb, hor⟩ := maskE_bit hk
          have h1 := hcl i _ hoi hi e he hb
          rcases hor with rfl | hor
          · exact h1
          · exact ihd e.on (m2 e he hb) k h1 hor
      have hbefore : ∀ k, (M.getD j 0).testBit k = true → listed.getD k false = true := by
        intro k hk
        obtain ⟨m1, m2⟩ := masksOk_at hM (k := j) (o := o) (by rw [Array.getElem?_toList]; exact ho)
        rw [Nat.zero_add] at m1 m2
        rw [m1] at hk
        obtain ⟨e, he, hb, hor⟩ := maskE_bit hk
        rcases hor with rfl | hor
        · exact hpre e he hb
        · exact hdown e.on k (hpre e he hb) hor
      -- an operation that j conflicts with has run just if it stands before j
      have hsame : ∀ k x, L[k]? = some x → k ≠ j → conf (uses ops o) x L[j] = true → listed.getD k false = Nat.blt k j := by
        intro k x hx hne hc
        have hp := pairsOk_at hpairs hx (by omega) hc
        rw [Nat.zero_add] at hp
        by_cases hlt : k < j
        · rw [hbefore k (hp.1 hlt)]; rw [eq_comm, Nat.blt_eq]; exact hlt
        · have hgt : j < k := by omega
          have : Nat.blt k j = false := by rw [← Bool.not_eq_true, Nat.blt_eq]; omega
          rw [this]
          cases hk : listed.getD k false with
          | false => rfl
          | true => have := hdown k j hk (hp.2 hgt); rw [hnot'] at this; cases this
      have hmem : ∀ {d : Nat} {l : List Nat}, d ∈ l → l.elem d = true := fun h => List.elem_eq_true_of_mem h
      have a1 : ∀ t, t ∈ uses ops o → (runL (fun k => listed.getD k false) L 0 s).tm t = (runL (fun k => Nat.blt k j) L 0 s).tm t := by
        intro t ht
        refine runL_tm L 0 s s rfl (fun k x hx hxt => ?_)
        rw [Nat.zero_add]
        by_cases e : k = j
        · subst e
          rw [hnot', eq_comm, ← Bool.not_eq_true, Nat.blt_eq]; omega
        · exact hsame k x hx e (by unfold conf; rw [hxt]; simp only [hmem ht, Bool.true_or])
      have a2 : ∀ m, (m ∈ L[j].2.rd ∨ m ∈ L[j].2.touch) → (runL (fun k => listed.getD k false) L 0 s).hp m = (runL (fun k => Nat.blt k j) L 0 s).hp m := by
        intro m hm
        refine runL_hp L 0 s s rfl (fun k x hx hxm => ?_)
        rw [Nat.zero_add]
        by_cases e : k = j
        · subst e
          rw [hnot', eq_comm, ← Bool.not_eq_true, Nat.blt_eq]; omega
        · refine hsame k x hx e ?_
          unfold conf
          rw [Bool.or_eq_true]; right
          rw [List.any_eq_true]
          refine ⟨m, hxm, ?_⟩
          rcases hm with hm | hm
          · rw [hmem hm]; rfl
          · rw [hmem hm]; simp
      have st := stepA_sound (Q := Q) hsg (fun g hg => hle _ _ (hgl g hg)) (hst _ _ hgw0 h1.bel) ho k2 k3 h1 a1 (fun m hm => a2 m (.inl hm)) (fun m hm => a2 m (.inr hm))
      refine wpOp_mono ?_ st
      rintro a' w' ⟨ρ', hrel, hle'⟩
      refine ih (listed.setIfInBounds j true) a' w' ρ' (by simpa using hs) ?_ ?_ ?_ (Ren.le_trans hle hle')
      · have : ((listed.setIfInBounds j true).toList.filter id).length = (listed.toList.filter id).length + 1 := by
          rw [Array.toList_setIfInBounds]
          have hjl : j < listed.toList.length := by simpa using hjs
          have hval : listed.toList[j] = false := by
            rw [Array.getD_eq_getD_getElem?, Array.getElem?_eq_getElem hjs] at hnot'
            simpa using hnot'
          exact count_set hjl hval
        omega
      · intro i oi hoi hi e he hb
        by_cases hij : i = j
        · subst hij
          rw [ho] at hoi; cases hoi
          have := hpre e he hb
          by_cases hej : e.on = i
          · rw [hej] at this; rw [hnot'] at this; cases this
          · rw [getD_set_ne _ (fun h => hej h.symm)]; exact this
        · rw [getD_set_ne _ (fun h => hij h.symm)] at hi
          exact getD_set_true (hcl i oi hoi hi e he hb)
      · have e := runL_ins (D := fun k => listed.getD k false) (D' := fun k => (listed.setIfInBounds j true).getD k false) L[j] L 0 j s (List.getElem?_eq_getElem hjL)
          (by rw [Nat.zero_add]; exact hnot')
          (by rw [Nat.zero_add, Array.getD_eq_getD_getElem?, Array.getElem?_setIfInBounds]; simp [hjs])
          (fun k hk => by rw [Nat.zero_add] at hk; exact getD_set_ne _ (fun h => hk h.symm))
          (fun k y hy hjk hD t => by
            rw [Nat.zero_add] at hD
            have hnc : conf (uses ops o) y L[j] = false := by
              cases hc : conf (uses ops o) y L[j] with
              | false => rfl
              | true =>
                have := hsame k y hy (by omega) hc
                rw [hD, eq_comm, Nat.blt_eq] at this; omega
            unfold conf at hnc
            rw [Bool.or_eq_false_iff] at hnc
            refine doit_comm y L[j] t ?_ ?_
            · intro d hd hd'
              rw [hd] at hnc
              have : d ∈ uses ops o := by unfold uses; rw [k1] at hd'; rw [hd']; simp
              have := hmem this
              simp only at hnc
              rw [this] at hnc; cases hnc.1
            · intro m hm hm'
              have := hnc.2
              rw [List.any_eq_false] at this
              have := this m hm
              rw [hmem hm'] at this; simp at this)
        rw [e, k1]; exact hrel
  refine key ops.size _ a w ρ (by simp) (by omega) ?_ ?_ (Ren.le_refl _)
  · intro j o _ hj
    exfalso
    rw [Array.getD_eq_getD_getElem?, Array.getElem?_replicate] at hj
    split at hj <;> simp at hj
  · have : ∀ (l : List Item) (i : Nat), runL (fun k => (Array.replicate ops.size false).getD k false) l i s = s := by
      intro l
      induction l with
      | nil => intro i; rfl
      | cons x l ih =>
        intro i
        have : (Array.replicate ops.size false).getD i false = false := by
          rw [Array.getD_eq_getD_getElem?, Array.getElem?_replicate]; split <;> simp
        simp only [runL, this, Bool.false_eq_true, if_false]
        exact ih _
    rw [this]; exact h
end
end Go.Eng
end

section
namespace Go.Eng
open Go.RowKit (Below)
/-- A tree of the ways: a test on a bool, a condition that is owed, an end. -/
inductive T (α : Type) where
  | ret (x : α)
  | br (b : Bool) (t e : T α)
  | need (p : Prop) (t : T α)
  | fail
def T.wp {α : Type} (Q : α → Prop) : T α → Prop
  | .ret x => Q x
  | .br b t e => (b = true → t.wp Q) ∧ (b = false → e.wp Q)
  | .need p t => p ∧ t.wp Q
  | .fail => False
def T.bind {α β : Type} (f : α → T β) : T α → T β
  | .ret x => f x
  | .br b t e => .br b (t.bind f) (e.bind f)
  | .need p t => .need p (t.bind f)
  | .fail => .fail
def T.needs {α : Type} : List Prop → T α → T α
  | [], t => t
  | p :: l, t => .need p (T.needs l t)
theorem T.wp_needs {α : Type} {Q : α → Prop} {t : T α} : ∀ {l : List Prop}, (T.needs l t).wp Q → All l ∧ t.wp Q
  | [], h => ⟨trivial, h⟩
  | _ :: _, h => ⟨⟨h.1, (T.wp_needs h.2).1⟩, (T.wp_needs h.2).2⟩
theorem T.wp_bind {α β : Type} {f : α → T β} {Q : β → Prop} : ∀ {t : T α}, (t.bind f).wp Q → t.wp (fun x => (f x).wp Q) := by
  intro t
  induction t with
  | ret x => exact id
  | br b t e iht ihe => exact fun h => ⟨fun hb => iht (h.1 hb), fun hb => ihe (h.2 hb)⟩
  | need p t ih => exact fun h => ⟨h.1, ih h.2⟩
  | fail => exact id
inductive Ex where
  | normal
  | exit (id : Nat)
  | ret
abbrev St3 := Ex × Nat × S
def setO (orc : Nat → Option Bool) (k : Nat) (b : Bool) : Nat → Option Bool := upd orc k (some b)
section
variable (P : Program) (G n0 N : Nat) (sg : FuncId → Option Sm)
def rtree (ops : Array Oper) (draw : Bool) (c : Nat) (s : S) : Nat → (Nat → Option Bool) → T St3
  | 0, _ => .fail
  | fuel + 1, orc =>
    match rrun P G n0 N sg ops orc ops.toList 0 c s with
    | .done L s' c' p => (match !draw || anyOk ops L with | true => T.needs p (.ret (.normal, c', s')) | false => .fail)
    | .ask k b => .br b (rtree ops draw c s fuel (setO orc k true)) (rtree ops draw c s fuel (setO orc k false))
    | .fail => .fail
def loopN (f : Nat → S → T St3) : Nat → Nat → S → T St3
  | 0, _, _ => .fail
  | n + 1, c, s => (f c s).bind fun r => match r with
    | (.normal, c', s') => loopN f n c' s'
    | r => .ret r
def exec (fuel : Nat) : Code → Nat → S → T St3
  | .skip, c, s => .ret (.normal, c, s)
  | .region _ ops draw, c, s => rtree P G n0 N sg ops draw c s fuel (fun _ => none)
  | .seq x y, c, s => (exec fuel x c s).bind fun r => match r with
    | (.normal, c', s') => exec fuel y c' s'
    | r => .ret r
  | .cond x y z, c, s => (match look G s x with
    | some (.a (.c (.lit true))) => exec fuel y c s
    | some (.a (.c (.lit false))) => exec fuel z c s
    | some (.a (.c (.bool b))) => .br b (exec fuel y c s) (exec fuel z c s)
    | _ => .fail)
  | .block id x, c, s => (exec fuel x c s).bind fun r => match r with
    | (.exit i, c', s') => (match Nat.beq i id with | true => .ret (.normal, c', s') | false => .ret (.exit i, c', s'))
    | r => .ret r
  | .loop x, c, s => loopN (exec fuel x) fuel c s
  | .exit id, c, s => .ret (.exit id, c, s)
  | .ret, c, s => .ret (.ret, c, s)
  | _, _, _ => .fail
end
section
variable {P : Program} {G n0 N : Nat} {sg : FuncId → Option Sm} {gw : World → Prop} {w0 : World}
/-- What the ways' ends say of frame and world. -/
def CP (w0 : World) (n0 N : Nat) (ρ : Ren) (R : St3 → Prop) : Exit → Act → World → Prop
  | .normal, a, w => ∃ c s ρ', R (.normal, c, s) ∧ Rel w0 n0 N ρ' s a w ∧ ρ.le ρ'
  | .exit id, a, w => ∃ c s ρ', R (.exit id, c, s) ∧ Rel w0 n0 N ρ' s a w ∧ ρ.le ρ'
  | .ret, a, w => ∃ c s ρ', R (.ret, c, s) ∧ Rel w0 n0 N ρ' s a w ∧ ρ.le ρ'
  | _, _, _ => False
theorem CP.mono {ρ ρ1 : Ren} {R R' : St3 → Prop} (hle : ρ.le ρ1) (h : ∀ r, R r → R' r) : ∀ e a w, CP w0 n0 N ρ1 R e a w → CP w0 n0 N ρ R' e a w := by
  intro e a w hc
  cases e <;> simp only [CP] at hc ⊢
  all_goals (try exact hc)
  all_goals (obtain ⟨c, s, ρ', h1, h2, h3⟩ := hc; exact ⟨c, s, ρ', h _ h1, h2, Ren.le_trans hle h3⟩)
structure Env (P : Program) (G : Nat) (sg : FuncId → Option Sm) (gw : World → Prop) : Prop where
  mixed : P.follows .mixedOrders = true
  sums : ∀ f σ, sg f = some σ → SumOK P gw f σ
  stable : ∀ w w', gw w → Below w.heap.size w w' → gw w'
theorem Rel.drew {ρ : Ren} {s : S} {a : Act} {w : World} (h : Rel w0 n0 N ρ s a w) : Rel w0 n0 N ρ s a { w with drawn := w.drawn + 1 } where
  sz := h.sz
  df := h.df
  bel := h.bel.trans ⟨rfl, rfl, rfl, Nat.le_refl _, fun _ _ => rfl⟩
  tm := h.tm
  dom := h.dom
  hp := by
    intro m k hk
    obtain ⟨b, h1, h2, h3, h4⟩ := h.hp m k hk
    exact ⟨b, h1, h2, Blk.rel_mono (w := w) (Ren.le_refl _) rfl h3, h4⟩
  inj := h.inj
theorem rtree_sound (E : Env P G sg gw) (hgw0 : gw w0) {id : Nat} {ops : Array Oper} {draw : Bool} {c : Nat} {s : S} {R : St3 → Prop} {ρ : Ren} {a : Act} {w : World} (hrel : Rel w0 n0 N ρ s a w) (hgl : ∀ g, g < G → ρ g = some (g, 0)) :
    ∀ {fuel : Nat} {orc : Nat → Option Bool}, (rtree P G n0 N sg ops draw c s fuel orc).wp R → (Code.region id ops draw).wp P (CP w0 n0 N ρ R) a w := by
  intro fuel
  induction fuel with
  | zero => intro orc h; exact h.elim
  | succ fuel ih =>
    intro orc h
    simp only [rtree] at h
    split at h
    · rename_i L s' c' p hr
      split at h
      · rename_i hok
        obtain ⟨hp, hR⟩ := T.wp_needs h
        have hQ : ∀ a' w' ρ', Rel w0 n0 N ρ' s' a' w' → ρ.le ρ' → CP w0 n0 N ρ R .normal a' w' := fun a' w' ρ' h1 h2 => ⟨c', s', ρ', hR, h1, h2⟩
        cases draw with
        | false => exact wp_region (region_seq E.sums E.stable hgw0 hr hp hrel hgl hQ)
        | true => exact wp_region_any E.mixed (region_any E.sums E.stable hgw0 hr hp (by simpa using hok) hrel.drew hgl hQ)
      · exact h.elim
    · rename_i k b _
      cases b with
      | true => exact ih (h.1 rfl)
      | false => exact ih (h.2 rfl)
    · exact h.elim
theorem exec_sound (E : Env P G sg gw) (hgw0 : gw w0) (fuel : Nat) : ∀ (code : Code) {c : Nat} {s : S} {R : St3 → Prop} {ρ : Ren} {a : Act} {w : World}, Rel w0 n0 N ρ s a w → (∀ g, g < G → ρ g = some (g, 0)) →
    (exec P G n0 N sg fuel code c s).wp R → code.wp P (CP w0 n0 N ρ R) a w := by
  intro code
  induction code with
  | skip => intro c s R ρ a w hrel hgl h; exact wp_skip ⟨c, s, ρ, h, hrel, Ren.le_refl _⟩
  | region id ops draw => intro c s R ρ a w hrel hgl h; exact rtree_sound E hgw0 hrel hgl h
  | seq x y ihx ihy =>
    intro c s R ρ a w hrel hgl h
    simp only [exec] at h
    have h1 := T.wp_bind h
    refine wp_seq (wp_mono (ihx hrel hgl h1) ?_)
    intro e a' w' hc
    cases e <;> simp only [CP, Exit.then] at hc ⊢
    case normal =>
      obtain ⟨c', s', ρ', hr, hrel', hle⟩ := hc
      exact wp_mono (ihy hrel' (fun g hg => hle _ _ (hgl g hg)) hr) (CP.mono hle (fun _ h => h))
    case exit id => exact hc
    case ret => exact hc
  | cond x y z ihy ihz =>
    intro c s R ρ a w hrel hgl h
    simp only [exec] at h
    have hview : View G ρ s a w := ⟨fun t v ht => (hrel.tm t v ht).2, fun m k hk => by obtain ⟨b, h1, h2, h3, _⟩ := hrel.hp m k hk; exact ⟨b, h1, h2, h3⟩, hgl⟩
    split at h
    · rename_i hl; exact wp_cond_true (look_rel hview hl) (ihy hrel hgl h)
    · rename_i hl; exact wp_cond_false (look_rel hview hl) (ihz hrel hgl h)
    · rename_i b hl
      exact wp_cond_split (look_rel hview hl) (fun hb => ihy hrel hgl (h.1 hb)) (fun hb => ihz hrel hgl (h.2 hb))
    · exact h.elim
  | block id x ih =>
    intro c s R ρ a w hrel hgl h
    simp only [exec] at h
    have h1 := T.wp_bind h
    refine wp_block (wp_mono (ih hrel hgl h1) ?_)
    intro e a' w' hc
    cases e <;> simp only [CP, Exit.inBlock] at hc ⊢
    case normal => exact hc
    case ret => exact hc
    case exit i =>
      obtain ⟨c', s', ρ', hr, hrel', hle⟩ := hc
      split at hr
      · rename_i hb
        have := Nat.eq_of_beq_eq_true hb
        rw [if_pos this]
        exact ⟨c', s', ρ', hr, hrel', hle⟩
      · rename_i hb
        rw [if_neg (by intro e; subst e; simp at hb)]
        exact ⟨c', s', ρ', hr, hrel', hle⟩
  | loop x ih =>
    intro c s R ρ a w hrel hgl h
    simp only [exec] at h
    have key : ∀ n c s, (loopN (exec P G n0 N sg fuel x) n c s).wp R → ∀ ρ1 a w, Rel w0 n0 N ρ1 s a w → ρ.le ρ1 → Code.rounds P x (CP w0 n0 N ρ R) n a w := by
      intro n
      induction n with
      | zero => intro c s h; exact h.elim
      | succ n ihn =>
        intro c s h ρ1 a w hrel1 hle1
        simp only [loopN] at h
        have h1 := T.wp_bind h
        rw [rounds_succ]
        refine wp_mono (ih hrel1 (fun g hg => hle1 _ _ (hgl g hg)) h1) ?_
        intro e a' w' hc
        cases e <;> simp only [CP, Exit.then] at hc ⊢
        case normal =>
          obtain ⟨c', s', ρ', hr, hrel', hle⟩ := hc
          exact ihn c' s' hr ρ' a' w' hrel' (Ren.le_trans hle1 hle)
        case exit id => obtain ⟨c', s', ρ', hr, hrel', hle⟩ := hc; exact ⟨c', s', ρ', hr, hrel', Ren.le_trans hle1 hle⟩
        case ret => obtain ⟨c', s', ρ', hr, hrel', hle⟩ := hc; exact ⟨c', s', ρ', hr, hrel', Ren.le_trans hle1 hle⟩
    exact wp_loop_rounds fuel (key fuel c s h ρ a w hrel (Ren.le_refl _))
  | exit id => intro c s R ρ a w hrel hgl h; exact wp_exit ⟨c, s, ρ, h, hrel, Ren.le_refl _⟩
  | ret => intro c s R ρ a w hrel hgl h; exact wp_ret ⟨c, s, ρ, h, hrel, Ren.le_refl _⟩
  | _ => intro c s R ρ a w hrel hgl h; exact h.elim
end
section
variable (P : Program)
/-- A result. -/
def resA (s : S) : ResultVar → Option A
  | .tmp t => (match s.tm t with | some (.a y) => some y | _ => none)
  | .cell t ty => (match s.tm t, P.underlying ty, P.info? ty with
    | some (.a (.c (.ptr m off))), some d, some i => (match s.hp m with
      | some k => (match isAggD d with
        | true => (match readN k off i.size with | some cs => some (.agg cs) | none => none)
        | false => (match k.cell off with | some c => some (.c c) | none => none))
      | none => none)
    | _, _, _ => none)
def resL (s : S) : List ResultVar → Option (List A)
  | [] => some []
  | r :: l => match resA P s r, resL s l with | some a, some k => some (a :: k) | _, _ => none
def resV : List A → V
  | [x] => .a x
  | xs => .tup xs
/-- What 'results' reads of one result. -/
def resOne (a : Act) (r : ResultVar) : Sem Value :=
  match r with
  | .tmp t => pure (a.tmps.getD t undef)
  | .cell c t => do loadVar t (← asAddr (a.tmps.getD c undef))
theorem results_eq (fn : Func) (a : Act) : results fn a.tmps = (do let vs ← fn.results.mapM (resOne a); pure (if h : vs.size = 1 then vs[0] else .tuple vs)) := by
  unfold results resOne
  rfl
theorem resA_sound {G : Nat} {ρ : Ren} {s : S} {a : Act} {w : World} (h : View G ρ s a w) {r : ResultVar} {p : A} (e : resA P s r = some p) :
    ∃ x, (resOne a r).run P w = .ok x w ∧ p.rel ρ x := by
  unfold resOne
  cases r with
  | tmp t =>
    simp only [resA] at e
    split at e
    · rename_i y hy
      simp only [Option.some.injEq] at e; subst e
      exact ⟨_, rfl, h.tm t _ hy⟩
    · cases e
  | cell t ty =>
    simp only [resA] at e
    split at e
    · rename_i m off d i hx hd hi
      obtain ⟨b, hb, hv⟩ := h.tm t _ hx
      split at e
      · rename_i k hk
        obtain ⟨b', hb', hlt, hrel⟩ := h.hp m k hk
        simp only at hb
        rw [hb] at hb'; cases hb'
        split at e
        · rename_i hg
          split at e
          · rename_i cs hcs
            simp only [Option.some.injEq] at e; subst e
            obtain ⟨xs, hf, hl, hc⟩ := readN_sound hrel hcs
            refine ⟨.agg xs.toArray, ?_, xs, hf, rfl⟩
            simp only [hv, asAddr, Sem.run_bind, Sem.run_pure, Result.andThen_ok, run_loadVar_agg hd hi hg hl hc]
          · cases e
        · rename_i hg
          split at e
          · rename_i c hc
            simp only [Option.some.injEq] at e; subst e
            obtain ⟨z, hz, hcell⟩ := Blk.rel_cell hrel hc
            refine ⟨z, ?_, hz⟩
            simp only [hv, asAddr, Sem.run_bind, Sem.run_pure, Result.andThen_ok, run_loadVar_one hd hg hcell]
          · cases e
      · cases e
    · cases e
theorem resL_sound {G : Nat} {ρ : Ren} {s : S} {a : Act} {w : World} (h : View G ρ s a w) : ∀ {l : List ResultVar} {ps : List A}, resL P s l = some ps →
    ∃ xs : List Value, (l.mapM (resOne a)).run P w = .ok xs w ∧ F2 (A.rel ρ) ps xs := by
  intro l
  induction l with
  | nil => intro ps e; simp [resL] at e; subst e; exact ⟨[], rfl, .nil⟩
  | cons r l ih =>
    intro ps e
    simp only [resL] at e
    split at e
    · rename_i p k hp hk
      simp only [Option.some.injEq] at e; subst e
      obtain ⟨x, hx, hr⟩ := resA_sound P h hp
      obtain ⟨xs, hxs, hrs⟩ := ih hk
      refine ⟨x :: xs, ?_, .cons hr hrs⟩
      rw [List.mapM_cons, Sem.run_bind, hx, Result.andThen_ok, Sem.run_bind, hxs]
      rfl
    · cases e
theorem results_sound {G : Nat} {ρ : Ren} {s : S} {a : Act} {w : World} (h : View G ρ s a w) {fn : Func} {ps : List A} (e : resL P s fn.results.toList = some ps) :
    ∃ x, (results fn a.tmps).run P w = .ok x w ∧ (resV ps).rel ρ x := by
  obtain ⟨xs, hx, hr⟩ := resL_sound P h e
  rw [results_eq, Array.mapM_eq_mapM_toList]
  simp only [Sem.run_bind, Sem.run_map, hx, Result.andThen_ok, Sem.run_pure]
  cases hr with
  | nil => exact ⟨_, rfl, [], .nil, by simp⟩
  | cons r0 rs =>
    cases rs with
    | nil => exact ⟨_, rfl, r0⟩
    | cons r1 rs => exact ⟨_, rfl, _, .cons r0 (.cons r1 rs), by simp⟩
/-- Values of results without addresses. -/
def valA : List A → Option (List Value)
  | [] => some []
  | a :: l => match a.val, valA l with | some v, some r => some (v :: r) | _, _ => none
def valR : List A → Option Value
  | [x] => x.val
  | xs => match valA xs with | some l => some (.tuple l.toArray) | none => none
theorem valA_rel {ρ : Ren} : ∀ {ps : List A} {l xs : List Value}, valA ps = some l → F2 (A.rel ρ) ps xs → xs = l := by
  intro ps
  induction ps with
  | nil => intro l xs h r; cases r; simp [valA] at h; exact h.symm
  | cons c ps ih =>
    intro l xs h r
    cases r with
    | cons r0 rs =>
      simp only [valA] at h
      split at h
      · rename_i v r' hv hr
        simp only [Option.some.injEq] at h; subst h
        rw [A.val_rel hv r0, ih hr rs]
      · cases h
theorem valR_rel {ρ : Ren} {ps : List A} {v x : Value} (h : valR ps = some v) (r : (resV ps).rel ρ x) : x = v := by
  match ps, h, r with
  | [p], h, r => exact A.val_rel h r
  | [], h, r =>
    obtain ⟨ys, hf, rfl⟩ := r
    cases hf
    simp [valR, valA] at h; exact h
  | p :: q :: l, h, r =>
    obtain ⟨ys, hf, rfl⟩ := r
    simp only [valR] at h
    split at h
    · rename_i l' hl
      simp only [Option.some.injEq] at h; subst h
      rw [valA_rel hl hf]
    · cases h
variable (G n0 : Nat) (sg : FuncId → Option Sm)
def args0 (args : List A) (bs : List Blk) : S := ⟨fun t => match args[t]? with | some a => some (.a a) | none => none, fun m => bs[m]?⟩
/-- A function's ways to results without addresses. -/
def runFn (fuel : Nat) (fn : Func) (args : List A) (bs : List Blk) : T Value :=
  match fn.body with
  | some code => (exec P G n0 fn.ntmps sg fuel code n0 (args0 args bs)).bind fun r => match r with
    | (.exit _, _, _) => .fail
    | (_, _, s) => (match resL P s fn.results.toList with
      | some ps => (match valR ps with | some v => .ret v | none => .fail)
      | none => .fail)
  | none => .fail
end
/-- A FUNCTION WHOSE RESULT HOLDS NO ADDRESS. bs: the blocks that were there (names 0, 1, ..), at_: where they lie. -/
theorem fn_sound {P : Program} {G : Nat} {sg : FuncId → Option Sm} {gw : World → Prop} (E : Env P G sg gw) {f : FuncId} {fn : Func} (hf : P.funcs[f]? = some fn) {fuel : Nat} {args : List A} {bs : List Blk} {at_ : List Nat} {xs : List Value} {w : World} {Q : Value → Prop}
    (hgw : gw w) (hx : F2 (A.rel fun m => (at_[m]?).map fun b => (b, 0)) args xs) (hlen : xs.length ≤ fn.ntmps) (hbl : at_.length = bs.length)
    (hbs : ∀ (m : Nat) (k : Blk), bs[m]? = some k → ∃ b, at_[m]? = some b ∧ b < w.heap.size ∧ k.rel (fun m => (at_[m]?).map fun b => (b, 0)) b w) (hG : ∀ g : Nat, g < G → at_[g]? = some g)
    (h : (runFn P G bs.length sg fuel fn args bs).wp Q) : Calls P f xs.toArray w (fun e w' => ∃ x, e = .returned x ∧ Q x ∧ Below w.heap.size w w') := by
  unfold runFn at h
  split at h
  · rename_i code hb
    refine calls_of_wp hf hb ?_
    have hrel : Rel w bs.length fn.ntmps (fun m => (at_[m]?).map fun b => (b, 0)) (args0 args bs) { tmps := xs.toArray ++ Array.replicate (fn.ntmps - xs.toArray.size) undef, defers := [] } w := by
      refine ⟨by simp; omega, rfl, Below.refl _ _, ?_, ?_, ?_, ?_⟩
      · intro t v ht
        simp only [args0] at ht
        split at ht
        · rename_i a ha
          simp only [Option.some.injEq] at ht; subst ht
          obtain ⟨x, hxt, hr⟩ := f2_get hx ha
          have hlt : t < xs.length := by
            rcases Nat.lt_or_ge t xs.length with h | h
            · exact h
            · rw [List.getElem?_eq_none h] at hxt; cases hxt
          refine ⟨by omega, ?_⟩
          rw [Array.getD_eq_getD_getElem?, Array.getElem?_append, if_pos (by simpa using hlt)]
          simp only [List.getElem?_toArray, hxt, Option.getD_some]
          exact hr
        · cases ht
      · intro m hm
        simp only [args0] at hm
        have : at_[m]? = none := by
          rw [List.getElem?_eq_none_iff] at hm ⊢; omega
        simp [this]
      · intro m k hm
        simp only [args0] at hm
        obtain ⟨b, h1, h2, h3⟩ := hbs m k hm
        have hlt : m < bs.length := by
          rcases Nat.lt_or_ge m bs.length with h | h
          · exact h
          · rw [List.getElem?_eq_none h] at hm; cases hm
        exact ⟨(b, 0), by simp [h1], h2, h3, fun hge => by omega, fun _ => h2⟩
      · intro m m' b b' hm hm' hn
        exfalso
        have : at_[m]? = none := by rw [List.getElem?_eq_none_iff]; omega
        simp [this] at hm
    have hgl : ∀ g, g < G → (at_[g]?).map (fun b => (b, 0)) = some (g, 0) := fun g hg => by rw [hG g hg]; rfl
    refine wp_mono (exec_sound E hgw fuel code hrel hgl (T.wp_bind h)) ?_
    have fin : ∀ (s : S) (ρ' : Ren) (a' : Act) (w' : World), Rel w bs.length fn.ntmps ρ' s a' w' → Ren.le (fun m => (at_[m]?).map fun b => (b, 0)) ρ' →
        T.wp Q (match resL P s fn.results.toList with | some ps => (match valR ps with | some v => T.ret v | none => T.fail) | none => T.fail) →
        a'.defers = [] ∧ ∃ v, (results fn a'.tmps).run P w' = .ok v w' ∧ ∃ x, Ending.returned v = .returned x ∧ Q x ∧ Below w.heap.size w w' := by
      intro s ρ' a' w' hrel' hle hr
      split at hr
      · rename_i ps hps
        split at hr
        · rename_i v hv
          have hview : View G ρ' s a' w' := ⟨fun t v ht => (hrel'.tm t v ht).2, fun m k hk => by obtain ⟨b, h1, h2, h3, _⟩ := hrel'.hp m k hk; exact ⟨b, h1, h2, h3⟩, fun g hg => hle _ _ (hgl g hg)⟩
          obtain ⟨x, hx1, hx2⟩ := results_sound P hview hps
          have := valR_rel hv hx2
          subst this
          exact ⟨hrel'.df, x, hx1, x, rfl, hr, hrel'.bel⟩
        · exact hr.elim
      · exact hr.elim
    intro e a' w' hc
    cases e <;> simp only [CP, bodyPost] at hc ⊢
    case normal => obtain ⟨c', s', ρ', hr, hrel', hle⟩ := hc; exact fin s' ρ' a' w' hrel' hle hr
    case ret => obtain ⟨c', s', ρ', hr, hrel', hle⟩ := hc; exact fin s' ρ' a' w' hrel' hle hr
    case exit id => obtain ⟨c', s', ρ', hr, hrel', hle⟩ := hc; exact hr.elim
  · exact h.elim
end Go.Eng
end

section
namespace Go.Eng
open Go.RowKit (Below)
/-- A table of summaries. -/
def lookS : List (Nat × Sm) → FuncId → Option Sm
  | [], _ => none
  | (g, σ) :: l, f => match Nat.beq g f with | true => some σ | false => lookS l f
def AllS (P : Program) (gw : World → Prop) : List (Nat × Sm) → Prop
  | [] => True
  | (f, σ) :: l => SumOK P gw f σ ∧ AllS P gw l
theorem lookS_ok {P : Program} {gw : World → Prop} : ∀ {l : List (Nat × Sm)}, AllS P gw l → ∀ f σ, lookS l f = some σ → SumOK P gw f σ := by
  intro l
  induction l with
  | nil => intro _ f σ h; simp [lookS] at h
  | cons x l ih =>
    intro hl f σ h
    obtain ⟨g, τ⟩ := x
    simp only [lookS] at h
    split at h
    · rename_i hb
      have := Nat.eq_of_beq_eq_true hb
      subst this
      simp only [Option.some.injEq] at h; subst h
      exact hl.1
    · exact ih hl.2 f σ h
def isGo (fn : Func) : Bool := !(fn.name == "runtime.NumGoroutine") && !fn.body.isNone
theorem enter_of {P : Program} {f : FuncId} {fn : Func} (h : P.funcs[f]? = some fn) (hg : isGo fn = true) (args : Array Value) (w : World) : (callFunc f args).run P w = .ok (.enter f args) w := by
  unfold isGo at hg
  simp only [Bool.and_eq_true, Bool.not_eq_true'] at hg
  exact run_callFunc h hg.1 hg.2 args w
theorem ends_flat {ρ : Ren} {c : Nat} {v : V} {w : World} {e : Ending} {w' : World} (h : ∃ x, e = .returned x ∧ (∀ ρ, v.rel ρ x) ∧ Below w.heap.size w w') : Ends ρ c v [] w e w' := by
  obtain ⟨x, rfl, hv, hb⟩ := h
  exact ⟨ρ, x, rfl, Ren.le_refl _, fun m hm _ => hm, hv ρ, hb, fun i k hi => by simp at hi, fun i j b b' hi => by simp at hi⟩
/-- Arguments that are plain. -/
def C.pv : C → Option Value
  | .op _ => none
  | c => c.val
def pvL : List C → Option (List Value)
  | [] => some []
  | c :: l => match c.pv, pvL l with | some v, some r => some (v :: r) | _, _ => none
def A.pv : A → Option Value
  | .c x => x.pv
  | .agg cs => match pvL cs with | some l => some (.agg l.toArray) | none => none
def pvA : List A → Option (List Value)
  | [] => some []
  | c :: l => match c.pv, pvA l with | some v, some r => some (v :: r) | _, _ => none
theorem C.pv_rel {ρ : Ren} {c : C} {v : Value} (h : c.pv = some v) : c.rel ρ v := by
  cases c <;> simp only [C.pv, C.val, Option.some.injEq, reduceCtorEq] at h <;> subst h <;> rfl
theorem pvL_rel {ρ : Ren} : ∀ {cs : List C} {l : List Value}, pvL cs = some l → F2 (C.rel ρ) cs l := by
  intro cs
  induction cs with
  | nil => intro l h; simp [pvL] at h; subst h; exact .nil
  | cons c cs ih =>
    intro l h
    simp only [pvL] at h
    split at h
    · rename_i v r hv hr
      simp only [Option.some.injEq] at h; subst h
      exact .cons (C.pv_rel hv) (ih hr)
    · cases h
theorem A.pv_rel {ρ : Ren} {c : A} {v : Value} (h : c.pv = some v) : c.rel ρ v := by
  cases c with
  | c x => exact C.pv_rel h
  | agg cs =>
    simp only [A.pv] at h
    split at h
    · rename_i l hl
      simp only [Option.some.injEq] at h; subst h
      exact ⟨l, pvL_rel hl, rfl⟩
    · cases h
theorem pvA_rel {ρ : Ren} : ∀ {cs : List A} {l : List Value}, pvA cs = some l → F2 (A.rel ρ) cs l := by
  intro cs
  induction cs with
  | nil => intro l h; simp [pvA] at h; subst h; exact .nil
  | cons c cs ih =>
    intro l h
    simp only [pvA] at h
    split at h
    · rename_i v r hv hr
      simp only [Option.some.injEq] at h; subst h
      exact .cons (A.pv_rel hv) (ih hr)
    · cases h
theorem T.wp_mono {α : Type} {Q R : α → Prop} (h : ∀ x, Q x → R x) : ∀ {t : T α}, t.wp Q → t.wp R := by
  intro t
  induction t with
  | ret x => exact h x
  | br b t e iht ihe => exact fun k => ⟨fun hb => iht (k.1 hb), fun hb => ihe (k.2 hb)⟩
  | need p t ih => exact fun k => ⟨k.1, ih k.2⟩
  | fail => exact id
end Go.Eng
end

section
namespace Go.Eng
open Go.RowKit (Below)
/-- The shape of an argument. -/
inductive Shp where
  | c
  | agg
  | ptr
  | sl
abbrev DomG := List (List Value) → Option (List Prop × V)
def blkCells : Blk → Option (List C)
  | .known _ cs => some cs
  | .part base cs => match Nat.beq base 0 with | true => some cs | false => none
  | .dead => none
/-- Arguments as groups of plain cells. -/
def groups (hp : Nat → Option Blk) : List Shp → List A → Option (List (List Value))
  | [], [] => some []
  | .c :: sh, .c x :: l => (match x.val, groups hp sh l with | some v, some r => some ([v] :: r) | _, _ => none)
  | .agg :: sh, .agg cs :: l => (match valL cs, groups hp sh l with | some vs, some r => some (vs :: r) | _, _ => none)
  | .ptr :: sh, .c (.ptr m 0) :: l => (match hp m with
    | some k => (match blkCells k with
      | some cs => (match valL cs, groups hp sh l with | some vs, some r => some (vs :: r) | _, _ => none)
      | none => none)
    | none => none)
  | .sl :: sh, .c (.sl m 0 n n') :: l => (match hp m with
    | some k => (match blkCells k with
      | some cs => (match valL cs, groups hp sh l with
        | some vs, some r => (match Nat.beq vs.length n && Nat.beq n n' with | true => some (vs :: r) | false => none)
        | _, _ => none)
      | none => none)
    | none => none)
  | _, _ => none
/-- How arguments stand to their groups. -/
inductive GRel (w : World) : List Shp → List (List Value) → List Value → Prop where
  | nil : GRel w [] [] []
  | c {v : Value} {sh : List Shp} {gs : List (List Value)} {xs : List Value} : GRel w sh gs xs → GRel w (.c :: sh) ([v] :: gs) (v :: xs)
  | agg {g : List Value} {sh : List Shp} {gs : List (List Value)} {xs : List Value} : GRel w sh gs xs → GRel w (.agg :: sh) (g :: gs) (.agg g.toArray :: xs)
  | ptr {g : List Value} {sh : List Shp} {gs : List (List Value)} {xs : List Value} (b : Nat) : b < w.heap.size → (∀ j v, g[j]? = some v → w.cell? ⟨b, j, none⟩ = some v) → GRel w sh gs xs →
      GRel w (.ptr :: sh) (g :: gs) (.pointer (some ⟨b, 0, none⟩) :: xs)
  | sl {g : List Value} {sh : List Shp} {gs : List (List Value)} {xs : List Value} (b : Nat) : b < w.heap.size → (∀ j v, g[j]? = some v → w.cell? ⟨b, j, none⟩ = some v) → GRel w sh gs xs →
      GRel w (.sl :: sh) (g :: gs) (.slice (some ⟨b, 0, none⟩) g.length g.length :: xs)
theorem blkCells_at {ρ : Ren} {b : Nat} {w : World} {k : Blk} {cs : List C} {vs : List Value} (h : k.rel ρ b w) (hc : blkCells k = some cs) (hv : valL cs = some vs) : ∀ j v, vs[j]? = some v → w.cell? ⟨b, j, none⟩ = some v := by
  have hval : ∀ {cs : List C} {vs : List Value}, valL cs = some vs → ∀ (j : Nat) (v : Value), vs[j]? = some v → ∃ c, cs[j]? = some c ∧ c.val = some v := by
    intro cs
    induction cs with
    | nil => intro vs h j v hj; simp [valL] at h; subst h; simp at hj
    | cons c cs ih =>
      intro vs h j v hj
      simp only [valL] at h
      split at h
      · rename_i u r hu hr
        simp only [Option.some.injEq] at h; subst h
        cases j with
        | zero => simp at hj; subst hj; exact ⟨c, rfl, hu⟩
        | succ j => simpa using ih hr j v (by simpa using hj)
      · cases h
  intro j v hj
  obtain ⟨c, hcj, hcv⟩ := hval hv j v hj
  have hcell : k.cell j = some c := by
    cases k with
    | known e cs' => simp only [blkCells, Option.some.injEq] at hc; subst hc; exact hcj
    | part base cs' =>
      simp only [blkCells] at hc
      split at hc
      · rename_i hb
        have := Nat.eq_of_beq_eq_true hb
        subst this
        simp only [Option.some.injEq] at hc; subst hc
        have hz : Nat.ble 0 j = true := by cases j <;> rfl
        simp only [Blk.cell, hz, Nat.sub_zero]; exact hcj
      · cases hc
    | dead => cases hc
  obtain ⟨x, hx, hxc⟩ := Blk.rel_cell h hcell
  rw [hxc, C.val_rel hcv hx]
theorem groups_rel {ρ : Ren} {hp : Nat → Option Blk} {w : World} (hhp : ∀ m k, hp m = some k → ∃ b, ρ m = some b ∧ b.1 < w.heap.size ∧ k.rel ρ b.1 w) :
    ∀ {sh : List Shp} {args : List A} {gs : List (List Value)} {xs : List Value}, groups hp sh args = some gs → F2 (A.rel ρ) args xs → GRel w sh gs xs := by
  intro sh
  induction sh with
  | nil =>
    intro args gs xs h r
    cases args with
    | nil => simp [groups] at h; subst h; cases r; exact .nil
    | cons a l => simp [groups] at h
  | cons s sh ih =>
    intro args gs xs h r
    unfold groups at h
    split at h
    · rename_i e; cases e
    · rename_i sh' x l e1
      cases e1
      cases r with
      | cons r0 rs =>
        split at h
        · rename_i v r' hv hr
          simp only [Option.some.injEq] at h; subst h
          rw [C.val_rel hv r0]
          exact .c (ih hr rs)
        · cases h
    · rename_i sh' cs l e1
      cases e1
      cases r with
      | cons r0 rs =>
        split at h
        · rename_i vs r' hv hr
          simp only [Option.some.injEq] at h; subst h
          obtain ⟨ys, hf, rfl⟩ := r0
          rw [valL_rel hv hf]
          exact .agg (ih hr rs)
        · cases h
    · rename_i sh' m l e1
      cases e1
      cases r with
      | cons r0 rs =>
        split at h
        · rename_i k hk
          split at h
          · rename_i cs hcs
            split at h
            · rename_i vs r' hv hr
              simp only [Option.some.injEq] at h; subst h
              obtain ⟨b, hb, rfl⟩ := r0
              obtain ⟨b', hb', hlt, hrel⟩ := hhp m k hk
              simp only at hb
              rw [hb] at hb'; cases hb'
              exact .ptr b.1 hlt (blkCells_at hrel hcs hv) (ih hr rs)
            · cases h
          · cases h
        · cases h
    · rename_i sh' m n n' l e1
      cases e1
      cases r with
      | cons r0 rs =>
        split at h
        · rename_i k hk
          split at h
          · rename_i cs hcs
            split at h
            · rename_i vs r' hv hr
              split at h
              · rename_i hn
                simp only [Bool.and_eq_true] at hn
                have h1 := Nat.eq_of_beq_eq_true hn.1
                have h2 := Nat.eq_of_beq_eq_true hn.2
                subst h2
                simp only [Option.some.injEq] at h; subst h
                obtain ⟨b, hb, rfl⟩ := r0
                obtain ⟨b', hb', hlt, hrel⟩ := hhp m k hk
                rw [hb] at hb'; cases hb'
                rw [← h1]
                exact .sl b.1 hlt (blkCells_at hrel hcs hv) (ih hr rs)
              · cases h
            · cases h
          · cases h
        · cases h
    · cases h
theorem groups_loc {hp hp' : Nat → Option Blk} : ∀ {sh : List Shp} {args : List A}, (∀ m, m ∈ namesL args → hp m = hp' m) → groups hp sh args = groups hp' sh args := by
  intro sh
  induction sh with
  | nil => intro args h; cases args <;> rfl
  | cons s sh ih =>
    intro args h
    cases args with
    | nil => cases s <;> rfl
    | cons a l =>
      have ihl := ih (args := l) (fun m hm => h m (by simp [namesL, hm]))
      cases s with
      | c => cases a with
        | c x => simp only [groups, ihl]
        | agg cs => rfl
      | agg => cases a with
        | c x => rfl
        | agg cs => simp only [groups, ihl]
      | ptr =>
        cases a with
        | agg cs => rfl
        | c x =>
          cases x with
          | ptr m off =>
            cases off with
            | zero => simp only [groups, ihl, h m (by simp [namesL, A.names])]
            | succ off => rfl
          | _ => rfl
      | sl =>
        cases a with
        | agg cs => rfl
        | c x =>
          cases x with
          | sl m off n n' =>
            cases off with
            | zero => simp only [groups, ihl, h m (by simp [namesL, A.names])]
            | succ off => rfl
          | _ => rfl
def grpSm (sh : List Shp) (dom : DomG) : Sm := fun args hp _ =>
  match groups hp sh args with
  | some gs => (match dom gs with | some (p, v) => some (p, v, []) | none => none)
  | none => none
/-- THE CONTRACT of a function over such arguments. -/
def GOK (P : Program) (gw : World → Prop) (f : FuncId) (sh : List Shp) (dom : DomG) : Prop :=
  ∀ gs p v, dom gs = some (p, v) → All p → ∀ w xs, gw w → GRel w sh gs xs → Calls P f xs.toArray w (fun e w' => ∃ x, e = .returned x ∧ (∀ ρ, v.rel ρ x) ∧ Below w.heap.size w w')
theorem grp_sum {P : Program} {gw : World → Prop} {f : FuncId} {fn : Func} {sh : List Shp} {dom : DomG} (hf : P.funcs[f]? = some fn) (hg : isGo fn = true) (h : GOK P gw f sh dom) : SumOK P gw f (grpSm sh dom) where
  enter := enter_of hf hg
  loc := by intro args c hp hp' hm; unfold grpSm; rw [groups_loc hm]
  ok := by
    intro args c hp p v N hs hpr ρ xs w hgw hx hhp _
    unfold grpSm at hs
    split at hs
    · rename_i gs hgs
      split at hs
      · rename_i p' v' hd
        simp only [Option.some.injEq, Prod.mk.injEq] at hs
        obtain ⟨rfl, rfl, rfl⟩ := hs
        exact (h gs _ _ hd hpr w xs hgw (groups_rel hhp hgs hx)).mono fun e w' he => ends_flat he
      · cases hs
    · cases hs
/-- The same the other way: arguments for the engine, out of groups. -/
def symC : Value → Option C
  | .int k n => some (.int k n)
  | .bool b => some (.bool b)
  | .string s => some (.str s)
  | _ => none
def symL : List Value → Option (List C)
  | [] => some []
  | v :: l => match symC v, symL l with | some c, some r => some (c :: r) | _, _ => none
theorem symC_rel {ρ : Ren} {v : Value} {c : C} (h : symC v = some c) : c.rel ρ v := by
  unfold symC at h
  split at h <;> first | (simp only [Option.some.injEq] at h; subst h; rfl) | cases h
theorem symL_rel {ρ : Ren} : ∀ {vs : List Value} {cs : List C}, symL vs = some cs → F2 (C.rel ρ) cs vs := by
  intro vs
  induction vs with
  | nil => intro cs h; simp [symL] at h; subst h; exact .nil
  | cons v vs ih =>
    intro cs h
    simp only [symL] at h
    split at h
    · rename_i c r hc hr
      simp only [Option.some.injEq] at h; subst h
      exact .cons (symC_rel hc) (ih hr)
    · cases h
def mkArgs : List Shp → List (List Value) → Nat → Option (List A × List Blk)
  | [], [], _ => some ([], [])
  | .c :: sh, [v] :: gs, k => (match symC v, mkArgs sh gs k with | some c, some r => some (.c c :: r.1, r.2) | _, _ => none)
  | .agg :: sh, g :: gs, k => (match symL g, mkArgs sh gs k with | some cs, some r => some (.agg cs :: r.1, r.2) | _, _ => none)
  | .ptr :: sh, g :: gs, k => (match symL g, mkArgs sh gs (k + 1) with | some cs, some r => some (.c (.ptr k 0) :: r.1, .part 0 cs :: r.2) | _, _ => none)
  | .sl :: sh, g :: gs, k => (match symL g, mkArgs sh gs (k + 1) with | some cs, some r => some (.c (.sl k 0 g.length g.length) :: r.1, .part 0 cs :: r.2) | _, _ => none)
  | _, _, _ => none
theorem part_rel {ρ : Ren} {b : Nat} {w : World} {cs : List C} {vs : List Value} (hs : F2 (C.rel ρ) cs vs) (hc : ∀ j v, vs[j]? = some v → w.cell? ⟨b, j, none⟩ = some v) : (Blk.part 0 cs).rel ρ b w := by
  intro j c hj
  obtain ⟨x, hx, hr⟩ := f2_get hs hj
  exact ⟨x, hr, by rw [Nat.zero_add]; exact hc j x hx⟩
/-- The blocks of the arguments, named from k on. -/
theorem mkArgs_rel {w : World} : ∀ {sh : List Shp} {gs : List (List Value)} {xs : List Value} {k : Nat} {args : List A} {bs : List Blk}, GRel w sh gs xs → mkArgs sh gs k = some (args, bs) →
    ∃ at_ : List Nat, at_.length = bs.length ∧ (∀ (i : Nat) (kb : Blk), bs[i]? = some kb → ∃ b, at_[i]? = some b ∧ b < w.heap.size ∧ ∀ ρ, kb.rel ρ b w) ∧
      (∀ ρ : Ren, (∀ (i : Nat) (b : Nat), at_[i]? = some b → ρ (k + i) = some (b, 0)) → F2 (A.rel ρ) args xs) := by
  intro sh gs xs k args bs h
  induction h generalizing k args bs with
  | nil =>
    intro e
    simp only [mkArgs, Option.some.injEq, Prod.mk.injEq] at e
    obtain ⟨rfl, rfl⟩ := e
    exact ⟨[], rfl, fun i kb h => by simp at h, fun ρ _ => .nil⟩
  | c _ ih =>
    intro e
    simp only [mkArgs] at e
    split at e
    · rename_i c r hc hr
      simp only [Option.some.injEq, Prod.mk.injEq] at e
      obtain ⟨rfl, rfl⟩ := e
      obtain ⟨at_, h1, h2, h3⟩ := ih (k := k) (args := r.1) (bs := r.2) hr
      exact ⟨at_, h1, h2, fun ρ hρ => .cons (symC_rel hc) (h3 ρ hρ)⟩
    · cases e
  | agg _ ih =>
    intro e
    simp only [mkArgs] at e
    split at e
    · rename_i c r hc hr
      simp only [Option.some.injEq, Prod.mk.injEq] at e
      obtain ⟨rfl, rfl⟩ := e
      obtain ⟨at_, h1, h2, h3⟩ := ih (k := k) (args := r.1) (bs := r.2) hr
      exact ⟨at_, h1, h2, fun ρ hρ => .cons ⟨_, symL_rel hc, rfl⟩ (h3 ρ hρ)⟩
    · cases e
  | ptr b hb hcell _ ih =>
    intro e
    simp only [mkArgs] at e
    split at e
    · rename_i c r hc hr
      simp only [Option.some.injEq, Prod.mk.injEq] at e
      obtain ⟨rfl, rfl⟩ := e
      obtain ⟨at_, h1, h2, h3⟩ := ih (k := k + 1) (args := r.1) (bs := r.2) hr
      refine ⟨b :: at_, by simp [h1], ?_, fun ρ hρ => .cons ⟨(b, 0), hρ 0 b rfl, rfl⟩ (h3 ρ (fun i b' hi => by rw [show k + 1 + i = k + (i + 1) by omega]; exact hρ (i + 1) b' (by simpa using hi)))⟩
      intro i kb hi
      cases i with
      | zero => simp at hi; subst hi; exact ⟨b, rfl, hb, fun ρ => part_rel (symL_rel hc) hcell⟩
      | succ i => simpa using h2 i kb (by simpa using hi)
    · cases e
  | sl b hb hcell _ ih =>
    intro e
    simp only [mkArgs] at e
    split at e
    · rename_i c r hc hr
      simp only [Option.some.injEq, Prod.mk.injEq] at e
      obtain ⟨rfl, rfl⟩ := e
      obtain ⟨at_, h1, h2, h3⟩ := ih (k := k + 1) (args := r.1) (bs := r.2) hr
      refine ⟨b :: at_, by simp [h1], ?_, fun ρ hρ => .cons ⟨(b, 0), hρ 0 b rfl, rfl⟩ (h3 ρ (fun i b' hi => by rw [show k + 1 + i = k + (i + 1) by omega]; exact hρ (i + 1) b' (by simpa using hi)))⟩
      intro i kb hi
      cases i with
      | zero => simp at hi; subst hi; exact ⟨b, rfl, hb, fun ρ => part_rel (symL_rel hc) hcell⟩
      | succ i => simpa using h2 i kb (by simpa using hi)
    · cases e
/-- The package-level variables that have a name, block by block: what they hold. -/
structure Glob (G : Nat) (gw : World → Prop) (bs : List Blk) : Prop where
  len : bs.length = G
  at_ : ∀ w, gw w → ∀ (i : Nat) (k : Blk), bs[i]? = some k → i < w.heap.size ∧ ∀ ρ, k.rel ρ i w
/-- THE RUN OF A FUNCTION, out of its tree. -/
theorem grp_run {P : Program} {G : Nat} {sg : FuncId → Option Sm} {gw : World → Prop} {gb : List Blk} (E : Env P G sg gw) (hgb : Glob G gw gb) {f : FuncId} {fn : Func} (hf : P.funcs[f]? = some fn) (fuel : Nat) {sh : List Shp} {gs : List (List Value)} {args : List A} {bs : List Blk} {xs : List Value} {w : World} {Q : Value → Prop}
    (hgw : gw w) (hx : GRel w sh gs xs) (hm : mkArgs sh gs G = some (args, bs)) (hlen : Nat.ble args.length fn.ntmps = true)
    (h : (runFn P G (gb ++ bs).length sg fuel fn args (gb ++ bs)).wp Q) : Calls P f xs.toArray w (fun e w' => ∃ x, e = .returned x ∧ Q x ∧ Below w.heap.size w w') := by
  obtain ⟨at_, h1, h2, h3⟩ := mkArgs_rel hx hm
  have hat : ∀ (i : Nat), i < G → (List.range G ++ at_)[i]? = some i := by
    intro i hi
    rw [List.getElem?_append_left (by simpa using hi)]
    simp [hi]
  have hat2 : ∀ (i : Nat), (List.range G ++ at_)[G + i]? = at_[i]? := by
    intro i
    rw [List.getElem?_append_right (by simp)]
    simp
  have hfr : F2 (A.rel fun m => ((List.range G ++ at_)[m]?).map fun b => (b, 0)) args xs := by
    refine h3 _ (fun i b hi => ?_)
    rw [hat2, hi]; rfl
  refine fn_sound E hf (at_ := List.range G ++ at_) (bs := gb ++ bs) hgw hfr ?_ (by simp [h1, hgb.len]) ?_ hat h
  · rw [← f2_len hfr]; exact Nat.le_of_ble_eq_true hlen
  · intro m k hk
    by_cases hm : m < G
    · rw [List.getElem?_append_left (by rw [hgb.len]; exact hm)] at hk
      obtain ⟨g1, g2⟩ := hgb.at_ w hgw m k hk
      exact ⟨m, hat m hm, g1, g2 _⟩
    · rw [List.getElem?_append_right (by rw [hgb.len]; omega), hgb.len] at hk
      obtain ⟨b, k1, k2, k3⟩ := h2 (m - G) k hk
      refine ⟨b, ?_, k2, k3 _⟩
      have := hat2 (m - G)
      rw [show G + (m - G) = m by omega] at this
      rw [this]; exact k1
end Go.Eng
end

section
namespace Go.Eng
open Go.RowKit (Below)
def V.pv : V → Option Value
  | .a y => y.pv
  | .tup ys => match pvA ys with | some l => some (.tuple l.toArray) | none => none
theorem V.pv_rel {ρ : Ren} {v : V} {x : Value} (h : v.pv = some x) : v.rel ρ x := by
  cases v with
  | a y => exact A.pv_rel h
  | tup ys =>
    simp only [V.pv] at h
    split at h
    · rename_i l hl
      simp only [Option.some.injEq] at h; subst h
      exact ⟨l, pvA_rel hl, rfl⟩
    · cases h
theorem grp_fin {P : Program} {G : Nat} {sl : List (Nat × Sm)} {gw : World → Prop} {gb : List Blk} (hmix : P.follows .mixedOrders = true) (hst : ∀ w w', gw w → Below w.heap.size w w' → gw w') (hgb : Glob G gw gb) (hS : AllS P gw sl)
    {f : FuncId} {fn : Func} (hf : P.funcs[f]? = some fn) {n0 fuel : Nat} {sh : List Shp} {gs : List (List Value)} {args : List A} {bs bl : List Blk} {xs : List Value} {w : World} {v : V} {x' : Value} {t : T Value}
    (hgw : gw w) (hx : GRel w sh gs xs) (hm : mkArgs sh gs G = some (args, bs)) (hbl : gb ++ bs = bl) (hn : bl.length = n0) (hlen : Nat.ble args.length fn.ntmps = true)
    (ht : runFn P G n0 (lookS sl) fuel fn args bl = t) (hv : v.pv = some x') (h : t.wp (fun x => x = x')) :
    Calls P f xs.toArray w (fun e w' => ∃ x, e = .returned x ∧ (∀ ρ, v.rel ρ x) ∧ Below w.heap.size w w') := by
  subst hbl hn
  have E : Env P G (lookS sl) gw := ⟨hmix, fun f σ hs => lookS_ok hS f σ hs, hst⟩
  refine (grp_run E hgb hf fuel hgw hx hm hlen (by rw [ht]; exact h)).mono ?_
  rintro e w' ⟨x, he, rfl, hb⟩
  exact ⟨_, he, fun ρ => V.pv_rel hv, hb⟩
end Go.Eng
end
