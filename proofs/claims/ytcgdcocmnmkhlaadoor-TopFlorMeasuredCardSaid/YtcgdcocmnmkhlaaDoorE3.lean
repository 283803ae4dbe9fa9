/- The engine, part 3: operations that give a value and leave the world alone. -/
import Derived.Test.YtcgdcocmnmkhlaaDoorE2
namespace Go.Eng

/-- Conditions that are owed. -/
def All : List Prop → Prop
  | [] => True
  | p :: l => p ∧ All l
theorem All.append : ∀ {l k : List Prop}, All (l ++ k) ↔ All l ∧ All k
  | [], k => by simp [All]
  | p :: l, k => by simp [All, All.append (l := l), and_assoc]

section
variable (P : Program)

/-- A run of the model's own text where it asks nothing of the world. -/
def pureRun {α : Type} : Sem α → Option α
  | .pure a => some a
  | .program k => pureRun (k P)
  | _ => none

theorem pureRun_run {α : Type} : ∀ (m : Sem α) {x : α} (w : World), pureRun P m = some x → m.run P w = .ok x w := by
  intro m
  induction m with
  | pure a => intro x w h; simp [pureRun] at h; subst h; rfl
  | program k ih => intro x w h; simp only [pureRun] at h; exact ih P w h
  | _ => intro x w h; simp [pureRun] at h
end

/-- A cell without an address, as a value. -/
def C.val : C → Option Value
  | .num k n => some (.int k n)
  | .int k n => some (.int k n)
  | .lit b => some (.bool b)
  | .bool b => some (.bool b)
  | .str s => some (.string s)
  | .nil => some (.pointer none)
  | .nsl => some (.slice none 0 0)
  | .op v => some v
  | _ => none
def valL : List C → Option (List Value)
  | [] => some []
  | c :: l => match c.val, valL l with | some v, some r => some (v :: r) | _, _ => none
def A.val : A → Option Value
  | .c x => x.val
  | .agg cs => match valL cs with | some l => some (.agg l.toArray) | none => none
def V.val : V → Option Value
  | .a x => x.val
  | .tup _ => none

def C.known : C → Bool
  | .int _ _ => false
  | .bool _ => false
  | .op _ => false
  | .str _ => false
  | _ => true
def A.known : A → Bool
  | .c x => x.known
  | .agg cs => cs.all C.known
def V.known : V → Bool
  | .a x => x.known
  | .tup _ => false

theorem C.val_rel {ρ : Ren} {c : C} {v x : Value} (h : c.val = some v) (r : c.rel ρ x) : x = v := by
  cases c <;> simp only [C.val, Option.some.injEq, reduceCtorEq] at h <;> simp only [C.rel] at r
  case op u => rw [r.1, h]
  all_goals (rw [r, h])

theorem valL_rel {ρ : Ren} : ∀ {cs : List C} {l xs : List Value}, valL cs = some l → F2 (C.rel ρ) cs xs → xs = l := by
  intro cs
  induction cs with
  | nil => intro l xs h r; cases r; simp [valL] at h; exact h.symm
  | cons c cs ih =>
    intro l xs h r
    cases r with
    | cons r0 rs =>
      simp only [valL] at h
      split at h
      · rename_i v r' hv hr
        simp at h; subst h
        rw [C.val_rel hv r0, ih hr rs]
      · cases h

theorem A.val_rel {ρ : Ren} {c : A} {v x : Value} (h : c.val = some v) (r : c.rel ρ x) : x = v := by
  cases c with
  | c y => exact C.val_rel h r
  | agg cs =>
    simp only [A.val] at h
    split at h
    · rename_i l hl
      simp at h; subst h
      obtain ⟨xs, hf, rfl⟩ := r
      rw [valL_rel hl hf]
    · cases h

/-- A value as a cell: known, or any term. -/
def ofCell (known : Bool) (v : Value) : Option C :=
  match v with
  | .int k n => some (match known with | true => .num k n | false => .int k n)
  | .bool b => some (match known with | true => .lit b | false => .bool b)
  | .string s => some (.str s)
  | .pointer none => some .nil
  | .slice none 0 0 => some .nsl
  | .agg _ => none
  | .tuple _ => none
  | v => some (.op v)
def ofCells (known : Bool) : List Value → Option (List C)
  | [] => some []
  | v :: l => match ofCell known v, ofCells known l with | some c, some r => some (c :: r) | _, _ => none
def ofVal (known : Bool) (v : Value) : Option A :=
  match v with
  | .agg cs => match ofCells known cs.toList with | some l => some (.agg l) | none => none
  | v => match ofCell known v with | some c => some (.c c) | none => none

theorem ofCell_rel (ρ : Ren) {b : Bool} {v : Value} {c : C} (h : ofCell b v = some c) : c.rel ρ v := by
  unfold ofCell at h
  split at h
  case h_1 => cases b <;> (simp at h; subst h; rfl)
  case h_2 => cases b <;> (simp at h; subst h; rfl)
  case h_3 => simp at h; subst h; rfl
  case h_4 => simp at h; subst h; rfl
  case h_5 => simp at h; subst h; rfl
  case h_6 => cases h
  case h_7 => cases h
  case h_8 =>
    rename_i h7 h8
    simp at h; subst h
    refine ⟨rfl, ?_, fun cs e => h7 cs e, fun cs e => h8 cs e⟩
    cases v <;> first | rfl | (exact absurd rfl (h7 _))

theorem ofCells_rel (ρ : Ren) {b : Bool} : ∀ {l : List Value} {cs : List C}, ofCells b l = some cs → F2 (C.rel ρ) cs l := by
  intro l
  induction l with
  | nil => intro cs h; simp [ofCells] at h; subst h; exact .nil
  | cons v l ih =>
    intro cs h
    simp only [ofCells] at h
    split at h
    · rename_i c r hc hr
      simp at h; subst h
      exact .cons (ofCell_rel ρ hc) (ih hr)
    · cases h

theorem ofVal_rel (ρ : Ren) {b : Bool} {v : Value} {c : A} (h : ofVal b v = some c) : c.rel ρ v := by
  unfold ofVal at h
  split at h
  · rename_i cs
    split at h
    · rename_i l hl
      simp at h; subst h
      exact ⟨cs.toList, ofCells_rel ρ hl, by simp⟩
    · cases h
  · split at h
    · rename_i c' hc
      simp at h; subst h
      exact ofCell_rel ρ hc
    · cases h

/-- What an operand is known to be. G: so many package-level variables are blocks with a name. -/
def look (G : Nat) (s : S) : Operand → Option V
  | .tmp t => s.tm t
  | .const v => (match ofVal true v with | some a => some (.a a) | none => none)
  | .global g => match Nat.blt g G with | true => some (.a (.c (.ptr g 0))) | false => none
  | .func f => some (.a (.c (.fn f [])))

/-- What an operation may use of 'Rel'. -/
structure View (G : Nat) (ρ : Ren) (s : S) (a : Act) (w : World) : Prop where
  tm : ∀ t v, s.tm t = some v → v.rel ρ (a.tmps.getD t undef)
  hp : ∀ m k, s.hp m = some k → ∃ b, ρ m = some b ∧ b.1 < w.heap.size ∧ k.rel ρ b.1 w
  gl : ∀ g, g < G → ρ g = some (g, 0)

theorem look_rel {G : Nat} {ρ : Ren} {s : S} {a : Act} {w : World} (h : View G ρ s a w) {x : Operand} {v : V} (e : look G s x = some v) : v.rel ρ (a.eval x) := by
  cases x with
  | tmp t => exact h.tm t v e
  | const u =>
    simp only [look] at e
    split at e
    · rename_i c hc
      simp at e; subst e
      exact ofVal_rel ρ hc
    · cases e
  | global g =>
    simp only [look] at e
    split at e
    · rename_i hg
      simp at e; subst e
      exact ⟨(g, 0), h.gl g (by simpa [Nat.blt_eq] using hg), rfl⟩
    · cases e
  | func f =>
    simp only [look] at e
    simp at e; subst e
    exact ⟨[], .nil, rfl⟩

/-- The value of an operand without an address. -/
def evalO (G : Nat) (s : S) (x : Operand) : Value := match look G s x with | some v => (match v.val with | some u => u | none => undef) | none => undef
def okO (G : Nat) (s : S) (x : Operand) : Bool := match look G s x with | some (.a a) => (match a.val with | some _ => true | none => false) | _ => false
def knownO (G : Nat) (s : S) (x : Operand) : Bool := match look G s x with | some v => v.known | none => false

theorem evalO_eq {G : Nat} {ρ : Ren} {s : S} {a : Act} {w : World} (h : View G ρ s a w) {x : Operand} (ok : okO G s x = true) : evalO G s x = a.eval x := by
  unfold okO at ok
  unfold evalO
  cases hl : look G s x with
  | none => rw [hl] at ok; simp at ok
  | some v =>
    rw [hl] at ok
    cases v with
    | tup xs => simp at ok
    | a y =>
      simp only at ok
      cases hv : y.val with
      | none => rw [hv] at ok; simp at ok
      | some u =>
        have : (V.a y).val = some u := hv
        simp only [this]
        exact (A.val_rel hv (look_rel h hl)).symm

section
variable (P : Program) (G : Nat)

/-- An operation on values without addresses, by the model's own text. -/
def effPure (o : Oper) (s : S) : Option V :=
  match o.op.operands.toList.all (okO G s) with
  | true =>
    match pureRun P (execOp (evalO G s) o) with
    | some (.value x) => (match ofVal (o.op.operands.toList.all (knownO G s)) x with | some a => some (.a a) | none => none)
    | _ => none
  | false => none

theorem effPure_sound {ρ : Ren} {s : S} {a : Act} {w : World} (h : View G ρ s a w) {o : Oper} {v : V} (hs : ∀ cs b, o.op ≠ .select cs b) (e : effPure P G o s = some v) :
    ∃ x, (execOp a.eval o).run P w = .ok (.value x) w ∧ v.rel ρ x := by
  unfold effPure at e
  split at e
  · rename_i hok
    split at e
    · rename_i x hx
      split at e
      · rename_i c hc
        simp at e; subst e
        refine ⟨x, ?_, ofVal_rel ρ hc⟩
        rw [← execOp_congr (ρ := evalO G s) o hs (fun y hy => evalO_eq h (List.all_eq_true.1 hok y (by simpa using hy)))]
        exact pureRun_run P _ w hx
      · cases e
    · cases e
  · cases e

/-- A struct's or an array's part. -/
def isAggD : TypeDesc → Bool | .struct _ => true | .array _ _ => true | _ => false
def partA (t : TypeId) (cs : List C) (off : Nat) : Option A :=
  match P.underlying t, P.info? t with
  | some d, some i => (match isAggD d with
    | true => some (.agg ((cs.drop off).take i.size))
    | false => (match cs[off]? with | some c => some (.c c) | none => none))
  | _, _ => none

theorem f2_drop {α β : Type} {R : α → β → Prop} : ∀ {l : List α} {k : List β}, F2 R l k → ∀ n, F2 R (l.drop n) (k.drop n)
  | _, _, .nil, n => by simp; exact .nil
  | _, _, .cons x xs, 0 => .cons x xs
  | _, _, .cons x xs, n + 1 => by simpa using f2_drop xs n
theorem f2_take {α β : Type} {R : α → β → Prop} : ∀ {l : List α} {k : List β}, F2 R l k → ∀ n, F2 R (l.take n) (k.take n)
  | _, _, .nil, n => by simp; exact .nil
  | _, _, .cons x xs, 0 => by simp; exact .nil
  | _, _, .cons x xs, n + 1 => by simpa using .cons x (f2_take xs n)
theorem f2_append {α β : Type} {R : α → β → Prop} : ∀ {l l' : List α} {k k' : List β}, F2 R l k → F2 R l' k' → F2 R (l ++ l') (k ++ k')
  | _, _, _, _, .nil, h => h
  | _, _, _, _, .cons x xs, h => .cons x (f2_append xs h)

theorem run_isAgg {t : TypeId} {d : TypeDesc} (h : P.underlying t = some d) (w : World) : (isAgg t).run P w = .ok (isAggD d) w := by
  unfold isAgg
  simp only [Sem.run_bind, run_underlying h, Result.andThen_ok]
  cases d <;> rfl
theorem run_sizeOf' {t : TypeId} {i : TypeInfo} (h : P.info? t = some i) (w : World) : (sizeOf t).run P w = .ok i.size w := by
  simp [sizeOf, typeInfo, h]

theorem partA_sound {ρ : Ren} {t : TypeId} {cs : List C} {off : Nat} {p : A} {xs : List Value} (h : partA P t cs off = some p) (r : F2 (C.rel ρ) cs xs) (w : World) :
    ∃ x, (part t xs.toArray off).run P w = .ok x w ∧ p.rel ρ x := by
  unfold partA at h
  split at h
  · rename_i d i hd hi
    unfold part
    simp only [Sem.run_bind, run_isAgg P hd, Result.andThen_ok]
    split at h
    · rename_i hg
      simp at h; subst h
      rw [if_pos hg]
      simp only [Sem.run_bind, run_sizeOf' P hi, Result.andThen_ok, Sem.run_pure]
      refine ⟨_, rfl, (xs.drop off).take i.size, f2_take (f2_drop r off) i.size, ?_⟩
      congr 1
      apply Array.ext'
      simp
    · rename_i hg
      split at h
      · rename_i c hc
        simp at h; subst h
        obtain ⟨x, hx, hr⟩ := f2_get r hc
        rw [if_neg (by simp [hg])]
        refine ⟨x, ?_, hr⟩
        simp [hx]
      · cases h
  · cases h

/-- Equality of plain values. -/
def eqFs (g : TypeId → A → A → Option Bool) (xs ys : List C) : List Field → Option Bool
  | [] => some true
  | f :: fs =>
    match f.name == "_" with
    | true => eqFs g xs ys fs
    | false =>
      match partA P f.type xs f.offset, partA P f.type ys f.offset with
      | some a, some b => (match g f.type a b, eqFs g xs ys fs with | some r, some q => some (r && q) | _, _ => none)
      | _, _ => none
def eqT : Nat → TypeId → A → A → Option Bool
  | 0, _, _, _ => none
  | d + 1, t, x, y =>
    match P.underlying t, x, y with
    | some (.int _), .c a, .c b => (match a.val, b.val with | some (.int k m), some (.int k' n) => (match decide (k = k') with | true => some (m == n) | false => none) | _, _ => none)
    | some .bool, .c a, .c b => (match a.val, b.val with | some (.bool m), some (.bool n) => some (m == n) | _, _ => none)
    | some .string, .c a, .c b => (match a.val, b.val with | some (.string m), some (.string n) => some (m.toList == n.toList) | _, _ => none)
    | some (.struct fs), .agg xs, .agg ys => (match P.stoodInHeld t with | true => none | false => eqFs P (eqT d) xs ys fs.toList)
    | _, _, _ => none

theorem eqT_sound {ρ : Ren} (w : World) : ∀ (d : Nat) (t : TypeId) (x y : A) (r : Bool) (u v : Value), eqT P d t x y = some r → x.rel ρ u → y.rel ρ v → (Op.equalIn d t u v).run P w = .ok r w := by
  intro d
  induction d with
  | zero => intro t x y r u v h; simp [eqT] at h
  | succ d ih =>
    intro t x y r u v h hx hy
    simp only [eqT] at h
    split at h
    · rename_i hu
      split at h
      · rename_i hk hn
        split at h
        · rename_i hkk
          simp at hkk; subst hkk
          simp at h; subst h
          rw [C.val_rel hk hx, C.val_rel hn hy]
          exact run_equalIn_int w d t _ _ _ _ hu
        · cases h
      · cases h
    · rename_i hu
      split at h
      · rename_i hk hn
        simp at h; subst h
        rw [C.val_rel hk hx, C.val_rel hn hy]
        exact run_equalIn_bool' w d t _ _ hu
      · cases h
    · rename_i hu
      split at h
      · rename_i hk hn
        simp at h; subst h
        rw [C.val_rel hk hx, C.val_rel hn hy]
        exact run_equalIn_string w d t _ _ hu
      · cases h
    · rename_i fs xs ys hu
      split at h
      · cases h
      · rename_i hst
        obtain ⟨us, hus, rfl⟩ := hx
        obtain ⟨vs, hvs, rfl⟩ := hy
        have hf : P.fieldsOf t = fs := by simp [Program.fieldsOf, hu]
        rw [run_equalIn_struct w d t _ _ (by rw [hu, hf]) hst, hf]
        generalize fs.toList = l at h ⊢
        clear hf hu
        induction l generalizing r with
        | nil => simp [eqFs] at h; subst h; simp [Op.eqFields]
        | cons f l ihl =>
          simp only [eqFs] at h
          simp only [Op.eqFields]
          split at h
          · rename_i hn
            rw [if_neg (by simpa using hn)]
            exact ihl r h
          · rename_i hn
            rw [if_pos (by simpa using hn)]
            split at h
            · rename_i p q hp hq
              split at h
              · rename_i r1 q1 hg hr
                simp at h; subst h
                obtain ⟨a1, ha1, hra⟩ := partA_sound P hp hus w
                obtain ⟨b1, hb1, hrb⟩ := partA_sound P hq hvs w
                simp only [Sem.run_bind, ha1, hb1, Result.andThen_ok, ih _ _ _ _ _ _ hg hra hrb]
                cases r1
                · simp
                · simpa using ihl q1 hr
              · cases h
            · cases h
    · cases h

end
end Go.Eng
