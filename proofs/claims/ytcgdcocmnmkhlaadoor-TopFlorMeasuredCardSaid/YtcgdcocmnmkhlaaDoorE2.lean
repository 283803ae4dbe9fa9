/- The engine, part 2: the operations of a region in whatever order: one state for each set of operations that have run. -/
import Derived.Test.YtcgdcocmnmkhlaaDoorE1
namespace Go.Eng

/-- What is recorded of an operation in the text's order: the first new name, what it did (none: its guard said no), the names that it read. -/
structure Rec where
  c : Nat
  e : Option Eff
  rd : List Nat

def skip (dst : Option Tmp) (s : S) : S := { s with tm := match dst with | some d => upd s.tm d none | none => s.tm }
def doit (dst : Option Tmp) (r : Rec) (s : S) : S := match r.e with | some e => act dst r.c e s | none => skip dst s

/-- Names from one on, so many. -/
def names (c : Nat) : Nat → List Nat
  | 0 => []
  | n + 1 => c :: names (c + 1) n
theorem mem_names {c m : Nat} : ∀ {n : Nat}, m ∈ names c n ↔ c ≤ m ∧ m < c + n := by
  intro n
  induction n generalizing c with
  | zero => simp [names]
  | succ n ih => simp only [names, List.mem_cons, ih]; omega

def Rec.touch (r : Rec) : List Nat :=
  match r.e with
  | some e => (match e.wr with | some (m, _) => [m] | none => []) ++ names r.c e.nw.length
  | none => []

abbrev Item := Option Tmp × Rec

def runL (D : Nat → Bool) : List Item → Nat → S → S
  | [], _, s => s
  | x :: l, i, s => runL D l (i + 1) (if D i then doit x.1 x.2 s else s)

theorem doit_tm_ne (x : Item) (s : S) (t : Nat) (h : x.1 ≠ some t) : (doit x.1 x.2 s).tm t = s.tm t := by
  obtain ⟨d, r⟩ := x
  cases d with
  | none => unfold doit; split <;> rfl
  | some d =>
    have hne : t ≠ d := fun e => h (by simp [e])
    unfold doit
    split
    · simp only [act]; exact upd_ne _ _ hne
    · simp only [skip]; exact upd_ne _ _ hne

theorem doit_tm_eq (x : Item) (s s' : S) (t : Nat) (h : x.1 = some t) : (doit x.1 x.2 s).tm t = (doit x.1 x.2 s').tm t := by
  obtain ⟨d, r⟩ := x
  simp only at h; subst h
  unfold doit
  split
  · simp only [act, upd_same]
  · simp only [skip, upd_same]

theorem doit_hp_ne (x : Item) (s : S) (m : Nat) (h : m ∉ x.2.touch) : (doit x.1 x.2 s).hp m = s.hp m := by
  obtain ⟨d, r⟩ := x
  unfold doit
  simp only [Rec.touch] at h
  split
  · rename_i e he
    rw [he] at h
    simp only [List.mem_append, mem_names, not_or] at h
    simp only [act]
    rw [addNews_out (by omega)]
    cases hw : e.wr with
    | none => rfl
    | some p =>
      rw [hw] at h
      exact upd_ne _ _ (by simpa using h.1)
  · rfl

theorem addNews_congr {m : Nat} : ∀ {bs : List Blk} {c : Nat} {h h' : Nat → Option Blk}, h m = h' m → addNews c bs h m = addNews c bs h' m := by
  intro bs
  induction bs with
  | nil => intro c h h' e; exact e
  | cons b bs ih =>
    intro c h h' e
    simp only [addNews]
    refine ih ?_
    by_cases hm : m = c
    · subst hm; simp [upd_same]
    · simp [upd_ne _ _ hm, e]

theorem doit_hp_eq (x : Item) (s s' : S) (m : Nat) (h : m ∈ x.2.touch) : (doit x.1 x.2 s).hp m = (doit x.1 x.2 s').hp m := by
  obtain ⟨d, r⟩ := x
  unfold doit
  simp only [Rec.touch] at h
  split
  · rename_i e he
    rw [he] at h
    simp only [List.mem_append, mem_names] at h
    simp only [act]
    by_cases hn : r.c ≤ m ∧ m < r.c + e.nw.length
    · have k1 := fun (h : Nat → Option Blk) => addNews_in (c := r.c) (bs := e.nw) (h := h) (i := m - r.c) (by omega)
      rw [show r.c + (m - r.c) = m by omega] at k1
      rw [k1, k1]
    · have hw := h.resolve_right hn
      refine addNews_congr ?_
      split at hw
      · rename_i m' b hw'
        have : m = m' := by simpa using hw
        subst this; simp only [hw']; rw [upd_same, upd_same]
      · simp at hw
  · rename_i he; rw [he] at h; simp at h

theorem doit_hp_mono (x : Item) (s s' : S) (m : Nat) (h : s.hp m = s'.hp m) : (doit x.1 x.2 s).hp m = (doit x.1 x.2 s').hp m := by
  by_cases hm : m ∈ x.2.touch
  · exact doit_hp_eq x s s' m hm
  · rw [doit_hp_ne x s m hm, doit_hp_ne x s' m hm]; exact h

theorem doit_tm_mono (x : Item) (s s' : S) (t : Nat) (h : s.tm t = s'.tm t) : (doit x.1 x.2 s).tm t = (doit x.1 x.2 s').tm t := by
  by_cases hm : x.1 = some t
  · exact doit_tm_eq x s s' t hm
  · rw [doit_tm_ne x s t hm, doit_tm_ne x s' t hm]; exact h

theorem runL_tm {D D' : Nat → Bool} {t : Nat} : ∀ (l : List Item) (i : Nat) (s s' : S), s.tm t = s'.tm t →
    (∀ k x, l[k]? = some x → x.1 = some t → D (i + k) = D' (i + k)) → (runL D l i s).tm t = (runL D' l i s').tm t := by
  intro l
  induction l with
  | nil => intro i s s' h _; exact h
  | cons x l ih =>
    intro i s s' h hd
    simp only [runL]
    refine ih _ _ _ ?_ (fun k y hk hy => ?_)
    · by_cases ht : x.1 = some t
      · have e := hd 0 x rfl ht
        simp only [Nat.add_zero] at e
        rw [e]; split
        · exact doit_tm_eq x _ _ t ht
        · exact h
      · have a1 : (if D i = true then doit x.1 x.2 s else s).tm t = s.tm t := by split; exact doit_tm_ne x s t ht; rfl
        have a2 : (if D' i = true then doit x.1 x.2 s' else s').tm t = s'.tm t := by split; exact doit_tm_ne x s' t ht; rfl
        rw [a1, a2]; exact h
    · have := hd (k + 1) y (by simpa using hk) hy
      rw [show i + (k + 1) = i + 1 + k by omega] at this; exact this

theorem runL_hp {D D' : Nat → Bool} {m : Nat} : ∀ (l : List Item) (i : Nat) (s s' : S), s.hp m = s'.hp m →
    (∀ k x, l[k]? = some x → m ∈ x.2.touch → D (i + k) = D' (i + k)) → (runL D l i s).hp m = (runL D' l i s').hp m := by
  intro l
  induction l with
  | nil => intro i s s' h _; exact h
  | cons x l ih =>
    intro i s s' h hd
    simp only [runL]
    refine ih _ _ _ ?_ (fun k y hk hy => ?_)
    · by_cases ht : m ∈ x.2.touch
      · have e := hd 0 x rfl ht
        simp only [Nat.add_zero] at e
        rw [e]; split
        · exact doit_hp_eq x _ _ m ht
        · exact h
      · have a1 : (if D i = true then doit x.1 x.2 s else s).hp m = s.hp m := by split; exact doit_hp_ne x s m ht; rfl
        have a2 : (if D' i = true then doit x.1 x.2 s' else s').hp m = s'.hp m := by split; exact doit_hp_ne x s' m ht; rfl
        rw [a1, a2]; exact h
    · have := hd (k + 1) y (by simpa using hk) hy
      rw [show i + (k + 1) = i + 1 + k by omega] at this; exact this

/-- Two operations that touch nothing in common come to one state in either order. -/
theorem doit_comm (x y : Item) (s : S) (h1 : ∀ d, x.1 = some d → y.1 ≠ some d) (h2 : ∀ m, m ∈ x.2.touch → m ∉ y.2.touch) :
    doit x.1 x.2 (doit y.1 y.2 s) = doit y.1 y.2 (doit x.1 x.2 s) := by
  have ext : ∀ a b : S, (∀ t, a.tm t = b.tm t) → (∀ m, a.hp m = b.hp m) → a = b := by
    intro a b ht hm; cases a; cases b; simp only [S.mk.injEq]; exact ⟨funext ht, funext hm⟩
  refine ext _ _ (fun t => ?_) (fun m => ?_)
  · by_cases hx : x.1 = some t
    · rw [doit_tm_ne y _ t (h1 t hx)]
      exact doit_tm_eq x _ _ t hx
    · rw [doit_tm_ne x _ t hx]
      by_cases hy : y.1 = some t
      · exact doit_tm_eq y _ _ t hy
      · rw [doit_tm_ne y _ t hy, doit_tm_ne y _ t hy, doit_tm_ne x _ t hx]
  · by_cases hx : m ∈ x.2.touch
    · rw [doit_hp_ne y _ m (h2 m hx)]
      exact doit_hp_eq x _ _ m hx
    · rw [doit_hp_ne x _ m hx]
      by_cases hy : m ∈ y.2.touch
      · exact doit_hp_eq y _ _ m hy
      · rw [doit_hp_ne y _ m hy, doit_hp_ne y _ m hy, doit_hp_ne x _ m hx]

theorem runL_comm {D : Nat → Bool} (x : Item) : ∀ (l : List Item) (i : Nat) (s : S),
    (∀ k y, l[k]? = some y → D (i + k) = true → ∀ s, doit y.1 y.2 (doit x.1 x.2 s) = doit x.1 x.2 (doit y.1 y.2 s)) →
    runL D l i (doit x.1 x.2 s) = doit x.1 x.2 (runL D l i s) := by
  intro l
  induction l with
  | nil => intro i s _; rfl
  | cons y l ih =>
    intro i s h
    simp only [runL]
    have h0 := h 0 y rfl
    simp only [Nat.add_zero] at h0
    have e : (if D i = true then doit y.1 y.2 (doit x.1 x.2 s) else doit x.1 x.2 s) = doit x.1 x.2 (if D i = true then doit y.1 y.2 s else s) := by
      split
      · rename_i hd; exact h0 hd s
      · rfl
    rw [e]
    exact ih _ _ (fun k z hk hd => h (k + 1) z (by simpa using hk) (by rw [show i + (k + 1) = i + 1 + k by omega]; exact hd))

/-- One operation more. -/
theorem runL_ins {D D' : Nat → Bool} (x : Item) : ∀ (l : List Item) (i j : Nat) (s : S), l[j]? = some x → D (i + j) = false → D' (i + j) = true → (∀ k, k ≠ i + j → D' k = D k) →
    (∀ k y, l[k]? = some y → j < k → D (i + k) = true → ∀ s, doit y.1 y.2 (doit x.1 x.2 s) = doit x.1 x.2 (doit y.1 y.2 s)) →
    runL D' l i s = doit x.1 x.2 (runL D l i s) := by
  intro l
  induction l with
  | nil => intro i j s h; simp at h
  | cons y l ih =>
    intro i j s hj hD hD' hoff hc
    cases j with
    | zero =>
      simp at hj; subst hj
      simp only [Nat.add_zero] at hD hD' hoff
      simp only [runL, hD, hD', if_true, Bool.false_eq_true, if_false]
      have e : ∀ s, runL D' l (i + 1) s = runL D l (i + 1) s := by
        have : ∀ (l : List Item) (k : Nat), i < k → ∀ s, runL D' l k s = runL D l k s := by
          intro l
          induction l with
          | nil => intro k _ s; rfl
          | cons z l ih2 =>
            intro k hk s
            simp only [runL]
            rw [hoff k (by omega)]
            exact ih2 _ (by omega) _
        exact this l (i + 1) (by omega)
      rw [e]
      exact runL_comm y l (i + 1) s (fun k z hk hd => hc (k + 1) z (by simpa using hk) (by omega) (by rw [show i + (k + 1) = i + 1 + k by omega]; exact hd))
    | succ j =>
      simp only [runL]
      rw [hoff i (by omega)]
      refine ih (i + 1) j _ (by simpa using hj) ?_ ?_ ?_ ?_
      · rw [show i + 1 + j = i + (j + 1) by omega]; exact hD
      · rw [show i + 1 + j = i + (j + 1) by omega]; exact hD'
      · intro k hk; exact hoff k (by omega)
      · intro k z hk hjk hd
        exact hc (k + 1) z (by simpa using hk) (by omega) (by rw [show i + (k + 1) = i + 1 + k by omega]; exact hd)

theorem runL_all {D : Nat → Bool} : ∀ (l : List Item) (i : Nat) (s : S), (∀ k, k < l.length → D (i + k) = true) → runL D l i s = runL (fun _ => true) l i s := by
  intro l
  induction l with
  | nil => intro i s _; rfl
  | cons x l ih =>
    intro i s h
    have h0 := h 0 (by simp)
    simp only [Nat.add_zero] at h0
    simp only [runL, h0, if_true]
    exact ih _ _ (fun k hk => by rw [show i + 1 + k = i + (k + 1) by omega]; exact h (k + 1) (by simpa using hk))

/-- Slots that an operation looks at or writes. -/
def opTmps : List Operand → List Nat
  | [] => []
  | .tmp t :: l => t :: opTmps l
  | _ :: l => opTmps l
theorem mem_opTmps {t : Nat} : ∀ {l : List Operand}, Operand.tmp t ∈ l → t ∈ opTmps l
  | [], h => by simp at h
  | x :: l, h => by
    rcases List.mem_cons.1 h with h | h
    · subst h; simp [opTmps]
    · have ih := mem_opTmps h
      cases x <;> simp [opTmps, ih]
def dstOf (ops : Array Oper) (k : Nat) : Option Tmp := (ops[k]?).bind (·.dst)
def uses (ops : Array Oper) (o : Oper) : List Nat :=
  (match o.guard with | some (k, _) => (match dstOf ops k with | some d => [d] | none => []) | none => []) ++ (match o.dst with | some d => [d] | none => []) ++ opTmps o.op.operands.toList

/-- Which operations come before one, as the bits of a number. -/
def maskE (M : List Nat) : List Edge → Nat
  | [] => 0
  | e :: r => match Region.binds .any e with | true => ((1 <<< e.on) ||| M.getD e.on 0) ||| maskE M r | false => maskE M r
def masks : List Oper → List Nat → List Nat
  | [], acc => acc
  | o :: r, acc => masks r (acc ++ [maskE acc o.after.toList])

theorem maskE_bit {M : List Nat} {k : Nat} : ∀ {l : List Edge}, (maskE M l).testBit k = true → ∃ e ∈ l, Region.binds .any e = true ∧ (e.on = k ∨ (M.getD e.on 0).testBit k = true) := by
  intro l
  induction l with
  | nil => intro h; simp [maskE] at h
  | cons e r ih =>
    intro h
    simp only [maskE] at h
    split at h
    · rename_i hb
      simp only [Nat.testBit_or, Bool.or_eq_true] at h
      rcases h with (h | h) | h
      · refine ⟨e, by simp, hb, .inl ?_⟩
        rw [Nat.one_shiftLeft, Nat.testBit_two_pow] at h
        simpa using h
      · exact ⟨e, by simp, hb, .inr h⟩
      · obtain ⟨e', h1, h2⟩ := ih h
        exact ⟨e', by simp [h1], h2⟩
    · obtain ⟨e', h1, h2⟩ := ih h
      exact ⟨e', by simp [h1], h2⟩

/-- Each mask is what its edges say, and edges lead back. -/
def masksOk (M : List Nat) : List Oper → Nat → Bool
  | [], _ => true
  | o :: r, i => Nat.beq (M.getD i 0) (maskE M o.after.toList) && o.after.toList.all (fun e => !Region.binds .any e || Nat.blt e.on i) && masksOk M r (i + 1)

theorem masksOk_at {M : List Nat} : ∀ {l : List Oper} {i k : Nat} {o : Oper}, masksOk M l i = true → l[k]? = some o →
    M.getD (i + k) 0 = maskE M o.after.toList ∧ ∀ e ∈ o.after.toList, Region.binds .any e = true → e.on < i + k := by
  intro l
  induction l with
  | nil => intro i k o _ h; simp at h
  | cons x l ih =>
    intro i k o h hk
    simp only [masksOk, Bool.and_eq_true] at h
    cases k with
    | zero =>
      simp at hk; subst hk
      refine ⟨Nat.eq_of_beq_eq_true h.1.1, fun e he hb => ?_⟩
      have := List.all_eq_true.1 h.1.2 e he
      rw [hb] at this
      simpa [Nat.blt_eq] using this
    | succ k =>
      have := ih h.2 (by simpa using hk)
      rw [show i + (k + 1) = i + 1 + k by omega]; exact this

/-- Whether an operation may disturb another one. -/
def conf (us : List Nat) (x y : Item) : Bool :=
  (match x.1 with | some d => us.elem d | none => false) || x.2.touch.any (fun m => y.2.rd.elem m || y.2.touch.elem m)

def pairsOk (M : List Nat) (X : List Item) (j : Nat) (us : List Nat) (y : Item) : List Item → Nat → Bool
  | [], _ => true
  | x :: l, i => (Nat.beq i j || !conf us x y || (match Nat.blt i j with | true => (M.getD j 0).testBit i | false => (M.getD i 0).testBit j)) && pairsOk M X j us y l (i + 1)
def allPairsOk (ops : Array Oper) (M : List Nat) (X : List Item) : List Oper → List Item → Nat → Bool
  | o :: os, y :: ys, j => pairsOk M X j (uses ops o) y X 0 && allPairsOk ops M X os ys (j + 1)
  | _, _, _ => true

theorem pairsOk_at {M : List Nat} {X : List Item} {j : Nat} {us : List Nat} {y : Item} : ∀ {l : List Item} {i k : Nat} {x : Item}, pairsOk M X j us y l i = true → l[k]? = some x → i + k ≠ j → conf us x y = true →
    (i + k < j → (M.getD j 0).testBit (i + k) = true) ∧ (j < i + k → (M.getD (i + k) 0).testBit j = true) := by
  intro l
  induction l with
  | nil => intro i k x _ h; simp at h
  | cons z l ih =>
    intro i k x h hk hne hc
    simp only [pairsOk, Bool.and_eq_true] at h
    cases k with
    | zero =>
      simp at hk; subst hk
      simp only [Nat.add_zero] at hne ⊢
      have h1 := h.1
      have hb : Nat.beq i j = false := by cases hb : Nat.beq i j; rfl; exact absurd (Nat.eq_of_beq_eq_true hb) hne
      rw [hb, hc] at h1
      simp only [Bool.not_true, Bool.or_self, Bool.false_or] at h1
      constructor
      · intro hlt
        have : Nat.blt i j = true := by rw [Nat.blt_eq]; exact hlt
        rw [this] at h1; exact h1
      · intro hlt
        have : Nat.blt i j = false := by rw [← Bool.not_eq_true, Nat.blt_eq]; omega
        rw [this] at h1; exact h1
    | succ k =>
      have := ih h.2 (by simpa using hk) (by omega) hc
      rw [show i + (k + 1) = i + 1 + k by omega]; exact this

theorem allPairsOk_at {ops : Array Oper} {M : List Nat} {X : List Item} : ∀ {os : List Oper} {ys : List Item} {j k : Nat} {o : Oper} {y : Item}, allPairsOk ops M X os ys j = true → os[k]? = some o → ys[k]? = some y → pairsOk M X (j + k) (uses ops o) y X 0 = true := by
  intro os
  induction os with
  | nil => intro ys j k o y _ h; simp at h
  | cons z os ih =>
    intro ys j k o y h ho hy
    cases ys with
    | nil => simp at hy
    | cons w ys =>
      simp only [allPairsOk, Bool.and_eq_true] at h
      cases k with
      | zero => simp at ho hy; subst ho; subst hy; exact h.1
      | succ k =>
        have := ih h.2 (by simpa using ho) (by simpa using hy)
        rw [show j + (k + 1) = j + 1 + k by omega]; exact this

end Go.Eng
