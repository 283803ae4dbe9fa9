/- The parts of the engines, of their contracts and of the plain laws that the claim rests on: U13, U14, U15, U16, U17, U20, U21, U22, U23, U24, U25, U26, U27, U28, U29, U19, E1, E2, E3, E4, E5. -/
import Derived.Test.YtcgdcocmnmkhlaaDoorFB1
import Derived.RangeFuncLeaves
import Derived.WalkKit
set_option linter.unusedVariables false
set_option linter.unusedSimpArgs false
section
set_option linter.unusedVariables false
set_option linter.unusedSimpArgs false
namespace Go.V
open Go.RowKit (Below)
/-- The requests are of blocks of their own. -/
def nodupB : List Nat → Bool
  | [] => true
  | m :: l => !memN l m && nodupB l
theorem nodupB_at : ∀ {l : List Nat} {i j m : Nat}, nodupB l = true → l[i]? = some m → l[j]? = some m → i = j := by
  intro l
  induction l with
  | nil => intro i j m _ h; simp at h
  | cons x l ih =>
    intro i j m h hi hj
    simp only [nodupB, Bool.and_eq_true, Bool.not_eq_true'] at h
    have hx : x ∉ l := by
      intro hm
      have := memN_iff.2 hm
      rw [h.1] at this; cases this
    cases i with
    | zero =>
      cases j with
      | zero => rfl
      | succ j =>
        simp at hi hj; subst hi
        exact absurd (List.mem_of_getElem? hj) hx
    | succ i =>
      cases j with
      | zero =>
        simp at hi hj; subst hj
        exact absurd (List.mem_of_getElem? hi) hx
      | succ j => exact congrArg (· + 1) (ih h.2 (by simpa using hi) (by simpa using hj))
section
variable {P : Program} {G : GT} {N : Nat} {w0 : World} {ρ : Ren} {s s0 s1 : S} {a : Act} {w : World}
theorem gather_tblk : ∀ {its : List It} {cs : List C} {m : Nat}, gather s0 s1 its = some cs → m ∈ tblks s0 its → ∃ e cs', s1.hp m = some (.known e cs') := by
  intro its
  induction its with
  | nil => intro cs m _ h; simp [tblks] at h
  | cons i l ih =>
    intro cs m hg hm
    simp only [gather] at hg
    split at hg
    · rename_i x y hx hy
      cases i with
      | slot t sh => exact ih hy (by simpa [tblks] using hm)
      | agg t sh => exact ih hy (by simpa [tblks] using hm)
      | blk t sh =>
        simp only [It.cells] at hx
        simp only [tblks] at hm
        split at hx
        · rename_i m' e hb
          rw [hb] at hm
          simp only [List.mem_cons] at hm
          split at hx
          · rename_i e' cs' hc
            rcases hm with rfl | hm
            · exact ⟨_, _, hc⟩
            · exact ih hy hm
          · cases hx
        · cases hx
    · cases hg
theorem tblks_lt {c : Nat} {W : List Nat} : ∀ {its : List It} {m : Nat}, itsOk s0 c W its = true → m ∈ tblks s0 its → m < c := by
  intro its
  induction its with
  | nil => intro m _ h; simp [tblks] at h
  | cons i l ih =>
    intro m hok hm
    cases i with
    | slot t sh => simp only [itsOk, Bool.and_eq_true] at hok; exact ih hok.2 (by simpa [tblks] using hm)
    | agg t sh => simp only [itsOk, Bool.and_eq_true] at hok; exact ih hok.2 (by simpa [tblks] using hm)
    | blk t sh =>
      simp only [itsOk, Bool.and_eq_true] at hok
      simp only [tblks] at hm
      split at hm
      · rename_i m' e hb
        rw [hb] at hok
        rcases List.mem_cons.1 hm with rfl | hm
        · simpa [Nat.blt_eq] using hok.1.2
        · exact ih hok.2 hm
      · exact ih hok.2 hm
theorem stOf_tm {c : Nat} {W dead : List Nat} {its : List It} {x : Tys (shapes its)} : (stOf s0 c W dead its x).tm = (putAll s0 its (ptL (shapes its) x c) (bs s0 c W (dead ++ tblks s0 its))).tm := rfl
/-- The blocks that a round begins with. -/
theorem stOf_hp_lt {c : Nat} {W dead : List Nat} {its : List It} {x : Tys (shapes its)} {m : Nat} (hm : m < c) :
    ((stOf s0 c W dead its x).hp m = (match memN (dead ++ tblks s0 its) m with | true => some .dead | false => s0.hp m)) ∨ (m ∈ tblks s0 its ∧ ∃ e cs, (stOf s0 c W dead its x).hp m = some (.known e cs)) := by
  have e1 : (stOf s0 c W dead its x).hp m = (putAll s0 its (ptL (shapes its) x c) (bs s0 c W (dead ++ tblks s0 its))).hp m := by
    simp only [stOf]; exact addNews_out (.inl hm)
  rw [e1]
  rcases putAll_hp (s0 := s0) (m := m) (its := its) (cs := ptL (shapes its) x c) (s := bs s0 c W (dead ++ tblks s0 its)) with h | ⟨h1, h2⟩
  · left
    rw [h]
    have : Nat.blt m c = true := by rw [Nat.blt_eq]; exact hm
    simp only [bs, this] <;> rfl
  · exact .inr ⟨h1, h2⟩
theorem stOf_hp_ge {c : Nat} {W dead : List Nat} {its : List It} {x : Tys (shapes its)} {m : Nat} (hok : itsOk s0 c W its = true) (hm : c ≤ m) : (stOf s0 c W dead its x).hp m = (bkL (shapes its) x)[m - c]? := by
  by_cases hin : m < c + (bkL (shapes its) x).length
  · have := addNews_in (c := c) (bs := bkL (shapes its) x) (h := (putAll s0 its (ptL (shapes its) x c) (bs s0 c W (dead ++ tblks s0 its))).hp) (i := m - c) (by omega)
    rw [show c + (m - c) = m by omega] at this
    exact this
  · have e1 : (stOf s0 c W dead its x).hp m = (putAll s0 its (ptL (shapes its) x c) (bs s0 c W (dead ++ tblks s0 its))).hp m := by
      simp only [stOf]; exact addNews_out (.inr (by omega))
    rw [e1, List.getElem?_eq_none (by omega)]
    rcases putAll_hp (s0 := s0) (m := m) (its := its) (cs := ptL (shapes its) x c) (s := bs s0 c W (dead ++ tblks s0 its)) with h | ⟨h1, _⟩
    · rw [h]
      have : Nat.blt m c = false := by rw [← Bool.not_eq_true, Nat.blt_eq]; omega
      simp only [bs, this]
    · have := tblks_lt hok h1; omega
/-- What is kept of the surroundings. -/
structure Ren.up (cz : Nat) (ρ ρ' : Ren) : Prop where
  κ : ρ.κ.le ρ'.κ
  cl : ρ'.cl = ρ.cl
  k0 : ρ'.k0 = ρ.k0
  fx : ρ'.fx = ρ.fx
  lp : ρ'.lp = ρ.lp
  nm : ∀ m b, m < cz → ρ m = some b → ρ' m = some b
theorem Ren.up_refl {cz : Nat} (ρ : Ren) : ρ.up cz ρ := ⟨fun _ _ _ h => h, rfl, rfl, rfl, rfl, fun _ _ _ h => h⟩
theorem Ren.up_trans {cz : Nat} {a b c : Ren} (h : a.up cz b) (k : b.up cz c) : a.up cz c := ⟨fun x y z e => k.κ x y z (h.κ x y z e), k.cl.trans h.cl, k.k0.trans h.k0, k.fx.trans h.fx, k.lp.trans h.lp, fun m x hm e => k.nm m x hm (h.nm m x hm e)⟩
theorem Ren.le.up {cz : Nat} {a b : Ren} (h : a.le b) : a.up cz b := ⟨h.κ, h.cl, h.k0, h.fx, h.lp, fun m x _ e => h.nm m x e⟩
theorem Ren.up.less {cz cy : Nat} {a b : Ren} (h : a.up cz b) (hc : cy ≤ cz) : a.up cy b := ⟨h.κ, h.cl, h.k0, h.fx, h.lp, fun m x hm e => h.nm m x (by omega) e⟩
theorem putAll_st : ∀ {its : List It} {cs : List C} {s : S}, (putAll s0 its cs s).st = s.st := by
  intro its
  induction its with
  | nil => intro cs s; rfl
  | cons i l ih =>
    intro cs s
    simp only [putAll]
    rw [ih]
    cases i with
    | slot t sh => simp only [It.put]; split <;> rfl
    | agg t sh => rfl
    | blk t sh => simp only [It.put]; split <;> rfl
theorem stOf_st {c : Nat} {W dead : List Nat} {its : List It} {x : Tys (shapes its)} : (stOf s0 c W dead its x).st = s0.st := by
  simp only [stOf]
  exact putAll_st
theorem reload (h : Rel w0 N ρ s1 a w) {c : Nat} {W dead : List Nat} {its : List It} (hok : itsOk s0 c W its = true) (hkT : keepT s0 c W N = true) (hkH : keepH s0 c c = true) (hdt : ∀ m, m ∈ dead → m ∉ tblks s0 its)
    (hT : ∀ t, memN W t = false → s1.tm t = s0.tm t) (hH : ∀ m, m < c → memN dead m = false → m ∉ tblks s0 its → s1.hp m = s0.hp m) (hHd : ∀ m, m < c → memN dead m = true → s1.hp m ≠ none)
    {cs : List C} (hg : gather s0 s1 its = some cs) {x : Tys (shapes its)} {p : List Prop} {q : List Req} (hr : rdL s1 (shapes its) cs = some (x, p, q)) (hp : All p)
    (hnd : nodupB (q.map (·.m)) = true) (hst : ∀ k l r, ρ.lp k = some (l, r) → s1.st k = s0.st k) (hqm : ∀ r, r ∈ q → c ≤ r.m ∨ r.m ∈ dead) :
    ∃ ρ', Rel w0 N ρ' (stOf s0 c W dead its x) a w ∧ ρ.up c ρ' := by
  obtain ⟨ρ', hρ'⟩ : ∃ ρ' : Ren, ρ' = { nm := fun m => if m < c then ρ m else (q[m - c]?).bind fun r => (ρ r.m).map fun b => (b.1, r.cap.getD b.2), κ := ρ.κ, cl := ρ.cl, k0 := ρ.k0, fx := ρ.fx, lp := ρ.lp } := ⟨_, rfl⟩
  have hκ : ρ'.κ = ρ.κ := by rw [hρ']
  have hcl : ρ'.cl = ρ.cl := by rw [hρ']
  have hk0 : ρ'.k0 = ρ.k0 := by rw [hρ']
  have hfx : ρ'.fx = ρ.fx := by rw [hρ']
  have hlp : ρ'.lp = ρ.lp := by rw [hρ']
  have hlt : ∀ m, m < c → ρ' m = ρ m := by intro m hm; rw [hρ']; show (if m < c then ρ m else _) = _; rw [if_pos hm]
  have hge : ∀ m, c ≤ m → ρ' m = (q[m - c]?).bind fun r => (ρ r.m).map fun b => (b.1, r.cap.getD b.2) := by
    intro m hm; rw [hρ']
    show (if m < c then ρ m else _) = _
    rw [if_neg (by omega)]
  have hκle : ρ.κ.le ρ'.κ := by rw [hκ]; exact fun _ _ _ h => h
  obtain ⟨q1, q2⟩ := rdL_req hr
  have hmet : Met ρ ρ' c q := by
    intro i r hi b hb
    rw [hge _ (by omega), show c + i - c = i by omega, hi]
    simp [hb]
  have hblk := rdL_blk h hκle hr hp
  -- the half
  have base : Half w0 N ρ' (bs s0 c W (dead ++ tblks s0 its)) a w := by
    refine ⟨?_, ?_⟩
    · intro t v ht
      simp only [bs] at ht
      split at ht
      · cases ht
      · rename_i hw
        obtain ⟨g1, g2⟩ := h.tm t v (by rw [hT t hw]; exact ht)
        exact ⟨g1, V.rel_ren hκle ⟨hcl, fun k p e => by rw [hlp]; exact e⟩ (fun m hm b e => (hlt m (keepT_at hkT g1 hw ht m hm)).trans e) g2⟩
    · intro m k hk
      simp only [bs] at hk
      split at hk
      · rename_i hmc
        have hmc' : m < c := by simpa [Nat.blt_eq] using hmc
        split at hk
        · rename_i hd
          cases hk
          have hne : s1.hp m ≠ none := by
            rcases List.mem_append.1 (memN_iff.1 hd) with h1 | h1
            · exact hHd m hmc' (memN_iff.2 h1)
            · obtain ⟨e, cs', hs⟩ := gather_tblk hg h1
              rw [hs]; simp
          cases hs : s1.hp m with
          | none => exact absurd hs hne
          | some k0 =>
            obtain ⟨b, g1, g2, _, g4⟩ := h.hp m k0 hs
            exact ⟨b, (hlt m hmc').trans g1, g2, trivial, g4⟩
        · rename_i hd
          have hd' : m ∉ dead ++ tblks s0 its := fun hm => by rw [memN_iff.2 hm] at hd; cases hd
          simp only [List.mem_append, not_or] at hd'
          have hs : s1.hp m = some k := (hH m hmc' (by rw [← Bool.not_eq_true]; exact fun e => hd'.1 (memN_iff.1 e)) hd'.2).trans hk
          obtain ⟨b, g1, g2, g3, g4⟩ := h.hp m k hs
          refine ⟨b, (hlt m hmc').trans g1, g2, ?_, g4⟩
          cases k with
          | known e cs' =>
            obtain ⟨xs, hf, hh⟩ := g3
            exact ⟨xs, f2_ren hκle ⟨hcl, fun k p e => by rw [hlp]; exact e⟩ (fun j hj b e => (hlt j (keepH_at hkH hmc' hk j hj)).trans e) hf, hh⟩
          | row e st len F => rw [show (Blk.row e st len F).rel ρ' b w = (Blk.row e st len F).rel ρ b w by simp only [Blk.rel, hκ]]; exact g3
          | fz st len F => rw [show (Blk.fz st len F).rel ρ' b w = (Blk.fz st len F).rel ρ b w by simp only [Blk.rel, hκ]]; exact g3
          | dead => trivial
      · cases hk
  have half := putAll_half h hlt hok hg (by rw [ptL_len, rdL_len hr]) (fun vs hvs => rdL_rel hκle hr hmet hvs) (gather_vals h hg) base
  -- what an own block of the new state was
  have origin : ∀ m k b, (stOf s0 c W dead its x).hp m = some k → k.own = true → ρ' m = some b → ∃ mo ko bo, s1.hp mo = some ko ∧ ko.own = true ∧ ρ mo = some bo ∧ bo.1 = b.1 ∧
      ((m < c ∧ mo = m ∧ m ∉ dead) ∨ (c ≤ m ∧ ∃ r, q[m - c]? = some r ∧ mo = r.m)) := by
    intro m k b hm ho hb
    by_cases hmc : m < c
    · rcases stOf_hp_lt (s0 := s0) (c := c) (W := W) (dead := dead) (its := its) (x := x) hmc with h1 | ⟨h1, e, cs', h2⟩
      · rw [h1] at hm
        split at hm
        · cases hm; cases ho
        · rename_i hd
          have hd' : m ∉ dead ++ tblks s0 its := fun hm => by rw [memN_iff.2 hm] at hd; cases hd
          simp only [List.mem_append, not_or] at hd'
          have hs : s1.hp m = some k := (hH m hmc (by rw [← Bool.not_eq_true]; exact fun e => hd'.1 (memN_iff.1 e)) hd'.2).trans hm
          exact ⟨m, k, b, hs, ho, (hlt m hmc).symm.trans hb, rfl, .inl ⟨hmc, rfl, hd'.1⟩⟩
      · obtain ⟨e1, cs1, hs⟩ := gather_tblk hg h1
        exact ⟨m, _, b, hs, rfl, (hlt m hmc).symm.trans hb, rfl, .inl ⟨hmc, rfl, fun hd => hdt m hd h1⟩⟩
    · have hge' : c ≤ m := by omega
      rw [hge m hge'] at hb
      cases hqr : q[m - c]? with
      | none => rw [hqr] at hb; cases hb
      | some r =>
        rw [hqr] at hb
        simp only [Option.bind_some, Option.map_eq_some_iff] at hb
        obtain ⟨b0, hb0, rfl⟩ := hb
        obtain ⟨⟨k0, g1, g2⟩, _⟩ := hblk r (List.mem_of_getElem? hqr)
        exact ⟨r.m, k0, b0, g1, g2, hb0, rfl, .inr ⟨hge', r, rfl, rfl⟩⟩
  refine ⟨ρ', ⟨h.sz, h.bel, h.df, ?_, ?_, ?_, ?_, ?_, ?_, ?_, by rw [hfx]; exact h.fx, by
    rw [hlp]
    intro k l r hk
    rw [stOf_st, ← hst k l r hk]
    exact h.lp k l r hk, by rw [hfx]; exact h.dfx⟩, ⟨hκle, hcl, hk0, hfx, hlp, fun m b hm e => (hlt m hm).trans e⟩⟩
  · intro t v ht
    exact half.tm t v ht
  · intro m hm
    by_cases hmc : m < c
    · rw [hlt m hmc]
      rcases stOf_hp_lt (s0 := s0) (c := c) (W := W) (dead := dead) (its := its) (x := x) hmc with h1 | ⟨_, e, cs', h2⟩
      · rw [h1] at hm
        split at hm
        · cases hm
        · rename_i hd
          have hd' : m ∉ dead ++ tblks s0 its := fun hm => by rw [memN_iff.2 hm] at hd; cases hd
          simp only [List.mem_append, not_or] at hd'
          exact h.dom m ((hH m hmc (by rw [← Bool.not_eq_true]; exact fun e => hd'.1 (memN_iff.1 e)) hd'.2).trans hm)
      · rw [h2] at hm; cases hm
    · rw [stOf_hp_ge hok (by omega), q2, List.getElem?_map] at hm
      rw [hge m (by omega)]
      cases hqr : q[m - c]? with
      | none => rfl
      | some r => rw [hqr] at hm; cases hm
  · intro m k hm
    by_cases hmc : m < c
    · refine half.hp m k ?_
      rw [← hm]
      simp only [stOf]; exact (addNews_out (.inl hmc)).symm
    · rw [stOf_hp_ge hok (by omega), q2, List.getElem?_map] at hm
      cases hqr : q[m - c]? with
      | none => rw [hqr] at hm; cases hm
      | some r =>
        rw [hqr] at hm
        simp only [Option.map_some, Option.some.injEq] at hm
        subst hm
        obtain ⟨⟨k0, g1, g2⟩, _, g3⟩ := hblk r (List.mem_of_getElem? hqr)
        obtain ⟨b, i1, i2, _, i4⟩ := h.hp _ _ g1
        exact ⟨(b.1, r.cap.getD b.2), by rw [hge m (by omega), hqr]; simp [i1], i2, g3 b i1, i4⟩
  · intro m m' k k' b b' hm hm' ok ok' hb hb' hne
    obtain ⟨mo, ko, bo, g1, g2, g3, g4, g5⟩ := origin m k b hm ok hb
    obtain ⟨mo', ko', bo', j1, j2, j3, j4, j5⟩ := origin m' k' b' hm' ok' hb'
    rw [← g4, ← j4]
    refine h.inj mo mo' ko ko' bo bo' g1 j1 g2 j2 g3 j3 ?_
    rcases g5 with ⟨e1, rfl, e2⟩ | ⟨e1, r, e2, rfl⟩ <;> rcases j5 with ⟨f1, rfl, f2⟩ | ⟨f1, r', f2, rfl⟩
    · exact hne
    · rcases hqm r' (List.mem_of_getElem? f2) with h1 | h1
      · omega
      · intro e; rw [e] at e2; exact e2 h1
    · rcases hqm r (List.mem_of_getElem? e2) with h1 | h1
      · omega
      · intro e; rw [← e] at f2; exact f2 h1
    · intro e
      have := nodupB_at hnd (i := m - c) (j := m' - c) (m := r.m) (by simp [e2]) (by simp [f2, e])
      omega
  · rw [hκ]; exact h.im
  · intro m k b o hm ok hb
    obtain ⟨mo, ko, bo, g1, g2, g3, g4, g5⟩ := origin m k b hm ok hb
    rw [hκ, ← g4]
    exact h.dis mo ko bo o g1 g2 g3
  · rw [hκ, hk0]; exact h.old
end
end Go.V
end

section
set_option linter.unusedVariables false
set_option linter.unusedSimpArgs false
namespace Go.V
open Go.RowKit (Below)
abbrev St3 := Ex × Nat × S
def setO (orc : Nat → Option Bool) (k : Nat) (b : Bool) : Nat → Option Bool := upd orc k (some b)
/-- All slots that code may write. -/
def dsts : Code → List Nat
  | .region _ ops _ => ops.toList.filterMap (·.dst)
  | .seq x y => dsts x ++ dsts y
  | .cond _ y z => dsts y ++ dsts z
  | .block _ x => dsts x
  | .loop x => dsts x
  | _ => []
/-- The number of its first region: a loop's name. -/
def firstId : Code → Option Nat
  | .region id _ _ => some id
  | .seq x y => (match firstId x with | some i => some i | none => firstId y)
  | .cond _ y z => (match firstId y with | some i => some i | none => firstId z)
  | .block _ x => firstId x
  | .loop x => firstId x
  | _ => none
/-- What varies in loops, by their names: one shape, or two. -/
abbrev An := List (Nat × List It × Option (List It))
def anOf : An → Option Nat → Option (List It × Option (List It))
  | [], _ => none
  | (k, a) :: l, i => (match i with | some j => (match Nat.beq k j with | true => some a | false => anOf l i) | none => none)
/-- Blocks from two millions on: counted back from the first new name. -/
def relIt (c : Nat) : It → It
  | .blk t l => .blk (match Nat.ble 2000000 t with | true => 1000000 + (c - (t - 2000000)) | false => t) l
  | i => i
def relIts (c : Nat) : List It → List It
  | [] => []
  | i :: l => relIt c i :: relIts c l
def relAn (c : Nat) : Option (List It × Option (List It)) → Option (List It × Option (List It))
  | some (i, some j) => some (relIts c i, some (relIts c j))
  | some (i, none) => some (relIts c i, none)
  | none => none
/-- Where a loop begins. -/
def enter (N c : Nat) (s : S) (W : List Nat) (its : List It) : Option (Tys (shapes its) × List Prop × List Nat) :=
  match gather s s its with
  | some cs => (match rdL s (shapes its) cs with
    | some (x, p, q) => (match itsOk s c W its && keepT s c W N && keepH s c c && nodupB (q.map (·.m)) && (q.all fun r => Nat.blt r.m c && !memN (tblks s its) r.m) with
      | true => some (x, p, q.map (·.m))
      | false => none)
    | none => none)
  | none => none
/-- Where a round begins again. -/
def again0 (c : Nat) (s0 s1 : S) (its : List It) : Option (Tys (shapes its) × List Prop) :=
  match gather s0 s1 its with
  | some cs => (match rdL s1 (shapes its) cs with
    | some (x, p, q) => (match nodupB (q.map (·.m)) && (q.all fun r => Nat.ble c r.m) with
      | true => some (x, p)
      | false => none)
    | none => none)
  | none => none
/-- The loops over functions are where they were: ready, or within a round. -/
def stSame (lv : Nat) (s s' : S) : Bool := (List.range lv).all fun k => match s.st k, s'.st k with
  | none, none => true
  | some .normal, some .normal => true
  | _, _ => false
theorem stSame_at {lv : Nat} {s s' : S} (h : stSame lv s s' = true) {k : Nat} (hk : k < lv) : s'.st k = s.st k := by
  have := List.all_eq_true.1 h k (List.mem_range.2 hk)
  split at this
  · rename_i h1 h2; rw [h1, h2]
  · rename_i h1 h2; rw [h1, h2]
  · cases this
def again (lv c : Nat) (s0 s1 : S) (its : List It) : Option (Tys (shapes its) × List Prop) :=
  match stSame lv s0 s1 with
  | true => again0 c s0 s1 its
  | false => none
section
variable (P : Program) (G : GT) (N : Nat) (sg : FuncId → Option Sm) (an : An) (lv : Nat)
def rtree (ops : Array Oper) (draw : Bool) (wk : Nat → Bool) (c : Nat) (s : S) : Nat → (Nat → Option Bool) → T St3
  | 0, _ => .fail
  | fuel + 1, orc =>
    match rrun P G N sg wk ops orc ops.toList 0 c s with
    | .done L s' c' p => (match !draw || anyOk ops L with | true => T.needs p (.ret (.normal, c', s')) | false => .fail)
    | .ask k b => .br b (rtree ops draw wk c s fuel (setO orc k true)) (rtree ops draw wk c s fuel (setO orc k false))
    | .fail => .fail
def loopN (f : Nat → S → T St3) : Nat → Nat → S → T St3
  | 0, _, _ => .fail
  | n + 1, c, s => (f c s).bind fun r => match r with
    | (.normal, c', s') => loopN f n c' s'
    | r => .ret r
/-- Whether a loop's blocks may be written here. -/
def mayWr (wk : Nat → Bool) (s : S) (its : List It) (dead : List Nat) : Bool := (dead ++ tblks s its).all wk
def wkIn (c : Nat) (s : S) (its : List It) (m : Nat) : Bool := Nat.ble c m || memN (tblks s its) m
/-- A round's end. -/
def roundEnd (c : Nat) (s0 : S) (its : List It) : St3 → T (Tys (shapes its) ⊕ St3)
  | (.normal, _, s') => (match again lv c s0 s' its with | some (y, p) => T.needs p (.ret (.inl y)) | none => .fail)
  | r => .ret (.inr r)
def roundEnd2 (c : Nat) (s0 : S) (i1 i2 : List It) : St3 → T ((Tys (shapes i1) ⊕ Tys (shapes i2)) ⊕ St3)
  | (.normal, _, s') => (match again lv c s0 s' i1 with
    | some (y, p) => T.needs p (.ret (.inl (.inl y)))
    | none => (match again lv c s0 s' i2 with
      | some (y, p) => T.needs p (.ret (.inl (.inr y)))
      | none => .fail))
  | r => .ret (.inr r)
end
/-- What runs a region; what runs a loop over a function. -/
abbrev RX := Array Oper → Bool → (Nat → Bool) → Nat → S → T St3
abbrev RF := Operand → Array Tmp → Code → Code → (Nat → Bool) → Nat → S → T St3
section
variable (G : GT) (N : Nat) (an : An) (lv : Nat) (rx : RX) (rf : RF)
def exec (fuel : Nat) : Code → (Nat → Bool) → Nat → S → T St3
  | .skip, _, c, s => .ret (.normal, c, s)
  | .region _ ops draw, wk, c, s => rx ops draw wk c s
  | .rangeFunc g ps x y, wk, c, s => rf g ps x y wk c s
  | .seq x y, wk, c, s => (exec fuel x wk c s).bind fun r => match r with
    | (.normal, c', s') => exec fuel y wk c' s'
    | r => .ret r
  | .cond x y z, wk, c, s => (match look G s x with
    | some (.a (.c (.lit true))) => exec fuel y wk c s
    | some (.a (.c (.lit false))) => exec fuel z wk c s
    | some (.a (.c (.bool b))) => .br b (exec fuel y wk c s) (exec fuel z wk c s)
    | _ => .fail)
  | .block id x, wk, c, s => (exec fuel x wk c s).bind fun r => match r with
    | (.exit i, c', s') => (match Nat.beq i id with | true => .ret (.normal, c', s') | false => .ret (.exit i, c', s'))
    | r => .ret r
  | .loop x, wk, c, s => (match relAn c (anOf an (firstId x)) with
    | none => loopN (exec fuel x wk) fuel c s
    | some (i1, none) => (match enter N c s (dsts x) i1 with
      | some (x0, p, dead) => (match mayWr wk s i1 dead with
        | true => T.needs p (.loop (Tys (shapes i1)) x0 fun y =>
            (exec fuel x (wkIn c s i1) (c + nL (shapes i1)) (stOf s c (dsts x) dead i1 y)).bind (roundEnd lv c s i1))
        | false => .fail)
      | none => .fail)
    | some (i1, some i2) => (match enter N c s (dsts x) i1 with
      | some (x0, p, dead) => (match mayWr wk s i1 dead && itsOk s c (dsts x) i2 && ((tblks s i2).all (memN (tblks s i1)) && (tblks s i1).all (memN (tblks s i2))) with
        | true => T.needs p (.loop2 (Tys (shapes i1)) (Tys (shapes i2)) (.inl x0)
            (fun y => (exec fuel x (wkIn c s i1) (c + nL (shapes i1)) (stOf s c (dsts x) dead i1 y)).bind (roundEnd2 lv c s i1 i2))
            (fun y => (exec fuel x (wkIn c s i1) (c + nL (shapes i2)) (stOf s c (dsts x) dead i2 y)).bind (roundEnd2 lv c s i1 i2)))
        | false => .fail)
      | none => .fail))
  | .exit id, _, c, s => .ret (.exit id, c, s)
  | .ret, _, c, s => .ret (.ret, c, s)
  | _, _, _, _ => .fail
end
section
variable {P : Program} {G : GT} {N : Nat} {sg : FuncId → Option Sm} {an : An} {lv : Nat} {gw : World → Prop} {w0 : World} {rr : Option Nat} {s s0 : S}
theorem putAll_tm {t : Nat} {c : Nat} {W : List Nat} (ht : memN W t = false) : ∀ {its : List It} {cs : List C} {s : S}, itsOk s0 c W its = true → (putAll s0 its cs s).tm t = s.tm t := by
  intro its
  induction its with
  | nil => intro cs s _; rfl
  | cons i l ih =>
    intro cs s hok
    simp only [putAll]
    obtain ⟨o1, o2⟩ := itsOk_cons hok
    rw [ih o2]
    cases i with
    | slot t' sh =>
      simp only [itsOk, Bool.and_eq_true] at o1
      have hne : t ≠ t' := fun e => by rw [e, o1.1] at ht; cases ht
      simp only [It.put]
      split
      · exact upd_ne _ _ hne
      · rfl
    | agg t' sh =>
      simp only [itsOk, Bool.and_eq_true] at o1
      have hne : t ≠ t' := fun e => by rw [e, o1.1] at ht; cases ht
      simp only [It.put]
      exact upd_ne _ _ hne
    | blk t' sh =>
      simp only [It.put]
      split <;> rfl
theorem stOf_keepT {c : Nat} {W dead : List Nat} {its : List It} {x : Tys (shapes its)} (hok : itsOk s0 c W its = true) {t : Nat} (ht : memN W t = false) : (stOf s0 c W dead its x).tm t = s0.tm t := by
  rw [stOf_tm, putAll_tm ht hok]
  simp only [bs, ht]
theorem stOf_keepH {c : Nat} {W dead : List Nat} {its : List It} {x : Tys (shapes its)} {m : Nat} (hm : m < c) (hd : memN dead m = false) (htb : m ∉ tblks s0 its) : (stOf s0 c W dead its x).hp m = s0.hp m := by
  rcases stOf_hp_lt (s0 := s0) (c := c) (W := W) (dead := dead) (its := its) (x := x) hm with h | ⟨h, _⟩
  · rw [h]
    have : memN (dead ++ tblks s0 its) m = false := by
      rw [← Bool.not_eq_true, memN_iff, List.mem_append, not_or]
      exact ⟨(fun h => by rw [memN_iff.2 h] at hd; cases hd), htb⟩
    rw [this]
  · exact absurd h htb
theorem stOf_dead {c : Nat} {W dead : List Nat} {its : List It} {x : Tys (shapes its)} {m : Nat} (hm : m < c) (hd : memN dead m = true) : (stOf s0 c W dead its x).hp m ≠ none := by
  rcases stOf_hp_lt (s0 := s0) (c := c) (W := W) (dead := dead) (its := its) (x := x) hm with h | ⟨_, e, cs, h⟩
  · rw [h]
    have : memN (dead ++ tblks s0 its) m = true := memN_iff.2 (List.mem_append_left _ (memN_iff.1 hd))
    rw [this]; simp
  · rw [h]; simp
/-- What code leaves as it was. -/
def Keeps (c : Nat) (s : S) (wk : Nat → Bool) (D : List Nat) (r : St3) : Prop :=
  c ≤ r.2.1 ∧ (∀ t, memN D t = false → r.2.2.tm t = s.tm t) ∧ (∀ m, m < c → wk m = false → r.2.2.hp m = s.hp m)
theorem Keeps.refl (c : Nat) (s : S) (wk : Nat → Bool) (D : List Nat) (e : Ex) : Keeps c s wk D (e, c, s) := ⟨Nat.le_refl _, fun _ _ => rfl, fun _ _ _ => rfl⟩
theorem memN_append {l k : List Nat} {t : Nat} (h : memN (l ++ k) t = false) : memN l t = false ∧ memN k t = false := by
  constructor <;>
  · rw [← Bool.not_eq_true, memN_iff]
    intro hm
    have : memN (l ++ k) t = true := memN_iff.2 (by simp [hm])
    rw [h] at this; cases this
theorem Keeps.trans {c c' : Nat} {s s' : S} {wk : Nat → Bool} {D D' : List Nat} {e : Ex} {r : St3} (h : Keeps c s wk D (e, c', s')) (k : Keeps c' s' wk D' r) : Keeps c s wk (D ++ D') r :=
  ⟨Nat.le_trans h.1 k.1, fun t ht => (k.2.1 t (memN_append ht).2).trans (h.2.1 t (memN_append ht).1), fun m hm hw => (k.2.2 m (Nat.lt_of_lt_of_le hm h.1) hw).trans (h.2.2 m hm hw)⟩
theorem Keeps.wider {c : Nat} {s : S} {wk : Nat → Bool} {D D' : List Nat} {r : St3} (h : Keeps c s wk D r) (hD : ∀ t, memN D' t = false → memN D t = false) : Keeps c s wk D' r :=
  ⟨h.1, fun t ht => h.2.1 t (hD t ht), h.2.2⟩
theorem rtree_keeps {id : Nat} {ops : Array Oper} {draw : Bool} {wk : Nat → Bool} {c : Nat} {s : S} : ∀ {fuel : Nat} {orc : Nat → Option Bool}, (rtree P G N sg ops draw wk c s fuel orc).all (Keeps c s wk (dsts (.region id ops draw))) := by
  intro fuel
  induction fuel with
  | zero => intro orc; trivial
  | succ fuel ih =>
    intro orc
    simp only [rtree]
    split
    · rename_i L s' c' p hr
      split
      · refine T.all_needs ?_
        obtain ⟨h1, h2, h3⟩ := rrun_keeps hr
        refine ⟨h1, fun t ht => h2 t fun o ho hd => ?_, h3⟩
        have : memN (dsts (.region id ops draw)) t = true := memN_iff.2 (by simp only [dsts, List.mem_filterMap]; exact ⟨o, ho, hd⟩)
        rw [ht] at this; cases this
      · trivial
    · exact ⟨ih, ih⟩
    · trivial
theorem round_keeps {c : Nat} {s : S} {wk : Nat → Bool} {W dead : List Nat} {its : List It} {x : Tys (shapes its)} (hok : itsOk s c W its = true) (hw : mayWr wk s its dead = true) {n : Nat} {r : St3}
    (h : Keeps (c + n) (stOf s c W dead its x) (wkIn c s its) W r) : Keeps c s wk W r := by
  obtain ⟨h1, h2, h3⟩ := h
  refine ⟨by omega, fun t ht => (h2 t ht).trans (stOf_keepT hok ht), fun m hm hwm => ?_⟩
  have hnot : m ∉ dead ++ tblks s its := by
    intro hmem
    have := List.all_eq_true.1 hw m hmem
    rw [hwm] at this; cases this
  simp only [List.mem_append, not_or] at hnot
  rw [h3 m (by omega), stOf_keepH hm (by rw [← Bool.not_eq_true, memN_iff]; exact hnot.1) hnot.2]
  simp only [wkIn, Bool.or_eq_false_iff]
  exact ⟨by rw [← Bool.not_eq_true, Nat.ble_eq]; omega, by rw [← Bool.not_eq_true, memN_iff]; exact hnot.2⟩
theorem wkIn_congr {c : Nat} {s : S} {i1 i2 : List It} (h1 : (tblks s i2).all (memN (tblks s i1)) = true) (h2 : (tblks s i1).all (memN (tblks s i2)) = true) : wkIn c s i1 = wkIn c s i2 := by
  funext m
  simp only [wkIn]
  congr 1
  rw [Bool.eq_iff_iff, memN_iff, memN_iff]
  exact ⟨fun h => memN_iff.1 (List.all_eq_true.1 h2 m h), fun h => memN_iff.1 (List.all_eq_true.1 h1 m h)⟩
theorem mayWr_congr {wk : Nat → Bool} {s : S} {i1 i2 : List It} {dead : List Nat} (h1 : (tblks s i2).all (memN (tblks s i1)) = true) (h : mayWr wk s i1 dead = true) : mayWr wk s i2 dead = true := by
  simp only [mayWr, List.all_eq_true, List.mem_append] at h ⊢
  rintro m (hm | hm)
  · exact h m (.inl hm)
  · exact h m (.inr (memN_iff.1 (List.all_eq_true.1 h1 m hm)))
theorem enter_spec {c : Nat} {W : List Nat} {its : List It} {x : Tys (shapes its)} {p : List Prop} {dead : List Nat} (h : enter N c s W its = some (x, p, dead)) :
    ∃ cs q, gather s s its = some cs ∧ rdL s (shapes its) cs = some (x, p, q) ∧ dead = q.map (·.m) ∧ itsOk s c W its = true ∧ keepT s c W N = true ∧ keepH s c c = true ∧ nodupB (q.map (·.m)) = true ∧ (∀ r, r ∈ q → r.m < c ∧ r.m ∉ tblks s its) := by
  unfold enter at h
  split at h
  · rename_i cs hg
    split at h
    · rename_i x' p' q hr
      split at h
      · rename_i hok
        simp only [Option.some.injEq, Prod.mk.injEq] at h
        obtain ⟨rfl, rfl, rfl⟩ := h
        simp only [Bool.and_eq_true] at hok
        refine ⟨cs, q, hg, hr, rfl, hok.1.1.1.1, hok.1.1.1.2, hok.1.1.2, hok.1.2, fun r hrq => ?_⟩
        have := List.all_eq_true.1 hok.2 r hrq
        simp only [Bool.and_eq_true, Bool.not_eq_true', Nat.blt_eq] at this
        exact ⟨this.1, fun hm => by rw [memN_iff.2 hm] at this; cases this.2⟩
      · cases h
    · cases h
  · cases h
theorem exec_keeps {rx : RX} {rf : RF} (hxk : ∀ id ops draw wk c s, (rx ops draw wk c s).all (Keeps c s wk (dsts (.region id ops draw)))) (hfk : ∀ g ps x y wk c s, (rf g ps x y wk c s).all (Keeps c s wk [])) (fuel : Nat) : ∀ (code : Code) (wk : Nat → Bool) (c : Nat) (s : S), (exec G N an lv rx rf fuel code wk c s).all (Keeps c s wk (dsts code)) := by
  intro code
  induction code with
  | skip => intro wk c s; exact Keeps.refl _ _ _ _ _
  | region id ops draw => intro wk c s; exact hxk id ops draw wk c s
  | rangeFunc g ps x y => intro wk c s; exact hfk g ps x y wk c s
  | seq x y ihx ihy =>
    intro wk c s
    simp only [exec]
    refine T.all_bind (T.all_mono ?_ (ihx wk c s))
    rintro ⟨e, c', s'⟩ h
    cases e with
    | normal => exact T.all_mono (fun r hr => h.trans hr) (ihy wk c' s')
    | exit i => exact Keeps.wider h fun t ht => (memN_append ht).1
    | ret => exact Keeps.wider h fun t ht => (memN_append ht).1
  | cond x y z ihy ihz =>
    intro wk c s
    simp only [exec]
    split
    · exact T.all_mono (fun r hr => Keeps.wider hr fun t ht => (memN_append ht).1) (ihy wk c s)
    · exact T.all_mono (fun r hr => Keeps.wider hr fun t ht => (memN_append ht).2) (ihz wk c s)
    · exact ⟨T.all_mono (fun r hr => Keeps.wider hr fun t ht => (memN_append ht).1) (ihy wk c s), T.all_mono (fun r hr => Keeps.wider hr fun t ht => (memN_append ht).2) (ihz wk c s)⟩
    · trivial
  | block id x ih =>
    intro wk c s
    simp only [exec]
    refine T.all_bind (T.all_mono ?_ (ih wk c s))
    rintro ⟨e, c', s'⟩ h
    cases e with
    | normal => exact h
    | ret => exact h
    | exit i =>
      simp only
      split
      · exact h
      · exact h
  | loop x ih =>
    intro wk c s
    simp only [exec]
    split
    · have key : ∀ n c s, (loopN (exec G N an lv rx rf fuel x wk) n c s).all (Keeps c s wk (dsts (.loop x))) := by
        intro n
        induction n with
        | zero => intro c s; trivial
        | succ n ihn =>
          intro c s
          simp only [loopN]
          refine T.all_bind (T.all_mono ?_ (ih wk c s))
          rintro ⟨e, c', s'⟩ h
          cases e with
          | normal => exact T.all_mono (fun r hr => Keeps.wider (h.trans hr) fun t ht => by
              rw [← Bool.not_eq_true, memN_iff, List.mem_append, not_or]
              constructor <;>
              · intro hm
                have : memN (dsts (.loop x)) t = true := memN_iff.2 hm
                rw [ht] at this; cases this) (ihn c' s')
          | exit i => exact h
          | ret => exact h
      exact key fuel c s
    · rename_i i1 _
      split
      · rename_i x0 p dead he
        split
        · rename_i hw
          obtain ⟨cs, q, _, _, _, hok, _⟩ := enter_spec he
          refine T.all_needs fun y => T.all_bind (T.all_mono ?_ (ih _ _ _))
          rintro ⟨e, c', s'⟩ h
          cases e with
          | normal =>
            simp only [roundEnd]
            split
            · exact T.all_needs trivial
            · trivial
          | exit i => exact round_keeps hok hw h
          | ret => exact round_keeps hok hw h
        · trivial
      · trivial
    · rename_i i1 i2 _
      split
      · rename_i x0 p dead he
        split
        · rename_i hw
          simp only [Bool.and_eq_true] at hw
          obtain ⟨⟨hw, hok2⟩, hs1, hs2⟩ := hw
          obtain ⟨cs, q, _, _, _, hok, _⟩ := enter_spec he
          refine T.all_needs ⟨fun y => T.all_bind (T.all_mono ?_ (ih _ _ _)), fun y => T.all_bind (T.all_mono ?_ (ih _ _ _))⟩
          · rintro ⟨e, c', s'⟩ h
            cases e with
            | normal =>
              simp only [roundEnd2]
              split
              · exact T.all_needs trivial
              · split
                · exact T.all_needs trivial
                · trivial
            | exit i => exact round_keeps hok hw h
            | ret => exact round_keeps hok hw h
          · rw [wkIn_congr hs1 hs2]
            rintro ⟨e, c', s'⟩ h
            cases e with
            | normal =>
              simp only [roundEnd2]
              split
              · exact T.all_needs trivial
              · split
                · exact T.all_needs trivial
                · trivial
            | exit i => exact round_keeps hok2 (mayWr_congr hs1 hw) h
            | ret => exact round_keeps hok2 (mayWr_congr hs1 hw) h
        · trivial
      · trivial
  | exit id => intro wk c s; exact Keeps.refl _ _ _ _ _
  | ret => intro wk c s; exact Keeps.refl _ _ _ _ _
  | _ => intro wk c s; trivial
end
end Go.V
end

section
set_option linter.unusedVariables false
set_option linter.unusedSimpArgs false
namespace Go.V
open Go.RowKit (Below)
section
variable {P : Program} {G : GT} {N : Nat} {sg : FuncId → Option Sm} {an : An} {lv cz : Nat} {gw : World → Prop} {w0 : World} {rr : Option Nat}
/-- What the ways' ends say of frame and world. -/
def CP (cz : Nat) (w0 : World) (N : Nat) (ρ : Ren) (R : St3 → Prop) : Exit → Act → World → Prop
  | .normal, a, w => ∃ c s ρ', R (.normal, c, s) ∧ Rel w0 N ρ' s a w ∧ ρ.up cz ρ'
  | .exit id, a, w => ∃ c s ρ', R (.exit id, c, s) ∧ Rel w0 N ρ' s a w ∧ ρ.up cz ρ'
  | .ret, a, w => ∃ c s ρ', R (.ret, c, s) ∧ Rel w0 N ρ' s a w ∧ ρ.up cz ρ'
  | _, _, _ => False
theorem CP.mono {ρ ρ1 : Ren} {R R' : St3 → Prop} (hle : ρ.up cz ρ1) (h : ∀ r, R r → R' r) : ∀ e a w, CP cz w0 N ρ1 R e a w → CP cz w0 N ρ R' e a w := by
  intro e a w hc
  cases e <;> simp only [CP] at hc ⊢
  all_goals (try exact hc)
  all_goals (obtain ⟨c, s, ρ', h1, h2, h3⟩ := hc; exact ⟨c, s, ρ', h _ h1, h2, Ren.up_trans hle h3⟩)
structure Env (P : Program) (G : GT) (sg : FuncId → Option Sm) (gw : World → Prop) : Prop where
  mixed : P.follows .mixedOrders = true
  sums : ∀ f σ, sg f = some σ → SumOK P G gw f σ
  stable : ∀ w w', gw w → Below w.heap.size w w' → gw w'
theorem Amb.up {ρ ρ' : Ren} (h : Amb P G gw ρ) (hle : ρ.up cz ρ') : Amb P G gw ρ' where
  gl := fun g n F e => by
    obtain ⟨a, h1, h2, h3⟩ := h.gl g n F e
    exact ⟨a, h1, h2, fun j hj => by obtain ⟨y, hy, hr⟩ := h3 j hj; exact ⟨y, hle.κ _ _ _ hy, D.rel_mono hle.κ _ _ hr⟩⟩
  cl := fun φ x hx => CloOK.mono hle.κ (h.cl φ x (by rw [← hle.cl]; exact hx))
theorem Rel.drew {ρ : Ren} {s : S} {a : Act} {w : World} (h : Rel w0 N ρ s a w) : Rel w0 N ρ s a { w with drawn := w.drawn + 1 } where
  sz := h.sz
  bel := h.bel.trans ⟨rfl, rfl, rfl, Nat.le_refl _, fun _ _ => rfl⟩
  df := h.df
  tm := h.tm
  dom := h.dom
  hp := by
    intro m k hk
    obtain ⟨b, h1, h2, h3, h4⟩ := h.hp m k hk
    exact ⟨b, h1, h2, Blk.rel_mono (w := w) (Ren.le_refl _) rfl h3, h4⟩
  inj := h.inj
  im := h.im
  dis := h.dis
  old := h.old
  fx := h.fx
  lp := h.lp
  dfx := h.dfx
theorem rtree_sound (E : Env P G sg gw) (hgw0 : gw w0) {id : Nat} {ops : Array Oper} {draw : Bool} {wk : Nat → Bool} {c : Nat} {s : S} {R : St3 → Prop} {ρ : Ren} {a : Act} {w : World} (hrel : Rel w0 N ρ s a w) (hgl : Amb P G gw ρ) :
    ∀ {fuel : Nat} {orc : Nat → Option Bool}, (rtree P G N sg ops draw wk c s fuel orc).wp R → (Code.region id ops draw).wpIn (Fd rr) 0 P (CP cz w0 N ρ R) a w := by
  intro fuel
  induction fuel with
  | zero => intro orc h; exact h.elim
  | succ fuel ih =>
    intro orc h
    simp only [rtree] at h
    split at h
    · rename_i L s' c' p hr
      split at h
      · rename_i hok
        obtain ⟨hp, hR⟩ := T.wp_needs h
        have hQ : ∀ a' w' ρ', Rel w0 N ρ' s' a' w' → ρ.le ρ' → CP cz w0 N ρ R .normal a' w' := fun a' w' ρ' h1 h2 => ⟨c', s', ρ', hR, h1, h2.up⟩
        cases draw with
        | false => exact wpIn_region (region_seq E.sums E.stable hgw0 hr hp hrel hgl hQ)
        | true => exact wpIn_region_any E.mixed (region_any E.sums E.stable hgw0 hr hp (by simpa using hok) hrel.drew hgl hQ)
      · exact h.elim
    · rename_i k b _
      cases b with
      | true => exact ih (h.1 rfl)
      | false => exact ih (h.2 rfl)
    · exact h.elim
/-- A round that goes on begins again. -/
theorem again_sound {c n : Nat} {s : S} {W dead : List Nat} {its i2 : List It} {x : Tys (shapes its)} (hok : itsOk s c W its = true) (hok2 : itsOk s c W i2 = true) (hkT : keepT s c W N = true) (hkH : keepH s c c = true)
    (hdl : ∀ m, m ∈ dead → m < c) (hdt : ∀ m, m ∈ dead → m ∉ tblks s its) (hsame : ∀ m, m ∈ tblks s its ↔ m ∈ tblks s i2) {e : Ex} {c' : Nat} {s' : S} (hk : Keeps (c + n) (stOf s c W dead its x) (wkIn c s its) W (e, c', s'))
    {ρ : Ren} {a : Act} {w : World} (h : Rel w0 N ρ s' a w) {y : Tys (shapes i2)} {p : List Prop} (ha : again lv c s s' i2 = some (y, p)) (hlv : ∀ k l r, ρ.lp k = some (l, r) → k < lv) (hp : All p) : ∃ ρ', Rel w0 N ρ' (stOf s c W dead i2 y) a w ∧ ρ.up c ρ' := by
  unfold again at ha
  split at ha
  case h_2 => cases ha
  rename_i hst
  unfold again0 at ha
  split at ha
  · rename_i cs hg
    split at ha
    · rename_i y' p' q hr
      split at ha
      · rename_i hq
        simp only [Option.some.injEq, Prod.mk.injEq] at ha
        obtain ⟨rfl, rfl⟩ := ha
        simp only [Bool.and_eq_true] at hq
        obtain ⟨k1, k2, k3⟩ := hk
        have hwk : ∀ m, m < c → m ∉ tblks s its → wkIn c s its m = false := by
          intro m hm ht
          simp only [wkIn, Bool.or_eq_false_iff]
          exact ⟨by rw [← Bool.not_eq_true, Nat.ble_eq]; omega, by rw [← Bool.not_eq_true, memN_iff]; exact ht⟩
        refine reload h hok2 hkT hkH (fun m hm ht => hdt m hm ((hsame m).2 ht)) (fun t ht => (k2 t ht).trans (stOf_keepT hok ht)) ?_ ?_ hg hr hp hq.1 (fun k l r hk => stSame_at hst (hlv k l r hk)) ?_
        · intro m hm hd ht
          have ht' : m ∉ tblks s its := fun h => ht ((hsame m).1 h)
          exact (k3 m (by omega) (hwk m hm ht')).trans (stOf_keepH hm hd ht')
        · intro m hm hd
          have ht' := hdt m (memN_iff.1 hd)
          have := k3 m (by omega) (hwk m hm ht')
          simp only at this
          rw [this]; exact stOf_dead hm hd
        · intro r hr
          have := List.all_eq_true.1 hq.2 r hr
          exact .inl (by simpa [Nat.ble_eq] using this)
      · cases ha
    · cases ha
  · cases ha
theorem enter_sound {c : Nat} {s : S} {W : List Nat} {its : List It} {x : Tys (shapes its)} {p : List Prop} {dead : List Nat} (he : enter N c s W its = some (x, p, dead)) (hp : All p)
    {ρ : Ren} {a : Act} {w : World} (h : Rel w0 N ρ s a w) : itsOk s c W its = true ∧ keepT s c W N = true ∧ keepH s c c = true ∧ (∀ m, m ∈ dead → m < c) ∧ (∀ m, m ∈ dead → m ∉ tblks s its) ∧ ∃ ρ', Rel w0 N ρ' (stOf s c W dead its x) a w ∧ ρ.up c ρ' := by
  obtain ⟨cs, q, hg, hr, rfl, hok, hkT, hkH, hnd, hall⟩ := enter_spec he
  have h1 : ∀ m, m ∈ q.map (·.m) → m < c := by
    intro m hm
    obtain ⟨r, hr, rfl⟩ := List.mem_map.1 hm
    exact (hall r hr).1
  have h2 : ∀ m, m ∈ q.map (·.m) → m ∉ tblks s its := by
    intro m hm
    obtain ⟨r, hr, rfl⟩ := List.mem_map.1 hm
    exact (hall r hr).2
  refine ⟨hok, hkT, hkH, h1, h2, reload h hok hkT hkH h2 (fun _ _ => rfl) (fun _ _ _ _ => rfl) ?_ hg hr hp hnd (fun _ _ _ _ => rfl) ?_⟩
  · intro m hm hd
    obtain ⟨r, hrq, rfl⟩ := List.mem_map.1 (memN_iff.1 hd)
    obtain ⟨⟨k, hk, _⟩, _⟩ := rdL_blk (ρ' := ρ) h (fun _ _ _ h => h) hr hp r hrq
    rw [hk]; simp
  · intro r hr
    exact .inr (List.mem_map_of_mem hr)
theorem lv_up {ρ ρ' : Ren} (h : ∀ k l r, ρ.lp k = some (l, r) → k < lv) (hle : ρ.up cz ρ') : ∀ k l r, ρ'.lp k = some (l, r) → k < lv := by
  intro k l r hk
  rw [hle.lp] at hk
  exact h k l r hk
/-- What is asked of what runs regions and loops over functions. K: what is known of the surroundings all the time. -/
structure XOK (P : Program) (G : GT) (N : Nat) (gw : World → Prop) (lv cz : Nat) (w0 : World) (rr : Option Nat) (K : Ren → Prop) (rx : RX) (rf : RF) : Prop where
  kA : ∀ {ρ}, K ρ → Amb P G gw ρ
  kL : ∀ {ρ}, K ρ → ∀ k l r, ρ.lp k = some (l, r) → k < lv
  kU : ∀ {ρ ρ'}, K ρ → ρ.up cz ρ' → K ρ'
  xk : ∀ id ops draw wk c s, (rx ops draw wk c s).all (Keeps c s wk (dsts (.region id ops draw)))
  fk : ∀ g ps x y wk c s, (rf g ps x y wk c s).all (Keeps c s wk [])
  xs : ∀ {id ops draw wk c s R ρ a w}, Rel w0 N ρ s a w → K ρ → cz ≤ c → (rx ops draw wk c s).wp R → (Code.region id ops draw).wpIn (Fd rr) 0 P (CP cz w0 N ρ R) a w
  fs : ∀ {g ps x y wk c s R ρ a w}, Rel w0 N ρ s a w → K ρ → cz ≤ c → (rf g ps x y wk c s).wp R → (Code.rangeFunc g ps x y).wpIn (Fd rr) 0 P (CP cz w0 N ρ R) a w
/-- Regions as they are; no loops over functions. -/
def rx0 (P : Program) (G : GT) (N : Nat) (sg : FuncId → Option Sm) (fuel : Nat) : RX := fun ops draw wk c s => rtree P G N sg ops draw wk c s fuel (fun _ => none)
def rf0 : RF := fun _ _ _ _ _ _ _ => .fail
theorem xok0 (E : Env P G sg gw) (hgw0 : gw w0) {fuel : Nat} : XOK P G N gw lv cz w0 rr (fun ρ => Amb P G gw ρ ∧ ∀ k l r, ρ.lp k = some (l, r) → k < lv) (rx0 P G N sg fuel) rf0 where
  kA := fun h => h.1
  kL := fun h => h.2
  kU := fun h hle => ⟨h.1.up hle, lv_up h.2 hle⟩
  xk := fun id ops draw wk c s => rtree_keeps
  fk := fun _ _ _ _ _ _ _ => trivial
  xs := fun hrel hgl _ h => rtree_sound E hgw0 hrel hgl.1 h
  fs := fun _ _ _ h => h.elim
theorem exec_sound {K : Ren → Prop} {rx : RX} {rf : RF} (E : XOK P G N gw lv cz w0 rr K rx rf) (fuel : Nat) : ∀ (code : Code) {wk : Nat → Bool} {c : Nat} {s : S} {R : St3 → Prop} {ρ : Ren} {a : Act} {w : World}, Rel w0 N ρ s a w → K ρ → cz ≤ c →
    (exec G N an lv rx rf fuel code wk c s).wp R → code.wpIn (Fd rr) 0 P (CP cz w0 N ρ R) a w := by
  intro code
  induction code with
  | skip => intro wk c s R ρ a w hrel hgl hcz h; exact wpIn_skip ⟨c, s, ρ, h, hrel, Ren.up_refl _⟩
  | region id ops draw => intro wk c s R ρ a w hrel hgl hcz h; exact E.xs hrel hgl hcz h
  | rangeFunc g ps x y => intro wk c s R ρ a w hrel hgl hcz h; exact E.fs hrel hgl hcz h
  | seq x y ihx ihy =>
    intro wk c s R ρ a w hrel hgl hcz h
    simp only [exec] at h
    have h1 := T.wp_all (T.wp_bind h) (exec_keeps E.xk E.fk fuel x _ _ _)
    refine wpIn_seq (wpIn_mono (ihx hrel hgl hcz h1) ?_)
    intro e a' w' hc
    cases e <;> simp only [CP, Exit.then] at hc ⊢
    case normal =>
      obtain ⟨c', s', ρ', ⟨hr, hk, _⟩, hrel', hle⟩ := hc
      exact wpIn_mono (ihy hrel' (E.kU hgl hle) (Nat.le_trans hcz hk) hr) (CP.mono hle (fun _ h => h))
    case exit id => obtain ⟨c', s', ρ', ⟨hr, _⟩, h2⟩ := hc; exact ⟨c', s', ρ', hr, h2⟩
    case ret => obtain ⟨c', s', ρ', ⟨hr, _⟩, h2⟩ := hc; exact ⟨c', s', ρ', hr, h2⟩
  | cond x y z ihy ihz =>
    intro wk c s R ρ a w hrel hgl hcz h
    simp only [exec] at h
    have hview : View G ρ s a w := ⟨fun t v ht => (hrel.tm t v ht).2, fun m k hk => by obtain ⟨b, h1, h2, h3, _⟩ := hrel.hp m k hk; exact ⟨b, h1, h2, h3⟩, hrel.im, (E.kA hgl).gl⟩
    split at h
    · rename_i hl; exact wpIn_cond_true (look_rel hview hl) (ihy hrel hgl hcz h)
    · rename_i hl; exact wpIn_cond_false (look_rel hview hl) (ihz hrel hgl hcz h)
    · rename_i b hl
      exact wpIn_cond_split (look_rel hview hl) (fun hb => ihy hrel hgl hcz (h.1 hb)) (fun hb => ihz hrel hgl hcz (h.2 hb))
    · exact h.elim
  | block id x ih =>
    intro wk c s R ρ a w hrel hgl hcz h
    simp only [exec] at h
    have h1 := T.wp_bind h
    refine wpIn_block (wpIn_mono (ih hrel hgl hcz h1) ?_)
    intro e a' w' hc
    cases e <;> simp only [CP, Exit.inBlock] at hc ⊢
    case normal => exact hc
    case ret => exact hc
    case exit i =>
      obtain ⟨c', s', ρ', hr, hrel', hle⟩ := hc
      split at hr
      · rename_i hb
        have := Nat.eq_of_beq_eq_true hb
        rw [if_pos this]
        exact ⟨c', s', ρ', hr, hrel', hle⟩
      · rename_i hb
        rw [if_neg (by intro e; subst e; simp at hb)]
        exact ⟨c', s', ρ', hr, hrel', hle⟩
  | loop x ih =>
    intro wk c s R ρ a w hrel hgl hcz h
    simp only [exec] at h
    split at h
    · have key : ∀ n c s, cz ≤ c → (loopN (exec G N an lv rx rf fuel x wk) n c s).wp R → ∀ ρ1 a w, Rel w0 N ρ1 s a w → ρ.up cz ρ1 → Code.roundsIn (Fd rr) 0 P x (CP cz w0 N ρ R) n a w := by
        intro n
        induction n with
        | zero => intro c s _ h; exact h.elim
        | succ n ihn =>
          intro c s hcz h ρ1 a w hrel1 hle1
          simp only [loopN] at h
          have h1 := T.wp_all (T.wp_bind h) (exec_keeps E.xk E.fk fuel x _ _ _)
          rw [roundsIn_succ]
          refine wpIn_mono (ih hrel1 (E.kU hgl hle1) hcz h1) ?_
          intro e a' w' hc
          cases e <;> simp only [CP, Exit.then] at hc ⊢
          case normal =>
            obtain ⟨c', s', ρ', ⟨hr, hkc, _⟩, hrel', hle⟩ := hc
            exact ihn c' s' (Nat.le_trans hcz hkc) hr ρ' a' w' hrel' (Ren.up_trans hle1 hle)
          case exit id => obtain ⟨c', s', ρ', ⟨hr, _⟩, hrel', hle⟩ := hc; exact ⟨c', s', ρ', hr, hrel', Ren.up_trans hle1 hle⟩
          case ret => obtain ⟨c', s', ρ', ⟨hr, _⟩, hrel', hle⟩ := hc; exact ⟨c', s', ρ', hr, hrel', Ren.up_trans hle1 hle⟩
      exact wpIn_loop_rounds fuel (key fuel c s hcz h ρ a w hrel (Ren.up_refl _))
    · rename_i i1 _
      split at h
      · rename_i x0 p dead he
        split at h
        · rename_i hw
          obtain ⟨hp, I, μ, hI0, hI⟩ := T.wp_needs h
          obtain ⟨hok, hkT, hkH, hdl, hdt, ρ1, hrel1, hup1⟩ := enter_sound he hp hrel
          have key : ∀ n y, I y → μ y < n → ∀ ρ1 a w, Rel w0 N ρ1 (stOf s c (dsts x) dead i1 y) a w → ρ.up cz ρ1 → Code.roundsIn (Fd rr) 0 P x (CP cz w0 N ρ R) n a w := by
            intro n
            induction n with
            | zero => intro y _ h; omega
            | succ n ihn =>
              intro y hIy hlt ρ1 a w hrel1 hle1
              have h1 := T.wp_all (T.wp_bind (hI y hIy)) (exec_keeps E.xk E.fk fuel x _ _ _)
              rw [roundsIn_succ]
              refine wpIn_mono (ih hrel1 (E.kU hgl hle1) (Nat.le_trans hcz (Nat.le_add_right _ _)) h1) ?_
              intro e a' w' hc
              cases e <;> simp only [CP, Exit.then] at hc ⊢
              case normal =>
                obtain ⟨c', s', ρ', ⟨hr, hkp⟩, hrel', hle⟩ := hc
                simp only [roundEnd] at hr
                split at hr
                · rename_i y2 p2 ha
                  obtain ⟨hp2, hI2, hμ2⟩ := T.wp_needs hr
                  obtain ⟨ρ2, hrel2, hup2⟩ := again_sound hok hok hkT hkH hdl hdt (fun m => Iff.rfl) hkp hrel' ha (E.kL (E.kU (E.kU hgl hle1) hle)) hp2
                  exact ihn y2 hI2 (by omega) ρ2 a' w' hrel2 (Ren.up_trans hle1 (Ren.up_trans hle (hup2.less hcz)))
                · exact hr.elim
              case exit id => obtain ⟨c', s', ρ', ⟨hr, _⟩, hrel', hle⟩ := hc; exact ⟨c', s', ρ', hr, hrel', Ren.up_trans hle1 hle⟩
              case ret => obtain ⟨c', s', ρ', ⟨hr, _⟩, hrel', hle⟩ := hc; exact ⟨c', s', ρ', hr, hrel', Ren.up_trans hle1 hle⟩
          exact wpIn_loop_rounds _ (key (μ x0 + 1) x0 hI0 (by omega) ρ1 a w hrel1 (hup1.less hcz))
        · exact h.elim
      · exact h.elim
    · rename_i i1 i2 _
      split at h
      · rename_i x0 p dead he
        split at h
        · rename_i hw
          simp only [Bool.and_eq_true] at hw
          obtain ⟨⟨hw, hok2⟩, hs1, hs2⟩ := hw
          obtain ⟨hp, I, μ, hI0, hI1, hI2⟩ := T.wp_needs h
          obtain ⟨hok, hkT, hkH, hdl, hdt, ρ1, hrel1, hup1⟩ := enter_sound he hp hrel
          have hsame : ∀ m, m ∈ tblks s i1 ↔ m ∈ tblks s i2 := fun m => ⟨fun h => memN_iff.1 (List.all_eq_true.1 hs2 m h), fun h => memN_iff.1 (List.all_eq_true.1 hs1 m h)⟩
          have hdt2 : ∀ m, m ∈ dead → m ∉ tblks s i2 := fun m hm ht => hdt m hm ((hsame m).2 ht)
          have hwk2 := wkIn_congr (c := c) hs1 hs2
          have key : ∀ n y, I y → μ y < n → ∀ ρ1 a w, Rel w0 N ρ1 (match y with | .inl y => stOf s c (dsts x) dead i1 y | .inr y => stOf s c (dsts x) dead i2 y) a w → ρ.up cz ρ1 → Code.roundsIn (Fd rr) 0 P x (CP cz w0 N ρ R) n a w := by
            intro n
            induction n with
            | zero => intro y _ h; omega
            | succ n ihn =>
              -- what a round's end leads to
              have fin : ∀ (its : List It) (y : Tys (shapes its)) (m : Nat), itsOk s c (dsts x) its = true → (∀ m, m ∈ dead → m ∉ tblks s its) → (∀ m, m ∈ tblks s its ↔ m ∈ tblks s i1) → (∀ m, m ∈ tblks s its ↔ m ∈ tblks s i2) → ∀ (μy : Nat), μy < n + 1 → ∀ ρ1 : Ren, ρ.up cz ρ1 →
                  ∀ e a' w', CP cz w0 N ρ1 (fun r => ((roundEnd2 lv c s i1 i2 r).wp (LoopP I μ μy R)) ∧ Keeps (c + m) (stOf s c (dsts x) dead its y) (wkIn c s its) (dsts x) r) e a' w' →
                  Exit.then (Code.roundsIn (Fd rr) 0 P x (CP cz w0 N ρ R) n) (CP cz w0 N ρ R) e a' w' := by
                intro its y m hoki hdti hsi1 hsi2 μy hlt ρ1 hle1 e a' w' hc
                cases e <;> simp only [CP, Exit.then] at hc ⊢
                case normal =>
                  obtain ⟨c', s', ρ', ⟨hr, hkp⟩, hrel', hle⟩ := hc
                  simp only [roundEnd2] at hr
                  split at hr
                  · rename_i y2 p2 ha
                    obtain ⟨hp2, hI2, hμ2⟩ := T.wp_needs hr
                    obtain ⟨ρ2, hrel2, hup2⟩ := again_sound hoki hok hkT hkH hdl hdti hsi1 hkp hrel' ha (E.kL (E.kU (E.kU hgl hle1) hle)) hp2
                    exact ihn (.inl y2) hI2 (by omega) ρ2 a' w' hrel2 (Ren.up_trans hle1 (Ren.up_trans hle (hup2.less hcz)))
                  · split at hr
                    · rename_i y2 p2 ha
                      obtain ⟨hp2, hI2, hμ2⟩ := T.wp_needs hr
                      obtain ⟨ρ2, hrel2, hup2⟩ := again_sound hoki hok2 hkT hkH hdl hdti hsi2 hkp hrel' ha (E.kL (E.kU (E.kU hgl hle1) hle)) hp2
                      exact ihn (.inr y2) hI2 (by omega) ρ2 a' w' hrel2 (Ren.up_trans hle1 (Ren.up_trans hle (hup2.less hcz)))
                    · exact hr.elim
                case exit id => obtain ⟨c', s', ρ', ⟨hr, _⟩, hrel', hle⟩ := hc; exact ⟨c', s', ρ', hr, hrel', Ren.up_trans hle1 hle⟩
                case ret => obtain ⟨c', s', ρ', ⟨hr, _⟩, hrel', hle⟩ := hc; exact ⟨c', s', ρ', hr, hrel', Ren.up_trans hle1 hle⟩
              intro y hIy hlt ρ1 a w hrel1 hle1
              rw [roundsIn_succ]
              cases y with
              | inl y =>
                have h1 := T.wp_all (T.wp_bind (hI1 y hIy)) (exec_keeps E.xk E.fk fuel x _ _ _)
                exact wpIn_mono (ih hrel1 (E.kU hgl hle1) (Nat.le_trans hcz (Nat.le_add_right _ _)) h1) (fin i1 y _ hok hdt (fun m => Iff.rfl) hsame _ hlt ρ1 hle1)
              | inr y =>
                have h1 := T.wp_all (T.wp_bind (hI2 y hIy)) (exec_keeps E.xk E.fk fuel x _ _ _)
                rw [hwk2] at h1
                exact wpIn_mono (ih hrel1 (E.kU hgl hle1) (Nat.le_trans hcz (Nat.le_add_right _ _)) h1) (fin i2 y _ hok2 hdt2 (fun m => (hsame m).symm) (fun m => Iff.rfl) _ hlt ρ1 hle1)
          exact wpIn_loop_rounds _ (key (μ (.inl x0) + 1) (.inl x0) hI0 (by omega) ρ1 a w hrel1 (hup1.less hcz))
        · exact h.elim
      · exact h.elim
  | exit id => intro wk c s R ρ a w hrel hgl hcz h; exact wpIn_exit ⟨c, s, ρ, h, hrel, Ren.up_refl _⟩
  | ret => intro wk c s R ρ a w hrel hgl hcz h; exact wpIn_ret ⟨c, s, ρ, h, hrel, Ren.up_refl _⟩
  | _ => intro wk c s R ρ a w hrel hgl hcz h; exact h.elim
end
end Go.V
end

section
set_option linter.unusedVariables false
set_option linter.unusedSimpArgs false
namespace Go.V
open Go.RowKit (Below)
/-- An argument: a cell, a struct or array, the address of cells, a function's value. -/
inductive Ag where
  | c (d : D)
  | agg (ds : List D)
  | ptr (n : Nat) (F : Nat → D)
  | clo (φ : Clo)
def Ag.rel (P : Program) (gw : World → Prop) (κ : Still) : Ag → Value → Prop
  | .c d, x => d.rel κ x
  | .agg ds, x => ∃ xs : List Value, F2 (D.rel κ) ds xs ∧ x = .agg xs.toArray
  | .ptr n F, x => ∃ a : Addr, x = .pointer (some a) ∧ a.spot = none ∧ ∀ j, j < n → ∃ y, κ a.block (a.off + j) = some y ∧ (F j).rel κ y
  | .clo φ, x => CloOK P gw κ φ x
/-- The package-level variables lie still. -/
def GIn (G : GT) (κ : Still) : Prop := ∀ g n F, G g = some (n, F) → ∀ j, j < n → ∃ y, κ g (0 + j) = some y ∧ (F j).rel κ y
theorem GIn.mono {G : GT} {κ κ' : Still} (h : κ.le κ') (hg : GIn G κ) : GIn G κ' := by
  intro g n F e j hj
  obtain ⟨y, hy, hr⟩ := hg g n F e j hj
  exact ⟨y, h _ _ _ hy, D.rel_mono h _ _ hr⟩
def resRel (κ : Still) : List Ar → Value → Prop
  | [r], x => r.rel κ x
  | rs, x => ∃ ys : List Value, F2 (Ar.rel κ) rs ys ∧ x = .tuple ys.toArray
abbrev DomF := List Ag → Option (List Prop × List Ar)
/-- What a call comes to. -/
def Back (κ : Still) (r : List Ar) (w : World) (e : Ending) (w' : World) : Prop :=
  ∃ x κ', e = .returned x ∧ κ.le κ' ∧ Lies κ' w' ∧ (∀ b o v, κ' b o = some v → κ b o = some v ∨ w.heap.size ≤ b) ∧ resRel κ' r x ∧ Below w.heap.size w w'
/-- THE CONTRACT of a function. -/
def FOK (P : Program) (G : GT) (gw : World → Prop) (f : FuncId) (dom : DomF) : Prop :=
  ∀ ags p r, dom ags = some (p, r) → All p → ∀ κ w xs, gw w → Lies κ w → GIn G κ → F2 (Ag.rel P gw κ) ags xs → Calls P f xs.toArray w (Back κ r w)
/-- How many cells an element has. -/
def stBy (len cap : Nat) : Nat → Option Nat
  | 0 => none
  | k + 1 => match Nat.beq (cap * (k + 1)) len with | true => some (k + 1) | false => stBy len cap k
/-- What is lent: blocks that may be laid to rest; whether there are others. -/
abbrev Lent := List (Nat × Blk) × Bool
def Lent.join (a b : Lent) : Lent := (a.1 ++ b.1, a.2 || b.2)
/-- A cell as still data, blocks of the call's own lent. -/
def lend (hp : Nat → Option Blk) : C → Option (D × Lent × List Prop)
  | .gsl m len => (match hp m with
    | some (.row _ st L F) => some (.sl true len st F, ([(m, .fz st L F)], false), [len ≤ L])
    | some (.fz st L F) => some (.sl true len st F, ([], false), [len ≤ L])
    | _ => none)
  | .sl m 0 n cap => (match hp m with
    | some (.known _ cs) => (match toDs cs, cap with
      | some _, 0 => (match n with | 0 => some (.sl true 0 0 (fun _ _ => .nilp), ([], false), []) | _ + 1 => none)
      | some ds, cap + 1 => (match stBy cs.length (cap + 1) 24, Nat.ble n (cap + 1) with
        | some st, true => some (.sl true n st (fun i j => ds.getD (i * st + j) .nilp), ([(m, .dead)], false), [])
        | _, _ => none)
      | none, _ => none)
    | _ => none)
  | x => (match toD x with | some d => some (d, ([], false), []) | none => none)
def lends (hp : Nat → Option Blk) : List C → Option (List D × Lent × List Prop)
  | [] => some ([], ([], false), [])
  | c :: l => match lend hp c, lends hp l with | some (d, b, p), some (ds, b', p') => some (d :: ds, b.join b', p ++ p') | _, _ => none
def agOf (hp : Nat → Option Blk) : A → Option (Ag × Lent × List Prop)
  | .agg cs => (match lends hp cs with | some (ds, b, p) => some (.agg ds, b, p) | none => none)
  | .c (.ptr m 0) => (match hp m with
    | some (.known _ cs) => (match toDs cs with | some ds => some (.ptr ds.length (fun j => ds.getD j .nilp), ([], true), []) | none => none)
    | _ => none)
  | .c (.ip n F) => some (.ptr n F, ([], false), [])
  | .c (.clo φ) => some (.clo φ, ([], false), [])
  | .c x => (match lend hp x with | some (d, b, p) => some (.c d, b, p) | none => none)
def agsOf (hp : Nat → Option Blk) : List A → Option (List Ag × Lent × List Prop)
  | [] => some ([], ([], false), [])
  | a :: l => match agOf hp a, agsOf hp l with | some (d, b, p), some (ds, b', p') => some (d :: ds, b.join b', p ++ p') | _, _ => none
def D.plain : D → Bool
  | .sl .. => false
  | _ => true
def Ar.plain : Ar → Bool
  | .c d => d.plain
  | .agg ds => ds.all D.plain
theorem D.plain_rel {κ κ' : Still} {d : D} (h : d.plain = true) {x : Value} (r : d.rel κ x) : d.rel κ' x := by
  cases d with
  | sl => cases h
  | _ => exact r
theorem ds_plain {κ κ' : Still} : ∀ {ds : List D} {xs : List Value}, ds.all D.plain = true → F2 (D.rel κ) ds xs → F2 (D.rel κ') ds xs
  | _, _, _, .nil => .nil
  | _, _, h, .cons r rs => by
    simp only [List.all_cons, Bool.and_eq_true] at h
    exact .cons (D.plain_rel h.1 r) (ds_plain h.2 rs)
theorem Ar.plain_rel {κ κ' : Still} {d : Ar} (h : d.plain = true) {x : Value} (r : d.rel κ x) : d.rel κ' x := by
  cases d with
  | c d => exact D.plain_rel h r
  | agg ds => obtain ⟨xs, hf, e⟩ := r; exact ⟨xs, ds_plain h hf, e⟩
theorem ars_plain {κ κ' : Still} : ∀ {ds : List Ar} {xs : List Value}, ds.all Ar.plain = true → F2 (Ar.rel κ) ds xs → F2 (Ar.rel κ') ds xs
  | _, _, _, .nil => .nil
  | _, _, h, .cons r rs => by
    simp only [List.all_cons, Bool.and_eq_true] at h
    exact .cons (Ar.plain_rel h.1 r) (ars_plain h.2 rs)
theorem res_plain {κ κ' : Still} {rs : List Ar} (h : rs.all Ar.plain = true) {x : Value} (r : resRel κ rs x) : resRel κ' rs x := by
  match rs, h, r with
  | [r0], h, r => simp only [List.all_cons, List.all_nil, Bool.and_true] at h; exact Ar.plain_rel h r
  | [], h, ⟨ys, hf, e⟩ => cases hf; exact ⟨[], .nil, e⟩
  | a :: b :: l, h, ⟨ys, hf, e⟩ => exact ⟨ys, ars_plain h hf, e⟩
def vOf : List Ar → V
  | [r] => .a (ofAr r)
  | rs => .tup (rs.map ofAr)
theorem f2_ofAr {ρ : Ren} : ∀ {rs : List Ar} {xs : List Value}, F2 (Ar.rel ρ.κ) rs xs → F2 (A.rel ρ) (rs.map ofAr) xs
  | _, _, .nil => .nil
  | _, _, .cons r rs => .cons (ofAr_rel r) (f2_ofAr rs)
theorem vOf_rel {ρ : Ren} {rs : List Ar} {x : Value} (h : resRel ρ.κ rs x) : (vOf rs).rel ρ x := by
  match rs, h with
  | [r], h => exact ofAr_rel h
  | [], ⟨ys, hf, e⟩ => exact ⟨ys, f2_ofAr hf, e⟩
  | a :: b :: l, ⟨ys, hf, e⟩ => exact ⟨ys, f2_ofAr hf, e⟩
def fokSm (dom : DomF) : Sm := fun args hp _ =>
  match agsOf hp args with
  | some (ags, bw, p0) => (match dom ags with
    | some (p, r) => (match r.all Ar.plain, bw.2 with
      | true, _ => some (p0 ++ p, vOf r, [], [])
      | false, false => some (p0 ++ p, vOf r, [], bw.1)
      | false, true => none)
    | none => none)
  | none => none
section
variable {P : Program} {G : GT} {gw : World → Prop}
theorem lend_loc {hp hp' : Nat → Option Blk} {c : C} (h : ∀ m, m ∈ c.names → hp m = hp' m) : lend hp c = lend hp' c := by
  cases c with
  | gsl m len => simp only [lend, h m (by simp [C.names])]
  | sl m off n cap =>
    cases off with
    | zero => simp only [lend, h m (by simp [C.names])]
    | succ off => rfl
  | _ => rfl
theorem lends_loc {hp hp' : Nat → Option Blk} : ∀ {cs : List C}, (∀ m, m ∈ cs.flatMap C.names → hp m = hp' m) → lends hp cs = lends hp' cs := by
  intro cs
  induction cs with
  | nil => intro _; rfl
  | cons c cs ih =>
    intro h
    simp only [lends]
    rw [lend_loc (hp := hp) (hp' := hp') (fun m hm => h m (by simp [hm])), ih (fun m hm => h m (by rw [List.flatMap_cons]; exact List.mem_append_right _ hm))]
theorem agsOf_loc {hp hp' : Nat → Option Blk} : ∀ {args : List A}, (∀ m, m ∈ namesL args → hp m = hp' m) → agsOf hp args = agsOf hp' args := by
  intro args
  induction args with
  | nil => intro _; rfl
  | cons a l ih =>
    intro h
    have h1 : agOf hp a = agOf hp' a := by
      cases a with
      | agg cs =>
        simp only [agOf]
        rw [lends_loc (hp := hp) (hp' := hp') (fun m hm => h m (by simp only [namesL]; exact List.mem_append_left _ hm))]
      | c x =>
        have hx : ∀ m, m ∈ x.names → hp m = hp' m := by
          intro m hm
          refine h m ?_
          simp only [namesL]
          refine List.mem_append_left _ ?_
          cases x <;> exact hm
        cases x with
        | ptr m off =>
          cases off with
          | zero => simp only [agOf, hx m (by simp [C.names])]
          | succ off => rfl
        | gsl m len => simp only [agOf]; rw [lend_loc hx]
        | sl m off n cap => simp only [agOf]; rw [lend_loc hx]
        | _ => rfl
    simp only [agsOf, h1, ih (fun m hm => h m (by simp only [namesL]; exact List.mem_append_right _ hm))]
/-- The whole heap, as it lies. -/
def fullK (w : World) : Still := fun b o => if b < w.heap.size then w.cell? ⟨b, o, none⟩ else none
theorem fullK_lies (w : World) : Lies (fullK w) w := by
  intro b o v h
  unfold fullK at h
  split at h
  · rename_i hb; exact ⟨hb, h⟩
  · cases h
theorem le_fullK {κ : Still} {w : World} (h : Lies κ w) : κ.le (fullK w) := by
  intro b o v hv
  obtain ⟨h1, h2⟩ := h b o v hv
  unfold fullK; rw [if_pos h1]; exact h2
theorem fullK_cell {w : World} {b o : Nat} {v : Value} (h : w.cell? ⟨b, o, none⟩ = some v) : fullK w b o = some v := by
  have hb : b < w.heap.size := by
    apply Classical.byContradiction
    intro hn
    have hs : w.heap[b]? = none := Array.getElem?_eq_none (by omega)
    simp [World.cell?, hs] at h
  unfold fullK; rw [if_pos hb]; exact h
/-- What is lent lies so. -/
def LentOK (ρ : Ren) (w : World) (κ : Still) (l : Lent) : Prop :=
  (∀ q, q ∈ l.1 → ∀ b, ρ q.1 = some b → ∀ o v, w.cell? ⟨b.1, o, none⟩ = some v → κ b.1 o = some v) ∧ (l.2 = true → κ = fullK w)
theorem LentOK.join {ρ : Ren} {w : World} {κ : Still} {a b : Lent} (h : LentOK ρ w κ (a.join b)) : LentOK ρ w κ a ∧ LentOK ρ w κ b :=
  ⟨⟨fun q hq => h.1 q (List.mem_append_left _ hq), fun e => h.2 (by simp [Lent.join, e])⟩, ⟨fun q hq => h.1 q (List.mem_append_right _ hq), fun e => h.2 (by simp [Lent.join, e])⟩⟩
theorem lentFull (ρ : Ren) (w : World) (l : Lent) : LentOK ρ w (fullK w) l := ⟨fun _ _ _ _ _ _ h => fullK_cell h, fun _ => rfl⟩
theorem lend_rel {ρ : Ren} {hp : Nat → Option Blk} {w : World} (hl : Lies ρ.κ w) (hhp : ∀ m k, hp m = some k → ∃ b, ρ m = some b ∧ b.1 < w.heap.size ∧ k.rel ρ b w) {κ : Still} (hle : ρ.κ.le κ) {c : C} {d : D} {b : Lent} {p : List Prop}
    (h : lend hp c = some (d, b, p)) (hb : LentOK ρ w κ b) (hpp : All p) {x : Value} (r : c.rel ρ x) : d.rel κ x := by
  unfold lend at h
  split at h
  · rename_i m len
    split at h
    · rename_i e st L F hm
      simp only [Option.some.injEq, Prod.mk.injEq] at h
      obtain ⟨rfl, rfl, rfl⟩ := h
      obtain ⟨bb, hbb, rfl⟩ := r
      obtain ⟨b', hb', hlt, xs, hh, g1, g2, g3, g4⟩ := hhp m _ hm
      rw [hbb] at hb'; cases hb'
      have hL := hpp.1
      refine .inr ⟨⟨bb.1, 0, none⟩, bb.2, rfl, by omega, fun _ => rfl, fun i j hi hj => ?_⟩
      obtain ⟨y, hy, hr⟩ := g4 i j (by omega) hj
      refine ⟨y, ?_, D.rel_mono hle _ _ hr⟩
      rw [Nat.zero_add]
      exact hb.1 (m, .fz st L F) (by simp) bb hbb _ _ (by simp [World.cell?, hh, hy])
    · rename_i st L F hm
      simp only [Option.some.injEq, Prod.mk.injEq] at h
      obtain ⟨rfl, rfl, rfl⟩ := h
      obtain ⟨bb, hbb, rfl⟩ := r
      obtain ⟨b', hb', hlt, g1, g2⟩ := hhp m _ hm
      rw [hbb] at hb'; cases hb'
      have hL := hpp.1
      refine .inr ⟨⟨bb.1, 0, none⟩, bb.2, rfl, by omega, fun _ => rfl, fun i j hi hj => ?_⟩
      obtain ⟨y, hy, hr⟩ := g2 i j (by omega) hj
      exact ⟨y, by rw [Nat.zero_add]; exact hle _ _ _ hy, D.rel_mono hle _ _ hr⟩
    · cases h
  · rename_i m n cap
    split at h
    · rename_i e cs hm
      split at h
      · rename_i ds hds
        split at h
        · simp only [Option.some.injEq, Prod.mk.injEq] at h
          obtain ⟨rfl, rfl, rfl⟩ := h
          obtain ⟨bb, hbb, rfl⟩ := r
          exact .inr ⟨⟨bb.1, 0, none⟩, 0, rfl, Nat.le_refl _, fun _ => rfl, fun i j hi => by omega⟩
        · cases h
      · rename_i ds cap' hds
        split at h
        · rename_i st hst hn
          simp only [Option.some.injEq, Prod.mk.injEq] at h
          obtain ⟨rfl, rfl, rfl⟩ := h
          have hn' := Nat.le_of_ble_eq_true hn
          obtain ⟨bb, hbb, rfl⟩ := r
          obtain ⟨b', hb', hlt, xs, hf, hh⟩ := hhp m _ hm
          rw [hbb] at hb'; cases hb'
          have hlc := f2_len hf
          have hst' : (cap' + 1) * st = cs.length := by
            have : ∀ k, stBy cs.length (cap' + 1) k = some st → (cap' + 1) * st = cs.length := by
              intro k
              induction k with
              | zero => intro h; simp [stBy] at h
              | succ k ih =>
                intro h
                simp only [stBy] at h
                split at h
                · rename_i hbq
                  simp only [Option.some.injEq] at h
                  subst h
                  exact Nat.eq_of_beq_eq_true hbq
                · exact ih h
            exact this _ hst
          refine .inr ⟨⟨bb.1, 0, none⟩, cap' + 1, rfl, hn', fun _ => rfl, fun i j hi hj => ?_⟩
          have hlt2 := el_lt hi hj
          have hle2 : n * st ≤ (cap' + 1) * st := Nat.mul_le_mul_right _ hn'
          obtain ⟨y, hy, hr⟩ := getD_rel (toDs_rel hds hf) (k := i * st + j) (by omega)
          refine ⟨y, ?_, D.rel_mono hle _ _ hr⟩
          rw [Nat.zero_add]
          exact hb.1 (m, .dead) (by simp) bb hbb _ _ (by simp [World.cell?, hh, hy])
        · cases h
      · cases h
    · cases h
  · split at h
    · rename_i d' hd
      simp only [Option.some.injEq, Prod.mk.injEq] at h
      obtain ⟨rfl, _, _⟩ := h
      exact D.rel_mono hle _ _ (toD_rel hd r)
    · cases h
theorem lend_own {hp : Nat → Option Blk} {c : C} {d : D} {b : Lent} {p : List Prop} (h : lend hp c = some (d, b, p)) : ∀ q, q ∈ b.1 → q.2.own = false ∧ ∃ k, hp q.1 = some k ∧ k.own = true := by
  intro q hq
  unfold lend at h
  split at h
  · split at h
    · rename_i hm
      simp only [Option.some.injEq, Prod.mk.injEq] at h
      obtain ⟨_, rfl, _⟩ := h
      simp only [List.mem_singleton] at hq
      subst hq
      exact ⟨rfl, _, hm, rfl⟩
    · simp only [Option.some.injEq, Prod.mk.injEq] at h
      obtain ⟨_, rfl, _⟩ := h
      cases hq
    · cases h
  · split at h
    · rename_i hm
      split at h
      · split at h
        · simp only [Option.some.injEq, Prod.mk.injEq] at h
          obtain ⟨_, rfl, _⟩ := h
          cases hq
        · cases h
      · split at h
        · simp only [Option.some.injEq, Prod.mk.injEq] at h
          obtain ⟨_, rfl, _⟩ := h
          simp only [List.mem_singleton] at hq
          subst hq
          exact ⟨rfl, _, hm, rfl⟩
        · cases h
      · cases h
    · cases h
  · split at h
    · simp only [Option.some.injEq, Prod.mk.injEq] at h
      obtain ⟨_, rfl, _⟩ := h
      cases hq
    · cases h
theorem lends_own {hp : Nat → Option Blk} : ∀ {cs : List C} {ds : List D} {b : Lent} {p : List Prop}, lends hp cs = some (ds, b, p) → ∀ q, q ∈ b.1 → q.2.own = false ∧ ∃ k, hp q.1 = some k ∧ k.own = true := by
  intro cs
  induction cs with
  | nil => intro ds b p h q hq; simp [lends] at h; obtain ⟨_, rfl, _⟩ := h; cases hq
  | cons c cs ih =>
    intro ds b p h q hq
    simp only [lends] at h
    split at h
    · rename_i d b1 p1 ds2 b2 p2 h1 h2
      simp only [Option.some.injEq, Prod.mk.injEq] at h
      obtain ⟨_, rfl, _⟩ := h
      rcases List.mem_append.1 hq with hq | hq
      · exact lend_own h1 q hq
      · exact ih h2 q hq
    · cases h
theorem agOf_own {hp : Nat → Option Blk} {a : A} {g : Ag} {b : Lent} {p : List Prop} (h : agOf hp a = some (g, b, p)) : ∀ q, q ∈ b.1 → q.2.own = false ∧ ∃ k, hp q.1 = some k ∧ k.own = true := by
  intro q hq
  unfold agOf at h
  split at h
  · split at h
    · rename_i hd
      simp only [Option.some.injEq, Prod.mk.injEq] at h
      obtain ⟨_, rfl, _⟩ := h
      exact lends_own hd q hq
    · cases h
  · split at h
    · split at h
      · simp only [Option.some.injEq, Prod.mk.injEq] at h
        obtain ⟨_, rfl, _⟩ := h
        cases hq
      · cases h
    · cases h
  · simp only [Option.some.injEq, Prod.mk.injEq] at h
    obtain ⟨_, rfl, _⟩ := h
    cases hq
  · simp only [Option.some.injEq, Prod.mk.injEq] at h
    obtain ⟨_, rfl, _⟩ := h
    cases hq
  · split at h
    · rename_i hd
      simp only [Option.some.injEq, Prod.mk.injEq] at h
      obtain ⟨_, rfl, _⟩ := h
      exact lend_own hd q hq
    · cases h
theorem agsOf_own {hp : Nat → Option Blk} : ∀ {cs : List A} {ds : List Ag} {b : Lent} {p : List Prop}, agsOf hp cs = some (ds, b, p) → ∀ q, q ∈ b.1 → q.2.own = false ∧ ∃ k, hp q.1 = some k ∧ k.own = true := by
  intro cs
  induction cs with
  | nil => intro ds b p h q hq; simp [agsOf] at h; obtain ⟨_, rfl, _⟩ := h; cases hq
  | cons c cs ih =>
    intro ds b p h q hq
    simp only [agsOf] at h
    split at h
    · rename_i d b1 p1 ds2 b2 p2 h1 h2
      simp only [Option.some.injEq, Prod.mk.injEq] at h
      obtain ⟨_, rfl, _⟩ := h
      rcases List.mem_append.1 hq with hq | hq
      · exact agOf_own h1 q hq
      · exact ih h2 q hq
    · cases h
end
end Go.V
end

section
set_option linter.unusedVariables false
set_option linter.unusedSimpArgs false
namespace Go.V
open Go.RowKit (Below)
section
variable {P : Program} {G : GT} {gw : World → Prop}
theorem lends_rel {ρ : Ren} {hp : Nat → Option Blk} {w : World} (hl : Lies ρ.κ w) (hhp : ∀ m k, hp m = some k → ∃ b, ρ m = some b ∧ b.1 < w.heap.size ∧ k.rel ρ b w) {κ : Still} (hle : ρ.κ.le κ) : ∀ {cs : List C} {ds : List D} {b : Lent} {p : List Prop} {xs : List Value},
    lends hp cs = some (ds, b, p) → LentOK ρ w κ b → All p → F2 (C.rel ρ) cs xs → F2 (D.rel κ) ds xs := by
  intro cs
  induction cs with
  | nil => intro ds b p xs h _ _ r; cases r; simp [lends] at h; obtain ⟨rfl, _⟩ := h; exact .nil
  | cons c cs ih =>
    intro ds b p xs h hb hp r
    cases r with
    | cons r0 rs =>
      simp only [lends] at h
      split at h
      · rename_i d b1 p1 ds2 b2 p2 h1 h2
        simp only [Option.some.injEq, Prod.mk.injEq] at h
        obtain ⟨rfl, rfl, rfl⟩ := h
        obtain ⟨hp1, hp2⟩ := All.append.1 hp
        exact .cons (lend_rel hl hhp hle h1 hb.join.1 hp1 r0) (ih h2 hb.join.2 hp2 rs)
      · cases h
theorem agOf_rel {ρ : Ren} {hp : Nat → Option Blk} {w : World} (hl : Lies ρ.κ w) (hcl : ∀ φ x, ρ.cl φ x → CloOK P gw ρ.κ φ x) (hhp : ∀ m k, hp m = some k → ∃ b, ρ m = some b ∧ b.1 < w.heap.size ∧ k.rel ρ b w) {κ : Still} (hle : ρ.κ.le κ)
    {a : A} {g : Ag} {b : Lent} {p : List Prop} (h : agOf hp a = some (g, b, p)) (hb : LentOK ρ w κ b) (hpp : All p) {x : Value} (r : a.rel ρ x) : g.rel P gw κ x := by
  unfold agOf at h
  split at h
  · rename_i cs
    split at h
    · rename_i ds b' p' hd
      simp only [Option.some.injEq, Prod.mk.injEq] at h
      obtain ⟨rfl, rfl, rfl⟩ := h
      obtain ⟨xs, hf, e⟩ := r
      exact ⟨xs, lends_rel hl hhp hle hd hb hpp hf, e⟩
    · cases h
  · rename_i m
    split at h
    · rename_i e cs hm
      split at h
      · rename_i ds hd
        simp only [Option.some.injEq, Prod.mk.injEq] at h
        obtain ⟨rfl, rfl, rfl⟩ := h
        have hκ := hb.2 rfl
        subst hκ
        obtain ⟨bb, hbb, rfl⟩ := r
        obtain ⟨b', hb', hlt, xs, hf, hh⟩ := hhp m _ hm
        simp only at hbb
        rw [hbb] at hb'; cases hb'
        have hf' := toDs_rel hd hf
        have hln := f2_len hf'
        refine ⟨⟨bb.1, 0, none⟩, rfl, rfl, fun j hj => ?_⟩
        obtain ⟨y, hy, hr⟩ := getD_rel hf' (k := j) (by omega)
        exact ⟨y, by rw [Nat.zero_add]; exact fullK_cell (by simp [World.cell?, hh, hy]), D.rel_mono hle _ _ hr⟩
      · cases h
    · cases h
  · simp only [Option.some.injEq, Prod.mk.injEq] at h
    obtain ⟨rfl, _, _⟩ := h
    obtain ⟨ad, h1, h2, h3⟩ := r
    exact ⟨ad, h1, h2, fun j hj => by obtain ⟨y, hy, hr⟩ := h3 j hj; exact ⟨y, hle _ _ _ hy, D.rel_mono hle _ _ hr⟩⟩
  · simp only [Option.some.injEq, Prod.mk.injEq] at h
    obtain ⟨rfl, _, _⟩ := h
    exact CloOK.mono hle (hcl _ _ r.1)
  · split at h
    · rename_i d b' p' hd
      simp only [Option.some.injEq, Prod.mk.injEq] at h
      obtain ⟨rfl, rfl, rfl⟩ := h
      exact lend_rel hl hhp hle hd hb hpp r
    · cases h
theorem agsOf_rel {ρ : Ren} {hp : Nat → Option Blk} {w : World} (hl : Lies ρ.κ w) (hcl : ∀ φ x, ρ.cl φ x → CloOK P gw ρ.κ φ x) (hhp : ∀ m k, hp m = some k → ∃ b, ρ m = some b ∧ b.1 < w.heap.size ∧ k.rel ρ b w) {κ : Still} (hle : ρ.κ.le κ) : ∀ {az : List A} {gs : List Ag} {b : Lent} {p : List Prop} {xs : List Value},
    agsOf hp az = some (gs, b, p) → LentOK ρ w κ b → All p → F2 (A.rel ρ) az xs → F2 (Ag.rel P gw κ) gs xs := by
  intro az
  induction az with
  | nil => intro ds b p xs h _ _ r; cases r; simp [agsOf] at h; obtain ⟨rfl, _⟩ := h; exact .nil
  | cons c cs ih =>
    intro ds b p xs h hb hp r
    cases r with
    | cons r0 rs =>
      simp only [agsOf] at h
      split at h
      · rename_i d b1 p1 ds2 b2 p2 h1 h2
        simp only [Option.some.injEq, Prod.mk.injEq] at h
        obtain ⟨rfl, rfl, rfl⟩ := h
        obtain ⟨hp1, hp2⟩ := All.append.1 hp
        exact .cons (agOf_rel hl hcl hhp hle h1 hb.join.1 hp1 r0) (ih h2 hb.join.2 hp2 rs)
      · cases h
theorem lies_back {κ κ' : Still} {w w' : World} (hl : Lies κ w) (hb : Below w.heap.size w w') : Lies κ w' := by
  intro b o v h
  obtain ⟨h1, h2⟩ := hl b o v h
  exact ⟨Nat.lt_of_lt_of_le h1 hb.size, by rw [World.cell?_of_block (w := w) (hb.block b h1)]; exact h2⟩
/-- A block that is laid to rest lies so. -/
theorem lend_fz {ρ ρ' : Ren} {hp : Nat → Option Blk} {w w' : World} (hhp : ∀ m k, hp m = some k → ∃ b, ρ m = some b ∧ b.1 < w.heap.size ∧ k.rel ρ b w) {c : C} {d : D} {b : Lent} {p : List Prop} (h : lend hp c = some (d, b, p)) :
    ∀ q, q ∈ b.1 → ∀ bb, ρ q.1 = some bb → ρ.le ρ' → (∀ o v, w.cell? ⟨bb.1, o, none⟩ = some v → ρ'.κ bb.1 o = some v) → q.2.rel ρ' bb w' := by
  intro q hq bb hbb hle hcell
  unfold lend at h
  split at h
  · split at h
    · rename_i e st L F hm
      simp only [Option.some.injEq, Prod.mk.injEq] at h
      obtain ⟨_, rfl, _⟩ := h
      simp only [List.mem_singleton] at hq
      subst hq
      obtain ⟨b', hb', _, xs, hh, g1, g2, g3, g4⟩ := hhp _ _ hm
      rw [hbb] at hb'; cases hb'
      refine ⟨g2, fun i j hi hj => ?_⟩
      obtain ⟨y, hy, hr⟩ := g4 i j hi hj
      exact ⟨y, hcell _ _ (by simp [World.cell?, hh, hy]), D.rel_mono hle.κ _ _ hr⟩
    · simp only [Option.some.injEq, Prod.mk.injEq] at h
      obtain ⟨_, rfl, _⟩ := h
      cases hq
    · cases h
  · split at h
    · split at h
      · split at h
        · simp only [Option.some.injEq, Prod.mk.injEq] at h
          obtain ⟨_, rfl, _⟩ := h
          cases hq
        · cases h
      · split at h
        · simp only [Option.some.injEq, Prod.mk.injEq] at h
          obtain ⟨_, rfl, _⟩ := h
          simp only [List.mem_singleton] at hq
          subst hq
          trivial
        · cases h
      · cases h
    · cases h
  · split at h
    · simp only [Option.some.injEq, Prod.mk.injEq] at h
      obtain ⟨_, rfl, _⟩ := h
      cases hq
    · cases h
theorem lends_fz {ρ ρ' : Ren} {hp : Nat → Option Blk} {w w' : World} (hhp : ∀ m k, hp m = some k → ∃ b, ρ m = some b ∧ b.1 < w.heap.size ∧ k.rel ρ b w) : ∀ {cs : List C} {ds : List D} {b : Lent} {p : List Prop}, lends hp cs = some (ds, b, p) →
    ∀ q, q ∈ b.1 → ∀ bb, ρ q.1 = some bb → ρ.le ρ' → (∀ o v, w.cell? ⟨bb.1, o, none⟩ = some v → ρ'.κ bb.1 o = some v) → q.2.rel ρ' bb w' := by
  intro cs
  induction cs with
  | nil => intro ds b p h q hq; simp [lends] at h; obtain ⟨_, rfl, _⟩ := h; cases hq
  | cons c cs ih =>
    intro ds b p h q hq
    simp only [lends] at h
    split at h
    · rename_i d b1 p1 ds2 b2 p2 h1 h2
      simp only [Option.some.injEq, Prod.mk.injEq] at h
      obtain ⟨_, rfl, _⟩ := h
      rcases List.mem_append.1 hq with hq | hq
      · exact lend_fz hhp h1 q hq
      · exact ih h2 q hq
    · cases h
theorem agOf_fz {ρ ρ' : Ren} {hp : Nat → Option Blk} {w w' : World} (hhp : ∀ m k, hp m = some k → ∃ b, ρ m = some b ∧ b.1 < w.heap.size ∧ k.rel ρ b w) {a : A} {g : Ag} {b : Lent} {p : List Prop} (h : agOf hp a = some (g, b, p)) :
    ∀ q, q ∈ b.1 → ∀ bb, ρ q.1 = some bb → ρ.le ρ' → (∀ o v, w.cell? ⟨bb.1, o, none⟩ = some v → ρ'.κ bb.1 o = some v) → q.2.rel ρ' bb w' := by
  intro q hq
  unfold agOf at h
  split at h
  · split at h
    · rename_i hd
      simp only [Option.some.injEq, Prod.mk.injEq] at h
      obtain ⟨_, rfl, _⟩ := h
      exact lends_fz hhp hd q hq
    · cases h
  · split at h
    · split at h
      · simp only [Option.some.injEq, Prod.mk.injEq] at h
        obtain ⟨_, rfl, _⟩ := h
        cases hq
      · cases h
    · cases h
  · simp only [Option.some.injEq, Prod.mk.injEq] at h
    obtain ⟨_, rfl, _⟩ := h
    cases hq
  · simp only [Option.some.injEq, Prod.mk.injEq] at h
    obtain ⟨_, rfl, _⟩ := h
    cases hq
  · split at h
    · rename_i hd
      simp only [Option.some.injEq, Prod.mk.injEq] at h
      obtain ⟨_, rfl, _⟩ := h
      exact lend_fz hhp hd q hq
    · cases h
theorem agsOf_fz' {ρ ρ' : Ren} {hp : Nat → Option Blk} {w w' : World} (hhp : ∀ m k, hp m = some k → ∃ b, ρ m = some b ∧ b.1 < w.heap.size ∧ k.rel ρ b w) : ∀ {cs : List A} {ds : List Ag} {b : Lent} {p : List Prop}, agsOf hp cs = some (ds, b, p) →
    ∀ q, q ∈ b.1 → ∀ bb, ρ q.1 = some bb → ρ.le ρ' → (∀ o v, w.cell? ⟨bb.1, o, none⟩ = some v → ρ'.κ bb.1 o = some v) → q.2.rel ρ' bb w' := by
  intro cs
  induction cs with
  | nil => intro ds b p h q hq; simp [agsOf] at h; obtain ⟨_, rfl, _⟩ := h; cases hq
  | cons c cs ih =>
    intro ds b p h q hq
    simp only [agsOf] at h
    split at h
    · rename_i d b1 p1 ds2 b2 p2 h1 h2
      simp only [Option.some.injEq, Prod.mk.injEq] at h
      obtain ⟨_, rfl, _⟩ := h
      rcases List.mem_append.1 hq with hq | hq
      · exact agOf_fz hhp h1 q hq
      · exact ih h2 q hq
    · cases h
def isGo (fn : Func) : Bool := !(fn.name == "runtime.NumGoroutine") && !fn.body.isNone
theorem enter_of {f : FuncId} {fn : Func} (h : P.funcs[f]? = some fn) (hg : isGo fn = true) (args : Array Value) (w : World) : (callFunc f args).run P w = .ok (.enter f args) w := by
  unfold isGo at hg
  simp only [Bool.and_eq_true, Bool.not_eq_true'] at hg
  exact run_callFunc h hg.1 hg.2 args w
/-- From a contract to a summary. -/
theorem fok_sum {f : FuncId} {fn : Func} {dom : DomF} (hf : P.funcs[f]? = some fn) (hg : isGo fn = true) (h : FOK P G gw f dom) : SumOK P G gw f (fokSm dom) where
  enter := enter_of hf hg
  loc := by intro args c hp hp' hm; unfold fokSm; rw [agsOf_loc hm]
  frz := by
    intro args c hp p v N Z hs q hq
    unfold fokSm at hs
    split at hs
    · rename_i ags bw p0 hags
      split at hs
      · split at hs
        · simp only [Option.some.injEq, Prod.mk.injEq] at hs
          obtain ⟨_, _, _, rfl⟩ := hs
          cases hq
        · simp only [Option.some.injEq, Prod.mk.injEq] at hs
          obtain ⟨_, _, _, rfl⟩ := hs
          exact agsOf_own hags q hq
        · cases hs
      · cases hs
    · cases hs
  ok := by
    intro args c hp p v N Z hs hpr ρ xs w hgw hl hcl hgl hx hhp hfr
    unfold fokSm at hs
    split at hs
    · rename_i ags bw p0 hags
      split at hs
      · rename_i p1 r hd
        have hG : GIn G ρ.κ := by
          intro g n F e j hj
          obtain ⟨a, h1, h2, h3⟩ := hgl g n F e
          cases h1
          exact h3 j hj
        split at hs
        · rename_i hpl
          simp only [Option.some.injEq, Prod.mk.injEq] at hs
          obtain ⟨rfl, rfl, rfl, rfl⟩ := hs
          obtain ⟨hp0, hp1⟩ := All.append.1 hpr
          have hle := le_fullK hl
          have hrel := agsOf_rel hl hcl hhp hle hags (lentFull ρ w bw) hp0 hx
          refine (h ags _ _ hd hp1 (fullK w) w xs hgw (fullK_lies w) (hG.mono hle) hrel).mono ?_
          rintro e w' ⟨x, κ', rfl, hle', hl', hn, hr, hb⟩
          exact ⟨ρ, x, rfl, Ren.le_refl _, fun m hm _ => hm, vOf_rel (res_plain hpl hr), hb, fun i k hi => by simp at hi, fun i j b b' hi => by simp at hi, fun q hq => by (cases hq), fun b o v hv => .inl hv⟩
        · rename_i hbw
          simp only [Option.some.injEq, Prod.mk.injEq] at hs
          obtain ⟨rfl, rfl, rfl, rfl⟩ := hs
          obtain ⟨hp0, hp1⟩ := All.append.1 hpr
          -- what lies still, and what is laid to rest for it
          obtain ⟨κz, hκz⟩ : ∃ κz : Still, ∀ b o v, κz b o = some v ↔ ρ.κ b o = some v ∨ ((∃ q b0, q ∈ bw.1 ∧ ρ q.1 = some b0 ∧ b = b0.1) ∧ b < w.heap.size ∧ w.cell? ⟨b, o, none⟩ = some v) := by
            refine ⟨fun b o => @ite _ (∃ q b0, q ∈ bw.1 ∧ ρ q.1 = some b0 ∧ b = b0.1) (Classical.propDecidable _) (fullK w b o) (ρ.κ b o), fun b o v => ?_⟩
            dsimp only
            by_cases hz : ∃ q b0, q ∈ bw.1 ∧ ρ q.1 = some b0 ∧ b = b0.1
            · rw [if_pos hz]
              constructor
              · intro hv
                obtain ⟨g1, g2⟩ := fullK_lies w b o v hv
                exact .inr ⟨hz, g1, g2⟩
              · rintro (hv | ⟨_, _, hv⟩)
                · exact le_fullK hl b o v hv
                · exact fullK_cell hv
            · rw [if_neg hz]
              constructor
              · exact .inl
              · rintro (hv | ⟨hv, _⟩)
                · exact hv
                · exact absurd hv hz
          have hle : ρ.κ.le κz := fun b o v hv => (hκz b o v).2 (.inl hv)
          have hlz : Lies κz w := by
            intro b o v hv
            rcases (hκz b o v).1 hv with hv | ⟨_, h1, h2⟩
            · exact hl b o v hv
            · exact ⟨h1, h2⟩
          have hlent : LentOK ρ w κz bw := by
            refine ⟨fun q hq b hb o v hv => (hκz _ _ _).2 (.inr ⟨⟨q, b, hq, hb, rfl⟩, ?_, hv⟩), fun e => by rw [hbw] at e; cases e⟩
            obtain ⟨_, k, hk, _⟩ := agsOf_own hags q hq
            obtain ⟨b', hb', hlt, _⟩ := hhp _ _ hk
            rw [hb] at hb'; cases hb'; exact hlt
          have hrel := agsOf_rel hl hcl hhp hle hags hlent hp0 hx
          refine (h ags _ _ hd hp1 κz w xs hgw hlz (hG.mono hle) hrel).mono ?_
          rintro e w' ⟨x, κ', rfl, hle', hl', hn, hr, hb⟩
          have hup : ρ.κ.le κ' := fun b o v hv => hle' _ _ _ (hle _ _ _ hv)
          refine ⟨{ ρ with κ := κ' }, x, rfl, ⟨fun _ _ h => h, hup, rfl, rfl, rfl, rfl⟩, fun m hm _ => hm, vOf_rel (ρ := { ρ with κ := κ' }) hr, hb, fun i k hi => by simp at hi, fun i j b b' hi => by simp at hi, ?_, ?_⟩
          · intro q hq b hb0
            obtain ⟨hown, k, hk, _⟩ := agsOf_own hags q hq
            obtain ⟨b', hb', hlt, hkr⟩ := hhp _ _ hk
            rw [hb0] at hb'; cases hb'
            exact agsOf_fz' (ρ' := { ρ with κ := κ' }) hhp hags q hq b hb0 ⟨fun _ _ h => h, hup, rfl, rfl, rfl, rfl⟩ (fun o v hv => hle' _ _ _ (hlent.1 q hq b hb0 o v hv))
          · intro b o v hv
            rcases hn b o v hv with h1 | h1
            · rcases (hκz b o v).1 h1 with h2 | ⟨⟨q, b0, g1, g2, g3⟩, g4, g5⟩
              · exact .inl h2
              · obtain ⟨j1, j2⟩ := hl' b o v hv
                exact .inr ⟨.inr ⟨q, b0, g1, g2, g3⟩, j1, j2, fun i k b' hi => by simp at hi⟩
            · obtain ⟨j1, j2⟩ := hl' b o v hv
              exact .inr ⟨.inl h1, j1, j2, fun i k b' hi => by simp at hi⟩
        · cases hs
      · cases hs
    · cases hs
def AllS (P : Program) (G : GT) (gw : World → Prop) : List (Nat × Sm) → Prop
  | [] => True
  | (f, σ) :: l => SumOK P G gw f σ ∧ AllS P G gw l
def lookS : List (Nat × Sm) → FuncId → Option Sm
  | [], _ => none
  | (g, σ) :: l, f => match Nat.beq g f with | true => some σ | false => lookS l f
theorem lookS_ok : ∀ {l : List (Nat × Sm)}, AllS P G gw l → ∀ f σ, lookS l f = some σ → SumOK P G gw f σ := by
  intro l
  induction l with
  | nil => intro _ f σ h; simp [lookS] at h
  | cons x l ih =>
    intro hl f σ h
    obtain ⟨g, τ⟩ := x
    simp only [lookS] at h
    split at h
    · rename_i hb
      have := Nat.eq_of_beq_eq_true hb
      subst this
      simp only [Option.some.injEq] at h; subst h
      exact hl.1
    · exact ih hl.2 f σ h
end
section
variable (P : Program)
def finL (g : C → Option (D × List Prop)) : List C → Option (List D × List Prop)
  | [] => some ([], [])
  | c :: l => match g c, finL g l with | some (d, p), some (ds, q) => some (d :: ds, p ++ q) | _, _ => none
def finW (s : S) (g : C → Option (D × List Prop)) : C → Option (D × List Prop)
  | .gsl m len => (match s.hp m with
    | some k => (match rowOf k with | some (st, L, F) => some (.sl true len st F, [len ≤ L]) | none => none)
    | none => none)
  | .sl m 0 len cap => (match s.hp m with
    | some (.known e cs) => (match finL g cs, P.info? e with
      | some (ds, p), some i => (match Nat.ble (len * i.size) cs.length && Nat.ble len cap with
        | true => some (.sl true len i.size (fun i' j => ds.getD (i' * i.size + j) .nilp), p)
        | false => none)
      | _, _ => none)
    | _ => none)
  | x => (match toD x with | some d => some (d, []) | none => none)
/-- A result's cell, az it lies when the call is over. -/
def finC (s : S) : Nat → C → Option (D × List Prop)
  | 0 => fun x => (match toD x with | some d => some (d, []) | none => none)
  | n + 1 => finW P s (finC s n)
def finA (s : S) : A → Option (Ar × List Prop)
  | .c x => (match finC P s 3 x with | some (d, p) => some (.c d, p) | none => none)
  | .agg cs => (match finL (finC P s 3) cs with | some (ds, p) => some (.agg ds, p) | none => none)
def finAs (s : S) : List A → Option (List Ar × List Prop)
  | [] => some ([], [])
  | a :: l => match finA P s a, finAs s l with | some (r, p), some (rs, q) => some (r :: rs, p ++ q) | _, _ => none
/-- A result. -/
def resA (s : S) : ResultVar → Option A
  | .tmp t => (match s.tm t with | some (.a y) => some y | _ => none)
  | .cell t ty => (match s.tm t, P.underlying ty, P.info? ty with
    | some (.a (.c (.ptr m off))), some d, some i => (match s.hp m with
      | some k => (match isAggD d with
        | true => (match readN k off i.size with | some cs => some (.agg cs) | none => none)
        | false => (match k.cell off with | some c => some (.c c) | none => none))
      | none => none)
    | _, _, _ => none)
def resL (s : S) : List ResultVar → Option (List A)
  | [] => some []
  | r :: l => match resA P s r, resL s l with | some a, some k => some (a :: k) | _, _ => none
end
/-- When the call is over, all that it has made lies still. -/
def endK (κ0 : Still) (B : Nat) (w' : World) : Still := fun b o => if B ≤ b then (if b < w'.heap.size then w'.cell? ⟨b, o, none⟩ else none) else κ0 b o
section
variable {P : Program} {G : GT} {gw : World → Prop} {N : Nat} {w0 : World} {ρ : Ren} {s : S} {a : Act} {w : World}
theorem endK_le (h : Rel w0 N ρ s a w) : ρ.κ.le (endK ρ.k0 w0.heap.size w) := by
  intro b o v hv
  obtain ⟨h1, h2⟩ := h.im b o v hv
  unfold endK
  by_cases hb : w0.heap.size ≤ b
  · rw [if_pos hb, if_pos h1]; exact h2
  · rw [if_neg hb]; exact h.old b o v hv (by omega)
theorem endK_cell {κ0 : Still} {B b o : Nat} {v : Value} (hb : B ≤ b) (hlt : b < w.heap.size) (h : w.cell? ⟨b, o, none⟩ = some v) : endK κ0 B w b o = some v := by
  unfold endK; rw [if_pos hb, if_pos hlt]; exact h
theorem finL_rel {κ' : Still} {g : C → Option (D × List Prop)} (hg : ∀ c d p x, g c = some (d, p) → All p → c.rel ρ x → d.rel κ' x) : ∀ {cs : List C} {ds : List D} {p : List Prop} {xs : List Value}, finL g cs = some (ds, p) → All p → F2 (C.rel ρ) cs xs → F2 (D.rel κ') ds xs := by
  intro cs
  induction cs with
  | nil => intro ds p xs h _ r; cases r; simp [finL] at h; obtain ⟨rfl, _⟩ := h; exact .nil
  | cons c cs ih =>
    intro ds p xs h hp r
    cases r with
    | cons r0 rs =>
      simp only [finL] at h
      split at h
      · rename_i d p1 ds2 p2 h1 h2
        simp only [Option.some.injEq, Prod.mk.injEq] at h
        obtain ⟨rfl, rfl⟩ := h
        obtain ⟨hp1, hp2⟩ := All.append.1 hp
        exact .cons (hg _ _ _ _ h1 hp1 r0) (ih h2 hp2 rs)
      · cases h
theorem finW_rel (h : Rel w0 N ρ s a w) {g : C → Option (D × List Prop)} (hg : ∀ c d p x, g c = some (d, p) → All p → c.rel ρ x → d.rel (endK ρ.k0 w0.heap.size w) x) : ∀ c d p x, finW P s g c = some (d, p) → All p → c.rel ρ x → d.rel (endK ρ.k0 w0.heap.size w) x := by
  intro c d p x hc hp r
  have hle := endK_le h
  unfold finW at hc
  split at hc
  · rename_i m len
    split at hc
    · rename_i k hm
      split at hc
      · rename_i st L F hrow
        simp only [Option.some.injEq, Prod.mk.injEq] at hc
        obtain ⟨rfl, rfl⟩ := hc
        obtain ⟨bb, hbb, rfl⟩ := r
        obtain ⟨b', hb', hlt, hrel, hge⟩ := h.hp m k hm
        rw [hbb] at hb'; cases hb'
        have hcap := rowOf_cap hrel hrow
        have hL := hp.1
        refine .inr ⟨⟨bb.1, 0, none⟩, bb.2, rfl, by omega, fun _ => rfl, fun i j hi hj => ?_⟩
        obtain ⟨xs, hf, hlen, hcl⟩ := rCells_sound h.im hrel hrow (show i < L by omega) (n := 1) (o := j) (by omega)
        simp only [dCells] at hf
        cases hf with
        | cons r0 rs =>
          rename_i y ys
          have hcy := hcl 0 y (by simp)
          refine ⟨y, ?_, D.rel_mono hle _ _ ?_⟩
          · rw [Nat.zero_add]; exact endK_cell hge hlt (by simpa [Addr.add] using hcy)
          · have : ∀ (d : D), (toC d).rel ρ y → d.rel ρ.κ y := by intro d hd; cases d <;> exact hd
            exact this _ r0
      · cases hc
    · cases hc
  · rename_i m len cap
    split at hc
    · rename_i e cs hm
      split at hc
      · rename_i ds p' i hds hi
        split at hc
        · rename_i hok
          simp only [Bool.and_eq_true] at hok
          have h1 := Nat.le_of_ble_eq_true hok.1
          have h2 := Nat.le_of_ble_eq_true hok.2
          simp only [Option.some.injEq, Prod.mk.injEq] at hc
          obtain ⟨rfl, rfl⟩ := hc
          obtain ⟨bb, hbb, rfl⟩ := r
          obtain ⟨b', hb', hlt, ⟨xs, hf, hh⟩, hge⟩ := h.hp m _ hm
          rw [hbb] at hb'; cases hb'
          have hlc := f2_len hf
          have hf' := finL_rel hg hds hp hf
          refine .inr ⟨⟨bb.1, 0, none⟩, cap, rfl, h2, fun _ => rfl, fun i' j hi' hj => ?_⟩
          have hlt2 := el_lt hi' hj
          obtain ⟨y, hy, hr⟩ := getD_rel hf' (k := i' * i.size + j) (by omega)
          exact ⟨y, by rw [Nat.zero_add]; exact endK_cell hge hlt (by simp [World.cell?, hh, hy]), hr⟩
        · cases hc
      · cases hc
    · cases hc
  · split at hc
    · rename_i d' hd
      simp only [Option.some.injEq, Prod.mk.injEq] at hc
      obtain ⟨rfl, _⟩ := hc
      exact D.rel_mono hle _ _ (toD_rel hd r)
    · cases hc
theorem finC_rel (h : Rel w0 N ρ s a w) : ∀ n c d p x, finC P s n c = some (d, p) → All p → c.rel ρ x → d.rel (endK ρ.k0 w0.heap.size w) x := by
  intro n
  induction n with
  | zero =>
    intro c d p x hc hp r
    simp only [finC] at hc
    split at hc
    · rename_i d' hd
      simp only [Option.some.injEq, Prod.mk.injEq] at hc
      obtain ⟨rfl, _⟩ := hc
      exact D.rel_mono (endK_le h) _ _ (toD_rel hd r)
    · cases hc
  | succ n ih => exact finW_rel h ih
theorem finA_rel (h : Rel w0 N ρ s a w) {y : A} {r : Ar} {p : List Prop} (hr : finA P s y = some (r, p)) (hp : All p) {x : Value} (hy : y.rel ρ x) : r.rel (endK ρ.k0 w0.heap.size w) x := by
  unfold finA at hr
  split at hr
  · split at hr
    · rename_i d p' hd
      simp only [Option.some.injEq, Prod.mk.injEq] at hr
      obtain ⟨rfl, rfl⟩ := hr
      exact finC_rel h 3 _ _ _ _ hd hp hy
    · cases hr
  · split at hr
    · rename_i ds p' hd
      simp only [Option.some.injEq, Prod.mk.injEq] at hr
      obtain ⟨rfl, rfl⟩ := hr
      obtain ⟨xs, hf, e⟩ := hy
      exact ⟨xs, finL_rel (finC_rel h 3) hd hp hf, e⟩
    · cases hr
theorem finAs_rel (h : Rel w0 N ρ s a w) : ∀ {ys : List A} {rs : List Ar} {p : List Prop} {xs : List Value}, finAs P s ys = some (rs, p) → All p → F2 (A.rel ρ) ys xs → F2 (Ar.rel (endK ρ.k0 w0.heap.size w)) rs xs := by
  intro ys
  induction ys with
  | nil => intro rs p xs h _ r; cases r; simp [finAs] at h; obtain ⟨rfl, _⟩ := h; exact .nil
  | cons y ys ih =>
    intro rs p xs hr hp r
    cases r with
    | cons r0 rs0 =>
      simp only [finAs] at hr
      split at hr
      · rename_i d p1 ds2 p2 h1 h2
        simp only [Option.some.injEq, Prod.mk.injEq] at hr
        obtain ⟨rfl, rfl⟩ := hr
        obtain ⟨hp1, hp2⟩ := All.append.1 hp
        exact .cons (finA_rel h h1 hp1 r0) (ih h2 hp2 rs0)
      · cases hr
/-- What 'results' reads of one result. -/
def resOne (a : Act) (r : ResultVar) : Sem Value :=
  match r with
  | .tmp t => pure (a.tmps.getD t undef)
  | .cell c t => do loadVar t (← asAddr (a.tmps.getD c undef))
theorem results_eq (fn : Func) (a : Act) : results fn a.tmps = (do let vs ← fn.results.mapM (resOne a); pure (if h : vs.size = 1 then vs[0] else .tuple vs)) := by
  unfold results resOne
  rfl
theorem resA_sound (h : View G ρ s a w) {r : ResultVar} {p : A} (e : resA P s r = some p) : ∃ x, (resOne a r).run P w = .ok x w ∧ p.rel ρ x := by
  unfold resOne
  cases r with
  | tmp t =>
    simp only [resA] at e
    split at e
    · rename_i y hy
      simp only [Option.some.injEq] at e; subst e
      exact ⟨_, rfl, h.tm t _ hy⟩
    · cases e
  | cell t ty =>
    simp only [resA] at e
    split at e
    · rename_i m off d i hx hd hi
      obtain ⟨b, hb, hv⟩ := h.tm t _ hx
      split at e
      · rename_i k hk
        obtain ⟨b', hb', hlt, hrel⟩ := h.hp m k hk
        simp only at hb
        rw [hb] at hb'; cases hb'
        split at e
        · rename_i hg
          split at e
          · rename_i cs hcs
            simp only [Option.some.injEq] at e; subst e
            obtain ⟨xs, hf, hl, hc⟩ := readN_sound hrel hcs
            refine ⟨.agg xs.toArray, ?_, xs, hf, rfl⟩
            simp only [hv, asAddr, Sem.run_bind, Sem.run_pure, Result.andThen_ok, run_loadVar_agg hd hi hg hl hc]
          · cases e
        · rename_i hg
          split at e
          · rename_i c hc
            simp only [Option.some.injEq] at e; subst e
            obtain ⟨z, hz, hcell⟩ := Blk.rel_cell hrel hc
            refine ⟨z, ?_, hz⟩
            simp only [hv, asAddr, Sem.run_bind, Sem.run_pure, Result.andThen_ok, run_loadVar_one hd hg hcell]
          · cases e
      · cases e
    · cases e
theorem resL_sound (h : View G ρ s a w) : ∀ {l : List ResultVar} {ps : List A}, resL P s l = some ps → ∃ xs : List Value, (l.mapM (resOne a)).run P w = .ok xs w ∧ F2 (A.rel ρ) ps xs := by
  intro l
  induction l with
  | nil => intro ps e; simp [resL] at e; subst e; exact ⟨[], rfl, .nil⟩
  | cons r l ih =>
    intro ps e
    simp only [resL] at e
    split at e
    · rename_i p k hp hk
      simp only [Option.some.injEq] at e; subst e
      obtain ⟨x, hx, hr⟩ := resA_sound h hp
      obtain ⟨xs, hxs, hrs⟩ := ih hk
      refine ⟨x :: xs, ?_, .cons hr hrs⟩
      rw [List.mapM_cons, Sem.run_bind, hx, Result.andThen_ok, Sem.run_bind, hxs]
      rfl
    · cases e
theorem results_sound (h : Rel w0 N ρ s a w) (hv : View G ρ s a w) {fn : Func} {ps : List A} (e : resL P s fn.results.toList = some ps) {rs : List Ar} {p : List Prop} (hf : finAs P s ps = some (rs, p)) (hp : All p) :
    ∃ x, (results fn a.tmps).run P w = .ok x w ∧ resRel (endK ρ.k0 w0.heap.size w) rs x := by
  obtain ⟨xs, hx, hr⟩ := resL_sound hv e
  have hr' := finAs_rel h hf hp hr
  rw [results_eq, Array.mapM_eq_mapM_toList]
  simp only [Sem.run_bind, Sem.run_map, hx, Result.andThen_ok, Sem.run_pure]
  cases hr' with
  | nil => exact ⟨_, rfl, [], .nil, by simp⟩
  | cons r0 rs0 =>
    cases rs0 with
    | nil => exact ⟨_, rfl, r0⟩
    | cons r1 rs1 => exact ⟨_, rfl, _, .cons r0 (.cons r1 rs1), by simp⟩
end
section
variable (P : Program) (G : GT) (sg : FuncId → Option Sm) (an : An)
def agA : Ag → A
  | .c d => .c (toC d)
  | .agg ds => .agg (ds.map toC)
  | .ptr n F => .c (.ip n F)
  | .clo φ => .c (.clo φ)
def args0 (ags : List Ag) : S := ⟨fun t => match ags[t]? with | some g => some (.a (agA g)) | none => none, fun _ => none, fun _ => none⟩
/-- A function's ways. -/
def runFn (fuel : Nat) (fn : Func) (ags : List Ag) : T (List Ar) :=
  match fn.body with
  | some code => (exec G fn.ntmps an 0 (rx0 P G fn.ntmps sg fuel) rf0 fuel code (fun _ => true) 0 (args0 ags)).bind fun r => match r with
    | (.exit _, _, _) => .fail
    | (_, _, s) => (match resL P s fn.results.toList with
      | some ps => (match finAs P s ps with | some (rs, p) => T.needs p (.ret rs) | none => .fail)
      | none => .fail)
  | none => .fail
end
def dsEqv : List D → List D → Prop
  | [], [] => True
  | a :: l, b :: k => a.eqv b ∧ dsEqv l k
  | _, _ => False
theorem dsEqv_rel {κ : Still} : ∀ {ds ds' : List D} {xs : List Value}, dsEqv ds ds' → F2 (D.rel κ) ds xs → F2 (D.rel κ) ds' xs
  | [], [], _, _, r => r
  | a :: l, b :: k, _, h, .cons r rs => .cons (D.eqv_rel h.1 r) (dsEqv_rel h.2 rs)
  | [], _ :: _, _, h, _ => h.elim
  | _ :: _, [], _, h, _ => h.elim
def Ar.eqv : Ar → Ar → Prop
  | .c d, .c d' => d.eqv d'
  | .agg ds, .agg ds' => dsEqv ds ds'
  | _, _ => False
theorem Ar.eqv_rel {κ : Still} {d d' : Ar} {x : Value} (h : d.eqv d') (r : d.rel κ x) : d'.rel κ x := by
  cases d <;> cases d' <;> first | exact h.elim | skip
  · exact D.eqv_rel h r
  · obtain ⟨xs, hf, e⟩ := r; exact ⟨xs, dsEqv_rel h hf, e⟩
def rsEqv : List Ar → List Ar → Prop
  | [], [] => True
  | a :: l, b :: k => a.eqv b ∧ rsEqv l k
  | _, _ => False
theorem rsEqv_f2 {κ : Still} : ∀ {ds ds' : List Ar} {xs : List Value}, rsEqv ds ds' → F2 (Ar.rel κ) ds xs → F2 (Ar.rel κ) ds' xs
  | [], [], _, _, r => r
  | a :: l, b :: k, _, h, .cons r rs => .cons (Ar.eqv_rel h.1 r) (rsEqv_f2 h.2 rs)
  | [], _ :: _, _, h, _ => h.elim
  | _ :: _, [], _, h, _ => h.elim
theorem rsEqv_rel {κ : Still} {rs rs' : List Ar} {x : Value} (h : rsEqv rs rs') (r : resRel κ rs x) : resRel κ rs' x := by
  match rs, rs', h, r with
  | [], [], _, r => exact r
  | [a], [b], h, r => exact Ar.eqv_rel h.1 r
  | a :: b :: l, a' :: b' :: l', h, ⟨ys, hf, e⟩ => exact ⟨ys, rsEqv_f2 h hf, e⟩
section
variable {P : Program} {G : GT} {gw : World → Prop} {sg : FuncId → Option Sm} {an : An}
theorem agA_rel {ρ : Ren} (hcl : ∀ φ x, CloOK P gw ρ.κ φ x → ρ.cl φ x) {g : Ag} {x : Value} (h : g.rel P gw ρ.κ x) : (agA g).rel ρ x := by
  cases g with
  | c d => exact toC_rel h
  | agg ds => obtain ⟨xs, hf, e⟩ := h; exact ⟨xs, f2_toC hf, e⟩
  | ptr n F => exact h
  | clo φ => exact ⟨hcl φ x h, by obtain ⟨f, caps, e, _⟩ := h; exact ⟨f, caps, e⟩⟩
theorem agA_f2 {ρ : Ren} (hcl : ∀ φ x, CloOK P gw ρ.κ φ x → ρ.cl φ x) : ∀ {gs : List Ag} {xs : List Value}, F2 (Ag.rel P gw ρ.κ) gs xs → F2 (A.rel ρ) (gs.map agA) xs
  | _, _, .nil => .nil
  | _, _, .cons r rs => .cons (agA_rel hcl r) (agA_f2 hcl rs)
/-- A mark taken: its block is shut. -/
theorem taken {N : Nat} {w0 : World} {ρ : Ren} {s : S} {a : Act} {w : World} (h : Rel w0 N ρ s a w) {D : Nat} {Ds : List Nat} (hd : a.defers = (D :: Ds).map (fun D => ({ target := .collected D, args := #[] } : Deferred))) :
    ∃ w', (Instr.takeDeferred D).run P w = .ok [] w' ∧ Rel w0 N ρ s { a with defers := Ds.map (fun D => { target := .collected D, args := #[] }) } w' := by
  obtain ⟨Es, h1, h2, h3⟩ := h.df
  have hinj : ∀ {l k : List Nat}, l.map (fun D => ({ target := .collected D, args := #[] } : Deferred)) = k.map (fun D => { target := .collected D, args := #[] }) → l = k := by
    intro l
    induction l with
    | nil => intro k h; cases k with | nil => rfl | cons x k => cases h
    | cons y l ih =>
      intro k h
      cases k with
      | nil => cases h
      | cons x k =>
        simp only [List.map_cons, List.cons.injEq, Deferred.mk.injEq, Target.collected.injEq, and_true] at h
        rw [h.1, ih h.2]
  have he : Es = D :: Ds := hinj (h1.symm.trans hd)
  subst he
  obtain ⟨g1, g2⟩ := h3 D (List.mem_cons_self ..)
  have hlt : D < w.heap.size := (Array.getElem?_eq_some_iff.1 g2).1
  refine ⟨{ w with heap := w.heap.setIfInBounds D (.deferred none) }, ?_, ?_⟩
  · simp [Instr.takeDeferred, getObj, setObj, Sem.run, g2]
  have hother : ∀ i, i ≠ D → (w.heap.setIfInBounds D (.deferred none))[i]? = w.heap[i]? := fun i hi => by simp [Array.getElem?_setIfInBounds, Ne.symm hi]
  have hcell : ∀ b o v, w.cell? ⟨b, o, none⟩ = some v → World.cell? { w with heap := w.heap.setIfInBounds D (.deferred none) } ⟨b, o, none⟩ = some v := by
    intro b o v hv
    have hb : b ≠ D := by
      intro e
      subst e
      simp [World.cell?, g2] at hv
    rw [World.cell?_of_block (w := w) (by exact hother b hb)]; exact hv
  refine ⟨h.sz, h.bel.trans ⟨rfl, rfl, rfl, by simp, fun i hi => hother i (by omega)⟩, ⟨Ds, rfl, (List.nodup_cons.1 h2).2, fun E hE => ?_⟩, h.tm, h.dom, ?_, h.inj, ?_, h.dis, h.old, fun b o hb => ?_, fun k l r hk => ?_, fun d E hd2 ht => ?_⟩
  · have hne : E ≠ D := fun e => (List.nodup_cons.1 h2).1 (e ▸ hE)
    exact ⟨(h3 E (List.mem_cons_of_mem _ hE)).1, (hother E hne).trans (h3 E (List.mem_cons_of_mem _ hE)).2⟩
  · intro m k hm
    obtain ⟨b, i1, i2, i3, i4⟩ := h.hp m k hm
    refine ⟨b, i1, by simpa using i2, ?_, i4⟩
    cases hk : k.own with
    | false => exact Blk.rel_mono' (Ren.le_refl _) hk i3
    | true =>
      obtain ⟨xs, e, hx⟩ := Blk.own_cells hk i3
      have hne : b.1 ≠ D := by intro e; rw [e, g2] at hx; cases hx
      exact Blk.rel_mono (Ren.le_refl _) (hother _ hne) i3
  · intro b o v hv
    obtain ⟨j1, j2⟩ := h.im b o v hv
    exact ⟨by simpa using j1, hcell b o v j2⟩
  · obtain ⟨j1, j2⟩ := h.fx b o hb
    have hne : b ≠ D := by
      intro e
      have := h.dfx { target := .collected D, args := #[] } D (by rw [hd]; exact List.mem_cons_self ..) rfl
      rw [e, this] at hb; cases hb
    exact ⟨j1, (hother b hne).trans j2⟩
  · have j := h.lp k l r hk
    have hne : l ≠ D := by
      intro e
      rw [e, g2] at j
      have := lpObj_loop r (s.st k)
      obtain ⟨q, hq⟩ := this
      rw [hq] at j; cases j
    exact (hother l hne).trans j
  · exact h.dfx d E (by rw [hd]; exact List.mem_cons_of_mem _ hd2) ht
/-- THE RUN OF A FUNCTION, out of its tree. -/
theorem fn_sound (E : Env P G sg gw) {f : FuncId} {fn : Func} (hf : P.funcs[f]? = some fn) {fuel : Nat} {ags : List Ag} {xs : List Value} {w : World} {κ : Still} {r : List Ar}
    (hgw : gw w) (hl : Lies κ w) (hG : GIn G κ) (hx : F2 (Ag.rel P gw κ) ags xs) (hlen : Nat.ble ags.length fn.ntmps = true)
    (h : (runFn P G sg an fuel fn ags).wp (fun rs => rsEqv rs r)) : Calls P f xs.toArray w (Back κ r w) := by
  unfold runFn at h
  split at h
  · rename_i code hb
    refine (callsIn_wide (n := 0)).1 (callsIn_of_wp_marks (F := Fence.wide) hf hb trivial ?_)
    have hlen' := Nat.le_of_ble_eq_true hlen
    have hxl := f2_len hx
    obtain ⟨ρ, hρ⟩ : ∃ ρ : Ren, ρ = { nm := fun _ => none, κ := κ, cl := fun φ x => CloOK P gw κ φ x, k0 := κ, fx := fun _ => none, lp := fun _ => none } := ⟨_, rfl⟩
    have hx' : F2 (A.rel ρ) (ags.map agA) xs := by
      refine agA_f2 ?_ (by rw [hρ]; exact hx)
      rw [hρ]; exact fun φ x h => h
    have hrel : Rel w fn.ntmps ρ (args0 ags) { tmps := xs.toArray ++ Array.replicate (fn.ntmps - xs.toArray.size) undef, defers := [] } w := by
      refine ⟨by simp; omega, Below.refl _ _, ⟨[], rfl, List.nodup_nil, fun D hD => by cases hD⟩, ?_, ?_, ?_, ?_, ?_, ?_, ?_, by rw [hρ]; exact fun b o hb => (by cases hb), by rw [hρ]; exact fun k l r hk => (by cases hk), fun d D hd => (by cases hd)⟩
      · intro t v ht
        simp only [args0] at ht
        split at ht
        · rename_i g hg
          simp only [Option.some.injEq] at ht; subst ht
          have hg' : (ags.map agA)[t]? = some (agA g) := by simp [hg]
          obtain ⟨x, hxt, hr⟩ := f2_get hx' hg'
          have hlt : t < xs.length := (List.getElem?_eq_some_iff.1 hxt).1
          refine ⟨by omega, ?_⟩
          rw [Array.getD_eq_getD_getElem?, Array.getElem?_append, if_pos (by simpa using hlt)]
          simp only [List.getElem?_toArray, hxt, Option.getD_some]
          exact hr
        · cases ht
      · intro m hm; rw [hρ]
      · intro m k hm; simp [args0] at hm
      · intro m m' k k' b b' hm; simp [args0] at hm
      · rw [hρ]; exact hl
      · intro m k b o hm; simp [args0] at hm
      · intro b o v hv _; rw [hρ] at hv ⊢; exact hv
    have hamb : Amb P G gw ρ := by
      refine ⟨fun g n F e => ⟨⟨g, 0, none⟩, rfl, rfl, ?_⟩, ?_⟩
      · rw [hρ]; exact hG g n F e
      · rw [hρ]; exact fun φ x h => h
    refine wpIn_mono (exec_sound (rr := none) (xok0 E hgw) fuel code hrel ⟨hamb, by rw [hρ]; exact fun k l r hk => by cases hk⟩ (Nat.zero_le _) (T.wp_bind h)) ?_
    have fin : ∀ (s : S) (ρ' : Ren), ρ.up 0 ρ' → (match resL P s fn.results.toList with | some ps => (match finAs P s ps with | some (rs, p) => T.needs p (.ret rs) | none => T.fail) | none => T.fail).wp (fun rs => rsEqv rs r) →
        ∀ (Ds : List Nat) (a' : Act) (w' : World), a'.defers = Ds.map (fun D => { target := .collected D, args := #[] }) → Rel w fn.ntmps ρ' s a' w' → LeavesInM Fence.wide 0 P fn a'.tmps (Back κ r w) a'.defers .returning w' := by
      intro s ρ' hle hr Ds
      have hk0 : ρ'.k0 = κ := by rw [hle.k0, hρ]
      induction Ds with
      | nil =>
        intro a' w' hd hrel'
        rw [hd]
        split at hr
        · rename_i ps hps
          split at hr
          · rename_i rs p hrs
            obtain ⟨hp, heq⟩ := T.wp_needs hr
            have hview : View G ρ' s a' w' := ⟨fun t v ht => (hrel'.tm t v ht).2, fun m k hk => by obtain ⟨b, h1, h2, h3, _⟩ := hrel'.hp m k hk; exact ⟨b, h1, h2, h3⟩, hrel'.im, (hamb.up hle).gl⟩
            obtain ⟨x, hx1, hx2⟩ := results_sound hrel' hview hps hrs hp
            rw [hk0] at hx2
            refine ⟨x, hx1, x, endK κ w.heap.size w', rfl, ?_, ?_, ?_, rsEqv_rel heq hx2, hrel'.bel⟩
            · intro b o v hv
              have hlt := (hl b o v hv).1
              unfold endK
              rw [if_neg (by omega)]; exact hv
            · intro b o v hv
              unfold endK at hv
              split at hv
              · split at hv
                · rename_i hlt; exact ⟨hlt, hv⟩
                · cases hv
              · exact lies_back (κ' := κ) hl hrel'.bel b o v hv
            · intro b o v hv
              unfold endK at hv
              split at hv
              · rename_i hge; exact .inr hge
              · exact .inl hv
          · exact hr.elim
        · exact hr.elim
      | cons D Ds ih =>
        intro a' w' hd hrel'
        rw [hd]
        obtain ⟨w2, htake, hrel2⟩ := taken (P := P) hrel' hd
        refine ⟨by simp, .inl ⟨D, w2, rfl, htake, ?_⟩⟩
        have := ih { a' with defers := Ds.map (fun D => { target := .collected D, args := #[] }) } w2 rfl hrel2
        exact this
    intro e a' w' hc
    cases e <;> simp only [CP, bodyPostM] at hc ⊢
    case normal =>
      obtain ⟨c', s', ρ', hr, hrel', hle⟩ := hc
      obtain ⟨Ds, hDs, _⟩ := hrel'.df
      exact fin s' ρ' hle hr Ds a' w' hDs hrel'
    case ret =>
      obtain ⟨c', s', ρ', hr, hrel', hle⟩ := hc
      obtain ⟨Ds, hDs, _⟩ := hrel'.df
      exact fin s' ρ' hle hr Ds a' w' hDs hrel'
    case exit id => obtain ⟨c', s', ρ', hr, hrel', hle⟩ := hc; exact hr.elim
  · exact h.elim
end
end Go.V
end

section
set_option linter.unusedVariables false
set_option linter.unusedSimpArgs false
namespace Go.V
open Go.RowKit (Below)
section
variable {ρ : Ren} {f : Nat → Option Obj}
theorem crel_fx : C.rel { ρ with fx := f } = C.rel ρ := by
  funext c x
  cases c <;> rfl
theorem arel_fx : A.rel { ρ with fx := f } = A.rel ρ := by
  funext c x
  cases c with
  | c y => exact congrFun (congrFun crel_fx y) x
  | agg cs => simp only [A.rel, crel_fx]
theorem vrel_fx : V.rel { ρ with fx := f } = V.rel ρ := by
  funext c x
  cases c with
  | a y => exact congrFun (congrFun arel_fx y) x
  | tup cs => simp only [V.rel, arel_fx]
theorem brel_fx {b : Nat × Nat} {w : World} {k : Blk} : Blk.rel { ρ with fx := f } b w k = Blk.rel ρ b w k := by
  cases k <;> simp only [Blk.rel, crel_fx]
end
/-- A result as a slot's content. -/
def vOfA : List A → V
  | [a] => .a a
  | l => .tup l
/-- A callee's state: its arguments on the caller's heap. -/
def argsS (args : List A) (s : S) : S := { s with tm := fun t => match args[t]? with | some g => some (.a g) | none => none }
/-- A call that is carried out on the caller's heap. -/
def callT (P : Program) (N : Nat) (ex : Code → (Nat → Bool) → Nat → S → T St3) (fn : Func) (args : List A) (wk : Nat → Bool) (c : Nat) (s : S) : T (V × Nat × S) :=
  match fn.body, keepT s c [] N && Nat.ble args.length fn.ntmps with
  | some code, true => (ex code wk c (argsS args s)).bind fun r => match r with
    | (.exit _, _, _) => .fail
    | (_, c', s') => (match resL P s' fn.results.toList with
      | some ps => .ret (vOfA ps, c', { s' with tm := s.tm })
      | none => .fail)
  | _, _ => .fail
section
variable {P : Program} {G : GT} {N : Nat} {gw : World → Prop} {w0 : World} {lv : Nat}
end
end Go.V
end

section
set_option linter.unusedVariables false
set_option linter.unusedSimpArgs false
namespace Go.V
open Go.RowKit (Below)
/-- The renaming with other fixed objects and other loops. -/
def Ren.lps (ρ : Ren) (f : Nat → Option Obj) (l : Nat → Option (Nat × Loop)) : Ren := { ρ with fx := f, lp := l }
section
variable {ρ : Ren} {f : Nat → Option Obj} {lp' : Nat → Option (Nat × Loop)} {w : World}
/-- Of no yield of level k. -/
def C.noYl (k : Nat) : C → Bool
  | .yl j => !Nat.beq j k
  | _ => true
theorem crel_lps {k : Nat} (h : ∀ j p, j ≠ k → ρ.lp j = some p → lp' j = some p) {c : C} {x : Value} (hc : c.noYl k = true) (r : c.rel ρ x) : c.rel (ρ.lps f lp') x := by
  cases c with
  | yl j =>
    obtain ⟨l, q, e, hx⟩ := r
    refine ⟨l, q, h j _ ?_ e, hx⟩
    intro e; subst e
    simp [C.noYl] at hc
  | _ => exact r
theorem f2_lps {k : Nat} (h : ∀ j p, j ≠ k → ρ.lp j = some p → lp' j = some p) : ∀ {cs : List C} {xs : List Value}, cs.all (C.noYl k) = true → F2 (C.rel ρ) cs xs → F2 (C.rel (ρ.lps f lp')) cs xs
  | _, _, _, .nil => .nil
  | _, _, hc, .cons r rs => by
    simp only [List.all_cons, Bool.and_eq_true] at hc
    exact .cons (crel_lps h hc.1 r) (f2_lps h hc.2 rs)
theorem brel_lps {k : Nat} (h : ∀ j p, j ≠ k → ρ.lp j = some p → lp' j = some p) {b : Nat × Nat} {y : Blk} (hc : ∀ e cs, y = .known e cs → cs.all (C.noYl k) = true) (r : y.rel ρ b w) : y.rel (ρ.lps f lp') b w := by
  cases y with
  | known e cs => obtain ⟨xs, h1, h2⟩ := r; exact ⟨xs, f2_lps h (hc e cs rfl) h1, h2⟩
  | row => exact r
  | fz => exact r
  | dead => trivial
/-- With more loops. -/
theorem crel_more (h : ∀ j p, ρ.lp j = some p → lp' j = some p) {c : C} {x : Value} (r : c.rel ρ x) : c.rel (ρ.lps f lp') x := by
  cases c with
  | yl j => obtain ⟨l, q, e, hx⟩ := r; exact ⟨l, q, h j _ e, hx⟩
  | _ => exact r
theorem f2_more (h : ∀ j p, ρ.lp j = some p → lp' j = some p) : ∀ {cs : List C} {xs : List Value}, F2 (C.rel ρ) cs xs → F2 (C.rel (ρ.lps f lp')) cs xs
  | _, _, .nil => .nil
  | _, _, .cons r rs => .cons (crel_more h r) (f2_more h rs)
theorem arel_more (h : ∀ j p, ρ.lp j = some p → lp' j = some p) {y : A} {x : Value} (r : y.rel ρ x) : y.rel (ρ.lps f lp') x := by
  cases y with
  | c c => exact crel_more h r
  | agg cs => obtain ⟨xs, h1, h2⟩ := r; exact ⟨xs, f2_more h h1, h2⟩
theorem af2_more (h : ∀ j p, ρ.lp j = some p → lp' j = some p) : ∀ {cs : List A} {xs : List Value}, F2 (A.rel ρ) cs xs → F2 (A.rel (ρ.lps f lp')) cs xs
  | _, _, .nil => .nil
  | _, _, .cons r rs => .cons (arel_more h r) (af2_more h rs)
theorem vrel_more (h : ∀ j p, ρ.lp j = some p → lp' j = some p) {y : V} {x : Value} (r : y.rel ρ x) : y.rel (ρ.lps f lp') x := by
  cases y with
  | a y => exact arel_more h r
  | tup cs => obtain ⟨xs, h1, h2⟩ := r; exact ⟨xs, af2_more h h1, h2⟩
theorem brel_more (h : ∀ j p, ρ.lp j = some p → lp' j = some p) {b : Nat × Nat} {y : Blk} (r : y.rel ρ b w) : y.rel (ρ.lps f lp') b w := by
  cases y with
  | known e cs => obtain ⟨xs, h1, h2⟩ := r; exact ⟨xs, f2_more h h1, h2⟩
  | row => exact r
  | fz => exact r
  | dead => trivial
end
/-- Blocks that hold a yield of level k are given up. -/
def cleanH (k : Nat) (hp : Nat → Option Blk) : Nat → Option Blk := fun m => match hp m with
  | some (.known e cs) => (match cs.all (C.noYl k) with | true => some (.known e cs) | false => some .dead)
  | x => x
def cleanOk (k c : Nat) (hp : Nat → Option Blk) : Bool := (List.range c).all fun m => match hp m with
  | some (.known _ cs) => cs.all (C.noYl k)
  | _ => true
theorem cleanH_of {k m : Nat} {hp : Nat → Option Blk} {y : Blk} (h : cleanH k hp m = some y) : ∃ y0, hp m = some y0 ∧ (y = .dead ∨ (y = y0 ∧ ∀ e cs, y0 = .known e cs → cs.all (C.noYl k) = true)) := by
  unfold cleanH at h
  split at h
  · rename_i e cs hm
    split at h
    · rename_i hc
      cases h
      exact ⟨_, hm, .inr ⟨rfl, fun e' cs' he => by cases he; exact hc⟩⟩
    · cases h; exact ⟨_, hm, .inl rfl⟩
  · rename_i x hn
    exact ⟨y, h, .inr ⟨rfl, fun e cs he => absurd (h.trans (by rw [he])) (hn e cs)⟩⟩
theorem cleanH_none {k m : Nat} {hp : Nat → Option Blk} (h : cleanH k hp m = none) : hp m = none := by
  unfold cleanH at h
  split at h
  · split at h <;> cases h
  · exact h
theorem cleanH_low {k c m : Nat} {hp : Nat → Option Blk} (h : cleanOk k c hp = true) (hm : m < c) : cleanH k hp m = hp m := by
  have := List.all_eq_true.1 h m (List.mem_range.2 hm)
  unfold cleanH
  split
  · rename_i e cs he
    rw [he] at this
    simp only at this
    rw [this, he]
  · rfl
section
variable {N : Nat} {w0 : World} {ρ : Ren} {s : S} {a : Act} {w : World}
/-- A loop over a function begins: its record and the block for deferred calls are laid. -/
theorem Rel.begin (h : Rel w0 N ρ s a w) {k : Nat} (hk : ρ.lp k = none) (hs : s.st k = none) (r : Loop) :
    Rel w0 N (ρ.lps ρ.fx (upd ρ.lp k (some (w.heap.size + 1, r)))) s { a with defers := { target := .collected w.heap.size, args := #[] } :: a.defers } ((w.alloc (.deferred (some []))).alloc (lpObj r none)) := by
  obtain ⟨W, hW⟩ : ∃ W, W = (w.alloc (.deferred (some []))).alloc (lpObj r none) := ⟨_, rfl⟩
  rw [← hW]
  have hsz : W.heap.size = w.heap.size + 2 := by rw [hW, World.size_alloc, World.size_alloc]
  have hold : ∀ i, i < w.heap.size → W.heap[i]? = w.heap[i]? := by
    intro i hi
    rw [hW]
    exact (Below.heap_alloc _ _ _ (by rw [World.size_alloc]; omega)).trans (Below.heap_alloc _ _ _ hi)
  have hD : W.heap[w.heap.size]? = some (.deferred (some [])) := by rw [hW]; exact (Below.heap_alloc _ _ _ (by rw [World.size_alloc]; omega)).trans (World.alloc_heap_new w _)
  have hl : W.heap[w.heap.size + 1]? = some (lpObj r none) := by rw [hW]; have := World.alloc_heap_new (w.alloc (.deferred (some []))) (lpObj r none); rwa [World.size_alloc] at this
  have hstay : ∀ (i : Nat) (o : Obj), w.heap[i]? = some o → W.heap[i]? = some o := fun i o hi => (hold i (Array.getElem?_eq_some_iff.1 hi).1).trans hi
  have more : ∀ j p, ρ.lp j = some p → upd ρ.lp k (some (w.heap.size + 1, r)) j = some p := by
    intro j p hj
    have : j ≠ k := fun e => by rw [e, hk] at hj; cases hj
    rw [upd_ne _ _ this]; exact hj
  refine ⟨h.sz, h.bel.trans ⟨by rw [hW]; rfl, by rw [hW]; rfl, by rw [hW]; rfl, by omega, fun i hi => hold i (Nat.lt_of_lt_of_le hi h.bel.size)⟩, ?_, ?_, h.dom, ?_, h.inj, ?_, h.dis, h.old, ?_, ?_, ?_⟩
  · obtain ⟨Ds, e1, e2, e3⟩ := h.df
    refine ⟨w.heap.size :: Ds, by simp [e1], List.nodup_cons.2 ⟨fun hm => ?_, e2⟩, fun D hDm => ?_⟩
    · have := (Array.getElem?_eq_some_iff.1 (e3 _ hm).2).1
      omega
    · rcases List.mem_cons.1 hDm with rfl | hDm
      · exact ⟨h.bel.size, hD⟩
      · exact ⟨(e3 D hDm).1, hstay D _ (e3 D hDm).2⟩
  · intro t v ht
    obtain ⟨g1, g2⟩ := h.tm t v ht
    exact ⟨g1, vrel_more more g2⟩
  · intro m y hm
    obtain ⟨b, g1, g2, g3, g4⟩ := h.hp m y hm
    exact ⟨b, g1, by omega, brel_more more (Blk.rel_mono (Ren.le_refl _) (hold _ g2) g3), g4⟩
  · intro b o v hv
    obtain ⟨g1, g2⟩ := h.im b o v hv
    exact ⟨by omega, (World.cell?_of_block (w := w) (hold b g1)).trans g2⟩
  · intro b o hb
    obtain ⟨g1, g2⟩ := h.fx b o hb
    exact ⟨g1, hstay b o g2⟩
  · intro j l q hj
    by_cases e : j = k
    · subst e
      have hj : upd ρ.lp j (some (w.heap.size + 1, r)) j = some (l, q) := hj
      rw [upd_same] at hj
      cases hj
      rw [hs]; exact hl
    · have hj : upd ρ.lp k (some (w.heap.size + 1, r)) j = some (l, q) := hj
      rw [upd_ne _ _ e] at hj
      exact hstay l _ (h.lp j l q hj)
  · intro d D hd ht
    rcases List.mem_cons.1 hd with rfl | hd
    · simp only [Target.collected.injEq] at ht
      subst ht
      cases hf : ρ.fx w.heap.size with
      | none => exact hf
      | some o =>
        have := (Array.getElem?_eq_some_iff.1 (h.fx _ o hf).2).1
        omega
    · exact h.dfx d D hd ht
/-- Where loops' records lie. -/
structure LpOK (w0 : World) (ρ : Ren) : Prop where
  fx : ∀ k l r, ρ.lp k = some (l, r) → ρ.fx l = none
  base : ∀ k l r, ρ.lp k = some (l, r) → w0.heap.size ≤ l
  inj : ∀ k j l r q, ρ.lp k = some (l, r) → ρ.lp j = some (l, q) → j = k
/-- A loop's record turns. -/
theorem Rel.turn (h : Rel w0 N ρ s a w) (hL : LpOK w0 ρ) {k l : Nat} {r : Loop} (hk : ρ.lp k = some (l, r)) (e : Option Ex) : Rel w0 N ρ { s with st := upd s.st k e } a (w.putObj l (lpObj r e)) := by
  have h0 := h.lp k l r hk
  have hlt : l < w.heap.size := (Array.getElem?_eq_some_iff.1 h0).1
  obtain ⟨q0, hq0⟩ := lpObj_loop r (s.st k)
  rw [hq0] at h0
  obtain ⟨W, hW⟩ : ∃ W, W = w.putObj l (lpObj r e) := ⟨_, rfl⟩
  rw [← hW]
  have hother : ∀ i, i ≠ l → W.heap[i]? = w.heap[i]? := fun i hi => by rw [hW]; exact World.putObj_heap_other hi
  have hsame : W.heap[l]? = some (lpObj r e) := by rw [hW]; exact World.putObj_heap_same hlt
  have hsz : W.heap.size = w.heap.size := by rw [hW]; simp [World.putObj]
  refine ⟨h.sz, h.bel.trans ⟨by rw [hW]; rfl, by rw [hW]; rfl, by rw [hW]; rfl, by omega, fun i hi => hother i (fun he => by have := hL.base k l r hk; omega)⟩, ?_, h.tm, h.dom, ?_, h.inj, ?_, h.dis, h.old, ?_, ?_, h.dfx⟩
  · obtain ⟨Ds, e1, e2, e3⟩ := h.df
    refine ⟨Ds, e1, e2, fun D hD => ⟨(e3 D hD).1, (hother D fun he => ?_).trans (e3 D hD).2⟩⟩
    have := (e3 D hD).2
    rw [he, h0] at this; cases this
  · intro m y hm
    obtain ⟨b, g1, g2, g3, g4⟩ := h.hp m y hm
    refine ⟨b, g1, by omega, ?_, g4⟩
    cases hy : y.own with
    | false => exact Blk.rel_mono' (Ren.le_refl _) hy g3
    | true =>
      obtain ⟨xs, t, hx⟩ := Blk.own_cells hy g3
      exact Blk.rel_mono (Ren.le_refl _) (hother _ fun he => by rw [he, h0] at hx; cases hx) g3
  · intro b o v hv
    obtain ⟨g1, g2⟩ := h.im b o v hv
    refine ⟨by omega, ?_⟩
    have hne : b ≠ l := by
      intro he; subst he
      simp [World.cell?, h0] at g2
    exact (World.cell?_of_block (w := w) (hother b hne)).trans g2
  · intro b o hb
    obtain ⟨g1, g2⟩ := h.fx b o hb
    refine ⟨g1, (hother b fun he => ?_).trans g2⟩
    rw [he, hL.fx k l r hk] at hb; cases hb
  · intro j l' q hj
    by_cases hjk : j = k
    · subst hjk
      rw [hk] at hj; cases hj
      show W.heap[l]? = some (lpObj r (upd s.st j e j))
      rw [upd_same]; exact hsame
    · have hne : l' ≠ l := by
        intro he; subst he
        exact hjk (hL.inj k j l' r q hk hj)
      show W.heap[l']? = some (lpObj q (upd s.st k e j))
      rw [upd_ne _ _ hjk]
      exact (hother l' hne).trans (h.lp j l' q hj)
end
end Go.V
end

section
set_option linter.unusedVariables false
set_option linter.unusedSimpArgs false
namespace Go.V
open Go.RowKit (Below)
section
variable {N : Nat} {w0 : World} {ρ : Ren} {s : S} {a : Act} {w : World}
/-- A FRAME RESTS: another one may run on its heap; behind it the frame goes on. -/
theorem Rel.rest (h : Rel w0 N ρ s a w) : ∃ fx' : Nat → Option Obj,
    (∀ N1 (tm1 : Nat → Option V) (tmps1 : Array Value), tmps1.size = N1 → (∀ t v, tm1 t = some v → t < N1 ∧ v.rel ρ (tmps1.getD t undef)) → Rel w0 N1 { ρ with fx := fx' } { s with tm := tm1 } { tmps := tmps1, defers := [] } w) ∧
    (LpOK w0 ρ → LpOK w0 { ρ with fx := fx' }) ∧
    (∀ c ρ2 s2 N1 a2 w2, Rel w0 N1 ρ2 s2 a2 w2 → Ren.up c { ρ with fx := fx' } ρ2 → keepT s c [] N = true → Rel w0 N { ρ2 with fx := ρ.fx } { s2 with tm := s.tm } a w2 ∧ ρ.up c { ρ2 with fx := ρ.fx }) := by
  obtain ⟨fx', hfx⟩ : ∃ fx' : Nat → Option Obj, ∀ D, ((∃ d, d ∈ a.defers ∧ d.target = .collected D) → fx' D = some (.deferred (some []))) ∧ (¬ (∃ d, d ∈ a.defers ∧ d.target = .collected D) → fx' D = ρ.fx D) :=
    ⟨fun D => @ite _ (∃ d, d ∈ a.defers ∧ d.target = .collected D) (Classical.propDecidable _) (some (.deferred (some []))) (ρ.fx D), fun D => ⟨fun h => if_pos h, fun h => if_neg h⟩⟩
  have hmark : ∀ D, (∃ d, d ∈ a.defers ∧ d.target = .collected D) → w.heap[D]? = some (.deferred (some [])) := by
    rintro D ⟨d, hd, ht⟩
    obtain ⟨Ds, e, _, h3⟩ := h.df
    rw [e] at hd
    obtain ⟨D', hD', rfl⟩ := List.mem_map.1 hd
    simp only [Target.collected.injEq] at ht
    subst ht
    exact (h3 D' hD').2
  refine ⟨fx', ?_, ?_, ?_⟩
  · intro N1 tm1 tmps1 hsz htm
    refine ⟨hsz, h.bel, ⟨[], rfl, List.nodup_nil, fun D hD => by cases hD⟩, ?_, h.dom, ?_, h.inj, h.im, h.dis, h.old, ?_, h.lp, fun d D hd => by cases hd⟩
    · intro t v ht
      rw [vrel_fx]
      exact htm t v ht
    · intro m k hm
      obtain ⟨b, h1, h2, h3, h4⟩ := h.hp m k hm
      exact ⟨b, h1, h2, by rw [brel_fx]; exact h3, h4⟩
    · intro b o hb2
      have hb2 : fx' b = some o := hb2
      by_cases hm : ∃ d, d ∈ a.defers ∧ d.target = .collected b
      · rw [show fx' b = _ from (hfx b).1 hm] at hb2
        cases hb2
        exact ⟨rfl, hmark b hm⟩
      · rw [show fx' b = _ from (hfx b).2 hm] at hb2
        exact h.fx b o hb2
  · intro hL
    refine ⟨fun k l r hk => ?_, hL.base, hL.inj⟩
    show fx' l = none
    have hno : ¬ ∃ d, d ∈ a.defers ∧ d.target = .collected l := by
      intro hm
      have h1 := hmark l hm
      obtain ⟨q, hq⟩ := lpObj_loop r (s.st k)
      have h2 := h.lp k l r hk
      rw [h1, hq] at h2
      cases h2
    rw [(hfx l).2 hno]
    exact hL.fx k l r hk
  · intro c ρ2 s2 N1 a2 w2 h2 hle hck
    refine ⟨?_, ⟨hle.κ, hle.cl, hle.k0, rfl, hle.lp, hle.nm⟩⟩
    refine ⟨h.sz, h2.bel, ?_, ?_, h2.dom, ?_, h2.inj, h2.im, h2.dis, h2.old, ?_, h2.lp, h.dfx⟩
    · obtain ⟨Es, e1, e2, e3⟩ := h.df
      refine ⟨Es, e1, e2, fun D hD => ⟨(e3 D hD).1, ?_⟩⟩
      refine (h2.fx D (.deferred (some [])) ?_).2
      rw [hle.fx]
      exact (hfx D).1 ⟨_, by rw [e1]; exact List.mem_map_of_mem hD, rfl⟩
    · intro t v ht
      obtain ⟨g1, g2⟩ := h.tm t v ht
      refine ⟨g1, ?_⟩
      rw [vrel_fx]
      exact V.rel_ren hle.κ ⟨hle.cl, fun k p e => by rw [hle.lp]; exact e⟩ (fun m hm b e => hle.nm m b (keepT_at hck g1 rfl ht m hm) e) g2
    · intro m k hm
      obtain ⟨b, g1, g2, g3, g4⟩ := h2.hp m k hm
      exact ⟨b, g1, g2, by rw [brel_fx]; exact g3, g4⟩
    · intro b o hb2
      have hb2 : ρ.fx b = some o := hb2
      by_cases hm : ∃ d, d ∈ a.defers ∧ d.target = .collected b
      · obtain ⟨d, hd2, ht⟩ := hm
        rw [show ρ.fx b = none from h.dfx d b hd2 ht] at hb2
        cases hb2
      · refine h2.fx b o ?_
        rw [hle.fx]
        exact ((hfx b).2 hm).trans hb2
end
end Go.V
end

section
set_option linter.unusedVariables false
set_option linter.unusedSimpArgs false
namespace Go.V
open Go.RowKit (Below)
/-- The loop's parameters take yield's arguments. -/
def setPs (tm : Nat → Option V) : List Nat → List A → Nat → Option V
  | p :: ps, x :: xs => setPs (upd tm p (some (.a x))) ps xs
  | _, _ => tm
theorem setPs_rel {ρ : Ren} {N0 : Nat} : ∀ {ps : List Nat} {args : List A} {xs : List Value} {tm : Nat → Option V} {tmps : Array Value}, F2 (A.rel ρ) args xs → tmps.size = N0 → (∀ p, p ∈ ps → p < N0) →
    (∀ t v, tm t = some v → t < N0 ∧ v.rel ρ (tmps.getD t undef)) →
    ((ps.zip xs).foldl (fun tmps (q : Nat × Value) => tmps.setIfInBounds q.1 q.2) tmps).size = N0 ∧
    ∀ t v, setPs tm ps args t = some v → t < N0 ∧ v.rel ρ (((ps.zip xs).foldl (fun tmps (q : Nat × Value) => tmps.setIfInBounds q.1 q.2) tmps).getD t undef)
  | [], _, _, tm, tmps, _, hs, _, ht => by simp only [List.zip_nil_left, List.foldl_nil, setPs]; exact ⟨hs, ht⟩
  | p :: ps, _, _, tm, tmps, .nil, hs, _, ht => by simp only [List.zip_nil_right, List.foldl_nil, setPs]; exact ⟨hs, ht⟩
  | p :: ps, _, _, tm, tmps, .cons (a := x) (b := y) r rs, hs, hp, ht => by
    simp only [List.zip_cons_cons, List.foldl_cons, setPs]
    refine setPs_rel rs (by simpa using hs) (fun q hq => hp q (List.mem_cons_of_mem _ hq)) ?_
    intro t v hv
    have hpl := hp p (List.mem_cons_self ..)
    by_cases e : t = p
    · subst e
      rw [upd_same] at hv; cases hv
      refine ⟨hpl, ?_⟩
      rw [Array.getD_eq_getD_getElem?, Array.getElem?_setIfInBounds]
      simp [hs, hpl]
      exact r
    · rw [upd_ne _ _ e] at hv
      obtain ⟨g1, g2⟩ := ht t v hv
      refine ⟨g1, ?_⟩
      rw [Array.getD_eq_getD_getElem?, Array.getElem?_setIfInBounds, if_neg (Ne.symm e), ← Array.getD_eq_getD_getElem?]
      exact g2
abbrev Run := Code → (Nat → Bool) → Nat → S → T St3
/-- ONE ROUND: the assignments to the loop's left sides, then the body, both with the caller's slots. -/
def roundT (k : Nat) (exB : Run) (ps : List Nat) (x y : Code) (tm0 : Nat → Option V) (args : List A) (wk : Nat → Bool) (c : Nat) (s : S) : T (Bool × Nat × S) :=
  match s.st k with
  | none => (exB x wk c { s with tm := setPs tm0 ps args }).bind fun r => match r with
    | (.normal, c1, s1) => (match s1.st k with
      | none => (exB y wk c1 { s1 with st := upd s1.st k (some .normal) }).bind fun r => match r with
        | (.normal, c2, s2) => .ret (true, c2, { s2 with tm := s.tm, st := upd s2.st k none })
        | (.exit i, c2, s2) => .ret (false, c2, { s2 with tm := s.tm, st := upd s2.st k (some (.exit i)) })
        | (.ret, c2, s2) => .ret (false, c2, { s2 with tm := s.tm, st := upd s2.st k (some .ret) })
      | _ => .fail)
    | _ => .fail
  | _ => .fail
end Go.V
end

section
set_option linter.unusedVariables false
set_option linter.unusedSimpArgs false
namespace Go.V
open Go.RowKit (Below)
section
variable {P : Program} {G : GT} {N N0 : Nat} {gw : World → Prop} {w0 : World} {lv : Nat}
theorem LpOK.up {c : Nat} {ρ ρ' : Ren} (h : LpOK w0 ρ) (hle : ρ.up c ρ') : LpOK w0 ρ' where
  fx := fun k l r hk => by rw [hle.fx]; exact h.fx k l r (by rw [← hle.lp]; exact hk)
  base := fun k l r hk => h.base k l r (by rw [← hle.lp]; exact hk)
  inj := fun k j l r q hk hj => h.inj k j l r q (by rw [← hle.lp]; exact hk) (by rw [← hle.lp]; exact hj)
theorem Amb.fxs {ρ : Ren} {f : Nat → Option Obj} (h : Amb P G gw ρ) : Amb P G gw { ρ with fx := f } := ⟨fun g n F e => by rw [crel_fx]; exact h.gl g n F e, h.cl⟩
/-- What is known of the surroundings all the time, at whatever level. -/
structure KOK (P : Program) (G : GT) (gw : World → Prop) (w0 : World) (lv cz : Nat) (K : Ren → Prop) : Prop where
  amb : ∀ {ρ}, K ρ → Amb P G gw ρ
  lpk : ∀ {ρ}, K ρ → LpOK w0 ρ
  lvl : ∀ {ρ}, K ρ → ∀ k l r, ρ.lp k = some (l, r) → k < lv
  up : ∀ {ρ ρ'}, K ρ → ρ.up cz ρ' → K ρ'
  fxs : ∀ {ρ : Ren} fx', K ρ → LpOK w0 { ρ with fx := fx' } → K { ρ with fx := fx' }
  more : ∀ {ρ : Ren} k p, K ρ → ρ.lp k = none → k < lv → LpOK w0 (ρ.lps ρ.fx (upd ρ.lp k (some p))) → K (ρ.lps ρ.fx (upd ρ.lp k (some p)))
theorem KOK.later {cz cy : Nat} {K : Ren → Prop} (h : KOK P G gw w0 lv cz K) (hc : cz ≤ cy) : KOK P G gw w0 lv cy K :=
  ⟨h.amb, h.lpk, h.lvl, fun k hle => h.up k (hle.less hc), h.fxs, h.more⟩
theorem round_sound {k l cz : Nat} {r : Loop} {exB : Run} {ps : List Nat} {x y : Code} {tm0 : Nat → Option V} {K : Ren → Prop} (hK : KOK P G gw w0 lv cz K)
    (E : ∀ (code : Code) {wk : Nat → Bool} {c : Nat} {s : S} {R : St3 → Prop} {ρ : Ren} {a : Act} {w : World}, Rel w0 N0 ρ s a w → K ρ → cz ≤ c → (exB code wk c s).wp R → code.wpIn (Fd (some l)) 0 P (CP c w0 N0 ρ R) a w)
    (EK : ∀ (code : Code) wk c s, (exB code wk c s).all fun r => c ≤ r.2.1)
    (hps : ∀ p, p ∈ ps → p < N0) (hrp : r.params.toList = ps) (hrx : r.assign = x) (hry : r.body = y) (hrt : r.tmps.size = N0)
    {args : List A} {xs : List Value} {wk : Nat → Bool} {c : Nat} {s : S} {R : Bool × Nat × S → Prop} {ρ : Ren} {a : Act} {w : World}
    (hrel : Rel w0 N ρ s a w) (hKρ : K ρ) (hcz : cz ≤ c) (hk : ρ.lp k = some (l, r)) (hck : keepT s c [] N = true)
    (htm : ∀ t v, tm0 t = some v → t < N0 ∧ v.rel ρ (r.tmps.getD t undef)) (hx : F2 (A.rel ρ) args xs) (hlen : args.length = ps.length)
    (h : (roundT k exB ps x y tm0 args wk c s).wp R) :
    YieldAt (Fd none) 0 P l xs.toArray w fun e w' => ∃ b c' s' ρ', e = .returned (.bool b) ∧ R (b, c', s') ∧ s'.tm = s.tm ∧ Rel w0 N ρ' s' a w' ∧ ρ.up c ρ' := by
  unfold roundT at h
  split at h
  · rename_i hst
    obtain ⟨fx', hrest, hLx, hback⟩ := hrel.rest
    have hL := hK.lpk hKρ
    have hKx := hK.fxs fx' hKρ (hLx hL)
    have h0 := hrel.lp k l r hk
    rw [hst] at h0
    have hxl := f2_len hx
    have hsz : xs.toArray.size = r.params.size := by
      have : r.params.size = ps.length := by rw [← hrp]; simp
      simp; omega
    refine ⟨_, _, _, _, run_yield h0 hsz, ?_⟩
    refine roundIn_of_wpIn trivial ?_
    simp only [hrx, hry]
    have hset := setPs_rel (ps := ps) (args := args) (xs := xs) (tm := tm0) (tmps := r.tmps) hx hrt hps htm
    have hfold : (r.params.zip xs.toArray).foldl (fun tmps (t, a) => tmps.setIfInBounds t a) r.tmps = (ps.zip xs).foldl (fun tmps (q : Nat × Value) => tmps.setIfInBounds q.1 q.2) r.tmps := by
      rw [← Array.foldl_toList, Array.toList_zip, hrp]
    rw [hfold]
    have hrel1 := hrest N0 _ _ hset.1 hset.2
    have h1 := T.wp_all (T.wp_bind h) (EK x _ _ _)
    refine wpIn_mono (E x hrel1 hKx hcz h1) ?_
    intro e a1 w1 hc
    cases e <;> simp only [CP, Exit.then] at hc ⊢
    case exit i => obtain ⟨c1, s1, ρ1, ⟨hr, _⟩, _⟩ := hc; exact hr.elim
    case ret => obtain ⟨c1, s1, ρ1, ⟨hr, _⟩, _⟩ := hc; exact hr.elim
    obtain ⟨c1, s1, ρ1, ⟨hr, hc1⟩, hrel1', hle1⟩ := hc
    have hL1 : LpOK w0 ρ1 := (hLx hL).up hle1
    have hk1 : ρ1.lp k = some (l, r) := by rw [hle1.lp]; exact hk
    split at hr
    · rename_i hst1
      have hb := hrel1'.lp k l r hk1
      rw [hst1] at hb
      refine ⟨_, run_beginRound hb rfl, ?_⟩
      have hrel2 := hrel1'.turn hL1 hk1 (some .normal)
      have h2 := T.wp_all (T.wp_bind hr) (EK y _ _ _)
      have hK1 := hK.up hKx (hle1.less hcz)
      refine wpIn_mono (E y hrel2 hK1 (Nat.le_trans hcz hc1) h2) ?_
      have fin : ∀ (e : Option Ex) (j : Option Code) (c2 : Nat) (s2 : S) (ρ2 : Ren) (a2 : Act) (w2 : World), (∀ q : Loop, (∃ z, lpObj r z = .loop q) → Obj.loop { q with state := if j.isNone then .ready else .done, pending := j } = lpObj r e) →
          Rel w0 N0 ρ2 s2 a2 w2 → Ren.up c1 ρ1 ρ2 → R (j.isNone, c2, { s2 with tm := s.tm, st := upd s2.st k e }) →
          ∃ v w', (Instr.endRound l j).run P w2 = .ok v w' ∧ ∃ b c' s' ρ', (Ending.returned v) = .returned (.bool b) ∧ R (b, c', s') ∧ s'.tm = s.tm ∧ Rel w0 N ρ' s' a w' ∧ ρ.up c ρ' := by
        intro e j c2 s2 ρ2 a2 w2 hq hrel3 hle2 hR
        have hk2 : ρ2.lp k = some (l, r) := by rw [hle2.lp]; exact hk1
        have h3 := hrel3.lp k l r hk2
        obtain ⟨q, hq0⟩ := lpObj_loop r (s2.st k)
        rw [hq0] at h3
        have hrun := run_endRound (P := P) j h3
        rw [hq q ⟨_, hq0⟩] at hrun
        have hrel4 := hrel3.turn (hL1.up hle2) hk2 e
        obtain ⟨g1, g2⟩ := hback c _ _ _ _ _ hrel4 (Ren.up_trans hle1 (hle2.less hc1)) hck
        exact ⟨_, _, hrun, _, c2, _, _, rfl, hR, rfl, g1, g2⟩
      intro e a2 w2 hc2
      cases e <;> simp only [CP, roundPost] at hc2 ⊢
      case normal =>
        obtain ⟨c2, s2, ρ2, ⟨hr2, _⟩, hrel3, hle2⟩ := hc2
        refine fin none none c2 s2 ρ2 a2 w2 ?_ hrel3 hle2 hr2
        rintro q ⟨z, hz⟩
        cases z with
        | none => cases hz; rfl
        | some z => cases z <;> (cases hz; rfl)
      case exit i =>
        obtain ⟨c2, s2, ρ2, ⟨hr2, _⟩, hrel3, hle2⟩ := hc2
        refine fin (some (.exit i)) (some (.exit i)) c2 s2 ρ2 a2 w2 ?_ hrel3 hle2 hr2
        rintro q ⟨z, hz⟩
        cases z with
        | none => cases hz; rfl
        | some z => cases z <;> (cases hz; rfl)
      case ret =>
        obtain ⟨c2, s2, ρ2, ⟨hr2, _⟩, hrel3, hle2⟩ := hc2
        refine fin (some .ret) (some .ret) c2 s2 ρ2 a2 w2 ?_ hrel3 hle2 hr2
        rintro q ⟨z, hz⟩
        cases z with
        | none => cases hz; rfl
        | some z => cases z <;> (cases hz; rfl)
    · exact hr.elim
  · exact h.elim
end
end Go.V
end

section
set_option linter.unusedVariables false
set_option linter.unusedSimpArgs false
namespace Go.V
open Go.RowKit (Below)
section
variable {P : Program} {G : GT} {N : Nat} {gw : World → Prop} {w0 : World}
theorem callK_sound {K : Ren → Prop} {ex : Run} {f : FuncId} {fn : Func} (hf : P.funcs[f]? = some fn)
    {args : List A} {xs : List Value} {wk : Nat → Bool} {c : Nat} {s : S} {R : V × Nat × S → Prop}
    (E : ∀ (code : Code) {s : S} {R : St3 → Prop} {ρ : Ren} {a : Act} {w : World}, Rel w0 fn.ntmps ρ s a w → K ρ → (ex code wk c s).wp R → code.wpIn (Fd none) 0 P (CP c w0 fn.ntmps ρ R) a w)
    {ρ : Ren} {a : Act} {w : World} (hrel : Rel w0 N ρ s a w) (hgl : Amb P G gw ρ) (hK : ∀ fx', (LpOK w0 ρ → LpOK w0 { ρ with fx := fx' }) → K { ρ with fx := fx' }) (hx : F2 (A.rel ρ) args xs) (h : (callT P N ex fn args wk c s).wp R) :
    CallsIn (Fd none) 0 P f xs.toArray w fun e w' => ∃ x v c' s' ρ', e = .returned x ∧ v.rel ρ' x ∧ R (v, c', s') ∧ s'.tm = s.tm ∧ Rel w0 N ρ' s' a w' ∧ ρ.up c ρ' := by
  unfold callT at h
  split at h
  · rename_i code hb hck
    simp only [Bool.and_eq_true] at hck
    have hlen := Nat.le_of_ble_eq_true hck.2
    have hxl := f2_len hx
    obtain ⟨fx', hrest, hLx, hback⟩ := hrel.rest
    have hrel1 := hrest fn.ntmps (argsS args s).tm (xs.toArray ++ Array.replicate (fn.ntmps - xs.toArray.size) undef) (by simp; omega) (by
      intro t v ht
      simp only [argsS] at ht
      split at ht
      · rename_i g hg
        simp only [Option.some.injEq] at ht; subst ht
        obtain ⟨x, hxt, hr⟩ := f2_get hx hg
        have hlt : t < xs.length := (List.getElem?_eq_some_iff.1 hxt).1
        refine ⟨by omega, ?_⟩
        rw [Array.getD_eq_getD_getElem?, Array.getElem?_append, if_pos (by simpa using hlt)]
        simp only [List.getElem?_toArray, hxt, Option.getD_some]
        exact hr
      · cases ht)
    have hamb1 : Amb P G gw { ρ with fx := fx' } := hgl.fxs
    refine callsIn_of_wp_marks (F := Fd none) hf hb trivial ?_
    refine wpIn_mono (E code hrel1 (hK fx' hLx) (T.wp_bind h)) ?_
    have fin : ∀ (c' : Nat) (s' : S) (ρ' : Ren), Ren.up c { ρ with fx := fx' } ρ' → (match resL P s' fn.results.toList with | some ps => T.ret (vOfA ps, c', ({ s' with tm := s.tm } : S)) | none => T.fail).wp R →
        ∀ (Ds : List Nat) (a' : Act) (w' : World), a'.defers = Ds.map (fun D => { target := .collected D, args := #[] }) → Rel w0 fn.ntmps ρ' s' a' w' →
        LeavesInM (Fd none) 0 P fn a'.tmps (fun e w' => ∃ x v c' s' ρ', e = .returned x ∧ v.rel ρ' x ∧ R (v, c', s') ∧ s'.tm = s.tm ∧ Rel w0 N ρ' s' a w' ∧ ρ.up c ρ') a'.defers .returning w' := by
      intro c' s' ρ' hle hr Ds
      induction Ds with
      | nil =>
        intro a' w' hd hrel'
        rw [hd]
        split at hr
        · rename_i ps hps
          have hview : View G ρ' s' a' w' := ⟨fun t v ht => (hrel'.tm t v ht).2, fun m k hk => by obtain ⟨b, h1, h2, h3, _⟩ := hrel'.hp m k hk; exact ⟨b, h1, h2, h3⟩, hrel'.im, (hamb1.up hle).gl⟩
          obtain ⟨ys, hy, hyr⟩ := resL_sound hview hps
          have hres : ∃ x, (results fn a'.tmps).run P w' = .ok x w' ∧ (vOfA ps).rel ρ' x := by
            rw [results_eq, Array.mapM_eq_mapM_toList]
            simp only [Sem.run_bind, Sem.run_map, hy, Result.andThen_ok, Sem.run_pure]
            cases hyr with
            | nil => exact ⟨_, rfl, [], .nil, by simp⟩
            | cons r0 rs0 =>
              cases rs0 with
              | nil => exact ⟨_, rfl, r0⟩
              | cons r1 rs1 => exact ⟨_, rfl, _, .cons r0 (.cons r1 rs1), by simp⟩
          obtain ⟨x, hx1, hx2⟩ := hres
          obtain ⟨g1, g2⟩ := hback c _ _ _ _ _ hrel' hle hck.1
          exact ⟨x, hx1, x, vOfA ps, c', { s' with tm := s.tm }, { ρ' with fx := ρ.fx }, rfl, by rw [vrel_fx]; exact hx2, hr, rfl, g1, g2⟩
        · exact hr.elim
      | cons D Ds ih =>
        intro a' w' hd hrel'
        rw [hd]
        obtain ⟨w2, htake, hrel2⟩ := taken (P := P) hrel' hd
        refine ⟨by simp, .inl ⟨D, w2, rfl, htake, ?_⟩⟩
        exact ih { a' with defers := Ds.map (fun D => { target := .collected D, args := #[] }) } w2 rfl hrel2
    intro e a' w' hc
    cases e <;> simp only [CP, bodyPostM] at hc ⊢
    case normal =>
      obtain ⟨c', s', ρ', hr, hrel', hle⟩ := hc
      obtain ⟨Ds, hDs, _⟩ := hrel'.df
      exact fin c' s' ρ' hle hr Ds a' w' hDs hrel'
    case ret =>
      obtain ⟨c', s', ρ', hr, hrel', hle⟩ := hc
      obtain ⟨Ds, hDs, _⟩ := hrel'.df
      exact fin c' s' ρ' hle hr Ds a' w' hDs hrel'
    case exit id => obtain ⟨c', s', ρ', hr, hrel', hle⟩ := hc; exact hr.elim
  · exact h.elim
end
end Go.V
end

section
set_option linter.unusedVariables false
set_option linter.unusedSimpArgs false
namespace Go.V
open Go.RowKit (Below)
/-- What a call of yield comes to. -/
abbrev YH := List A → (Nat → Bool) → Nat → S → T (Bool × Nat × S)
/-- A round, if it has as many arguments as the loop takes. -/
def yhOf (k : Nat) (exB : Run) (ps : Array Tmp) (x y : Code) (tm0 : Nat → Option V) : YH := fun args wk c s =>
  match Nat.beq args.length ps.size with
  | true => roundT k exB ps.toList x y tm0 args wk c s
  | false => .fail
/-- A LOOP OVER A FUNCTION at level k: the iterator runs on the frame's heap; each call of yield is a round, with the frame's slots; behind it the slots are as ahead of it. -/
def rfX (P : Program) (G : GT) (N k LV : Nat) (exB : Run) (exI : YH → FuncId → Func → Run) : RF := fun g ps x y wk c s =>
  match Nat.blt k LV && keepT s c [] N && (ps.toList.all fun p => Nat.blt p N), (look G s g).map fnV with
  | true, some (.a (.c (.fn gf caps))) => (match P.funcs[gf]?, s.st k with
    | some fn, none => (match isGo fn with
      | true => (callT P N (exI (yhOf k exB ps x y s.tm) gf fn) fn (.c (.yl k) :: caps.map fun q => .c (.ptr q.1 q.2)) wk c s).bind fun r =>
        (match cleanOk k c r.2.2.hp with
        | true => (match r.2.2.st k with
          | none => .ret (.normal, r.2.1, { r.2.2 with hp := cleanH k r.2.2.hp })
          | some .normal => .fail
          | some e => .ret (e, r.2.1, { r.2.2 with hp := cleanH k r.2.2.hp, st := upd r.2.2.st k none }))
        | false => .fail)
      | false => .fail)
    | _, _ => .fail)
  | _, _ => .fail
section
variable {P : Program} {G : GT} {N : Nat} {gw : World → Prop} {w0 : World} {LV : Nat}
/-- What a handler of yield promises. -/
structure HOK (P : Program) (w0 : World) (K : Ren → Prop) (cz j : Nat) (h : YH) : Prop where
  run : ∀ {N' : Nat} {args : List A} {xs : List Value} {wk : Nat → Bool} {c : Nat} {s : S} {R : Bool × Nat × S → Prop} {ρ : Ren} {a : Act} {w : World}, Rel w0 N' ρ s a w → K ρ → cz ≤ c → keepT s c [] N' = true →
    F2 (A.rel ρ) args xs → (h args wk c s).wp R → ∀ l r, ρ.lp j = some (l, r) →
    YieldAt (Fd none) 0 P l xs.toArray w fun e w' => ∃ b c' s' ρ', e = .returned (.bool b) ∧ R (b, c', s') ∧ s'.tm = s.tm ∧ Rel w0 N' ρ' s' a w' ∧ ρ.up c ρ'
theorem HOK.less {K K' : Ren → Prop} {cz cy j : Nat} {h : YH} (hh : HOK P w0 K cz j h) (hK : ∀ ρ, K' ρ → K ρ) (hc : cz ≤ cy) : HOK P w0 K' cy j h :=
  ⟨fun hrel hk hcz => hh.run hrel (hK _ hk) (Nat.le_trans hc hcz)⟩
/-- A handler keeps what it may not write. -/
def HKeep (h : YH) : Prop := ∀ args wk c s, (h args wk c s).all fun r => c ≤ r.2.1 ∧ r.2.2.tm = s.tm ∧ ∀ m, m < c → wk m = false → r.2.2.hp m = s.hp m
/-- A run keeps what it may not write. -/
def RKeep (ex : Run) : Prop := ∀ code wk c s, (ex code wk c s).all fun r => c ≤ r.2.1 ∧ ∀ m, m < c → wk m = false → r.2.2.hp m = s.hp m
theorem yhOf_keep {k : Nat} {exB : Run} (hB : RKeep exB) {ps : Array Tmp} {x y : Code} {tm0 : Nat → Option V} : HKeep (yhOf k exB ps x y tm0) := by
  intro args wk c s
  unfold yhOf
  split
  · unfold roundT
    split
    · refine T.all_bind (T.all_mono ?_ (hB x wk c { s with tm := setPs tm0 ps.toList args }))
      rintro ⟨e, c1, s1⟩ ⟨h1, h2⟩
      cases e with
      | exit i => trivial
      | ret => trivial
      | normal =>
        simp only
        split
        · refine T.all_bind (T.all_mono ?_ (hB y wk c1 { s1 with st := upd s1.st k (some .normal) }))
          rintro ⟨e, c2, s2⟩ ⟨g1, g2⟩
          have hkeep : c ≤ c2 ∧ ∀ m, m < c → wk m = false → s2.hp m = s.hp m := ⟨Nat.le_trans h1 g1, fun m hm hw => (g2 m (Nat.lt_of_lt_of_le hm h1) hw).trans (h2 m hm hw)⟩
          cases e with
          | normal => exact ⟨hkeep.1, rfl, hkeep.2⟩
          | exit i => exact ⟨hkeep.1, rfl, hkeep.2⟩
          | ret => exact ⟨hkeep.1, rfl, hkeep.2⟩
        · trivial
    · trivial
  · trivial
theorem callT_keep {ex : Run} (hx : RKeep ex) {fn : Func} {args : List A} {wk : Nat → Bool} {c : Nat} {s : S} :
    (callT P N ex fn args wk c s).all fun r => c ≤ r.2.1 ∧ r.2.2.tm = s.tm ∧ ∀ m, m < c → wk m = false → r.2.2.hp m = s.hp m := by
  unfold callT
  split
  · rename_i code _ _
    refine T.all_bind (T.all_mono ?_ (hx code wk c (argsS args s)))
    rintro ⟨e, c1, s1⟩ ⟨h1, h2⟩
    cases e with
    | exit i => trivial
    | normal =>
      simp only
      split
      · exact ⟨h1, rfl, h2⟩
      · trivial
    | ret =>
      simp only
      split
      · exact ⟨h1, rfl, h2⟩
      · trivial
  · trivial
theorem rfX_keep {k : Nat} {exB : Run} {exI : YH → FuncId → Func → Run} (hB : RKeep exB) (hI : ∀ h gf fn, HKeep h → RKeep (exI h gf fn)) (g : Operand) (ps : Array Tmp) (x y : Code) (wk : Nat → Bool) (c : Nat) (s : S) :
    (rfX P G N k LV exB exI g ps x y wk c s).all (Keeps c s wk []) := by
  unfold rfX
  split
  · split
    · split
      · refine T.all_bind (T.all_mono ?_ (callT_keep (hI _ _ _ (yhOf_keep hB))))
        rintro ⟨v, c1, s1⟩ ⟨h1, h2, h3⟩
        simp only
        split
        · rename_i hcl
          have hk : ∀ m, m < c → wk m = false → cleanH k s1.hp m = s.hp m := fun m hm hw => (cleanH_low hcl hm).trans (h3 m hm hw)
          split
          · exact ⟨h1, fun t _ => congrFun (show s1.tm = s.tm from h2) t, hk⟩
          · trivial
          · exact ⟨h1, fun t _ => congrFun (show s1.tm = s.tm from h2) t, hk⟩
        · trivial
      · trivial
    · trivial
  · trivial
end
end Go.V
end

section
set_option linter.unusedVariables false
set_option linter.unusedSimpArgs false
namespace Go.V
open Go.RowKit (Below)
section
variable {N : Nat} {w0 : World} {ρ : Ren} {s : S} {a : Act} {w : World}
theorem Rel.leave (h : Rel w0 N ρ s a w) (hL : LpOK w0 ρ) {k l : Nat} {r : Loop} (hk : ρ.lp k = some (l, r)) {lp' : Nat → Option (Nat × Loop)} (h1 : ∀ j p, j ≠ k → ρ.lp j = some p → lp' j = some p)
    (h2 : ∀ j p, lp' j = some p → j ≠ k ∧ ρ.lp j = some p) (q : Loop) {st' : Nat → Option Ex} (hst : ∀ j, j ≠ k → st' j = s.st j)
    (htm : ∀ t v, s.tm t = some v → t < N ∧ v.rel (ρ.lps ρ.fx lp') (a.tmps.getD t undef)) :
    Rel w0 N (ρ.lps ρ.fx lp') { s with hp := cleanH k s.hp, st := st' } a (w.putObj l (.loop q)) := by
  have h0 := h.lp k l r hk
  have hlt : l < w.heap.size := (Array.getElem?_eq_some_iff.1 h0).1
  obtain ⟨q0, hq0⟩ := lpObj_loop r (s.st k)
  rw [hq0] at h0
  obtain ⟨W, hW⟩ : ∃ W, W = w.putObj l (.loop q) := ⟨_, rfl⟩
  rw [← hW]
  have hother : ∀ i, i ≠ l → W.heap[i]? = w.heap[i]? := fun i hi => by rw [hW]; exact World.putObj_heap_other hi
  have hsz : W.heap.size = w.heap.size := by rw [hW]; simp [World.putObj]
  have own_of : ∀ m y y0, cleanH k s.hp m = some y → y.own = true → s.hp m = some y0 → y0 = y := by
    intro m y y0 hy ho hy0
    obtain ⟨y1, g1, g2⟩ := cleanH_of hy
    rw [hy0] at g1; cases g1
    rcases g2 with rfl | ⟨rfl, _⟩
    · cases ho
    · rfl
  refine ⟨h.sz, h.bel.trans ⟨by rw [hW]; rfl, by rw [hW]; rfl, by rw [hW]; rfl, by omega, fun i hi => hother i (fun he => by have := hL.base k l r hk; omega)⟩, ?_, htm, fun m hm => h.dom m (cleanH_none hm), ?_, ?_, ?_, ?_, h.old, ?_, ?_, h.dfx⟩
  · obtain ⟨Ds, e1, e2, e3⟩ := h.df
    refine ⟨Ds, e1, e2, fun D hD => ⟨(e3 D hD).1, (hother D fun he => ?_).trans (e3 D hD).2⟩⟩
    have := (e3 D hD).2
    rw [he, h0] at this; cases this
  · intro m y hm
    obtain ⟨y0, g0, gy⟩ := cleanH_of hm
    obtain ⟨b, g1, g2, g3, g4⟩ := h.hp m y0 g0
    refine ⟨b, g1, by omega, ?_, g4⟩
    rcases gy with rfl | ⟨rfl, hcl⟩
    · trivial
    · refine brel_lps h1 hcl ?_
      cases hy : y.own with
      | false => exact Blk.rel_mono' (Ren.le_refl _) hy g3
      | true =>
        obtain ⟨xs, t, hx⟩ := Blk.own_cells hy g3
        exact Blk.rel_mono (Ren.le_refl _) (hother _ fun he => by rw [he, h0] at hx; cases hx) g3
  · intro m m' y y' b b' hm hm' ho ho' hb hb' hne
    obtain ⟨y0, g0, _⟩ := cleanH_of hm
    obtain ⟨y1, g1, _⟩ := cleanH_of hm'
    have e0 := own_of m y y0 hm ho g0
    have e1 := own_of m' y' y1 hm' ho' g1
    subst e0 e1
    exact h.inj m m' _ _ b b' g0 g1 ho ho' hb hb' hne
  · intro b o v hv
    obtain ⟨g1, g2⟩ := h.im b o v hv
    refine ⟨by omega, ?_⟩
    have hne : b ≠ l := by
      intro he; subst he
      simp [World.cell?, h0] at g2
    exact (World.cell?_of_block (w := w) (hother b hne)).trans g2
  · intro m y b o hm ho hb
    obtain ⟨y0, g0, _⟩ := cleanH_of hm
    have e0 := own_of m y y0 hm ho g0
    subst e0
    exact h.dis m _ b o g0 ho hb
  · intro b o hb
    obtain ⟨g1, g2⟩ := h.fx b o hb
    refine ⟨g1, (hother b fun he => ?_).trans g2⟩
    have hb : ρ.fx b = some o := hb
    rw [he, hL.fx k l r hk] at hb; cases hb
  · intro j l' q' hj
    obtain ⟨hjk, hj'⟩ := h2 j _ hj
    have hne : l' ≠ l := by
      intro he; subst he
      exact hjk (hL.inj k j l' r q' hk hj')
    show W.heap[l']? = some (lpObj q' (st' j))
    rw [hst j hjk]
    exact (hother l' hne).trans (h.lp j l' q' hj')
end
end Go.V
end

section
set_option linter.unusedVariables false
set_option linter.unusedSimpArgs false
namespace Go.V
open Go.RowKit (Below)
section
variable {P : Program} {G : GT} {N : Nat} {gw : World → Prop} {w0 : World} {LV : Nat}
theorem LpOK.begin {ρ : Ren} (hL : LpOK w0 ρ) {s : S} {a : Act} {w : World} (hrel : Rel w0 N ρ s a w) {k : Nat} (r : Loop) : LpOK w0 (ρ.lps ρ.fx (upd ρ.lp k (some (w.heap.size + 1, r)))) := by
  have hfree : ∀ j l q, ρ.lp j = some (l, q) → l < w.heap.size := fun j l q hj => (Array.getElem?_eq_some_iff.1 (hrel.lp j l q hj)).1
  have cases' : ∀ j l q, upd ρ.lp k (some (w.heap.size + 1, r)) j = some (l, q) → (j = k ∧ l = w.heap.size + 1) ∨ (j ≠ k ∧ ρ.lp j = some (l, q)) := by
    intro j l q hj
    by_cases e : j = k
    · subst e; rw [upd_same] at hj; cases hj; exact .inl ⟨rfl, rfl⟩
    · rw [upd_ne _ _ e] at hj; exact .inr ⟨e, hj⟩
  refine ⟨fun j l q hj => ?_, fun j l q hj => ?_, fun j i l q q' hj hi => ?_⟩
  · show ρ.fx l = none
    rcases cases' j l q hj with ⟨_, rfl⟩ | ⟨_, hj⟩
    · cases hf : ρ.fx (w.heap.size + 1) with
      | none => rfl
      | some o =>
        have := (Array.getElem?_eq_some_iff.1 (hrel.fx _ o hf).2).1
        omega
    · exact hL.fx j l q hj
  · rcases cases' j l q hj with ⟨_, rfl⟩ | ⟨_, hj⟩
    · have := hrel.bel.size; omega
    · exact hL.base j l q hj
  · rcases cases' j l q hj with ⟨e1, e2⟩ | ⟨e1, hj⟩ <;> rcases cases' i l q' hi with ⟨f1, f2⟩ | ⟨f1, hi⟩
    · rw [e1, f1]
    · have := hfree i l q' hi; omega
    · have := hfree j l q hj; omega
    · exact hL.inj j i l q q' hj hi
theorem rfX_sound {k cz : Nat} {K : Ren → Prop} (hK : KOK P G gw w0 LV cz K) {exB : Run} {exI : YH → FuncId → Func → Run}
    (EB : ∀ (l : Nat) (code : Code) {wk : Nat → Bool} {c : Nat} {s : S} {R : St3 → Prop} {ρ : Ren} {a : Act} {w : World}, Rel w0 N ρ s a w → K ρ → cz ≤ c → (exB code wk c s).wp R → code.wpIn (Fd (some l)) 0 P (CP c w0 N ρ R) a w)
    (EBK : RKeep exB)
    (EI : ∀ (h : YH) (gf : FuncId) (gfn : Func) (K' : Ren → Prop) (c' : Nat), KOK P G gw w0 LV c' K' → (∀ ρ, K' ρ → K ρ) → cz ≤ c' → HOK P w0 K' c' k h → HKeep h →
      ∀ (code : Code) {wk : Nat → Bool} {c : Nat} {s : S} {R : St3 → Prop} {ρ : Ren} {a : Act} {w : World}, Rel w0 gfn.ntmps ρ s a w → K' ρ → (∀ j l r, ρ.lp j = some (l, r) → j < k + 1) → c' ≤ c → (exI h gf gfn code wk c s).wp R → code.wpIn (Fd none) 0 P (CP c w0 gfn.ntmps ρ R) a w)
    {g : Operand} {ps : Array Tmp} {x y : Code} {wk : Nat → Bool} {c : Nat} {s : S} {R : St3 → Prop} {ρ : Ren} {a : Act} {w : World}
    (hrel : Rel w0 N ρ s a w) (hKρ : K ρ) (hlv : ∀ j l r, ρ.lp j = some (l, r) → j < k) (hcz : cz ≤ c) (h : (rfX P G N k LV exB exI g ps x y wk c s).wp R) :
    (Code.rangeFunc g ps x y).wpIn (Fd none) 0 P (CP c w0 N ρ R) a w := by
  unfold rfX at h
  split at h
  · rename_i gf caps hchk hg
    simp only [Bool.and_eq_true] at hchk
    obtain ⟨⟨hkLV, hck⟩, hps⟩ := hchk
    have hkLV : k < LV := by simpa [Nat.blt_eq] using hkLV
    have hps : ∀ p, p ∈ ps.toList → p < N := fun p hp => by have := List.all_eq_true.1 hps p hp; simpa [Nat.blt_eq] using this
    split at h
    · rename_i fn hfn hst
      split at h
      · rename_i hgo
        obtain ⟨v0, hv0, hv1⟩ := Option.map_eq_some_iff.1 hg
        have hview : View G ρ s a w := ⟨fun t v ht => (hrel.tm t v ht).2, fun m k hk => by obtain ⟨b, h1, h2, h3, _⟩ := hrel.hp m k hk; exact ⟨b, h1, h2, h3⟩, hrel.im, (hK.amb hKρ).gl⟩
        obtain ⟨cx, hcx, hgv⟩ := hv1 ▸ fnV_rel (look_rel hview hv0)
        refine wpIn_rangeFunc ?_
        intro fn0 _
        obtain ⟨r0, hr0⟩ : ∃ r0 : Loop, r0 = { state := .ready, pending := none, fn := fn0, tmps := a.tmps, params := ps, assign := x, body := y, defers := w.heap.size } := ⟨_, rfl⟩
        obtain ⟨l, hl⟩ : ∃ l, l = w.heap.size + 1 := ⟨_, rfl⟩
        have hklp : ρ.lp k = none := by
          cases hq : ρ.lp k with
          | none => rfl
          | some q => obtain ⟨l', r'⟩ := q; have := hlv k l' r' hq; omega
        have hbegin := hrel.begin hklp hst r0
        have hLp1 := (hK.lpk hKρ).begin hrel (k := k) r0
        have hready : lpObj r0 none = .loop r0 := by rw [hr0]; rfl
        rw [hready] at hbegin
        rw [← hl] at hbegin hLp1
        obtain ⟨W1, hW1⟩ : ∃ W1, W1 = (w.alloc (.deferred (some []))).alloc (.loop r0) := ⟨_, rfl⟩
        rw [← hW1] at hbegin
        obtain ⟨ρ1, hρ1⟩ : ∃ ρ1, ρ1 = ρ.lps ρ.fx (upd ρ.lp k (some (l, r0))) := ⟨_, rfl⟩
        rw [← hρ1] at hbegin hLp1
        have hK1 : K ρ1 := by rw [hρ1]; exact hK.more k (l, r0) hKρ hklp hkLV (by rw [← hρ1]; exact hLp1)
        have hmore : ∀ j p, ρ.lp j = some p → ρ1.lp j = some p := by
          intro j p hj
          have : j ≠ k := fun e => by rw [e, hklp] at hj; cases hj
          rw [hρ1]; show upd ρ.lp k (some (l, r0)) j = some p
          rw [upd_ne _ _ this]; exact hj
        have hlpk : ρ1.lp k = some (l, r0) := by rw [hρ1]; exact upd_same _ _ _
        obtain ⟨K', hK'⟩ : ∃ K' : Ren → Prop, K' = fun ρ' => K ρ' ∧ ρ'.lp k = some (l, r0) ∧ ∀ t v, s.tm t = some v → t < N ∧ v.rel ρ' (a.tmps.getD t undef) := ⟨_, rfl⟩
        have KK : KOK P G gw w0 LV c K' := by
          rw [hK']
          refine ⟨fun h => hK.amb h.1, fun h => hK.lpk h.1, fun h => hK.lvl h.1, ?_, ?_, ?_⟩
          · rintro ρa ρb ⟨q1, q2, q3⟩ hup
            refine ⟨hK.up q1 (hup.less hcz), by rw [hup.lp]; exact q2, fun t v ht => ?_⟩
            obtain ⟨g1, g2⟩ := q3 t v ht
            exact ⟨g1, V.rel_ren hup.κ ⟨hup.cl, fun k p e => by rw [hup.lp]; exact e⟩ (fun m hm b e => hup.nm m b (keepT_at hck g1 rfl ht m hm) e) g2⟩
          · rintro ρa fx' ⟨q1, q2, q3⟩ hLx
            refine ⟨hK.fxs fx' q1 hLx, q2, fun t v ht => ?_⟩
            obtain ⟨g1, g2⟩ := q3 t v ht
            exact ⟨g1, by rw [vrel_fx]; exact g2⟩
          · rintro ρa k2 p ⟨q1, q2, q3⟩ hn hk2 hLx
            have hne : k ≠ k2 := fun e => by rw [e, hn] at q2; cases q2
            refine ⟨hK.more k2 p q1 hn hk2 hLx, ?_, fun t v ht => ?_⟩
            · show upd ρa.lp k2 (some p) k = some (l, r0)
              rw [upd_ne _ _ hne]; exact q2
            · obtain ⟨g1, g2⟩ := q3 t v ht
              refine ⟨g1, vrel_more ?_ g2⟩
              intro j p' hj
              have : j ≠ k2 := fun e => by rw [e, hn] at hj; cases hj
              rw [upd_ne _ _ this]; exact hj
        have hH : HOK P w0 K' c k (yhOf k exB ps x y s.tm) := by
          constructor
          intro N' args xs wk' c1 s1 R1 ρa a1 w1 hrel1 hk1 hc1 hck1 hx1 hw1 l1 r1 hlp1
          rw [hK'] at hk1
          obtain ⟨q1, q2, q3⟩ := hk1
          rw [q2] at hlp1
          cases hlp1
          unfold yhOf at hw1
          split at hw1
          · rename_i hlen
            have hlen := Nat.eq_of_beq_eq_true hlen
            refine round_sound (K := K') KK (r := r0) (exB := exB) (ps := ps.toList) (x := x) (y := y) (tm0 := s.tm) ?_ (fun code wk c s => T.all_mono (fun r hr => hr.1) (EBK code wk c s)) hps (by rw [hr0]) (by rw [hr0]) (by rw [hr0]) (by rw [hr0]; exact hrel.sz)
              hrel1 (by rw [hK']; exact ⟨q1, q2, q3⟩) hc1 q2 hck1 (by rw [hr0]; exact q3) hx1 (by simpa using hlen) hw1
            intro code wk2 c2 s2 R2 ρb a2 w2 g1 g2 g3 g4
            rw [hK'] at g2
            exact EB l code g1 g2.1 (Nat.le_trans hcz g3) g4
          · exact hw1.elim
        have hargs : F2 (A.rel ρ1) (A.c (.yl k) :: caps.map fun q => A.c (.ptr q.1 q.2)) ((.func (.yield l) #[] #[]) :: cx) := by
          refine .cons ⟨l, r0, hlpk, rfl⟩ ?_
          have := ptr_names hcx
          exact f2_imp (fun a b hab => by rw [hρ1]; exact arel_more (by rw [hρ1] at hmore; exact hmore) hab) this
        have hcall := callK_sound (N := N) (K := fun ρ' => K' ρ' ∧ ∀ j l r, ρ'.lp j = some (l, r) → j < k + 1) (ex := exI (yhOf k exB ps x y s.tm) gf fn) hfn
          (fun code {s R ρ a w} g1 g2 g3 => EI _ gf fn K' c KK (fun ρ hq => by rw [hK'] at hq; exact hq.1) hcz hH (yhOf_keep EBK) code g1 g2.1 g2.2 (Nat.le_refl _) g3)
          hbegin (hK.amb hK1) (fun fx' hfx => ⟨KK.fxs fx' (by
            rw [hK']
            refine ⟨hK1, hlpk, fun t v ht => ?_⟩
            obtain ⟨g1, g2⟩ := hrel.tm t v ht
            exact ⟨g1, by rw [hρ1]; exact vrel_more (by rw [hρ1] at hmore; exact hmore) g2⟩) (hfx hLp1), fun j l' r' hj => by
              by_cases e : j = k
              · omega
              · have hj : ρ1.lp j = some (l', r') := hj
                rw [hρ1] at hj
                have hj : upd ρ.lp k (some (l, r0)) j = some (l', r') := hj
                rw [upd_ne _ _ e] at hj
                have := hlv j l' r' hj; omega⟩) hargs (T.wp_bind h)
        have eargs : ((Value.func (.yield l) #[] #[]) :: cx).toArray = #[Value.func (.yield l) #[] #[]] ++ cx.toArray := by apply Array.ext'; simp
        rw [eargs] at hcall
        have hgv : a.eval g = .func (.func gf) #[] cx.toArray := hgv
        refine ⟨l, [{ target := .collected w.heap.size, args := #[] }], W1, { target := .fn (.func gf) cx.toArray, args := #[.func (.yield l) #[] #[]] }, W1, gf, #[.func (.yield l) #[] #[]] ++ cx.toArray, W1, ?_, ?_, ?_, ?_, fun h => (by cases h), ?_⟩
        · rw [hW1, hr0, hl]; exact run_enterLoop_outer _ _ _ _ _
        · simp only [resolve, hgv]
          simp [go_sem]
        · intro f' _; trivial
        · simp [invoke, go_sem, enter_of hfn hgo]
        · refine hcall.mono ?_
          rintro e w2 ⟨xv, v, c2, s2, ρ2, rfl, hvr, hr, htm, hrel2, hup⟩
          have hlp2 : ρ2.lp k = some (l, r0) := by rw [hup.lp]; exact hlpk
          have hobj := hrel2.lp k l r0 hlp2
          have hL2 : LpOK w0 ρ2 := hLp1.up hup
          have h1 : ∀ j p, j ≠ k → ρ2.lp j = some p → ρ.lp j = some p := by
            intro j p hj hjp
            rw [hup.lp, hρ1] at hjp
            have hjp : upd ρ.lp k (some (l, r0)) j = some p := hjp
            rw [upd_ne _ _ hj] at hjp; exact hjp
          have h2 : ∀ j p, ρ.lp j = some p → j ≠ k ∧ ρ2.lp j = some p := by
            intro j p hj
            exact ⟨fun e => (by rw [e, hklp] at hj; cases hj), by rw [hup.lp]; exact hmore j p hj⟩
          have hfx2 : ρ2.fx = ρ.fx := by rw [hup.fx, hρ1]; rfl
          have hup2 : ρ.up c (ρ2.lps ρ2.fx ρ.lp) := by
            have q1 := hup.κ
            have q2 := hup.cl
            have q3 := hup.k0
            have q4 := hup.nm
            rw [hρ1] at q1 q2 q3 q4
            exact ⟨q1, q2, q3, hfx2, rfl, q4⟩
          have hslots : ∀ t v, s2.tm t = some v → t < N ∧ v.rel (ρ2.lps ρ2.fx ρ.lp) (a.tmps.getD t undef) := by
            intro t v ht
            rw [htm] at ht
            obtain ⟨g1, g2⟩ := hrel.tm t v ht
            exact ⟨g1, V.rel_ren hup2.κ ⟨hup2.cl, fun k p e => e⟩ (fun m hm b e => hup2.nm m b (keepT_at hck g1 rfl ht m hm) e) g2⟩
          have leave : ∀ (q : Loop) {st' : Nat → Option Ex}, (∀ j, j ≠ k → st' j = s2.st j) → Rel w0 N (ρ2.lps ρ2.fx ρ.lp) { s2 with hp := cleanH k s2.hp, st := st' } { a with defers := { target := .collected w.heap.size, args := #[] } :: a.defers } (w2.putObj l (.loop q)) :=
            fun q {st'} hst' => hrel2.leave hL2 hlp2 h1 h2 q hst' hslots
          simp only at hr
          split at hr
          · split at hr
            · rename_i hs
              rw [hs, hready] at hobj
              have hend := run_endLoop (P := P) hobj (by rw [hr0]; simp)
              have hpend : r0.pending = none := by rw [hr0]
              rw [hpend] at hend
              refine ⟨none, _, hend, ?_⟩
              exact ⟨_, _, _, hr, leave _ (fun j _ => rfl), hup2⟩
            · exact hr.elim
            · rename_i e hne hs
              rw [hs] at hobj
              cases e with
              | normal => exact absurd rfl hne
              | exit i =>
                have hend := run_endLoop (P := P) hobj (by simp)
                refine ⟨some (.exit i), _, hend, ?_⟩
                exact wpIn_exit ⟨_, _, _, hr, leave _ (fun j hj => upd_ne _ _ hj), hup2⟩
              | ret =>
                have hend := run_endLoop (P := P) hobj (by simp)
                refine ⟨some .ret, _, hend, ?_⟩
                exact wpIn_ret ⟨_, _, _, hr, leave _ (fun j hj => upd_ne _ _ hj), hup2⟩
          · exact hr.elim
      · exact h.elim
    · exact h.elim
  · exact h.elim
end
end Go.V
end

section
set_option linter.unusedVariables false
set_option linter.unusedSimpArgs false
namespace Go.V
open Go.RowKit (Below)
/-- A call of yield; a call that is carried out here. -/
inductive Sp where
  | yl (k : Nat) (h : YH) (args : List A)
  | inl (fn : Func) (ex : Run) (args : List A)
def spOf (G : GT) (yh : Nat → Option YH) (inl : FuncId → Option (Func × Run)) (o : Oper) (s : S) : Option Sp :=
  match o.op with
  | .call cl => (match cl.callee with
    | .value f => (match (look G s f).map fnV, lookAll G s cl.args.toList with
      | some (.a (.c (.yl k))), some args => (match yh k with | some h => some (.yl k h args) | none => none)
      | some (.a (.c (.fn g caps))), some args => (match inl g with | some (fn, ex) => some (.inl fn ex (args ++ caps.map fun q => .c (.ptr q.1 q.2))) | none => none)
      | _, _ => none)
    | _ => none)
  | _ => none
def putS (dst : Option Tmp) (v : V) (s : S) : S := act dst 0 ⟨some v, [], []⟩ s
def dstOk (N : Nat) (o : Oper) : Bool := match o.dst with | some d => Nat.blt d N | none => true
section
variable (P : Program) (G : GT) (N : Nat) (sg : FuncId → Option Sm) (yh : Nat → Option YH) (inl : FuncId → Option (Func × Run)) (wk : Nat → Bool)
def opX (o : Oper) (c : Nat) (s : S) : T (Nat × S) :=
  match spOf G yh inl o s with
  | some (.yl k h args) => (match dstOk N o && keepT s c [] N with
    | true => (h args wk c s).bind fun r => .ret (r.2.1, putS o.dst (.a (.c (.lit r.1))) r.2.2)
    | false => .fail)
  | some (.inl fn ex args) => (match dstOk N o with
    | true => (callT P N ex fn args wk c s).bind fun r => .ret (r.2.1, putS o.dst r.1 r.2.2)
    | false => .fail)
  | none => (match opEff P G N sg wk none o c s with
    | .ok e p rd => T.needs p (.ret (c + newsOf e, doit o.dst ⟨c, e, rd⟩ s))
    | _ => .fail)
/-- With a guard: it says yes, it says no. -/
def guardX (ops : Array Oper) (o : Oper) (s : S) (yes no : S → T St3) : T St3 :=
  match o.guard with
  | none => yes s
  | some (k, want) => (match dstOf ops k with
    | some d => (match s.tm d with
      | some (.a (.c (.lit b))) => (match b == want with | true => yes s | false => no s)
      | some (.a (.c (.bool b))) => .br b
          (match true == want with | true => yes (putS (some d) (.a (.c (.lit true))) s) | false => no (putS (some d) (.a (.c (.lit true))) s))
          (match false == want with | true => yes (putS (some d) (.a (.c (.lit false))) s) | false => no (putS (some d) (.a (.c (.lit false))) s))
      | some (.tup []) => no s
      | _ => .fail)
    | none => .fail)
def goX (ops : Array Oper) : List Oper → Nat → S → T St3
  | [], c, s => .ret (.normal, c, s)
  | o :: l, c, s => guardX ops o s (fun s => (opX P G N sg yh inl wk o c s).bind fun r => goX ops l r.1 r.2)
      (fun s => match dstOk N o with | true => goX ops l c (putS o.dst (.tup []) s) | false => .fail)
end
section
variable {P : Program} {G : GT} {N : Nat} {rr : Option Nat} {sg : FuncId → Option Sm} {yh : Nat → Option YH} {inl : FuncId → Option (Func × Run)} {gw : World → Prop} {w0 : World} {LV : Nat} {a : Act} {w : World} {Q : Exit → Act → World → Prop}
theorem ow_round {o : Oper} {K : Act → World → Prop} {l : Nat} {f : FuncId} {tmps : Array Value} {x y : Code} (h : (execOp a.eval o).run P w = .ok (.round l f tmps x y) w) (hd : ∀ c, o.op ≠ .defer c)
    (hk : RoundIn (Fd none) 0 P l f tmps x y w (fun e w' => ∃ v, e = .returned v ∧ K (a.put o.dst v) w')) : o.wpIn (Fd rr) 0 P a w K Q := by
  refine ⟨fun _ _ => trivial, ?_⟩
  rw [Oper.semAt_eq _ _ _ hd, h, Oper.uponIn_round]
  refine ⟨fun h => (by cases h), ?_⟩
  have h1 : RoundIn (Fd rr) 0 P l f tmps x y w (fun e w' => ∃ v, e = .returned v ∧ K (a.put o.dst v) w') := hk
  refine h1.mono ?_
  rintro e w' ⟨v, rfl, hv⟩
  exact hv
theorem ow_enterIn {o : Oper} {K : Act → World → Prop} {f : FuncId} {args : Array Value} (h : (execOp a.eval o).run P w = .ok (.enter f args) w) (hd : ∀ c, o.op ≠ .defer c)
    (hk : CallsIn (Fd none) 0 P f args w (fun e w' => ∃ x, e = .returned x ∧ K (a.put o.dst x) w')) : o.wpIn (Fd rr) 0 P a w K Q := by
  refine ⟨fun _ _ => trivial, ?_⟩
  rw [Oper.semAt_eq _ _ _ hd, h, Oper.uponIn_enter]
  refine ⟨fun h => (by cases h), ?_⟩
  have h1 : CallsIn (Fd rr) 0 P f args w (fun e w' => ∃ x, e = .returned x ∧ K (a.put o.dst x) w') := hk
  refine CallsIn.mono h1 ?_
  rintro e w' ⟨x, rfl, hx⟩
  exact hx
theorem putS_rel {ρ : Ren} {s : S} (h : Rel w0 N ρ s a w) {dst : Option Tmp} (hd : ∀ d, dst = some d → d < N) {v : V} {x : Value} (hv : v.rel ρ x) : Rel w0 N ρ (putS dst v s) (a.put dst x) w :=
  h.quiet hd (fun v' hv' => by cases hv'; exact hv)
theorem dstOk_at {o : Oper} (h : dstOk N o = true) : ∀ d, o.dst = some d → d < N := by
  intro d hd
  unfold dstOk at h
  rw [hd] at h
  simpa [Nat.blt_eq] using h
/-- A bool that is known. -/
theorem lit_rel {ρ : Ren} {s : S} (h : Rel w0 N ρ s a w) {d : Nat} {b : Bool} (hd : s.tm d = some (.a (.c (.bool b)))) : Rel w0 N ρ (putS (some d) (.a (.c (.lit b))) s) a w := by
  refine h.weaken ?_ (fun m => rfl) rfl
  intro t v' ht
  by_cases e : t = d
  · subst e
    have ht : upd s.tm t (some (.a (.c (.lit b)))) t = some v' := ht
    rw [upd_same] at ht
    cases ht
    exact ⟨_, hd, fun x hx => hx⟩
  · have ht : upd s.tm d (some (.a (.c (.lit b)))) t = some v' := ht
    rw [upd_ne _ _ e] at ht
    exact ⟨v', ht, fun x hx => hx⟩
/-- What is asked of what runs an inlined call. -/
def InlOK (P : Program) (w0 : World) (LV : Nat) (K : Ren → Prop) (cz : Nat) (inl : FuncId → Option (Func × Run)) : Prop :=
  ∀ g fn ex, inl g = some (fn, ex) → P.funcs[g]? = some fn ∧ isGo fn = true ∧
    ∀ (code : Code) {wk : Nat → Bool} {c : Nat} {s : S} {R : St3 → Prop} {ρ : Ren} {a : Act} {w : World}, Rel w0 fn.ntmps ρ s a w → K ρ → cz ≤ c → (ex code wk c s).wp R → code.wpIn (Fd none) 0 P (CP c w0 fn.ntmps ρ R) a w
theorem opX_sound {K : Ren → Prop} {cz : Nat} (hst : ∀ w w', gw w → Below w.heap.size w w' → gw w') (hgw0 : gw w0) (hsg : ∀ f σ, sg f = some σ → SumOK P G gw f σ)
    (kA : ∀ {ρ}, K ρ → Amb P G gw ρ) (kL : ∀ {ρ}, K ρ → LpOK w0 ρ) (kF : ∀ {ρ : Ren} fx', K ρ → LpOK w0 { ρ with fx := fx' } → K { ρ with fx := fx' })
    (hy : ∀ k h, yh k = some h → HOK P w0 K cz k h) (hi : InlOK P w0 LV K cz inl)
    {wk : Nat → Bool} {o : Oper} {c : Nat} {s : S} {R : Nat × S → Prop} {ρ : Ren} (hrel : Rel w0 N ρ s a w) (hKρ : K ρ) (hcz : cz ≤ c) (h : (opX P G N sg yh inl wk o c s).wp R) :
    o.wpIn (Fd rr) 0 P a w (fun a' w' => ∃ c' s' ρ', R (c', s') ∧ Rel w0 N ρ' s' a' w' ∧ ρ.up c ρ') Q := by
  have hview : View G ρ s a w := ⟨fun t v ht => (hrel.tm t v ht).2, fun m k hk => by obtain ⟨b, h1, h2, h3, _⟩ := hrel.hp m k hk; exact ⟨b, h1, h2, h3⟩, hrel.im, (kA hKρ).gl⟩
  unfold opX at h
  split at h
  · -- yield
    rename_i k hd args hsp
    split at h
    · rename_i hok
      simp only [Bool.and_eq_true] at hok
      unfold spOf at hsp
      split at hsp
      · rename_i cl ho
        split at hsp
        · rename_i f hcal
          split at hsp
          · rename_i k' args' hf hargs
            split at hsp
            · rename_i h' hyk
              simp only [Option.some.injEq, Sp.yl.injEq] at hsp
              obtain ⟨rfl, rfl, rfl⟩ := hsp
              obtain ⟨v0, hf0, hf1⟩ := Option.map_eq_some_iff.1 hf
              obtain ⟨l, r, hlp, hfv⟩ := hf1 ▸ fnV_rel (look_rel hview hf0)
              have hax := lookAll_rel G hview hargs
              have hyield := (hy k' h' hyk).run hrel hKρ hcz hok.2 hax (T.wp_bind h) l r hlp
              have hfv : a.eval f = .func (.yield l) #[] #[] := hfv
              have earr : (cl.args.toList.map a.eval).toArray = cl.args.map a.eval := by apply Array.ext'; simp
              rw [earr] at hyield
              obtain ⟨fn, tmps, x, y, hrun, hround⟩ := hyield
              have hop : (execOp a.eval o).run P w = .ok (.round l fn tmps x y) w := by
                simp only [execOp, ho, resolve, hcal, hfv, Deferred.ofValue, Sem.run_bind, Sem.run_pure, Result.andThen_ok, invoke, Array.empty_append, Array.append_empty, hrun]
              refine ow_round hop (fun c hc => by rw [ho] at hc; cases hc) (hround.mono ?_)
              rintro e w' ⟨b, c', s', ρ', rfl, hr, htm, hrel', hup⟩
              exact ⟨_, rfl, c', _, ρ', hr, putS_rel hrel' (dstOk_at hok.1) rfl, hup⟩
            · cases hsp
          · split at hsp <;> cases hsp
          · cases hsp
        · cases hsp
      · cases hsp
    · exact h.elim
  · -- inlined
    rename_i fn ex args hsp
    split at h
    · rename_i hok
      unfold spOf at hsp
      split at hsp
      · rename_i cl ho
        split at hsp
        · rename_i f hcal
          split at hsp
          · split at hsp <;> cases hsp
          · rename_i g caps args' hf hargs
            split at hsp
            · rename_i fn' ex' hig
              simp only [Option.some.injEq, Sp.inl.injEq] at hsp
              obtain ⟨rfl, rfl, rfl⟩ := hsp
              obtain ⟨hfn, hgo, hex⟩ := hi g _ _ hig
              obtain ⟨v0, hf0, hf1⟩ := Option.map_eq_some_iff.1 hf
              obtain ⟨cx, hcx, hfv⟩ := hf1 ▸ fnV_rel (look_rel hview hf0)
              have hfv : a.eval f = .func (.func g) #[] cx.toArray := hfv
              have hax := lookAll_rel G hview hargs
              have hall : F2 (A.rel ρ) (args' ++ caps.map fun q => .c (.ptr q.1 q.2)) (cl.args.toList.map a.eval ++ cx) := f2_append hax (ptr_names hcx)
              have hcall := callK_sound (N := N) (K := K) (ex := ex') hfn (fun code {s R ρ a w} g1 g2 g3 => hex code g1 g2 hcz g3) hrel (kA hKρ) (fun fx' hfx => kF fx' hKρ (hfx (kL hKρ))) hall (T.wp_bind h)
              have earr : (cl.args.toList.map a.eval ++ cx).toArray = cl.args.map a.eval ++ cx.toArray := by apply Array.ext'; simp
              rw [earr] at hcall
              have hop : (execOp a.eval o).run P w = .ok (.enter g (cl.args.map a.eval ++ cx.toArray)) w := by
                simp only [execOp, ho, resolve, hcal, hfv, Deferred.ofValue, Sem.run_bind, Sem.run_pure, Result.andThen_ok, invoke, Array.empty_append, enter_of hfn hgo]
              refine ow_enterIn hop (fun c hc => by rw [ho] at hc; cases hc) (hcall.mono ?_)
              rintro e w' ⟨x, v, c', s', ρ', rfl, hv, hr, htm, hrel', hup⟩
              exact ⟨_, rfl, c', _, ρ', hr, putS_rel hrel' (dstOk_at hok) hv, hup⟩
            · cases hsp
          · cases hsp
        · cases hsp
      · cases hsp
    · exact h.elim
  · split at h
    · rename_i e p rd he
      obtain ⟨hp, hR⟩ := T.wp_needs h
      have := opEff_sound (rr := rr) (Q := Q) hsg (kA hKρ) (hst _ _ hgw0 hrel.bel) he hp hrel (fun t _ => rfl) (fun m _ => rfl) (fun m _ => rfl)
      refine Oper.wpIn_mono ?_ this
      rintro a' w' ⟨ρ', h1, h2⟩
      exact ⟨_, _, ρ', hR, h1, h2.up⟩
    · exact h.elim
theorem goX_sound {K : Ren → Prop} {cz : Nat} (hst : ∀ w w', gw w → Below w.heap.size w w' → gw w') (hgw0 : gw w0) (hsg : ∀ f σ, sg f = some σ → SumOK P G gw f σ)
    (kA : ∀ {ρ}, K ρ → Amb P G gw ρ) (kL : ∀ {ρ}, K ρ → LpOK w0 ρ) (kF : ∀ {ρ : Ren} fx', K ρ → LpOK w0 { ρ with fx := fx' } → K { ρ with fx := fx' }) (kU : ∀ {ρ ρ'}, K ρ → ρ.up cz ρ' → K ρ')
    (hy : ∀ k h, yh k = some h → HOK P w0 K cz k h) (hi : InlOK P w0 LV K cz inl) (hyk : ∀ k h, yh k = some h → HKeep h) (hik : ∀ g fn ex, inl g = some (fn, ex) → RKeep ex)
    {wk : Nat → Bool} {ops : Array Oper} {ρ0 : Ren} {R : St3 → Prop} : ∀ (l : List Oper) (i : Nat) {c : Nat} {s : S} {ρ : Ren} {a : Act} {w : World}, ops.toList.drop i = l → Rel w0 N ρ s a w → K ρ → cz ≤ c → ρ0.up cz ρ →
      (goX P G N sg yh inl wk ops l c s).wp R → wpOpsIn (Fd rr) 0 P ops (CP cz w0 N ρ0 R) (List.range' i (ops.size - i)) a w := by
  intro l
  induction l with
  | nil =>
    intro i c s ρ a w hl hrel hKρ hcz hup h
    have : ops.size ≤ i := by
      have := List.drop_eq_nil_iff.1 hl
      simpa using this
    rw [show ops.size - i = 0 by omega]
    exact ⟨c, s, ρ, h, hrel, hup⟩
  | cons o l ih =>
    intro i c s ρ a w hl hrel hKρ hcz hup h
    have hi' : i < ops.size := by
      have h1 : (ops.toList.drop i).length = (o :: l).length := by rw [hl]
      simp at h1; omega
    have ho : ops[i]? = some o := by
      have h1 : (ops.toList.drop i)[0]? = some o := by rw [hl]; rfl
      rw [List.getElem?_drop] at h1
      simpa using h1
    have hl' : ops.toList.drop (i + 1) = l := by
      have h1 : (ops.toList.drop i).drop 1 = l := by rw [hl]; rfl
      rw [List.drop_drop] at h1
      exact h1
    rw [show ops.size - i = (ops.size - (i + 1)) + 1 by omega, List.range'_succ, wpOpsIn_cons]
    have yes : ∀ s', Rel w0 N ρ s' a w → ((opX P G N sg yh inl wk o c s').bind fun r => goX P G N sg yh inl wk ops l r.1 r.2).wp R →
        o.wpIn (Fd rr) 0 P a w (wpOpsIn (Fd rr) 0 P ops (CP cz w0 N ρ0 R) (List.range' (i + 1) (ops.size - (i + 1)))) (CP cz w0 N ρ0 R) := by
      intro s' hrel' h'
      have hkc : (opX P G N sg yh inl wk o c s').all fun r => c ≤ r.1 := by
        unfold opX
        split
        · rename_i k hd args hsp
          split
          · have : yh k = some hd := by
              unfold spOf at hsp
              split at hsp
              · split at hsp
                · split at hsp
                  · split at hsp
                    · rename_i hyk'
                      simp only [Option.some.injEq, Sp.yl.injEq] at hsp
                      obtain ⟨rfl, rfl, rfl⟩ := hsp
                      exact hyk'
                    · cases hsp
                  · split at hsp <;> cases hsp
                  · cases hsp
                · cases hsp
              · cases hsp
            exact T.all_bind (T.all_mono (fun r hr => hr.1) (hyk k hd this args wk c s'))
          · trivial
        · rename_i fn ex args hsp
          split
          · have : ∃ g, inl g = some (fn, ex) := by
              unfold spOf at hsp
              split at hsp
              · split at hsp
                · split at hsp
                  · split at hsp <;> cases hsp
                  · split at hsp
                    · rename_i hig
                      simp only [Option.some.injEq, Sp.inl.injEq] at hsp
                      obtain ⟨rfl, rfl, rfl⟩ := hsp
                      exact ⟨_, hig⟩
                    · cases hsp
                  · cases hsp
                · cases hsp
              · cases hsp
            obtain ⟨g, hg⟩ := this
            exact T.all_bind (T.all_mono (fun r hr => hr.1) (callT_keep (hik g fn ex hg)))
          · trivial
        · split
          · refine T.all_needs ?_
            show c ≤ c + _
            omega
          · trivial
      have h1 := T.wp_all (T.wp_bind h') hkc
      refine Oper.wpIn_mono ?_ (opX_sound (rr := rr) hst hgw0 hsg kA kL kF hy hi hrel' hKρ hcz h1)
      rintro a' w' ⟨c', s2, ρ', ⟨hr, hc'⟩, hrel2, hup2⟩
      exact ih (i + 1) hl' hrel2 (kU hKρ (hup2.less hcz)) (Nat.le_trans hcz hc') (Ren.up_trans hup (hup2.less hcz)) hr
    have no : ∀ s', Rel w0 N ρ s' a w → (match dstOk N o with | true => goX P G N sg yh inl wk ops l c (putS o.dst (.tup []) s') | false => T.fail).wp R →
        wpOpsIn (Fd rr) 0 P ops (CP cz w0 N ρ0 R) (List.range' (i + 1) (ops.size - (i + 1))) (a.put o.dst undef) w := by
      intro s' hrel' h'
      split at h'
      · rename_i hok
        exact ih (i + 1) hl' (putS_rel hrel' (dstOk_at hok) (v := .tup []) (x := undef) ⟨[], .nil, rfl⟩) hKρ hcz hup h'
      · exact h'.elim
    unfold wpOpIn
    rw [ho]
    simp only
    simp only [goX, guardX] at h
    split at h
    · rename_i hg
      rw [if_pos (by simp [Region.wanted, hg])]
      exact yes s hrel h
    · rename_i k want hg
      split at h
      · rename_i d hd
        have hd' : (ops[k]?).bind (·.dst) = some d := hd
        have hyb : ∀ b, s.tm d = some (.a (.c (.lit b))) ∨ s.tm d = some (.a (.c (.bool b))) → yielded ops a.tmps k = some b := by
          intro b hb
          have : d < N ∧ a.tmps.getD d undef = .bool b := by
            rcases hb with hb | hb
            · exact hrel.tm d _ hb
            · exact hrel.tm d _ hb
          obtain ⟨hlt, hv'⟩ := this
          have : a.tmps[d]? = some (.bool b) := by
            rw [Array.getD_eq_getD_getElem?] at hv'
            have hlt' : d < a.tmps.size := by rw [hrel.sz]; exact hlt
            rw [Array.getElem?_eq_getElem hlt'] at hv' ⊢
            simpa using hv'
          simp [yielded, hd', this]
        split at h
        · rename_i b hb
          have hy := hyb b (.inl hb)
          split at h
          · rename_i hw
            have : b = want := by simpa using hw
            subst this
            rw [if_pos (by simp [Region.wanted, hg, hy])]
            exact yes s hrel h
          · rename_i hw
            rw [if_neg (by simp [Region.wanted, hg, hy]; simpa using hw)]
            exact ⟨fun _ _ => trivial, no s hrel h⟩
        · rename_i b hb
          have hy := hyb b (.inr hb)
          have hl := lit_rel hrel hb
          cases b with
          | true =>
            have g := h.1 rfl
            split at g
            · rename_i hw
              have : true = want := by simpa using hw
              subst this
              rw [if_pos (by simp [Region.wanted, hg, hy])]
              exact yes _ hl g
            · rename_i hw
              rw [if_neg (by simp [Region.wanted, hg, hy]; simpa using hw)]
              exact ⟨fun _ _ => trivial, no _ hl g⟩
          | false =>
            have g := h.2 rfl
            split at g
            · rename_i hw
              have : false = want := by simpa using hw
              subst this
              rw [if_pos (by simp [Region.wanted, hg, hy])]
              exact yes _ hl g
            · rename_i hw
              rw [if_neg (by simp [Region.wanted, hg, hy]; simpa using hw)]
              exact ⟨fun _ _ => trivial, no _ hl g⟩
        · rename_i hb
          obtain ⟨hlt, hv⟩ := hrel.tm d _ hb
          have hv' : a.tmps.getD d undef = .tuple #[] := by
            obtain ⟨ys, h1, h2⟩ := hv
            cases h1
            exact h2
          have hy : yielded ops a.tmps k = none := by
            have : a.tmps[d]? = some (.tuple #[]) := by
              rw [Array.getD_eq_getD_getElem?] at hv'
              have hlt' : d < a.tmps.size := by rw [hrel.sz]; exact hlt
              rw [Array.getElem?_eq_getElem hlt'] at hv' ⊢
              simpa using hv'
            simp [yielded, hd', this]
          rw [if_neg (by simp [Region.wanted, hg, hy])]
          exact ⟨fun _ _ => trivial, no s hrel h⟩
        · exact h.elim
      · exact h.elim
end
end Go.V
end

section
set_option linter.unusedVariables false
set_option linter.unusedSimpArgs false
namespace Go.V
open Go.RowKit (Below)
theorem dsEqv_refl : ∀ (ds : List D), dsEqv ds ds
  | [] => trivial
  | d :: l => ⟨d.eqv_refl, dsEqv_refl l⟩
theorem Ar.eqv_refl (r : Ar) : r.eqv r := by
  cases r with
  | c d => exact d.eqv_refl
  | agg ds => exact dsEqv_refl ds
theorem rsEqv_refl : ∀ (rs : List Ar), rsEqv rs rs
  | [] => trivial
  | r :: l => ⟨r.eqv_refl, rsEqv_refl l⟩
variable {α : Type}
theorem Enc.list_F (E : Enc α) (l : List α) : E.list l.length (E.F l) = l := by
  apply List.ext_getElem
  · simp [Enc.list]
  · intro i h1 h2
    simp [Enc.list, Enc.F, E.law, h2]
theorem Enc.is_F (E : Enc α) (l : List α) (len : Nat) : E.Is len (E.F l) := by
  intro i j _ _
  simp only [Enc.F, E.law]
  exact D.eqv_refl _
/-- One list behind another one. -/
theorem Enc.join (E : Enc α) {q q' : Bool} (hq : q' = true → q = true) {l k : List α} {n : Nat} {F : Nat → Nat → D} (hn : n = k.length) (hF : ∀ i j, i < n → j < E.st → (F i j).eqv (E.enc (k.getD i E.dflt) j)) :
    (D.sl q (l.length + n) E.st (joinF l.length (E.F l) F)).eqv (.sl q' (l ++ k).length E.st (E.F (l ++ k))) := by
  subst hn
  refine ⟨hq, by simp, fun _ => rfl, fun i j hi hj => ?_⟩
  by_cases hlt : i < l.length
  · have hb : Nat.blt i l.length = true := by rw [Nat.blt_eq]; exact hlt
    have e1 : (l ++ k).getD i E.dflt = l.getD i E.dflt := by simp [List.getElem?_append_left hlt]
    simp only [joinF, hb, Enc.F, e1]
    exact D.eqv_refl _
  · have hb : Nat.blt i l.length = false := by rw [← Bool.not_eq_true, Nat.blt_eq]; exact hlt
    have e1 : (l ++ k).getD i E.dflt = k.getD (i - l.length) E.dflt := by simp [List.getElem?_append_right (by omega : l.length ≤ i)]
    simp only [joinF, hb, Enc.F, e1]
    exact hF _ _ (by omega) hj
/-- One element behind a list. -/
theorem Enc.push (E : Enc α) {l : List α} {a : α} {G : Nat → Nat → D} (hj : ∀ j, j < E.st → (G 0 j).eqv (E.enc a j)) (hr : E.rd (G 0) = a) : E.Is (l.length + 1) (joinF l.length (E.F l) G) ∧ E.list (l.length + 1) (joinF l.length (E.F l) G) = l ++ [a] := by
  have hlt : ∀ i, i < l.length → joinF l.length (E.F l) G i = E.F l i := by
    intro i hi
    funext j
    have hb : Nat.blt i l.length = true := by rw [Nat.blt_eq]; exact hi
    simp only [joinF, hb]
  have heq : joinF l.length (E.F l) G l.length = G 0 := by
    funext j
    have hb : Nat.blt l.length l.length = false := by rw [← Bool.not_eq_true, Nat.blt_eq]; omega
    simp only [joinF, hb, Nat.sub_self]
  constructor
  · intro i j hi hj'
    rcases Nat.lt_or_ge i l.length with h | h
    · rw [hlt i h]; exact E.is_F l (l.length) i j h hj'
    · obtain rfl : i = l.length := by omega
      rw [heq, hr]; exact hj j hj'
  · apply List.ext_getElem
    · simp [Enc.list]
    · intro i h1 h2
      have hi : i < l.length + 1 := by simpa [Enc.list] using h1
      simp only [Enc.list, List.getElem_map, List.getElem_range]
      rcases Nat.lt_or_ge i l.length with h | h
      · rw [hlt i h]; simp only [Enc.F, E.law, List.getElem_append_left h]; simp [h]
      · obtain rfl : i = l.length := by omega
        rw [heq, hr]; simp
def Ag.eqv : Ag → Ag → Prop
  | .c d, .c d' => d.eqv d'
  | .agg ds, .agg ds' => dsEqv ds ds'
  | .ptr n F, .ptr n' F' => n = n' ∧ ∀ j, j < n → (F j).eqv (F' j)
  | .clo φ, .clo φ' => φ = φ'
  | _, _ => False
def agsEqv : List Ag → List Ag → Prop
  | [], [] => True
  | a :: l, b :: k => a.eqv b ∧ agsEqv l k
  | _, _ => False
section
variable {P : Program} {G : GT} {gw : World → Prop}
theorem Ag.eqv_rel {κ : Still} {a b : Ag} {x : Value} (h : a.eqv b) (r : a.rel P gw κ x) : b.rel P gw κ x := by
  cases a <;> cases b <;> first | exact h.elim | skip
  · exact D.eqv_rel h r
  · obtain ⟨xs, hf, e⟩ := r; exact ⟨xs, dsEqv_rel h hf, e⟩
  · obtain ⟨rfl, h⟩ := h
    obtain ⟨ad, h1, h2, h3⟩ := r
    exact ⟨ad, h1, h2, fun j hj => by obtain ⟨y, hy, hr⟩ := h3 j hj; exact ⟨y, hy, D.eqv_rel (h j hj) hr⟩⟩
  · simp only [Ag.eqv] at h; subst h; exact r
theorem agsEqv_rel {κ : Still} : ∀ {az bs : List Ag} {xs : List Value}, agsEqv az bs → F2 (Ag.rel P gw κ) az xs → F2 (Ag.rel P gw κ) bs xs
  | [], [], _, _, r => r
  | a :: l, b :: k, _, h, .cons r rs => .cons (Ag.eqv_rel h.1 r) (agsEqv_rel h.2 rs)
  | [], _ :: _, _, h, _ => h.elim
  | _ :: _, [], _, h, _ => h.elim
theorem Ag.eqv_refl (a : Ag) : a.eqv a := by
  cases a with
  | c d => exact d.eqv_refl
  | agg ds => exact dsEqv_refl ds
  | ptr n F => exact ⟨rfl, fun j _ => D.eqv_refl _⟩
  | clo φ => rfl
theorem agsEqv_refl : ∀ (l : List Ag), agsEqv l l
  | [] => trivial
  | a :: l => ⟨a.eqv_refl, agsEqv_refl l⟩
/-- THE END of a contract's proof. -/
theorem fok_fin {sl : List (Nat × Sm)} (hmix : P.follows .mixedOrders = true) (hst : ∀ w w', gw w → Below w.heap.size w w' → gw w') (hS : AllS P G gw sl) {an : An} {f : FuncId} {fn : Func} (hf : P.funcs[f]? = some fn) {fuel : Nat} {ags ags' : List Ag} {xs : List Value} {w : World} {κ : Still} {r : List Ar} {t : T (List Ar)}
    (hgw : gw w) (hl : Lies κ w) (hG : GIn G κ) (hx : F2 (Ag.rel P gw κ) ags xs) (heq : agsEqv ags ags') (hlen : Nat.ble ags'.length fn.ntmps = true)
    (ht : runFn P G (lookS sl) an fuel fn ags' = t) (h : t.wp (fun rs => rsEqv rs r)) : Calls P f xs.toArray w (Back κ r w) :=
  fn_sound ⟨hmix, fun f σ hs => lookS_ok hS f σ hs, hst⟩ hf hgw hl hG (agsEqv_rel heq hx) hlen (by rw [ht]; exact h)
end
end Go.V
end

section
set_option linter.unusedVariables false
set_option linter.unusedSimpArgs false
namespace Go.Eng
open Go.RowKit (Below)
/-- Two lists, related part by part. -/
inductive F2 {α β : Type} (R : α → β → Prop) : List α → List β → Prop where
  | nil : F2 R [] []
  | cons {a : α} {b : β} {l : List α} {k : List β} : R a b → F2 R l k → F2 R (a :: l) (b :: k)
/-- A renaming: of each name the block that bears it, and a capacity. -/
abbrev Ren := Nat → Option (Nat × Nat)
/-- What one cell holds. 'num', 'lit': known; 'int', 'bool': any term. -/
inductive C where
  | num (k : IntKind) (n : Int)
  | int (k : IntKind) (n : Int)
  | lit (b : Bool)
  | bool (b : Bool)
  | str (s : ByteArray)
  | nil
  | ptr (m off : Nat)
  | nsl
  | sl (m off len cap : Nat)
  | gsl (m len : Nat)
  | fn (f : FuncId) (caps : List (Nat × Nat))
  | op (v : Value)
/-- A value: a cell, or a struct or array. -/
inductive A where
  | c (x : C)
  | agg (cs : List C)
/-- What a slot holds: a value, or several results. -/
inductive V where
  | a (x : A)
  | tup (xs : List A)
def PtrRel (ρ : Ren) (p : Nat × Nat) (x : Value) : Prop := ∃ b, ρ p.1 = some b ∧ x = .pointer (some ⟨b.1, p.2, none⟩)
def C.rel (ρ : Ren) : C → Value → Prop
  | .num k n, x => x = .int k n
  | .int k n, x => x = .int k n
  | .lit b, x => x = .bool b
  | .bool b, x => x = .bool b
  | .str s, x => x = .string s
  | .nil, x => x = .pointer none
  | .ptr m off, x => PtrRel ρ (m, off) x
  | .nsl, x => x = .slice none 0 0
  | .sl m off len cap, x => ∃ b, ρ m = some b ∧ x = .slice (some ⟨b.1, off, none⟩) len cap
  | .gsl m len, x => ∃ b, ρ m = some b ∧ x = .slice (some ⟨b.1, 0, none⟩) len b.2
  | .fn f caps, x => ∃ xs : List Value, F2 (PtrRel ρ) caps xs ∧ x = .func (.func f) #[] xs.toArray
  | .op v, x => x = v ∧ v.cells = #[v] ∧ (∀ cs, v ≠ .agg cs)  ∧ (∀ cs, v ≠ .tuple cs)
def A.rel (ρ : Ren) : A → Value → Prop
  | .c x, v => x.rel ρ v
  | .agg cs, v => ∃ xs : List Value, F2 (C.rel ρ) cs xs ∧ v = .agg xs.toArray
def V.rel (ρ : Ren) : V → Value → Prop
  | .a x, v => x.rel ρ v
  | .tup xs, v => ∃ ys : List Value, F2 (A.rel ρ) xs ys ∧ v = .tuple ys.toArray
def Ren.le (ρ ρ' : Ren) : Prop := ∀ m b, ρ m = some b → ρ' m = some b
theorem Ren.le_refl (ρ : Ren) : ρ.le ρ := fun _ _ h => h
theorem Ren.le_trans {a b c : Ren} (h : a.le b) (k : b.le c) : a.le c := fun m x e => k m x (h m x e)
theorem f2_imp {α β : Type} {R S : α → β → Prop} (h : ∀ a b, R a b → S a b) : ∀ {l : List α} {k : List β}, F2 R l k → F2 S l k
  | _, _, .nil => .nil
  | _, _, .cons x xs => .cons (h _ _ x) (f2_imp h xs)
theorem PtrRel.mono {ρ ρ' : Ren} (h : ρ.le ρ') (p : Nat × Nat) (x : Value) : PtrRel ρ p x → PtrRel ρ' p x
  | ⟨b, e, r⟩ => ⟨b, h _ _ e, r⟩
theorem C.rel_mono {ρ ρ' : Ren} (h : ρ.le ρ') (c : C) (x : Value) (r : c.rel ρ x) : c.rel ρ' x := by
  cases c <;> simp only [C.rel] at r ⊢ <;> try exact r
  · exact PtrRel.mono h _ _ r
  · obtain ⟨b, e, r⟩ := r; exact ⟨b, h _ _ e, r⟩
  · obtain ⟨b, e, r⟩ := r; exact ⟨b, h _ _ e, r⟩
  · obtain ⟨xs, e, r⟩ := r; exact ⟨xs, f2_imp (PtrRel.mono h) e, r⟩
theorem A.rel_mono {ρ ρ' : Ren} (h : ρ.le ρ') (c : A) (x : Value) (r : c.rel ρ x) : c.rel ρ' x := by
  cases c with
  | c y => exact C.rel_mono h y x r
  | agg cs => obtain ⟨xs, e, r⟩ := r; exact ⟨xs, f2_imp (C.rel_mono h) e, r⟩
theorem V.rel_mono {ρ ρ' : Ren} (h : ρ.le ρ') (c : V) (x : Value) (r : c.rel ρ x) : c.rel ρ' x := by
  cases c with
  | a y => exact A.rel_mono h y x r
  | tup cs => obtain ⟨xs, e, r⟩ := r; exact ⟨xs, f2_imp (A.rel_mono h) e, r⟩
/-- A related cell is one cell. -/
theorem C.rel_cells {ρ : Ren} {c : C} {x : Value} (r : c.rel ρ x) : x.cells = #[x] := by
  cases c <;> simp only [C.rel, PtrRel] at r
  case op v => obtain ⟨rfl, h, _⟩ := r; exact h
  case ptr => obtain ⟨b, _, rfl⟩ := r; rfl
  case sl => obtain ⟨b, _, rfl⟩ := r; rfl
  case gsl => obtain ⟨b, _, rfl⟩ := r; rfl
  case fn => obtain ⟨b, _, rfl⟩ := r; rfl
  all_goals (subst r; rfl)
theorem C.rel_noAgg {ρ : Ren} {c : C} {x : Value} (r : c.rel ρ x) : (∀ cs, x ≠ .agg cs) ∧ (∀ cs, x ≠ .tuple cs) := by
  cases c <;> simp only [C.rel, PtrRel] at r
  case op v => obtain ⟨rfl, _, h⟩ := r; exact h
  case ptr => obtain ⟨b, _, rfl⟩ := r; simp
  case sl => obtain ⟨b, _, rfl⟩ := r; simp
  case gsl => obtain ⟨b, _, rfl⟩ := r; simp
  case fn => obtain ⟨b, _, rfl⟩ := r; simp
  all_goals (subst r; simp)
/-- A block: known whole; known in part (read alone); one that an append may make longer; forgotten. -/
inductive Blk where
  | known (e : TypeId) (cs : List C)
  | part (base : Nat) (cs : List C)
  | dead
def Blk.cell : Blk → Nat → Option C
  | .known _ cs, o => cs[o]?
  | .part base cs, o => match Nat.ble base o with | true => cs[o - base]? | false => none
  | .dead, _ => none
def Blk.rel (ρ : Ren) (b : Nat) (w : World) : Blk → Prop
  | .known e cs => ∃ xs : List Value, F2 (C.rel ρ) cs xs ∧ w.heap[b]? = some (.cells xs.toArray e (0, 0))
  | .part base cs => ∀ j c, cs[j]? = some c → ∃ x, c.rel ρ x ∧ w.cell? ⟨b, base + j, none⟩ = some x
  | .dead => True
theorem f2_get {α β : Type} {R : α → β → Prop} : ∀ {l : List α} {k : List β}, F2 R l k → ∀ {i : Nat} {a : α}, l[i]? = some a → ∃ b, k[i]? = some b ∧ R a b
  | _, _, .nil, i, a, h => by simp at h
  | _, _, .cons (a := a₀) (b := b₀) x xs, 0, a, h => by simp at h; subst h; exact ⟨b₀, rfl, x⟩
  | _, _, .cons x xs, i + 1, a, h => by simp at h; simpa using f2_get xs h
theorem f2_len {α β : Type} {R : α → β → Prop} : ∀ {l : List α} {k : List β}, F2 R l k → l.length = k.length
  | _, _, .nil => rfl
  | _, _, .cons _ xs => by simp [f2_len xs]
theorem f2_set {α β : Type} {R : α → β → Prop} {a : α} {b : β} (h : R a b) : ∀ {l : List α} {k : List β}, F2 R l k → ∀ i, F2 R (l.set i a) (k.set i b)
  | _, _, .nil, i => .nil
  | _, _, .cons x xs, 0 => .cons h xs
  | _, _, .cons x xs, i + 1 => .cons x (f2_set h xs i)
theorem Blk.rel_cell {ρ : Ren} {b : Nat} {w : World} {k : Blk} (h : k.rel ρ b w) {o : Nat} {c : C} (hc : k.cell o = some c) : ∃ x, c.rel ρ x ∧ w.cell? ⟨b, o, none⟩ = some x := by
  cases k with
  | known e cs =>
    obtain ⟨xs, hf, hh⟩ := h
    obtain ⟨x, hx, hr⟩ := f2_get hf hc
    exact ⟨x, hr, by simp [World.cell?, hh, hx]⟩
  | part base cs =>
    simp only [Blk.cell] at hc
    split at hc
    · rename_i hb
      have hb' : base ≤ o := Nat.le_of_ble_eq_true hb
      obtain ⟨x, hr, hx⟩ := h _ _ hc
      exact ⟨x, hr, by rw [show base + (o - base) = o by omega] at hx; exact hx⟩
    · cases hc
  | dead => simp [Blk.cell] at hc
theorem Blk.rel_mono {ρ ρ' : Ren} (hρ : ρ.le ρ') {b : Nat} {w w' : World} {k : Blk} (hw : w'.heap[b]? = w.heap[b]?) (h : k.rel ρ b w) : k.rel ρ' b w' := by
  cases k with
  | known e cs =>
    obtain ⟨xs, hf, hh⟩ := h
    exact ⟨xs, f2_imp (C.rel_mono hρ) hf, by rw [hw]; exact hh⟩
  | part base cs =>
    intro j c hc
    obtain ⟨x, hr, hx⟩ := h j c hc
    exact ⟨x, C.rel_mono hρ _ _ hr, by rw [World.cell?_of_block (w := w) hw]; exact hx⟩
  | dead => trivial
def upd {α : Type} (f : Nat → α) (k : Nat) (v : α) : Nat → α := fun x => match Nat.beq x k with | true => v | false => f x
theorem upd_same {α : Type} (f : Nat → α) (k : Nat) (v : α) : upd f k v k = v := by simp [upd]
theorem upd_ne {α : Type} (f : Nat → α) {k x : Nat} (v : α) (h : x ≠ k) : upd f k v x = f x := by
  have : Nat.beq x k = false := by cases hb : Nat.beq x k; rfl; exact absurd (Nat.eq_of_beq_eq_true hb) h
  simp [upd, this]
/-- The abstract state: what is known of the slots and of the named blocks. -/
structure S where
  tm : Nat → Option V
  hp : Nat → Option Blk
/-- How the abstract state stands to a frame and a world. w0, B: the world and its size when the function began; names below n0 are blocks that were there. -/
structure Rel (w0 : World) (n0 N : Nat) (ρ : Ren) (s : S) (a : Act) (w : World) : Prop where
  sz : a.tmps.size = N
  df : a.defers = []
  bel : Below w0.heap.size w0 w
  tm : ∀ t v, s.tm t = some v → t < N ∧ v.rel ρ (a.tmps.getD t undef)
  dom : ∀ m, s.hp m = none → ρ m = none
  hp : ∀ m k, s.hp m = some k → ∃ b, ρ m = some b ∧ b.1 < w.heap.size ∧ k.rel ρ b.1 w ∧ (n0 ≤ m → w0.heap.size ≤ b.1) ∧ (m < n0 → b.1 < w0.heap.size)
  inj : ∀ m m' b b', ρ m = some b → ρ m' = some b' → n0 ≤ m → n0 ≤ m' → m ≠ m' → b.1 ≠ b'.1
/-- What one operation does. -/
structure Eff where
  val : Option V
  nw : List Blk
  wr : Option (Nat × Blk)
def addNews (c : Nat) : List Blk → (Nat → Option Blk) → Nat → Option Blk
  | [], h => h
  | b :: bs, h => addNews (c + 1) bs (upd h c (some b))
def act (dst : Option Tmp) (c : Nat) (e : Eff) (s : S) : S :=
  { tm := match dst with | some d => upd s.tm d e.val | none => s.tm
    hp := addNews c e.nw (match e.wr with | some (m, b) => upd s.hp m (some b) | none => s.hp) }
theorem addNews_out {c m : Nat} : ∀ {bs : List Blk} {h : Nat → Option Blk}, (m < c ∨ c + bs.length ≤ m) → addNews c bs h m = h m := by
  intro bs
  induction bs generalizing c with
  | nil => intro h _; rfl
  | cons b bs ih =>
    intro h hm
    simp only [addNews, List.length_cons] at hm ⊢
    rw [ih (by omega), upd_ne _ _ (by omega)]
theorem addNews_in {c : Nat} : ∀ {bs : List Blk} {h : Nat → Option Blk} {i : Nat}, i < bs.length → addNews c bs h (c + i) = bs[i]? := by
  intro bs
  induction bs generalizing c with
  | nil => intro h i hi; simp at hi
  | cons b bs ih =>
    intro h i hi
    cases i with
    | zero => simp only [addNews]; rw [addNews_out (.inl (by omega))]; simp [upd_same]
    | succ i =>
      have := ih (c := c + 1) (h := upd h c (some b)) (i := i) (by simpa using hi)
      simp only [addNews]
      rw [show c + (i + 1) = c + 1 + i by omega, this]; simp
theorem put_getD (a : Act) (dst : Option Tmp) (v : Value) (t : Nat) (ht : t < a.tmps.size) :
    (a.put dst v).tmps.getD t undef = if dst = some t then v else a.tmps.getD t undef := by
  cases dst with
  | none => simp [Act.put]
  | some d =>
    simp only [Act.put, Array.getD_eq_getD_getElem?, Array.getElem?_setIfInBounds]
    by_cases h : d = t
    · subst h; simp [ht]
    · have : ¬ (some d = some t) := by simpa using h
      simp [h]
theorem put_size (a : Act) (dst : Option Tmp) (v : Value) : (a.put dst v).tmps.size = a.tmps.size := by
  cases dst <;> simp [Act.put]
theorem put_defers (a : Act) (dst : Option Tmp) (v : Value) : (a.put dst v).defers = a.defers := by
  cases dst <;> simp [Act.put]
/-- Slots behind one operation. -/
theorem Rel.tm_put {w0 : World} {n0 N : Nat} {ρ ρ' : Ren} {s : S} {a : Act} {w : World} (h : Rel w0 n0 N ρ s a w) (hρ : ρ.le ρ') {dst : Option Tmp} {val : Option V} {x : Value}
    (hd : ∀ d, dst = some d → d < N) (hv : ∀ v, dst ≠ none → val = some v → v.rel ρ' x) :
    ∀ t v, (match dst with | some d => upd s.tm d val | none => s.tm) t = some v → t < N ∧ v.rel ρ' ((a.put dst x).tmps.getD t undef) := by
  intro t v ht
  cases dst with
  | none => obtain ⟨h1, h2⟩ := h.tm t v ht; exact ⟨h1, V.rel_mono hρ _ _ h2⟩
  | some d =>
    by_cases e : t = d
    · subst e
      have hlt := hd t rfl
      simp only [upd_same] at ht
      refine ⟨hlt, ?_⟩
      rw [put_getD _ _ _ _ (by rw [h.sz]; exact hlt), if_pos rfl]
      exact hv v (by simp) ht
    · simp only [upd_ne _ _ e] at ht
      obtain ⟨h1, h2⟩ := h.tm t v ht
      refine ⟨h1, ?_⟩
      rw [put_getD _ _ _ _ (by rw [h.sz]; exact h1), if_neg (by simpa using fun h => e h.symm)]
      exact V.rel_mono hρ _ _ h2
/-- An operation that changes no block that was there (and may make new ones). -/
theorem Rel.grow {w0 : World} {n0 N : Nat} {ρ ρ' : Ren} {s : S} {a : Act} {w w' : World} (h : Rel w0 n0 N ρ s a w) {dst : Option Tmp} {c : Nat} {val : Option V} {nw : List Blk} {x : Value}
    (hd : ∀ d, dst = some d → d < N) (hn : n0 ≤ c) (hb : Below w.heap.size w w') (hρ : ρ.le ρ')
    (hnew : ∀ m, ρ m = none → (m < c ∨ c + nw.length ≤ m) → ρ' m = none)
    (hfresh : ∀ i, i < nw.length → s.hp (c + i) = none)
    (hv : ∀ v, dst ≠ none → val = some v → v.rel ρ' x)
    (hk : ∀ i k, nw[i]? = some k → ∃ b, ρ' (c + i) = some b ∧ w.heap.size ≤ b.1 ∧ b.1 < w'.heap.size ∧ k.rel ρ' b.1 w')
    (hi : ∀ i j b b', i < nw.length → j < nw.length → i ≠ j → ρ' (c + i) = some b → ρ' (c + j) = some b' → b.1 ≠ b'.1) :
    Rel w0 n0 N ρ' (act dst c ⟨val, nw, none⟩ s) (a.put dst x) w' where
  sz := by rw [put_size]; exact h.sz
  df := by rw [put_defers]; exact h.df
  bel := h.bel.trans (hb.mono h.bel.size)
  tm := h.tm_put hρ hd hv
  dom := by
    intro m hm
    simp only [act] at hm
    by_cases hin : m < c ∨ c + nw.length ≤ m
    · rw [addNews_out hin] at hm; exact hnew m (h.dom m hm) hin
    · exfalso
      have := addNews_in (c := c) (bs := nw) (h := s.hp) (i := m - c) (by omega)
      rw [show c + (m - c) = m by omega, hm] at this
      simp at this; omega
  hp := by
    intro m k hm
    simp only [act] at hm
    by_cases hin : m < c ∨ c + nw.length ≤ m
    · rw [addNews_out hin] at hm
      obtain ⟨b, h1, h2, h3, h4⟩ := h.hp m k hm
      exact ⟨b, hρ _ _ h1, Nat.lt_of_lt_of_le h2 hb.size, Blk.rel_mono hρ (hb.block _ h2) h3, h4⟩
    · have := addNews_in (c := c) (bs := nw) (h := s.hp) (i := m - c) (by omega)
      rw [show c + (m - c) = m by omega, hm] at this
      obtain ⟨b, h1, h2, h3, h4⟩ := hk (m - c) k this.symm
      rw [show c + (m - c) = m by omega] at h1
      exact ⟨b, h1, h3, h4, fun _ => Nat.le_trans h.bel.size h2, fun hlt => by omega⟩
  inj := by
    have old : ∀ m b, ρ' m = some b → (m < c ∨ c + nw.length ≤ m) → ρ m = some b := by
      intro m b hm hin
      cases hr : ρ m with
      | none => rw [hnew m hr hin] at hm; cases hm
      | some b' => rw [hρ _ _ hr] at hm; exact hm
    have isnew : ∀ m b, ρ' m = some b → ¬ (m < c ∨ c + nw.length ≤ m) → w.heap.size ≤ b.1 := by
      intro m b hm hin
      have hlt : m - c < nw.length := by omega
      obtain ⟨b', h1, h2, _⟩ := hk (m - c) nw[m - c] (List.getElem?_eq_getElem hlt)
      rw [show c + (m - c) = m by omega, hm] at h1
      cases h1; exact h2
    have isold : ∀ m b, ρ m = some b → b.1 < w.heap.size := by
      intro m b hm
      cases hr : s.hp m with
      | none => rw [h.dom m hr] at hm; cases hm
      | some k => obtain ⟨b', h1, h2, _⟩ := h.hp m k hr; rw [hm] at h1; cases h1; exact h2
    intro m m' b b' hm hm' hn1 hn2 hne
    by_cases i1 : m < c ∨ c + nw.length ≤ m
    · by_cases i2 : m' < c ∨ c + nw.length ≤ m'
      · exact h.inj m m' b b' (old _ _ hm i1) (old _ _ hm' i2) hn1 hn2 hne
      · have := isold _ _ (old _ _ hm i1); have := isnew _ _ hm' i2; omega
    · by_cases i2 : m' < c ∨ c + nw.length ≤ m'
      · have := isold _ _ (old _ _ hm' i2); have := isnew _ _ hm i1; omega
      · have e1 : c + (m - c) = m := by omega
        have e2 : c + (m' - c) = m' := by omega
        exact hi (m - c) (m' - c) b b' (by omega) (by omega) (by omega) (by rw [e1]; exact hm) (by rw [e2]; exact hm')
/-- An operation that writes into one block of the call's own. -/
theorem Rel.wrote {w0 : World} {n0 N : Nat} {ρ : Ren} {s : S} {a : Act} {w w' : World} (h : Rel w0 n0 N ρ s a w) {dst : Option Tmp} {c : Nat} {val : Option V} {m : Nat} {b : Nat × Nat} {k k' : Blk} {x : Value}
    (hd : ∀ d, dst = some d → d < N) (hm : s.hp m = some k) (hn : n0 ≤ m) (hb : ρ m = some b)
    (ho : w'.os = w.os) (ht : w'.tape = w.tape) (hu : w'.output = w.output) (hsz : w'.heap.size = w.heap.size) (hother : ∀ i, i ≠ b.1 → w'.heap[i]? = w.heap[i]?)
    (hk : k'.rel ρ b.1 w') (hv : ∀ v, dst ≠ none → val = some v → v.rel ρ x) :
    Rel w0 n0 N ρ (act dst c ⟨val, [], some (m, k')⟩ s) (a.put dst x) w' where
  sz := by rw [put_size]; exact h.sz
  df := by rw [put_defers]; exact h.df
  bel := by
    obtain ⟨b2, h1, h2, h3, h4, h5⟩ := h.hp m k hm
    rw [hb] at h1; cases h1
    have := h4 hn
    exact h.bel.trans ⟨ho, ht, hu, by omega, fun i hi => hother i (by omega)⟩
  tm := h.tm_put (Ren.le_refl _) hd hv
  dom := by
    intro i hi
    simp only [act, addNews] at hi
    by_cases e : i = m
    · subst e; rw [upd_same] at hi; cases hi
    · rw [upd_ne _ _ e] at hi; exact h.dom i hi
  hp := by
    intro i k2 hi
    simp only [act, addNews] at hi
    by_cases e : i = m
    · subst e
      rw [upd_same] at hi; cases hi
      obtain ⟨b2, h1, h2, h3, h4, h5⟩ := h.hp i k hm
      rw [hb] at h1; cases h1
      exact ⟨b, hb, by omega, hk, h4, h5⟩
    · rw [upd_ne _ _ e] at hi
      obtain ⟨b2, h1, h2, h3, h4, h5⟩ := h.hp i k2 hi
      have hne : b2.1 ≠ b.1 := by
        obtain ⟨b3, g1, g2, g3, g4, g5⟩ := h.hp m k hm
        rw [hb] at g1; cases g1
        by_cases hin : n0 ≤ i
        · exact h.inj i m b2 b h1 hb hin hn e
        · have := h5 (by omega); have := g4 hn; omega
      exact ⟨b2, h1, by omega, Blk.rel_mono (Ren.le_refl _) (hother _ hne) h3, h4, h5⟩
  inj := h.inj
end Go.Eng
end

section
namespace Go.Eng
/-- What is recorded of an operation in the text's order: the first new name, what it did (none: its guard said no), the names that it read. -/
structure Rec where
  c : Nat
  e : Option Eff
  rd : List Nat
def skip (dst : Option Tmp) (s : S) : S := { s with tm := match dst with | some d => upd s.tm d none | none => s.tm }
def doit (dst : Option Tmp) (r : Rec) (s : S) : S := match r.e with | some e => act dst r.c e s | none => skip dst s
/-- Names from one on, so many. -/
def names (c : Nat) : Nat → List Nat
  | 0 => []
  | n + 1 => c :: names (c + 1) n
theorem mem_names {c m : Nat} : ∀ {n : Nat}, m ∈ names c n ↔ c ≤ m ∧ m < c + n := by
  intro n
  induction n generalizing c with
  | zero => simp [names]
  | succ n ih => simp only [names, List.mem_cons, ih]; omega
def Rec.touch (r : Rec) : List Nat :=
  match r.e with
  | some e => (match e.wr with | some (m, _) => [m] | none => []) ++ names r.c e.nw.length
  | none => []
abbrev Item := Option Tmp × Rec
def runL (D : Nat → Bool) : List Item → Nat → S → S
  | [], _, s => s
  | x :: l, i, s => runL D l (i + 1) (if D i then doit x.1 x.2 s else s)
theorem doit_tm_ne (x : Item) (s : S) (t : Nat) (h : x.1 ≠ some t) : (doit x.1 x.2 s).tm t = s.tm t := by
  obtain ⟨d, r⟩ := x
  cases d with
  | none => unfold doit; split <;> rfl
  | some d =>
    have hne : t ≠ d := fun e => h (by simp [e])
    unfold doit
    split
    · simp only [act]; exact upd_ne _ _ hne
    · simp only [skip]; exact upd_ne _ _ hne
theorem doit_tm_eq (x : Item) (s s' : S) (t : Nat) (h : x.1 = some t) : (doit x.1 x.2 s).tm t = (doit x.1 x.2 s').tm t := by
  obtain ⟨d, r⟩ := x
  simp only at h; subst h
  unfold doit
  split
  · simp only [act, upd_same]
  · simp only [skip, upd_same]
theorem doit_hp_ne (x : Item) (s : S) (m : Nat) (h : m ∉ x.2.touch) : (doit x.1 x.2 s).hp m = s.hp m := by
  obtain ⟨d, r⟩ := x
  unfold doit
  simp only [Rec.touch] at h
  split
  · rename_i e he
    rw [he] at h
    simp only [List.mem_append, mem_names, not_or] at h
    simp only [act]
    rw [addNews_out (by omega)]
    cases hw : e.wr with
    | none => rfl
    | some p =>
      rw [hw] at h
      exact upd_ne _ _ (by simpa using h.1)
  · rfl
theorem addNews_congr {m : Nat} : ∀ {bs : List Blk} {c : Nat} {h h' : Nat → Option Blk}, h m = h' m → addNews c bs h m = addNews c bs h' m := by
  intro bs
  induction bs with
  | nil => intro c h h' e; exact e
  | cons b bs ih =>
    intro c h h' e
    simp only [addNews]
    refine ih ?_
    by_cases hm : m = c
    · subst hm; simp [upd_same]
    · simp [upd_ne _ _ hm, e]
theorem doit_hp_eq (x : Item) (s s' : S) (m : Nat) (h : m ∈ x.2.touch) : (doit x.1 x.2 s).hp m = (doit x.1 x.2 s').hp m := by
  obtain ⟨d, r⟩ := x
  unfold doit
  simp only [Rec.touch] at h
  split
  · rename_i e he
    rw [he] at h
    simp only [List.mem_append, mem_names] at h
    simp only [act]
    by_cases hn : r.c ≤ m ∧ m < r.c + e.nw.length
    · have k1 := fun (h : Nat → Option Blk) => addNews_in (c := r.c) (bs := e.nw) (h := h) (i := m - r.c) (by omega)
      rw [show r.c + (m - r.c) = m by omega] at k1
      rw [k1, k1]
    · have hw := h.resolve_right hn
      refine addNews_congr ?_
      split at hw
      · rename_i m' b hw'
        have : m = m' := by simpa using hw
        subst this; simp only [hw']; rw [upd_same, upd_same]
      · simp at hw
  · rename_i he; rw [he] at h; simp at h
theorem runL_tm {D D' : Nat → Bool} {t : Nat} : ∀ (l : List Item) (i : Nat) (s s' : S), s.tm t = s'.tm t →
    (∀ k x, l[k]? = some x → x.1 = some t → D (i + k) = D' (i + k)) → (runL D l i s).tm t = (runL D' l i s').tm t := by
  intro l
  induction l with
  | nil => intro i s s' h _; exact h
  | cons x l ih =>
    intro i s s' h hd
    simp only [runL]
    refine ih _ _ _ ?_ (fun k y hk hy => ?_)
    · by_cases ht : x.1 = some t
      · have e := hd 0 x rfl ht
        simp only [Nat.add_zero] at e
        rw [e]; split
        · exact doit_tm_eq x _ _ t ht
        · exact h
      · have a1 : (if D i = true then doit x.1 x.2 s else s).tm t = s.tm t := by split; exact doit_tm_ne x s t ht; rfl
        have a2 : (if D' i = true then doit x.1 x.2 s' else s').tm t = s'.tm t := by split; exact doit_tm_ne x s' t ht; rfl
        rw [a1, a2]; exact h
    · have := hd (k + 1) y (by simpa using hk) hy
      rw [show i + (k + 1) = i + 1 + k by omega] at this; exact this
theorem runL_hp {D D' : Nat → Bool} {m : Nat} : ∀ (l : List Item) (i : Nat) (s s' : S), s.hp m = s'.hp m →
    (∀ k x, l[k]? = some x → m ∈ x.2.touch → D (i + k) = D' (i + k)) → (runL D l i s).hp m = (runL D' l i s').hp m := by
  intro l
  induction l with
  | nil => intro i s s' h _; exact h
  | cons x l ih =>
    intro i s s' h hd
    simp only [runL]
    refine ih _ _ _ ?_ (fun k y hk hy => ?_)
    · by_cases ht : m ∈ x.2.touch
      · have e := hd 0 x rfl ht
        simp only [Nat.add_zero] at e
        rw [e]; split
        · exact doit_hp_eq x _ _ m ht
        · exact h
      · have a1 : (if D i = true then doit x.1 x.2 s else s).hp m = s.hp m := by split; exact doit_hp_ne x s m ht; rfl
        have a2 : (if D' i = true then doit x.1 x.2 s' else s').hp m = s'.hp m := by split; exact doit_hp_ne x s' m ht; rfl
        rw [a1, a2]; exact h
    · have := hd (k + 1) y (by simpa using hk) hy
      rw [show i + (k + 1) = i + 1 + k by omega] at this; exact this
/-- Two operations that touch nothing in common come to one state in either order. -/
theorem doit_comm (x y : Item) (s : S) (h1 : ∀ d, x.1 = some d → y.1 ≠ some d) (h2 : ∀ m, m ∈ x.2.touch → m ∉ y.2.touch) :
    doit x.1 x.2 (doit y.1 y.2 s) = doit y.1 y.2 (doit x.1 x.2 s) := by
  have ext : ∀ a b : S, (∀ t, a.tm t = b.tm t) → (∀ m, a.hp m = b.hp m) → a = b := by
    intro a b ht hm; cases a; cases b; simp only [S.mk.injEq]; exact ⟨funext ht, funext hm⟩
  refine ext _ _ (fun t => ?_) (fun m => ?_)
  · by_cases hx : x.1 = some t
    · rw [doit_tm_ne y _ t (h1 t hx)]
      exact doit_tm_eq x _ _ t hx
    · rw [doit_tm_ne x _ t hx]
      by_cases hy : y.1 = some t
      · exact doit_tm_eq y _ _ t hy
      · rw [doit_tm_ne y _ t hy, doit_tm_ne y _ t hy, doit_tm_ne x _ t hx]
  · by_cases hx : m ∈ x.2.touch
    · rw [doit_hp_ne y _ m (h2 m hx)]
      exact doit_hp_eq x _ _ m hx
    · rw [doit_hp_ne x _ m hx]
      by_cases hy : m ∈ y.2.touch
      · exact doit_hp_eq y _ _ m hy
      · rw [doit_hp_ne y _ m hy, doit_hp_ne y _ m hy, doit_hp_ne x _ m hx]
theorem runL_comm {D : Nat → Bool} (x : Item) : ∀ (l : List Item) (i : Nat) (s : S),
    (∀ k y, l[k]? = some y → D (i + k) = true → ∀ s, doit y.1 y.2 (doit x.1 x.2 s) = doit x.1 x.2 (doit y.1 y.2 s)) →
    runL D l i (doit x.1 x.2 s) = doit x.1 x.2 (runL D l i s) := by
  intro l
  induction l with
  | nil => intro i s _; rfl
  | cons y l ih =>
    intro i s h
    simp only [runL]
    have h0 := h 0 y rfl
    simp only [Nat.add_zero] at h0
    have e : (if D i = true then doit y.1 y.2 (doit x.1 x.2 s) else doit x.1 x.2 s) = doit x.1 x.2 (if D i = true then doit y.1 y.2 s else s) := by
      split
      · rename_i hd; exact h0 hd s
      · rfl
    rw [e]
    exact ih _ _ (fun k z hk hd => h (k + 1) z (by simpa using hk) (by rw [show i + (k + 1) = i + 1 + k by omega]; exact hd))
/-- One operation more. -/
theorem runL_ins {D D' : Nat → Bool} (x : Item) : ∀ (l : List Item) (i j : Nat) (s : S), l[j]? = some x → D (i + j) = false → D' (i + j) = true → (∀ k, k ≠ i + j → D' k = D k) →
    (∀ k y, l[k]? = some y → j < k → D (i + k) = true → ∀ s, doit y.1 y.2 (doit x.1 x.2 s) = doit x.1 x.2 (doit y.1 y.2 s)) →
    runL D' l i s = doit x.1 x.2 (runL D l i s) := by
  intro l
  induction l with
  | nil => intro i j s h; simp at h
  | cons y l ih =>
    intro i j s hj hD hD' hoff hc
    cases j with
    | zero =>
      simp at hj; subst hj
      simp only [Nat.add_zero] at hD hD' hoff
      simp only [runL, hD, hD', if_true, Bool.false_eq_true, if_false]
      have e : ∀ s, runL D' l (i + 1) s = runL D l (i + 1) s := by
        have : ∀ (l : List Item) (k : Nat), i < k → ∀ s, runL D' l k s = runL D l k s := by
          intro l
          induction l with
          | nil => intro k _ s; rfl
          | cons z l ih2 =>
            intro k hk s
            simp only [runL]
            rw [hoff k (by omega)]
            exact ih2 _ (by omega) _
        exact this l (i + 1) (by omega)
      rw [e]
      exact runL_comm y l (i + 1) s (fun k z hk hd => hc (k + 1) z (by simpa using hk) (by omega) (by rw [show i + (k + 1) = i + 1 + k by omega]; exact hd))
    | succ j =>
      simp only [runL]
      rw [hoff i (by omega)]
      refine ih (i + 1) j _ (by simpa using hj) ?_ ?_ ?_ ?_
      · rw [show i + 1 + j = i + (j + 1) by omega]; exact hD
      · rw [show i + 1 + j = i + (j + 1) by omega]; exact hD'
      · intro k hk; exact hoff k (by omega)
      · intro k z hk hjk hd
        exact hc (k + 1) z (by simpa using hk) (by omega) (by rw [show i + (k + 1) = i + 1 + k by omega]; exact hd)
theorem runL_all {D : Nat → Bool} : ∀ (l : List Item) (i : Nat) (s : S), (∀ k, k < l.length → D (i + k) = true) → runL D l i s = runL (fun _ => true) l i s := by
  intro l
  induction l with
  | nil => intro i s _; rfl
  | cons x l ih =>
    intro i s h
    have h0 := h 0 (by simp)
    simp only [Nat.add_zero] at h0
    simp only [runL, h0, if_true]
    exact ih _ _ (fun k hk => by rw [show i + 1 + k = i + (k + 1) by omega]; exact h (k + 1) (by simpa using hk))
/-- Slots that an operation looks at or writes. -/
def opTmps : List Operand → List Nat
  | [] => []
  | .tmp t :: l => t :: opTmps l
  | _ :: l => opTmps l
def dstOf (ops : Array Oper) (k : Nat) : Option Tmp := (ops[k]?).bind (·.dst)
def uses (ops : Array Oper) (o : Oper) : List Nat :=
  (match o.guard with | some (k, _) => (match dstOf ops k with | some d => [d] | none => []) | none => []) ++ (match o.dst with | some d => [d] | none => []) ++ opTmps o.op.operands.toList
/-- Which operations come before one, as the bits of a number. -/
def maskE (M : List Nat) : List Edge → Nat
  | [] => 0
  | e :: r => match Region.binds .any e with | true => ((1 <<< e.on) ||| M.getD e.on 0) ||| maskE M r | false => maskE M r
def masks : List Oper → List Nat → List Nat
  | [], acc => acc
  | o :: r, acc => masks r (acc ++ [maskE acc o.after.toList])
theorem maskE_bit {M : List Nat} {k : Nat} : ∀ {l : List Edge}, (maskE M l).testBit k = true → ∃ e ∈ l, Region.binds .any e = true ∧ (e.on = k ∨ (M.getD e.on 0).testBit k = true) := by
  intro l
  induction l with
  | nil => intro h; simp [maskE] at h
  | cons e r ih =>
    intro h
    simp only [maskE] at h
    split at h
    · rename_i hb
      simp only [Nat.testBit_or, Bool.or_eq_true] at h
      rcases h with (h | h) | h
      · refine ⟨e, by simp, hb, .inl ?_⟩
        rw [Nat.one_shiftLeft, Nat.testBit_two_pow] at h
        simpa using h
      · exact ⟨e, by simp, hb, .inr h⟩
      · obtain ⟨e', h1, h2⟩ := ih h
        exact ⟨e', by simp [h1], h2⟩
    · obtain ⟨e', h1, h2⟩ := ih h
      exact ⟨e', by simp [h1], h2⟩
/-- Each mask is what its edges say, and edges lead back. -/
def masksOk (M : List Nat) : List Oper → Nat → Bool
  | [], _ => true
  | o :: r, i => Nat.beq (M.getD i 0) (maskE M o.after.toList) && o.after.toList.all (fun e => !Region.binds .any e || Nat.blt e.on i) && masksOk M r (i + 1)
theorem masksOk_at {M : List Nat} : ∀ {l : List Oper} {i k : Nat} {o : Oper}, masksOk M l i = true → l[k]? = some o →
    M.getD (i + k) 0 = maskE M o.after.toList ∧ ∀ e ∈ o.after.toList, Region.binds .any e = true → e.on < i + k := by
  intro l
  induction l with
  | nil => intro i k o _ h; simp at h
  | cons x l ih =>
    intro i k o h hk
    simp only [masksOk, Bool.and_eq_true] at h
    cases k with
    | zero =>
      simp at hk; subst hk
      refine ⟨Nat.eq_of_beq_eq_true h.1.1, fun e he hb => ?_⟩
      have := List.all_eq_true.1 h.1.2 e he
      rw [hb] at this
      simpa [Nat.blt_eq] using this
    | succ k =>
      have := ih h.2 (by simpa using hk)
      rw [show i + (k + 1) = i + 1 + k by omega]; exact this
/-- Whether an operation may disturb another one. -/
def conf (us : List Nat) (x y : Item) : Bool :=
  (match x.1 with | some d => us.elem d | none => false) || x.2.touch.any (fun m => y.2.rd.elem m || y.2.touch.elem m)
def pairsOk (M : List Nat) (X : List Item) (j : Nat) (us : List Nat) (y : Item) : List Item → Nat → Bool
  | [], _ => true
  | x :: l, i => (Nat.beq i j || !conf us x y || (match Nat.blt i j with | true => (M.getD j 0).testBit i | false => (M.getD i 0).testBit j)) && pairsOk M X j us y l (i + 1)
def allPairsOk (ops : Array Oper) (M : List Nat) (X : List Item) : List Oper → List Item → Nat → Bool
  | o :: os, y :: ys, j => pairsOk M X j (uses ops o) y X 0 && allPairsOk ops M X os ys (j + 1)
  | _, _, _ => true
theorem pairsOk_at {M : List Nat} {X : List Item} {j : Nat} {us : List Nat} {y : Item} : ∀ {l : List Item} {i k : Nat} {x : Item}, pairsOk M X j us y l i = true → l[k]? = some x → i + k ≠ j → conf us x y = true →
    (i + k < j → (M.getD j 0).testBit (i + k) = true) ∧ (j < i + k → (M.getD (i + k) 0).testBit j = true) := by
  intro l
  induction l with
  | nil => intro i k x _ h; simp at h
  | cons z l ih =>
    intro i k x h hk hne hc
    simp only [pairsOk, Bool.and_eq_true] at h
    cases k with
    | zero =>
      simp at hk; subst hk
      simp only [Nat.add_zero] at hne ⊢
      have h1 := h.1
      have hb : Nat.beq i j = false := by cases hb : Nat.beq i j; rfl; exact absurd (Nat.eq_of_beq_eq_true hb) hne
      rw [hb, hc] at h1
      simp only [Bool.not_true, Bool.or_self, Bool.false_or] at h1
      constructor
      · intro hlt
        have : Nat.blt i j = true := by rw [Nat.blt_eq]; exact hlt
        rw [this] at h1; exact h1
      · intro hlt
        have : Nat.blt i j = false := by rw [← Bool.not_eq_true, Nat.blt_eq]; omega
        rw [this] at h1; exact h1
    | succ k =>
      have := ih h.2 (by simpa using hk) (by omega) hc
      rw [show i + (k + 1) = i + 1 + k by omega]; exact this
theorem allPairsOk_at {ops : Array Oper} {M : List Nat} {X : List Item} : ∀ {os : List Oper} {ys : List Item} {j k : Nat} {o : Oper} {y : Item}, allPairsOk ops M X os ys j = true → os[k]? = some o → ys[k]? = some y → pairsOk M X (j + k) (uses ops o) y X 0 = true := by
  intro os
  induction os with
  | nil => intro ys j k o y _ h; simp at h
  | cons z os ih =>
    intro ys j k o y h ho hy
    cases ys with
    | nil => simp at hy
    | cons w ys =>
      simp only [allPairsOk, Bool.and_eq_true] at h
      cases k with
      | zero => simp at ho hy; subst ho; subst hy; exact h.1
      | succ k =>
        have := ih h.2 (by simpa using ho) (by simpa using hy)
        rw [show j + (k + 1) = j + 1 + k by omega]; exact this
end Go.Eng
end

section
namespace Go.Eng
/-- Conditions that are owed. -/
def All : List Prop → Prop
  | [] => True
  | p :: l => p ∧ All l
theorem All.append : ∀ {l k : List Prop}, All (l ++ k) ↔ All l ∧ All k
  | [], k => by simp [All]
  | p :: l, k => by simp [All, All.append (l := l), and_assoc]
section
variable (P : Program)
/-- A run of the model's own text where it asks nothing of the world. -/
def pureRun {α : Type} : Sem α → Option α
  | .pure a => some a
  | .program k => pureRun (k P)
  | _ => none
theorem pureRun_run {α : Type} : ∀ (m : Sem α) {x : α} (w : World), pureRun P m = some x → m.run P w = .ok x w := by
  intro m
  induction m with
  | pure a => intro x w h; simp [pureRun] at h; subst h; rfl
  | program k ih => intro x w h; simp only [pureRun] at h; exact ih P w h
  | _ => intro x w h; simp [pureRun] at h
end
/-- A cell without an address, as a value. -/
def C.val : C → Option Value
  | .num k n => some (.int k n)
  | .int k n => some (.int k n)
  | .lit b => some (.bool b)
  | .bool b => some (.bool b)
  | .str s => some (.string s)
  | .nil => some (.pointer none)
  | .nsl => some (.slice none 0 0)
  | .op v => some v
  | _ => none
def valL : List C → Option (List Value)
  | [] => some []
  | c :: l => match c.val, valL l with | some v, some r => some (v :: r) | _, _ => none
def A.val : A → Option Value
  | .c x => x.val
  | .agg cs => match valL cs with | some l => some (.agg l.toArray) | none => none
def V.val : V → Option Value
  | .a x => x.val
  | .tup _ => none
def C.known : C → Bool
  | .int _ _ => false
  | .bool _ => false
  | .op _ => false
  | .str _ => false
  | _ => true
def A.known : A → Bool
  | .c x => x.known
  | .agg cs => cs.all C.known
def V.known : V → Bool
  | .a x => x.known
  | .tup _ => false
theorem C.val_rel {ρ : Ren} {c : C} {v x : Value} (h : c.val = some v) (r : c.rel ρ x) : x = v := by
  cases c <;> simp only [C.val, Option.some.injEq, reduceCtorEq] at h <;> simp only [C.rel] at r
  case op u => rw [r.1, h]
  all_goals (rw [r, h])
theorem valL_rel {ρ : Ren} : ∀ {cs : List C} {l xs : List Value}, valL cs = some l → F2 (C.rel ρ) cs xs → xs = l := by
  intro cs
  induction cs with
  | nil => intro l xs h r; cases r; simp [valL] at h; exact h.symm
  | cons c cs ih =>
    intro l xs h r
    cases r with
    | cons r0 rs =>
      simp only [valL] at h
      split at h
      · rename_i v r' hv hr
        simp at h; subst h
        rw [C.val_rel hv r0, ih hr rs]
      · cases h
theorem A.val_rel {ρ : Ren} {c : A} {v x : Value} (h : c.val = some v) (r : c.rel ρ x) : x = v := by
  cases c with
  | c y => exact C.val_rel h r
  | agg cs =>
    simp only [A.val] at h
    split at h
    · rename_i l hl
      simp at h; subst h
      obtain ⟨xs, hf, rfl⟩ := r
      rw [valL_rel hl hf]
    · cases h
/-- A value as a cell: known, or any term. -/
def ofCell (known : Bool) (v : Value) : Option C :=
  match v with
  | .int k n => some (match known with | true => .num k n | false => .int k n)
  | .bool b => some (match known with | true => .lit b | false => .bool b)
  | .string s => some (.str s)
  | .pointer none => some .nil
  | .slice none 0 0 => some .nsl
  | .agg _ => none
  | .tuple _ => none
  | v => some (.op v)
def ofCells (known : Bool) : List Value → Option (List C)
  | [] => some []
  | v :: l => match ofCell known v, ofCells known l with | some c, some r => some (c :: r) | _, _ => none
def ofVal (known : Bool) (v : Value) : Option A :=
  match v with
  | .agg cs => match ofCells known cs.toList with | some l => some (.agg l) | none => none
  | v => match ofCell known v with | some c => some (.c c) | none => none
theorem ofCell_rel (ρ : Ren) {b : Bool} {v : Value} {c : C} (h : ofCell b v = some c) : c.rel ρ v := by
  unfold ofCell at h
  split at h
  case h_1 => cases b <;> (simp at h; subst h; rfl)
  case h_2 => cases b <;> (simp at h; subst h; rfl)
  case h_3 => simp at h; subst h; rfl
  case h_4 => simp at h; subst h; rfl
  case h_5 => simp at h; subst h; rfl
  case h_6 => cases h
  case h_7 => cases h
  case h_8 =>
    rename_i h7 h8
    simp at h; subst h
    refine ⟨rfl, ?_, fun cs e => h7 cs e, fun cs e => h8 cs e⟩
    cases v <;> first | rfl | (exact absurd rfl (h7 _))
theorem ofCells_rel (ρ : Ren) {b : Bool} : ∀ {l : List Value} {cs : List C}, ofCells b l = some cs → F2 (C.rel ρ) cs l := by
  intro l
  induction l with
  | nil => intro cs h; simp [ofCells] at h; subst h; exact .nil
  | cons v l ih =>
    intro cs h
    simp only [ofCells] at h
    split at h
    · rename_i c r hc hr
      simp at h; subst h
      exact .cons (ofCell_rel ρ hc) (ih hr)
    · cases h
theorem ofVal_rel (ρ : Ren) {b : Bool} {v : Value} {c : A} (h : ofVal b v = some c) : c.rel ρ v := by
  unfold ofVal at h
  split at h
  · rename_i cs
    split at h
    · rename_i l hl
      simp at h; subst h
      exact ⟨cs.toList, ofCells_rel ρ hl, by simp⟩
    · cases h
  · split at h
    · rename_i c' hc
      simp at h; subst h
      exact ofCell_rel ρ hc
    · cases h
/-- What an operand is known to be. G: so many package-level variables are blocks with a name. -/
def look (G : Nat) (s : S) : Operand → Option V
  | .tmp t => s.tm t
  | .const v => (match ofVal true v with | some a => some (.a a) | none => none)
  | .global g => match Nat.blt g G with | true => some (.a (.c (.ptr g 0))) | false => none
  | .func f => some (.a (.c (.fn f [])))
/-- What an operation may use of 'Rel'. -/
structure View (G : Nat) (ρ : Ren) (s : S) (a : Act) (w : World) : Prop where
  tm : ∀ t v, s.tm t = some v → v.rel ρ (a.tmps.getD t undef)
  hp : ∀ m k, s.hp m = some k → ∃ b, ρ m = some b ∧ b.1 < w.heap.size ∧ k.rel ρ b.1 w
  gl : ∀ g, g < G → ρ g = some (g, 0)
theorem look_rel {G : Nat} {ρ : Ren} {s : S} {a : Act} {w : World} (h : View G ρ s a w) {x : Operand} {v : V} (e : look G s x = some v) : v.rel ρ (a.eval x) := by
  cases x with
  | tmp t => exact h.tm t v e
  | const u =>
    simp only [look] at e
    split at e
    · rename_i c hc
      simp at e; subst e
      exact ofVal_rel ρ hc
    · cases e
  | global g =>
    simp only [look] at e
    split at e
    · rename_i hg
      simp at e; subst e
      exact ⟨(g, 0), h.gl g (by simpa [Nat.blt_eq] using hg), rfl⟩
    · cases e
  | func f =>
    simp only [look] at e
    simp at e; subst e
    exact ⟨[], .nil, rfl⟩
/-- The value of an operand without an address. -/
def evalO (G : Nat) (s : S) (x : Operand) : Value := match look G s x with | some v => (match v.val with | some u => u | none => undef) | none => undef
def okO (G : Nat) (s : S) (x : Operand) : Bool := match look G s x with | some (.a a) => (match a.val with | some _ => true | none => false) | _ => false
def knownO (G : Nat) (s : S) (x : Operand) : Bool := match look G s x with | some v => v.known | none => false
theorem evalO_eq {G : Nat} {ρ : Ren} {s : S} {a : Act} {w : World} (h : View G ρ s a w) {x : Operand} (ok : okO G s x = true) : evalO G s x = a.eval x := by
  unfold okO at ok
  unfold evalO
  cases hl : look G s x with
  | none => rw [hl] at ok; simp at ok
  | some v =>
    rw [hl] at ok
    cases v with
    | tup xs => simp at ok
    | a y =>
      simp only at ok
      cases hv : y.val with
      | none => rw [hv] at ok; simp at ok
      | some u =>
        have : (V.a y).val = some u := hv
        simp only [this]
        exact (A.val_rel hv (look_rel h hl)).symm
section
variable (P : Program) (G : Nat)
/-- An operation on values without addresses, by the model's own text. -/
def effPure (o : Oper) (s : S) : Option V :=
  match o.op.operands.toList.all (okO G s) with
  | true =>
    match pureRun P (execOp (evalO G s) o) with
    | some (.value x) => (match ofVal (o.op.operands.toList.all (knownO G s)) x with | some a => some (.a a) | none => none)
    | _ => none
  | false => none
theorem effPure_sound {ρ : Ren} {s : S} {a : Act} {w : World} (h : View G ρ s a w) {o : Oper} {v : V} (hs : ∀ cs b, o.op ≠ .select cs b) (e : effPure P G o s = some v) :
    ∃ x, (execOp a.eval o).run P w = .ok (.value x) w ∧ v.rel ρ x := by
  unfold effPure at e
  split at e
  · rename_i hok
    split at e
    · rename_i x hx
      split at e
      · rename_i c hc
        simp at e; subst e
        refine ⟨x, ?_, ofVal_rel ρ hc⟩
        rw [← execOp_congr (ρ := evalO G s) o hs (fun y hy => evalO_eq h (List.all_eq_true.1 hok y (by simpa using hy)))]
        exact pureRun_run P _ w hx
      · cases e
    · cases e
  · cases e
/-- A struct's or an array's part. -/
def isAggD : TypeDesc → Bool | .struct _ => true | .array _ _ => true | _ => false
def partA (t : TypeId) (cs : List C) (off : Nat) : Option A :=
  match P.underlying t, P.info? t with
  | some d, some i => (match isAggD d with
    | true => some (.agg ((cs.drop off).take i.size))
    | false => (match cs[off]? with | some c => some (.c c) | none => none))
  | _, _ => none
theorem f2_drop {α β : Type} {R : α → β → Prop} : ∀ {l : List α} {k : List β}, F2 R l k → ∀ n, F2 R (l.drop n) (k.drop n)
  | _, _, .nil, n => by simp; exact .nil
  | _, _, .cons x xs, 0 => .cons x xs
  | _, _, .cons x xs, n + 1 => by simpa using f2_drop xs n
theorem f2_take {α β : Type} {R : α → β → Prop} : ∀ {l : List α} {k : List β}, F2 R l k → ∀ n, F2 R (l.take n) (k.take n)
  | _, _, .nil, n => by simp; exact .nil
  | _, _, .cons x xs, 0 => by simp; exact .nil
  | _, _, .cons x xs, n + 1 => by simpa using .cons x (f2_take xs n)
theorem f2_append {α β : Type} {R : α → β → Prop} : ∀ {l l' : List α} {k k' : List β}, F2 R l k → F2 R l' k' → F2 R (l ++ l') (k ++ k')
  | _, _, _, _, .nil, h => h
  | _, _, _, _, .cons x xs, h => .cons x (f2_append xs h)
theorem run_isAgg {t : TypeId} {d : TypeDesc} (h : P.underlying t = some d) (w : World) : (isAgg t).run P w = .ok (isAggD d) w := by
  unfold isAgg
  simp only [Sem.run_bind, run_underlying h, Result.andThen_ok]
  cases d <;> rfl
theorem run_sizeOf' {t : TypeId} {i : TypeInfo} (h : P.info? t = some i) (w : World) : (sizeOf t).run P w = .ok i.size w := by
  simp [sizeOf, typeInfo, h]
theorem partA_sound {ρ : Ren} {t : TypeId} {cs : List C} {off : Nat} {p : A} {xs : List Value} (h : partA P t cs off = some p) (r : F2 (C.rel ρ) cs xs) (w : World) :
    ∃ x, (part t xs.toArray off).run P w = .ok x w ∧ p.rel ρ x := by
  unfold partA at h
  split at h
  · rename_i d i hd hi
    unfold part
    simp only [Sem.run_bind, run_isAgg P hd, Result.andThen_ok]
    split at h
    · rename_i hg
      simp at h; subst h
      rw [if_pos hg]
      simp only [Sem.run_bind, run_sizeOf' P hi, Result.andThen_ok, Sem.run_pure]
      refine ⟨_, rfl, (xs.drop off).take i.size, f2_take (f2_drop r off) i.size, ?_⟩
      congr 1
      apply Array.ext'
      simp
    · rename_i hg
      split at h
      · rename_i c hc
        simp at h; subst h
        obtain ⟨x, hx, hr⟩ := f2_get r hc
        rw [if_neg (by simp [hg])]
        refine ⟨x, ?_, hr⟩
        simp [hx]
      · cases h
  · cases h
/-- Equality of plain values. -/
def eqFs (g : TypeId → A → A → Option Bool) (xs ys : List C) : List Field → Option Bool
  | [] => some true
  | f :: fs =>
    match f.name == "_" with
    | true => eqFs g xs ys fs
    | false =>
      match partA P f.type xs f.offset, partA P f.type ys f.offset with
      | some a, some b => (match g f.type a b, eqFs g xs ys fs with | some r, some q => some (r && q) | _, _ => none)
      | _, _ => none
def eqT : Nat → TypeId → A → A → Option Bool
  | 0, _, _, _ => none
  | d + 1, t, x, y =>
    match P.underlying t, x, y with
    | some (.int _), .c a, .c b => (match a.val, b.val with | some (.int k m), some (.int k' n) => (match decide (k = k') with | true => some (m == n) | false => none) | _, _ => none)
    | some .bool, .c a, .c b => (match a.val, b.val with | some (.bool m), some (.bool n) => some (m == n) | _, _ => none)
    | some .string, .c a, .c b => (match a.val, b.val with | some (.string m), some (.string n) => some (m.toList == n.toList) | _, _ => none)
    | some (.struct fs), .agg xs, .agg ys => (match P.stoodInHeld t with | true => none | false => eqFs P (eqT d) xs ys fs.toList)
    | _, _, _ => none
theorem eqT_sound {ρ : Ren} (w : World) : ∀ (d : Nat) (t : TypeId) (x y : A) (r : Bool) (u v : Value), eqT P d t x y = some r → x.rel ρ u → y.rel ρ v → (Op.equalIn d t u v).run P w = .ok r w := by
  intro d
  induction d with
  | zero => intro t x y r u v h; simp [eqT] at h
  | succ d ih =>
    intro t x y r u v h hx hy
    simp only [eqT] at h
    split at h
    · rename_i hu
      split at h
      · rename_i hk hn
        split at h
        · rename_i hkk
          simp at hkk; subst hkk
          simp at h; subst h
          rw [C.val_rel hk hx, C.val_rel hn hy]
          exact run_equalIn_int w d t _ _ _ _ hu
        · cases h
      · cases h
    · rename_i hu
      split at h
      · rename_i hk hn
        simp at h; subst h
        rw [C.val_rel hk hx, C.val_rel hn hy]
        exact run_equalIn_bool' w d t _ _ hu
      · cases h
    · rename_i hu
      split at h
      · rename_i hk hn
        simp at h; subst h
        rw [C.val_rel hk hx, C.val_rel hn hy]
        exact run_equalIn_string w d t _ _ hu
      · cases h
    · rename_i fs xs ys hu
      split at h
      · cases h
      · rename_i hst
        obtain ⟨us, hus, rfl⟩ := hx
        obtain ⟨vs, hvs, rfl⟩ := hy
        have hf : P.fieldsOf t = fs := by simp [Program.fieldsOf, hu]
        rw [run_equalIn_struct w d t _ _ (by rw [hu, hf]) hst, hf]
        generalize fs.toList = l at h ⊢
        clear hf hu
        induction l generalizing r with
        | nil => simp [eqFs] at h; subst h; simp [Op.eqFields]
        | cons f l ihl =>
          simp only [eqFs] at h
          simp only [Op.eqFields]
          split at h
          · rename_i hn
            rw [if_neg (by simpa using hn)]
            exact ihl r h
          · rename_i hn
            rw [if_pos (by simpa using hn)]
            split at h
            · rename_i p q hp hq
              split at h
              · rename_i r1 q1 hg hr
                simp at h; subst h
                obtain ⟨a1, ha1, hra⟩ := partA_sound P hp hus w
                obtain ⟨b1, hb1, hrb⟩ := partA_sound P hq hvs w
                simp only [Sem.run_bind, ha1, hb1, Result.andThen_ok, ih _ _ _ _ _ _ hg hra hrb]
                cases r1
                · simp
                · simpa using ihl q1 hr
              · cases h
            · cases h
    · cases h
end
end Go.Eng
end

section
namespace Go.Eng
/-- Cells of a block from a place on, so many. -/
def readN (k : Blk) (o : Nat) : Nat → Option (List C)
  | 0 => some []
  | n + 1 => match k.cell o, readN k (o + 1) n with | some c, some r => some (c :: r) | _, _ => none
theorem readN_sound {ρ : Ren} {b : Nat} {w : World} {k : Blk} (h : k.rel ρ b w) : ∀ {n o : Nat} {cs : List C}, readN k o n = some cs →
    ∃ xs : List Value, F2 (C.rel ρ) cs xs ∧ xs.length = n ∧ ∀ j v, xs[j]? = some v → w.cell? ((⟨b, o, none⟩ : Addr).add j) = some v := by
  intro n
  induction n with
  | zero => intro o cs e; simp [readN] at e; subst e; exact ⟨[], .nil, rfl, by simp⟩
  | succ n ih =>
    intro o cs e
    simp only [readN] at e
    split at e
    · rename_i c r hc hr
      simp at e; subst e
      obtain ⟨x, hx, hcell⟩ := Blk.rel_cell h hc
      obtain ⟨xs, hf, hl, hcs⟩ := ih hr
      refine ⟨x :: xs, .cons hx hf, by simp [hl], ?_⟩
      intro j v hj
      cases j with
      | zero => simp at hj; subst hj; simpa [Addr.add] using hcell
      | succ j =>
        have := hcs j v (by simpa using hj)
        have e1 : (⟨b, o, none⟩ : Addr).add (j + 1) = (⟨b, o + 1, none⟩ : Addr).add j := by
          simp only [Addr.add_lit]; congr 1; omega
        rw [e1]; exact this
    · cases e
def A.cells : A → List C
  | .c x => [x]
  | .agg cs => cs
theorem A.rel_cells {ρ : Ren} {p : A} {x : Value} (h : p.rel ρ x) : F2 (C.rel ρ) p.cells x.cells.toList := by
  cases p with
  | c y => rw [C.rel_cells h]; exact .cons h .nil
  | agg cs => obtain ⟨xs, hf, rfl⟩ := h; simpa [Value.cells, A.cells] using hf
theorem f2_oneCell {ρ : Ren} {cs : List C} {xs : List Value} (h : F2 (C.rel ρ) cs xs) : ∀ v ∈ xs, v.oneCell' = true := by
  induction h with
  | nil => simp
  | cons r _ ih =>
    intro v hv
    rcases List.mem_cons.1 hv with rfl | hv
    · have := C.rel_noAgg r
      cases v <;> first | rfl | exact absurd rfl (this.1 _) | exact absurd rfl (this.2 _)
    · exact ih v hv
/-- Parts of a literal laid into cells. -/
def setL (l : List C) (off : Nat) : List C → List C
  | [] => l
  | v :: vs => setL (l.set off v) (off + 1) vs
def fillA (place : Nat → Option (Nat × Nat)) (cells : List C) : List (Nat × A) → Option (List C)
  | [] => some cells
  | (i, v) :: rest =>
    match place i with
    | none => none
    | some (off, size) =>
      match Nat.beq v.cells.length size && Nat.ble (off + v.cells.length) cells.length with
      | true => fillA place (setL cells off v.cells) rest
      | false => none
theorem setL_sound {ρ : Ren} : ∀ {vs : List C} {us : List Value} {l : List C} {k : Array Value} {off j : Nat}, F2 (C.rel ρ) vs us → F2 (C.rel ρ) l k.toList →
    F2 (C.rel ρ) (setL l (off + j) vs) ((us.zipIdx j).foldl (fun cs (c, j) => cs.setIfInBounds (off + j) c) k).toList
  | _, _, l, k, off, j, .nil, h => h
  | _, _, l, k, off, j, .cons (a := a) (b := b) r rs, h => by
    simp only [setL, List.zipIdx_cons, List.foldl_cons]
    have := setL_sound (off := off) (j := j + 1) rs (l := l.set (off + j) a) (k := k.setIfInBounds (off + j) b) (by rw [Array.toList_setIfInBounds]; exact f2_set r h _)
    rw [show off + (j + 1) = off + j + 1 by omega] at this
    exact this
inductive PartsRel (ρ : Ren) : List (Nat × A) → List (Nat × Value) → Prop where
  | nil : PartsRel ρ [] []
  | cons {i : Nat} {a : A} {v : Value} {l : List (Nat × A)} {k : List (Nat × Value)} : a.rel ρ v → PartsRel ρ l k → PartsRel ρ ((i, a) :: l) ((i, v) :: k)
theorem fillA_sound {ρ : Ren} {place : Nat → Option (Nat × Nat)} : ∀ {ps : List (Nat × A)} {qs : List (Nat × Value)} {l r : List C} {k : Array Value}, PartsRel ρ ps qs → F2 (C.rel ρ) l k.toList → fillA place l ps = some r →
    ∃ k', Instr.fill place k qs = some k' ∧ F2 (C.rel ρ) r k'.toList
  | _, _, l, r, k, .nil, h, e => by simp [fillA] at e; subst e; exact ⟨k, by simp [Instr.fill], h⟩
  | _, _, l, r, k, .cons (i := i) (a := a) (v := v) hv hs, h, e => by
    simp only [fillA] at e
    split at e
    · cases e
    · rename_i off size hp
      split at e
      · rename_i hok
        simp only [Bool.and_eq_true] at hok
        have h1 : a.cells.length = size := Nat.eq_of_beq_eq_true hok.1
        have h2 := Nat.le_of_ble_eq_true hok.2
        have hc := A.rel_cells hv
        have hl1 := f2_len hc
        have hl2 := f2_len h
        have := setL_sound (off := off) (j := 0) hc h
        obtain ⟨k', hk', hr⟩ := fillA_sound hs this (by simpa using e)
        refine ⟨k', ?_, hr⟩
        have hsz : v.cells.size = size := by rw [← h1, hl1]; simp
        simp only [Instr.fill, hp]
        rw [if_neg (by
          have hk2 : k.size = l.length := by rw [hl2]; simp
          rw [hl1] at h2
          simp only [Array.length_toList] at h2
          intro hor
          rcases Bool.or_eq_true_iff.1 hor with hor | hor
          · exact (of_decide_eq_true hor) hsz
          · have := of_decide_eq_true hor; omega)]
        rw [← Array.foldl_toList] 
        simpa using hk'
      · cases e
section
variable (P : Program) (G : Nat)
def placesOf (fs : List Field) : Option (List (Nat × Nat)) := fs.mapM fun f => (P.info? f.type).map fun i => (f.offset, i.size)
def looks (s : S) : List (Nat × Operand) → Option (List (Nat × A))
  | [] => some []
  | (i, x) :: l => match look G s x, looks s l with | some (.a a), some r => some ((i, a) :: r) | _, _ => none
def lookAll (s : S) : List Operand → Option (List A)
  | [] => some []
  | x :: l => match look G s x, lookAll s l with | some (.a a), some r => some (a :: r) | _, _ => none
def buildA (s : S) (t : TypeId) (parts : List (Nat × Operand)) : Option A :=
  match P.info? t, P.underlying t, looks G s parts with
  | some it, some (.struct fs), some ps =>
    match it.zero, placesOf P fs.toList with
    | some z, some places =>
      (match ofCells true z.cells.toList with
      | some zs => (match fillA (places.toArray[·]?) zs ps with | some r => some (.agg r) | none => none)
      | none => none)
    | _, _ => none
  | some it, some (.array _ elem), some ps =>
    match it.zero, P.info? elem with
    | some z, some ie =>
      (match ofCells true z.cells.toList with
      | some zs => (match fillA (fun i => some (i * ie.size, ie.size)) zs ps with | some r => some (.agg r) | none => none)
      | none => none)
    | _, _ => none
  | _, _, _ => none
theorem looks_rel {ρ : Ren} {s : S} {a : Act} {w : World} (h : View G ρ s a w) : ∀ {l : List (Nat × Operand)} {ps : List (Nat × A)}, looks G s l = some ps → PartsRel ρ ps (l.map fun (i, x) => (i, a.eval x)) := by
  intro l
  induction l with
  | nil => intro ps e; simp [looks] at e; subst e; exact .nil
  | cons y l ih =>
    intro ps e
    obtain ⟨i, x⟩ := y
    simp only [looks] at e
    split at e
    · rename_i c r hc hr
      simp at e; subst e
      exact .cons (look_rel h hc) (ih hr)
    · cases e
theorem lookAll_rel {ρ : Ren} {s : S} {a : Act} {w : World} (h : View G ρ s a w) : ∀ {l : List Operand} {ps : List A}, lookAll G s l = some ps → F2 (A.rel ρ) ps (l.map a.eval) := by
  intro l
  induction l with
  | nil => intro ps e; simp [lookAll] at e; subst e; exact .nil
  | cons x l ih =>
    intro ps e
    simp only [lookAll] at e
    split at e
    · rename_i c r hc hr
      simp at e; subst e
      exact .cons (look_rel h hc) (ih hr)
    · cases e
theorem run_zeroValue' {t : TypeId} {i : TypeInfo} {z : Value} (h : P.info? t = some i) (hz : i.zero = some z) (w : World) : (zeroValue t).run P w = .ok z w := by
  simp [zeroValue, typeInfo, h, hz]
theorem buildA_sound {ρ : Ren} {s : S} {a : Act} {w : World} (h : View G ρ s a w) {t : TypeId} {parts : Array (Nat × Operand)} {p : A} (e : buildA P G s t parts.toList = some p) :
    ∃ x, (Instr.build t (parts.map fun (i, x) => (i, a.eval x))).run P w = .ok x w ∧ p.rel ρ x := by
  unfold buildA at e
  split at e
  · rename_i it fs ps hit hu hps
    split at e
    · rename_i z places hz hpl
      split at e
      · rename_i zs hzs
        split at e
        · rename_i r hr
          simp at e; subst e
          obtain ⟨k', hk, hrel⟩ := fillA_sound (looks_rel G h hps) (ofCells_rel ρ hzs) hr
          refine ⟨.agg k', ?_, k'.toList, hrel, by simp⟩
          refine run_build w t _ k' ?_
          unfold Program.built
          simp only [hit, hu, hz]
          unfold placesOf at hpl
          rw [hpl]
          simpa using hk
        · cases e
      · cases e
    · cases e
  · rename_i it n elem ps hit hu hps
    split at e
    · rename_i z ie hz hie
      split at e
      · rename_i zs hzs
        split at e
        · rename_i r hr
          simp at e; subst e
          obtain ⟨k', hk, hrel⟩ := fillA_sound (looks_rel G h hps) (ofCells_rel ρ hzs) hr
          refine ⟨.agg k', ?_, k'.toList, hrel, by simp⟩
          have hk' : Instr.fill (fun i => some (i * ie.size, ie.size)) z.cells (parts.toList.map fun (i, x) => (i, a.eval x)) = some k' := by simpa using hk
          simp [Instr.build, run_zeroValue' P hit hz, run_underlying hu, run_sizeOf' P hie, hk']
        · cases e
      · cases e
    · cases e
  · cases e
/-- The names that an operation reads. -/
def A.names : A → List Nat
  | .c (.ptr m _) => [m]
  | .c (.sl m _ _ _) => [m]
  | .c (.gsl m _) => [m]
  | .c (.fn _ caps) => caps.map (·.1)
  | _ => []
def V.names : V → List Nat
  | .a y => y.names
  | .tup _ => []
def lookNames (s : S) : List Operand → List Nat
  | [] => []
  | x :: l => (match look G s x with | some v => v.names | none => []) ++ lookNames s l
def rdOf (o : Oper) (s : S) : List Nat :=
  match o.op with
  | .load _ x => lookNames G s [x]
  | .store _ x _ => lookNames G s [x]
  | .call c => (match c.callee with | .value f => lookNames G s (f :: c.args.toList) | _ => [])
  | _ => []
/-- Operations with their own law: the value. -/
def effV (o : Oper) (s : S) : Option (V × List Prop) :=
  match o.op with
  | .move x | .assign x => (match look G s x with | some v => some (v, []) | none => none)
  | .pick c a b => (match look G s c with
    | some (.a (.c (.lit true))) => (match look G s a with | some v => some (v, []) | none => none)
    | some (.a (.c (.lit false))) => (match look G s b with | some v => some (v, []) | none => none)
    | _ => none)
  | .extract t i => (match look G s t with
    | some (.tup xs) => (match xs[i]? with | some a => some (.a a, []) | none => none)
    | _ => none)
  | .field t x f => (match look G s x, P.underlying t with
    | some (.a (.agg cs)), some (.struct fs) => (match fs[f]? with
      | some fd => (match partA P fd.type cs fd.offset with | some p => some (.a p, []) | none => none)
      | none => none)
    | _, _ => none)
  | .fieldAddr t x f => (match look G s x, P.underlying t with
    | some (.a (.c (.ptr m off))), some (.struct fs) => (match fs[f]? with
      | some fd => (match P.info? fd.type with
        | some i => (match Nat.beq i.size 0 with | true => none | false => some (.a (.c (.ptr m (off + fd.offset))), []))
        | none => none)
      | none => none)
    | _, _ => none)
  | .indexAddr t x ix => (match look G s x, look G s ix, P.underlying t with
    | some (.a (.c (.ptr m off))), some (.a (.c (.num _ n))), some (.array len e) => (match P.info? e, decide (0 ≤ n ∧ n < len) with
      | some i, true => some (.a (.c (.ptr m (off + n.toNat * i.size))), [])
      | _, _ => none)
    | some (.a (.c (.sl m off len _))), some (.a (.c (.num _ n))), some (.slice e) => (match P.info? e, decide (0 ≤ n ∧ n < len) with
      | some i, true => some (.a (.c (.ptr m (off + n.toNat * i.size))), [])
      | _, _ => none)
    | _, _, _ => none)
  | .load t x => (match look G s x, P.underlying t, P.info? t with
    | some (.a (.c (.ptr m off))), some d, some i => (match s.hp m with
      | some k => (match isAggD d with
        | true => (match readN k off i.size with | some cs => some (.a (.agg cs), []) | none => none)
        | false => (match k.cell off with | some c => some (.a (.c c), []) | none => none))
      | none => none)
    | _, _, _ => none)
  | .build t parts => (match buildA P G s t parts.toList with | some p => some (.a p, []) | none => none)
  | .nilCheck x => (match look G s x with | some (.a (.c (.ptr m off))) => some (.a (.c (.ptr m off)), []) | _ => none)
  | .binOp op t x y _ => (match look G s x, look G s y with
    | some (.a (.agg xs)), some (.a (.agg ys)) =>
      (match P.eqGuardType P.depth t, eqT P 10000 t (.agg xs) (.agg ys), op with
      | false, some r, .eql => some (.a (.c (.bool r)), [])
      | false, some r, .neq => some (.a (.c (.bool (!r))), [])
      | _, _, _ => none)
    | some (.a (.c a)), some (.a (.c (.int k' n))) =>
      (match op, a.val with
      | .quo, some (.int k m) => (match decide (k = k') with | true => some (.a (.c (.int k (k.wrap (m.tdiv n)))), [n ≠ 0]) | false => none)
      | .rem, some (.int k m) => (match decide (k = k') with | true => some (.a (.c (.int k (m.tmod n))), [n ≠ 0]) | false => none)
      | .shl, some (.int k m) => some (.a (.c (.int k (k.wrap (m * 2 ^ (min n.toNat k.bits))))), [0 ≤ n])
      | .shr, some (.int k m) => some (.a (.c (.int k (m.fdiv (2 ^ (min n.toNat k.bits))))), [0 ≤ n])
      | _, _ => (match effPure P G o s with | some v => some (v, []) | none => none))
    | _, _ => (match effPure P G o s with | some v => some (v, []) | none => none))
  | .makeFunc (.func f) first caps => (match first.toList, lookAll G s caps.toList with
    | [], some ps => (match ptrs ps with | some l => some (.a (.c (.fn f l)), []) | none => none)
    | _, _ => none)
  | .call c => (match c.callee, c.args.toList with
    | .builtin .len, [x] => (match look G s x, c.argTypes.toList with
      | some (.a (.c (.sl _ _ len _))), [t] => (match P.underlying t with | some (.slice _) => some (.a (.c (.num .i64 len)), []) | _ => none)
      | some (.a (.c (.gsl _ len))), [t] => (match P.underlying t with | some (.slice _) => some (.a (.c (.num .i64 len)), []) | _ => none)
      | _, _ => (match effPure P G o s with | some v => some (v, []) | none => none))
    | .builtin _, _ => (match effPure P G o s with | some v => some (v, []) | none => none)
    | _, _ => none)
  | .unOp .. | .convert .. | .index .. | .makeInterface .. => (match effPure P G o s with | some v => some (v, []) | none => none)
  | _ => none
where
  ptrs : List A → Option (List (Nat × Nat))
    | [] => some []
    | .c (.ptr m off) :: l => (match ptrs l with | some r => some ((m, off) :: r) | none => none)
    | _ => none
theorem ptrs_rel {ρ : Ren} : ∀ {ps : List A} {l : List (Nat × Nat)} {xs : List Value}, effV.ptrs ps = some l → F2 (A.rel ρ) ps xs → F2 (PtrRel ρ) l xs := by
  intro ps
  induction ps with
  | nil => intro l xs h r; cases r; simp [effV.ptrs] at h; subst h; exact .nil
  | cons p ps ih =>
    intro l xs h r
    cases r with
    | cons r0 rs =>
      unfold effV.ptrs at h
      split at h
      · rename_i heq; cases heq
      · rename_i m off l' heq
        cases heq
        split at h
        · rename_i r' hr
          simp at h; subst h
          exact .cons r0 (ih hr rs)
        · cases h
      · cases h
end
end Go.Eng
end

section
namespace Go.Eng
section
variable {P : Program} {G : Nat} {ρ : Ren} {s : S} {a : Act} {w : World}
theorem run_loadVar_agg {t : TypeId} {d : TypeDesc} {i : TypeInfo} (hd : P.underlying t = some d) (hi : P.info? t = some i) (hg : isAggD d = true) {ad : Addr} {xs : List Value} (hl : xs.length = i.size)
    (hc : ∀ j v, xs[j]? = some v → w.cell? (ad.add j) = some v) : (loadVar t ad).run P w = .ok (.agg xs.toArray) w := by
  unfold loadVar
  simp only [Sem.run_bind, run_isAgg P hd, Result.andThen_ok, hg, if_true, run_sizeOf' P hi]
  rw [← hl, run_loadCells_list w ad xs hc]
  simp
theorem run_loadVar_one {t : TypeId} {d : TypeDesc} (hd : P.underlying t = some d) (hg : isAggD d = false) {ad : Addr} {x : Value} (hc : w.cell? ad = some x) : (loadVar t ad).run P w = .ok x w := by
  unfold loadVar
  simp only [Sem.run_bind, run_isAgg P hd, Result.andThen_ok, hg, Bool.false_eq_true, if_false]
  simp [run_load, hc]
theorem effV_binOp_div {o : Oper} {op : BinOp} {t yt : TypeId} {x y : Operand} (ho : o.op = .binOp op t x y yt) {k : IntKind} {m n : Int} {c : Value} (hx : a.eval x = .int k m) (hy : a.eval y = .int k n)
    (hc : (Op.intDiv op k m n).run P w = .ok c w) (hop : op = .quo ∨ op = .rem) : (execOp a.eval o).run P w = .ok (.value c) w := by
  rcases hop with rfl | rfl <;> simp [execOp, ho, hx, hy, eqGuard_at_int, binOp_quo, binOp_rem, hc]
theorem effV_sound (h : View G ρ s a w) {o : Oper} {v : V} {p : List Prop} (e : effV P G o s = some (v, p)) (hp : All p) :
    ∃ x, (execOp a.eval o).run P w = .ok (.value x) w ∧ v.rel ρ x := by
  have pure_case : (∀ cs b, o.op ≠ .select cs b) → (match effPure P G o s with | some v => some (v, []) | none => none) = some (v, p) → ∃ x, (execOp a.eval o).run P w = .ok (.value x) w ∧ v.rel ρ x := by
    intro hs e
    split at e
    · rename_i v' hv
      simp at e; obtain ⟨rfl, _⟩ := e
      exact effPure_sound P G h hs hv
    · cases e
  unfold effV at e
  split at e
  case h_1 x ho =>
    split at e
    · rename_i v' hv
      simp at e; obtain ⟨rfl, _⟩ := e
      exact ⟨a.eval x, by simp [execOp, ho], look_rel h hv⟩
    · cases e
  case h_2 x ho =>
    split at e
    · rename_i v' hv
      simp at e; obtain ⟨rfl, _⟩ := e
      exact ⟨a.eval x, by simp [execOp, ho], look_rel h hv⟩
    · cases e
  case h_3 c x y ho =>
    split at e
    · rename_i hc
      have hcv : a.eval c = .bool true := look_rel h hc
      split at e
      · rename_i v' hv
        simp at e; obtain ⟨rfl, _⟩ := e
        exact ⟨a.eval x, by simp [execOp, ho, hcv, asBool], look_rel h hv⟩
      · cases e
    · rename_i hc
      have hcv : a.eval c = .bool false := look_rel h hc
      split at e
      · rename_i v' hv
        simp at e; obtain ⟨rfl, _⟩ := e
        exact ⟨a.eval y, by simp [execOp, ho, hcv, asBool], look_rel h hv⟩
      · cases e
    · cases e
  case h_4 t i ho =>
    split at e
    · rename_i xs hx
      obtain ⟨ys, hf, hy⟩ := look_rel h hx
      split at e
      · rename_i c hc
        simp at e; obtain ⟨rfl, _⟩ := e
        obtain ⟨z, hz, hr⟩ := f2_get hf hc
        exact ⟨z, by simp [execOp, ho, hy, Instr.extract, hz], hr⟩
      · cases e
    · cases e
  case h_5 t x f ho =>
    split at e
    · rename_i cs fs hx hu
      obtain ⟨xs, hf, hv⟩ := look_rel h hx
      split at e
      · rename_i fd hfd
        split at e
        · rename_i q hq
          simp at e; obtain ⟨rfl, _⟩ := e
          obtain ⟨z, hz, hr⟩ := partA_sound P hq hf w
          exact ⟨z, by simp [execOp, ho, hv, Instr.field, run_underlying hu, hfd, asAgg, hz], hr⟩
        · cases e
      · cases e
    · cases e
  case h_6 t x f ho =>
    split at e
    · rename_i m off fs hx hu
      obtain ⟨b, hb, hv⟩ := look_rel h hx
      split at e
      · rename_i fd hfd
        split at e
        · rename_i i hi
          split at e
          · cases e
          · rename_i hsz
            simp at e; obtain ⟨rfl, _⟩ := e
            have hne : i.size ≠ 0 := fun h0 => by rw [h0] at hsz; simp at hsz
            refine ⟨_, ?_, b, hb, rfl⟩
            simp [execOp, ho, hv, Instr.fieldAt, run_underlying hu, hfd, Instr.sureAddr, fieldPlace, run_sizeOf' P hi, hne, Addr.add_lit]
        · cases e
      · cases e
    · cases e
  case h_7 t x ix ho =>
    split at e
    · rename_i m off k n len el hx hix hu
      obtain ⟨b, hb, hv⟩ := look_rel h hx
      have hn : a.eval ix = .int k n := look_rel h hix
      split at e
      · rename_i i hi hd
        simp at e; obtain ⟨rfl, _⟩ := e
        have hd' := of_decide_eq_true hd
        refine ⟨_, ?_, b, hb, rfl⟩
        simp [execOp, ho, hv, hn, Instr.indexAt, asIntOf, run_underlying hu, Instr.sureAddr, hd', run_sizeOf' P hi, Addr.add_lit]
      · cases e
    · rename_i m off len cap k n el hx hix hu
      obtain ⟨b, hb, hv⟩ := look_rel h hx
      have hn : a.eval ix = .int k n := look_rel h hix
      split at e
      · rename_i i hi hd
        simp at e; obtain ⟨rfl, _⟩ := e
        have hd' := of_decide_eq_true hd
        refine ⟨_, ?_, b, hb, rfl⟩
        simp [execOp, ho, hv, hn, Instr.indexAt, asIntOf, run_underlying hu, hd', run_sizeOf' P hi, Addr.add_lit]
      · cases e
    · cases e
  case h_8 t x ho =>
    split at e
    · rename_i m off d i hx hd hi
      obtain ⟨b, hb, hv⟩ := look_rel h hx
      split at e
      · rename_i k hk
        obtain ⟨b', hb', hlt, hrel⟩ := h.hp m k hk
        simp only at hb
        rw [hb] at hb'; cases hb'
        split at e
        · rename_i hg
          split at e
          · rename_i cs hcs
            simp at e; obtain ⟨rfl, _⟩ := e
            obtain ⟨xs, hf, hl, hc⟩ := readN_sound hrel hcs
            refine ⟨.agg xs.toArray, ?_, xs, hf, rfl⟩
            simp [execOp, ho, hv, Instr.loadAt, Instr.sureAddr, run_loadVar_agg hd hi hg hl hc]
          · cases e
        · rename_i hg
          split at e
          · rename_i c hc
            simp at e; obtain ⟨rfl, _⟩ := e
            obtain ⟨z, hz, hcell⟩ := Blk.rel_cell hrel hc
            refine ⟨z, ?_, hz⟩
            simp [execOp, ho, hv, Instr.loadAt, Instr.sureAddr, run_loadVar_one hd hg hcell]
          · cases e
      · cases e
    · cases e
  case h_9 t parts ho =>
    split at e
    · rename_i q hq
      simp at e; obtain ⟨rfl, _⟩ := e
      obtain ⟨z, hz, hr⟩ := buildA_sound P G h hq
      exact ⟨z, by simp [execOp, ho, hz], hr⟩
    · cases e
  case h_10 x ho =>
    split at e
    · rename_i m off hx
      simp at e; obtain ⟨rfl, _⟩ := e
      obtain ⟨b, hb, hv⟩ := look_rel h hx
      exact ⟨_, by simp [execOp, ho, hv], b, hb, rfl⟩
    · cases e
  case h_11 op t x y yt ho =>
    have hs : ∀ cs b, o.op ≠ .select cs b := by simp [ho]
    split at e
    · rename_i xs ys hx hy
      have hvx := look_rel h hx
      have hvy := look_rel h hy
      split at e
      · rename_i r hg he
        simp at e; obtain ⟨rfl, _⟩ := e
        have hrun := eqT_sound P w _ _ _ _ _ _ _ he hvx hvy
        obtain ⟨us, _, hux⟩ := hvx
        obtain ⟨vs, _, huy⟩ := hvy
        refine ⟨.bool r, ?_, rfl⟩
        rw [hux, huy] at hrun
        simp only [execOp, ho, hux, huy, Sem.run_bind, run_eqGuard_agg w _ _ _ _ _ _ hg, Result.andThen_ok, run_eql_struct, hrun, Sem.run_pure]
      · rename_i r hg he
        simp at e; obtain ⟨rfl, _⟩ := e
        have hrun := eqT_sound P w _ _ _ _ _ _ _ he hvx hvy
        obtain ⟨us, _, hux⟩ := hvx
        obtain ⟨vs, _, huy⟩ := hvy
        refine ⟨.bool (!r), ?_, rfl⟩
        rw [hux, huy] at hrun
        simp only [execOp, ho, hux, huy, Sem.run_bind, run_eqGuard_agg w _ _ _ _ _ _ hg, Result.andThen_ok, run_neq_struct, hrun, Sem.run_pure]
      · cases e
    · rename_i c k' n hx hy
      have hvy : a.eval y = .int k' n := look_rel h hy
      split at e
      · rename_i k m hm
        split at e
        · rename_i hk
          simp only [Option.some.injEq, Prod.mk.injEq] at e; obtain ⟨rfl, rfl⟩ := e
          replace hp := hp.1
          have hk' := of_decide_eq_true hk; subst hk'
          have hvx : a.eval x = .int k m := C.val_rel hm (look_rel h hx)
          refine ⟨_, effV_binOp_div ho hvx hvy ?_ (.inl rfl), rfl⟩
          simp [Op.intDiv, hp]
        · cases e
      · rename_i k m hm
        split at e
        · rename_i hk
          simp only [Option.some.injEq, Prod.mk.injEq] at e; obtain ⟨rfl, rfl⟩ := e
          replace hp := hp.1
          have hk' := of_decide_eq_true hk; subst hk'
          have hvx : a.eval x = .int k m := C.val_rel hm (look_rel h hx)
          refine ⟨_, effV_binOp_div ho hvx hvy ?_ (.inr rfl), rfl⟩
          simp [Op.intDiv, hp]
        · cases e
      · rename_i k m hm
        simp only [Option.some.injEq, Prod.mk.injEq] at e; obtain ⟨rfl, rfl⟩ := e
        replace hp := hp.1
        have hvx : a.eval x = .int k m := C.val_rel hm (look_rel h hx)
        refine ⟨_, ?_, rfl⟩
        have : ¬ n < 0 := by omega
        simp [execOp, ho, hvx, hvy, eqGuard_at_int, binOp_shl, Op.shift, this]
      · rename_i k m hm
        simp only [Option.some.injEq, Prod.mk.injEq] at e; obtain ⟨rfl, rfl⟩ := e
        replace hp := hp.1
        have hvx : a.eval x = .int k m := C.val_rel hm (look_rel h hx)
        refine ⟨_, ?_, rfl⟩
        have : ¬ n < 0 := by omega
        simp [execOp, ho, hvx, hvy, eqGuard_at_int, binOp_shr, Op.shift, this]
      · exact pure_case hs e
    · exact pure_case hs e
  case h_12 f first caps ho =>
    split at e
    · rename_i ps hfirst hps
      split at e
      · rename_i l hl
        simp at e; obtain ⟨rfl, _⟩ := e
        have := ptrs_rel hl (lookAll_rel G h hps)
        have hf0 : first = #[] := by cases first; simp_all
        refine ⟨.func (.func f) #[] (caps.map a.eval), ?_, caps.toList.map a.eval, this, ?_⟩
        · simp [execOp, ho, Instr.makeFunc, hf0]
        · congr 1; apply Array.ext'; simp
      · cases e
    · cases e
  case h_13 c ho =>
    have hs : ∀ cs b, o.op ≠ .select cs b := by simp [ho]
    split at e
    · rename_i x hcal hargs
      have ha : c.args = #[x] := by apply Array.ext'; simpa using hargs
      split at e
      · rename_i m off len cap t hx ht
        split at e
        · rename_i el hu
          simp at e; obtain ⟨rfl, _⟩ := e
          obtain ⟨b, hb, hv⟩ := look_rel h hx
          have hat : c.argTypes = #[t] := by apply Array.ext'; simpa using ht
          refine ⟨.int .i64 len, ?_, rfl⟩
          simp [execOp, ho, resolve, hcal, ha, hv, invoke, builtin, Builtin.len_, hat, run_underlying hu, goInt]
        · cases e
      · rename_i m len t hx ht
        split at e
        · rename_i el hu
          simp at e; obtain ⟨rfl, _⟩ := e
          obtain ⟨b, hb, hv⟩ := look_rel h hx
          have hat : c.argTypes = #[t] := by apply Array.ext'; simpa using ht
          refine ⟨.int .i64 len, ?_, rfl⟩
          simp [execOp, ho, resolve, hcal, ha, hv, invoke, builtin, Builtin.len_, hat, run_underlying hu, goInt]
        · cases e
      · exact pure_case hs e
    · exact pure_case hs e
    · cases e
  case h_14 ho => exact pure_case (by simp [ho]) e
  case h_15 ho => exact pure_case (by simp [ho]) e
  case h_16 ho => exact pure_case (by simp [ho]) e
  case h_17 ho => exact pure_case (by simp [ho]) e
  case h_18 => cases e
end
end Go.Eng
end
