/- The parts of the engines, of their contracts and of the plain laws that the claim rests on: W13, W14, W15, W20, W21, W22, W23, W24, W25, W26, W27, W28, W29, W30, W31, F11, R0, R1, R2. -/
import Derived.Test.YtcgdcocmnmkhlaaDoorFB3
import Derived.ChangeSame
import Derived.ChangeVars
import Derived.ProofKit
import Derived.LaidMore
import Derived.OpenShut
import Derived.Carry
import Derived.Test.YtcgdcocmnmkhlaaDoorRows
import Derived.Stop.Joined
import Derived.ChangeArms
set_option linter.unusedVariables false
set_option linter.unusedSimpArgs false
section
set_option linter.unusedVariables false
set_option linter.unusedSimpArgs false
namespace Go.Fl2
open Go.V Go.Fl Go.Proofs
def encR (r : M.Rg) : Nat → D
  | 0 => dI r.lo
  | _ => dI r.hi
def eR : Enc M.Rg := ⟨2, encR, fun F => ⟨rdI F 0, rdI F 1⟩, ⟨0, 0⟩, fun _ => rfl⟩
/-- A volume's end that a choice takes. -/
def vAt (r : M.Rg) (c : Nat) : Int := if c % 2 = 1 then r.hi else r.lo
def sumV : List M.Rg → Nat → Int
  | [], _ => 0
  | r :: l, c => vAt r c + sumV l (c / 2)
def sumX (hi : Bool) : List M.Rg → List M.Rg → Nat → Int
  | r :: l, x :: k, c => vAt r c * cond hi x.hi x.lo + sumX hi l k (c / 2)
  | _, _, _ => 0
def mstep (l k : List M.Rg) (a : Bool × Int × Int) (c : Nat) : Bool × Int × Int :=
  if sumV l c = 0 then a else
    if a.1 then (false, M.floor (sumX false l k c) (sumV l c), M.ceiling (sumX true l k c) (sumV l c))
    else (false, M.minI a.2.1 (M.floor (sumX false l k c) (sumV l c)), M.maxI a.2.2 (M.ceiling (sumX true l k c) (sumV l c)))
def refMean (l k : List M.Rg) : M.Rg := ⟨((List.range (2 ^ l.length)).foldl (mstep l k) (true, 0, 0)).2.1, ((List.range (2 ^ l.length)).foldl (mstep l k) (true, 0, 0)).2.2⟩
/-- Ranges with ends that are not great. -/
def OkL (l : List M.Rg) : Prop := ∀ r, r ∈ l → 0 ≤ r.lo ∧ r.lo ≤ 100000 ∧ 0 ≤ r.hi ∧ r.hi ≤ 100000
theorem OkL.get {l : List M.Rg} (h : OkL l) {i : Nat} (hi : i < l.length) : 0 ≤ (l.getD i eR.dflt).lo ∧ (l.getD i eR.dflt).lo ≤ 100000 ∧ 0 ≤ (l.getD i eR.dflt).hi ∧ (l.getD i eR.dflt).hi ≤ 100000 := by
  have e : l.getD i eR.dflt = l[i] := by simp [List.getD, List.getElem?_eq_getElem hi]
  rw [e]; exact h _ (List.getElem_mem hi)
theorem vAt_bd {r : M.Rg} {c : Nat} (h : 0 ≤ r.lo ∧ r.lo ≤ 100000 ∧ 0 ≤ r.hi ∧ r.hi ≤ 100000) : 0 ≤ vAt r c ∧ vAt r c ≤ 100000 := by
  unfold vAt; split <;> omega
theorem prod_bd {v x : Int} (h0 : 0 ≤ v) (h1 : v ≤ 100000) (h2 : 0 ≤ x) (h3 : x ≤ 100000) : 0 ≤ v * x ∧ v * x ≤ 10000000000 := L.mul_le h0 h1 h2 h3
theorem OkL.tail {r : M.Rg} {l : List M.Rg} (h : OkL (r :: l)) : OkL l := fun x hx => h x (List.mem_cons_of_mem _ hx)
theorem sumV_bd : ∀ {l : List M.Rg} (c : Nat), OkL l → 0 ≤ sumV l c ∧ sumV l c ≤ l.length * 100000
  | [], _, _ => by simp [sumV]
  | r :: l, c, h => by
    have h1 := vAt_bd (c := c) (h r (List.mem_cons_self ..))
    have h2 := sumV_bd (l := l) (c / 2) h.tail
    simp only [sumV, List.length_cons]
    omega
theorem sumX_bd {hi : Bool} : ∀ {l k : List M.Rg} (c : Nat), OkL l → OkL k → 0 ≤ sumX hi l k c ∧ sumX hi l k c ≤ l.length * 10000000000
  | [], _, _, _, _ => by simp [sumX]
  | r :: l, [], c, _, _ => by
    have e : sumX hi (r :: l) [] c = 0 := rfl
    rw [e]
    simp only [List.length_cons]
    omega
  | r :: l, x :: k, c, h, h' => by
    have h1 := vAt_bd (c := c) (h r (List.mem_cons_self ..))
    have hx := h' x (List.mem_cons_self ..)
    have h2 := sumX_bd (hi := hi) (l := l) (k := k) (c / 2) h.tail h'.tail
    have h3 : 0 ≤ vAt r c * cond hi x.hi x.lo ∧ vAt r c * cond hi x.hi x.lo ≤ 10000000000 := by
      cases hi
      · exact prod_bd h1.1 h1.2 hx.1 hx.2.1
      · exact prod_bd h1.1 h1.2 hx.2.2.1 hx.2.2.2
    simp only [sumX, List.length_cons]
    omega
theorem drop_cons {α : Type} {d : α} {l : List α} {i : Nat} (h : i < l.length) : l.drop i = l.getD i d :: l.drop (i + 1) := by
  rw [List.drop_eq_getElem_cons h]; simp [List.getD, List.getElem?_eq_getElem h]
theorem foldl_range_succ {α : Type} (f : α → Nat → α) (a : α) (n : Nat) : (List.range (n + 1)).foldl f a = f ((List.range n).foldl f a) n := by
  rw [List.range_succ, List.foldl_append]; rfl
end Go.Fl2
end

section
set_option linter.unusedVariables false
set_option linter.unusedSimpArgs false
set_option maxRecDepth 100000
namespace Go.Fl2
open Go.V Go.Fl Go.Proofs
end Go.Fl2
end

section
set_option linter.unusedVariables false
set_option linter.unusedSimpArgs false
set_option maxRecDepth 100000
namespace Go.Fl2
open Go.V Go.Fl Go.Proofs
def rErr : List M.Wine → Int
  | [] => 0
  | w :: l => cond (M.rCheckWine w != 0) (M.rCheckWine w) (rErr l)
def sumLo : List M.Wine → Int
  | [] => 0
  | w :: l => w.v0 + sumLo l
def sumHi : List M.Wine → Int
  | [] => 0
  | w :: l => w.v1 + sumHi l
def rMix (l : List M.Wine) : M.Wine := ⟨sumLo l, sumHi l, (refMean (l.map M.Wine.v) (l.map M.Wine.s)).lo, (refMean (l.map M.Wine.v) (l.map M.Wine.s)).hi, (refMean (l.map M.Wine.v) (l.map M.Wine.c)).lo, (refMean (l.map M.Wine.v) (l.map M.Wine.c)).hi⟩
def rMixed (l : List M.Wine) : M.Wine × Int :=
  cond ((l.length : Int) == 0) (M.wine0, 10) (cond (decide ((l.length : Int) > 8)) (M.wine0, 8) (cond (rErr l != 0) (M.wine0, rErr l)
    (cond (sumHi l == 0) (M.wine0, 25) (cond (decide (sumHi l > 100000)) (M.wine0, 8) (rMix l, 0)))))
theorem okl_v {l : List M.Wine} (h : ∀ w, w ∈ l → L.OkW w) : OkL (l.map M.Wine.v) ∧ OkL (l.map M.Wine.s) ∧ OkL (l.map M.Wine.c) := by
  refine ⟨fun r hr => ?_, fun r hr => ?_, fun r hr => ?_⟩
  all_goals
    obtain ⟨w, hw, rfl⟩ := List.mem_map.1 hr
    have o := h w hw
    have w1 := o.v0; have w2 := o.v; have w3 := o.v1; have w4 := o.s0; have w5 := o.s; have w6 := o.s1; have w7 := o.c0; have w8 := o.c; have w9 := o.c1
    simp only [M.Wine.v, M.Wine.s, M.Wine.c]
    omega
/-- What the loop has done. -/
structure MixI (l : List M.Wine) (i : Nat) (lo hi : Int) : Prop where
  le : i ≤ l.length
  slo : lo + sumLo (l.drop i) = sumLo l
  shi : hi + sumHi (l.drop i) = sumHi l
  l0 : 0 ≤ lo ∧ lo ≤ i * 100000
  h0 : 0 ≤ hi ∧ hi ≤ i * 100000
  err : rErr l = rErr (l.drop i)
  ok : ∀ w, w ∈ l.take i → L.OkW w
theorem MixI.step {l : List M.Wine} {i : Nat} {lo hi : Int} (h : MixI l i lo hi) (hi' : i < l.length) (hn : l.length ≤ 8) (he : (M.rCheckWine (l.getD i eW.dflt) != 0) = false) :
    IntKind.wrap IntKind.i64 (lo + (l.getD i eW.dflt).v0) = lo + (l.getD i eW.dflt).v0 ∧ IntKind.wrap IntKind.i64 (hi + (l.getD i eW.dflt).v1) = hi + (l.getD i eW.dflt).v1 ∧ MixI l (i + 1) (lo + (l.getD i eW.dflt).v0) (hi + (l.getD i eW.dflt).v1) := by
  have ok : L.OkW (l.getD i eW.dflt) := by have := L.ne_false.1 he; rwa [L.rCheckWine_eq, L.checkWine_zero] at this
  have w1 := ok.v0; have w2 := ok.v; have w3 := ok.v1
  obtain ⟨h1, h2, h3, h4, h5, h6, h7⟩ := h
  rw [drop_cons (d := eW.dflt) hi'] at h2 h3 h6
  simp only [sumLo, sumHi, rErr] at h2 h3 h6
  rw [he, cond_false] at h6
  refine ⟨wrap_id (by omega) (by omega), wrap_id (by omega) (by omega), ⟨by omega, by omega, by omega, by omega, by omega, h6, fun w hw => ?_⟩⟩
  rw [List.take_add_one] at hw
  rcases List.mem_append.1 hw with hw | hw
  · exact h7 w hw
  · have e : l.getD i eW.dflt = l[i] := by simp [List.getD, List.getElem?_eq_getElem hi']
    rw [List.getElem?_eq_getElem hi'] at hw
    simp at hw
    rw [hw, ← e]; exact ok
theorem MixI.bad {l : List M.Wine} {i : Nat} {lo hi : Int} (h : MixI l i lo hi) (hi' : i < l.length) (he : (M.rCheckWine (l.getD i eW.dflt) != 0) = true) : rErr l = M.rCheckWine (l.getD i eW.dflt) ∧ (rErr l != 0) = true := by
  have h6 := h.err
  rw [drop_cons (d := eW.dflt) hi'] at h6
  simp only [rErr] at h6
  rw [he, cond_true] at h6
  exact ⟨h6, by rw [h6]; exact he⟩
theorem MixI.fin {l : List M.Wine} {lo hi : Int} (h : MixI l l.length lo hi) : lo = sumLo l ∧ hi = sumHi l ∧ rErr l = 0 ∧ ∀ w, w ∈ l → L.OkW w := by
  obtain ⟨h1, h2, h3, h4, h5, h6, h7⟩ := h
  rw [List.drop_length] at h2 h3 h6
  simp only [sumLo, sumHi, rErr] at h2 h3 h6
  rw [List.take_length] at h7
  exact ⟨by omega, by omega, h6, h7⟩
theorem hlt' {n : Nat} (h : 0 < n) : (0 : Int) < (n : Int) := by omega
end Go.Fl2
end

section
set_option linter.unusedVariables false
set_option linter.unusedSimpArgs false
set_option maxRecDepth 100000
namespace Go.Fl2
open Go.V Go.Fl Go.Proofs
/-- Which range a plain function takes of a wine: its strength, its sugar. -/
def ofK : Value → Option Bool
  | .func (.func f) a b => (match a.toList, b.toList with
    | [], [] => (match Nat.beq f 101 with | true => some false | false => (match Nat.beq f 102 with | true => some true | false => none))
    | _, _ => none)
  | _ => none
def rgOf (k : Bool) (w : M.Wine) : M.Rg := ⟨cond k w.c0 w.s0, cond k w.c1 w.s1⟩
def dom101 : DomF
  | [.agg [.int .i64 v0, .int .i64 v1, .int .i64 s0, .int .i64 s1, .int .i64 c0, .int .i64 c1]] => some ([], [.agg [dI s0, dI s1]])
  | _ => none
def dom102 : DomF
  | [.agg [.int .i64 v0, .int .i64 v1, .int .i64 s0, .int .i64 s1, .int .i64 c0, .int .i64 c1]] => some ([], [.agg [dI c0, dI c1]])
  | _ => none
def v101 : Nat × Sm := (101, fokSm dom101)
def v102 : Nat × Sm := (102, fokSm dom102)
def dom110 : DomF
  | [.agg [.int .i64 v0, .int .i64 v1, .int .i64 s0, .int .i64 s1, .int .i64 c0, .int .i64 c1], .ptr n F] => (match n, F 0 with
    | 1, .op v => (match ofK v with | some k => some ([], [rI (cond k c0 s0)]) | none => none)
    | _, _ => none)
  | _ => none
def dom112 : DomF
  | [.agg [.int .i64 v0, .int .i64 v1, .int .i64 s0, .int .i64 s1, .int .i64 c0, .int .i64 c1], .ptr n F] => (match n, F 0 with
    | 1, .op v => (match ofK v with | some k => some ([], [rI (cond k c1 s1)]) | none => none)
    | _, _ => none)
  | _ => none
def v110 : Nat × Sm := (110, fokSm dom110)
def v112 : Nat × Sm := (112, fokSm dom112)
def lessM (a b c d : Int) : Bool := decide (M.W (a * d) < M.W (c * b))
def dom111 : DomF
  | [.agg [.int .i64 a, .int .i64 b], .agg [.int .i64 c, .int .i64 d]] => some ([], [rB (lessM a b c d)])
  | _ => none
def dom113 : DomF
  | [.agg [.int .i64 a, .int .i64 b], .agg [.int .i64 c, .int .i64 d]] => some ([], [rB (lessM c d a b)])
  | _ => none
def v111 : Nat × Sm := (111, fokSm dom111)
def v113 : Nat × Sm := (113, fokSm dom113)
def v80 := bs 80 [.c, .c] d80
def v81 := bs 81 [.c, .c] d81
end Go.Fl2
end

section
set_option linter.unusedVariables false
set_option linter.unusedSimpArgs false
set_option maxRecDepth 100000
namespace Go.V
theorem loopP_map {X α β : Type} {g : α → β} {I : X → Prop} {μ : X → Nat} {n : Nat} {Q : β → Prop} (r : X ⊕ α) (h : LoopP I μ n (fun x => Q (g x)) r) : LoopP I μ n Q (sumMap g r) := by
  cases r <;> exact h
theorem T.map_wp : ∀ {α : Type} {t : T α} {β : Type} {g : α → β} {Q : β → Prop}, t.wp (fun x => Q (g x)) → (t.map g).wp Q := by
  intro α t
  induction t with
  | ret x => intro β g Q h; exact h
  | br b t e i1 i2 => intro β g Q h; exact ⟨fun hb => i1 (h.1 hb), fun hb => i2 (h.2 hb)⟩
  | need p t i => intro β g Q h; exact ⟨h.1, i h.2⟩
  | fail => intro β g Q h; exact h
  | loop X x0 body i =>
    intro β g Q h
    obtain ⟨I, μ, h0, h1⟩ := h
    exact ⟨I, μ, h0, fun x hx => i x (T.wp_mono (fun r hr => loopP_map r hr) (h1 x hx))⟩
  | loop2 X Y x0 b1 b2 i1 i2 =>
    intro β g Q h
    obtain ⟨I, μ, h0, h1, h2⟩ := h
    exact ⟨I, μ, h0, fun x hx => i1 x (T.wp_mono (fun r hr => loopP_map r hr) (h1 x hx)), fun x hx => i2 x (T.wp_mono (fun r hr => loopP_map r hr) (h2 x hx))⟩
end Go.V
namespace Go.Fl2
open Go.V Go.Fl Go.Proofs
abbrev X4 := Int × Int × Int × PUnit
/-- The bit of a choice, as the code tells it. -/
def bitE (c i : Int) : Bool := IntKind.wrap IntKind.i64 (Nat.cast (R := Int) (BitVec.toNat (BitVec.ofInt (64 : Nat) (Int.fdiv c ((2 : Int) ^ min (Int.toNat i) (64 : Nat))) &&& BitVec.ofInt (64 : Nat) (1 : Int)))) == (1 : Int)
/-- One choice's sums. -/
def Tinner {α : Type} (l : List M.Wine) (val : M.Wine → Int) (ch : Int) (k : Int → Int → T α) : T α :=
  T.loop X4 ((0 : Int), (0 : Int), (0 : Int), PUnit.unit) fun (x : X4) =>
    T.br (decide (x.1 < Nat.cast (R := Int) l.length)) (T.need ((0 : Int) ≤ x.1) (T.need (x.1 < Nat.cast (R := Int) l.length) (T.need ((0 : Int) ≤ x.1) (T.br (bitE ch x.1)
      (T.ret (Sum.inl (IntKind.wrap IntKind.i64 (x.1 + 1), IntKind.wrap IntKind.i64 (x.2.1 + IntKind.wrap IntKind.i64 ((List.getD l (Int.toNat x.1) eW.dflt).v1 * val (List.getD l (Int.toNat x.1) eW.dflt))), IntKind.wrap IntKind.i64 (x.2.2.1 + (List.getD l (Int.toNat x.1) eW.dflt).v1), PUnit.unit)))
      (T.ret (Sum.inl (IntKind.wrap IntKind.i64 (x.1 + 1), IntKind.wrap IntKind.i64 (x.2.1 + IntKind.wrap IntKind.i64 ((List.getD l (Int.toNat x.1) eW.dflt).v0 * val (List.getD l (Int.toNat x.1) eW.dflt))), IntKind.wrap IntKind.i64 (x.2.2.1 + (List.getD l (Int.toNat x.1) eW.dflt).v0), PUnit.unit)))))))
      ((k x.2.1 x.2.2.1).map Sum.inr)
/-- All choices. -/
def Touter {α : Type} (l : List M.Wine) (val : M.Wine → Int) (less : Int → Int → Int → Int → Bool) (k : Int → Int → T α) : T α :=
  T.loop X4 ((0 : Int), (0 : Int), (0 : Int), PUnit.unit) fun (x : X4) =>
    T.br (decide (x.1 < IntKind.wrap IntKind.i64 ((1 : Int) * (2 : Int) ^ min (Int.toNat (Nat.cast (R := Int) l.length)) (IntKind.bits IntKind.i64))))
      (Tinner l val x.1 fun s v => T.br (decide (v > 0)) (T.br (x.2.2.1 == (0 : Int)) (T.ret (Sum.inl (IntKind.wrap IntKind.i64 (x.1 + 1), s, v, PUnit.unit)))
        (T.br (less s v x.2.1 x.2.2.1) (T.ret (Sum.inl (IntKind.wrap IntKind.i64 (x.1 + 1), s, v, PUnit.unit))) (T.ret (Sum.inl (IntKind.wrap IntKind.i64 (x.1 + 1), x.2.1, x.2.2.1, PUnit.unit)))))
        (T.ret (Sum.inl (IntKind.wrap IntKind.i64 (x.1 + 1), x.2.1, x.2.2.1, PUnit.unit))))
      ((k x.2.1 x.2.2.1).map Sum.inr)
theorem bitE_eq (c i : Nat) (hc : c < 1000000) (hi : i ≤ 64) : bitE (c : Int) (i : Int) = decide ((c / 2 ^ i) % 2 = 1) := by
  have e1 : (2 : Int) ^ min (Int.toNat (i : Int)) 64 = ((2 ^ i : Nat) : Int) := by
    rw [Int.toNat_natCast, Nat.min_eq_left hi]; norm_cast
  have e2 : Int.fdiv (c : Int) ((2 ^ i : Nat) : Int) = ((c / 2 ^ i : Nat) : Int) := by
    rw [Int.fdiv_eq_ediv_of_nonneg _ (Int.natCast_nonneg _)]; norm_cast
  have e3 : (BitVec.ofInt 64 ((c / 2 ^ i : Nat) : Int) &&& BitVec.ofInt 64 1).toNat = (c / 2 ^ i) % 2 := by
    have h1 : (BitVec.ofInt 64 ((c / 2 ^ i : Nat) : Int)) = BitVec.ofNat 64 (c / 2 ^ i) := BitVec.ofInt_natCast ..
    have h2 : (BitVec.ofInt 64 1) = BitVec.ofNat 64 1 := rfl
    have hlt : c / 2 ^ i ≤ c := Nat.div_le_self _ _
    rw [h1, h2, BitVec.toNat_and, BitVec.toNat_ofNat, BitVec.toNat_ofNat, Nat.mod_eq_of_lt (show c / 2 ^ i < 2 ^ 64 by omega), show 1 % 2 ^ 64 = 1 from rfl, Nat.and_one_is_mod]
  unfold bitE
  rw [e1, e2, e3, wrap_id (by omega) (by omega)]
  generalize (c / 2 ^ i) % 2 = m
  by_cases h : m = 1
  · subst h; rfl
  · simp [h]; omega
/-- A number of a wine that is not great. -/
def OkV (val : M.Wine → Int) (l : List M.Wine) : Prop := ∀ w, w ∈ l → 0 ≤ w.v0 ∧ w.v0 ≤ 100000 ∧ 0 ≤ w.v1 ∧ w.v1 ≤ 100000 ∧ 0 ≤ val w ∧ val w ≤ 100000
def vEnd (w : M.Wine) (c : Nat) : Int := if c % 2 = 1 then w.v1 else w.v0
def sV : List M.Wine → Nat → Int
  | [], _ => 0
  | w :: l, c => vEnd w c + sV l (c / 2)
def sS (val : M.Wine → Int) : List M.Wine → Nat → Int
  | [], _ => 0
  | w :: l, c => vEnd w c * val w + sS val l (c / 2)
theorem OkV.get {val : M.Wine → Int} {l : List M.Wine} (h : OkV val l) {i : Nat} (hi : i < l.length) : 0 ≤ (l.getD i eW.dflt).v0 ∧ (l.getD i eW.dflt).v0 ≤ 100000 ∧ 0 ≤ (l.getD i eW.dflt).v1 ∧ (l.getD i eW.dflt).v1 ≤ 100000 ∧ 0 ≤ val (l.getD i eW.dflt) ∧ val (l.getD i eW.dflt) ≤ 100000 := by
  have e : l.getD i eW.dflt = l[i] := by simp [List.getD, List.getElem?_eq_getElem hi]
  rw [e]; exact h _ (List.getElem_mem hi)
theorem OkV.tail {val : M.Wine → Int} {w : M.Wine} {l : List M.Wine} (h : OkV val (w :: l)) : OkV val l := fun x hx => h x (List.mem_cons_of_mem _ hx)
theorem sV_bd {val : M.Wine → Int} : ∀ {l : List M.Wine} (c : Nat), OkV val l → 0 ≤ sV l c ∧ sV l c ≤ l.length * 100000
  | [], _, _ => by simp [sV]
  | r :: l, c, h => by
    have h1 := h r (List.mem_cons_self ..)
    have h2 := sV_bd (val := val) (l := l) (c / 2) h.tail
    simp only [sV, List.length_cons, vEnd]
    split <;> omega
theorem sS_bd {val : M.Wine → Int} : ∀ {l : List M.Wine} (c : Nat), OkV val l → 0 ≤ sS val l c ∧ sS val l c ≤ l.length * 10000000000
  | [], _, _ => by simp [sS]
  | r :: l, c, h => by
    have h1 := h r (List.mem_cons_self ..)
    have h2 := sS_bd (val := val) (l := l) (c / 2) h.tail
    have h3 := prod_bd h1.1 h1.2.1 h1.2.2.2.2.1 h1.2.2.2.2.2
    have h4 := prod_bd h1.2.2.1 h1.2.2.2.1 h1.2.2.2.2.1 h1.2.2.2.2.2
    simp only [sS, List.length_cons, vEnd]
    split <;> omega
theorem inner_wp {α : Type} {l : List M.Wine} {val : M.Wine → Int} (hl : l.length ≤ 8) (hv : OkV val l) {c : Nat} (hc : c < 1000000) {k : Int → Int → T α} {Q : α → Prop} (h : (k (sS val l c) (sV l c)).wp Q) : (Tinner l val (c : Int) k).wp Q := by
  refine ⟨fun x => ∃ (j : Nat), x.1 = (j : Int) ∧ j ≤ l.length ∧ 0 ≤ x.2.1 ∧ x.2.1 ≤ j * 10000000000 ∧ 0 ≤ x.2.2.1 ∧ x.2.2.1 ≤ j * 100000 ∧
    x.2.1 + sS val (l.drop j) (c / 2 ^ j) = sS val l c ∧ x.2.2.1 + sV (l.drop j) (c / 2 ^ j) = sV l c, fun x => l.length - x.1.toNat, ⟨0, rfl, by omega, by simp, by simp, by simp, by simp, by simp, by simp⟩, ?_⟩
  rintro ⟨x, s, v, u⟩ ⟨j, hj, hjl, a1, a2, a3, a4, s1, s2⟩
  simp only at hj a1 a2 a3 a4 s1 s2
  subst hj
  refine ⟨fun hlt => ?_, fun hge => ?_⟩
  · have hj' : j < l.length := by simpa using hlt
    have g := hv.get hj'
    rw [drop_cons (d := eW.dflt) hj', sS] at s1
    rw [drop_cons (d := eW.dflt) hj', sV] at s2
    have hd : c / 2 ^ j / 2 = c / 2 ^ (j + 1) := by rw [Nat.div_div_eq_div_mul, Nat.pow_succ]
    rw [hd] at s1 s2
    have b1 := prod_bd g.1 g.2.1 g.2.2.2.2.1 g.2.2.2.2.2
    have b2 := prod_bd g.2.2.1 g.2.2.2.1 g.2.2.2.2.1 g.2.2.2.2.2
    refine ⟨by omega, by omega, by omega, fun hb => ?_, fun hb => ?_⟩
    · rw [bitE_eq c j hc (by omega)] at hb
      have hb := of_decide_eq_true hb
      simp only [vEnd, if_pos hb] at s1 s2
      simp only [T.wp, LoopP, Int.toNat_natCast]
      rw [sucW j (by omega), wrap_id (n := (l.getD j eW.dflt).v1 * val (l.getD j eW.dflt)) (by omega) (by omega), wrap_id (n := s + _) (by omega) (by omega), wrap_id (n := v + _) (by omega) (by omega)]
      refine ⟨⟨j + 1, rfl, by omega, ?_, ?_, ?_, ?_, ?_, ?_⟩, by simp only [Int.toNat_natCast]; omega⟩
      all_goals (try simp only)
      all_goals omega
    · rw [bitE_eq c j hc (by omega)] at hb
      have hb := of_decide_eq_false hb
      simp only [vEnd, if_neg hb] at s1 s2
      simp only [T.wp, LoopP, Int.toNat_natCast]
      rw [sucW j (by omega), wrap_id (n := (l.getD j eW.dflt).v0 * val (l.getD j eW.dflt)) (by omega) (by omega), wrap_id (n := s + _) (by omega) (by omega), wrap_id (n := v + _) (by omega) (by omega)]
      refine ⟨⟨j + 1, rfl, by omega, ?_, ?_, ?_, ?_, ?_, ?_⟩, by simp only [Int.toNat_natCast]; omega⟩
      all_goals (try simp only)
      all_goals omega
  · have hj' : j = l.length := by
      have : l.length ≤ j := by simpa using hge
      omega
    subst hj'
    rw [List.drop_length] at s1 s2
    simp only [sS, sV, Int.add_zero] at s1 s2
    subst s1 s2
    exact T.map_wp h
/-- What the choices so far have come to. -/
def BestI (R : Int → Int → Int → Int → Prop) (val : M.Wine → Int) (l : List M.Wine) (c : Nat) (a b : Int) : Prop :=
  (a = 0 ∧ b = 0 ∧ ∀ d, d < c → sV l d = 0) ∨ (∃ d, d < c ∧ a = sS val l d ∧ b = sV l d ∧ 0 < b ∧ ∀ e, e < c → 0 < sV l e → R a b (sS val l e) (sV l e))
/-- All choices: behind them there is the best one. R a b c d: a / b is no worse than c / d. -/
theorem outer_wp {α : Type} {l : List M.Wine} {val : M.Wine → Int} (hl : l.length ≤ 8) (hv : OkV val l) {less : Int → Int → Int → Int → Bool} {R : Int → Int → Int → Int → Prop}
    (hR : ∀ a b c d, 0 ≤ a → a ≤ 80000000000 → 0 ≤ b → b ≤ 800000 → 0 ≤ c → c ≤ 80000000000 → 0 ≤ d → d ≤ 800000 → (less a b c d = true → R a b c d) ∧ (less a b c d = false → R c d a b))
    (hT : ∀ a b c d e f, 0 < b → 0 < d → 0 < f → R a b c d → R c d e f → R a b e f) (hrf : ∀ a b, R a b a b)
    {k : Int → Int → T α} {Q : α → Prop} (h : ∀ a b, BestI R val l (2 ^ l.length) a b → (k a b).wp Q) : (Touter l val less k).wp Q := by
  have hpow : 2 ^ l.length ≤ 256 := by
    have : 2 ^ l.length ≤ 2 ^ 8 := Nat.pow_le_pow_right (by decide) (by omega)
    simpa using this
  have epow : IntKind.wrap IntKind.i64 ((1 : Int) * (2 : Int) ^ min (Int.toNat (Nat.cast (R := Int) l.length)) (IntKind.bits IntKind.i64)) = ((2 ^ l.length : Nat) : Int) := by
    have hb : IntKind.bits IntKind.i64 = 64 := rfl
    rw [hb, Int.toNat_natCast, Nat.min_eq_left (by omega), Int.one_mul]
    have : (2 : Int) ^ l.length = ((2 ^ l.length : Nat) : Int) := by norm_cast
    rw [this]
    generalize 2 ^ l.length = z at *
    exact wrap_id (by omega) (by omega)
  obtain ⟨NN, hNN⟩ : ∃ NN, NN = 2 ^ l.length := ⟨_, rfl⟩
  rw [← hNN] at hpow epow h
  unfold Touter
  refine ⟨fun x => ∃ c : Nat, x.1 = (c : Int) ∧ c ≤ NN ∧ BestI R val l c x.2.1 x.2.2.1, fun x => NN - x.1.toNat, ⟨0, rfl, by omega, .inl ⟨rfl, rfl, fun d hd => by omega⟩⟩, ?_⟩
  rintro ⟨x, a, b, u⟩ ⟨c, hc, hcl, hI⟩
  simp only at hc hI
  subst hc
  simp only [epow]
  refine ⟨fun hlt => ?_, fun hge => ?_⟩
  · have hlt' : c < NN := by
      have h9 : (c : Int) < (NN : Int) := of_decide_eq_true hlt
      omega
    have hbV : ∀ d, 0 ≤ sV l d ∧ sV l d ≤ 800000 := fun d => by have := sV_bd (val := val) d hv; omega
    have hbS : ∀ d, 0 ≤ sS val l d ∧ sS val l d ≤ 80000000000 := fun d => by have := sS_bd d hv; omega
    refine inner_wp hl hv (by omega) ?_
    have next : ∀ a' b', BestI R val l (c + 1) a' b' → LoopP (fun x : X4 => ∃ c : Nat, x.1 = (c : Int) ∧ c ≤ NN ∧ BestI R val l c x.2.1 x.2.2.1) (fun x => NN - x.1.toNat) (NN - (c : Int).toNat) Q (Sum.inl (IntKind.wrap IntKind.i64 ((c : Int) + 1), a', b', PUnit.unit)) := by
      intro a' b' hb
      rw [sucW c (by omega)]
      exact ⟨⟨c + 1, rfl, by omega, hb⟩, by simp only [Int.toNat_natCast]; omega⟩
    refine ⟨fun hp => ?_, fun hp => ?_⟩
    · have hp : 0 < sV l c := of_decide_eq_true hp
      refine ⟨fun hz => next _ _ (.inr ⟨c, by omega, rfl, rfl, hp, ?_⟩), fun hz => ⟨fun hls => next _ _ (.inr ⟨c, by omega, rfl, rfl, hp, ?_⟩), fun hls => next _ _ ?_⟩⟩
      · have hz : b = 0 := eq_of_beq hz
        rcases hI with ⟨_, _, h3⟩ | ⟨d, _, _, _, h4, _⟩
        · intro e he hev
          rcases Nat.lt_or_ge e c with h5 | h5
          · have := h3 e h5; omega
          · obtain rfl : e = c := by omega
            exact hrf _ _
        · omega
      · have hz : b ≠ 0 := beq_eq_false_iff_ne.1 hz
        rcases hI with ⟨_, h2, _⟩ | ⟨d, hd, h2, h3, h4, h5⟩
        · exact absurd h2 hz
        · intro e he hev
          have hr := (hR _ _ _ _ (hbS c).1 (hbS c).2 (hbV c).1 (hbV c).2 (by rw [h2]; exact (hbS d).1) (by rw [h2]; exact (hbS d).2) (by rw [h3]; exact (hbV d).1) (by rw [h3]; exact (hbV d).2)).1 hls
          rcases Nat.lt_or_ge e c with h6 | h6
          · exact hT _ _ _ _ _ _ hp h4 hev hr (h5 e h6 hev)
          · obtain rfl : e = c := by omega
            exact hrf _ _
      · have hz : b ≠ 0 := beq_eq_false_iff_ne.1 hz
        rcases hI with ⟨_, h2, _⟩ | ⟨d, hd, h2, h3, h4, h5⟩
        · exact absurd h2 hz
        · refine .inr ⟨d, by omega, h2, h3, h4, fun e he hev => ?_⟩
          have hr := (hR _ _ _ _ (hbS c).1 (hbS c).2 (hbV c).1 (hbV c).2 (by rw [h2]; exact (hbS d).1) (by rw [h2]; exact (hbS d).2) (by rw [h3]; exact (hbV d).1) (by rw [h3]; exact (hbV d).2)).2 hls
          rcases Nat.lt_or_ge e c with h6 | h6
          · exact h5 e h6 hev
          · obtain rfl : e = c := by omega
            exact hr
    · have hp : ¬ 0 < sV l c := of_decide_eq_false hp
      have hz : sV l c = 0 := by have := (hbV c).1; omega
      refine next _ _ ?_
      rcases hI with ⟨h1, h2, h3⟩ | ⟨d, hd, h2, h3, h4, h5⟩
      · refine .inl ⟨h1, h2, fun e he => ?_⟩
        rcases Nat.lt_or_ge e c with h6 | h6
        · exact h3 e h6
        · obtain rfl : e = c := by omega
          exact hz
      · refine .inr ⟨d, by omega, h2, h3, h4, fun e he hev => ?_⟩
        rcases Nat.lt_or_ge e c with h6 | h6
        · exact h5 e h6 hev
        · obtain rfl : e = c := by omega
          omega
  · have hge' : c = NN := by
      have h9 : ¬ (c : Int) < (NN : Int) := of_decide_eq_false hge
      omega
    subst hge'
    exact T.map_wp (h _ _ hI)
end Go.Fl2
end

section
set_option linter.unusedVariables false
set_option linter.unusedSimpArgs false
set_option maxRecDepth 100000
namespace Go.Fl2
open Go.V Go.Fl Go.Proofs
def okWs (l : List M.Wine) : Prop := ∀ w, w ∈ l → L.OkW w
def dom100 : DomF
  | [.c (.sl _ len st F), .c (.op v)] => (match Nat.beq st 6, ofK v with
    | true, some k => some ([eW.Is len F, len ≤ 8, okWs (eW.list len F), 0 < sumHi (eW.list len F)], [.agg [dI (refMean ((eW.list len F).map M.Wine.v) ((eW.list len F).map (rgOf k))).lo, dI (refMean ((eW.list len F).map M.Wine.v) ((eW.list len F).map (rgOf k))).hi]])
    | _, _ => none)
  | _ => none
def v100 : Nat × Sm := (100, fokSm dom100)
theorem sumV_eq : ∀ (l : List M.Wine) (c : Nat), sumV (l.map M.Wine.v) c = sV l c
  | [], _ => rfl
  | w :: l, c => by simp only [List.map_cons, sumV, sV, sumV_eq l]; rfl
theorem sumX_eq (hi k : Bool) : ∀ (l : List M.Wine) (c : Nat), sumX hi (l.map M.Wine.v) (l.map (rgOf k)) c = sS (fun w => cond hi (rgOf k w).hi (rgOf k w).lo) l c
  | [], _ => rfl
  | w :: l, c => by simp only [List.map_cons, sumX, sS, sumX_eq hi k l]; rfl
/-- What the reference has come to. -/
def RefI (l k : List M.Rg) (c : Nat) (a : Bool × Int × Int) : Prop :=
  (a.1 = true ∧ ∀ d, d < c → sumV l d = 0) ∨ (a.1 = false ∧
    (∃ d, d < c ∧ sumV l d ≠ 0 ∧ a.2.1 = M.floor (sumX false l k d) (sumV l d)) ∧ (∀ e, e < c → sumV l e ≠ 0 → a.2.1 ≤ M.floor (sumX false l k e) (sumV l e)) ∧
    (∃ d, d < c ∧ sumV l d ≠ 0 ∧ a.2.2 = M.ceiling (sumX true l k d) (sumV l d)) ∧ (∀ e, e < c → sumV l e ≠ 0 → M.ceiling (sumX true l k e) (sumV l e) ≤ a.2.2))
theorem refI (l k : List M.Rg) : ∀ c, RefI l k c ((List.range c).foldl (mstep l k) (true, 0, 0)) := by
  intro c
  induction c with
  | zero => exact .inl ⟨rfl, fun d hd => by omega⟩
  | succ c ih =>
    rw [foldl_range_succ]
    generalize (List.range c).foldl (mstep l k) (true, 0, 0) = a at *
    obtain ⟨b, lo, hi⟩ := a
    unfold mstep
    by_cases hz : sumV l c = 0
    · rw [if_pos hz]
      rcases ih with ⟨h1, h2⟩ | ⟨h1, ⟨d, d1, d2, d3⟩, h3, ⟨e, e1, e2, e3⟩, h5⟩
      · refine .inl ⟨h1, fun d hd => ?_⟩
        rcases Nat.lt_or_ge d c with h | h
        · exact h2 d h
        · obtain rfl : d = c := by omega
          exact hz
      · refine .inr ⟨h1, ⟨d, by omega, d2, d3⟩, fun f hf hv => ?_, ⟨e, by omega, e2, e3⟩, fun f hf hv => ?_⟩
        · rcases Nat.lt_or_ge f c with h | h
          · exact h3 f h hv
          · obtain rfl : f = c := by omega
            exact absurd hz hv
        · rcases Nat.lt_or_ge f c with h | h
          · exact h5 f h hv
          · obtain rfl : f = c := by omega
            exact absurd hz hv
    · rw [if_neg hz]
      rcases ih with ⟨h1, h2⟩ | ⟨h1, ⟨d, d1, d2, d3⟩, h3, ⟨e, e1, e2, e3⟩, h5⟩
      · simp only at h1
        subst h1
        rw [if_pos rfl]
        refine .inr ⟨rfl, ⟨c, by omega, hz, rfl⟩, fun f hf hv => ?_, ⟨c, by omega, hz, rfl⟩, fun f hf hv => ?_⟩
        · rcases Nat.lt_or_ge f c with h | h
          · exact absurd (h2 f h) hv
          · obtain rfl : f = c := by omega
            exact Int.le_refl _
        · rcases Nat.lt_or_ge f c with h | h
          · exact absurd (h2 f h) hv
          · obtain rfl : f = c := by omega
            exact Int.le_refl _
      · simp only at h1 d3 h3 e3 h5
        subst h1
        rw [if_neg (by simp)]
        simp only [RefI, M.minI, M.maxI]
        refine .inr ⟨trivial, ?_, fun f hf hv => ?_, ?_, fun f hf hv => ?_⟩
        · split
          · exact ⟨c, by omega, hz, rfl⟩
          · exact ⟨d, by omega, d2, d3⟩
        · rcases Nat.lt_or_ge f c with h | h
          · have := h3 f h hv
            split <;> omega
          · obtain rfl : f = c := by omega
            split <;> omega
        · split
          · exact ⟨c, by omega, hz, rfl⟩
          · exact ⟨e, by omega, e2, e3⟩
        · rcases Nat.lt_or_ge f c with h | h
          · have := h5 f h hv
            split <;> omega
          · obtain rfl : f = c := by omega
            split <;> omega
/-- A volume above 0 at some choice. -/
theorem sV_all : ∀ (l : List M.Wine), sV l (2 ^ l.length - 1) = sumHi l
  | [] => rfl
  | w :: l => by
    have hp : 0 < 2 ^ l.length := Nat.pow_pos (by decide)
    have e1 : (2 ^ (w :: l).length - 1) % 2 = 1 := by rw [List.length_cons, Nat.pow_succ]; omega
    have e2 : (2 ^ (w :: l).length - 1) / 2 = 2 ^ l.length - 1 := by rw [List.length_cons, Nat.pow_succ]; omega
    simp only [sV, vEnd, sumHi, e1, e2, if_true, sV_all l]
theorem cancel {x y b : Int} (hb : 0 < b) (h : x * b ≤ y * b) : x ≤ y := Int.le_of_mul_le_mul_right h hb
theorem okv {l : List M.Wine} (h : okWs l) (hi k : Bool) : OkV (fun w => cond hi (rgOf k w).hi (rgOf k w).lo) l := by
  intro w hw
  have o := h w hw
  have w1 := o.v0; have w2 := o.v; have w3 := o.v1; have w4 := o.s0; have w5 := o.s; have w6 := o.s1; have w7 := o.c0; have w8 := o.c; have w9 := o.c1
  cases hi <;> cases k <;> simp only [cond_true, cond_false, rgOf] <;> omega
/-- The least mean, rounded down. -/
theorem best_lo {l : List M.Wine} (hl : l.length ≤ 8) (h : okWs l) (k : Bool) (hpos : 0 < sumHi l) {a b : Int} (hb : BestI (fun a b c d => a * d ≤ c * b) (fun w => (rgOf k w).lo) l (2 ^ l.length) a b) :
    b ≠ 0 ∧ M.floor a b = (refMean (l.map M.Wine.v) (l.map (rgOf k))).lo := by
  have hp : 0 < 2 ^ l.length := Nat.pow_pos (by decide)
  have hv := okv h false k
  have hS : ∀ d, 0 ≤ sS (fun w => (rgOf k w).lo) l d ∧ sS (fun w => (rgOf k w).lo) l d ≤ 80000000000 := fun d => by have := sS_bd d hv; simp only [cond_false] at this; omega
  have hV : ∀ d, 0 ≤ sV l d ∧ sV l d ≤ 800000 := fun d => by have := sV_bd d hv; omega
  rcases hb with ⟨_, _, h3⟩ | ⟨d, hd, h2, h3, h4, h5⟩
  · have := h3 (2 ^ l.length - 1) (by omega)
    rw [sV_all] at this; omega
  · refine ⟨by omega, ?_⟩
    have hr := refI (l.map M.Wine.v) (l.map (rgOf k)) (2 ^ (l.map M.Wine.v).length)
    rw [List.length_map] at hr
    simp only [RefI, sumV_eq, sumX_eq, cond_false] at hr
    have e0 : refMean (l.map M.Wine.v) (l.map (rgOf k)) = ⟨((List.range (2 ^ l.length)).foldl (mstep (l.map M.Wine.v) (l.map (rgOf k))) (true, 0, 0)).2.1, ((List.range (2 ^ l.length)).foldl (mstep (l.map M.Wine.v) (l.map (rgOf k))) (true, 0, 0)).2.2⟩ := by
      unfold refMean; rw [List.length_map]
    rw [e0]
    generalize (List.range (2 ^ l.length)).foldl (mstep (l.map M.Wine.v) (l.map (rgOf k))) (true, 0, 0) = r at *
    rcases hr with ⟨_, h6⟩ | ⟨_, ⟨f, f1, f2, f3⟩, h7, _, _⟩
    · have := h6 d hd; omega
    · have g1 := h7 d hd (by omega)
      have hVf : 0 < sV l f := by have := (hV f).1; omega
      have g2 := h5 f f1 hVf
      simp only at g1 g2 ⊢
      rw [← h2, ← h3] at g1
      refine Int.le_antisymm ?_ g1
      rw [f3, L.le_floor hVf (by have := (hS f).1; omega) (by have := (hS f).2; omega)]
      have g3 := (L.le_floor (q := M.floor a b) h4 (by rw [h2]; have := (hS d).1; omega) (by rw [h2]; have := (hS d).2; omega)).1 (Int.le_refl _)
      refine cancel h4 (Int.le_trans ?_ g2)
      have := Int.mul_le_mul_of_nonneg_right g3 (Int.le_of_lt hVf)
      rw [Int.mul_right_comm] at this
      exact this
theorem best_hi {l : List M.Wine} (hl : l.length ≤ 8) (h : okWs l) (k : Bool) (hpos : 0 < sumHi l) {a b : Int} (hb : BestI (fun a b c d => c * b ≤ a * d) (fun w => (rgOf k w).hi) l (2 ^ l.length) a b) :
    b ≠ 0 ∧ M.ceiling a b = (refMean (l.map M.Wine.v) (l.map (rgOf k))).hi := by
  have hp : 0 < 2 ^ l.length := Nat.pow_pos (by decide)
  have hv := okv h true k
  have hS : ∀ d, 0 ≤ sS (fun w => (rgOf k w).hi) l d ∧ sS (fun w => (rgOf k w).hi) l d ≤ 80000000000 := fun d => by have := sS_bd d hv; simp only [cond_true] at this; omega
  have hV : ∀ d, 0 ≤ sV l d ∧ sV l d ≤ 800000 := fun d => by have := sV_bd d hv; omega
  rcases hb with ⟨_, _, h3⟩ | ⟨d, hd, h2, h3, h4, h5⟩
  · have := h3 (2 ^ l.length - 1) (by omega)
    rw [sV_all] at this; omega
  · refine ⟨by omega, ?_⟩
    have hr := refI (l.map M.Wine.v) (l.map (rgOf k)) (2 ^ (l.map M.Wine.v).length)
    rw [List.length_map] at hr
    simp only [RefI, sumV_eq, sumX_eq, cond_true] at hr
    have e0 : refMean (l.map M.Wine.v) (l.map (rgOf k)) = ⟨((List.range (2 ^ l.length)).foldl (mstep (l.map M.Wine.v) (l.map (rgOf k))) (true, 0, 0)).2.1, ((List.range (2 ^ l.length)).foldl (mstep (l.map M.Wine.v) (l.map (rgOf k))) (true, 0, 0)).2.2⟩ := by
      unfold refMean; rw [List.length_map]
    rw [e0]
    generalize (List.range (2 ^ l.length)).foldl (mstep (l.map M.Wine.v) (l.map (rgOf k))) (true, 0, 0) = r at *
    rcases hr with ⟨_, h6⟩ | ⟨_, _, _, ⟨f, f1, f2, f3⟩, h7⟩
    · have := h6 d hd; omega
    · have g1 := h7 d hd (by omega)
      have hVf : 0 < sV l f := by have := (hV f).1; omega
      have g2 := h5 f f1 hVf
      simp only at g1 g2 ⊢
      rw [← h2, ← h3] at g1
      refine Int.le_antisymm g1 ?_
      rw [f3, L.ceiling_le hVf (by have := (hS f).1; omega) (by have := (hS f).2; omega)]
      have g3 := (L.ceiling_le (q := M.ceiling a b) h4 (by rw [h2]; have := (hS d).1; omega) (by rw [h2]; have := (hS d).2; omega)).1 (Int.le_refl _)
      refine cancel h4 (Int.le_trans g2 ?_)
      have := Int.mul_le_mul_of_nonneg_right g3 (Int.le_of_lt hVf)
      rw [Int.mul_right_comm] at this
      exact this
theorem trans_lo (a b c d e f : Int) (hb : 0 < b) (hd : 0 < d) (hf : 0 < f) (h1 : a * d ≤ c * b) (h2 : c * f ≤ e * d) : a * f ≤ e * b := by
  refine cancel hd ?_
  have k1 := Int.mul_le_mul_of_nonneg_right h1 (Int.le_of_lt hf)
  have k2 := Int.mul_le_mul_of_nonneg_right h2 (Int.le_of_lt hb)
  have e1 : a * d * f = a * f * d := Int.mul_right_comm ..
  have e2 : c * b * f = c * f * b := Int.mul_right_comm ..
  have e3 : e * d * b = e * b * d := Int.mul_right_comm ..
  omega
theorem less_iff {a b c d : Int} (h1 : 0 ≤ a) (h2 : a ≤ 80000000000) (h3 : 0 ≤ b) (h4 : b ≤ 800000) (h5 : 0 ≤ c) (h6 : c ≤ 80000000000) (h7 : 0 ≤ d) (h8 : d ≤ 800000) : lessM a b c d = decide (a * d < c * b) := by
  have k1 := L.mul_le h1 h2 h7 h8
  have k2 := L.mul_le h5 h6 h3 h4
  unfold lessM
  rw [L.W_id (by omega) (by omega), L.W_id (by omega) (by omega)]
theorem t101 (v0 v1 s0 s1 c0 c1 : Int) : runFn Tryd.prog G0 (lookS []) [] 40 Tryd.f101 [.agg [dI v0, dI v1, dI s0, dI s1, dI c0, dI c1]] =
    T.ret [Ar.agg [D.int IntKind.i64 s0, D.int IntKind.i64 s1]] := by kernel_rfl
theorem t102 (v0 v1 s0 s1 c0 c1 : Int) : runFn Tryd.prog G0 (lookS []) [] 40 Tryd.f102 [.agg [dI v0, dI v1, dI s0, dI s1, dI c0, dI c1]] =
    T.ret [Ar.agg [D.int IntKind.i64 c0, D.int IntKind.i64 c1]] := by kernel_rfl
theorem t111 (a b c d : Int) : runFn Tryd.prog G0 (lookS []) [] 40 Tryd.f111 [.agg [dI a, dI b], .agg [dI c, dI d]] =
    T.ret [Ar.c (D.bool (decide (IntKind.wrap IntKind.i64 (a * d) < IntKind.wrap IntKind.i64 (c * b))))] := by kernel_rfl
theorem t113 (a b c d : Int) : runFn Tryd.prog G0 (lookS [v111]) [] 40 Tryd.f113 [.agg [dI a, dI b], .agg [dI c, dI d]] =
    T.ret [Ar.c (D.bool (decide (M.W (c * b) < M.W (a * d))))] := by kernel_rfl
theorem t110_101 (v0 v1 s0 s1 c0 c1 : Int) : runFn Tryd.prog G0 (lookS [v101, v102]) [] 40 Tryd.f110 [.agg [dI v0, dI v1, dI s0, dI s1, dI c0, dI c1], .ptr 1 (fun _ => .op (.func (.func 101) #[] #[]))] =
    T.ret [Ar.c (D.int IntKind.i64 s0)] := by kernel_rfl
theorem t110_102 (v0 v1 s0 s1 c0 c1 : Int) : runFn Tryd.prog G0 (lookS [v101, v102]) [] 40 Tryd.f110 [.agg [dI v0, dI v1, dI s0, dI s1, dI c0, dI c1], .ptr 1 (fun _ => .op (.func (.func 102) #[] #[]))] =
    T.ret [Ar.c (D.int IntKind.i64 c0)] := by kernel_rfl
theorem t112_101 (v0 v1 s0 s1 c0 c1 : Int) : runFn Tryd.prog G0 (lookS [v101, v102]) [] 40 Tryd.f112 [.agg [dI v0, dI v1, dI s0, dI s1, dI c0, dI c1], .ptr 1 (fun _ => .op (.func (.func 101) #[] #[]))] =
    T.ret [Ar.c (D.int IntKind.i64 s1)] := by kernel_rfl
theorem t112_102 (v0 v1 s0 s1 c0 c1 : Int) : runFn Tryd.prog G0 (lookS [v101, v102]) [] 40 Tryd.f112 [.agg [dI v0, dI v1, dI s0, dI s1, dI c0, dI c1], .ptr 1 (fun _ => .op (.func (.func 102) #[] #[]))] =
    T.ret [Ar.c (D.int IntKind.i64 c1)] := by kernel_rfl
theorem t100_101 (q : Bool) (l : List M.Wine) : runFnX Tryd.prog G0 (lookS [v80, v81, v101, v102, v110, v111, v112, v113]) (fun f => match Nat.beq f 115 with | true => [(1, [.slot 12 (.int .i64), .blk 2000003 [.int .i64, .int .i64]], none), (5, [.slot 17 (.int .i64), .blk 5 [.int .i64, .int .i64]], none)] | false => []) [109, 114] 3 60 6 100 Tryd.f100 [.c (.sl q l.length 6 (eW.F l)), .c (.op (.func (.func 101) #[] #[]))] =
    T.need ((0 : Int) ≤ Nat.cast (R := Int) l.length) (Touter l (fun w => (rgOf false w).lo) lessM fun a b => T.need ((0 : Int) ≤ Nat.cast (R := Int) l.length) (Touter l (fun w => (rgOf false w).hi) (fun a b c d => lessM c d a b) fun c d =>
      T.need (b ≠ (0 : Int)) (T.need (d ≠ (0 : Int)) (T.ret [Ar.agg [D.int IntKind.i64 (M.floor a b), D.int IntKind.i64 (M.ceiling c d)]])))) := by kernel_rfl
theorem t100_102 (q : Bool) (l : List M.Wine) : runFnX Tryd.prog G0 (lookS [v80, v81, v101, v102, v110, v111, v112, v113]) (fun f => match Nat.beq f 115 with | true => [(1, [.slot 12 (.int .i64), .blk 2000003 [.int .i64, .int .i64]], none), (5, [.slot 17 (.int .i64), .blk 5 [.int .i64, .int .i64]], none)] | false => []) [109, 114] 3 60 6 100 Tryd.f100 [.c (.sl q l.length 6 (eW.F l)), .c (.op (.func (.func 102) #[] #[]))] =
    T.need ((0 : Int) ≤ Nat.cast (R := Int) l.length) (Touter l (fun w => (rgOf true w).lo) lessM fun a b => T.need ((0 : Int) ≤ Nat.cast (R := Int) l.length) (Touter l (fun w => (rgOf true w).hi) (fun a b c d => lessM c d a b) fun c d =>
      T.need (b ≠ (0 : Int)) (T.need (d ≠ (0 : Int)) (T.ret [Ar.agg [D.int IntKind.i64 (M.floor a b), D.int IntKind.i64 (M.ceiling c d)]])))) := by kernel_rfl
theorem C101v : FOK Tryd.prog G0 gw 101 dom101 := by
  intro ags p r hd hp κ w xs hw hl hG hx
  unfold dom101 at hd
  split at hd
  · rename_i v0 v1 s0 s1 c0 c1
    simp only [Option.some.injEq, Prod.mk.injEq] at hd
    obtain ⟨rfl, rfl⟩ := hd
    refine fok_fin mixed gw_stable (sl := []) trivial Tryd.func101 hw hl hG hx (agsEqv_refl _) rfl (t101 v0 v1 s0 s1 c0 c1) ?_
    exact rsEqv_refl _
  · cases hd
theorem S101v : SumOK Tryd.prog G0 gw 101 (fokSm dom101) := fok_sum Tryd.func101 rfl C101v
theorem C102v : FOK Tryd.prog G0 gw 102 dom102 := by
  intro ags p r hd hp κ w xs hw hl hG hx
  unfold dom102 at hd
  split at hd
  · rename_i v0 v1 s0 s1 c0 c1
    simp only [Option.some.injEq, Prod.mk.injEq] at hd
    obtain ⟨rfl, rfl⟩ := hd
    refine fok_fin mixed gw_stable (sl := []) trivial Tryd.func102 hw hl hG hx (agsEqv_refl _) rfl (t102 v0 v1 s0 s1 c0 c1) ?_
    exact rsEqv_refl _
  · cases hd
theorem S102v : SumOK Tryd.prog G0 gw 102 (fokSm dom102) := fok_sum Tryd.func102 rfl C102v
theorem C111v : FOK Tryd.prog G0 gw 111 dom111 := by
  intro ags p r hd hp κ w xs hw hl hG hx
  unfold dom111 at hd
  split at hd
  · rename_i a b c d
    simp only [Option.some.injEq, Prod.mk.injEq] at hd
    obtain ⟨rfl, rfl⟩ := hd
    refine fok_fin mixed gw_stable (sl := []) trivial Tryd.func111 hw hl hG hx (agsEqv_refl _) rfl (t111 a b c d) ?_
    exact rsEqv_refl _
  · cases hd
theorem S111v : SumOK Tryd.prog G0 gw 111 (fokSm dom111) := fok_sum Tryd.func111 rfl C111v
theorem C113v : FOK Tryd.prog G0 gw 113 dom113 := by
  intro ags p r hd hp κ w xs hw hl hG hx
  unfold dom113 at hd
  split at hd
  · rename_i a b c d
    simp only [Option.some.injEq, Prod.mk.injEq] at hd
    obtain ⟨rfl, rfl⟩ := hd
    refine fok_fin mixed gw_stable (sl := [v111]) ⟨S111v, trivial⟩ Tryd.func113 hw hl hG hx (agsEqv_refl _) rfl (t113 a b c d) ?_
    exact rsEqv_refl _
  · cases hd
theorem S113v : SumOK Tryd.prog G0 gw 113 (fokSm dom113) := fok_sum Tryd.func113 rfl C113v
theorem ofK_spec {v : Value} {k : Bool} (h : ofK v = some k) : v = .func (.func (cond k 102 101)) #[] #[] := by
  unfold ofK at h
  split at h
  · rename_i f a b
    split at h
    · rename_i ha hb
      have ea : a = #[] := by apply Array.ext'; simpa using ha
      have eb : b = #[] := by apply Array.ext'; simpa using hb
      subst ea eb
      split at h
      · rename_i h1
        cases h
        rw [Nat.eq_of_beq_eq_true h1]; rfl
      · split at h
        · rename_i h2
          cases h
          rw [Nat.eq_of_beq_eq_true h2]; rfl
        · cases h
    · cases h
  · cases h
theorem C110v : FOK Tryd.prog G0 gw 110 dom110 := by
  intro ags p r hd hp κ w xs hw hl hG hx
  unfold dom110 at hd
  split at hd
  · rename_i v0 v1 s0 s1 c0 c1 n F
    split at hd
    · rename_i v hF
      split at hd
      · rename_i k hk
        simp only [Option.some.injEq, Prod.mk.injEq] at hd
        obtain ⟨rfl, rfl⟩ := hd
        rw [ofK_spec hk] at hF
        have heq : ∀ j, j < 1 → (F j).eqv (D.op (.func (.func (cond k 102 101)) #[] #[])) := by
          intro j hj
          obtain rfl : j = 0 := by omega
          rw [hF]; exact D.eqv_refl _
        cases k with
        | false =>
          refine fok_fin mixed gw_stable (sl := [v101, v102]) ⟨S101v, S102v, trivial⟩ Tryd.func110 hw hl hG hx (ags' := [.agg [dI v0, dI v1, dI s0, dI s1, dI c0, dI c1], .ptr 1 (fun _ => .op (.func (.func 101) #[] #[]))]) ⟨dsEqv_refl _, ⟨rfl, heq⟩, trivial⟩ rfl (t110_101 v0 v1 s0 s1 c0 c1) ?_
          exact rsEqv_refl _
        | true =>
          refine fok_fin mixed gw_stable (sl := [v101, v102]) ⟨S101v, S102v, trivial⟩ Tryd.func110 hw hl hG hx (ags' := [.agg [dI v0, dI v1, dI s0, dI s1, dI c0, dI c1], .ptr 1 (fun _ => .op (.func (.func 102) #[] #[]))]) ⟨dsEqv_refl _, ⟨rfl, heq⟩, trivial⟩ rfl (t110_102 v0 v1 s0 s1 c0 c1) ?_
          exact rsEqv_refl _
      · cases hd
    · cases hd
  · cases hd
theorem S110v : SumOK Tryd.prog G0 gw 110 (fokSm dom110) := fok_sum Tryd.func110 rfl C110v
theorem C112v : FOK Tryd.prog G0 gw 112 dom112 := by
  intro ags p r hd hp κ w xs hw hl hG hx
  unfold dom112 at hd
  split at hd
  · rename_i v0 v1 s0 s1 c0 c1 n F
    split at hd
    · rename_i v hF
      split at hd
      · rename_i k hk
        simp only [Option.some.injEq, Prod.mk.injEq] at hd
        obtain ⟨rfl, rfl⟩ := hd
        rw [ofK_spec hk] at hF
        have heq : ∀ j, j < 1 → (F j).eqv (D.op (.func (.func (cond k 102 101)) #[] #[])) := by
          intro j hj
          obtain rfl : j = 0 := by omega
          rw [hF]; exact D.eqv_refl _
        cases k with
        | false =>
          refine fok_fin mixed gw_stable (sl := [v101, v102]) ⟨S101v, S102v, trivial⟩ Tryd.func112 hw hl hG hx (ags' := [.agg [dI v0, dI v1, dI s0, dI s1, dI c0, dI c1], .ptr 1 (fun _ => .op (.func (.func 101) #[] #[]))]) ⟨dsEqv_refl _, ⟨rfl, heq⟩, trivial⟩ rfl (t112_101 v0 v1 s0 s1 c0 c1) ?_
          exact rsEqv_refl _
        | true =>
          refine fok_fin mixed gw_stable (sl := [v101, v102]) ⟨S101v, S102v, trivial⟩ Tryd.func112 hw hl hG hx (ags' := [.agg [dI v0, dI v1, dI s0, dI s1, dI c0, dI c1], .ptr 1 (fun _ => .op (.func (.func 102) #[] #[]))]) ⟨dsEqv_refl _, ⟨rfl, heq⟩, trivial⟩ rfl (t112_102 v0 v1 s0 s1 c0 c1) ?_
          exact rsEqv_refl _
      · cases hd
    · cases hd
  · cases hd
theorem S112v : SumOK Tryd.prog G0 gw 112 (fokSm dom112) := fok_sum Tryd.func112 rfl C112v
theorem S80v : SumOK Tryd.prog G0 gw 80 (fokSm (bdom [.c, .c] d80)) := fok_sum Tryd.func80 rfl (bridge C80)
theorem S81v : SumOK Tryd.prog G0 gw 81 (fokSm (bdom [.c, .c] d81)) := fok_sum Tryd.func81 rfl (bridge C81)
theorem mixed_wp {l : List M.Wine} (hl : l.length ≤ 8) (h : okWs l) (k : Bool) (hpos : 0 < sumHi l) :
    (T.need ((0 : Int) ≤ Nat.cast (R := Int) l.length) (Touter l (fun w => (rgOf k w).lo) lessM fun a b => T.need ((0 : Int) ≤ Nat.cast (R := Int) l.length) (Touter l (fun w => (rgOf k w).hi) (fun a b c d => lessM c d a b) fun c d =>
      T.need (b ≠ (0 : Int)) (T.need (d ≠ (0 : Int)) (T.ret [Ar.agg [D.int IntKind.i64 (M.floor a b), D.int IntKind.i64 (M.ceiling c d)]]))))).wp
      (fun rs => rsEqv rs [.agg [dI (refMean (l.map M.Wine.v) (l.map (rgOf k))).lo, dI (refMean (l.map M.Wine.v) (l.map (rgOf k))).hi]]) := by
  refine ⟨by omega, outer_wp hl (okv h false k) (R := fun a b c d => a * d ≤ c * b) ?_ ?_ (fun a b => Int.le_refl _) (fun a b hb => ?_)⟩
  · intro a b c d h1 h2 h3 h4 h5 h6 h7 h8
    rw [less_iff h1 h2 h3 h4 h5 h6 h7 h8]
    exact ⟨fun h => by have := of_decide_eq_true h; omega, fun h => by have := of_decide_eq_false h; omega⟩
  · exact fun a b c d e f hb hd hf h1 h2 => trans_lo a b c d e f hb hd hf h1 h2
  · obtain ⟨g1, g2⟩ := best_lo hl h k hpos hb
    refine ⟨by omega, outer_wp hl (okv h true k) (R := fun a b c d => c * b ≤ a * d) ?_ ?_ (fun a b => Int.le_refl _) (fun c d hc => ?_)⟩
    · intro a b c d h1 h2 h3 h4 h5 h6 h7 h8
      rw [less_iff h5 h6 h7 h8 h1 h2 h3 h4]
      exact ⟨fun h => by have := of_decide_eq_true h; omega, fun h => by have := of_decide_eq_false h; omega⟩
    · intro a b c d e f hb hd hf h1 h2
      exact trans_lo e f c d a b hf hd hb h2 h1
    · obtain ⟨g3, g4⟩ := best_hi hl h k hpos hc
      refine ⟨g1, g3, ?_⟩
      rw [g2, g4]
      exact rsEqv_refl _
theorem C100v : FOK Tryd.prog G0 gw 100 dom100 := by
  intro ags p r hd hp κ w xs hw hl hG hx
  unfold dom100 at hd
  split at hd
  · rename_i q len st F v
    split at hd
    · rename_i k hst hk
      have h1 := Nat.eq_of_beq_eq_true hst
      subst h1
      simp only [Option.some.injEq, Prod.mk.injEq] at hd
      obtain ⟨rfl, rfl⟩ := hd
      obtain ⟨i1, i2, i3, i4, _⟩ := hp
      have t1 := eW.to (q := q) (q' := q) id i1
      have l1 : (eW.list len F).length = len := eW.list_len
      generalize eW.list len F = l at *
      have hv := ofK_spec hk
      subst hv
      have hS : AllS Tryd.prog G0 gw [v80, v81, v101, v102, v110, v111, v112, v113] := ⟨S80v, S81v, S101v, S102v, S110v, S111v, S112v, S113v, trivial⟩
      have hlen : l.length ≤ 8 := by omega
      cases k with
      | false =>
        refine fokX_fin mixed gw_stable hS Tryd.func100 hw hl hG hx (ags' := [.c (.sl q l.length 6 (eW.F l)), .c (.op (.func (.func 101) #[] #[]))]) ⟨t1, D.eqv_refl _, trivial⟩ rfl (t100_101 q l) ?_
        exact mixed_wp hlen i3 false i4
      | true =>
        refine fokX_fin mixed gw_stable hS Tryd.func100 hw hl hG hx (ags' := [.c (.sl q l.length 6 (eW.F l)), .c (.op (.func (.func 102) #[] #[]))]) ⟨t1, D.eqv_refl _, trivial⟩ rfl (t100_102 q l) ?_
        exact mixed_wp hlen i3 true i4
    · cases hd
  · cases hd
theorem S100v : SumOK Tryd.prog G0 gw 100 (fokSm dom100) := fok_sum Tryd.func100 rfl C100v
end Go.Fl2
end

section
set_option linter.unusedVariables false
set_option linter.unusedSimpArgs false
set_option maxRecDepth 100000
namespace Go.Fl2
open Go.V Go.Fl Go.Proofs
def dom52 : DomF
  | [.c (.sl _ len st F)] => (match Nat.beq st 6 with
    | true => some ([eW.Is len F], [.agg (dsW (rMixed (eW.list len F)).1), rI (rMixed (eW.list len F)).2])
    | false => none)
  | _ => none
def v52 : Nat × Sm := (52, fokSm dom52)
theorem unl2 (a b : Bool) (e f : Int) (he : (e != 0) = true) (hf : (f != 0) = true) : M.first [M.unl a e, M.unl b f] = cond a (cond b 0 f) e := by
  cases a <;> cases b <;> simp [M.first, M.unl, he, hf]
theorem t52_err (n : Nat) : M.first [M.unl (decide ((n : Int) > 0)) 10, M.unl (decide ((n : Int) ≤ 8)) 8] = cond ((n : Int) == 0) 10 (cond (decide ((n : Int) > 8)) 8 0) := by
  rw [unl2 _ _ _ _ rfl rfl]
  by_cases h1 : n = 0
  · subst h1; rfl
  · rw [show decide ((n : Int) > 0) = true from decide_eq_true (by omega), show ((n : Int) == 0) = false from beq_eq_false_iff_ne.2 (by omega)]
    by_cases h2 : (n : Int) ≤ 8
    · rw [show decide ((n : Int) ≤ 8) = true from decide_eq_true h2, show decide ((n : Int) > 8) = false from decide_eq_false (by omega)]; rfl
    · rw [show decide ((n : Int) ≤ 8) = false from decide_eq_false h2, show decide ((n : Int) > 8) = true from decide_eq_true (by omega)]; rfl
theorem t52_err2 (n : Int) (h : 0 ≤ n) : M.first [M.unl (decide (n > 0)) 25, M.unl (decide (n ≤ 100000)) 8] = cond (n == 0) 25 (cond (decide (n > 100000)) 8 0) := by
  rw [unl2 _ _ _ _ rfl rfl]
  by_cases h1 : n = 0
  · subst h1; rfl
  · rw [show decide (n > 0) = true from decide_eq_true (by omega), show (n == 0) = false from beq_eq_false_iff_ne.2 (by omega)]
    by_cases h2 : n ≤ 100000
    · rw [show decide (n ≤ 100000) = true from decide_eq_true h2, show decide (n > 100000) = false from decide_eq_false (by omega)]; rfl
    · rw [show decide (n ≤ 100000) = false from decide_eq_false h2, show decide (n > 100000) = true from decide_eq_true (by omega)]; rfl
theorem t52 (q : Bool) (l : List M.Wine) : runFn Tryd.prog G0 (lookS [v76, v85, v21, v100]) [(6, [.slot 26 (.int .i64), .blk 2 [.int .i64, .int .i64, .int .i64, .int .i64, .int .i64, .int .i64], .blk 5 [.int .i64, .int .i64, .int .i64, .int .i64, .int .i64, .int .i64]], none)] 40 Tryd.f52 [.c (.sl q l.length 6 (eW.F l))] =
    T.br (M.first [M.unl (decide (Nat.cast (R := Int) (List.length l) > (0 : Int))) (10 : Int), M.unl (decide (Nat.cast (R := Int) (List.length l) ≤ (8 : Int))) (8 : Int)] != (0 : Int)) (T.ret [Ar.agg [D.int IntKind.i64 (0 : Int), D.int IntKind.i64 (0 : Int), D.int IntKind.i64 (0 : Int), D.int IntKind.i64 (0 : Int), D.int IntKind.i64 (0 : Int), D.int IntKind.i64 (0 : Int)], Ar.c (D.int IntKind.i64 (M.first [M.unl (decide (Nat.cast (R := Int) (List.length l) > (0 : Int))) (10 : Int), M.unl (decide (Nat.cast (R := Int) (List.length l) ≤ (8 : Int))) (8 : Int)]))])
  (T.loop (Int × Int × Int × Int × Int × Int × Int × Int × Int × Int × Int × Int × Int × PUnit) ((0 : Int), (0 : Int), (0 : Int), (0 : Int), (0 : Int), (0 : Int), (0 : Int), (0 : Int), (0 : Int), (0 : Int), (0 : Int), (0 : Int), (0 : Int), PUnit.unit) fun (x : Int × Int × Int × Int × Int × Int × Int × Int × Int × Int × Int × Int × Int × PUnit) =>
    T.br (decide (Prod.fst x < Nat.cast (R := Int) (List.length l))) (T.need ((0 : Int) ≤ Prod.fst x) (T.need (Prod.fst x < Nat.cast (R := Int) (List.length l)) (T.br (M.checkWine (List.getD l (Int.toNat (Prod.fst x)) { v0 := (0 : Int), v1 := (0 : Int), s0 := (0 : Int), s1 := (0 : Int), c0 := (0 : Int), c1 := (0 : Int) }) != (0 : Int)) (T.ret (Sum.inr [Ar.agg [D.int IntKind.i64 (0 : Int), D.int IntKind.i64 (0 : Int), D.int IntKind.i64 (0 : Int), D.int IntKind.i64 (0 : Int), D.int IntKind.i64 (0 : Int), D.int IntKind.i64 (0 : Int)], Ar.c (D.int IntKind.i64 (M.checkWine (List.getD l (Int.toNat (Prod.fst x)) { v0 := (0 : Int), v1 := (0 : Int), s0 := (0 : Int), s1 := (0 : Int), c0 := (0 : Int), c1 := (0 : Int) })))])) (T.ret (Sum.inl (IntKind.wrap IntKind.i64 (Prod.fst x + (1 : Int)), Prod.fst (Prod.snd x), Prod.fst (Prod.snd (Prod.snd x)), Prod.fst (Prod.snd (Prod.snd (Prod.snd x))), Prod.fst (Prod.snd (Prod.snd (Prod.snd (Prod.snd x)))), Prod.fst (Prod.snd (Prod.snd (Prod.snd (Prod.snd (Prod.snd x))))), Prod.fst (Prod.snd (Prod.snd (Prod.snd (Prod.snd (Prod.snd (Prod.snd x)))))), IntKind.wrap IntKind.i64 (Prod.fst (Prod.snd (Prod.snd (Prod.snd (Prod.snd (Prod.snd (Prod.snd (Prod.snd x))))))) + M.Wine.v0 (List.getD l (Int.toNat (Prod.fst x)) { v0 := (0 : Int), v1 := (0 : Int), s0 := (0 : Int), s1 := (0 : Int), c0 := (0 : Int), c1 := (0 : Int) })), IntKind.wrap IntKind.i64 (Prod.fst (Prod.snd (Prod.snd (Prod.snd (Prod.snd (Prod.snd (Prod.snd (Prod.snd (Prod.snd x)))))))) + M.Wine.v1 (List.getD l (Int.toNat (Prod.fst x)) { v0 := (0 : Int), v1 := (0 : Int), s0 := (0 : Int), s1 := (0 : Int), c0 := (0 : Int), c1 := (0 : Int) })), Prod.fst (Prod.snd (Prod.snd (Prod.snd (Prod.snd (Prod.snd (Prod.snd (Prod.snd (Prod.snd (Prod.snd x))))))))), Prod.fst (Prod.snd (Prod.snd (Prod.snd (Prod.snd (Prod.snd (Prod.snd (Prod.snd (Prod.snd (Prod.snd (Prod.snd x)))))))))), Prod.fst (Prod.snd (Prod.snd (Prod.snd (Prod.snd (Prod.snd (Prod.snd (Prod.snd (Prod.snd (Prod.snd (Prod.snd (Prod.snd x))))))))))), Prod.fst (Prod.snd (Prod.snd (Prod.snd (Prod.snd (Prod.snd (Prod.snd (Prod.snd (Prod.snd (Prod.snd (Prod.snd (Prod.snd (Prod.snd x)))))))))))), PUnit.unit))))))
      (T.br (M.first [M.unl (decide (Prod.fst (Prod.snd (Prod.snd (Prod.snd (Prod.snd (Prod.snd (Prod.snd (Prod.snd (Prod.snd x)))))))) > (0 : Int))) (25 : Int), M.unl (decide (Prod.fst (Prod.snd (Prod.snd (Prod.snd (Prod.snd (Prod.snd (Prod.snd (Prod.snd (Prod.snd x)))))))) ≤ (100000 : Int))) (8 : Int)] != (0 : Int)) (T.ret (Sum.inr [Ar.agg [D.int IntKind.i64 (0 : Int), D.int IntKind.i64 (0 : Int), D.int IntKind.i64 (0 : Int), D.int IntKind.i64 (0 : Int), D.int IntKind.i64 (0 : Int), D.int IntKind.i64 (0 : Int)], Ar.c (D.int IntKind.i64 (M.first [M.unl (decide (Prod.fst (Prod.snd (Prod.snd (Prod.snd (Prod.snd (Prod.snd (Prod.snd (Prod.snd (Prod.snd x)))))))) > (0 : Int))) (25 : Int), M.unl (decide (Prod.fst (Prod.snd (Prod.snd (Prod.snd (Prod.snd (Prod.snd (Prod.snd (Prod.snd (Prod.snd x)))))))) ≤ (100000 : Int))) (8 : Int)]))])) (T.need (Enc.Is eW (List.length l) (Enc.F eW l)) (T.need (List.length l ≤ (8 : Nat)) (T.need (okWs (Enc.list eW (List.length l) (Enc.F eW l))) (T.need ((0 : Int) < sumHi (Enc.list eW (List.length l) (Enc.F eW l))) (T.need (Enc.Is eW (List.length l) (Enc.F eW l)) (T.need (List.length l ≤ (8 : Nat)) (T.need (okWs (Enc.list eW (List.length l) (Enc.F eW l))) (T.need ((0 : Int) < sumHi (Enc.list eW (List.length l) (Enc.F eW l))) (T.ret (Sum.inr [Ar.agg [D.int IntKind.i64 (Prod.fst (Prod.snd (Prod.snd (Prod.snd (Prod.snd (Prod.snd (Prod.snd (Prod.snd x)))))))), D.int IntKind.i64 (Prod.fst (Prod.snd (Prod.snd (Prod.snd (Prod.snd (Prod.snd (Prod.snd (Prod.snd (Prod.snd x))))))))), D.int IntKind.i64 (M.Rg.lo (refMean (List.map M.Wine.v (Enc.list eW (List.length l) (Enc.F eW l))) (List.map (rgOf false) (Enc.list eW (List.length l) (Enc.F eW l))))), D.int IntKind.i64 (M.Rg.hi (refMean (List.map M.Wine.v (Enc.list eW (List.length l) (Enc.F eW l))) (List.map (rgOf false) (Enc.list eW (List.length l) (Enc.F eW l))))), D.int IntKind.i64 (M.Rg.lo (refMean (List.map M.Wine.v (Enc.list eW (List.length l) (Enc.F eW l))) (List.map (rgOf true) (Enc.list eW (List.length l) (Enc.F eW l))))), D.int IntKind.i64 (M.Rg.hi (refMean (List.map M.Wine.v (Enc.list eW (List.length l) (Enc.F eW l))) (List.map (rgOf true) (Enc.list eW (List.length l) (Enc.F eW l)))))], Ar.c (D.int IntKind.i64 (0 : Int))])))))))))))) := by kernel_rfl
theorem C52v : FOK Tryd.prog G0 gw 52 dom52 := by
  intro ags p r hd hp κ w xs hw hl hG hx
  unfold dom52 at hd
  split at hd
  · rename_i q len st F
    split at hd
    · rename_i hst
      have h1 := Nat.eq_of_beq_eq_true hst
      subst h1
      simp only [Option.some.injEq, Prod.mk.injEq] at hd
      obtain ⟨rfl, rfl⟩ := hd
      obtain ⟨hIs, _⟩ := hp
      have hto := eW.to (q := q) (q' := q) id hIs
      generalize eW.list len F = l at *
      refine fok_fin mixed gw_stable (sl := [v76, v85, v21, v100]) ⟨S76v, S85v, S21v, S100v, trivial⟩ Tryd.func52 hw hl hG hx (ags' := [.c (.sl q l.length 6 (eW.F l))]) ⟨hto, trivial⟩ rfl (t52 q l) ?_
      rw [t52_err]
      have hm : rMixed l = cond ((l.length : Int) == 0) (M.wine0, 10) (cond (decide ((l.length : Int) > 8)) (M.wine0, 8) (cond (rErr l != 0) (M.wine0, rErr l) (cond (sumHi l == 0) (M.wine0, 25) (cond (decide (sumHi l > 100000)) (M.wine0, 8) (rMix l, 0))))) := rfl
      cases he : ((l.length : Int) == 0) with
      | true =>
        rw [he, cond_true] at hm
        rw [hm, cond_true]
        exact ⟨fun _ => rsEqv_refl _, fun h => (by cases h)⟩
      | false =>
      cases he2 : decide ((l.length : Int) > 8) with
      | true =>
        rw [he, he2, cond_false, cond_true] at hm
        rw [hm, cond_false, cond_true]
        exact ⟨fun _ => rsEqv_refl _, fun h => (by cases h)⟩
      | false =>
      rw [he, he2, cond_false, cond_false] at hm
      rw [hm]
      have hpos : 0 < l.length := by have := beq_eq_false_iff_ne.1 he; omega
      have hn : l.length ≤ 8 := by have h9 : ¬ (l.length : Int) > 8 := of_decide_eq_false he2; omega
      clear hm he he2
      refine ⟨fun h => (by cases h), fun _ => ?_⟩
      refine ⟨fun x => ∃ j : Nat, x.1 = (j : Int) ∧ MixI l j x.2.2.2.2.2.2.2.1 x.2.2.2.2.2.2.2.2.1, fun x => l.length - x.1.toNat, ⟨0, rfl, ⟨by omega, by simp, by simp, by simp, by simp, by simp, fun w hw => by simp at hw⟩⟩, ?_⟩
      rintro ⟨i, o0, o1, o2, o3, o4, o5, a, b, x2, x3, x4, x5, u⟩ ⟨j, hj, mj⟩
      simp only at hj mj
      subst hj
      have jl := mj.le
      refine ⟨fun hlt => ?_, fun hge => ?_⟩
      · have hj' : j < l.length := by have h9 : (j : Int) < (l.length : Int) := of_decide_eq_true hlt; omega
        have hjI : (j : Int) < (l.length : Int) := by omega
        simp only [Int.toNat_natCast]
        refine ⟨by omega, hjI, fun hb => ?_, fun hb => ?_⟩
        · obtain ⟨e1, e2⟩ := mj.bad hj' (by rw [L.rCheckWine_eq]; exact hb)
          simp only [T.wp, LoopP]
          rw [e2, cond_true, e1, L.rCheckWine_eq]
          exact rsEqv_refl _
        · obtain ⟨s1, s2, m1⟩ := mj.step hj' hn (by rw [L.rCheckWine_eq]; exact hb)
          simp only [T.wp, LoopP]
          rw [sucW j (by omega)]
          refine ⟨⟨j + 1, rfl, ?_⟩, by simp only [Int.toNat_natCast]; omega⟩
          rw [← s1, ← s2] at m1
          exact m1
      · have hj' : j = l.length := by have h9 : ¬ (j : Int) < (l.length : Int) := of_decide_eq_false hge; omega
        subst hj'
        have h0 := mj.h0
        obtain ⟨rfl, rfl, e3, hok⟩ := mj.fin
        rw [t52_err2 _ h0.1, e3, eW.list_F]
        simp only [bne_self_eq_false, cond_false]
        cases hz : (sumHi l == 0) with
        | true =>
          simp only [cond_true]
          exact ⟨fun _ => rsEqv_refl _, fun h => (by cases h)⟩
        | false =>
        cases hz2 : decide (sumHi l > 100000) with
        | true =>
          simp only [cond_true, cond_false]
          exact ⟨fun _ => rsEqv_refl _, fun h => (by cases h)⟩
        | false =>
        simp only [cond_false]
        have hp : 0 < sumHi l := by have := beq_eq_false_iff_ne.1 hz; omega
        refine ⟨fun h => (by cases h), fun _ => ⟨eW.is_F _ _, hn, hok, hp, eW.is_F _ _, hn, hok, hp, ?_⟩⟩
        exact rsEqv_refl _
    · cases hd
  · cases hd
theorem S52v : SumOK Tryd.prog G0 gw 52 (fokSm dom52) := fok_sum Tryd.func52 rfl C52v
end Go.Fl2
end

section
set_option linter.unusedVariables false
set_option linter.unusedSimpArgs false
set_option maxRecDepth 100000
namespace Go.Fl2
open Go.V Go.Fl Go.Proofs
end Go.Fl2
end

section
set_option linter.unusedVariables false
set_option linter.unusedSimpArgs false
set_option maxRecDepth 100000
namespace Go.Fl2
open Go.V Go.Fl Go.Proofs
theorem within_of {n lo hi : Int} : M.within n lo hi = true ↔ lo ≤ n ∧ n ≤ hi := by
  unfold M.within
  by_cases h1 : lo ≤ n <;> by_cases h2 : n ≤ hi <;> simp [h1, h2]
end Go.Fl2
end

section
set_option linter.unusedVariables false
set_option linter.unusedSimpArgs false
set_option maxRecDepth 100000
namespace Go.Fl2
open Go.V Go.Fl Go.Proofs
end Go.Fl2
end

section
set_option linter.unusedVariables false
set_option linter.unusedSimpArgs false
set_option maxRecDepth 100000
namespace Go.Fl2
open Go.V Go.Fl Go.Proofs
/-- What is no greater than all means is no greater than the least one, rounded down. -/
theorem mean_lo_ge {l k : List M.Rg} (hl : l.length ≤ 8) (o1 : OkL l) (o2 : OkL k) (hn : ∃ d, d < 2 ^ l.length ∧ sumV l d ≠ 0) {q : Int} (h : ∀ d, q * sumV l d ≤ sumX false l k d) : q ≤ (refMean l k).lo := by
  have hr := refI l k (2 ^ l.length)
  unfold refMean
  generalize (List.range (2 ^ l.length)).foldl (mstep l k) (true, 0, 0) = r at *
  rcases hr with ⟨_, h6⟩ | ⟨_, ⟨f, f1, f2, f3⟩, h7, _, _⟩
  · obtain ⟨d, d1, d2⟩ := hn
    exact absurd (h6 d d1) d2
  · have b1 := sumV_bd f o1
    have b2 := sumX_bd (hi := false) f o1 o2
    show q ≤ r.2.1
    rw [f3, L.le_floor (by omega) (by omega) (by omega)]
    exact h f
theorem mean_hi_le {l k : List M.Rg} (hl : l.length ≤ 8) (o1 : OkL l) (o2 : OkL k) (hn : ∃ d, d < 2 ^ l.length ∧ sumV l d ≠ 0) {q : Int} (h : ∀ d, sumX true l k d ≤ q * sumV l d) : (refMean l k).hi ≤ q := by
  have hr := refI l k (2 ^ l.length)
  unfold refMean
  generalize (List.range (2 ^ l.length)).foldl (mstep l k) (true, 0, 0) = r at *
  rcases hr with ⟨_, h6⟩ | ⟨_, _, _, ⟨f, f1, f2, f3⟩, h7⟩
  · obtain ⟨d, d1, d2⟩ := hn
    exact absurd (h6 d d1) d2
  · have b1 := sumV_bd f o1
    have b2 := sumX_bd (hi := true) f o1 o2
    show r.2.2 ≤ q
    rw [f3, L.ceiling_le (by omega) (by omega) (by omega)]
    exact h f
theorem sumX_le {l k : List M.Rg} (h1 : OkL l) (h2 : ∀ r, r ∈ k → r.lo ≤ r.hi) : ∀ d, sumX false l k d ≤ sumX true l k d := by
  induction l generalizing k with
  | nil => intro d; exact Int.le_refl _
  | cons r l ih =>
    intro d
    cases k with
    | nil => exact Int.le_refl _
    | cons x k =>
      have b := vAt_bd (c := d) (h1 r (List.mem_cons_self ..))
      have g := h2 x (List.mem_cons_self ..)
      have := ih h1.tail (fun y hy => h2 y (List.mem_cons_of_mem _ hy)) (d / 2)
      have m := Int.mul_le_mul_of_nonneg_left g b.1
      simp only [sumX, cond_true, cond_false]
      omega
theorem mean_le {l k : List M.Rg} (hl : l.length ≤ 8) (o1 : OkL l) (o2 : OkL k) (h2 : ∀ r, r ∈ k → r.lo ≤ r.hi) (hn : ∃ d, d < 2 ^ l.length ∧ sumV l d ≠ 0) : (refMean l k).lo ≤ (refMean l k).hi := by
  have hr := refI l k (2 ^ l.length)
  unfold refMean
  generalize (List.range (2 ^ l.length)).foldl (mstep l k) (true, 0, 0) = r at *
  rcases hr with ⟨_, h6⟩ | ⟨_, _, h3, ⟨f, f1, f2, f3⟩, h7⟩
  · obtain ⟨d, d1, d2⟩ := hn
    exact absurd (h6 d d1) d2
  · have b1 := sumV_bd f o1
    have b2 := sumX_bd (hi := true) f o1 o2
    have b3 := sumX_bd (hi := false) f o1 o2
    have g := h3 f f1 f2
    show r.2.1 ≤ r.2.2
    rw [f3]
    refine Int.le_trans g ?_
    have k1 := L.floor_mul (b := sumV l f) (n := sumX false l k f) (by omega) (by omega) (by omega)
    have k2 := L.ceiling_mul (b := sumV l f) (n := sumX true l k f) (by omega) (by omega) (by omega)
    have k3 := sumX_le (k := k) o1 h2 f
    exact cancel (b := sumV l f) (by omega) (by omega)
theorem map_ok {l : List M.Wine} (h : okWs l) : OkL (l.map M.Wine.v) ∧ OkL (l.map M.Wine.s) ∧ OkL (l.map M.Wine.c) := okl_v h
theorem some_vol {l : List M.Wine} (hp : 0 < sumHi l) : ∃ d, d < 2 ^ (l.map M.Wine.v).length ∧ sumV (l.map M.Wine.v) d ≠ 0 := by
  have h0 : 0 < 2 ^ l.length := Nat.pow_pos (by decide)
  refine ⟨2 ^ l.length - 1, by rw [List.length_map]; omega, ?_⟩
  rw [sumV_eq, sV_all]; omega
theorem sumLo_le : ∀ {l : List M.Wine}, okWs l → 0 ≤ sumLo l ∧ sumLo l ≤ sumHi l
  | [], _ => by simp [sumLo, sumHi]
  | w :: l, h => by
    have o := h w (List.mem_cons_self ..)
    have := sumLo_le (l := l) (fun x hx => h x (List.mem_cons_of_mem _ hx))
    have w1 := o.v0; have w2 := o.v
    simp only [sumLo, sumHi]
    omega
theorem sumX_top {k : List M.Rg} (q : Int) (hk : ∀ r, r ∈ k → r.hi ≤ q) (hq : 0 ≤ q) : ∀ {l : List M.Rg}, OkL l → ∀ d, sumX true l k d ≤ q * sumV l d := by
  induction k with
  | nil =>
    intro l o d
    cases l with
    | nil => simp [sumX, sumV]
    | cons r l => have := sumV_bd d o; have := Int.mul_nonneg hq this.1; simpa [sumX] using this
  | cons x k ih =>
    intro l o d
    cases l with
    | nil => simp [sumX, sumV]
    | cons r l =>
      have b := vAt_bd (c := d) (o r (List.mem_cons_self ..))
      have g := hk x (List.mem_cons_self ..)
      have i := ih (fun y hy => hk y (List.mem_cons_of_mem _ hy)) o.tail (d / 2)
      have m := Int.mul_le_mul_of_nonneg_left g b.1
      simp only [sumX, sumV, cond_true, Int.mul_add]
      rw [Int.mul_comm q (vAt r d)]
      omega
/-- A mixture of right wines is right. -/
theorem rMix_ok {l : List M.Wine} (hl : l.length ≤ 8) (h : okWs l) (hp : 0 < sumHi l) (hm : sumHi l ≤ 100000) : L.OkW (rMix l) := by
  obtain ⟨k1, k2, k3⟩ := map_ok h
  have hn := some_vol hp
  have hl' : (l.map M.Wine.v).length ≤ 8 := by simpa using hl
  have hs := sumLo_le h
  have mem : ∀ (f : M.Wine → M.Rg) (p : M.Rg → Prop), (∀ w, L.OkW w → p (f w)) → ∀ r, r ∈ l.map f → p r := by
    intro f p hf r hr
    obtain ⟨w, hw, rfl⟩ := List.mem_map.1 hr
    exact hf w (h w hw)
  refine ⟨hs.1, hs.2, hm, ?_, ?_, ?_, ?_, ?_, ?_⟩
  · exact mean_lo_ge hl' k1 k2 hn fun d => by rw [Int.zero_mul]; exact (sumX_bd (hi := false) d k1 k2).1
  · exact mean_le hl' k1 k2 (mem _ _ fun w o => o.s) hn
  · exact mean_hi_le hl' k1 k2 hn (sumX_top 10000 (mem _ _ fun w o => o.s1) (by decide) k1)
  · exact mean_lo_ge hl' k1 k3 hn fun d => by rw [Int.zero_mul]; exact (sumX_bd (hi := false) d k1 k3).1
  · exact mean_le hl' k1 k3 (mem _ _ fun w o => o.c) hn
  · exact mean_hi_le hl' k1 k3 hn (sumX_top 100000 (mem _ _ fun w o => o.c1) (by decide) k1)
/-- What is told of the spirit. -/
structure Spirit (w : M.Wine) (x y lo hi : Int) : Prop where
  ok : L.OkW w
  x0 : 0 ≤ x
  x1 : x ≤ 10000
  y0 : 0 ≤ y
  yx : y < x
  l0 : 0 ≤ lo
  lh : lo ≤ hi
  h1 : hi ≤ 100000
  hiR : w.v1 * (y - w.s0) ≤ hi * (x - y)
  hiL : hi ≠ 0 → (hi - 1) * (x - y) < w.v1 * (y - w.s0)
  loR : w.v0 * (y - w.s1) ≤ lo * (x - y)
  loL : lo ≠ 0 → (lo - 1) * (x - y) < w.v0 * (y - w.s1)
end Go.Fl2
end

section
set_option linter.unusedVariables false
set_option linter.unusedSimpArgs false
set_option maxRecDepth 100000
namespace Go.Fl2
open Go.V Go.Fl Go.Proofs
end Go.Fl2
end

section
set_option linter.unusedVariables false
set_option linter.unusedSimpArgs false
set_option maxRecDepth 100000
namespace Go.Fl2
open Go.V Go.Fl Go.Proofs
structure Tr where
  v : Int
  s : Int
  c : Int
  wi : Int
  al : Int
def encT (s : Tr) : Nat → D
  | 0 => dI s.v
  | 1 => dI s.s
  | 2 => dI s.c
  | 3 => dI s.wi
  | _ => dI s.al
def eT : Enc Tr := ⟨5, encT, fun F => ⟨rdI F 0, rdI F 1, rdI F 2, rdI F 3, rdI F 4⟩, ⟨0, 0, 0, 0, 0⟩, fun _ => rfl⟩
theorem isI5t {len : Nat} (f : Nat → Nat → Int) : eT.Is len fun i j => .int .i64 (f i j) := by
  intro i j hi hj
  match j, hj with
  | 0, _ => rfl
  | 1, _ => rfl
  | 2, _ => rfl
  | 3, _ => rfl
  | 4, _ => rfl
  | j + 5, hj => exact absurd hj (by show ¬ j + 5 < 5; omega)
def v32 := bs 32 [.agg, .c] d32
def v33 := bs 33 [.c, .c, .agg] d33
def v56 := bs 56 [.c] d56
theorem S32v : SumOK Tryd.prog G0 gw 32 (fokSm (bdom [.agg, .c] d32)) := fok_sum Tryd.func32 rfl (bridge C32)
theorem S33v : SumOK Tryd.prog G0 gw 33 (fokSm (bdom [.c, .c, .agg] d33)) := fok_sum Tryd.func33 rfl (bridge C33)
theorem S56v : SumOK Tryd.prog G0 gw 56 (fokSm (bdom [.c] d56)) := fok_sum Tryd.func56 rfl (bridge C56)
end Go.Fl2
end

section
set_option linter.unusedVariables false
set_option linter.unusedSimpArgs false
set_option maxRecDepth 100000
namespace Go.Fl2
open Go.V Go.Fl Go.Proofs
/-- A choice of ends: its volume, its sum. -/
inductive Ch (val : M.Wine → Int) : List M.Wine → Int → Int → Prop where
  | nil : Ch val [] 0 0
  | cons {w : M.Wine} {l : List M.Wine} {e V S : Int} : (e = w.v0 ∨ e = w.v1) → Ch val l V S → Ch val (w :: l) (e + V) (e * val w + S)
variable {val : M.Wine → Int}
theorem ch_of : ∀ (l : List M.Wine) (d : Nat), Ch val l (sV l d) (sS val l d)
  | [], _ => .nil
  | w :: l, d => .cons (by unfold vEnd; split <;> simp) (ch_of l (d / 2))
theorem of_ch {l : List M.Wine} {V S : Int} (h : Ch val l V S) : ∃ d, d < 2 ^ l.length ∧ V = sV l d ∧ S = sS val l d := by
  induction h with
  | nil => exact ⟨0, by decide, rfl, rfl⟩
  | @cons w l e V S he _ ih =>
    obtain ⟨d, h1, h2, h3⟩ := ih
    rcases he with rfl | rfl
    · refine ⟨2 * d, by rw [List.length_cons, Nat.pow_succ]; omega, ?_, ?_⟩
      · simp only [sV, vEnd, if_neg (show ¬ 2 * d % 2 = 1 by omega), show 2 * d / 2 = d by omega, h2]
      · simp only [sS, vEnd, if_neg (show ¬ 2 * d % 2 = 1 by omega), show 2 * d / 2 = d by omega, h3]
    · refine ⟨2 * d + 1, by rw [List.length_cons, Nat.pow_succ]; omega, ?_, ?_⟩
      · simp only [sV, vEnd, if_pos (show (2 * d + 1) % 2 = 1 by omega), show (2 * d + 1) / 2 = d by omega, h2]
      · simp only [sS, vEnd, if_pos (show (2 * d + 1) % 2 = 1 by omega), show (2 * d + 1) / 2 = d by omega, h3]
theorem ch_app {l m : List M.Wine} {V S V' S' : Int} (h : Ch val l V S) (h' : Ch val m V' S') : Ch val (l ++ m) (V + V') (S + S') := by
  induction h with
  | nil => simpa using h'
  | cons he _ ih =>
    have := Ch.cons (val := val) he ih
    rw [← Int.add_assoc, ← Int.add_assoc] at this
    exact this
theorem ch_rev {l : List M.Wine} {V S : Int} (h : Ch val l V S) : Ch val l.reverse V S := by
  induction h with
  | nil => exact .nil
  | @cons w l e V S he _ ih =>
    rw [List.reverse_cons]
    have := ch_app ih (Ch.cons (val := val) (w := w) he .nil)
    rw [Int.add_comm V, Int.add_comm S] at this
    simpa using this
theorem ch_rev_iff {l : List M.Wine} {V S : Int} : Ch val l.reverse V S ↔ Ch val l V S := ⟨fun h => by have := ch_rev h; rwa [List.reverse_reverse] at this, ch_rev⟩
theorem ch_split : ∀ {l m : List M.Wine} {V S : Int}, Ch val (l ++ m) V S → ∃ V1 S1 V2 S2, Ch val l V1 S1 ∧ Ch val m V2 S2 ∧ V = V1 + V2 ∧ S = S1 + S2
  | [], m, V, S, h => ⟨0, 0, V, S, .nil, h, by simp, by simp⟩
  | w :: l, m, _, _, .cons he h => by
    obtain ⟨V1, S1, V2, S2, h1, h2, h3, h4⟩ := ch_split h
    exact ⟨_, _, V2, S2, .cons he h1, h2, by rw [h3, Int.add_assoc], by rw [h4, Int.add_assoc]⟩
/-- A wine without volume changes nothing. -/
theorem ch_more {l : List M.Wine} {w : M.Wine} (h0 : w.v0 = 0) (h1 : w.v1 = 0) {V S : Int} : Ch val (l ++ [w]) V S ↔ Ch val l V S := by
  constructor
  · intro h
    obtain ⟨V1, S1, V2, S2, g1, g2, rfl, rfl⟩ := ch_split h
    cases g2 with
    | @cons _ _ e V2 S2 he g2 =>
      cases g2
      have : e = 0 := by rcases he with rfl | rfl <;> assumption
      subst this
      simpa using g1
  · intro h
    have := ch_app h (Ch.cons (val := val) (w := w) (e := 0) (.inl h0.symm) .nil)
    simpa using this
theorem sumX_f (f : M.Wine → M.Rg) (hi : Bool) : ∀ (l : List M.Wine) (c : Nat), sumX hi (l.map M.Wine.v) (l.map f) c = sS (fun w => cond hi (f w).hi (f w).lo) l c
  | [], _ => rfl
  | w :: l, c => by simp only [List.map_cons, sumX, sS, sumX_f f hi l]; rfl
/-- The reference's mean, by its choices. -/
structure MeanC (f : M.Wine → M.Rg) (l : List M.Wine) (m : M.Rg) : Prop where
  lo : ∃ V S, Ch (fun w => (f w).lo) l V S ∧ V ≠ 0 ∧ m.lo = M.floor S V
  lo' : ∀ V S, Ch (fun w => (f w).lo) l V S → V ≠ 0 → m.lo ≤ M.floor S V
  hi : ∃ V S, Ch (fun w => (f w).hi) l V S ∧ V ≠ 0 ∧ m.hi = M.ceiling S V
  hi' : ∀ V S, Ch (fun w => (f w).hi) l V S → V ≠ 0 → M.ceiling S V ≤ m.hi
theorem meanC (f : M.Wine → M.Rg) {l : List M.Wine} (hn : ∃ d, d < 2 ^ l.length ∧ sV l d ≠ 0) : MeanC f l (refMean (l.map M.Wine.v) (l.map f)) := by
  have hr := refI (l.map M.Wine.v) (l.map f) (2 ^ (l.map M.Wine.v).length)
  have e0 : refMean (l.map M.Wine.v) (l.map f) = ⟨((List.range (2 ^ (l.map M.Wine.v).length)).foldl (mstep (l.map M.Wine.v) (l.map f)) (true, 0, 0)).2.1, ((List.range (2 ^ (l.map M.Wine.v).length)).foldl (mstep (l.map M.Wine.v) (l.map f)) (true, 0, 0)).2.2⟩ := rfl
  rw [e0]
  rw [List.length_map] at hr ⊢
  simp only [RefI, sumV_eq, sumX_f, cond_false, cond_true] at hr
  generalize (List.range (2 ^ l.length)).foldl (mstep (l.map M.Wine.v) (l.map f)) (true, 0, 0) = r at *
  rcases hr with ⟨_, h6⟩ | ⟨_, ⟨d, d1, d2, d3⟩, h3, ⟨e, e1, e2, e3⟩, h5⟩
  · obtain ⟨d, d1, d2⟩ := hn
    exact absurd (h6 d d1) d2
  · refine ⟨⟨_, _, ch_of l d, d2, d3⟩, fun V S h hv => ?_, ⟨_, _, ch_of l e, e2, e3⟩, fun V S h hv => ?_⟩
    · obtain ⟨g, g1, rfl, rfl⟩ := of_ch h
      exact h3 g g1 hv
    · obtain ⟨g, g1, rfl, rfl⟩ := of_ch h
      exact h5 g g1 hv
theorem meanC_eq {f : M.Wine → M.Rg} {l l' : List M.Wine} {m m' : M.Rg} (h : MeanC f l m) (h' : MeanC f l' m') (hc : ∀ (val : M.Wine → Int) V S, Ch val l V S ↔ Ch val l' V S) : m = m' := by
  obtain ⟨a, b⟩ := m
  obtain ⟨a', b'⟩ := m'
  obtain ⟨V, S, h1, h2, h3⟩ := h.lo
  obtain ⟨V', S', h1', h2', h3'⟩ := h'.lo
  obtain ⟨W, R, k1, k2, k3⟩ := h.hi
  obtain ⟨W', R', k1', k2', k3'⟩ := h'.hi
  have g1 := h.lo' _ _ ((hc _ _ _).2 h1') h2'
  have g2 := h'.lo' _ _ ((hc _ _ _).1 h1) h2
  have g3 := h.hi' _ _ ((hc _ _ _).2 k1') k2'
  have g4 := h'.hi' _ _ ((hc _ _ _).1 k1) k2
  simp only at *
  have e1 : a = a' := by omega
  have e2 : b = b' := by omega
  rw [e1, e2]
theorem sumLo_app : ∀ (l m : List M.Wine), sumLo (l ++ m) = sumLo l + sumLo m
  | [], m => by simp [sumLo]
  | w :: l, m => by simp only [List.cons_append, sumLo, sumLo_app l m]; omega
theorem sumHi_app : ∀ (l m : List M.Wine), sumHi (l ++ m) = sumHi l + sumHi m
  | [], m => by simp [sumHi]
  | w :: l, m => by simp only [List.cons_append, sumHi, sumHi_app l m]; omega
theorem sumLo_rev : ∀ (l : List M.Wine), sumLo l.reverse = sumLo l
  | [] => rfl
  | w :: l => by rw [List.reverse_cons, sumLo_app, sumLo_rev l]; simp only [sumLo]; omega
theorem sumHi_rev : ∀ (l : List M.Wine), sumHi l.reverse = sumHi l
  | [] => rfl
  | w :: l => by rw [List.reverse_cons, sumHi_app, sumHi_rev l]; simp only [sumHi]; omega
theorem rErr_ok : ∀ {l : List M.Wine}, okWs l → rErr l = 0
  | [], _ => rfl
  | w :: l, h => by
    simp only [rErr]
    rw [show M.rCheckWine w = 0 by rw [L.rCheckWine_eq]; exact L.checkWine_zero.2 (h w (List.mem_cons_self ..))]
    exact rErr_ok (l := l) fun x hx => h x (List.mem_cons_of_mem _ hx)
theorem vol_some {l : List M.Wine} (hp : 0 < sumHi l) : ∃ d, d < 2 ^ l.length ∧ sV l d ≠ 0 := by
  have h0 : 0 < 2 ^ l.length := Nat.pow_pos (by decide)
  exact ⟨2 ^ l.length - 1, by omega, by rw [sV_all]; omega⟩
/-- What Mixed tells of right wines. -/
theorem rMixed_ok {l : List M.Wine} (h0 : l.length ≠ 0) (hl : l.length ≤ 8) (h : okWs l) : rMixed l = cond (sumHi l == 0) (M.wine0, 25) (cond (decide (sumHi l > 100000)) (M.wine0, 8) (rMix l, 0)) := by
  unfold rMixed
  rw [show ((l.length : Int) == 0) = false from beq_eq_false_iff_ne.2 (by omega), show decide ((l.length : Int) > 8) = false from decide_eq_false (by omega), rErr_ok h]
  rfl
theorem rMixed_good {l : List M.Wine} (h0 : l.length ≠ 0) (hl : l.length ≤ 8) (h : okWs l) (he : (rMixed l).2 = 0) : 0 < sumHi l ∧ sumHi l ≤ 100000 ∧ rMixed l = (rMix l, 0) := by
  have hm := rMixed_ok h0 hl h
  rw [hm] at he ⊢
  have hs := sumLo_le h
  cases hz : (sumHi l == 0) with
  | true => rw [hz] at he; cases he
  | false =>
  cases hz2 : decide (sumHi l > 100000) with
  | true => rw [hz, hz2] at he; cases he
  | false =>
  have := beq_eq_false_iff_ne.1 hz
  have := of_decide_eq_false hz2
  exact ⟨by omega, by omega, rfl⟩
theorem rMixed_bad {l : List M.Wine} (h0 : l.length ≠ 0) (hl : l.length ≤ 8) (h : okWs l) (he : (rMixed l).2 ≠ 0) : (rMixed l).1 = M.wine0 := by
  have hm := rMixed_ok h0 hl h
  rw [hm] at he ⊢
  cases hz : (sumHi l == 0) with
  | true => rfl
  | false =>
  cases hz2 : decide (sumHi l > 100000) with
  | true => rfl
  | false => rw [hz, hz2] at he; exact absurd rfl he
theorem rMix_same {l l' : List M.Wine} (h1 : sumLo l' = sumLo l) (h2 : sumHi l' = sumHi l) (hp : 0 < sumHi l) (hc : ∀ (val : M.Wine → Int) V S, Ch val l V S ↔ Ch val l' V S) : rMix l' = rMix l := by
  have e1 := meanC_eq (meanC M.Wine.s (vol_some hp)) (meanC M.Wine.s (l := l') (vol_some (by omega))) hc
  have e2 := meanC_eq (meanC M.Wine.c (vol_some hp)) (meanC M.Wine.c (l := l') (vol_some (by omega))) hc
  unfold rMix
  rw [h1, h2, e1, e2]
theorem rMixed_rev {l : List M.Wine} (h0 : l.length ≠ 0) (hl : l.length ≤ 8) (h : okWs l) (he : (rMixed l).2 = 0) : rMixed l.reverse = rMixed l := by
  obtain ⟨g1, g2, g3⟩ := rMixed_good h0 hl h he
  have h' : okWs l.reverse := fun w hw => h w (List.mem_reverse.1 hw)
  rw [rMixed_ok (l := l.reverse) (by simpa using h0) (by simpa using hl) h', g3, sumHi_rev, show (sumHi l == 0) = false from beq_eq_false_iff_ne.2 (by omega), show decide (sumHi l > 100000) = false from decide_eq_false (by omega)]
  simp only [cond_false]
  rw [rMix_same (sumLo_rev l) (sumHi_rev l) g1 fun val V S => ch_rev_iff.symm]
theorem rMixed_more {l : List M.Wine} {w : M.Wine} (hw : L.OkW w) (w0 : w.v0 = 0) (w1 : w.v1 = 0) (h0 : l.length ≠ 0) (hl : l.length < 8) (h : okWs l) (he : (rMixed l).2 = 0) : rMixed (l ++ [w]) = rMixed l := by
  obtain ⟨g1, g2, g3⟩ := rMixed_good h0 (by omega) h he
  have h' : okWs (l ++ [w]) := by
    intro x hx
    rcases List.mem_append.1 hx with hx | hx
    · exact h x hx
    · simp only [List.mem_singleton] at hx; subst hx; exact hw
  have e1 : sumLo (l ++ [w]) = sumLo l := by rw [sumLo_app]; simp only [sumLo, w0]; omega
  have e2 : sumHi (l ++ [w]) = sumHi l := by rw [sumHi_app]; simp only [sumHi, w1]; omega
  rw [rMixed_ok (l := l ++ [w]) (by simp) (by simp; omega) h', g3, e2, show (sumHi l == 0) = false from beq_eq_false_iff_ne.2 (by omega), show decide (sumHi l > 100000) = false from decide_eq_false (by omega)]
  simp only [cond_false]
  rw [rMix_same e1 e2 g1 fun val V S => (ch_more w0 w1).symm]
/-- True wines: their volume, their sum. -/
inductive Mid (f : M.Wine → M.Rg) : List M.Wine → Int → Int → Prop where
  | nil : Mid f [] 0 0
  | cons {w : M.Wine} {l : List M.Wine} {v x V S : Int} : w.v0 ≤ v → v ≤ w.v1 → (f w).lo ≤ x → x ≤ (f w).hi → Mid f l V S → Mid f (w :: l) (v + V) (v * x + S)
theorem mid_snoc {f : M.Wine → M.Rg} {l : List M.Wine} {V S : Int} (h : Mid f l V S) {w : M.Wine} {v x : Int} (h1 : w.v0 ≤ v) (h2 : v ≤ w.v1) (h3 : (f w).lo ≤ x) (h4 : x ≤ (f w).hi) : Mid f (l ++ [w]) (V + v) (S + v * x) := by
  induction h with
  | nil => have := Mid.cons (f := f) h1 h2 h3 h4 .nil; simpa using this
  | cons g1 g2 g3 g4 _ ih =>
    have := Mid.cons (f := f) g1 g2 g3 g4 ih
    rw [← Int.add_assoc, ← Int.add_assoc] at this
    exact this
theorem mid_vol {f : M.Wine → M.Rg} {l : List M.Wine} {V S : Int} (h : Mid f l V S) : sumLo l ≤ V ∧ V ≤ sumHi l := by
  induction h with
  | nil => simp [sumLo, sumHi]
  | cons g1 g2 g3 g4 _ ih => simp only [sumLo, sumHi]; omega
theorem mid_lo {f : M.Wine → M.Rg} {l : List M.Wine} {V S : Int} (h : Mid f l V S) (ok : ∀ w, w ∈ l → 0 ≤ w.v0) (q : Int) : ∃ V' S', Ch (fun w => (f w).lo) l V' S' ∧ S' - q * V' ≤ S - q * V := by
  induction h with
  | nil => exact ⟨0, 0, .nil, by omega⟩
  | @cons w l v x V S g1 g2 g3 g4 _ ih =>
    obtain ⟨V', S', h1, h2⟩ := ih fun y hy => ok y (List.mem_cons_of_mem _ hy)
    have h0 := ok w (List.mem_cons_self ..)
    have k1 := Int.mul_le_mul_of_nonneg_left g3 (show 0 ≤ v by omega)
    by_cases hq : q ≤ (f w).lo
    · refine ⟨_, _, .cons (.inl rfl) h1, ?_⟩
      have k2 := Int.mul_le_mul_of_nonneg_right g1 (show 0 ≤ (f w).lo - q by omega)
      rw [Int.mul_sub, Int.mul_sub] at k2
      simp only [Int.mul_add]
      rw [Int.mul_comm q w.v0, Int.mul_comm q v]
      omega
    · refine ⟨_, _, .cons (.inr rfl) h1, ?_⟩
      have k2 := Int.mul_le_mul_of_nonneg_right g2 (show 0 ≤ q - (f w).lo by omega)
      rw [Int.mul_sub, Int.mul_sub] at k2
      simp only [Int.mul_add]
      rw [Int.mul_comm q w.v1, Int.mul_comm q v]
      omega
theorem mid_hi {f : M.Wine → M.Rg} {l : List M.Wine} {V S : Int} (h : Mid f l V S) (ok : ∀ w, w ∈ l → 0 ≤ w.v0) (q : Int) : ∃ V' S', Ch (fun w => (f w).hi) l V' S' ∧ S - q * V ≤ S' - q * V' := by
  induction h with
  | nil => exact ⟨0, 0, .nil, by omega⟩
  | @cons w l v x V S g1 g2 g3 g4 _ ih =>
    obtain ⟨V', S', h1, h2⟩ := ih fun y hy => ok y (List.mem_cons_of_mem _ hy)
    have h0 := ok w (List.mem_cons_self ..)
    have k1 := Int.mul_le_mul_of_nonneg_left g4 (show 0 ≤ v by omega)
    by_cases hq : q ≤ (f w).hi
    · refine ⟨_, _, .cons (.inr rfl) h1, ?_⟩
      have k2 := Int.mul_le_mul_of_nonneg_right g2 (show 0 ≤ (f w).hi - q by omega)
      rw [Int.mul_sub, Int.mul_sub] at k2
      simp only [Int.mul_add]
      rw [Int.mul_comm q w.v1, Int.mul_comm q v]
      omega
    · refine ⟨_, _, .cons (.inl rfl) h1, ?_⟩
      have k2 := Int.mul_le_mul_of_nonneg_right g1 (show 0 ≤ q - (f w).hi by omega)
      rw [Int.mul_sub, Int.mul_sub] at k2
      simp only [Int.mul_add]
      rw [Int.mul_comm q w.v0, Int.mul_comm q v]
      omega
theorem ch_bd {val : M.Wine → Int} {l : List M.Wine} {V S : Int} (h : Ch val l V S) (ok : OkV val l) : 0 ≤ V ∧ V ≤ l.length * 100000 ∧ 0 ≤ S ∧ S ≤ l.length * 10000000000 := by
  obtain ⟨d, _, rfl, rfl⟩ := of_ch h
  have h1 := sV_bd d ok
  have h2 := sS_bd d ok
  exact ⟨h1.1, h1.2, h2.1, h2.2⟩
/-- TRUE WINES mixed lie in what is told. -/
theorem mid_between {f : M.Wine → M.Rg} {l : List M.Wine} (hl : l.length ≤ 8) (ok : okWs l) (o1 : OkV (fun w => (f w).lo) l) (o2 : OkV (fun w => (f w).hi) l) (hp : 0 < sumHi l) {V S : Int} (h : Mid f l V S) :
    (refMean (l.map M.Wine.v) (l.map f)).lo * V ≤ S ∧ S ≤ (refMean (l.map M.Wine.v) (l.map f)).hi * V := by
  have m := meanC f (vol_some hp)
  generalize refMean (l.map M.Wine.v) (l.map f) = r at *
  have okv : ∀ w, w ∈ l → 0 ≤ w.v0 := fun w hw => (ok w hw).v0
  constructor
  · obtain ⟨V', S', h1, h2⟩ := mid_lo h okv r.lo
    have b := ch_bd h1 o1
    have : r.lo * V' ≤ S' := by
      by_cases hz : V' = 0
      · rw [hz, Int.mul_zero]; omega
      · exact (L.le_floor (by omega) (by omega) (by omega)).1 (m.lo' _ _ h1 hz)
    omega
  · obtain ⟨V', S', h1, h2⟩ := mid_hi h okv r.hi
    have b := ch_bd h1 o2
    have : S' ≤ r.hi * V' := by
      by_cases hz : V' = 0
      · have : S' ≤ 0 := by
          subst hz
          clear h2 h
          have key : ∀ {l : List M.Wine} {V S : Int}, Ch (fun w => (f w).hi) l V S → (∀ w, w ∈ l → 0 ≤ w.v0 ∧ w.v0 ≤ w.v1) → 0 ≤ V ∧ (V = 0 → S = 0) := by
            intro l V S h
            induction h with
            | nil => intro _; exact ⟨by omega, fun _ => rfl⟩
            | @cons w l e V S he _ ih =>
              intro ok
              have i := ih fun y hy => ok y (List.mem_cons_of_mem _ hy)
              have g := ok w (List.mem_cons_self ..)
              have he0 : 0 ≤ e := by rcases he with rfl | rfl <;> omega
              refine ⟨by omega, fun hv => ?_⟩
              have e1 : e = 0 := by omega
              have e2 : V = 0 := by omega
              rw [e1, i.2 e2]; simp
          have := (key h1 fun w hw => ⟨(ok w hw).v0, (ok w hw).v⟩).2 rfl
          omega
        rw [hz, Int.mul_zero]; exact this
      · exact (L.ceiling_le (by omega) (by omega) (by omega)).1 (m.hi' _ _ h1 hz)
    omega
end Go.Fl2
end

section
set_option linter.unusedVariables false
set_option linter.unusedSimpArgs false
set_option maxRecDepth 100000
namespace Go.Fl2
open Go.V Go.Fl Go.Proofs
theorem t13 (q q2 : Bool) (l : List M.Wine) (t : List Tr) : runFnX Tryd.prog G0 (lookS [v20, v22, v52, v32, v55, v33, v56]) (fun f => match Nat.beq f 13 with | true => [(6, [.slot 5 (.int .i64)], none), (16, [.slot 12 (.int .i64), .slot 8 (.int .i64), .slot 9 (.int .i64), .slot 10 (.int .i64), .slot 11 .nsl], some [.slot 12 (.int .i64), .slot 8 (.int .i64), .slot 9 (.int .i64), .slot 10 (.int .i64), .slot 11 (.rowE 25 eW)])] | false => []) [53] 1 60 3 13 Tryd.f13 [.c (.sl q l.length 6 (eW.F l)), .c (.sl q2 t.length 5 (eT.F t))] =
    T.br (!true) (T.ret [Ar.c (D.bool false)])
  (T.br (Nat.cast (R := Int) (List.length l) == (0 : Int)) (T.ret [Ar.c (D.bool true)])
    (T.br (decide (Nat.cast (R := Int) (List.length l) > (8 : Int))) (T.ret [Ar.c (D.bool true)])
      (T.br (decide (Nat.cast (R := Int) (List.length t) < Nat.cast (R := Int) (List.length l))) (T.ret [Ar.c (D.bool true)])
        (T.loop (Int × PUnit) ((0 : Int), PUnit.unit) fun (x : Int × PUnit) =>
          T.br (decide (Prod.fst x < Nat.cast (R := Int) (List.length l))) (T.need ((0 : Int) ≤ Prod.fst x) (T.need (Prod.fst x < Nat.cast (R := Int) (List.length l)) (T.br (M.rCheckWine (List.getD l (Int.toNat (Prod.fst x)) { v0 := (0 : Int), v1 := (0 : Int), s0 := (0 : Int), s1 := (0 : Int), c0 := (0 : Int), c1 := (0 : Int) }) != (0 : Int)) (T.ret (Sum.inr [Ar.c (D.bool true)])) (T.ret (Sum.inl (IntKind.wrap IntKind.i64 (Prod.fst x + (1 : Int)), PUnit.unit))))))
            (T.need ((0 : Nat) + List.length l ≤ (1000000 : Nat))
              (T.need ((0 : Nat) + List.length l ≤ (0 : Nat) + List.length l)
                (T.need (Enc.Is eW ((0 : Nat) + List.length l) (joinF (0 : Nat) (fun (i j : Nat) => List.getD [] (i * (6 : Nat) + j) D.nilp) (Enc.F eW l)))
                  (T.br (Prod.snd (rMixed (Enc.list eW ((0 : Nat) + List.length l) (joinF (0 : Nat) (fun (i j : Nat) => List.getD [] (i * (6 : Nat) + j) D.nilp) (Enc.F eW l)))) != (0 : Int)) (T.ret (Sum.inr [Ar.c (D.bool (M.Wine.v0 (Prod.fst (rMixed (Enc.list eW ((0 : Nat) + List.length l) (joinF (0 : Nat) (fun (i j : Nat) => List.getD [] (i * (6 : Nat) + j) D.nilp) (Enc.F eW l))))) == (0 : Int) && (M.Wine.v1 (Prod.fst (rMixed (Enc.list eW ((0 : Nat) + List.length l) (joinF (0 : Nat) (fun (i j : Nat) => List.getD [] (i * (6 : Nat) + j) D.nilp) (Enc.F eW l))))) == (0 : Int) && true) && (M.Wine.s0 (Prod.fst (rMixed (Enc.list eW ((0 : Nat) + List.length l) (joinF (0 : Nat) (fun (i j : Nat) => List.getD [] (i * (6 : Nat) + j) D.nilp) (Enc.F eW l))))) == (0 : Int) && (M.Wine.s1 (Prod.fst (rMixed (Enc.list eW ((0 : Nat) + List.length l) (joinF (0 : Nat) (fun (i j : Nat) => List.getD [] (i * (6 : Nat) + j) D.nilp) (Enc.F eW l))))) == (0 : Int) && true) && (M.Wine.c0 (Prod.fst (rMixed (Enc.list eW ((0 : Nat) + List.length l) (joinF (0 : Nat) (fun (i j : Nat) => List.getD [] (i * (6 : Nat) + j) D.nilp) (Enc.F eW l))))) == (0 : Int) && (M.Wine.c1 (Prod.fst (rMixed (Enc.list eW ((0 : Nat) + List.length l) (joinF (0 : Nat) (fun (i j : Nat) => List.getD [] (i * (6 : Nat) + j) D.nilp) (Enc.F eW l))))) == (0 : Int) && true) && true))))]))
                    (T.loop2 (Int × Int × Int × Int × PUnit × PUnit) (Int × Int × Int × Int × List M.Wine × PUnit) (Sum.inl ((0 : Int), (0 : Int), (0 : Int), (0 : Int), PUnit.unit, PUnit.unit))
                      (fun (x_1 : Int × Int × Int × Int × PUnit × PUnit) =>
                        T.br (decide (Prod.fst x_1 < Nat.cast (R := Int) (List.length l)))
                          (T.need ((0 : Int) ≤ Prod.fst x_1)
                            (T.need (Prod.fst x_1 < Nat.cast (R := Int) (List.length l))
                              (T.need ((0 : Int) ≤ Prod.fst x_1)
                                (T.need (Prod.fst x_1 < Nat.cast (R := Int) (List.length t))
                                  (T.need (M.W (M.W (M.Wine.v1 (List.getD l (Int.toNat (Prod.fst x_1)) { v0 := (0 : Int), v1 := (0 : Int), s0 := (0 : Int), s1 := (0 : Int), c0 := (0 : Int), c1 := (0 : Int) }) - M.Wine.v0 (List.getD l (Int.toNat (Prod.fst x_1)) { v0 := (0 : Int), v1 := (0 : Int), s0 := (0 : Int), s1 := (0 : Int), c0 := (0 : Int), c1 := (0 : Int) })) + (1 : Int)) ≠ (0 : Int))
                                    (T.need ((0 : Int) ≤ Prod.fst x_1)
                                      (T.need (Prod.fst x_1 < Nat.cast (R := Int) (List.length l))
                                        (T.need ((0 : Int) ≤ Prod.fst x_1)
                                          (T.need (Prod.fst x_1 < Nat.cast (R := Int) (List.length t))
                                            (T.need (M.W (M.W (M.Wine.s1 (List.getD l (Int.toNat (Prod.fst x_1)) { v0 := (0 : Int), v1 := (0 : Int), s0 := (0 : Int), s1 := (0 : Int), c0 := (0 : Int), c1 := (0 : Int) }) - M.Wine.s0 (List.getD l (Int.toNat (Prod.fst x_1)) { v0 := (0 : Int), v1 := (0 : Int), s0 := (0 : Int), s1 := (0 : Int), c0 := (0 : Int), c1 := (0 : Int) })) + (1 : Int)) ≠ (0 : Int))
                                              (T.need ((0 : Int) ≤ Prod.fst x_1)
                                                (T.need (Prod.fst x_1 < Nat.cast (R := Int) (List.length l))
                                                  (T.need ((0 : Int) ≤ Prod.fst x_1)
                                                    (T.need (Prod.fst x_1 < Nat.cast (R := Int) (List.length t))
                                                      (T.need (M.W (M.W (M.Wine.c1 (List.getD l (Int.toNat (Prod.fst x_1)) { v0 := (0 : Int), v1 := (0 : Int), s0 := (0 : Int), s1 := (0 : Int), c0 := (0 : Int), c1 := (0 : Int) }) - M.Wine.c0 (List.getD l (Int.toNat (Prod.fst x_1)) { v0 := (0 : Int), v1 := (0 : Int), s0 := (0 : Int), s1 := (0 : Int), c0 := (0 : Int), c1 := (0 : Int) })) + (1 : Int)) ≠ (0 : Int))
                                                        (T.need ((0 : Int) ≤ IntKind.wrap IntKind.i64 (IntKind.wrap IntKind.i64 (Nat.cast (R := Int) (List.length l) - (1 : Int)) - Prod.fst x_1))
                                                          (T.need (IntKind.wrap IntKind.i64 (IntKind.wrap IntKind.i64 (Nat.cast (R := Int) (List.length l) - (1 : Int)) - Prod.fst x_1) < Nat.cast (R := Int) (List.length l))
                                                            (T.need ((0 : Nat) + (1 : Nat) ≤ (1000000 : Nat))
                                                              (T.need (Enc.Is eW ((0 : Nat) + (1 : Nat)) (joinF (0 : Nat) (fun (x x_2 : Nat) => D.nilp) fun (i j : Nat) => List.getD [D.int IntKind.i64 (M.Wine.v0 (List.getD l (Int.toNat (IntKind.wrap IntKind.i64 (IntKind.wrap IntKind.i64 (Nat.cast (R := Int) (List.length l) - (1 : Int)) - Prod.fst x_1))) { v0 := (0 : Int), v1 := (0 : Int), s0 := (0 : Int), s1 := (0 : Int), c0 := (0 : Int), c1 := (0 : Int) })), D.int IntKind.i64 (M.Wine.v1 (List.getD l (Int.toNat (IntKind.wrap IntKind.i64 (IntKind.wrap IntKind.i64 (Nat.cast (R := Int) (List.length l) - (1 : Int)) - Prod.fst x_1))) { v0 := (0 : Int), v1 := (0 : Int), s0 := (0 : Int), s1 := (0 : Int), c0 := (0 : Int), c1 := (0 : Int) })), D.int IntKind.i64 (M.Wine.s0 (List.getD l (Int.toNat (IntKind.wrap IntKind.i64 (IntKind.wrap IntKind.i64 (Nat.cast (R := Int) (List.length l) - (1 : Int)) - Prod.fst x_1))) { v0 := (0 : Int), v1 := (0 : Int), s0 := (0 : Int), s1 := (0 : Int), c0 := (0 : Int), c1 := (0 : Int) })), D.int IntKind.i64 (M.Wine.s1 (List.getD l (Int.toNat (IntKind.wrap IntKind.i64 (IntKind.wrap IntKind.i64 (Nat.cast (R := Int) (List.length l) - (1 : Int)) - Prod.fst x_1))) { v0 := (0 : Int), v1 := (0 : Int), s0 := (0 : Int), s1 := (0 : Int), c0 := (0 : Int), c1 := (0 : Int) })), D.int IntKind.i64 (M.Wine.c0 (List.getD l (Int.toNat (IntKind.wrap IntKind.i64 (IntKind.wrap IntKind.i64 (Nat.cast (R := Int) (List.length l) - (1 : Int)) - Prod.fst x_1))) { v0 := (0 : Int), v1 := (0 : Int), s0 := (0 : Int), s1 := (0 : Int), c0 := (0 : Int), c1 := (0 : Int) })), D.int IntKind.i64 (M.Wine.c1 (List.getD l (Int.toNat (IntKind.wrap IntKind.i64 (IntKind.wrap IntKind.i64 (Nat.cast (R := Int) (List.length l) - (1 : Int)) - Prod.fst x_1))) { v0 := (0 : Int), v1 := (0 : Int), s0 := (0 : Int), s1 := (0 : Int), c0 := (0 : Int), c1 := (0 : Int) }))] (i * (6 : Nat) + j) D.nilp))
                                                                (T.need ((0 : Nat) + (1 : Nat) ≤ (0 : Nat) + (1 : Nat))
                                                                  (T.ret
                                                                    (Sum.inl
                                                                      (Sum.inr
                                                                        (IntKind.wrap IntKind.i64 (Prod.fst x_1 + (1 : Int)), IntKind.wrap IntKind.i64 (Prod.fst (Prod.snd x_1) + M.pick { lo := M.Wine.v0 (List.getD l (Int.toNat (Prod.fst x_1)) { v0 := (0 : Int), v1 := (0 : Int), s0 := (0 : Int), s1 := (0 : Int), c0 := (0 : Int), c1 := (0 : Int) }), hi := M.Wine.v1 (List.getD l (Int.toNat (Prod.fst x_1)) { v0 := (0 : Int), v1 := (0 : Int), s0 := (0 : Int), s1 := (0 : Int), c0 := (0 : Int), c1 := (0 : Int) }) } (List.getD t (Int.toNat (Prod.fst x_1)) (Enc.dflt eT)).1), IntKind.wrap IntKind.i64 (Prod.fst (Prod.snd (Prod.snd x_1)) + IntKind.wrap IntKind.i64 (M.pick { lo := M.Wine.v0 (List.getD l (Int.toNat (Prod.fst x_1)) { v0 := (0 : Int), v1 := (0 : Int), s0 := (0 : Int), s1 := (0 : Int), c0 := (0 : Int), c1 := (0 : Int) }), hi := M.Wine.v1 (List.getD l (Int.toNat (Prod.fst x_1)) { v0 := (0 : Int), v1 := (0 : Int), s0 := (0 : Int), s1 := (0 : Int), c0 := (0 : Int), c1 := (0 : Int) }) } (List.getD t (Int.toNat (Prod.fst x_1)) (Enc.dflt eT)).1 * M.pick { lo := M.Wine.s0 (List.getD l (Int.toNat (Prod.fst x_1)) { v0 := (0 : Int), v1 := (0 : Int), s0 := (0 : Int), s1 := (0 : Int), c0 := (0 : Int), c1 := (0 : Int) }), hi := M.Wine.s1 (List.getD l (Int.toNat (Prod.fst x_1)) { v0 := (0 : Int), v1 := (0 : Int), s0 := (0 : Int), s1 := (0 : Int), c0 := (0 : Int), c1 := (0 : Int) }) } (List.getD t (Int.toNat (Prod.fst x_1)) (Enc.dflt eT)).2)), IntKind.wrap IntKind.i64 (Prod.fst (Prod.snd (Prod.snd (Prod.snd x_1))) + IntKind.wrap IntKind.i64 (M.pick { lo := M.Wine.v0 (List.getD l (Int.toNat (Prod.fst x_1)) { v0 := (0 : Int), v1 := (0 : Int), s0 := (0 : Int), s1 := (0 : Int), c0 := (0 : Int), c1 := (0 : Int) }), hi := M.Wine.v1 (List.getD l (Int.toNat (Prod.fst x_1)) { v0 := (0 : Int), v1 := (0 : Int), s0 := (0 : Int), s1 := (0 : Int), c0 := (0 : Int), c1 := (0 : Int) }) } (List.getD t (Int.toNat (Prod.fst x_1)) (Enc.dflt eT)).1 * M.pick { lo := M.Wine.c0 (List.getD l (Int.toNat (Prod.fst x_1)) { v0 := (0 : Int), v1 := (0 : Int), s0 := (0 : Int), s1 := (0 : Int), c0 := (0 : Int), c1 := (0 : Int) }), hi := M.Wine.c1 (List.getD l (Int.toNat (Prod.fst x_1)) { v0 := (0 : Int), v1 := (0 : Int), s0 := (0 : Int), s1 := (0 : Int), c0 := (0 : Int), c1 := (0 : Int) }) } (List.getD t (Int.toNat (Prod.fst x_1)) (Enc.dflt eT)).3)),
                                                                          Enc.list eW ((0 : Nat) + (1 : Nat)) (joinF (0 : Nat) (fun (x x_2 : Nat) => D.nilp) fun (i j : Nat) => List.getD [D.int IntKind.i64 (M.Wine.v0 (List.getD l (Int.toNat (IntKind.wrap IntKind.i64 (IntKind.wrap IntKind.i64 (Nat.cast (R := Int) (List.length l) - (1 : Int)) - Prod.fst x_1))) { v0 := (0 : Int), v1 := (0 : Int), s0 := (0 : Int), s1 := (0 : Int), c0 := (0 : Int), c1 := (0 : Int) })), D.int IntKind.i64 (M.Wine.v1 (List.getD l (Int.toNat (IntKind.wrap IntKind.i64 (IntKind.wrap IntKind.i64 (Nat.cast (R := Int) (List.length l) - (1 : Int)) - Prod.fst x_1))) { v0 := (0 : Int), v1 := (0 : Int), s0 := (0 : Int), s1 := (0 : Int), c0 := (0 : Int), c1 := (0 : Int) })), D.int IntKind.i64 (M.Wine.s0 (List.getD l (Int.toNat (IntKind.wrap IntKind.i64 (IntKind.wrap IntKind.i64 (Nat.cast (R := Int) (List.length l) - (1 : Int)) - Prod.fst x_1))) { v0 := (0 : Int), v1 := (0 : Int), s0 := (0 : Int), s1 := (0 : Int), c0 := (0 : Int), c1 := (0 : Int) })), D.int IntKind.i64 (M.Wine.s1 (List.getD l (Int.toNat (IntKind.wrap IntKind.i64 (IntKind.wrap IntKind.i64 (Nat.cast (R := Int) (List.length l) - (1 : Int)) - Prod.fst x_1))) { v0 := (0 : Int), v1 := (0 : Int), s0 := (0 : Int), s1 := (0 : Int), c0 := (0 : Int), c1 := (0 : Int) })), D.int IntKind.i64 (M.Wine.c0 (List.getD l (Int.toNat (IntKind.wrap IntKind.i64 (IntKind.wrap IntKind.i64 (Nat.cast (R := Int) (List.length l) - (1 : Int)) - Prod.fst x_1))) { v0 := (0 : Int), v1 := (0 : Int), s0 := (0 : Int), s1 := (0 : Int), c0 := (0 : Int), c1 := (0 : Int) })), D.int IntKind.i64 (M.Wine.c1 (List.getD l (Int.toNat (IntKind.wrap IntKind.i64 (IntKind.wrap IntKind.i64 (Nat.cast (R := Int) (List.length l) - (1 : Int)) - Prod.fst x_1))) { v0 := (0 : Int), v1 := (0 : Int), s0 := (0 : Int), s1 := (0 : Int), c0 := (0 : Int), c1 := (0 : Int) }))] (i * (6 : Nat) + j) D.nilp), PUnit.unit))))))))))))))))))))))))
                          T.fail)
                      fun (y : Int × Int × Int × Int × List M.Wine × PUnit) =>
                      T.br (decide (Prod.fst y < Nat.cast (R := Int) (List.length l)))
                        (T.need ((0 : Int) ≤ Prod.fst y)
                          (T.need (Prod.fst y < Nat.cast (R := Int) (List.length l))
                            (T.need ((0 : Int) ≤ Prod.fst y)
                              (T.need (Prod.fst y < Nat.cast (R := Int) (List.length t))
                                (T.need (M.W (M.W (M.Wine.v1 (List.getD l (Int.toNat (Prod.fst y)) { v0 := (0 : Int), v1 := (0 : Int), s0 := (0 : Int), s1 := (0 : Int), c0 := (0 : Int), c1 := (0 : Int) }) - M.Wine.v0 (List.getD l (Int.toNat (Prod.fst y)) { v0 := (0 : Int), v1 := (0 : Int), s0 := (0 : Int), s1 := (0 : Int), c0 := (0 : Int), c1 := (0 : Int) })) + (1 : Int)) ≠ (0 : Int))
                                  (T.need ((0 : Int) ≤ Prod.fst y)
                                    (T.need (Prod.fst y < Nat.cast (R := Int) (List.length l))
                                      (T.need ((0 : Int) ≤ Prod.fst y)
                                        (T.need (Prod.fst y < Nat.cast (R := Int) (List.length t))
                                          (T.need (M.W (M.W (M.Wine.s1 (List.getD l (Int.toNat (Prod.fst y)) { v0 := (0 : Int), v1 := (0 : Int), s0 := (0 : Int), s1 := (0 : Int), c0 := (0 : Int), c1 := (0 : Int) }) - M.Wine.s0 (List.getD l (Int.toNat (Prod.fst y)) { v0 := (0 : Int), v1 := (0 : Int), s0 := (0 : Int), s1 := (0 : Int), c0 := (0 : Int), c1 := (0 : Int) })) + (1 : Int)) ≠ (0 : Int))
                                            (T.need ((0 : Int) ≤ Prod.fst y)
                                              (T.need (Prod.fst y < Nat.cast (R := Int) (List.length l))
                                                (T.need ((0 : Int) ≤ Prod.fst y)
                                                  (T.need (Prod.fst y < Nat.cast (R := Int) (List.length t))
                                                    (T.need (M.W (M.W (M.Wine.c1 (List.getD l (Int.toNat (Prod.fst y)) { v0 := (0 : Int), v1 := (0 : Int), s0 := (0 : Int), s1 := (0 : Int), c0 := (0 : Int), c1 := (0 : Int) }) - M.Wine.c0 (List.getD l (Int.toNat (Prod.fst y)) { v0 := (0 : Int), v1 := (0 : Int), s0 := (0 : Int), s1 := (0 : Int), c0 := (0 : Int), c1 := (0 : Int) })) + (1 : Int)) ≠ (0 : Int))
                                                      (T.need ((0 : Int) ≤ IntKind.wrap IntKind.i64 (IntKind.wrap IntKind.i64 (Nat.cast (R := Int) (List.length l) - (1 : Int)) - Prod.fst y))
                                                        (T.need (IntKind.wrap IntKind.i64 (IntKind.wrap IntKind.i64 (Nat.cast (R := Int) (List.length l) - (1 : Int)) - Prod.fst y) < Nat.cast (R := Int) (List.length l))
                                                          (T.need (List.length (Prod.fst (Prod.snd (Prod.snd (Prod.snd (Prod.snd y))))) + (1 : Nat) ≤ (1000000 : Nat))
                                                            (T.need (List.length (Prod.fst (Prod.snd (Prod.snd (Prod.snd (Prod.snd y))))) ≤ List.length (Prod.fst (Prod.snd (Prod.snd (Prod.snd (Prod.snd y))))))
                                                              (T.need (Enc.Is eW (List.length (Prod.fst (Prod.snd (Prod.snd (Prod.snd (Prod.snd y))))) + (1 : Nat)) (joinF (List.length (Prod.fst (Prod.snd (Prod.snd (Prod.snd (Prod.snd y)))))) (Enc.F eW (Prod.fst (Prod.snd (Prod.snd (Prod.snd (Prod.snd y)))))) fun (i j : Nat) => List.getD [D.int IntKind.i64 (M.Wine.v0 (List.getD l (Int.toNat (IntKind.wrap IntKind.i64 (IntKind.wrap IntKind.i64 (Nat.cast (R := Int) (List.length l) - (1 : Int)) - Prod.fst y))) { v0 := (0 : Int), v1 := (0 : Int), s0 := (0 : Int), s1 := (0 : Int), c0 := (0 : Int), c1 := (0 : Int) })), D.int IntKind.i64 (M.Wine.v1 (List.getD l (Int.toNat (IntKind.wrap IntKind.i64 (IntKind.wrap IntKind.i64 (Nat.cast (R := Int) (List.length l) - (1 : Int)) - Prod.fst y))) { v0 := (0 : Int), v1 := (0 : Int), s0 := (0 : Int), s1 := (0 : Int), c0 := (0 : Int), c1 := (0 : Int) })), D.int IntKind.i64 (M.Wine.s0 (List.getD l (Int.toNat (IntKind.wrap IntKind.i64 (IntKind.wrap IntKind.i64 (Nat.cast (R := Int) (List.length l) - (1 : Int)) - Prod.fst y))) { v0 := (0 : Int), v1 := (0 : Int), s0 := (0 : Int), s1 := (0 : Int), c0 := (0 : Int), c1 := (0 : Int) })), D.int IntKind.i64 (M.Wine.s1 (List.getD l (Int.toNat (IntKind.wrap IntKind.i64 (IntKind.wrap IntKind.i64 (Nat.cast (R := Int) (List.length l) - (1 : Int)) - Prod.fst y))) { v0 := (0 : Int), v1 := (0 : Int), s0 := (0 : Int), s1 := (0 : Int), c0 := (0 : Int), c1 := (0 : Int) })), D.int IntKind.i64 (M.Wine.c0 (List.getD l (Int.toNat (IntKind.wrap IntKind.i64 (IntKind.wrap IntKind.i64 (Nat.cast (R := Int) (List.length l) - (1 : Int)) - Prod.fst y))) { v0 := (0 : Int), v1 := (0 : Int), s0 := (0 : Int), s1 := (0 : Int), c0 := (0 : Int), c1 := (0 : Int) })), D.int IntKind.i64 (M.Wine.c1 (List.getD l (Int.toNat (IntKind.wrap IntKind.i64 (IntKind.wrap IntKind.i64 (Nat.cast (R := Int) (List.length l) - (1 : Int)) - Prod.fst y))) { v0 := (0 : Int), v1 := (0 : Int), s0 := (0 : Int), s1 := (0 : Int), c0 := (0 : Int), c1 := (0 : Int) }))] (i * (6 : Nat) + j) D.nilp))
                                                                (T.need (List.length (Prod.fst (Prod.snd (Prod.snd (Prod.snd (Prod.snd y))))) + (1 : Nat) ≤ List.length (Prod.fst (Prod.snd (Prod.snd (Prod.snd (Prod.snd y))))) + (1 : Nat))
                                                                  (T.ret
                                                                    (Sum.inl
                                                                      (Sum.inr
                                                                        (IntKind.wrap IntKind.i64 (Prod.fst y + (1 : Int)), IntKind.wrap IntKind.i64 (Prod.fst (Prod.snd y) + M.pick { lo := M.Wine.v0 (List.getD l (Int.toNat (Prod.fst y)) { v0 := (0 : Int), v1 := (0 : Int), s0 := (0 : Int), s1 := (0 : Int), c0 := (0 : Int), c1 := (0 : Int) }), hi := M.Wine.v1 (List.getD l (Int.toNat (Prod.fst y)) { v0 := (0 : Int), v1 := (0 : Int), s0 := (0 : Int), s1 := (0 : Int), c0 := (0 : Int), c1 := (0 : Int) }) } (List.getD t (Int.toNat (Prod.fst y)) (Enc.dflt eT)).1), IntKind.wrap IntKind.i64 (Prod.fst (Prod.snd (Prod.snd y)) + IntKind.wrap IntKind.i64 (M.pick { lo := M.Wine.v0 (List.getD l (Int.toNat (Prod.fst y)) { v0 := (0 : Int), v1 := (0 : Int), s0 := (0 : Int), s1 := (0 : Int), c0 := (0 : Int), c1 := (0 : Int) }), hi := M.Wine.v1 (List.getD l (Int.toNat (Prod.fst y)) { v0 := (0 : Int), v1 := (0 : Int), s0 := (0 : Int), s1 := (0 : Int), c0 := (0 : Int), c1 := (0 : Int) }) } (List.getD t (Int.toNat (Prod.fst y)) (Enc.dflt eT)).1 * M.pick { lo := M.Wine.s0 (List.getD l (Int.toNat (Prod.fst y)) { v0 := (0 : Int), v1 := (0 : Int), s0 := (0 : Int), s1 := (0 : Int), c0 := (0 : Int), c1 := (0 : Int) }), hi := M.Wine.s1 (List.getD l (Int.toNat (Prod.fst y)) { v0 := (0 : Int), v1 := (0 : Int), s0 := (0 : Int), s1 := (0 : Int), c0 := (0 : Int), c1 := (0 : Int) }) } (List.getD t (Int.toNat (Prod.fst y)) (Enc.dflt eT)).2)), IntKind.wrap IntKind.i64 (Prod.fst (Prod.snd (Prod.snd (Prod.snd y))) + IntKind.wrap IntKind.i64 (M.pick { lo := M.Wine.v0 (List.getD l (Int.toNat (Prod.fst y)) { v0 := (0 : Int), v1 := (0 : Int), s0 := (0 : Int), s1 := (0 : Int), c0 := (0 : Int), c1 := (0 : Int) }), hi := M.Wine.v1 (List.getD l (Int.toNat (Prod.fst y)) { v0 := (0 : Int), v1 := (0 : Int), s0 := (0 : Int), s1 := (0 : Int), c0 := (0 : Int), c1 := (0 : Int) }) } (List.getD t (Int.toNat (Prod.fst y)) (Enc.dflt eT)).1 * M.pick { lo := M.Wine.c0 (List.getD l (Int.toNat (Prod.fst y)) { v0 := (0 : Int), v1 := (0 : Int), s0 := (0 : Int), s1 := (0 : Int), c0 := (0 : Int), c1 := (0 : Int) }), hi := M.Wine.c1 (List.getD l (Int.toNat (Prod.fst y)) { v0 := (0 : Int), v1 := (0 : Int), s0 := (0 : Int), s1 := (0 : Int), c0 := (0 : Int), c1 := (0 : Int) }) } (List.getD t (Int.toNat (Prod.fst y)) (Enc.dflt eT)).3)),
                                                                          Enc.list eW (List.length (Prod.fst (Prod.snd (Prod.snd (Prod.snd (Prod.snd y))))) + (1 : Nat)) (joinF (List.length (Prod.fst (Prod.snd (Prod.snd (Prod.snd (Prod.snd y)))))) (Enc.F eW (Prod.fst (Prod.snd (Prod.snd (Prod.snd (Prod.snd y)))))) fun (i j : Nat) => List.getD [D.int IntKind.i64 (M.Wine.v0 (List.getD l (Int.toNat (IntKind.wrap IntKind.i64 (IntKind.wrap IntKind.i64 (Nat.cast (R := Int) (List.length l) - (1 : Int)) - Prod.fst y))) { v0 := (0 : Int), v1 := (0 : Int), s0 := (0 : Int), s1 := (0 : Int), c0 := (0 : Int), c1 := (0 : Int) })), D.int IntKind.i64 (M.Wine.v1 (List.getD l (Int.toNat (IntKind.wrap IntKind.i64 (IntKind.wrap IntKind.i64 (Nat.cast (R := Int) (List.length l) - (1 : Int)) - Prod.fst y))) { v0 := (0 : Int), v1 := (0 : Int), s0 := (0 : Int), s1 := (0 : Int), c0 := (0 : Int), c1 := (0 : Int) })), D.int IntKind.i64 (M.Wine.s0 (List.getD l (Int.toNat (IntKind.wrap IntKind.i64 (IntKind.wrap IntKind.i64 (Nat.cast (R := Int) (List.length l) - (1 : Int)) - Prod.fst y))) { v0 := (0 : Int), v1 := (0 : Int), s0 := (0 : Int), s1 := (0 : Int), c0 := (0 : Int), c1 := (0 : Int) })), D.int IntKind.i64 (M.Wine.s1 (List.getD l (Int.toNat (IntKind.wrap IntKind.i64 (IntKind.wrap IntKind.i64 (Nat.cast (R := Int) (List.length l) - (1 : Int)) - Prod.fst y))) { v0 := (0 : Int), v1 := (0 : Int), s0 := (0 : Int), s1 := (0 : Int), c0 := (0 : Int), c1 := (0 : Int) })), D.int IntKind.i64 (M.Wine.c0 (List.getD l (Int.toNat (IntKind.wrap IntKind.i64 (IntKind.wrap IntKind.i64 (Nat.cast (R := Int) (List.length l) - (1 : Int)) - Prod.fst y))) { v0 := (0 : Int), v1 := (0 : Int), s0 := (0 : Int), s1 := (0 : Int), c0 := (0 : Int), c1 := (0 : Int) })), D.int IntKind.i64 (M.Wine.c1 (List.getD l (Int.toNat (IntKind.wrap IntKind.i64 (IntKind.wrap IntKind.i64 (Nat.cast (R := Int) (List.length l) - (1 : Int)) - Prod.fst y))) { v0 := (0 : Int), v1 := (0 : Int), s0 := (0 : Int), s1 := (0 : Int), c0 := (0 : Int), c1 := (0 : Int) }))] (i * (6 : Nat) + j) D.nilp), PUnit.unit)))))))))))))))))))))))))
                        (T.need (List.length (Prod.fst (Prod.snd (Prod.snd (Prod.snd (Prod.snd y))))) ≤ List.length (Prod.fst (Prod.snd (Prod.snd (Prod.snd (Prod.snd y))))))
                          (T.need (Enc.Is eW (List.length (Prod.fst (Prod.snd (Prod.snd (Prod.snd (Prod.snd y)))))) (Enc.F eW (Prod.fst (Prod.snd (Prod.snd (Prod.snd (Prod.snd y)))))))
                            (T.br (Prod.snd (rMixed (Enc.list eW (List.length (Prod.fst (Prod.snd (Prod.snd (Prod.snd (Prod.snd y)))))) (Enc.F eW (Prod.fst (Prod.snd (Prod.snd (Prod.snd (Prod.snd y)))))))) != (0 : Int)) (T.ret (Sum.inr (Sum.inr [Ar.c (D.bool false)])))
                              (T.br (!(M.Wine.v0 (Prod.fst (rMixed (Enc.list eW ((0 : Nat) + List.length l) (joinF (0 : Nat) (fun (i j : Nat) => List.getD [] (i * (6 : Nat) + j) D.nilp) (Enc.F eW l))))) == M.Wine.v0 (Prod.fst (rMixed (Enc.list eW (List.length (Prod.fst (Prod.snd (Prod.snd (Prod.snd (Prod.snd y)))))) (Enc.F eW (Prod.fst (Prod.snd (Prod.snd (Prod.snd (Prod.snd y))))))))) && (M.Wine.v1 (Prod.fst (rMixed (Enc.list eW ((0 : Nat) + List.length l) (joinF (0 : Nat) (fun (i j : Nat) => List.getD [] (i * (6 : Nat) + j) D.nilp) (Enc.F eW l))))) == M.Wine.v1 (Prod.fst (rMixed (Enc.list eW (List.length (Prod.fst (Prod.snd (Prod.snd (Prod.snd (Prod.snd y)))))) (Enc.F eW (Prod.fst (Prod.snd (Prod.snd (Prod.snd (Prod.snd y))))))))) && true) && (M.Wine.s0 (Prod.fst (rMixed (Enc.list eW ((0 : Nat) + List.length l) (joinF (0 : Nat) (fun (i j : Nat) => List.getD [] (i * (6 : Nat) + j) D.nilp) (Enc.F eW l))))) == M.Wine.s0 (Prod.fst (rMixed (Enc.list eW (List.length (Prod.fst (Prod.snd (Prod.snd (Prod.snd (Prod.snd y)))))) (Enc.F eW (Prod.fst (Prod.snd (Prod.snd (Prod.snd (Prod.snd y))))))))) && (M.Wine.s1 (Prod.fst (rMixed (Enc.list eW ((0 : Nat) + List.length l) (joinF (0 : Nat) (fun (i j : Nat) => List.getD [] (i * (6 : Nat) + j) D.nilp) (Enc.F eW l))))) == M.Wine.s1 (Prod.fst (rMixed (Enc.list eW (List.length (Prod.fst (Prod.snd (Prod.snd (Prod.snd (Prod.snd y)))))) (Enc.F eW (Prod.fst (Prod.snd (Prod.snd (Prod.snd (Prod.snd y))))))))) && true) && (M.Wine.c0 (Prod.fst (rMixed (Enc.list eW ((0 : Nat) + List.length l) (joinF (0 : Nat) (fun (i j : Nat) => List.getD [] (i * (6 : Nat) + j) D.nilp) (Enc.F eW l))))) == M.Wine.c0 (Prod.fst (rMixed (Enc.list eW (List.length (Prod.fst (Prod.snd (Prod.snd (Prod.snd (Prod.snd y)))))) (Enc.F eW (Prod.fst (Prod.snd (Prod.snd (Prod.snd (Prod.snd y))))))))) && (M.Wine.c1 (Prod.fst (rMixed (Enc.list eW ((0 : Nat) + List.length l) (joinF (0 : Nat) (fun (i j : Nat) => List.getD [] (i * (6 : Nat) + j) D.nilp) (Enc.F eW l))))) == M.Wine.c1 (Prod.fst (rMixed (Enc.list eW (List.length (Prod.fst (Prod.snd (Prod.snd (Prod.snd (Prod.snd y)))))) (Enc.F eW (Prod.fst (Prod.snd (Prod.snd (Prod.snd (Prod.snd y))))))))) && true) && true)))) (T.ret (Sum.inr (Sum.inr [Ar.c (D.bool false)])))
                                (T.br (!M.within (Prod.fst (Prod.snd y)) (M.Wine.v0 (Prod.fst (rMixed (Enc.list eW ((0 : Nat) + List.length l) (joinF (0 : Nat) (fun (i j : Nat) => List.getD [] (i * (6 : Nat) + j) D.nilp) (Enc.F eW l)))))) (M.Wine.v1 (Prod.fst (rMixed (Enc.list eW ((0 : Nat) + List.length l) (joinF (0 : Nat) (fun (i j : Nat) => List.getD [] (i * (6 : Nat) + j) D.nilp) (Enc.F eW l))))))) (T.ret (Sum.inr (Sum.inr [Ar.c (D.bool false)])))
                                  (T.br (decide (Prod.fst (Prod.snd y) > (0 : Int)))
                                    (T.need (Prod.fst (Prod.snd y) ≠ (0 : Int))
                                      (T.need (M.W (M.Wine.s0 (Prod.fst (rMixed (Enc.list eW ((0 : Nat) + List.length l) (joinF (0 : Nat) (fun (i j : Nat) => List.getD [] (i * (6 : Nat) + j) D.nilp) (Enc.F eW l)))))) = M.Wine.s0 (Prod.fst (rMixed (Enc.list eW ((0 : Nat) + List.length l) (joinF (0 : Nat) (fun (i j : Nat) => List.getD [] (i * (6 : Nat) + j) D.nilp) (Enc.F eW l))))))
                                        (T.need (M.W (M.Wine.s1 (Prod.fst (rMixed (Enc.list eW ((0 : Nat) + List.length l) (joinF (0 : Nat) (fun (i j : Nat) => List.getD [] (i * (6 : Nat) + j) D.nilp) (Enc.F eW l)))))) = M.Wine.s1 (Prod.fst (rMixed (Enc.list eW ((0 : Nat) + List.length l) (joinF (0 : Nat) (fun (i j : Nat) => List.getD [] (i * (6 : Nat) + j) D.nilp) (Enc.F eW l))))))
                                          (T.br (!M.between (Prod.fst (Prod.snd (Prod.snd y))) (Prod.fst (Prod.snd y)) { lo := M.Wine.s0 (Prod.fst (rMixed (Enc.list eW ((0 : Nat) + List.length l) (joinF (0 : Nat) (fun (i j : Nat) => List.getD [] (i * (6 : Nat) + j) D.nilp) (Enc.F eW l))))), hi := M.Wine.s1 (Prod.fst (rMixed (Enc.list eW ((0 : Nat) + List.length l) (joinF (0 : Nat) (fun (i j : Nat) => List.getD [] (i * (6 : Nat) + j) D.nilp) (Enc.F eW l))))) }) (T.ret (Sum.inr (Sum.inr [Ar.c (D.bool false)])))
                                            (T.need (Prod.fst (Prod.snd y) ≠ (0 : Int))
                                              (T.need (M.W (M.Wine.c0 (Prod.fst (rMixed (Enc.list eW ((0 : Nat) + List.length l) (joinF (0 : Nat) (fun (i j : Nat) => List.getD [] (i * (6 : Nat) + j) D.nilp) (Enc.F eW l)))))) = M.Wine.c0 (Prod.fst (rMixed (Enc.list eW ((0 : Nat) + List.length l) (joinF (0 : Nat) (fun (i j : Nat) => List.getD [] (i * (6 : Nat) + j) D.nilp) (Enc.F eW l))))))
                                                (T.need (M.W (M.Wine.c1 (Prod.fst (rMixed (Enc.list eW ((0 : Nat) + List.length l) (joinF (0 : Nat) (fun (i j : Nat) => List.getD [] (i * (6 : Nat) + j) D.nilp) (Enc.F eW l)))))) = M.Wine.c1 (Prod.fst (rMixed (Enc.list eW ((0 : Nat) + List.length l) (joinF (0 : Nat) (fun (i j : Nat) => List.getD [] (i * (6 : Nat) + j) D.nilp) (Enc.F eW l))))))
                                                  (T.br (!M.between (Prod.fst (Prod.snd (Prod.snd (Prod.snd y)))) (Prod.fst (Prod.snd y)) { lo := M.Wine.c0 (Prod.fst (rMixed (Enc.list eW ((0 : Nat) + List.length l) (joinF (0 : Nat) (fun (i j : Nat) => List.getD [] (i * (6 : Nat) + j) D.nilp) (Enc.F eW l))))), hi := M.Wine.c1 (Prod.fst (rMixed (Enc.list eW ((0 : Nat) + List.length l) (joinF (0 : Nat) (fun (i j : Nat) => List.getD [] (i * (6 : Nat) + j) D.nilp) (Enc.F eW l))))) }) (T.ret (Sum.inr (Sum.inr [Ar.c (D.bool false)])))
                                                    (T.br (Nat.cast (R := Int) (List.length l) == (8 : Int)) (T.ret (Sum.inr (Sum.inr [Ar.c (D.bool true)])))
                                                      (T.need ((0 : Nat) + List.length l ≤ (1000000 : Nat))
                                                        (T.need ((0 : Nat) + List.length l + (1 : Nat) ≤ (1000000 : Nat))
                                                          (T.need ((0 : Nat) + List.length l ≤ (0 : Nat) + List.length l)
                                                            (T.need ((0 : Nat) + List.length l + (1 : Nat) ≤ (0 : Nat) + List.length l + (1 : Nat))
                                                              (T.need (Enc.Is eW ((0 : Nat) + List.length l + (1 : Nat)) (joinF ((0 : Nat) + List.length l) (joinF (0 : Nat) (fun (i j : Nat) => List.getD [] (i * (6 : Nat) + j) D.nilp) (Enc.F eW l)) fun (i j : Nat) => List.getD [D.int IntKind.i64 (0 : Int), D.int IntKind.i64 (0 : Int), D.int IntKind.i64 (M.Rg.lo { lo := (10000 : Int), hi := (10000 : Int) }), D.int IntKind.i64 (M.Rg.hi { lo := (10000 : Int), hi := (10000 : Int) }), D.int IntKind.i64 (M.Rg.lo { lo := (5 : Int), hi := (5 : Int) }), D.int IntKind.i64 (M.Rg.hi { lo := (5 : Int), hi := (5 : Int) })] (i * (6 : Nat) + j) D.nilp))
                                                                (T.br (Prod.snd (rMixed (Enc.list eW ((0 : Nat) + List.length l + (1 : Nat)) (joinF ((0 : Nat) + List.length l) (joinF (0 : Nat) (fun (i j : Nat) => List.getD [] (i * (6 : Nat) + j) D.nilp) (Enc.F eW l)) fun (i j : Nat) => List.getD [D.int IntKind.i64 (0 : Int), D.int IntKind.i64 (0 : Int), D.int IntKind.i64 (M.Rg.lo { lo := (10000 : Int), hi := (10000 : Int) }), D.int IntKind.i64 (M.Rg.hi { lo := (10000 : Int), hi := (10000 : Int) }), D.int IntKind.i64 (M.Rg.lo { lo := (5 : Int), hi := (5 : Int) }), D.int IntKind.i64 (M.Rg.hi { lo := (5 : Int), hi := (5 : Int) })] (i * (6 : Nat) + j) D.nilp))) == (0 : Int))
                                                                  (T.ret
                                                                    (Sum.inr
                                                                      (Sum.inr
                                                                        [Ar.c
                                                                            (D.bool
                                                                              (M.Wine.v0 (Prod.fst (rMixed (Enc.list eW ((0 : Nat) + List.length l + (1 : Nat)) (joinF ((0 : Nat) + List.length l) (joinF (0 : Nat) (fun (i j : Nat) => List.getD [] (i * (6 : Nat) + j) D.nilp) (Enc.F eW l)) fun (i j : Nat) => List.getD [D.int IntKind.i64 (0 : Int), D.int IntKind.i64 (0 : Int), D.int IntKind.i64 (M.Rg.lo { lo := (10000 : Int), hi := (10000 : Int) }), D.int IntKind.i64 (M.Rg.hi { lo := (10000 : Int), hi := (10000 : Int) }), D.int IntKind.i64 (M.Rg.lo { lo := (5 : Int), hi := (5 : Int) }), D.int IntKind.i64 (M.Rg.hi { lo := (5 : Int), hi := (5 : Int) })] (i * (6 : Nat) + j) D.nilp)))) == M.Wine.v0 (Prod.fst (rMixed (Enc.list eW ((0 : Nat) + List.length l) (joinF (0 : Nat) (fun (i j : Nat) => List.getD [] (i * (6 : Nat) + j) D.nilp) (Enc.F eW l))))) && (M.Wine.v1 (Prod.fst (rMixed (Enc.list eW ((0 : Nat) + List.length l + (1 : Nat)) (joinF ((0 : Nat) + List.length l) (joinF (0 : Nat) (fun (i j : Nat) => List.getD [] (i * (6 : Nat) + j) D.nilp) (Enc.F eW l)) fun (i j : Nat) => List.getD [D.int IntKind.i64 (0 : Int), D.int IntKind.i64 (0 : Int), D.int IntKind.i64 (M.Rg.lo { lo := (10000 : Int), hi := (10000 : Int) }), D.int IntKind.i64 (M.Rg.hi { lo := (10000 : Int), hi := (10000 : Int) }), D.int IntKind.i64 (M.Rg.lo { lo := (5 : Int), hi := (5 : Int) }), D.int IntKind.i64 (M.Rg.hi { lo := (5 : Int), hi := (5 : Int) })] (i * (6 : Nat) + j) D.nilp)))) == M.Wine.v1 (Prod.fst (rMixed (Enc.list eW ((0 : Nat) + List.length l) (joinF (0 : Nat) (fun (i j : Nat) => List.getD [] (i * (6 : Nat) + j) D.nilp) (Enc.F eW l))))) && true) &&
                                                                                (M.Wine.s0 (Prod.fst (rMixed (Enc.list eW ((0 : Nat) + List.length l + (1 : Nat)) (joinF ((0 : Nat) + List.length l) (joinF (0 : Nat) (fun (i j : Nat) => List.getD [] (i * (6 : Nat) + j) D.nilp) (Enc.F eW l)) fun (i j : Nat) => List.getD [D.int IntKind.i64 (0 : Int), D.int IntKind.i64 (0 : Int), D.int IntKind.i64 (M.Rg.lo { lo := (10000 : Int), hi := (10000 : Int) }), D.int IntKind.i64 (M.Rg.hi { lo := (10000 : Int), hi := (10000 : Int) }), D.int IntKind.i64 (M.Rg.lo { lo := (5 : Int), hi := (5 : Int) }), D.int IntKind.i64 (M.Rg.hi { lo := (5 : Int), hi := (5 : Int) })] (i * (6 : Nat) + j) D.nilp)))) == M.Wine.s0 (Prod.fst (rMixed (Enc.list eW ((0 : Nat) + List.length l) (joinF (0 : Nat) (fun (i j : Nat) => List.getD [] (i * (6 : Nat) + j) D.nilp) (Enc.F eW l))))) && (M.Wine.s1 (Prod.fst (rMixed (Enc.list eW ((0 : Nat) + List.length l + (1 : Nat)) (joinF ((0 : Nat) + List.length l) (joinF (0 : Nat) (fun (i j : Nat) => List.getD [] (i * (6 : Nat) + j) D.nilp) (Enc.F eW l)) fun (i j : Nat) => List.getD [D.int IntKind.i64 (0 : Int), D.int IntKind.i64 (0 : Int), D.int IntKind.i64 (M.Rg.lo { lo := (10000 : Int), hi := (10000 : Int) }), D.int IntKind.i64 (M.Rg.hi { lo := (10000 : Int), hi := (10000 : Int) }), D.int IntKind.i64 (M.Rg.lo { lo := (5 : Int), hi := (5 : Int) }), D.int IntKind.i64 (M.Rg.hi { lo := (5 : Int), hi := (5 : Int) })] (i * (6 : Nat) + j) D.nilp)))) == M.Wine.s1 (Prod.fst (rMixed (Enc.list eW ((0 : Nat) + List.length l) (joinF (0 : Nat) (fun (i j : Nat) => List.getD [] (i * (6 : Nat) + j) D.nilp) (Enc.F eW l))))) && true) &&
                                                                                  (M.Wine.c0 (Prod.fst (rMixed (Enc.list eW ((0 : Nat) + List.length l + (1 : Nat)) (joinF ((0 : Nat) + List.length l) (joinF (0 : Nat) (fun (i j : Nat) => List.getD [] (i * (6 : Nat) + j) D.nilp) (Enc.F eW l)) fun (i j : Nat) => List.getD [D.int IntKind.i64 (0 : Int), D.int IntKind.i64 (0 : Int), D.int IntKind.i64 (M.Rg.lo { lo := (10000 : Int), hi := (10000 : Int) }), D.int IntKind.i64 (M.Rg.hi { lo := (10000 : Int), hi := (10000 : Int) }), D.int IntKind.i64 (M.Rg.lo { lo := (5 : Int), hi := (5 : Int) }), D.int IntKind.i64 (M.Rg.hi { lo := (5 : Int), hi := (5 : Int) })] (i * (6 : Nat) + j) D.nilp)))) == M.Wine.c0 (Prod.fst (rMixed (Enc.list eW ((0 : Nat) + List.length l) (joinF (0 : Nat) (fun (i j : Nat) => List.getD [] (i * (6 : Nat) + j) D.nilp) (Enc.F eW l))))) && (M.Wine.c1 (Prod.fst (rMixed (Enc.list eW ((0 : Nat) + List.length l + (1 : Nat)) (joinF ((0 : Nat) + List.length l) (joinF (0 : Nat) (fun (i j : Nat) => List.getD [] (i * (6 : Nat) + j) D.nilp) (Enc.F eW l)) fun (i j : Nat) => List.getD [D.int IntKind.i64 (0 : Int), D.int IntKind.i64 (0 : Int), D.int IntKind.i64 (M.Rg.lo { lo := (10000 : Int), hi := (10000 : Int) }), D.int IntKind.i64 (M.Rg.hi { lo := (10000 : Int), hi := (10000 : Int) }), D.int IntKind.i64 (M.Rg.lo { lo := (5 : Int), hi := (5 : Int) }), D.int IntKind.i64 (M.Rg.hi { lo := (5 : Int), hi := (5 : Int) })] (i * (6 : Nat) + j) D.nilp)))) == M.Wine.c1 (Prod.fst (rMixed (Enc.list eW ((0 : Nat) + List.length l) (joinF (0 : Nat) (fun (i j : Nat) => List.getD [] (i * (6 : Nat) + j) D.nilp) (Enc.F eW l))))) && true) && true))))])))
                                                                  (T.ret (Sum.inr (Sum.inr [Ar.c (D.bool false)]))))))))))))))))))
                                    (T.br (Nat.cast (R := Int) (List.length l) == (8 : Int)) (T.ret (Sum.inr (Sum.inr [Ar.c (D.bool true)])))
                                      (T.need ((0 : Nat) + List.length l ≤ (1000000 : Nat))
                                        (T.need ((0 : Nat) + List.length l + (1 : Nat) ≤ (1000000 : Nat))
                                          (T.need ((0 : Nat) + List.length l ≤ (0 : Nat) + List.length l)
                                            (T.need ((0 : Nat) + List.length l + (1 : Nat) ≤ (0 : Nat) + List.length l + (1 : Nat))
                                              (T.need (Enc.Is eW ((0 : Nat) + List.length l + (1 : Nat)) (joinF ((0 : Nat) + List.length l) (joinF (0 : Nat) (fun (i j : Nat) => List.getD [] (i * (6 : Nat) + j) D.nilp) (Enc.F eW l)) fun (i j : Nat) => List.getD [D.int IntKind.i64 (0 : Int), D.int IntKind.i64 (0 : Int), D.int IntKind.i64 (M.Rg.lo { lo := (10000 : Int), hi := (10000 : Int) }), D.int IntKind.i64 (M.Rg.hi { lo := (10000 : Int), hi := (10000 : Int) }), D.int IntKind.i64 (M.Rg.lo { lo := (5 : Int), hi := (5 : Int) }), D.int IntKind.i64 (M.Rg.hi { lo := (5 : Int), hi := (5 : Int) })] (i * (6 : Nat) + j) D.nilp))
                                                (T.br (Prod.snd (rMixed (Enc.list eW ((0 : Nat) + List.length l + (1 : Nat)) (joinF ((0 : Nat) + List.length l) (joinF (0 : Nat) (fun (i j : Nat) => List.getD [] (i * (6 : Nat) + j) D.nilp) (Enc.F eW l)) fun (i j : Nat) => List.getD [D.int IntKind.i64 (0 : Int), D.int IntKind.i64 (0 : Int), D.int IntKind.i64 (M.Rg.lo { lo := (10000 : Int), hi := (10000 : Int) }), D.int IntKind.i64 (M.Rg.hi { lo := (10000 : Int), hi := (10000 : Int) }), D.int IntKind.i64 (M.Rg.lo { lo := (5 : Int), hi := (5 : Int) }), D.int IntKind.i64 (M.Rg.hi { lo := (5 : Int), hi := (5 : Int) })] (i * (6 : Nat) + j) D.nilp))) == (0 : Int))
                                                  (T.ret
                                                    (Sum.inr
                                                      (Sum.inr
                                                        [Ar.c
                                                            (D.bool
                                                              (M.Wine.v0 (Prod.fst (rMixed (Enc.list eW ((0 : Nat) + List.length l + (1 : Nat)) (joinF ((0 : Nat) + List.length l) (joinF (0 : Nat) (fun (i j : Nat) => List.getD [] (i * (6 : Nat) + j) D.nilp) (Enc.F eW l)) fun (i j : Nat) => List.getD [D.int IntKind.i64 (0 : Int), D.int IntKind.i64 (0 : Int), D.int IntKind.i64 (M.Rg.lo { lo := (10000 : Int), hi := (10000 : Int) }), D.int IntKind.i64 (M.Rg.hi { lo := (10000 : Int), hi := (10000 : Int) }), D.int IntKind.i64 (M.Rg.lo { lo := (5 : Int), hi := (5 : Int) }), D.int IntKind.i64 (M.Rg.hi { lo := (5 : Int), hi := (5 : Int) })] (i * (6 : Nat) + j) D.nilp)))) == M.Wine.v0 (Prod.fst (rMixed (Enc.list eW ((0 : Nat) + List.length l) (joinF (0 : Nat) (fun (i j : Nat) => List.getD [] (i * (6 : Nat) + j) D.nilp) (Enc.F eW l))))) && (M.Wine.v1 (Prod.fst (rMixed (Enc.list eW ((0 : Nat) + List.length l + (1 : Nat)) (joinF ((0 : Nat) + List.length l) (joinF (0 : Nat) (fun (i j : Nat) => List.getD [] (i * (6 : Nat) + j) D.nilp) (Enc.F eW l)) fun (i j : Nat) => List.getD [D.int IntKind.i64 (0 : Int), D.int IntKind.i64 (0 : Int), D.int IntKind.i64 (M.Rg.lo { lo := (10000 : Int), hi := (10000 : Int) }), D.int IntKind.i64 (M.Rg.hi { lo := (10000 : Int), hi := (10000 : Int) }), D.int IntKind.i64 (M.Rg.lo { lo := (5 : Int), hi := (5 : Int) }), D.int IntKind.i64 (M.Rg.hi { lo := (5 : Int), hi := (5 : Int) })] (i * (6 : Nat) + j) D.nilp)))) == M.Wine.v1 (Prod.fst (rMixed (Enc.list eW ((0 : Nat) + List.length l) (joinF (0 : Nat) (fun (i j : Nat) => List.getD [] (i * (6 : Nat) + j) D.nilp) (Enc.F eW l))))) && true) &&
                                                                (M.Wine.s0 (Prod.fst (rMixed (Enc.list eW ((0 : Nat) + List.length l + (1 : Nat)) (joinF ((0 : Nat) + List.length l) (joinF (0 : Nat) (fun (i j : Nat) => List.getD [] (i * (6 : Nat) + j) D.nilp) (Enc.F eW l)) fun (i j : Nat) => List.getD [D.int IntKind.i64 (0 : Int), D.int IntKind.i64 (0 : Int), D.int IntKind.i64 (M.Rg.lo { lo := (10000 : Int), hi := (10000 : Int) }), D.int IntKind.i64 (M.Rg.hi { lo := (10000 : Int), hi := (10000 : Int) }), D.int IntKind.i64 (M.Rg.lo { lo := (5 : Int), hi := (5 : Int) }), D.int IntKind.i64 (M.Rg.hi { lo := (5 : Int), hi := (5 : Int) })] (i * (6 : Nat) + j) D.nilp)))) == M.Wine.s0 (Prod.fst (rMixed (Enc.list eW ((0 : Nat) + List.length l) (joinF (0 : Nat) (fun (i j : Nat) => List.getD [] (i * (6 : Nat) + j) D.nilp) (Enc.F eW l))))) && (M.Wine.s1 (Prod.fst (rMixed (Enc.list eW ((0 : Nat) + List.length l + (1 : Nat)) (joinF ((0 : Nat) + List.length l) (joinF (0 : Nat) (fun (i j : Nat) => List.getD [] (i * (6 : Nat) + j) D.nilp) (Enc.F eW l)) fun (i j : Nat) => List.getD [D.int IntKind.i64 (0 : Int), D.int IntKind.i64 (0 : Int), D.int IntKind.i64 (M.Rg.lo { lo := (10000 : Int), hi := (10000 : Int) }), D.int IntKind.i64 (M.Rg.hi { lo := (10000 : Int), hi := (10000 : Int) }), D.int IntKind.i64 (M.Rg.lo { lo := (5 : Int), hi := (5 : Int) }), D.int IntKind.i64 (M.Rg.hi { lo := (5 : Int), hi := (5 : Int) })] (i * (6 : Nat) + j) D.nilp)))) == M.Wine.s1 (Prod.fst (rMixed (Enc.list eW ((0 : Nat) + List.length l) (joinF (0 : Nat) (fun (i j : Nat) => List.getD [] (i * (6 : Nat) + j) D.nilp) (Enc.F eW l))))) && true) &&
                                                                  (M.Wine.c0 (Prod.fst (rMixed (Enc.list eW ((0 : Nat) + List.length l + (1 : Nat)) (joinF ((0 : Nat) + List.length l) (joinF (0 : Nat) (fun (i j : Nat) => List.getD [] (i * (6 : Nat) + j) D.nilp) (Enc.F eW l)) fun (i j : Nat) => List.getD [D.int IntKind.i64 (0 : Int), D.int IntKind.i64 (0 : Int), D.int IntKind.i64 (M.Rg.lo { lo := (10000 : Int), hi := (10000 : Int) }), D.int IntKind.i64 (M.Rg.hi { lo := (10000 : Int), hi := (10000 : Int) }), D.int IntKind.i64 (M.Rg.lo { lo := (5 : Int), hi := (5 : Int) }), D.int IntKind.i64 (M.Rg.hi { lo := (5 : Int), hi := (5 : Int) })] (i * (6 : Nat) + j) D.nilp)))) == M.Wine.c0 (Prod.fst (rMixed (Enc.list eW ((0 : Nat) + List.length l) (joinF (0 : Nat) (fun (i j : Nat) => List.getD [] (i * (6 : Nat) + j) D.nilp) (Enc.F eW l))))) && (M.Wine.c1 (Prod.fst (rMixed (Enc.list eW ((0 : Nat) + List.length l + (1 : Nat)) (joinF ((0 : Nat) + List.length l) (joinF (0 : Nat) (fun (i j : Nat) => List.getD [] (i * (6 : Nat) + j) D.nilp) (Enc.F eW l)) fun (i j : Nat) => List.getD [D.int IntKind.i64 (0 : Int), D.int IntKind.i64 (0 : Int), D.int IntKind.i64 (M.Rg.lo { lo := (10000 : Int), hi := (10000 : Int) }), D.int IntKind.i64 (M.Rg.hi { lo := (10000 : Int), hi := (10000 : Int) }), D.int IntKind.i64 (M.Rg.lo { lo := (5 : Int), hi := (5 : Int) }), D.int IntKind.i64 (M.Rg.hi { lo := (5 : Int), hi := (5 : Int) })] (i * (6 : Nat) + j) D.nilp)))) == M.Wine.c1 (Prod.fst (rMixed (Enc.list eW ((0 : Nat) + List.length l) (joinF (0 : Nat) (fun (i j : Nat) => List.getD [] (i * (6 : Nat) + j) D.nilp) (Enc.F eW l))))) && true) && true))))])))
                                                  (T.ret (Sum.inr (Sum.inr [Ar.c (D.bool false)]))))))))))))))))))))))))) := by kernel_rfl
theorem joinz (F F' : Nat → Nat → D) : joinF 0 F F' = F' := by funext i j; exact join0 F F' i j
theorem mid_bd {f : M.Wine → M.Rg} {l : List M.Wine} {V S : Int} (h : Mid f l V S) (ok : okWs l) (of : ∀ w, w ∈ l → 0 ≤ (f w).lo ∧ (f w).hi ≤ 100000) : 0 ≤ V ∧ V ≤ l.length * 100000 ∧ 0 ≤ S ∧ S ≤ l.length * 10000000000 := by
  induction h with
  | nil => simp
  | @cons w l v x V S g1 g2 g3 g4 _ ih =>
    have i := ih (fun y hy => ok y (List.mem_cons_of_mem _ hy)) fun y hy => of y (List.mem_cons_of_mem _ hy)
    have o := ok w (List.mem_cons_self ..)
    have q := of w (List.mem_cons_self ..)
    have w1 := o.v0; have w2 := o.v1
    have m := prod_bd (v := v) (x := x) (by omega) (by omega) (by omega) (by omega)
    simp only [List.length_cons]
    omega
theorem okWs_take {l : List M.Wine} (h : okWs l) (j : Nat) : okWs (l.take j) := fun w hw => h w (List.mem_of_mem_take hw)
theorem take_succ_get {l : List M.Wine} {j : Nat} (h : j < l.length) : l.take (j + 1) = l.take j ++ [l.getD j eW.dflt] := by
  rw [List.take_succ_eq_append_getElem h]; simp [List.getD, List.getElem?_eq_getElem h]
theorem rev_take_succ {l : List M.Wine} {j : Nat} (h : j < l.length) : l.reverse.take (j + 1) = l.reverse.take j ++ [l.getD (l.length - 1 - j) eW.dflt] := by
  rw [List.take_succ_eq_append_getElem (by simpa using h), List.getElem_reverse]
  have : l.length - 1 - j < l.length := by omega
  simp [List.getD, List.getElem?_eq_getElem this]
theorem okWs_get {l : List M.Wine} (h : okWs l) {j : Nat} (hj : j < l.length) : L.OkW (l.getD j eW.dflt) := by
  have e : l.getD j eW.dflt = l[j] := by simp [List.getD, List.getElem?_eq_getElem hj]
  rw [e]; exact h _ (List.getElem_mem hj)
def zeroW : M.Wine := ⟨0, 0, 10000, 10000, 5, 5⟩
theorem zeroW_ok : L.OkW zeroW := ⟨by decide, by decide, by decide, by decide, by decide, by decide, by decide, by decide, by decide⟩
/-- What the second loop has done. -/
structure TrueI (l : List M.Wine) (j : Nat) (all st su : Int) : Prop where
  le : j ≤ l.length
  s : Mid M.Wine.s (l.take j) all st
  c : Mid M.Wine.c (l.take j) all su
theorem TrueI.bd {l : List M.Wine} (ok : okWs l) (hl : l.length ≤ 8) {j : Nat} {all st su : Int} (h : TrueI l j all st su) : 0 ≤ all ∧ all ≤ 800000 ∧ 0 ≤ st ∧ st ≤ 80000000000 ∧ 0 ≤ su ∧ su ≤ 80000000000 := by
  have k1 := mid_bd h.s (okWs_take ok j) fun w hw => by have o := okWs_take ok j w hw; have := o.s0; have := o.s1; simp only [M.Wine.s]; omega
  have k2 := mid_bd h.c (okWs_take ok j) fun w hw => by have o := okWs_take ok j w hw; have := o.c0; have := o.c1; simp only [M.Wine.c]; omega
  have : (l.take j).length ≤ 8 := by rw [List.length_take]; omega
  omega
theorem TrueI.step {l : List M.Wine} (ok : okWs l) (hl : l.length ≤ 8) {j : Nat} {all st su : Int} (h : TrueI l j all st su) (hj : j < l.length) (t : Tr) :
    M.W (M.W ((l.getD j eW.dflt).v1 - (l.getD j eW.dflt).v0) + 1) ≠ 0 ∧ M.W (M.W ((l.getD j eW.dflt).s1 - (l.getD j eW.dflt).s0) + 1) ≠ 0 ∧ M.W (M.W ((l.getD j eW.dflt).c1 - (l.getD j eW.dflt).c0) + 1) ≠ 0 ∧
    TrueI l (j + 1) (IntKind.wrap IntKind.i64 (all + M.pick { lo := (l.getD j eW.dflt).v0, hi := (l.getD j eW.dflt).v1 } t.v))
      (IntKind.wrap IntKind.i64 (st + IntKind.wrap IntKind.i64 (M.pick { lo := (l.getD j eW.dflt).v0, hi := (l.getD j eW.dflt).v1 } t.v * M.pick { lo := (l.getD j eW.dflt).s0, hi := (l.getD j eW.dflt).s1 } t.s)))
      (IntKind.wrap IntKind.i64 (su + IntKind.wrap IntKind.i64 (M.pick { lo := (l.getD j eW.dflt).v0, hi := (l.getD j eW.dflt).v1 } t.v * M.pick { lo := (l.getD j eW.dflt).c0, hi := (l.getD j eW.dflt).c1 } t.c))) := by
  have o := okWs_get ok hj
  have b := h.bd ok hl
  have tk := take_succ_get hj
  generalize l.getD j eW.dflt = w at *
  have w1 := o.v0; have w2 := o.v; have w3 := o.v1; have w4 := o.s0; have w5 := o.s; have w6 := o.s1; have w7 := o.c0; have w8 := o.c; have w9 := o.c1
  have n1 := L.pick_ne (r := ⟨w.v0, w.v1⟩) w1 w2 (by simp only; omega)
  have n2 := L.pick_ne (r := ⟨w.s0, w.s1⟩) w4 w5 (by simp only; omega)
  have n3 := L.pick_ne (r := ⟨w.c0, w.c1⟩) w7 w8 (by simp only; omega)
  have p1 := L.pick_bd (r := ⟨w.v0, w.v1⟩) (b := t.v) w1 w2 (by simp only; omega)
  have p2 := L.pick_bd (r := ⟨w.s0, w.s1⟩) (b := t.s) w4 w5 (by simp only; omega)
  have p3 := L.pick_bd (r := ⟨w.c0, w.c1⟩) (b := t.c) w7 w8 (by simp only; omega)
  simp only at p1 p2 p3
  refine ⟨n1, n2, n3, ?_⟩
  generalize M.pick ⟨w.v0, w.v1⟩ t.v = v at *
  generalize M.pick ⟨w.s0, w.s1⟩ t.s = x at *
  generalize M.pick ⟨w.c0, w.c1⟩ t.c = y at *
  have m1 := prod_bd (v := v) (x := x) (by omega) (by omega) (by omega) (by omega)
  have m2 := prod_bd (v := v) (x := y) (by omega) (by omega) (by omega) (by omega)
  rw [wrap_id (n := v * x) (by omega) (by omega), wrap_id (n := v * y) (by omega) (by omega), wrap_id (n := all + v) (by omega) (by omega), wrap_id (n := st + _) (by omega) (by omega), wrap_id (n := su + _) (by omega) (by omega)]
  refine ⟨hj, ?_, ?_⟩
  · rw [tk]; exact mid_snoc h.s p1.1 p1.2 p2.1 p2.2
  · rw [tk]; exact mid_snoc h.c p1.1 p1.2 p3.1 p3.2
/-- Behind the second loop. -/
theorem TrueI.fin {l : List M.Wine} (ok : okWs l) (hl : l.length ≤ 8) {all st su : Int} (h : TrueI l l.length all st su) (hp : 0 < sumHi l) :
    M.within all (sumLo l) (sumHi l) = true ∧ (0 < all → M.between st all ⟨(rMix l).s0, (rMix l).s1⟩ = true ∧ M.between su all ⟨(rMix l).c0, (rMix l).c1⟩ = true) := by
  have b := h.bd ok hl
  have hs := h.s
  have hc := h.c
  rw [List.take_length] at hs hc
  have v := mid_vol hs
  refine ⟨within_of.2 v, fun ha => ?_⟩
  have k1 := mid_between hl ok (okv ok false false) (okv ok true false) hp hs
  have k2 := mid_between hl ok (okv ok false true) (okv ok true true) hp hc
  exact ⟨L.between_true ha (by omega) (by omega) (by omega) k1.1 k1.2, L.between_true ha (by omega) (by omega) (by omega) k2.1 k2.2⟩
def dom13 : DomF
  | [.c (.sl _ len st F), .c (.sl _ len2 st2 F2)] => (match Nat.beq st 6 && Nat.beq st2 5 with
    | true => some ([eW.Is len F, eT.Is len2 F2], [rB true])
    | false => none)
  | _ => none
theorem C13v : FOK Tryd.prog G0 gw 13 dom13 := by
  intro ags p r hd hp κ w xs hw hl hG hx
  unfold dom13 at hd
  split at hd
  · rename_i q len st F q2 len2 st2 F2
    split at hd
    · rename_i hst
      simp only [Bool.and_eq_true] at hst
      have h1 := Nat.eq_of_beq_eq_true hst.1
      have h2 := Nat.eq_of_beq_eq_true hst.2
      subst h1 h2
      simp only [Option.some.injEq, Prod.mk.injEq] at hd
      obtain ⟨rfl, rfl⟩ := hd
      obtain ⟨hIs, hIs2, _⟩ := hp
      have hto := eW.to (q := q) (q' := q) id hIs
      have hto2 := eT.to (q := q2) (q' := q2) id hIs2
      generalize eW.list len F = l at *
      generalize eT.list len2 F2 = t at *
      refine fokX_fin mixed gw_stable (sl := [v20, v22, v52, v32, v55, v33, v56]) ⟨S20v, S22v, S52v, S32v, S55v, S33v, S56v, trivial⟩ Tryd.func13 hw hl hG hx (ags' := [.c (.sl q l.length 6 (eW.F l)), .c (.sl q2 t.length 5 (eT.F t))]) ⟨hto, hto2, trivial⟩ rfl (t13 q q2 l t) ?_
      simp only [joinz, Nat.zero_add]
      refine ⟨fun h => (by cases h), fun _ => ⟨fun _ => rsEqv_refl _, fun h0 => ⟨fun _ => rsEqv_refl _, fun h8 => ⟨fun _ => rsEqv_refl _, fun ht => ?_⟩⟩⟩⟩
      have h0 : l.length ≠ 0 := by have := beq_eq_false_iff_ne.1 h0; omega
      have h8 : l.length ≤ 8 := by have := of_decide_eq_false h8; omega
      have ht : l.length ≤ t.length := by have := of_decide_eq_false ht; omega
      refine ⟨fun x => ∃ j : Nat, x.1 = (j : Int) ∧ j ≤ l.length ∧ ∀ w, w ∈ l.take j → L.OkW w, fun x => l.length - x.1.toNat, ⟨0, rfl, by omega, by simp⟩, ?_⟩
      rintro ⟨x, u⟩ ⟨j, hj, hjl, hok⟩
      simp only at hj
      subst hj
      refine ⟨fun hlt => ?_, fun hge => ?_⟩
      · have hj' : j < l.length := by have := of_decide_eq_true hlt; omega
        simp only [Int.toNat_natCast]
        refine ⟨by omega, by omega, fun hb => rsEqv_refl _, fun hb => ?_⟩
        simp only [T.wp, LoopP]
        rw [sucW j (by omega)]
        refine ⟨⟨j + 1, rfl, hj', ?_⟩, by simp only [Int.toNat_natCast]; omega⟩
        rw [take_succ_get hj']
        intro w hw
        rcases List.mem_append.1 hw with hw | hw
        · exact hok w hw
        · simp only [List.mem_singleton] at hw
          subst hw
          have := L.ne_false.1 hb
          rwa [L.rCheckWine_eq, L.checkWine_zero] at this
      have hj' : j = l.length := by have := of_decide_eq_false hge; omega
      subst hj'
      have ok : okWs l := by rw [List.take_length] at hok; exact hok
      clear hok hge hjl
      have hM : eW.list l.length (eW.F l) = l := eW.list_F l
      rw [hM]
      refine ⟨by omega, Nat.le_refl _, eW.is_F _ _, fun he => ?_, fun he => ?_⟩
      · rw [rMixed_bad h0 h8 ok (by simpa using he)]; exact rsEqv_refl _
      have he : (rMixed l).2 = 0 := by simpa using he
      obtain ⟨g1, g2, g3⟩ := rMixed_good h0 h8 ok he
      have hrev := rMixed_rev h0 h8 ok he
      refine ⟨fun x => match x with
          | .inl x => x.1 = 0 ∧ x.2.1 = 0 ∧ x.2.2.1 = 0 ∧ x.2.2.2.1 = 0
          | .inr y => ∃ j : Nat, y.1 = (j : Int) ∧ 1 ≤ j ∧ TrueI l j y.2.1 y.2.2.1 y.2.2.2.1 ∧ y.2.2.2.2.1 = l.reverse.take j,
        fun x => match x with | .inl _ => l.length + 1 | .inr y => l.length - y.1.toNat, ⟨rfl, rfl, rfl, rfl⟩, ?_, ?_⟩
      · rintro ⟨x, a, b, c, u, u'⟩ ⟨e1, e2, e3, e4⟩
        simp only at e1 e2 e3 e4
        subst e1 e2 e3 e4
        refine ⟨fun hlt => ?_, fun hge => ?_⟩
        · have m0 : TrueI l 0 0 0 0 := ⟨by omega, by simpa using Mid.nil, by simpa using Mid.nil⟩
          obtain ⟨n1, n2, n3, m1⟩ := m0.step ok h8 (by omega) (t.getD 0 eT.dflt)
          have ei : IntKind.wrap IntKind.i64 (IntKind.wrap IntKind.i64 ((l.length : Int) - 1) - 0) = ((l.length - 1 - 0 : Nat) : Int) := by
            rw [wrap_id (n := (l.length : Int) - 1) (by omega) (by omega), wrap_id (by omega) (by omega)]; omega
          simp only [ei, Int.toNat_natCast]
          refine ⟨by omega, by omega, by omega, by omega, n1, by omega, by omega, by omega, by omega, n2, by omega, by omega, by omega, by omega, n3, by omega, by omega, by omega, (wlit1 _).1, Nat.le_refl _, ?_⟩
          simp only [T.wp, LoopP]
          refine ⟨⟨1, ?_, Nat.le_refl _, m1, ?_⟩, ?_⟩
          · exact sucW 0 (by omega)
          · rw [(wlit1 _).2, rev_take_succ (by omega)]; rfl
          · have e1 : IntKind.wrap IntKind.i64 ((0 : Int) + 1) = 1 := rfl
            rw [e1]
            show l.length - 1 < l.length + 1
            omega
        · have := of_decide_eq_false hge
          omega
      · rintro ⟨x, a, b, c, tu, u⟩ ⟨j, e1, hj1, mI, e5⟩
        simp only at e1 mI e5
        subst e1
        subst e5
        have hle := mI.le
        have htl : (l.reverse.take j).length = j := by rw [List.length_take, List.length_reverse]; omega
        refine ⟨fun hlt => ?_, fun hge => ?_⟩
        · have hj' : j < l.length := by have := of_decide_eq_true hlt; omega
          obtain ⟨n1, n2, n3, m1⟩ := mI.step ok h8 hj' (t.getD j eT.dflt)
          have ei : IntKind.wrap IntKind.i64 (IntKind.wrap IntKind.i64 ((l.length : Int) - 1) - (j : Int)) = ((l.length - 1 - j : Nat) : Int) := by
            rw [wrap_id (n := (l.length : Int) - 1) (by omega) (by omega), wrap_id (by omega) (by omega)]; omega
          simp only [ei, Int.toNat_natCast]
          have pw := wpush (l.reverse.take j) (l.getD (l.length - 1 - j) eW.dflt)
          refine ⟨by omega, by omega, by omega, by omega, n1, by omega, by omega, by omega, by omega, n2, by omega, by omega, by omega, by omega, n3, by omega, by omega, by rw [htl]; omega, Nat.le_refl _, pw.1, Nat.le_refl _, ?_⟩
          simp only [T.wp, LoopP]
          rw [sucW j (by omega)]
          refine ⟨⟨j + 1, rfl, by omega, m1, ?_⟩, by simp only [Int.toNat_natCast]; omega⟩
          exact pw.2.trans (rev_take_succ hj').symm
        · have hj' : j = l.length := by have := of_decide_eq_false hge; omega
          subst hj'
          have hT : l.reverse.take l.length = l.reverse := by rw [List.take_of_length_le (by simp)]
          obtain ⟨f1, f2⟩ := mI.fin ok h8 g1
          have hm : (rMixed l).1 = rMix l := by rw [g3]
          simp only [eW.list_F, hT, hrev, hM]
          have w0 : M.W (rMix l).s0 = (rMix l).s0 ∧ M.W (rMix l).s1 = (rMix l).s1 ∧ M.W (rMix l).c0 = (rMix l).c0 ∧ M.W (rMix l).c1 = (rMix l).c1 := by
            have o := rMix_ok h8 ok g1 g2
            have w4 := o.s0; have w5 := o.s; have w6 := o.s1; have w7 := o.c0; have w8 := o.c; have w9 := o.c1
            refine ⟨L.W_id ?_ ?_, L.W_id ?_ ?_, L.W_id ?_ ?_, L.W_id ?_ ?_⟩ <;> omega
          have pw := wpush l zeroW
          have hmore : l.length < 8 → rMixed (l ++ [zeroW]) = rMixed l := fun hlt => rMixed_more zeroW_ok rfl rfl h0 hlt ok he
          have last : ∀ {α : Type} (Q : α → Prop) (g : List Ar → α), (∀ rs, rsEqv rs [rB true] → Q (g rs)) → (T.br ((l.length : Int) == 8) (T.ret (g [Ar.c (D.bool true)])) (T.need (l.length ≤ 1000000) (T.need (l.length + 1 ≤ 1000000) (T.need (l.length ≤ l.length) (T.need (l.length + 1 ≤ l.length + 1)
              (T.need (eW.Is (l.length + 1) (joinF l.length (eW.F l) fun (i j : Nat) => List.getD [dI zeroW.v0, dI zeroW.v1, dI zeroW.s0, dI zeroW.s1, dI zeroW.c0, dI zeroW.c1] (i * 6 + j) D.nilp))
                (T.br ((rMixed (eW.list (l.length + 1) (joinF l.length (eW.F l) fun (i j : Nat) => List.getD [dI zeroW.v0, dI zeroW.v1, dI zeroW.s0, dI zeroW.s1, dI zeroW.c0, dI zeroW.c1] (i * 6 + j) D.nilp))).2 == 0)
                  (T.ret (g [Ar.c (D.bool (((rMixed (eW.list (l.length + 1) (joinF l.length (eW.F l) fun (i j : Nat) => List.getD [dI zeroW.v0, dI zeroW.v1, dI zeroW.s0, dI zeroW.s1, dI zeroW.c0, dI zeroW.c1] (i * 6 + j) D.nilp))).1.v0 == (rMixed l).1.v0) && ((rMixed (eW.list (l.length + 1) (joinF l.length (eW.F l) fun (i j : Nat) => List.getD [dI zeroW.v0, dI zeroW.v1, dI zeroW.s0, dI zeroW.s1, dI zeroW.c0, dI zeroW.c1] (i * 6 + j) D.nilp))).1.v1 == (rMixed l).1.v1) && (((rMixed (eW.list (l.length + 1) (joinF l.length (eW.F l) fun (i j : Nat) => List.getD [dI zeroW.v0, dI zeroW.v1, dI zeroW.s0, dI zeroW.s1, dI zeroW.c0, dI zeroW.c1] (i * 6 + j) D.nilp))).1.s0 == (rMixed l).1.s0) && ((rMixed (eW.list (l.length + 1) (joinF l.length (eW.F l) fun (i j : Nat) => List.getD [dI zeroW.v0, dI zeroW.v1, dI zeroW.s0, dI zeroW.s1, dI zeroW.c0, dI zeroW.c1] (i * 6 + j) D.nilp))).1.s1 == (rMixed l).1.s1) && (((rMixed (eW.list (l.length + 1) (joinF l.length (eW.F l) fun (i j : Nat) => List.getD [dI zeroW.v0, dI zeroW.v1, dI zeroW.s0, dI zeroW.s1, dI zeroW.c0, dI zeroW.c1] (i * 6 + j) D.nilp))).1.c0 == (rMixed l).1.c0) && ((rMixed (eW.list (l.length + 1) (joinF l.length (eW.F l) fun (i j : Nat) => List.getD [dI zeroW.v0, dI zeroW.v1, dI zeroW.s0, dI zeroW.s1, dI zeroW.c0, dI zeroW.c1] (i * 6 + j) D.nilp))).1.c1 == (rMixed l).1.c1)))))])) (T.ret (g [Ar.c (D.bool false)]))))))))).wp Q := by
            intro α Q g hQ
            refine ⟨fun _ => hQ _ (rsEqv_refl _), fun h9 => ?_⟩
            have h9 : l.length < 8 := by have := beq_eq_false_iff_ne.1 h9; omega
            rw [pw.2, hmore h9, he]
            refine ⟨by omega, by omega, Nat.le_refl _, Nat.le_refl _, pw.1, fun _ => hQ _ ?_, fun h => (by cases h)⟩
            simp only [beq_self_eq_true, Bool.and_true]
            exact rsEqv_refl _
          refine ⟨Nat.le_refl _, eW.is_F _ _, ?_⟩
          rw [he]
          refine ⟨fun h => (by cases h), fun _ => ?_⟩
          simp only [beq_self_eq_true, Bool.and_true, Bool.not_true]
          refine ⟨fun h => (by cases h), fun _ => ?_⟩
          rw [hm]
          refine ⟨fun h => ?_, fun _ => ?_⟩
          · have h' : (!M.within a (sumLo l) (sumHi l)) = true := h
            rw [f1] at h'; cases h'
          rw [← hm]
          refine ⟨fun ha => ?_, fun _ => ?_⟩
          · have ha : 0 < a := of_decide_eq_true ha
            obtain ⟨k1, k2⟩ := f2 ha
            rw [hm]
            refine ⟨by omega, w0.1, w0.2.1, fun h => ?_, fun _ => ⟨by omega, w0.2.2.1, w0.2.2.2, fun h => ?_, fun _ => ?_⟩⟩
            · have h' : (!M.between b a ⟨(rMix l).s0, (rMix l).s1⟩) = true := h
              rw [k1] at h'; cases h'
            · have h' : (!M.between c a ⟨(rMix l).c0, (rMix l).c1⟩) = true := h
              rw [k2] at h'; cases h'
            · rw [← hm]
              refine last _ (fun rs => Sum.inr (Sum.inr rs)) ?_
              exact fun rs h => h
          · refine last _ (fun rs => Sum.inr (Sum.inr rs)) ?_
            exact fun rs h => h
    · cases hd
  · cases hd
end Go.Fl2
end

section
namespace Go.Fl
open Go.Eng Go.RowKit Go.Proofs
set_option maxRecDepth 100000
set_option linter.unusedSimpArgs false
set_option linter.unusedVariables false
end Go.Fl
end

section
namespace Go.Eng
open Go Go.ChangeShapes Go.WideShapes Go.RowKit Go.ChangeAt
/-- The fields lie one behind the other. -/
def tiles (P : Program) : List Field → Nat → Nat → Bool
  | [], o, c => Nat.beq o c
  | f :: fs, o, c => Nat.beq f.offset o && tiles P fs (o + P.cellsOf f.type) c
/-- Nothing but whole numbers of 64 bits. -/
def allI (P : Program) : Nat → TypeId → Bool
  | 0, _ => false
  | k + 1, t => match P.underlying t with
    | some (.int .i64) => true
    | some (.struct fs) => fs.toList.all (fun f => allI P k f.type) && tiles P fs.toList 0 (P.cellsOf t)
    | _ => false
def ints (ns : List Int) : List Value := ns.map (.int .i64)
section
variable {H : Type} {enc : TypeId × Value → H} {P : Program} {w : World} {base : Nat} {sp : Nat → Bool} {hd : Bool}
theorem tiles_ints : ∀ (fs : List Field) (o c : Nat) (cs : List Value), tiles P fs o c = true → cs.length = c →
    (∀ f ∈ fs, ∃ ns, (cs.drop f.offset).take (P.cellsOf f.type) = ints ns) → ∃ ns, cs.drop o = ints ns
  | [], o, c, cs, h, hl, _ => by
    have : o = c := Nat.eq_of_beq_eq_true h
    exact ⟨[], by rw [this, ← hl]; simp [ints]⟩
  | f :: fs, o, c, cs, h, hl, hf => by
    simp only [tiles, Bool.and_eq_true] at h
    have ho : f.offset = o := Nat.eq_of_beq_eq_true h.1
    obtain ⟨ns, hn⟩ := hf f (List.mem_cons_self ..)
    obtain ⟨ms, hm⟩ := tiles_ints fs _ c cs h.2 hl fun g hg => hf g (List.mem_cons_of_mem _ hg)
    refine ⟨ns ++ ms, ?_⟩
    rw [ho] at hn
    have e : cs.drop o = (cs.drop o).take (P.cellsOf f.type) ++ (cs.drop o).drop (P.cellsOf f.type) := (List.take_append_drop _ _).symm
    rw [e, hn, List.drop_drop, hm]
    simp [ints]
theorem trod_allI : ∀ (k fuel : Nat) (t : TypeId) (cs : List Value) (x : DataW H × List MemPlace), allI P k t = true → DataW.trod enc P w base sp hd fuel t cs = some x →
    (∃ ns, cs = ints ns) ∧ x.2 = []
  | 0, _, _, _, _, h, _ => by cases h
  | k + 1, fuel, t, cs, x, h, hx => by
    unfold allI at h
    split at h
    · rename_i ht
      obtain ⟨n, rfl, rfl, _⟩ := DataW.trod_int ht hx
      exact ⟨⟨[n], rfl⟩, rfl⟩
    · rename_i fs ht
      simp only [Bool.and_eq_true, List.all_eq_true] at h
      obtain ⟨xs, n, _, rfl, hl, hlen, hf⟩ := DataW.trod_struct ht hx
      have each : ∀ (i : Nat) (f : Field), fs[i]? = some f → ∃ y, xs[i]? = some y ∧ (∃ ns, (cs.drop f.offset).take (P.cellsOf f.type) = ints ns) ∧ y.2 = [] := by
        intro i f hi
        have hlt : i < xs.length := by rw [hlen]; exact (Array.getElem?_eq_some_iff.1 hi).1
        have hy : xs[i]? = some xs[i] := List.getElem?_eq_getElem hlt
        have := hf i f hi
        rw [hy] at this
        have hm : f ∈ fs.toList := by
          have := Array.mem_of_getElem? hi
          simpa using this
        obtain ⟨h1, h2⟩ := trod_allI k n f.type _ _ (h.1 f hm) this
        exact ⟨_, hy, h1, h2⟩
      constructor
      · obtain ⟨ns, hn⟩ := tiles_ints fs.toList 0 (P.cellsOf t) cs h.2 hl (by
          intro f hm
          obtain ⟨i, hi, hi'⟩ := List.getElem_of_mem hm
          obtain ⟨_, _, h1, _⟩ := each i f (by rw [← Array.getElem?_toList, List.getElem?_eq_getElem hi, hi'])
          exact h1)
        exact ⟨ns, by simpa using hn⟩
      · simp only [List.flatMap_eq_nil_iff]
        intro y hy
        obtain ⟨i, hi, hi'⟩ := List.getElem_of_mem hy
        have hlt : i < fs.size := by rw [← hlen]; exact hi
        obtain ⟨y', h1, _, h3⟩ := each i fs[i] (Array.getElem?_eq_getElem hlt)
        rw [List.getElem?_eq_getElem hi, hi'] at h1
        cases h1
        exact h3
    · cases h
theorem list3 {α : Type} {l : List α} (h : l.length = 3) : ∃ a b c, l = [a, b, c] := by
  match l, h with
  | [a, b, c], _ => exact ⟨a, b, c, rfl⟩
theorem trodAll_below (hl : laidOutB P = true) {W W' : World} (hb : Below W.heap.size W W') : ∀ {ts : List TypeId} {vs : List Value} {ds : List (DataW H)} {ps : List MemPlace},
    (∀ t ∈ ts, P.readableRec t = true ∧ t < P.types.size) → DataW.TrodAll enc P W 0 (fun _ => true) true ts vs ds ps → (∀ x ∈ ps, x.block < W.heap.size) →
    DataW.TrodAll enc P W' 0 (fun b => decide (b < W.heap.size)) true ts vs ds ps
  | [], _, _, _, _, h, _ => by
    obtain ⟨rfl, rfl, rfl⟩ := trodAll_nil h
    exact trodAll_mk0
  | t :: ts, _, _, _, hr, h, hlt => by
    obtain ⟨v, vs1, d, ds1, a, b, rfl, rfl, rfl, h1, h2⟩ := trodAll_cons h
    refine ⟨a, b, ?_, trodAll_below hl hb (fun u hu => hr u (List.mem_cons_of_mem _ hu)) h2 fun x hx => hlt x (List.mem_append_right _ hx), rfl⟩
    have ht := hr t (List.mem_cons_self ..)
    exact Below.trod hl ht.1 ht.2 h1 hb fun x hx => hlt x (List.mem_append_left _ hx)
/-- A LAW's END: it answers true; its arguments read as they did. -/
theorem law_post {fn : Func} {s : ChangeSpec} {apart fresh handsOn : Bool} {W W' : World} {args : Array Value} {ds gs : List (DataW H)} {before : List MemPlace} {tb : TypeId} (hl : laidOutB P = true)
    (hr : ∀ t ∈ fn.params.toList, P.readableRec t = true ∧ t < P.types.size) (hv : s.vars = []) (hrt : fn.resultTypes = #[tb]) (hbool : P.underlying tb = some .bool)
    (hfn : s.fn H ds = { results := [.lit (.bool true)], args := ds })
    (hW : DataW.Whole enc P fn.params.toList s.vars apart W args.toList ds gs before) (hb : Below W.heap.size W W') : s.post enc P fn apart fresh handsOn false W args (.bool true) W' := by
  have hW' := hW
  obtain ⟨p, q, hA, hV, rfl, _, _⟩ := hW'
  have hlt : ∀ x ∈ p ++ q, x.block < W.heap.size := fun x hx => hW.lt x hx
  rw [hv] at hV
  have hgs : gs = [] ∧ q = [] := by
    cases gs with
    | nil => exact ⟨rfl, hV⟩
    | cons g r => exact absurd hV (by intro h; cases h)
  obtain ⟨rfl, rfl⟩ := hgs
  have e : s.fn H (ds ++ []) = { results := [.lit (.bool true)], args := ds } := by rw [List.append_nil]; exact hfn
  refine ⟨ds, [], _, [], p, [], hW, ?_, ?_, ?_, hb.frame _, fun h => by cases h⟩
  · rw [e, hrt]
    exact trodAll_mk1 (shut_bool hbool true)
  · rw [e]
    exact trodAll_below hl hb hr hA fun x hx => hlt x (List.mem_append_left _ hx)
  · rw [e, hv]
    rfl
end
end Go.Eng
end

section
namespace Go.Proofs.YtcgdcocmnmkhlaaDoor
open Go.ChangeShapes Go.WideShapes Go.ChangeAt Go.RowKit Go.Eng Go.Fl
theorem own : ownKnob Tryd.prog.godebug = none := by kernel_rfl
theorem laidOut : laidOutB Tryd.prog = true := by kernel_rfl
theorem gLimits : Tryd.prog.globalNamed "criadera/flor.limits" = some 0 := by kernel_rfl
theorem tLimits : (Tryd.prog.globals[0]?).map (·.type) = some 134 := by kernel_rfl
def laid1 : List (String × DataW Unit) := [("criadera/flor.limits", Rows.laid_criadera_flor_limits)]
theorem door_met (os : Os) (args : Array Value) : laidMetH Tryd.prog laid1 ((World.doorLaid Tryd.prog 400 os).forCall (fun _ _ => 0) ⟨#[], args, []⟩).memory :=
  laidMetH_of_parts3 (fuel := 8) (laidMet_of_run' 8 (by kernel_rfl) (by kernel_rfl)) (by kernel_rfl) (by kernel_rfl)
theorem gw_of_laid {W : World} (h : laidMetH Tryd.prog laid1 W) : gw W := by
  have h1 : laidMet Tryd.prog laid1 W := h
  obtain ⟨ps, ⟨g0, t0, cs0, f0, p0, q0, hg0, ht0, hv0, hd0, _, _⟩, _, _⟩ := h1
  obtain rfl := Option.some.inj (gLimits.symm.trans hg0)
  obtain rfl := Option.some.inj (tLimits.symm.trans ht0)
  obtain ⟨xs, m1, rfl, hx1, hlen, hn3, hel⟩ := DataW.trod_array Tryd.underlying134 hd0
  have c3 : Tryd.prog.cellsOf 3 = 1 := by kernel_rfl
  have c134 : Tryd.prog.cellsOf 134 = 3 := by kernel_rfl
  have k0 := hel 0 (by decide)
  have k1 := hel 1 (by decide)
  have k2 := hel 2 (by decide)
  simp only [c3] at k0 k1 k2
  have hlen : cs0.toList.length = 3 := hlen.trans c134
  obtain ⟨c0, c1, c2, hc⟩ := list3 hlen
  obtain ⟨x0, x1, x2, hxs⟩ := list3 hn3
  subst hxs
  rw [hc] at k0 k1 k2
  have hx2 : [x0.1, x1.1, x2.1] = [.lit (.int .i64 100000), .lit (.int .i64 10000), .lit (.int .i64 100000)] := by
    simpa [Rows.laid_criadera_flor_limits] using (congrArg Prod.fst hx1).symm
  simp only [List.cons.injEq, and_true] at hx2
  obtain ⟨a0, e0, f0', _⟩ := DataW.trod_int Tryd.underlying3 (show DataW.trod _ Tryd.prog W 0 _ false m1 3 [c0] = some x0 from k0)
  obtain ⟨a1, e1, f1, _⟩ := DataW.trod_int Tryd.underlying3 (show DataW.trod _ Tryd.prog W 0 _ false m1 3 [c1] = some x1 from k1)
  obtain ⟨a2, e2, f2, _⟩ := DataW.trod_int Tryd.underlying3 (show DataW.trod _ Tryd.prog W 0 _ false m1 3 [c2] = some x2 from k2)
  have g0 : a0 = 100000 := by have := hx2.1; rw [f0'] at this; simpa using this
  have g1 : a1 = 10000 := by have := hx2.2.1; rw [f1] at this; simpa using this
  have g2 : a2 = 100000 := by have := hx2.2.2; rw [f2] at this; simpa using this
  subst g0 g1 g2
  simp only [List.cons.injEq, and_true] at e0 e1 e2
  subst e0 e1 e2
  have z0 := World.var?_cell hg0 hv0 0
  have z1 := World.var?_cell hg0 hv0 1
  have z2 := World.var?_cell hg0 hv0 2
  rw [← Array.getElem?_toList, hc] at z0 z1 z2
  refine ⟨?_, z0, z1, z2⟩
  apply Classical.byContradiction
  intro hn
  have hs : W.heap[0]? = none := Array.getElem?_eq_none (by omega)
  simp [World.cell?, hs] at z0
end Go.Proofs.YtcgdcocmnmkhlaaDoor
end

section
set_option linter.unusedVariables false
set_option linter.unusedSimpArgs false
namespace Go.V
open Go Go.ChangeShapes Go.WideShapes Go.RowKit Go.ChangeAt
open Go.Eng (allI ints trod_allI)
section
variable {H : Type} {enc : TypeId × Value → H} {P : Program} {w : World} {base : Nat} {sp : Nat → Bool} {hd : Bool}
/-- A slice of elements of whole numbers. -/
theorem open_slI {r : Reach} {b0 : Nat} {t e : TypeId} {v : Value} {d : DataW H} {p : List MemPlace} (k n : Nat) (ht : P.underlying t = some (.slice e)) (ha : allI P k e = true) (hn : P.cellsOf e = n) (hn0 : 0 < n)
    (hv : Value.okWide P w r b0 t v) (h : DataW.Trod enc P w base sp hd t v d p) : ∃ (len : Nat) (f : Nat → Nat → Int), (D.sl false len n fun i j => .int .i64 (f i j)).rel (fullK w) v := by
  obtain ⟨a0, len0, cap0, rfl⟩ := okWide_slice ht hv
  obtain ⟨fuel, hf⟩ := h
  have hc : (Value.slice a0 len0 cap0).cells.toList = [Value.slice a0 len0 cap0] := rfl
  rw [hc] at hf
  rcases DataW.trod_slice ht hf with ⟨h1, _⟩ | ⟨a, len, cap, elems, rest, n', _, h1, _, _, hlc, _, hel, hget, _⟩
  · simp only [List.cons.injEq, Value.slice.injEq, and_true] at h1
    obtain ⟨rfl, rfl, rfl⟩ := h1
    exact ⟨0, fun _ _ => 0, .inl ⟨rfl, rfl, rfl⟩⟩
  · simp only [List.cons.injEq, Value.slice.injEq, and_true] at h1
    obtain ⟨rfl, rfl, rfl⟩ := h1
    rw [hn] at hget
    have each : ∀ i, i < len0 → ∃ ns : List Int, ∀ j, j < n → w.cell? ((a.add (i * n)).add j) = some (.int .i64 (ns.getD j 0)) := by
      intro i hi
      have hg := hget i hi
      have hlt : i < elems.length := by omega
      rw [List.getElem?_eq_getElem hlt] at hg
      simp only [Option.bind_eq_some_iff] at hg
      obtain ⟨cs, hcs, hx⟩ := hg
      obtain ⟨⟨ns, hns⟩, _⟩ := trod_allI k n' e cs _ ha hx
      obtain ⟨_, hl, hcell⟩ := World.cells?_some hcs
      refine ⟨ns, fun j hj => ?_⟩
      rw [hcell j hj, hns]
      have hl' : ns.length = n := by rw [hns] at hl; simpa [ints] using hl
      have hj' : j < ns.length := by omega
      simp [ints, List.getElem?_map, List.getD, List.getElem?_eq_getElem hj']
    have spot0 : 0 < len0 → a.spot = none := by
      intro hp
      have h9 := Classical.choose_spec (each 0 hp) 0 hn0
      have := World.cell?_spot h9
      simpa [Addr.add] using this
    refine ⟨len0, fun i j => if h : i < len0 then (Classical.choose (each i h)).getD j 0 else 0, .inr ⟨a, cap0, rfl, hlc, spot0, fun i j hi hj => ?_⟩⟩
    have hs := Classical.choose_spec (each i hi) j hj
    have hp : a.spot = none := spot0 (by omega)
    have e1 : (a.add (i * n)).add j = ⟨a.block, a.off + i * n + j, none⟩ := by
      obtain ⟨b, off, spot⟩ := a
      simp only at hp
      subst hp
      rw [Go.WideShapes.add_plain, Go.WideShapes.add_plain]
    rw [e1] at hs
    refine ⟨_, fullK_cell hs, ?_⟩
    simp only [dif_pos hi]
    rfl
end
end Go.V
end
