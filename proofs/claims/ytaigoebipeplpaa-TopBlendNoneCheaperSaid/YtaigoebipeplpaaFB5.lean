/- The parts of the engines, of their contracts and of the plain laws that the claim rests on: B20, B22, B23, B24, B25, B26, B27, B28, B29, B30, B31, B32, B33, B34, B35, B36, B37, B38, B39, B40, P5, L1, L2, L3, L4. -/
import Derived.Test.YtaigoebipeplpaaFA4
set_option linter.unusedVariables false
set_option linter.unusedSimpArgs false
section
set_option linter.unusedVariables false
set_option linter.unusedSimpArgs false
set_option maxRecDepth 100000
namespace Go.Bl
open Go.V Go.Proofs
def cAt (l : List Cask) (x : Int) : Cask := l.getD x.toNat dfC
theorem cAt_nat (l : List Cask) (k : Nat) : cAt l (k : Int) = l.getD k dfC := rfl
def kF (c : Cask) : Nat → Nat → D := fun i j => List.getD [D.str c.nm, dI c.vol, dI c.cost, dI c.k0, dI c.k1, dI c.k2, dI c.k3] (3 + (i + j)) .nilp
namespace M
def same (a b : Cask) : Bool := a.nm.data.toList == b.nm.data.toList
def dup (l : List Cask) (i : Nat) : Bool := (List.range i).any fun j => same (l.getD j dfC) (l.getD i dfC)
def kindsOk (c : Cask) : Bool := allB isValue [c.k0, c.k1, c.k2, c.k3]
def rightC (c : Cask) : Bool := cond (within c.vol 0 10000) (cond (within c.cost 0 1000) (kindsOk c) false) false
def caskErr (l : List Cask) (i : Nat) : Int := first [unl (isName (l.getD i dfC).nm) 4, unl (!dup l i) 5, unl (rightC (l.getD i dfC)) 2]
def casksFrom (l : List Cask) : Nat → Nat → Int × Int
  | 0, _ => (0, 0)
  | n + 1, i => cond (caskErr l i != 0) ((i : Int), caskErr l i) (casksFrom l n (i + 1))
def checkCasks (l : List Cask) : Int × Int := cond (decide (l.length = 0)) (0, 10) (cond (decide (10 < l.length)) (0, 8) (casksFrom l l.length 0))
end M
theorem same_eq (a b : Cask) : (a.nm.toList == b.nm.toList) = M.same a b := by unfold M.same; rw [ba_toList, ba_toList]
theorem dup_yes {l : List Cask} {i j : Nat} (hj : j < i) (h : M.same (l.getD j dfC) (l.getD i dfC) = true) : M.dup l i = true := List.any_eq_true.2 ⟨j, List.mem_range.2 hj, h⟩
theorem dup_no {l : List Cask} {i : Nat} (h : ∀ j, j < i → M.same (l.getD j dfC) (l.getD i dfC) = false) : M.dup l i = false := by
  apply Bool.eq_false_iff.2
  intro e
  obtain ⟨j, hj, h'⟩ := List.any_eq_true.1 e
  rw [h j (List.mem_range.1 hj)] at h'
  cases h'
theorem caskErr_eq {l : List Cask} {k : Nat} {a b c : Bool} (h1 : M.isName (l.getD k dfC).nm = a) (h2 : M.dup l k = b) (h3 : M.rightC (l.getD k dfC) = c) : M.caskErr l k = M.first [M.unl a 4, M.unl (!b) 5, M.unl c 2] := by
  unfold M.caskErr; rw [h1, h2, h3]
theorem from_hit {l : List Cask} {n k : Nat} (hk : k < n) (h : M.caskErr l k ≠ 0) : M.casksFrom l (n - k) k = ((k : Int), M.caskErr l k) := by
  obtain ⟨m, hm⟩ : ∃ m, n - k = m + 1 := ⟨n - k - 1, by omega⟩
  rw [hm]
  have : (M.caskErr l k != 0) = true := bne_iff_ne.2 h
  simp only [M.casksFrom, this, cond_true]
theorem from_next {l : List Cask} {n k : Nat} (hk : k < n) (h : M.caskErr l k = 0) : M.casksFrom l (n - k) k = M.casksFrom l (n - (k + 1)) (k + 1) := by
  obtain ⟨m, hm⟩ : ∃ m, n - k = m + 1 := ⟨n - k - 1, by omega⟩
  rw [hm, show n - (k + 1) = m by omega]
  have : (M.caskErr l k != 0) = false := by rw [h]; rfl
  simp only [M.casksFrom, this, cond_false]
theorem t35 (n lo hi : Int) : runFnX Try.prog G0 (lookS []) (fun _ => []) [] 1 40 3 35 Try.f35 [.c (dI n), .c (dI lo), .c (dI hi)] =
    T.br (decide (lo ≤ n)) (T.ret [Ar.c (D.bool (decide (n ≤ hi)))]) (T.ret [Ar.c (D.bool false)]) := by kernel_rfl
def v35 : Nat × Sm := (35, fokSm dom102)
theorem C35 : FOK Try.prog G0 gw 35 dom102 := by
  intro ags p r hd hp κ w xs hw hl hG hx
  unfold dom102 at hd
  split at hd
  · rename_i n lo hi
    simp only [Option.some.injEq, Prod.mk.injEq] at hd
    obtain ⟨rfl, rfl⟩ := hd
    refine fokX_fin mixed gw_stable (sl := []) trivial Try.func35 hw hl hG hx (agsEqv_refl _) rfl (t35 n lo hi) ⟨fun h => ?_, fun h => ?_⟩
    · unfold M.within; rw [h]; exact rsEqv_refl _
    · unfold M.within; rw [h]; exact rsEqv_refl _
  · cases hd
theorem S35 : SumOK Try.prog G0 gw 35 (fokSm dom102) := fok_sum Try.func35 rfl C35
def tr47 (l : List Cask) : T (List Ar) :=
    T.br (M.first [M.unl (decide ((Nat.cast (R := Int) l.length) > (0 : Int))) (10 : Int), M.unl (decide ((Nat.cast (R := Int) l.length) ≤ (10 : Int))) (8 : Int)] != (0 : Int)) (T.ret [Ar.c (D.int IntKind.i64 (0 : Int)), Ar.c (D.int IntKind.i64 (M.first [M.unl (decide ((Nat.cast (R := Int) l.length) > (0 : Int))) (10 : Int), M.unl (decide ((Nat.cast (R := Int) l.length) ≤ (10 : Int))) (8 : Int)]))]) (T.loop (Int × PUnit) ((0 : Int), PUnit.unit) fun (x : Int × PUnit) => T.br (decide (x.1 < (Nat.cast (R := Int) l.length))) (T.need ((0 : Int) ≤ x.1) (T.need (x.1 < (Nat.cast (R := Int) l.length)) (T.need ((0 : Int) ≤ (0 : Int)) (T.need ((0 : Int) ≤ x.1) (T.need (x.1 ≤ (Nat.cast (R := Int) l.length)) (T.loop (Int × PUnit) ((0 : Int), PUnit.unit) fun (x_1 : Int × PUnit) => T.br (decide (x_1.1 < (Nat.cast (R := Int) (Int.toNat (x.1 - (0 : Int)))))) (T.need ((0 : Int) ≤ x_1.1) (T.need (x_1.1 < (Nat.cast (R := Int) (Int.toNat (x.1 - (0 : Int))))) (T.br (ByteArray.toList (List.getD l (0 + Int.toNat (x_1.1)) dfC).1 == ByteArray.toList (cAt l (x.1)).1) (T.br (M.within (cAt l (x.1)).2 (0 : Int) (10000 : Int)) (T.br (M.within (cAt l (x.1)).3 (0 : Int) (1000 : Int)) (T.need (Enc.Is eI (4 : Nat) (kF (cAt l (x.1)))) (T.need ((4 : Nat) ≤ (1000000 : Nat)) (T.need (ByteArray.size (cAt l (x.1)).1 ≤ (1000000 : Nat)) (T.br (M.first [M.unl (M.isName (cAt l (x.1)).1) (4 : Int), M.unl (!decide (x_1.1 ≥ (0 : Int))) (5 : Int), M.unl (M.allB M.isValue (Enc.list eI (4 : Nat) (kF (cAt l (x.1))))) (2 : Int)] != (0 : Int)) (T.ret (Sum.inr (Sum.inr [Ar.c (D.int IntKind.i64 (x.1)), Ar.c (D.int IntKind.i64 (M.first [M.unl (M.isName (cAt l (x.1)).1) (4 : Int), M.unl (!decide (x_1.1 ≥ (0 : Int))) (5 : Int), M.unl (M.allB M.isValue (Enc.list eI (4 : Nat) (kF (cAt l (x.1))))) (2 : Int)]))]))) (T.ret (Sum.inr (Sum.inl (IntKind.i64.wrap (x.1 + (1 : Int)), PUnit.unit)))))))) (T.need (ByteArray.size (cAt l (x.1)).1 ≤ (1000000 : Nat)) (T.br (M.first [M.unl (M.isName (cAt l (x.1)).1) (4 : Int), M.unl (!decide (x_1.1 ≥ (0 : Int))) (5 : Int), (2 : Int)] != (0 : Int)) (T.ret (Sum.inr (Sum.inr [Ar.c (D.int IntKind.i64 (x.1)), Ar.c (D.int IntKind.i64 (M.first [M.unl (M.isName (cAt l (x.1)).1) (4 : Int), M.unl (!decide (x_1.1 ≥ (0 : Int))) (5 : Int), (2 : Int)]))]))) (T.ret (Sum.inr (Sum.inl (IntKind.i64.wrap (x.1 + (1 : Int)), PUnit.unit))))))) (T.need (ByteArray.size (cAt l (x.1)).1 ≤ (1000000 : Nat)) (T.br (M.first [M.unl (M.isName (cAt l (x.1)).1) (4 : Int), M.unl (!decide (x_1.1 ≥ (0 : Int))) (5 : Int), (2 : Int)] != (0 : Int)) (T.ret (Sum.inr (Sum.inr [Ar.c (D.int IntKind.i64 (x.1)), Ar.c (D.int IntKind.i64 (M.first [M.unl (M.isName (cAt l (x.1)).1) (4 : Int), M.unl (!decide (x_1.1 ≥ (0 : Int))) (5 : Int), (2 : Int)]))]))) (T.ret (Sum.inr (Sum.inl (IntKind.i64.wrap (x.1 + (1 : Int)), PUnit.unit))))))) (T.ret (Sum.inl (IntKind.i64.wrap (x_1.1 + (1 : Int)), PUnit.unit)))))) (T.br (M.within (cAt l (x.1)).2 (0 : Int) (10000 : Int)) (T.br (M.within (cAt l (x.1)).3 (0 : Int) (1000 : Int)) (T.need (Enc.Is eI (4 : Nat) (kF (cAt l (x.1)))) (T.need ((4 : Nat) ≤ (1000000 : Nat)) (T.need (ByteArray.size (cAt l (x.1)).1 ≤ (1000000 : Nat)) (T.br (M.first [M.unl (M.isName (cAt l (x.1)).1) (4 : Int), (0 : Int), M.unl (M.allB M.isValue (Enc.list eI (4 : Nat) (kF (cAt l (x.1))))) (2 : Int)] != (0 : Int)) (T.ret (Sum.inr (Sum.inr [Ar.c (D.int IntKind.i64 (x.1)), Ar.c (D.int IntKind.i64 (M.first [M.unl (M.isName (cAt l (x.1)).1) (4 : Int), (0 : Int), M.unl (M.allB M.isValue (Enc.list eI (4 : Nat) (kF (cAt l (x.1))))) (2 : Int)]))]))) (T.ret (Sum.inr (Sum.inl (IntKind.i64.wrap (x.1 + (1 : Int)), PUnit.unit)))))))) (T.need (ByteArray.size (cAt l (x.1)).1 ≤ (1000000 : Nat)) (T.br (M.first [M.unl (M.isName (cAt l (x.1)).1) (4 : Int), (0 : Int), (2 : Int)] != (0 : Int)) (T.ret (Sum.inr (Sum.inr [Ar.c (D.int IntKind.i64 (x.1)), Ar.c (D.int IntKind.i64 (M.first [M.unl (M.isName (cAt l (x.1)).1) (4 : Int), (0 : Int), (2 : Int)]))]))) (T.ret (Sum.inr (Sum.inl (IntKind.i64.wrap (x.1 + (1 : Int)), PUnit.unit))))))) (T.need (ByteArray.size (cAt l (x.1)).1 ≤ (1000000 : Nat)) (T.br (M.first [M.unl (M.isName (cAt l (x.1)).1) (4 : Int), (0 : Int), (2 : Int)] != (0 : Int)) (T.ret (Sum.inr (Sum.inr [Ar.c (D.int IntKind.i64 (x.1)), Ar.c (D.int IntKind.i64 (M.first [M.unl (M.isName (cAt l (x.1)).1) (4 : Int), (0 : Int), (2 : Int)]))]))) (T.ret (Sum.inr (Sum.inl (IntKind.i64.wrap (x.1 + (1 : Int)), PUnit.unit))))))))))))) (T.ret (Sum.inr [Ar.c (D.int IntKind.i64 (0 : Int)), Ar.c (D.int IntKind.i64 (0 : Int))])))
theorem t47 (q : Bool) (l : List Cask) : runFnX Try.prog G0 (lookS [v64, v80, v101, v102, v103, v104]) (fun f => match Nat.beq f 47, Nat.beq f 126 with | true, _ => [(5, [.slot 25 (.int .i64)], none)] | _, true => [(2, [.slot 8 (.int .i64)], none)] | _, _ => []) [99, 126, 100] 1 40 6 47 Try.f47 [.c (.sl q l.length 7 (eC.F l))] =
    tr47 l := by kernel_rfl
def tr48 (l : List Cask) : T (List Ar) :=
    T.br ((Nat.cast (R := Int) l.length) == (0 : Int)) (T.ret [Ar.c (D.int IntKind.i64 (0 : Int)), Ar.c (D.int IntKind.i64 (10 : Int))]) (T.br (decide ((Nat.cast (R := Int) l.length) > (10 : Int))) (T.ret [Ar.c (D.int IntKind.i64 (0 : Int)), Ar.c (D.int IntKind.i64 (8 : Int))]) (T.loop (Int × PUnit) ((0 : Int), PUnit.unit) fun (x : Int × PUnit) => T.br (decide (x.1 < (Nat.cast (R := Int) l.length))) (T.need ((0 : Int) ≤ x.1) (T.need (x.1 < (Nat.cast (R := Int) l.length)) (T.need (ByteArray.size (cAt l (x.1)).1 ≤ (1000000 : Nat)) (T.br (!M.isName (cAt l (x.1)).1) (T.ret (Sum.inr [Ar.c (D.int IntKind.i64 (x.1)), Ar.c (D.int IntKind.i64 (4 : Int))])) (T.loop (Int × PUnit) ((0 : Int), PUnit.unit) fun (x_1 : Int × PUnit) => T.br (decide (x_1.1 < x.1)) (T.need ((0 : Int) ≤ x_1.1) (T.need (x_1.1 < (Nat.cast (R := Int) l.length)) (T.need ((0 : Int) ≤ x.1) (T.need (x.1 < (Nat.cast (R := Int) l.length)) (T.br (ByteArray.toList (cAt l (x_1.1)).1 == ByteArray.toList (cAt l (x.1)).1) (T.ret (Sum.inr (Sum.inr [Ar.c (D.int IntKind.i64 (x.1)), Ar.c (D.int IntKind.i64 (5 : Int))]))) (T.ret (Sum.inl (IntKind.i64.wrap (x_1.1 + (1 : Int)), PUnit.unit)))))))) (T.need ((0 : Int) ≤ x.1) (T.need (x.1 < (Nat.cast (R := Int) l.length)) (T.br (M.within (cAt l (x.1)).2 (0 : Int) (10000 : Int)) (T.need ((0 : Int) ≤ x.1) (T.need (x.1 < (Nat.cast (R := Int) l.length)) (T.br (M.within (cAt l (x.1)).3 (0 : Int) (1000 : Int)) (T.need ((0 : Int) ≤ x.1) (T.need (x.1 < (Nat.cast (R := Int) l.length)) (T.need ((0 : Int) ≤ (0 : Int)) (T.need ((0 : Int) < (4 : Int)) (T.br (M.within (cAt l (x.1)).4 (0 : Int) (1000 : Int)) (T.need ((0 : Int) ≤ x.1) (T.need (x.1 < (Nat.cast (R := Int) l.length)) (T.need ((0 : Int) ≤ (1 : Int)) (T.need ((1 : Int) < (4 : Int)) (T.br (M.within (cAt l (x.1)).5 (0 : Int) (1000 : Int)) (T.need ((0 : Int) ≤ x.1) (T.need (x.1 < (Nat.cast (R := Int) l.length)) (T.need ((0 : Int) ≤ (2 : Int)) (T.need ((2 : Int) < (4 : Int)) (T.br (M.within (cAt l (x.1)).6 (0 : Int) (1000 : Int)) (T.need ((0 : Int) ≤ x.1) (T.need (x.1 < (Nat.cast (R := Int) l.length)) (T.need ((0 : Int) ≤ (3 : Int)) (T.need ((3 : Int) < (4 : Int)) (T.br (!M.within (cAt l (x.1)).7 (0 : Int) (1000 : Int)) (T.ret (Sum.inr (Sum.inr [Ar.c (D.int IntKind.i64 (x.1)), Ar.c (D.int IntKind.i64 (2 : Int))]))) (T.ret (Sum.inr (Sum.inl (IntKind.i64.wrap (x.1 + (1 : Int)), PUnit.unit))))))))) (T.ret (Sum.inr (Sum.inr [Ar.c (D.int IntKind.i64 (x.1)), Ar.c (D.int IntKind.i64 (2 : Int))])))))))) (T.ret (Sum.inr (Sum.inr [Ar.c (D.int IntKind.i64 (x.1)), Ar.c (D.int IntKind.i64 (2 : Int))])))))))) (T.ret (Sum.inr (Sum.inr [Ar.c (D.int IntKind.i64 (x.1)), Ar.c (D.int IntKind.i64 (2 : Int))])))))))) (T.ret (Sum.inr (Sum.inr [Ar.c (D.int IntKind.i64 (x.1)), Ar.c (D.int IntKind.i64 (2 : Int))])))))) (T.ret (Sum.inr (Sum.inr [Ar.c (D.int IntKind.i64 (x.1)), Ar.c (D.int IntKind.i64 (2 : Int))]))))))))))) (T.ret (Sum.inr [Ar.c (D.int IntKind.i64 (0 : Int)), Ar.c (D.int IntKind.i64 (0 : Int))]))))
theorem t48 (q : Bool) (l : List Cask) : runFnX Try.prog G0 (lookS [v35, v105]) (fun _ => [(6, [.slot 4 (.int .i64)], none), (11, [.slot 5 (.int .i64)], none), (1000060, [], none), (3000062, [], none)]) [] 1 40 6 48 Try.f48 [.c (.sl q l.length 7 (eC.F l))] =
    tr48 l := by kernel_rfl
abbrev resP (x : Int × Int) : List Ar := [rI x.1, rI x.2]
theorem rest47 {l : List Cask} {k : Nat} (hk : k < l.length) (hn : ∀ c, c ∈ l → c.nm.size ≤ 1000000) {b : Bool} (hdup : M.dup l k = b) {α : Type} {Q : α → Prop} {yes : Int → α} {no : α}
    (hyes : M.caskErr l k ≠ 0 → Q (yes (M.caskErr l k))) (hno : M.caskErr l k = 0 → Q no) :
    (T.br (M.within (cAt l k).vol 0 10000) (T.br (M.within (cAt l k).cost 0 1000) (T.need (Enc.Is eI 4 (kF (cAt l k))) (T.need ((4 : Nat) ≤ 1000000) (T.need ((cAt l k).nm.size ≤ 1000000)
        (T.br (M.first [M.unl (M.isName (cAt l k).nm) 4, M.unl (!b) 5, M.unl (M.allB M.isValue (eI.list 4 (kF (cAt l k)))) 2] != 0) (.ret (yes (M.first [M.unl (M.isName (cAt l k).nm) 4, M.unl (!b) 5, M.unl (M.allB M.isValue (eI.list 4 (kF (cAt l k)))) 2]))) (.ret no)))))
      (T.need ((cAt l k).nm.size ≤ 1000000) (T.br (M.first [M.unl (M.isName (cAt l k).nm) 4, M.unl (!b) 5, 2] != 0) (.ret (yes (M.first [M.unl (M.isName (cAt l k).nm) 4, M.unl (!b) 5, 2]))) (.ret no))))
      (T.need ((cAt l k).nm.size ≤ 1000000) (T.br (M.first [M.unl (M.isName (cAt l k).nm) 4, M.unl (!b) 5, 2] != 0) (.ret (yes (M.first [M.unl (M.isName (cAt l k).nm) 4, M.unl (!b) 5, 2]))) (.ret no)))).wp Q := by
  have hs : (cAt l k).nm.size ≤ 1000000 := hn _ (by rw [cAt_nat, List.getD_eq_getElem?_getD, List.getElem?_eq_getElem hk]; exact List.getElem_mem hk)
  have fin : ∀ e : Int, M.caskErr l k = e → (T.br (e != 0) (.ret (yes e)) (.ret no) : T α).wp Q := by
    intro e he
    refine wp_br (fun h => ?_) (fun h => ?_)
    · rw [← he] at h ⊢; exact hyes (bne_iff_ne.1 h)
    · rw [← he] at h; exact hno (by simpa using h)
  refine wp_br (fun h1 => wp_br (fun h2 => ⟨?_, by decide, hs, ?_⟩) (fun h2 => ⟨hs, ?_⟩)) (fun h1 => ⟨hs, ?_⟩)
  · intro i j hi hj
    obtain rfl : j = 0 := Nat.lt_one_iff.1 hj
    match i, hi with
    | 0, _ => exact D.eqv_refl _
    | 1, _ => exact D.eqv_refl _
    | 2, _ => exact D.eqv_refl _
    | 3, _ => exact D.eqv_refl _
  · refine fin _ (caskErr_eq rfl hdup ?_)
    unfold M.rightC
    rw [cAt_nat] at h1 h2
    rw [h1, h2]; rfl
  · refine fin _ (caskErr_eq (c := false) rfl hdup ?_)
    unfold M.rightC
    rw [cAt_nat] at h1 h2
    rw [h1, h2]; rfl
  · refine fin _ (caskErr_eq (c := false) rfl hdup ?_)
    unfold M.rightC
    rw [cAt_nat] at h1
    rw [h1]; rfl
theorem w47 (l : List Cask) (hn : ∀ c, c ∈ l → c.nm.size ≤ 1000000) : (tr47 l).wp (fun rs => rsEqv rs (resP (M.checkCasks l))) := by
  unfold tr47
  refine wp_br (fun hb => ?_) (fun hb => ?_)
  · have : M.checkCasks l = (0, M.first [M.unl (decide ((l.length : Int) > 0)) 10, M.unl (decide ((l.length : Int) ≤ 10)) 8]) := by
      unfold M.checkCasks
      by_cases h0 : l.length = 0
      · rw [h0]; rfl
      · by_cases h1 : 10 < l.length
        · rw [decide_eq_false h0, decide_eq_true h1, decide_eq_true (by omega : (l.length : Int) > 0), decide_eq_false (by omega : ¬ (l.length : Int) ≤ 10)]; rfl
        · rw [decide_eq_true (by omega : (l.length : Int) > 0), decide_eq_true (by omega : (l.length : Int) ≤ 10)] at hb
          cases hb
    rw [this]; exact rsEqv_refl _
  · have h0 : ¬ l.length = 0 := by
      intro h0
      rw [h0] at hb; cases hb
    have h10 : ¬ 10 < l.length := by
      intro h1
      rw [decide_eq_true (by omega : (l.length : Int) > 0), decide_eq_false (by omega : ¬ (l.length : Int) ≤ 10)] at hb
      cases hb
    have hchk : M.checkCasks l = M.casksFrom l (l.length - 0) 0 := by
      unfold M.checkCasks
      rw [decide_eq_false h0, decide_eq_false h10]; rfl
    rw [hchk]
    refine range_wp (n := l.length) (fun k _ => M.casksFrom l (l.length - 0) 0 = M.casksFrom l (l.length - k) k) rfl ?_
    rintro k u hk hI
    refine wp_br (fun hb => ?_) (fun hb => ?_)
    · have hlt := lt_of_dec hb
      refine ⟨by show (0 : Int) ≤ k; omega, by show (k : Int) < l.length; omega, Int.le_refl _, by show (0 : Int) ≤ k; omega, by show (k : Int) ≤ l.length; omega, ?_⟩
      have hyes : ∀ (b : Bool), M.caskErr l k ≠ 0 → rsEqv [Ar.c (dI k), Ar.c (dI (M.caskErr l k))] (resP (M.casksFrom l (l.length - 0) 0)) := by
        intro _ h
        rw [hI, from_hit hlt h]
        exact rsEqv_refl _
      have hno : M.caskErr l k = 0 → k < l.length ∧ IntKind.i64.wrap ((k : Int) + 1) = ((k + 1 : Nat) : Int) ∧ M.casksFrom l (l.length - 0) 0 = M.casksFrom l (l.length - (k + 1)) (k + 1) := fun h => ⟨hlt, wrap_succ (by omega), hI.trans (from_next hlt h)⟩
      refine range_wp (n := k) (fun j _ => ∀ i, i < j → M.same (l.getD i dfC) (l.getD k dfC) = false) (fun i hi => by omega) ?_
      rintro j u hj hJ
      have hkk : (Int.toNat ((k : Int) - 0)) = k := by omega
      simp only [hkk]
      refine wp_br (fun hb => ?_) (fun hb => ?_)
      · have hjlt := lt_of_dec hb
        refine ⟨by omega, by omega, ?_⟩
        refine wp_br (fun hs => ?_) (fun hs => ?_)
        · have hs : M.same (l.getD j dfC) (l.getD k dfC) = true := by rw [Nat.zero_add] at hs; rw [← same_eq]; exact hs
          have e : (!decide ((j : Int) ≥ 0)) = !true := by rw [decide_eq_true (by omega)]
          simp only [e]
          exact rest47 (yes := fun e => Sum.inr (Sum.inr [Ar.c (dI k), Ar.c (dI e)])) hlt hn (dup_yes hjlt hs) (fun h => hyes true h) hno
        · have hs : M.same (l.getD j dfC) (l.getD k dfC) = false := by rw [Nat.zero_add] at hs; rw [← same_eq]; exact hs
          refine ⟨hjlt, wrap_succ (by omega), fun i hi => ?_⟩
          rcases Nat.lt_or_ge i j with h | h
          · exact hJ i h
          · obtain rfl : i = j := by omega
            exact hs
      · have hge := ge_of_dec hb
        obtain rfl : j = k := by omega
        exact rest47 (b := decide ((-1 : Int) ≥ 0)) (yes := fun e => Sum.inr (Sum.inr [Ar.c (dI j), Ar.c (dI e)])) hlt hn (dup_no hJ) (fun h => hyes true h) hno
    · have hge := ge_of_dec hb
      obtain rfl : k = l.length := by omega
      show rsEqv _ _
      rw [hI, Nat.sub_self]
      exact rsEqv_refl _
theorem w48 (l : List Cask) (hn : ∀ c, c ∈ l → c.nm.size ≤ 1000000) : (tr48 l).wp (fun rs => rsEqv rs (resP (M.checkCasks l))) := by
  unfold tr48
  refine wp_br (fun hb => ?_) (fun hb => wp_br (fun hb1 => ?_) (fun hb1 => ?_))
  · have h0 : l.length = 0 := by simpa using hb
    have : M.checkCasks l = (0, 10) := by unfold M.checkCasks; rw [decide_eq_true h0]; rfl
    rw [this]; exact rsEqv_refl _
  · have h0 : ¬ l.length = 0 := by simpa using hb
    have h1 : 10 < l.length := by have h1 : (l.length : Int) > 10 := by simpa using hb1
                                  omega
    have : M.checkCasks l = (0, 8) := by unfold M.checkCasks; rw [decide_eq_false h0, decide_eq_true h1]; rfl
    rw [this]; exact rsEqv_refl _
  · have h0 : ¬ l.length = 0 := by simpa using hb
    have h1 : ¬ 10 < l.length := by have h1 : ¬ (l.length : Int) > 10 := by simpa using hb1
                                    omega
    have hchk : M.checkCasks l = M.casksFrom l (l.length - 0) 0 := by
      unfold M.checkCasks
      rw [decide_eq_false h0, decide_eq_false h1]; rfl
    rw [hchk]
    refine range_wp (n := l.length) (fun k _ => M.casksFrom l (l.length - 0) 0 = M.casksFrom l (l.length - k) k) rfl ?_
    rintro k u hk hI
    refine wp_br (fun hb => ?_) (fun hb => ?_)
    · have hlt := lt_of_dec hb
      have g1 : (0 : Int) ≤ ((k : Int), u).1 := by show (0 : Int) ≤ k; omega
      have g2 : ((k : Int), u).1 < (l.length : Int) := by show (k : Int) < l.length; omega
      have hs : (cAt l k).nm.size ≤ 1000000 := hn _ (by rw [cAt_nat, List.getD_eq_getElem?_getD, List.getElem?_eq_getElem hlt]; exact List.getElem_mem hlt)
      have hit : ∀ e : Int, M.caskErr l k = e → e ≠ 0 → rsEqv [Ar.c (dI k), Ar.c (dI e)] (resP (M.casksFrom l (l.length - 0) 0)) := by
        intro e he h
        subst he
        rw [hI, from_hit hlt h]
        exact rsEqv_refl _
      refine ⟨g1, g2, hs, wp_br (fun hnm => ?_) (fun hnm => ?_)⟩
      · have hnm : M.isName (l.getD k dfC).nm = false := by simpa [cAt_nat] using hnm
        refine hit 4 ?_ (by decide)
        rw [caskErr_eq hnm rfl rfl]; rfl
      · have hnm : M.isName (l.getD k dfC).nm = true := by simpa [cAt_nat] using hnm
        refine range_wp (n := k) (fun j _ => ∀ i, i < j → M.same (l.getD i dfC) (l.getD k dfC) = false) (fun i hi => by omega) ?_
        rintro j u' hj hJ
        refine wp_br (fun hb => ?_) (fun hb => ?_)
        · have hjlt := lt_of_dec hb
          refine ⟨by show (0 : Int) ≤ j; omega, by show (j : Int) < l.length; omega, g1, g2, wp_br (fun hs => ?_) (fun hs => ?_)⟩
          · have hs : M.same (l.getD j dfC) (l.getD k dfC) = true := by rw [← same_eq]; exact hs
            refine hit 5 ?_ (by decide)
            rw [caskErr_eq hnm (dup_yes hjlt hs) rfl]; rfl
          · have hs : M.same (l.getD j dfC) (l.getD k dfC) = false := by rw [← same_eq]; exact hs
            refine ⟨hjlt, wrap_succ (by omega), fun i hi => ?_⟩
            rcases Nat.lt_or_ge i j with h | h
            · exact hJ i h
            · obtain rfl : i = j := by omega
              exact hs
        · have hge := ge_of_dec hb
          obtain rfl : j = k := by omega
          have hd := dup_no hJ
          have two : M.rightC (l.getD j dfC) = false → rsEqv [Ar.c (dI j), Ar.c (dI 2)] (resP (M.casksFrom l (l.length - 0) 0)) := fun h => hit 2 (by rw [caskErr_eq hnm hd h]; rfl) (by decide)
          refine ⟨g1, g2, wp_br (fun a1 => ⟨g1, g2, wp_br (fun a2 => ⟨g1, g2, by decide, by decide, wp_br (fun a3 => ⟨g1, g2, by decide, by decide, wp_br (fun a4 => ⟨g1, g2, by decide, by decide, wp_br (fun a5 => ⟨g1, g2, by decide, by decide, wp_br (fun a6 => ?_) (fun a6 => ?_)⟩) (fun a5 => ?_)⟩) (fun a4 => ?_)⟩) (fun a3 => ?_)⟩) (fun a2 => ?_)⟩) (fun a1 => ?_)⟩
          all_goals (simp only [cAt_nat, Bool.not_eq_true', Bool.not_eq_false'] at *)
          · refine two ?_
            unfold M.rightC M.kindsOk
            simp only [M.allB, M.isValue, a1, a2, a3, a4, a5, a6, cond_true, cond_false]
          · refine ⟨hlt, wrap_succ (by omega), hI.trans (from_next hlt ?_)⟩
            have hr : M.rightC (l.getD j dfC) = true := by
              unfold M.rightC M.kindsOk
              simp only [M.allB, M.isValue, a1, a2, a3, a4, a5, a6, cond_true, cond_false]
            rw [caskErr_eq hnm hd hr]; rfl
          · refine two ?_
            unfold M.rightC M.kindsOk
            simp only [M.allB, M.isValue, a1, a2, a3, a4, a5, cond_true, cond_false]
          · refine two ?_
            unfold M.rightC M.kindsOk
            simp only [M.allB, M.isValue, a1, a2, a3, a4, cond_true, cond_false]
          · refine two ?_
            unfold M.rightC M.kindsOk
            simp only [M.allB, M.isValue, a1, a2, a3, cond_true, cond_false]
          · refine two ?_
            unfold M.rightC M.kindsOk
            simp only [a1, a2, cond_true, cond_false]
          · refine two ?_
            unfold M.rightC M.kindsOk
            simp only [a1, cond_true, cond_false]
    · have hge := ge_of_dec hb
      obtain rfl : k = l.length := by omega
      show rsEqv _ _
      rw [hI, Nat.sub_self]
      exact rsEqv_refl _
def dom47 : DomF
  | [.c (.sl _ n st F)] => (match Nat.beq st 7 with
    | true => some ([eC.Is n F, ∀ c, c ∈ eC.list n F → c.nm.size ≤ 1000000], resP (M.checkCasks (eC.list n F)))
    | _ => none)
  | _ => none
def v47 : Nat × Sm := (47, fokSm dom47)
theorem C47 : FOK Try.prog G0 gw 47 dom47 := by
  intro ags p r hd hp κ w xs hw hl hG hx
  unfold dom47 at hd
  split at hd
  · rename_i q n st F
    split at hd
    · rename_i hst
      have g1 := Nat.eq_of_beq_eq_true hst
      subst g1
      simp only [Option.some.injEq, Prod.mk.injEq] at hd
      obtain ⟨rfl, rfl⟩ := hd
      obtain ⟨hC, hn, _⟩ := hp
      have heq : agsEqv [.c (.sl q n 7 F)] [.c (.sl q (eC.list n F).length 7 (eC.F (eC.list n F)))] := ⟨eC.to id hC, trivial⟩
      exact fokX_fin mixed gw_stable (sl := [v64, v80, v101, v102, v103, v104]) ⟨S64, S80, S101, S102, S103, S104, trivial⟩ Try.func47 hw hl hG hx heq rfl (t47 q _) (w47 _ hn)
    · cases hd
  · cases hd
theorem S47 : SumOK Try.prog G0 gw 47 (fokSm dom47) := fok_sum Try.func47 rfl C47
def dom48 : DomF
  | [.c (.sl _ n st F)] => (match Nat.beq st 7 with
    | true => some ([eC.Is n F, ∀ c, c ∈ eC.list n F → c.nm.size ≤ 1000000], resP (M.checkCasks (eC.list n F)))
    | _ => none)
  | _ => none
def v48 : Nat × Sm := (48, fokSm dom48)
theorem C48 : FOK Try.prog G0 gw 48 dom48 := by
  intro ags p r hd hp κ w xs hw hl hG hx
  unfold dom48 at hd
  split at hd
  · rename_i q n st F
    split at hd
    · rename_i hst
      have g1 := Nat.eq_of_beq_eq_true hst
      subst g1
      simp only [Option.some.injEq, Prod.mk.injEq] at hd
      obtain ⟨rfl, rfl⟩ := hd
      obtain ⟨hC, hn, _⟩ := hp
      have heq : agsEqv [.c (.sl q n 7 F)] [.c (.sl q (eC.list n F).length 7 (eC.F (eC.list n F)))] := ⟨eC.to id hC, trivial⟩
      exact fokX_fin mixed gw_stable (sl := [v35, v105]) ⟨S35, S105, trivial⟩ Try.func48 hw hl hG hx heq rfl (t48 q _) (w48 _ hn)
    · cases hd
  · cases hd
theorem S48 : SumOK Try.prog G0 gw 48 (fokSm dom48) := fok_sum Try.func48 rfl C48
end Go.Bl
end

section
set_option linter.unusedVariables false
set_option linter.unusedSimpArgs false
set_option maxRecDepth 100000
namespace Go.Bl
open Go.V Go.Proofs
namespace M
def rgErr (r : Rg) : Int := first [unl (within r.lo 0 1000 && within r.hi 0 1000) 2, unl (decide (r.lo ≤ r.hi)) 9]
def checkSample (s : Sample) : Int := cond (within s.vol 1 10000) (first [rgErr s.r0, rgErr s.r1, rgErr s.r2, rgErr s.r3]) 2
def wholeErr (l : List Cask) : Int := (checkCasks l).2
def casksErr (l : List Cask) : Int := first [(checkCasks l).2, unl (decide ((l.length : Int) ≤ 4)) 8]
def taskErr (l : List Cask) (s : Sample) : Int := first [casksErr l, checkSample s]
def volumes (l : List Cask) : Int := (List.range l.length).foldl (fun a i => IntKind.i64.wrap (a + (l.getD i dfC).vol)) 0
def mx (a b : Int) : Int := if b > a then b else a
def awayK (V n : Int) (r : Rg) (a : Int) : Int := mx (mx a (IntKind.i64.wrap (IntKind.i64.wrap (r.lo * V) - n))) (IntKind.i64.wrap (n - IntKind.i64.wrap (r.hi * V)))
def away (l : List Cask) (ps : List Int) (s : Sample) : Int :=
  awayK (sumP (fun _ => 1) l ps) (sumP (kOf 3) l ps) s.r3 (awayK (sumP (fun _ => 1) l ps) (sumP (kOf 2) l ps) s.r2 (awayK (sumP (fun _ => 1) l ps) (sumP (kOf 1) l ps) s.r1 (awayK (sumP (fun _ => 1) l ps) (sumP (kOf 0) l ps) s.r0 0)))
end M
theorem first_cons (x : Int) (l : List Int) : M.first (x :: l) = if x = 0 then M.first l else x := by
  by_cases h : x = 0
  · rw [if_pos h, h]; rfl
  · rw [if_neg h]
    have : (x != 0) = true := bne_iff_ne.2 h
    simp only [M.first, this, cond_true]
def pieceB {α : Type} (lo hi : Int) (bad : Int → α) (rest : T α) : T α :=
  .br (M.within lo 0 1000) (.need (M.within lo 0 1000 = true) (.br (M.first [M.unl (M.within hi 0 1000) 2, M.unl (decide (lo ≤ hi)) 9] != 0) (.ret (bad (M.first [M.unl (M.within hi 0 1000) 2, M.unl (decide (lo ≤ hi)) 9]))) rest))
    (.need (M.within lo 0 1000 = false) (.br (M.first [2, M.unl (decide (lo ≤ hi)) 9] != 0) (.ret (bad (M.first [2, M.unl (decide (lo ≤ hi)) 9]))) rest))
def pieceR {α : Type} (lo hi : Int) (bad : Int → α) (rest : T α) : T α :=
  .br (!M.within lo 0 1000) (.ret (bad 2)) (.br (!M.within hi 0 1000) (.ret (bad 2)) (.br (decide (lo > hi)) (.ret (bad 9)) rest))
theorem pieceB_wp {α : Type} {lo hi : Int} {bad : Int → α} {rest : T α} {Q : α → Prop} (h1 : M.rgErr ⟨lo, hi⟩ ≠ 0 → Q (bad (M.rgErr ⟨lo, hi⟩))) (h2 : M.rgErr ⟨lo, hi⟩ = 0 → rest.wp Q) : (pieceB lo hi bad rest).wp Q := by
  have fin : ∀ e : Int, M.rgErr ⟨lo, hi⟩ = e → (T.br (e != 0) (.ret (bad e)) rest : T α).wp Q := by
    intro e he
    refine wp_br (fun h => ?_) (fun h => ?_)
    · rw [← he] at h ⊢; exact h1 (bne_iff_ne.1 h)
    · rw [← he] at h; exact h2 (by simpa using h)
  refine wp_br (fun h => ⟨h, fin _ ?_⟩) (fun h => ⟨h, fin _ ?_⟩)
  · unfold M.rgErr; rw [h]; rfl
  · unfold M.rgErr; rw [h]; rfl
theorem pieceR_wp {α : Type} {lo hi : Int} {bad : Int → α} {rest : T α} {Q : α → Prop} (h1 : M.rgErr ⟨lo, hi⟩ ≠ 0 → Q (bad (M.rgErr ⟨lo, hi⟩))) (h2 : M.rgErr ⟨lo, hi⟩ = 0 → rest.wp Q) : (pieceR lo hi bad rest).wp Q := by
  have fin : ∀ e : Int, M.rgErr ⟨lo, hi⟩ = e → e ≠ 0 → Q (bad e) := fun e he hn => by subst he; exact h1 hn
  refine wp_br (fun a => ?_) (fun a => wp_br (fun b => ?_) (fun b => wp_br (fun c => ?_) (fun c => ?_)))
  · have a : M.within lo 0 1000 = false := by simpa using a
    exact fin 2 (by unfold M.rgErr; rw [a]; rfl) (by decide)
  · have a : M.within lo 0 1000 = true := by simpa using a
    have b : M.within hi 0 1000 = false := by simpa using b
    exact fin 2 (by unfold M.rgErr; rw [a, b]; rfl) (by decide)
  · have a : M.within lo 0 1000 = true := by simpa using a
    have b : M.within hi 0 1000 = true := by simpa using b
    have c : decide (lo ≤ hi) = false := decide_eq_false (by have := of_decide_eq_true c; omega)
    exact fin 9 (by unfold M.rgErr; rw [a, b, c]; rfl) (by decide)
  · have a : M.within lo 0 1000 = true := by simpa using a
    have b : M.within hi 0 1000 = true := by simpa using b
    have c : decide (lo ≤ hi) = true := decide_eq_true (by have := of_decide_eq_false c; omega)
    exact h2 (by unfold M.rgErr; rw [a, b, c]; rfl)
def tr49 (sv l0 h0 l1 h1 l2 h2 l3 h3 : Int) : T (List Ar) :=
  .br (!M.within sv 1 10000) (.ret [rI 2]) (pieceB l0 h0 (fun e => [rI e]) (pieceB l1 h1 (fun e => [rI e]) (pieceB l2 h2 (fun e => [rI e]) (pieceB l3 h3 (fun e => [rI e]) (.ret [rI 0])))))
theorem t49 (sv l0 h0 l1 h1 l2 h2 l3 h3 : Int) : runFnX Try.prog G0 (lookS [v64, v80, v95, v102]) (fun _ => [(1000013, [], none), (3000012, [], none), (3000035, [], none)]) [] 1 40 3 49 Try.f49 [.agg [dI sv, dI l0, dI h0, dI l1, dI h1, dI l2, dI h2, dI l3, dI h3]] =
    tr49 sv l0 h0 l1 h1 l2 h2 l3 h3 := by kernel_rfl
theorem w49 (sv l0 h0 l1 h1 l2 h2 l3 h3 : Int) : (tr49 sv l0 h0 l1 h1 l2 h2 l3 h3).wp (fun rs => rsEqv rs [rI (M.checkSample ⟨sv, ⟨l0, h0⟩, ⟨l1, h1⟩, ⟨l2, h2⟩, ⟨l3, h3⟩⟩)]) := by
  have fin : ∀ e : Int, M.checkSample ⟨sv, ⟨l0, h0⟩, ⟨l1, h1⟩, ⟨l2, h2⟩, ⟨l3, h3⟩⟩ = e → rsEqv [rI e] [rI (M.checkSample ⟨sv, ⟨l0, h0⟩, ⟨l1, h1⟩, ⟨l2, h2⟩, ⟨l3, h3⟩⟩)] := fun e he => by rw [he]; exact rsEqv_refl _
  refine wp_br (fun a => ?_) (fun a => ?_)
  · have a : M.within sv 1 10000 = false := by simpa using a
    exact fin 2 (by unfold M.checkSample; rw [a]; rfl)
  · have a : M.within sv 1 10000 = true := by simpa using a
    refine pieceB_wp (fun h => fin _ ?_) (fun b0 => pieceB_wp (fun h => fin _ ?_) (fun b1 => pieceB_wp (fun h => fin _ ?_) (fun b2 => pieceB_wp (fun h => fin _ ?_) (fun b3 => fin _ ?_))))
    all_goals (unfold M.checkSample; simp only [a, cond_true, first_cons])
    · rw [if_neg h]
    · rw [b0, if_pos rfl, if_neg h]
    · rw [b0, b1, if_pos rfl, if_pos rfl, if_neg h]
    · rw [b0, b1, b2, if_pos rfl, if_pos rfl, if_pos rfl, if_neg h]
    · rw [b0, b1, b2, b3, if_pos rfl, if_pos rfl, if_pos rfl, if_pos rfl]; rfl
def dom49 : DomF
  | [.agg [.int .i64 sv, .int .i64 l0, .int .i64 h0, .int .i64 l1, .int .i64 h1, .int .i64 l2, .int .i64 h2, .int .i64 l3, .int .i64 h3]] => some ([], [rI (M.checkSample ⟨sv, ⟨l0, h0⟩, ⟨l1, h1⟩, ⟨l2, h2⟩, ⟨l3, h3⟩⟩)])
  | _ => none
def v49 : Nat × Sm := (49, fokSm dom49)
theorem C49 : FOK Try.prog G0 gw 49 dom49 := by
  intro ags p r hd hp κ w xs hw hl hG hx
  unfold dom49 at hd
  split at hd
  · rename_i sv l0 h0 l1 h1 l2 h2 l3 h3
    simp only [Option.some.injEq, Prod.mk.injEq] at hd
    obtain ⟨rfl, rfl⟩ := hd
    have heq : agsEqv [.agg [.int .i64 sv, .int .i64 l0, .int .i64 h0, .int .i64 l1, .int .i64 h1, .int .i64 l2, .int .i64 h2, .int .i64 l3, .int .i64 h3]] [.agg [.int .i64 sv, .int .i64 l0, .int .i64 h0, .int .i64 l1, .int .i64 h1, .int .i64 l2, .int .i64 h2, .int .i64 l3, .int .i64 h3]] := ⟨Ag.eqv_refl _, trivial⟩
    exact fokX_fin mixed gw_stable (sl := [v64, v80, v95, v102]) ⟨S64, S80, S95, S102, trivial⟩ Try.func49 hw hl hG hx heq rfl (t49 sv l0 h0 l1 h1 l2 h2 l3 h3) (w49 sv l0 h0 l1 h1 l2 h2 l3 h3)
  · cases hd
theorem S49 : SumOK Try.prog G0 gw 49 (fokSm dom49) := fok_sum Try.func49 rfl C49
def tr32 (sv l0 h0 l1 h1 l2 h2 l3 h3 : Int) : T (List Ar) :=
  .br (!M.within sv 1 10000) (.ret [rI 2]) (pieceR l0 h0 (fun e => [rI e]) (pieceR l1 h1 (fun e => [rI e]) (pieceR l2 h2 (fun e => [rI e]) (pieceR l3 h3 (fun e => [rI e]) (.ret [rI 0])))))
theorem t32 (sv l0 h0 l1 h1 l2 h2 l3 h3 : Int) : runFnX Try.prog G0 (lookS [v35]) (fun _ => [(1000010, [], none), (3000012, [], none)]) [] 1 40 3 32 Try.f32 [.agg [dI sv, dI l0, dI h0, dI l1, dI h1, dI l2, dI h2, dI l3, dI h3]] =
    tr32 sv l0 h0 l1 h1 l2 h2 l3 h3 := by kernel_rfl
theorem w32 (sv l0 h0 l1 h1 l2 h2 l3 h3 : Int) : (tr32 sv l0 h0 l1 h1 l2 h2 l3 h3).wp (fun rs => rsEqv rs [rI (M.checkSample ⟨sv, ⟨l0, h0⟩, ⟨l1, h1⟩, ⟨l2, h2⟩, ⟨l3, h3⟩⟩)]) := by
  have fin : ∀ e : Int, M.checkSample ⟨sv, ⟨l0, h0⟩, ⟨l1, h1⟩, ⟨l2, h2⟩, ⟨l3, h3⟩⟩ = e → rsEqv [rI e] [rI (M.checkSample ⟨sv, ⟨l0, h0⟩, ⟨l1, h1⟩, ⟨l2, h2⟩, ⟨l3, h3⟩⟩)] := fun e he => by rw [he]; exact rsEqv_refl _
  refine wp_br (fun a => ?_) (fun a => ?_)
  · have a : M.within sv 1 10000 = false := by simpa using a
    exact fin 2 (by unfold M.checkSample; rw [a]; rfl)
  · have a : M.within sv 1 10000 = true := by simpa using a
    refine pieceR_wp (fun h => fin _ ?_) (fun b0 => pieceR_wp (fun h => fin _ ?_) (fun b1 => pieceR_wp (fun h => fin _ ?_) (fun b2 => pieceR_wp (fun h => fin _ ?_) (fun b3 => fin _ ?_))))
    all_goals (unfold M.checkSample; simp only [a, cond_true, first_cons])
    · rw [if_neg h]
    · rw [b0, if_pos rfl, if_neg h]
    · rw [b0, b1, if_pos rfl, if_pos rfl, if_neg h]
    · rw [b0, b1, b2, if_pos rfl, if_pos rfl, if_pos rfl, if_neg h]
    · rw [b0, b1, b2, b3, if_pos rfl, if_pos rfl, if_pos rfl, if_pos rfl]; rfl
def dom32 : DomF
  | [.agg [.int .i64 sv, .int .i64 l0, .int .i64 h0, .int .i64 l1, .int .i64 h1, .int .i64 l2, .int .i64 h2, .int .i64 l3, .int .i64 h3]] => some ([], [rI (M.checkSample ⟨sv, ⟨l0, h0⟩, ⟨l1, h1⟩, ⟨l2, h2⟩, ⟨l3, h3⟩⟩)])
  | _ => none
def v32 : Nat × Sm := (32, fokSm dom32)
theorem C32 : FOK Try.prog G0 gw 32 dom32 := by
  intro ags p r hd hp κ w xs hw hl hG hx
  unfold dom32 at hd
  split at hd
  · rename_i sv l0 h0 l1 h1 l2 h2 l3 h3
    simp only [Option.some.injEq, Prod.mk.injEq] at hd
    obtain ⟨rfl, rfl⟩ := hd
    have heq : agsEqv [.agg [.int .i64 sv, .int .i64 l0, .int .i64 h0, .int .i64 l1, .int .i64 h1, .int .i64 l2, .int .i64 h2, .int .i64 l3, .int .i64 h3]] [.agg [.int .i64 sv, .int .i64 l0, .int .i64 h0, .int .i64 l1, .int .i64 h1, .int .i64 l2, .int .i64 h2, .int .i64 l3, .int .i64 h3]] := ⟨Ag.eqv_refl _, trivial⟩
    exact fokX_fin mixed gw_stable (sl := [v35]) ⟨S35, trivial⟩ Try.func32 hw hl hG hx heq rfl (t32 sv l0 h0 l1 h1 l2 h2 l3 h3) (w32 sv l0 h0 l1 h1 l2 h2 l3 h3)
  · cases hd
theorem S32 : SumOK Try.prog G0 gw 32 (fokSm dom32) := fok_sum Try.func32 rfl C32
theorem t65 (q_l : Bool) (l : List Cask) : runFnX Try.prog G0 (lookS [v64, v80, v47]) (fun _ => []) [] 1 40 3 65 Try.f65 [.c (.sl q_l l.length 7 (eC.F l))] =
    T.need (eC.Is l.length (eC.F l)) (T.need (∀ c, c ∈ eC.list l.length (eC.F l) → c.nm.size ≤ 1000000) (T.ret [rI (M.first [(M.checkCasks (eC.list l.length (eC.F l))).2, M.unl (decide ((l.length : Int) ≤ 4)) 8])])) := by kernel_rfl
def dom65 : DomF
  | [.c (.sl _ n_l st_l F_l)] => (match Nat.beq st_l 7 with
    | true => some ([eC.Is n_l F_l, ∀ c, c ∈ (eC.list n_l F_l) → c.nm.size ≤ 1000000], [rI (M.casksErr (eC.list n_l F_l))])
    | _ => none)
  | _ => none
def v65 : Nat × Sm := (65, fokSm dom65)
theorem C65 : FOK Try.prog G0 gw 65 dom65 := by
  intro ags p r hd hp κ w xs hw hl hG hx
  unfold dom65 at hd
  split at hd
  · rename_i q_l n_l st_l F_l
    split at hd
    · rename_i hst
      have g1 := hst
      have g1 := Nat.eq_of_beq_eq_true g1
      subst g1
      simp only [Option.some.injEq, Prod.mk.injEq] at hd
      obtain ⟨rfl, rfl⟩ := hd
      obtain ⟨hI_l, hp⟩ := hp
      have heq : agsEqv [.c (.sl q_l n_l 7 F_l)] [.c (.sl q_l (eC.list n_l F_l).length 7 (eC.F (eC.list n_l F_l)))] := ⟨eC.to id hI_l, trivial⟩
      have len_l : (eC.list n_l F_l).length = n_l := eC.list_len
      generalize eC.list n_l F_l = l at *
      subst len_l
      exact fokX_fin mixed gw_stable (sl := [v64, v80, v47]) ⟨S64, S80, S47, trivial⟩ Try.func65 hw hl hG hx heq rfl (t65 q_l l) ((by rw [Enc.list_F]; exact ⟨Enc.is_F _ _ _, hp.1, rsEqv_refl _⟩))
    · cases hd
  · cases hd
theorem S65 : SumOK Try.prog G0 gw 65 (fokSm dom65) := fok_sum Try.func65 rfl C65
theorem t31 (q_l : Bool) (l : List Cask) : runFnX Try.prog G0 (lookS [v48]) (fun _ => []) [] 1 40 3 31 Try.f31 [.c (.sl q_l l.length 7 (eC.F l))] =
    T.need (eC.Is l.length (eC.F l)) (T.need (∀ c, c ∈ eC.list l.length (eC.F l) → c.nm.size ≤ 1000000) (T.ret [rI (M.checkCasks (eC.list l.length (eC.F l))).2])) := by kernel_rfl
def dom31 : DomF
  | [.c (.sl _ n_l st_l F_l)] => (match Nat.beq st_l 7 with
    | true => some ([eC.Is n_l F_l, ∀ c, c ∈ (eC.list n_l F_l) → c.nm.size ≤ 1000000], [rI (M.wholeErr (eC.list n_l F_l))])
    | _ => none)
  | _ => none
def v31 : Nat × Sm := (31, fokSm dom31)
theorem C31 : FOK Try.prog G0 gw 31 dom31 := by
  intro ags p r hd hp κ w xs hw hl hG hx
  unfold dom31 at hd
  split at hd
  · rename_i q_l n_l st_l F_l
    split at hd
    · rename_i hst
      have g1 := hst
      have g1 := Nat.eq_of_beq_eq_true g1
      subst g1
      simp only [Option.some.injEq, Prod.mk.injEq] at hd
      obtain ⟨rfl, rfl⟩ := hd
      obtain ⟨hI_l, hp⟩ := hp
      have heq : agsEqv [.c (.sl q_l n_l 7 F_l)] [.c (.sl q_l (eC.list n_l F_l).length 7 (eC.F (eC.list n_l F_l)))] := ⟨eC.to id hI_l, trivial⟩
      have len_l : (eC.list n_l F_l).length = n_l := eC.list_len
      generalize eC.list n_l F_l = l at *
      subst len_l
      exact fokX_fin mixed gw_stable (sl := [v48]) ⟨S48, trivial⟩ Try.func31 hw hl hG hx heq rfl (t31 q_l l) ((by rw [Enc.list_F]; exact ⟨Enc.is_F _ _ _, hp.1, rsEqv_refl _⟩))
    · cases hd
  · cases hd
theorem S31 : SumOK Try.prog G0 gw 31 (fokSm dom31) := fok_sum Try.func31 rfl C31
theorem t81 (q_l : Bool) (l : List Cask) (sv l0 h0 l1 h1 l2 h2 l3 h3 : Int) : runFnX Try.prog G0 (lookS []) (fun _ => [(3, [.slot 10 (.int .i64), .slot 5 (.int .i64)], none)]) [] 1 40 3 81 Try.f81 [.c (.sl q_l l.length 7 (eC.F l)), .agg [dI sv, dI l0, dI h0, dI l1, dI h1, dI l2, dI h2, dI l3, dI h3]] =
    T.loop (Int × Int × PUnit) (0, 0, PUnit.unit) fun x => T.br (decide (x.1 < (l.length : Int))) (T.need (0 ≤ x.1) (T.need (x.1 < (l.length : Int)) (T.ret (.inl (IntKind.i64.wrap (x.1 + 1), IntKind.i64.wrap (x.2.1 + (l.getD x.1.toNat dfC).vol), PUnit.unit))))) (T.ret (.inr [rB (decide (x.2.1 ≥ sv))])) := by kernel_rfl
theorem w81 (l : List Cask) (sv : Int) (hl : l.length ≤ 1000000) : (T.loop (Int × Int × PUnit) (0, 0, PUnit.unit) fun x => T.br (decide (x.1 < (l.length : Int))) (T.need (0 ≤ x.1) (T.need (x.1 < (l.length : Int)) (T.ret (.inl (IntKind.i64.wrap (x.1 + 1), IntKind.i64.wrap (x.2.1 + (l.getD x.1.toNat dfC).vol), PUnit.unit))))) (T.ret (.inr [rB (decide (x.2.1 ≥ sv))])) : T (List Ar)).wp (fun rs => rsEqv rs [rB (decide (M.volumes l ≥ sv))]) := by
  refine range_wp (n := l.length) (fun k s => s.1 = (List.range k).foldl (fun a i => IntKind.i64.wrap (a + (l.getD i dfC).vol)) 0) rfl ?_
  rintro k ⟨a, u⟩ hk hI
  simp only at hI
  refine ⟨fun hb => ?_, fun hb => ?_⟩
  · have hlt := lt_of_dec hb
    refine ⟨by show (0 : Int) ≤ k; omega, by show (k : Int) < l.length; omega, hlt, wrap_succ (by omega), ?_⟩
    rw [foldl_succ, ← hI]
    rfl
  · have hge := ge_of_dec hb
    obtain rfl : k = l.length := by omega
    have e : a = M.volumes l := hI
    subst e
    exact rsEqv_refl _
def dom81 : DomF
  | [.c (.sl _ n_l st_l F_l), .agg [.int .i64 sv, .int .i64 l0, .int .i64 h0, .int .i64 l1, .int .i64 h1, .int .i64 l2, .int .i64 h2, .int .i64 l3, .int .i64 h3]] => (match Nat.beq st_l 7 with
    | true => some ([eC.Is n_l F_l, (eC.list n_l F_l).length ≤ 1000000], [rB (decide (M.volumes (eC.list n_l F_l) ≥ sv))])
    | _ => none)
  | _ => none
def v81 : Nat × Sm := (81, fokSm dom81)
theorem C81 : FOK Try.prog G0 gw 81 dom81 := by
  intro ags p r hd hp κ w xs hw hl hG hx
  unfold dom81 at hd
  split at hd
  · rename_i q_l n_l st_l F_l sv l0 h0 l1 h1 l2 h2 l3 h3
    split at hd
    · rename_i hst
      have g1 := hst
      have g1 := Nat.eq_of_beq_eq_true g1
      subst g1
      simp only [Option.some.injEq, Prod.mk.injEq] at hd
      obtain ⟨rfl, rfl⟩ := hd
      obtain ⟨hI_l, hp⟩ := hp
      have heq : agsEqv [.c (.sl q_l n_l 7 F_l), .agg [.int .i64 sv, .int .i64 l0, .int .i64 h0, .int .i64 l1, .int .i64 h1, .int .i64 l2, .int .i64 h2, .int .i64 l3, .int .i64 h3]] [.c (.sl q_l (eC.list n_l F_l).length 7 (eC.F (eC.list n_l F_l))), .agg [.int .i64 sv, .int .i64 l0, .int .i64 h0, .int .i64 l1, .int .i64 h1, .int .i64 l2, .int .i64 h2, .int .i64 l3, .int .i64 h3]] := ⟨eC.to id hI_l, Ag.eqv_refl _, trivial⟩
      have len_l : (eC.list n_l F_l).length = n_l := eC.list_len
      generalize eC.list n_l F_l = l at *
      subst len_l
      exact fokX_fin mixed gw_stable (sl := []) trivial Try.func81 hw hl hG hx heq rfl (t81 q_l l sv l0 h0 l1 h1 l2 h2 l3 h3) (w81 l sv hp.1)
    · cases hd
  · cases hd
theorem S81 : SumOK Try.prog G0 gw 81 (fokSm dom81) := fok_sum Try.func81 rfl C81
theorem t84 (q_l : Bool) (l : List Cask) (den : Int) (q_ps : Bool) (ps : List Int) (sv l0 h0 l1 h1 l2 h2 l3 h3 : Int) : runFnX Try.prog G0 (lookS [v85, v97]) (fun _ => [(1000015, [], none), (3000014, [], none), (3000035, [], none), (3000019, [], none)]) [] 1 40 3 84 Try.f84 [.agg [.sl q_l l.length 7 (eC.F l), dI den, .sl q_ps ps.length 1 (eI.F ps)], .agg [dI sv, dI l0, dI h0, dI l1, dI h1, dI l2, dI h2, dI l3, dI h3]] =
    T.need (eC.Is l.length (eC.F l)) (T.need (eI.Is ps.length (eI.F ps)) (T.need (ps.length ≤ l.length) (T.need (ps.length ≤ 1000) (T.need (eC.Is l.length (eC.F l)) (T.need (eI.Is ps.length (eI.F ps)) (T.need (ps.length ≤ l.length) (T.need (ps.length ≤ 1000) (T.need (eC.Is l.length (eC.F l)) (T.need (eI.Is ps.length (eI.F ps)) (T.need (ps.length ≤ l.length) (T.need (ps.length ≤ 1000) (T.need (eC.Is l.length (eC.F l)) (T.need (eI.Is ps.length (eI.F ps)) (T.need (ps.length ≤ l.length) (T.need (ps.length ≤ 1000) (T.need (eC.Is l.length (eC.F l)) (T.need (eI.Is ps.length (eI.F ps)) (T.need (ps.length ≤ l.length) (T.need (ps.length ≤ 1000) (T.ret [rI (M.away (eC.list l.length (eC.F l)) (eI.list ps.length (eI.F ps)) ⟨sv, ⟨l0, h0⟩, ⟨l1, h1⟩, ⟨l2, h2⟩, ⟨l3, h3⟩⟩)])))))))))))))))))))) := by kernel_rfl
def dom84 : DomF
  | [.agg [.sl _ n_l st_l F_l, .int .i64 den, .sl _ n_ps st_ps F_ps], .agg [.int .i64 sv, .int .i64 l0, .int .i64 h0, .int .i64 l1, .int .i64 h1, .int .i64 l2, .int .i64 h2, .int .i64 l3, .int .i64 h3]] => (match Nat.beq st_l 7 && Nat.beq st_ps 1 with
    | true => some ([eC.Is n_l F_l, eI.Is n_ps F_ps, (eI.list n_ps F_ps).length ≤ (eC.list n_l F_l).length, (eI.list n_ps F_ps).length ≤ 1000], [rI (M.away (eC.list n_l F_l) (eI.list n_ps F_ps) ⟨sv, ⟨l0, h0⟩, ⟨l1, h1⟩, ⟨l2, h2⟩, ⟨l3, h3⟩⟩)])
    | _ => none)
  | _ => none
def v84 : Nat × Sm := (84, fokSm dom84)
theorem C84 : FOK Try.prog G0 gw 84 dom84 := by
  intro ags p r hd hp κ w xs hw hl hG hx
  unfold dom84 at hd
  split at hd
  · rename_i q_l n_l st_l F_l den q_ps n_ps st_ps F_ps sv l0 h0 l1 h1 l2 h2 l3 h3
    split at hd
    · rename_i hst
      simp only [Bool.and_eq_true] at hst
      obtain ⟨g1, g2⟩ := hst
      have g1 := Nat.eq_of_beq_eq_true g1
      have g2 := Nat.eq_of_beq_eq_true g2
      subst g1 g2
      simp only [Option.some.injEq, Prod.mk.injEq] at hd
      obtain ⟨rfl, rfl⟩ := hd
      obtain ⟨hI_l, hI_ps, hp⟩ := hp
      have heq : agsEqv [.agg [.sl q_l n_l 7 F_l, .int .i64 den, .sl q_ps n_ps 1 F_ps], .agg [.int .i64 sv, .int .i64 l0, .int .i64 h0, .int .i64 l1, .int .i64 h1, .int .i64 l2, .int .i64 h2, .int .i64 l3, .int .i64 h3]] [.agg [.sl q_l (eC.list n_l F_l).length 7 (eC.F (eC.list n_l F_l)), .int .i64 den, .sl q_ps (eI.list n_ps F_ps).length 1 (eI.F (eI.list n_ps F_ps))], .agg [.int .i64 sv, .int .i64 l0, .int .i64 h0, .int .i64 l1, .int .i64 h1, .int .i64 l2, .int .i64 h2, .int .i64 l3, .int .i64 h3]] := ⟨⟨eC.to id hI_l, rfl, eI.to id hI_ps, trivial⟩, Ag.eqv_refl _, trivial⟩
      have len_l : (eC.list n_l F_l).length = n_l := eC.list_len
      have len_ps : (eI.list n_ps F_ps).length = n_ps := eI.list_len
      generalize eC.list n_l F_l = l at *
      generalize eI.list n_ps F_ps = ps at *
      subst len_l len_ps
      have c1 := Enc.is_F eC l l.length
      have c2 := Enc.is_F eI ps ps.length
      obtain ⟨c3, c4, _⟩ := hp
      exact fokX_fin mixed gw_stable (sl := [v85, v97]) ⟨S85, S97, trivial⟩ Try.func84 hw hl hG hx heq rfl (t84 q_l l den q_ps ps sv l0 h0 l1 h1 l2 h2 l3 h3) ((by rw [Enc.list_F, Enc.list_F]; exact ⟨c1, c2, c3, c4, c1, c2, c3, c4, c1, c2, c3, c4, c1, c2, c3, c4, c1, c2, c3, c4, rsEqv_refl _⟩))
    · cases hd
  · cases hd
theorem S84 : SumOK Try.prog G0 gw 84 (fokSm dom84) := fok_sum Try.func84 rfl C84
end Go.Bl
end

section
set_option linter.unusedVariables false
set_option linter.unusedSimpArgs false
set_option maxRecDepth 100000
namespace Go.Bl
open Go.V Go.Proofs
structure Wts where
  den : Int
  each : Int
  x0 : Int
  x1 : Int
  x2 : Int
  x3 : Int
  y0 : Int
  y1 : Int
  y2 : Int
  y3 : Int
  casks : List Int
namespace M
def wStep (w : Wts) (c : Cond) (b : Int) : Wts :=
  cond (c.kind == 1) { w with casks := w.casks.set c.which.toNat b }
    (cond (c.kind == 2) { w with x0 := if c.which.toNat = 0 then b else w.x0, x1 := if c.which.toNat = 1 then b else w.x1, x2 := if c.which.toNat = 2 then b else w.x2, x3 := if c.which.toNat = 3 then b else w.x3 }
      (cond (c.kind == 3) { w with y0 := if c.which.toNat = 0 then b else w.y0, y1 := if c.which.toNat = 1 then b else w.y1, y2 := if c.which.toNat = 2 then b else w.y2, y3 := if c.which.toNat = 3 then b else w.y3 } w))
def weights (wd each : Int) (ti : List Cond) (by_ : List Int) (n : Nat) : Wts :=
  (List.range ti.length).foldl (fun w i => wStep w (ti.getD i ⟨0, 0, [], 0⟩) (by_.getD i 0)) ⟨wd, each, 0, 0, 0, 0, 0, 0, 0, 0, List.replicate n 0⟩
end M
def resW (w : Wts) : Ar := .agg [dI w.den, dI w.each, dI w.x0, dI w.x1, dI w.x2, dI w.x3, dI w.y0, dI w.y1, dI w.y2, dI w.y3, dL w.casks]
abbrev WS := Int × Int × Int × Int × Int × Int × Int × Int × Int × Int × List Int × PUnit
def wS (w : Wts) : WS := (w.den, w.each, w.x0, w.x1, w.x2, w.x3, w.y0, w.y1, w.y2, w.y3, w.casks, PUnit.unit)
theorem put_int {l : List Int} {i : Nat} {b : Int} (hi : i < l.length) : eI.Is l.length (putF i 0 1 [dI b] (eI.F l)) ∧ eI.list l.length (putF i 0 1 [dI b] (eI.F l)) = l.set i b := by
  have key : ∀ k, putF i 0 1 [dI b] (eI.F l) k 0 = dI ((l.set i b).getD k 0) := by
    intro k
    unfold putF
    by_cases h : k = i
    · subst h
      have : (Nat.beq k k && (Nat.ble 0 0 && Nat.blt 0 (0 + 1))) = true := by simp
      rw [this]
      simp [hi]
    · have : Nat.beq k i = false := by rw [← Bool.not_eq_true, Nat.beq_eq]; exact h
      rw [this, Bool.false_and]
      show dI (l.getD k 0) = _
      simp only [List.getD_eq_getElem?_getD, List.getElem?_set_ne (Ne.symm h)]
  refine Enc.is_of eI (by simp) (fun k j hk hj => ?_) (fun k hk => ?_)
  · obtain rfl : j = 0 := Nat.lt_one_iff.1 hj
    exact key k
  · show rdI (putF i 0 1 [dI b] (eI.F l) k) 0 = _
    unfold rdI
    rw [key k]
    rfl
theorem zeros_int (n : Nat) : eI.Is n (fun (x j : Nat) => List.getD [D.int IntKind.i64 (0 : Int)] j D.nilp) ∧ eI.list n (fun (x j : Nat) => List.getD [D.int IntKind.i64 (0 : Int)] j D.nilp) = List.replicate n 0 := by
  refine Enc.is_of eI (by simp) (fun k j hk hj => ?_) (fun k hk => ?_)
  · obtain rfl : j = 0 := Nat.lt_one_iff.1 hj
    show dI 0 = dI ((List.replicate n (0 : Int)).getD k 0)
    simp [hk]
  · show (0 : Int) = (List.replicate n (0 : Int)).getD k 0
    simp [hk]
def tiAt (ti : List Cond) (x : Int) : Cond := List.getD ti x.toNat ⟨0, 0, [], 0⟩
def tr69 (den wd each n : Int) (pt by_ : List Int) (ti : List Cond) : T (List Ar) :=
    T.need ((0 : Int) ≤ n) (T.need (n ≤ n) (T.need (n ≤ (1000000 : Int)) (T.need (Enc.Is eI (Int.toNat n) fun (x j : Nat) => List.getD [D.int IntKind.i64 (0 : Int)] j D.nilp) (T.need (Int.toNat n ≤ Int.toNat n) (T.loop (Int × Int × Int × Int × Int × Int × Int × Int × Int × Int × Int × List Int × PUnit) ((0 : Int), wd, each, (0 : Int), (0 : Int), (0 : Int), (0 : Int), (0 : Int), (0 : Int), (0 : Int), (0 : Int), Enc.list eI (Int.toNat n) fun (x j : Nat) => List.getD [D.int IntKind.i64 (0 : Int)] j D.nilp, PUnit.unit) fun (x : Int × Int × Int × Int × Int × Int × Int × Int × Int × Int × Int × List Int × PUnit) => T.br (decide (x.1 < (Nat.cast (R := Int) ti.length))) (T.need ((0 : Int) ≤ x.1) (T.need (x.1 < (Nat.cast (R := Int) ti.length)) (T.br ((tiAt ti (x.1)).1 == (1 : Int)) (T.need ((0 : Int) ≤ x.1) (T.need (x.1 < (Nat.cast (R := Int) by_.length)) (T.need ((0 : Int) ≤ (tiAt ti (x.1)).2) (T.need ((tiAt ti (x.1)).2 < (Nat.cast (R := Int) (List.length (Prod.fst (Prod.snd (Prod.snd (Prod.snd (Prod.snd (Prod.snd (Prod.snd (x.2.2.2.2.2))))))))))) (T.need (Int.toNat (tiAt ti (x.1)).2 < List.length (Prod.fst (Prod.snd (Prod.snd (Prod.snd (Prod.snd (Prod.snd (Prod.snd (x.2.2.2.2.2))))))))) (T.need (Enc.Is eI (List.length (Prod.fst (Prod.snd (Prod.snd (Prod.snd (Prod.snd (Prod.snd (Prod.snd (x.2.2.2.2.2))))))))) (putF (Int.toNat (tiAt ti (x.1)).2) (0 : Nat) (1 : Nat) [D.int IntKind.i64 (List.getD by_ (Int.toNat (x.1)) (0 : Int))] (Enc.F eI (Prod.fst (Prod.snd (Prod.snd (Prod.snd (Prod.snd (Prod.snd (Prod.snd (x.2.2.2.2.2))))))))))) (T.need (List.length (Prod.fst (Prod.snd (Prod.snd (Prod.snd (Prod.snd (Prod.snd (Prod.snd (x.2.2.2.2.2)))))))) ≤ List.length (Prod.fst (Prod.snd (Prod.snd (Prod.snd (Prod.snd (Prod.snd (Prod.snd (x.2.2.2.2.2))))))))) (T.ret (Sum.inl (IntKind.i64.wrap (x.1 + (1 : Int)), x.2.1, x.2.2.1, x.2.2.2.1, x.2.2.2.2.1, Prod.fst (x.2.2.2.2.2), Prod.fst (Prod.snd (x.2.2.2.2.2)), Prod.fst (Prod.snd (Prod.snd (x.2.2.2.2.2))), Prod.fst (Prod.snd (Prod.snd (Prod.snd (x.2.2.2.2.2)))), Prod.fst (Prod.snd (Prod.snd (Prod.snd (Prod.snd (x.2.2.2.2.2))))), Prod.fst (Prod.snd (Prod.snd (Prod.snd (Prod.snd (Prod.snd (x.2.2.2.2.2)))))), Enc.list eI (List.length (Prod.fst (Prod.snd (Prod.snd (Prod.snd (Prod.snd (Prod.snd (Prod.snd (x.2.2.2.2.2))))))))) (putF (Int.toNat (tiAt ti (x.1)).2) (0 : Nat) (1 : Nat) [D.int IntKind.i64 (List.getD by_ (Int.toNat (x.1)) (0 : Int))] (Enc.F eI (Prod.fst (Prod.snd (Prod.snd (Prod.snd (Prod.snd (Prod.snd (Prod.snd (x.2.2.2.2.2)))))))))), PUnit.unit)))))))))) (T.br ((tiAt ti (x.1)).1 == (2 : Int)) (T.need ((0 : Int) ≤ x.1) (T.need (x.1 < (Nat.cast (R := Int) by_.length)) (T.need ((0 : Int) ≤ (tiAt ti (x.1)).2) (T.need ((tiAt ti (x.1)).2 < (4 : Int)) (T.need (Int.toNat (tiAt ti (x.1)).2 ≠ (8 : Nat)) (T.need (Int.toNat (tiAt ti (x.1)).2 < (9 : Nat)) (T.need (Enc.Is eI (List.length (Prod.fst (Prod.snd (Prod.snd (Prod.snd (Prod.snd (Prod.snd (Prod.snd (x.2.2.2.2.2))))))))) (Enc.F eI (Prod.fst (Prod.snd (Prod.snd (Prod.snd (Prod.snd (Prod.snd (Prod.snd (x.2.2.2.2.2)))))))))) (T.need (List.length (Prod.fst (Prod.snd (Prod.snd (Prod.snd (Prod.snd (Prod.snd (Prod.snd (x.2.2.2.2.2)))))))) ≤ List.length (Prod.fst (Prod.snd (Prod.snd (Prod.snd (Prod.snd (Prod.snd (Prod.snd (x.2.2.2.2.2))))))))) (T.ret (Sum.inl (IntKind.i64.wrap (x.1 + (1 : Int)), x.2.1, x.2.2.1, if Int.toNat (tiAt ti (x.1)).2 = (0 : Nat) then List.getD by_ (Int.toNat (x.1)) (0 : Int) else x.2.2.2.1, if Int.toNat (tiAt ti (x.1)).2 = (1 : Nat) then List.getD by_ (Int.toNat (x.1)) (0 : Int) else x.2.2.2.2.1, if Int.toNat (tiAt ti (x.1)).2 = (2 : Nat) then List.getD by_ (Int.toNat (x.1)) (0 : Int) else Prod.fst (x.2.2.2.2.2), if Int.toNat (tiAt ti (x.1)).2 = (3 : Nat) then List.getD by_ (Int.toNat (x.1)) (0 : Int) else Prod.fst (Prod.snd (x.2.2.2.2.2)), if Int.toNat (tiAt ti (x.1)).2 = (4 : Nat) then List.getD by_ (Int.toNat (x.1)) (0 : Int) else Prod.fst (Prod.snd (Prod.snd (x.2.2.2.2.2))), if Int.toNat (tiAt ti (x.1)).2 = (5 : Nat) then List.getD by_ (Int.toNat (x.1)) (0 : Int) else Prod.fst (Prod.snd (Prod.snd (Prod.snd (x.2.2.2.2.2)))), if Int.toNat (tiAt ti (x.1)).2 = (6 : Nat) then List.getD by_ (Int.toNat (x.1)) (0 : Int) else Prod.fst (Prod.snd (Prod.snd (Prod.snd (Prod.snd (x.2.2.2.2.2))))), if Int.toNat (tiAt ti (x.1)).2 = (7 : Nat) then List.getD by_ (Int.toNat (x.1)) (0 : Int) else Prod.fst (Prod.snd (Prod.snd (Prod.snd (Prod.snd (Prod.snd (x.2.2.2.2.2)))))), Enc.list eI (List.length (Prod.fst (Prod.snd (Prod.snd (Prod.snd (Prod.snd (Prod.snd (Prod.snd (x.2.2.2.2.2))))))))) (Enc.F eI (Prod.fst (Prod.snd (Prod.snd (Prod.snd (Prod.snd (Prod.snd (Prod.snd (x.2.2.2.2.2))))))))), PUnit.unit))))))))))) (T.br ((tiAt ti (x.1)).1 == (3 : Int)) (T.need ((0 : Int) ≤ x.1) (T.need (x.1 < (Nat.cast (R := Int) by_.length)) (T.need ((0 : Int) ≤ (tiAt ti (x.1)).2) (T.need ((tiAt ti (x.1)).2 < (4 : Int)) (T.need (Int.toNat (tiAt ti (x.1)).2 ≠ (4 : Nat)) (T.need (Int.toNat (tiAt ti (x.1)).2 < (5 : Nat)) (T.need (Enc.Is eI (List.length (Prod.fst (Prod.snd (Prod.snd (Prod.snd (Prod.snd (Prod.snd (Prod.snd (x.2.2.2.2.2))))))))) (Enc.F eI (Prod.fst (Prod.snd (Prod.snd (Prod.snd (Prod.snd (Prod.snd (Prod.snd (x.2.2.2.2.2)))))))))) (T.need (List.length (Prod.fst (Prod.snd (Prod.snd (Prod.snd (Prod.snd (Prod.snd (Prod.snd (x.2.2.2.2.2)))))))) ≤ List.length (Prod.fst (Prod.snd (Prod.snd (Prod.snd (Prod.snd (Prod.snd (Prod.snd (x.2.2.2.2.2))))))))) (T.ret (Sum.inl (IntKind.i64.wrap (x.1 + (1 : Int)), x.2.1, x.2.2.1, x.2.2.2.1, x.2.2.2.2.1, Prod.fst (x.2.2.2.2.2), Prod.fst (Prod.snd (x.2.2.2.2.2)), if Int.toNat (tiAt ti (x.1)).2 = (0 : Nat) then List.getD by_ (Int.toNat (x.1)) (0 : Int) else Prod.fst (Prod.snd (Prod.snd (x.2.2.2.2.2))), if Int.toNat (tiAt ti (x.1)).2 = (1 : Nat) then List.getD by_ (Int.toNat (x.1)) (0 : Int) else Prod.fst (Prod.snd (Prod.snd (Prod.snd (x.2.2.2.2.2)))), if Int.toNat (tiAt ti (x.1)).2 = (2 : Nat) then List.getD by_ (Int.toNat (x.1)) (0 : Int) else Prod.fst (Prod.snd (Prod.snd (Prod.snd (Prod.snd (x.2.2.2.2.2))))), if Int.toNat (tiAt ti (x.1)).2 = (3 : Nat) then List.getD by_ (Int.toNat (x.1)) (0 : Int) else Prod.fst (Prod.snd (Prod.snd (Prod.snd (Prod.snd (Prod.snd (x.2.2.2.2.2)))))), Enc.list eI (List.length (Prod.fst (Prod.snd (Prod.snd (Prod.snd (Prod.snd (Prod.snd (Prod.snd (x.2.2.2.2.2))))))))) (Enc.F eI (Prod.fst (Prod.snd (Prod.snd (Prod.snd (Prod.snd (Prod.snd (Prod.snd (x.2.2.2.2.2))))))))), PUnit.unit))))))))))) (T.need (Enc.Is eI (List.length (Prod.fst (Prod.snd (Prod.snd (Prod.snd (Prod.snd (Prod.snd (Prod.snd (x.2.2.2.2.2))))))))) (Enc.F eI (Prod.fst (Prod.snd (Prod.snd (Prod.snd (Prod.snd (Prod.snd (Prod.snd (x.2.2.2.2.2)))))))))) (T.need (List.length (Prod.fst (Prod.snd (Prod.snd (Prod.snd (Prod.snd (Prod.snd (Prod.snd (x.2.2.2.2.2)))))))) ≤ List.length (Prod.fst (Prod.snd (Prod.snd (Prod.snd (Prod.snd (Prod.snd (Prod.snd (x.2.2.2.2.2))))))))) (T.ret (Sum.inl (IntKind.i64.wrap (x.1 + (1 : Int)), x.2.1, x.2.2.1, x.2.2.2.1, x.2.2.2.2.1, Prod.fst (x.2.2.2.2.2), Prod.fst (Prod.snd (x.2.2.2.2.2)), Prod.fst (Prod.snd (Prod.snd (x.2.2.2.2.2))), Prod.fst (Prod.snd (Prod.snd (Prod.snd (x.2.2.2.2.2)))), Prod.fst (Prod.snd (Prod.snd (Prod.snd (Prod.snd (x.2.2.2.2.2))))), Prod.fst (Prod.snd (Prod.snd (Prod.snd (Prod.snd (Prod.snd (x.2.2.2.2.2)))))), Enc.list eI (List.length (Prod.fst (Prod.snd (Prod.snd (Prod.snd (Prod.snd (Prod.snd (Prod.snd (x.2.2.2.2.2))))))))) (Enc.F eI (Prod.fst (Prod.snd (Prod.snd (Prod.snd (Prod.snd (Prod.snd (Prod.snd (x.2.2.2.2.2))))))))), PUnit.unit)))))))))) (T.need (List.length (Prod.fst (Prod.snd (Prod.snd (Prod.snd (Prod.snd (Prod.snd (Prod.snd (x.2.2.2.2.2)))))))) ≤ List.length (Prod.fst (Prod.snd (Prod.snd (Prod.snd (Prod.snd (Prod.snd (Prod.snd (x.2.2.2.2.2))))))))) (T.ret (Sum.inr [Ar.agg [D.int IntKind.i64 (x.2.1), D.int IntKind.i64 (x.2.2.1), D.int IntKind.i64 (x.2.2.2.1), D.int IntKind.i64 (x.2.2.2.2.1), D.int IntKind.i64 (Prod.fst (x.2.2.2.2.2)), D.int IntKind.i64 (Prod.fst (Prod.snd (x.2.2.2.2.2))), D.int IntKind.i64 (Prod.fst (Prod.snd (Prod.snd (x.2.2.2.2.2)))), D.int IntKind.i64 (Prod.fst (Prod.snd (Prod.snd (Prod.snd (x.2.2.2.2.2))))), D.int IntKind.i64 (Prod.fst (Prod.snd (Prod.snd (Prod.snd (Prod.snd (x.2.2.2.2.2)))))), D.int IntKind.i64 (Prod.fst (Prod.snd (Prod.snd (Prod.snd (Prod.snd (Prod.snd (x.2.2.2.2.2))))))), D.sl true (List.length (Prod.fst (Prod.snd (Prod.snd (Prod.snd (Prod.snd (Prod.snd (Prod.snd (x.2.2.2.2.2))))))))) (1 : Nat) (Enc.F eI (Prod.fst (Prod.snd (Prod.snd (Prod.snd (Prod.snd (Prod.snd (Prod.snd (x.2.2.2.2.2)))))))))]]))))))))
theorem t69 (q0 q1 q2 : Bool) (den wd each n : Int) (k0 s0 : Nat) (F0 : Nat → Nat → D) (by_ : List Int) (ti : List Cond) : runFnX Try.prog G0 (lookS []) (fun _ => [(3, [.slot 18 (.int .i64), .blk 5 [.int .i64, .int .i64, .int .i64, .int .i64, .int .i64, .int .i64, .int .i64, .int .i64, .int .i64, .int .i64, .rowE 3 eI]], none)]) [] 1 40 3 69 Try.f69 [.agg [dI den, dI wd, .sl q0 k0 s0 F0, dI each, .sl q1 ti.length 4 (eK.F ti), .sl q2 by_.length 1 (eI.F by_)], .c (dI n)] =
    tr69 den wd each n [] by_ ti := by kernel_rfl
def WhichOK (n : Int) (ti : List Cond) : Prop := ∀ c, c ∈ ti → 0 ≤ c.which ∧ (c.kind = 1 → c.which < n) ∧ (c.kind ≠ 1 → c.kind ≠ 0 → c.which < 4)
theorem w_len (n : Nat) (ti : List Cond) (by_ : List Int) (wd each : Int) : ∀ k, ((List.range k).foldl (fun w i => M.wStep w (ti.getD i ⟨0, 0, [], 0⟩) (by_.getD i 0)) ⟨wd, each, 0, 0, 0, 0, 0, 0, 0, 0, List.replicate n 0⟩).casks.length = n := by
  intro k
  induction k with
  | zero => simp
  | succ k ih =>
    rw [foldl_succ]
    generalize (List.range k).foldl (fun w i => M.wStep w (ti.getD i ⟨0, 0, [], 0⟩) (by_.getD i 0)) ⟨wd, each, 0, 0, 0, 0, 0, 0, 0, 0, List.replicate n 0⟩ = w at *
    unfold M.wStep
    cases (ti.getD k ⟨0, 0, [], 0⟩).kind == 1 <;> cases (ti.getD k ⟨0, 0, [], 0⟩).kind == 2 <;> cases (ti.getD k ⟨0, 0, [], 0⟩).kind == 3 <;> simp [ih]
theorem w69 (den wd each n : Int) (pt by_ : List Int) (ti : List Cond) (hn0 : 0 ≤ n) (hn : n ≤ 1000) (hl : ti.length ≤ by_.length) (h1 : ti.length ≤ 1000) (hw : WhichOK n ti) : (tr69 den wd each n pt by_ ti).wp (fun rs => rsEqv rs [resW (M.weights wd each ti by_ n.toNat)]) := by
  unfold tr69
  obtain ⟨z1, z2⟩ := zeros_int n.toNat
  refine ⟨hn0, Int.le_refl _, by omega, z1, Nat.le_refl _, ?_⟩
  refine range_wp (S := WS) (n := ti.length) (fun k s => s = wS ((List.range k).foldl (fun w i => M.wStep w (ti.getD i ⟨0, 0, [], 0⟩) (by_.getD i 0)) ⟨wd, each, 0, 0, 0, 0, 0, 0, 0, 0, List.replicate n.toNat 0⟩)) (by rw [z2]; rfl) ?_
  rintro k s hk rfl
  have hwl := w_len n.toNat ti by_ wd each k
  have hsucc := foldl_succ (f := fun w i => M.wStep w (ti.getD i ⟨0, 0, [], 0⟩) (by_.getD i 0)) (a := (⟨wd, each, 0, 0, 0, 0, 0, 0, 0, 0, List.replicate n.toNat 0⟩ : Wts)) (k := k)
  have hfin : M.weights wd each ti by_ n.toNat = (List.range ti.length).foldl (fun w i => M.wStep w (ti.getD i ⟨0, 0, [], 0⟩) (by_.getD i 0)) ⟨wd, each, 0, 0, 0, 0, 0, 0, 0, 0, List.replicate n.toNat 0⟩ := rfl
  rw [hsucc]
  refine wp_br (fun hb => ?_) (fun hb => ?_)
  · have hlt := lt_of_dec hb
    have hc : ti.getD k ⟨0, 0, [], 0⟩ ∈ ti := mem_getD hlt
    obtain ⟨c, hcc⟩ : ∃ c, c = ti.getD k ⟨0, 0, [], 0⟩ := ⟨_, rfl⟩
    have hti : tiAt ti (k : Int) = c := by rw [hcc]; rfl
    rw [← hcc] at hc ⊢
    obtain ⟨q0, q1, q2⟩ := hw c hc
    clear hsucc hfin
    generalize (List.range k).foldl (fun w i => M.wStep w (ti.getD i ⟨0, 0, [], 0⟩) (by_.getD i 0)) ⟨wd, each, 0, 0, 0, 0, 0, 0, 0, 0, List.replicate n.toNat 0⟩ = w at *
    obtain ⟨w1, w2, x0, x1, x2, x3, y0, y1, y2, y3, cl⟩ := w
    simp only at hwl
    obtain ⟨b, hbb⟩ : ∃ b, b = by_.getD k 0 := ⟨_, rfl⟩
    have g1 : (0 : Int) ≤ (k : Int) := by omega
    have g2 : (k : Int) < (ti.length : Int) := by omega
    have g3 : (k : Int) < (by_.length : Int) := by omega
    refine ⟨g1, g2, ?_⟩
    simp only [hti]
    refine wp_br (fun k1 => ?_) (fun k1 => wp_br (fun k2 => ?_) (fun k2 => wp_br (fun k3 => ?_) (fun k3 => ?_)))
    · have k1' : c.kind = 1 := by simpa using k1
      have hwn := q1 k1'
      have hcl : c.which.toNat < cl.length := by omega
      obtain ⟨p1, p2⟩ := put_int (l := cl) (i := c.which.toNat) (b := b) hcl
      rw [hbb] at p1 p2
      refine ⟨g1, g3, q0, by show c.which < (cl.length : Int); omega, hcl, p1, Nat.le_refl _, hlt, wrap_succ (by omega), ?_⟩
      show (_ : WS) = _
      unfold M.wStep wS
      rw [k1]
      simp only [cond_true]
      refine congrArg (fun z => (w1, w2, x0, x1, x2, x3, y0, y1, y2, y3, z, PUnit.unit)) ?_
      exact p2
    · have k1' : ¬ c.kind = 1 := by simpa using k1
      have k2' : c.kind = 2 := by simpa using k2
      have hwn := q2 k1' (by omega)
      refine ⟨g1, g3, q0, hwn, by omega, by omega, Enc.is_F _ _ _, Nat.le_refl _, hlt, wrap_succ (by omega), ?_⟩
      show (_ : WS) = _
      have n4 : ¬ c.which.toNat = 4 := by omega
      have n5 : ¬ c.which.toNat = 5 := by omega
      have n6 : ¬ c.which.toNat = 6 := by omega
      have n7 : ¬ c.which.toNat = 7 := by omega
      simp only [wS, if_neg n4, if_neg n5, if_neg n6, if_neg n7, Enc.list_F]
      unfold M.wStep
      rw [k1, k2]
      rfl
    · have k1' : ¬ c.kind = 1 := by simpa using k1
      have k3' : c.kind = 3 := by simpa using k3
      have hwn := q2 k1' (by omega)
      refine ⟨g1, g3, q0, hwn, by omega, by omega, Enc.is_F _ _ _, Nat.le_refl _, hlt, wrap_succ (by omega), ?_⟩
      show (_ : WS) = _
      simp only [wS, Enc.list_F]
      unfold M.wStep
      rw [k1, k2, k3]
      rfl
    · refine ⟨Enc.is_F _ _ _, Nat.le_refl _, hlt, wrap_succ (by omega), ?_⟩
      show (_ : WS) = _
      simp only [wS, Enc.list_F]
      unfold M.wStep
      rw [k1, k2, k3]
      rfl
  · have hge := ge_of_dec hb
    obtain rfl : k = ti.length := by omega
    rw [← hfin]
    refine ⟨Nat.le_refl _, ?_⟩
    exact ⟨⟨rfl, rfl, rfl, rfl, rfl, rfl, rfl, rfl, rfl, rfl, ⟨(fun e => by cases e), rfl, fun _ => rfl, fun i j _ _ => D.eqv_refl _⟩, trivial⟩, trivial⟩
def dom69 : DomF
  | [.agg [.int .i64 den, .int .i64 wd, .sl _ k0 s0 F0, .int .i64 each, .sl _ k1 s1 F1, .sl _ k2 s2 F2], .c (.int .i64 n)] => (match Nat.beq s1 4 && Nat.beq s2 1 with
    | true => some ([eK.Is k1 F1, eI.Is k2 F2, 0 ≤ n, n ≤ 1000, k1 ≤ k2, k1 ≤ 1000, WhichOK n (eK.list k1 F1)], [resW (M.weights wd each (eK.list k1 F1) (eI.list k2 F2) n.toNat)])
    | _ => none)
  | _ => none
def v69 : Nat × Sm := (69, fokSm dom69)
theorem C69 : FOK Try.prog G0 gw 69 dom69 := by
  intro ags p r hd hp κ w xs hw hl hG hx
  unfold dom69 at hd
  split at hd
  · rename_i den wd q0 k0 s0 F0 each q1 k1 s1 F1 q2 k2 s2 F2 n
    split at hd
    · rename_i hst
      simp only [Bool.and_eq_true] at hst
      obtain ⟨g1, g2⟩ := hst
      have g1 := Nat.eq_of_beq_eq_true g1
      have g2 := Nat.eq_of_beq_eq_true g2
      subst g1 g2
      simp only [Option.some.injEq, Prod.mk.injEq] at hd
      obtain ⟨rfl, rfl⟩ := hd
      obtain ⟨hK, hI, h0, h1, h2, h3, h4, _⟩ := hp
      have heq : agsEqv [.agg [.int .i64 den, .int .i64 wd, .sl q0 k0 s0 F0, .int .i64 each, .sl q1 k1 4 F1, .sl q2 k2 1 F2], .c (.int .i64 n)] [.agg [.int .i64 den, .int .i64 wd, .sl q0 k0 s0 F0, .int .i64 each, .sl q1 (eK.list k1 F1).length 4 (eK.F (eK.list k1 F1)), .sl q2 (eI.list k2 F2).length 1 (eI.F (eI.list k2 F2))], .c (.int .i64 n)] :=
        ⟨⟨rfl, rfl, D.eqv_refl _, rfl, eK.to id hK, eI.to id hI, trivial⟩, Ag.eqv_refl _, trivial⟩
      have l1 : (eK.list k1 F1).length = k1 := eK.list_len
      have l2 : (eI.list k2 F2).length = k2 := eI.list_len
      generalize eK.list k1 F1 = ti at *
      generalize eI.list k2 F2 = by_ at *
      subst l1 l2
      exact fokX_fin mixed gw_stable (sl := []) trivial Try.func69 hw hl hG hx heq rfl (t69 q0 q1 q2 den wd each n k0 s0 F0 by_ ti) (w69 den wd each n [] by_ ti h0 h1 h2 h3 h4)
    · cases hd
  · cases hd
theorem S69 : SumOK Try.prog G0 gw 69 (fokSm dom69) := fok_sum Try.func69 rfl C69
end Go.Bl
end

section
set_option linter.unusedVariables false
set_option linter.unusedSimpArgs false
set_option maxRecDepth 100000
namespace Go.Bl
open Go.V Go.Proofs
structure BestR where
  c0 : Int
  c1 : Int
  den : Int
  pt : List Int
  w : Wts
  e : Int
namespace M
def zeroW : Wts := ⟨0, 0, 0, 0, 0, 0, 0, 0, 0, 0, []⟩
def pBest (l : List Cask) (s : Sample) : Option Corner := psolve (shares l 0) s.vol (costs l) (limits l s 0)
def wtsOf (x : Corner) (n : Nat) : Wts := weights x.wd x.each x.tight x.by_ n
def bestC (l : List Cask) (x : Corner) : BestR := ⟨told1 (sumP Cask.cost l x.pt) x.den, told2 (sumP Cask.cost l x.pt) x.den, x.den, x.pt, wtsOf x l.length, 0⟩
def best (l : List Cask) (s : Sample) : BestR :=
  cond (taskErr l s != 0) ⟨0, 0, 0, [], zeroW, taskErr l s⟩ (match pBest l s with | some x => bestC l x | none => ⟨0, 0, 0, [], zeroW, 12⟩)
end M
def resB (b : BestR) : List Ar := [.agg [dI b.c0, dI b.c1, dI b.den, dL b.pt, dI b.w.den, dI b.w.each, dI b.w.x0, dI b.w.x1, dI b.w.x2, dI b.w.x3, dI b.w.y0, dI b.w.y1, dI b.w.y2, dI b.w.y3, dL b.w.casks], rI b.e]
def CornerOK (l : List Cask) (n : Nat) (x : M.Corner) : Prop :=
  x.pt.length ≤ n ∧ x.den ≠ 0 ∧ i64ok x.den ∧ x.tight.length ≤ x.by_.length ∧ x.tight.length ≤ 1000 ∧ WhichOK l.length x.tight
def BestOK (l : List Cask) (s : Sample) : Prop := M.taskErr l s = 0 → 1 ≤ l.length ∧ l.length ≤ 4 ∧ (∀ c, c ∈ M.limits l s 0 → c.coefs.length = (M.shares l 0).length) ∧ TurnOK (M.shares l 0) (M.limits l s 0) ∧
  ∀ x, M.pBest l s = some x → CornerOK l l.length x ∧ i64ok (M.sumP Cask.cost l x.pt)
theorem shares_len (l : List Cask) (k : Nat) : (M.shares l k).length = l.length + k := by simp [M.shares]
theorem costs_len (l : List Cask) : (M.costs l).length = l.length := by simp [M.costs]
theorem far_len (l : List Cask) : (M.far l).length = l.length + 1 := by simp [M.far]
theorem limits_len (l : List Cask) (s : Sample) (k : Nat) : (M.limits l s k).length = 2 * l.length + k + 8 := by
  simp only [M.limits, List.length_append, List.length_map, List.length_range]
  have : ((List.range 4).flatMap fun (k' : Nat) => [(⟨2, k', M.by_ l (l.length + k) fun c => IntKind.i64.wrap (M.val c k' - (M.rg s k').hi), 0⟩ : Cond), ⟨3, k', M.by_ l (l.length + k) fun c => IntKind.i64.wrap ((M.rg s k').lo - M.val c k'), 0⟩]).length = 8 := rfl
  rw [this]; omega
def P20 (LL : List Cask) (SS : Sample) : Option M.Corner := (M.psolve (Enc.list eI (List.length (M.shares LL (0 : Nat))) (Enc.F eI (M.shares LL (0 : Nat)))) (Sample.vol SS) (Enc.list eI (List.length (M.costs LL)) (Enc.F eI (M.costs LL))) (Enc.list eK (List.length (M.limits LL SS (0 : Nat))) (Enc.F eK (M.limits LL SS (0 : Nat)))))
def tr20 (l : List Cask) (s : Sample) : T (List Ar) :=
    T.need (Enc.Is eC (List.length l) (Enc.F eC l)) (T.need (∀ (c : Cask), c ∈ (Enc.list eC (List.length l) (Enc.F eC l)) → ByteArray.size (Cask.nm c) ≤ (1000000 : Nat)) (T.br (M.first [M.casksErr (Enc.list eC (List.length l) (Enc.F eC l)), M.checkSample s] != (0 : Int)) (T.ret [Ar.agg [D.int IntKind.i64 (0 : Int), D.int IntKind.i64 (0 : Int), D.int IntKind.i64 (0 : Int), D.sl false (0 : Nat) (0 : Nat) fun (x x_1 : Nat) => D.nilp, D.int IntKind.i64 (0 : Int), D.int IntKind.i64 (0 : Int), D.int IntKind.i64 (0 : Int), D.int IntKind.i64 (0 : Int), D.int IntKind.i64 (0 : Int), D.int IntKind.i64 (0 : Int), D.int IntKind.i64 (0 : Int), D.int IntKind.i64 (0 : Int), D.int IntKind.i64 (0 : Int), D.int IntKind.i64 (0 : Int), D.sl false (0 : Nat) (0 : Nat) fun (x x_1 : Nat) => D.nilp], Ar.c (D.int IntKind.i64 (M.first [M.casksErr (Enc.list eC (List.length l) (Enc.F eC l)), M.checkSample s]))]) (T.need (Enc.Is eC (List.length l) (Enc.F eC l)) (T.need ((1 : Nat) ≤ List.length l) (T.need (List.length l ≤ (4 : Nat)) (T.need (Enc.Is eI (List.length (M.shares (Enc.list eC (List.length l) (Enc.F eC l)) (0 : Nat))) (Enc.F eI (M.shares (Enc.list eC (List.length l) (Enc.F eC l)) (0 : Nat)))) (T.need (Enc.Is eI (List.length (M.costs (Enc.list eC (List.length l) (Enc.F eC l)))) (Enc.F eI (M.costs (Enc.list eC (List.length l) (Enc.F eC l))))) (T.need (Enc.Is eK (List.length (M.limits (Enc.list eC (List.length l) (Enc.F eC l)) s (0 : Nat))) (Enc.F eK (M.limits (Enc.list eC (List.length l) (Enc.F eC l)) s (0 : Nat)))) (T.need ((1 : Nat) ≤ List.length (M.shares (Enc.list eC (List.length l) (Enc.F eC l)) (0 : Nat))) (T.need (List.length (M.shares (Enc.list eC (List.length l) (Enc.F eC l)) (0 : Nat)) ≤ (5 : Nat)) (T.need (List.length (M.shares (Enc.list eC (List.length l) (Enc.F eC l)) (0 : Nat)) = List.length (M.costs (Enc.list eC (List.length l) (Enc.F eC l)))) (T.need (List.length (M.limits (Enc.list eC (List.length l) (Enc.F eC l)) s (0 : Nat)) ≤ (1000 : Nat)) (T.need (∀ (c : Cond), c ∈ Enc.list eK (List.length (M.limits (Enc.list eC (List.length l) (Enc.F eC l)) s (0 : Nat))) (Enc.F eK (M.limits (Enc.list eC (List.length l) (Enc.F eC l)) s (0 : Nat))) → List.length (Cond.coefs c) = List.length (M.shares (Enc.list eC (List.length l) (Enc.F eC l)) (0 : Nat))) (T.need (∀ (set : List Cond), List.length set + (1 : Nat) = List.length (Enc.list eI (List.length (M.shares (Enc.list eC (List.length l) (Enc.F eC l)) (0 : Nat))) (Enc.F eI (M.shares (Enc.list eC (List.length l) (Enc.F eC l)) (0 : Nat)))) → (∀ (c : Cond), c ∈ set → c ∈ Enc.list eK (List.length (M.limits (Enc.list eC (List.length l) (Enc.F eC l)) s (0 : Nat))) (Enc.F eK (M.limits (Enc.list eC (List.length l) (Enc.F eC l)) s (0 : Nat)))) → M.det (M.mat (Enc.list eI (List.length (M.shares (Enc.list eC (List.length l) (Enc.F eC l)) (0 : Nat))) (Enc.F eI (M.shares (Enc.list eC (List.length l) (Enc.F eC l)) (0 : Nat)))) set) ≠ (0 : Int) → M.det (M.turned (M.mat (Enc.list eI (List.length (M.shares (Enc.list eC (List.length l) (Enc.F eC l)) (0 : Nat))) (Enc.F eI (M.shares (Enc.list eC (List.length l) (Enc.F eC l)) (0 : Nat)))) set)) ≠ (0 : Int)) (T.br (!Option.isSome (P20 (Enc.list eC (List.length l) (Enc.F eC l)) s)) (T.ret [Ar.agg [D.int IntKind.i64 (0 : Int), D.int IntKind.i64 (0 : Int), D.int IntKind.i64 (0 : Int), D.sl false (0 : Nat) (0 : Nat) fun (x x_1 : Nat) => D.nilp, D.int IntKind.i64 (0 : Int), D.int IntKind.i64 (0 : Int), D.int IntKind.i64 (0 : Int), D.int IntKind.i64 (0 : Int), D.int IntKind.i64 (0 : Int), D.int IntKind.i64 (0 : Int), D.int IntKind.i64 (0 : Int), D.int IntKind.i64 (0 : Int), D.int IntKind.i64 (0 : Int), D.int IntKind.i64 (0 : Int), D.sl false (0 : Nat) (0 : Nat) fun (x x_1 : Nat) => D.nilp], Ar.c (D.int IntKind.i64 (12 : Int))]) (T.need (Enc.Is eC (List.length l) (Enc.F eC l)) (T.need (Enc.Is eI (List.length (M.Corner.pt (cOf (P20 (Enc.list eC (List.length l) (Enc.F eC l)) s)))) (Enc.F eI (M.Corner.pt (cOf (P20 (Enc.list eC (List.length l) (Enc.F eC l)) s))))) (T.need (List.length (M.Corner.pt (cOf (P20 (Enc.list eC (List.length l) (Enc.F eC l)) s))) ≤ List.length l) (T.need (List.length (M.Corner.pt (cOf (P20 (Enc.list eC (List.length l) (Enc.F eC l)) s))) ≤ (1000 : Nat)) (T.need (M.Corner.den (cOf (P20 (Enc.list eC (List.length l) (Enc.F eC l)) s)) ≠ (0 : Int)) (T.need (Int.natAbs (M.Corner.den (cOf (P20 (Enc.list eC (List.length l) (Enc.F eC l)) s))) < (9223372036854775808 : Nat)) (T.need (Int.natAbs (M.sumP Cask.cost (Enc.list eC (List.length l) (Enc.F eC l)) (Enc.list eI (List.length (M.Corner.pt (cOf (P20 (Enc.list eC (List.length l) (Enc.F eC l)) s)))) (Enc.F eI (M.Corner.pt (cOf (P20 (Enc.list eC (List.length l) (Enc.F eC l)) s)))))) < (9223372036854775808 : Nat)) (T.need (Enc.Is eK (List.length (M.Corner.tight (cOf (P20 (Enc.list eC (List.length l) (Enc.F eC l)) s)))) (Enc.F eK (M.Corner.tight (cOf (P20 (Enc.list eC (List.length l) (Enc.F eC l)) s))))) (T.need (Enc.Is eI (List.length (M.Corner.by_ (cOf (P20 (Enc.list eC (List.length l) (Enc.F eC l)) s)))) (Enc.F eI (M.Corner.by_ (cOf (P20 (Enc.list eC (List.length l) (Enc.F eC l)) s))))) (T.need ((0 : Int) ≤ (Nat.cast (R := Int) l.length)) (T.need ((Nat.cast (R := Int) l.length) ≤ (1000 : Int)) (T.need (List.length (M.Corner.tight (cOf (P20 (Enc.list eC (List.length l) (Enc.F eC l)) s))) ≤ List.length (M.Corner.by_ (cOf (P20 (Enc.list eC (List.length l) (Enc.F eC l)) s)))) (T.need (List.length (M.Corner.tight (cOf (P20 (Enc.list eC (List.length l) (Enc.F eC l)) s))) ≤ (1000 : Nat)) (T.need (∀ (c : Cond), c ∈ Enc.list eK (List.length (M.Corner.tight (cOf (P20 (Enc.list eC (List.length l) (Enc.F eC l)) s)))) (Enc.F eK (M.Corner.tight (cOf (P20 (Enc.list eC (List.length l) (Enc.F eC l)) s)))) → (0 : Int) ≤ Cond.which c ∧ (Cond.kind c = (1 : Int) → Cond.which c < (Nat.cast (R := Int) l.length)) ∧ (Cond.kind c ≠ (1 : Int) → Cond.kind c ≠ (0 : Int) → Cond.which c < (4 : Int))) (T.ret [Ar.agg [D.int IntKind.i64 (M.told1 (M.sumP (fun (self : Cask) => self.3) (Enc.list eC (List.length l) (Enc.F eC l)) (Enc.list eI (List.length (M.Corner.pt (cOf (P20 (Enc.list eC (List.length l) (Enc.F eC l)) s)))) (Enc.F eI (M.Corner.pt (cOf (P20 (Enc.list eC (List.length l) (Enc.F eC l)) s)))))) (M.Corner.den (cOf (P20 (Enc.list eC (List.length l) (Enc.F eC l)) s)))), D.int IntKind.i64 (M.told2 (M.sumP (fun (self : Cask) => self.3) (Enc.list eC (List.length l) (Enc.F eC l)) (Enc.list eI (List.length (M.Corner.pt (cOf (P20 (Enc.list eC (List.length l) (Enc.F eC l)) s)))) (Enc.F eI (M.Corner.pt (cOf (P20 (Enc.list eC (List.length l) (Enc.F eC l)) s)))))) (M.Corner.den (cOf (P20 (Enc.list eC (List.length l) (Enc.F eC l)) s)))), D.int IntKind.i64 (M.Corner.den (cOf (P20 (Enc.list eC (List.length l) (Enc.F eC l)) s))), D.sl false (List.length (M.Corner.pt (cOf (P20 (Enc.list eC (List.length l) (Enc.F eC l)) s)))) (1 : Nat) (Enc.F eI (M.Corner.pt (cOf (P20 (Enc.list eC (List.length l) (Enc.F eC l)) s)))), D.int IntKind.i64 (M.weights (M.Corner.wd (cOf (P20 (Enc.list eC (List.length l) (Enc.F eC l)) s))) (M.Corner.each (cOf (P20 (Enc.list eC (List.length l) (Enc.F eC l)) s))) (Enc.list eK (List.length (M.Corner.tight (cOf (P20 (Enc.list eC (List.length l) (Enc.F eC l)) s)))) (Enc.F eK (M.Corner.tight (cOf (P20 (Enc.list eC (List.length l) (Enc.F eC l)) s))))) (Enc.list eI (List.length (M.Corner.by_ (cOf (P20 (Enc.list eC (List.length l) (Enc.F eC l)) s)))) (Enc.F eI (M.Corner.by_ (cOf (P20 (Enc.list eC (List.length l) (Enc.F eC l)) s))))) (Int.toNat (Nat.cast (R := Int) l.length))).1, D.int IntKind.i64 (M.weights (M.Corner.wd (cOf (P20 (Enc.list eC (List.length l) (Enc.F eC l)) s))) (M.Corner.each (cOf (P20 (Enc.list eC (List.length l) (Enc.F eC l)) s))) (Enc.list eK (List.length (M.Corner.tight (cOf (P20 (Enc.list eC (List.length l) (Enc.F eC l)) s)))) (Enc.F eK (M.Corner.tight (cOf (P20 (Enc.list eC (List.length l) (Enc.F eC l)) s))))) (Enc.list eI (List.length (M.Corner.by_ (cOf (P20 (Enc.list eC (List.length l) (Enc.F eC l)) s)))) (Enc.F eI (M.Corner.by_ (cOf (P20 (Enc.list eC (List.length l) (Enc.F eC l)) s))))) (Int.toNat (Nat.cast (R := Int) l.length))).2, D.int IntKind.i64 (M.weights (M.Corner.wd (cOf (P20 (Enc.list eC (List.length l) (Enc.F eC l)) s))) (M.Corner.each (cOf (P20 (Enc.list eC (List.length l) (Enc.F eC l)) s))) (Enc.list eK (List.length (M.Corner.tight (cOf (P20 (Enc.list eC (List.length l) (Enc.F eC l)) s)))) (Enc.F eK (M.Corner.tight (cOf (P20 (Enc.list eC (List.length l) (Enc.F eC l)) s))))) (Enc.list eI (List.length (M.Corner.by_ (cOf (P20 (Enc.list eC (List.length l) (Enc.F eC l)) s)))) (Enc.F eI (M.Corner.by_ (cOf (P20 (Enc.list eC (List.length l) (Enc.F eC l)) s))))) (Int.toNat (Nat.cast (R := Int) l.length))).3, D.int IntKind.i64 (M.weights (M.Corner.wd (cOf (P20 (Enc.list eC (List.length l) (Enc.F eC l)) s))) (M.Corner.each (cOf (P20 (Enc.list eC (List.length l) (Enc.F eC l)) s))) (Enc.list eK (List.length (M.Corner.tight (cOf (P20 (Enc.list eC (List.length l) (Enc.F eC l)) s)))) (Enc.F eK (M.Corner.tight (cOf (P20 (Enc.list eC (List.length l) (Enc.F eC l)) s))))) (Enc.list eI (List.length (M.Corner.by_ (cOf (P20 (Enc.list eC (List.length l) (Enc.F eC l)) s)))) (Enc.F eI (M.Corner.by_ (cOf (P20 (Enc.list eC (List.length l) (Enc.F eC l)) s))))) (Int.toNat (Nat.cast (R := Int) l.length))).4, D.int IntKind.i64 (M.weights (M.Corner.wd (cOf (P20 (Enc.list eC (List.length l) (Enc.F eC l)) s))) (M.Corner.each (cOf (P20 (Enc.list eC (List.length l) (Enc.F eC l)) s))) (Enc.list eK (List.length (M.Corner.tight (cOf (P20 (Enc.list eC (List.length l) (Enc.F eC l)) s)))) (Enc.F eK (M.Corner.tight (cOf (P20 (Enc.list eC (List.length l) (Enc.F eC l)) s))))) (Enc.list eI (List.length (M.Corner.by_ (cOf (P20 (Enc.list eC (List.length l) (Enc.F eC l)) s)))) (Enc.F eI (M.Corner.by_ (cOf (P20 (Enc.list eC (List.length l) (Enc.F eC l)) s))))) (Int.toNat (Nat.cast (R := Int) l.length))).5, D.int IntKind.i64 (M.weights (M.Corner.wd (cOf (P20 (Enc.list eC (List.length l) (Enc.F eC l)) s))) (M.Corner.each (cOf (P20 (Enc.list eC (List.length l) (Enc.F eC l)) s))) (Enc.list eK (List.length (M.Corner.tight (cOf (P20 (Enc.list eC (List.length l) (Enc.F eC l)) s)))) (Enc.F eK (M.Corner.tight (cOf (P20 (Enc.list eC (List.length l) (Enc.F eC l)) s))))) (Enc.list eI (List.length (M.Corner.by_ (cOf (P20 (Enc.list eC (List.length l) (Enc.F eC l)) s)))) (Enc.F eI (M.Corner.by_ (cOf (P20 (Enc.list eC (List.length l) (Enc.F eC l)) s))))) (Int.toNat (Nat.cast (R := Int) l.length))).6, D.int IntKind.i64 (M.weights (M.Corner.wd (cOf (P20 (Enc.list eC (List.length l) (Enc.F eC l)) s))) (M.Corner.each (cOf (P20 (Enc.list eC (List.length l) (Enc.F eC l)) s))) (Enc.list eK (List.length (M.Corner.tight (cOf (P20 (Enc.list eC (List.length l) (Enc.F eC l)) s)))) (Enc.F eK (M.Corner.tight (cOf (P20 (Enc.list eC (List.length l) (Enc.F eC l)) s))))) (Enc.list eI (List.length (M.Corner.by_ (cOf (P20 (Enc.list eC (List.length l) (Enc.F eC l)) s)))) (Enc.F eI (M.Corner.by_ (cOf (P20 (Enc.list eC (List.length l) (Enc.F eC l)) s))))) (Int.toNat (Nat.cast (R := Int) l.length))).7, D.int IntKind.i64 (M.weights (M.Corner.wd (cOf (P20 (Enc.list eC (List.length l) (Enc.F eC l)) s))) (M.Corner.each (cOf (P20 (Enc.list eC (List.length l) (Enc.F eC l)) s))) (Enc.list eK (List.length (M.Corner.tight (cOf (P20 (Enc.list eC (List.length l) (Enc.F eC l)) s)))) (Enc.F eK (M.Corner.tight (cOf (P20 (Enc.list eC (List.length l) (Enc.F eC l)) s))))) (Enc.list eI (List.length (M.Corner.by_ (cOf (P20 (Enc.list eC (List.length l) (Enc.F eC l)) s)))) (Enc.F eI (M.Corner.by_ (cOf (P20 (Enc.list eC (List.length l) (Enc.F eC l)) s))))) (Int.toNat (Nat.cast (R := Int) l.length))).8, D.int IntKind.i64 (M.weights (M.Corner.wd (cOf (P20 (Enc.list eC (List.length l) (Enc.F eC l)) s))) (M.Corner.each (cOf (P20 (Enc.list eC (List.length l) (Enc.F eC l)) s))) (Enc.list eK (List.length (M.Corner.tight (cOf (P20 (Enc.list eC (List.length l) (Enc.F eC l)) s)))) (Enc.F eK (M.Corner.tight (cOf (P20 (Enc.list eC (List.length l) (Enc.F eC l)) s))))) (Enc.list eI (List.length (M.Corner.by_ (cOf (P20 (Enc.list eC (List.length l) (Enc.F eC l)) s)))) (Enc.F eI (M.Corner.by_ (cOf (P20 (Enc.list eC (List.length l) (Enc.F eC l)) s))))) (Int.toNat (Nat.cast (R := Int) l.length))).9, D.int IntKind.i64 (M.weights (M.Corner.wd (cOf (P20 (Enc.list eC (List.length l) (Enc.F eC l)) s))) (M.Corner.each (cOf (P20 (Enc.list eC (List.length l) (Enc.F eC l)) s))) (Enc.list eK (List.length (M.Corner.tight (cOf (P20 (Enc.list eC (List.length l) (Enc.F eC l)) s)))) (Enc.F eK (M.Corner.tight (cOf (P20 (Enc.list eC (List.length l) (Enc.F eC l)) s))))) (Enc.list eI (List.length (M.Corner.by_ (cOf (P20 (Enc.list eC (List.length l) (Enc.F eC l)) s)))) (Enc.F eI (M.Corner.by_ (cOf (P20 (Enc.list eC (List.length l) (Enc.F eC l)) s))))) (Int.toNat (Nat.cast (R := Int) l.length))).10, D.sl false (List.length (M.weights (M.Corner.wd (cOf (P20 (Enc.list eC (List.length l) (Enc.F eC l)) s))) (M.Corner.each (cOf (P20 (Enc.list eC (List.length l) (Enc.F eC l)) s))) (Enc.list eK (List.length (M.Corner.tight (cOf (P20 (Enc.list eC (List.length l) (Enc.F eC l)) s)))) (Enc.F eK (M.Corner.tight (cOf (P20 (Enc.list eC (List.length l) (Enc.F eC l)) s))))) (Enc.list eI (List.length (M.Corner.by_ (cOf (P20 (Enc.list eC (List.length l) (Enc.F eC l)) s)))) (Enc.F eI (M.Corner.by_ (cOf (P20 (Enc.list eC (List.length l) (Enc.F eC l)) s))))) (Int.toNat (Nat.cast (R := Int) l.length))).11) (1 : Nat) (Enc.F eI (M.weights (M.Corner.wd (cOf (P20 (Enc.list eC (List.length l) (Enc.F eC l)) s))) (M.Corner.each (cOf (P20 (Enc.list eC (List.length l) (Enc.F eC l)) s))) (Enc.list eK (List.length (M.Corner.tight (cOf (P20 (Enc.list eC (List.length l) (Enc.F eC l)) s)))) (Enc.F eK (M.Corner.tight (cOf (P20 (Enc.list eC (List.length l) (Enc.F eC l)) s))))) (Enc.list eI (List.length (M.Corner.by_ (cOf (P20 (Enc.list eC (List.length l) (Enc.F eC l)) s)))) (Enc.F eI (M.Corner.by_ (cOf (P20 (Enc.list eC (List.length l) (Enc.F eC l)) s))))) (Int.toNat (Nat.cast (R := Int) l.length))).11)], Ar.c (D.int IntKind.i64 (0 : Int))]))))))))))))))))))))))))))))))
theorem t20 (q_l : Bool) (l : List Cask) (sv l0 h0 l1 h1 l2 h2 l3 h3 : Int) : runFnX Try.prog G0 (lookS [v65, v49, v64, v66, v67, v68, v69]) (fun _ => []) [] 1 40 3 20 Try.f20 [.c (.sl q_l l.length 7 (eC.F l)), .agg [dI sv, dI l0, dI h0, dI l1, dI h1, dI l2, dI h2, dI l3, dI h3]] =
    tr20 l (⟨sv, ⟨l0, h0⟩, ⟨l1, h1⟩, ⟨l2, h2⟩, ⟨l3, h3⟩⟩ : Sample) := by kernel_rfl
theorem w20 (l : List Cask) (s : Sample) (hn : ∀ c, c ∈ l → c.nm.size ≤ 1000000) (h : BestOK l s) : (tr20 l s).wp (fun rs => rsEqv rs (resB (M.best l s))) := by
  have hP : P20 l s = M.pBest l s := by unfold P20 M.pBest; simp only [Enc.list_F]
  have z0 : (nilD).eqv (dL []) := ⟨(fun e => by cases e), rfl, (fun h => absurd h (Nat.lt_irrefl 0)), fun i j hi => absurd hi (Nat.not_lt_zero i)⟩
  unfold tr20
  simp only [Enc.list_F, hP]
  refine ⟨Enc.is_F _ _ _, hn, wp_br (fun hb => ?_) (fun hb => ?_)⟩
  · have : M.best l s = ⟨0, 0, 0, [], M.zeroW, M.taskErr l s⟩ := by
      unfold M.best; rw [show (M.taskErr l s != 0) = true from hb]; rfl
    rw [this]
    exact ⟨⟨rfl, rfl, rfl, z0, rfl, rfl, rfl, rfl, rfl, rfl, rfl, rfl, rfl, rfl, z0, trivial⟩, rfl, trivial⟩
  · have hb' : (M.taskErr l s != 0) = false := hb
    have he : M.taskErr l s = 0 := by simpa using hb'
    obtain ⟨h1, h4, hco, htd, hx⟩ := h he
    have hbest : M.best l s = (match M.pBest l s with | some x => M.bestC l x | none => ⟨0, 0, 0, [], M.zeroW, 12⟩) := by
      unfold M.best; rw [hb']; rfl
    rw [hbest]
    refine ⟨Enc.is_F _ _ _, h1, h4, Enc.is_F _ _ _, Enc.is_F _ _ _, Enc.is_F _ _ _, by rw [shares_len]; omega, by rw [shares_len]; omega, by rw [shares_len, costs_len]; omega, by rw [limits_len]; omega, hco, htd, ?_⟩
    cases hp : M.pBest l s with
    | none =>
      refine ⟨fun _ => ?_, (fun h => (by cases h))⟩
      exact ⟨⟨rfl, rfl, rfl, z0, rfl, rfl, rfl, rfl, rfl, rfl, rfl, rfl, rfl, rfl, z0, trivial⟩, rfl, trivial⟩
    | some x =>
      obtain ⟨⟨c1, c2, c3, c4, c5, c6⟩, c7⟩ := hx x hp
      refine ⟨(fun h => (by cases h)), fun _ => ?_⟩
      refine ⟨Enc.is_F _ _ _, Enc.is_F _ _ _, c1, Nat.le_trans c1 (by omega), c2, c3, c7, Enc.is_F _ _ _, Enc.is_F _ _ _, by omega, by omega, c4, c5, c6, ?_⟩
      exact ⟨⟨rfl, rfl, rfl, D.eqv_refl _, rfl, rfl, rfl, rfl, rfl, rfl, rfl, rfl, rfl, rfl, D.eqv_refl _, trivial⟩, rfl, trivial⟩
def dom20 : DomF
  | [.c (.sl _ n_l st_l F_l), .agg [.int .i64 sv, .int .i64 l0, .int .i64 h0, .int .i64 l1, .int .i64 h1, .int .i64 l2, .int .i64 h2, .int .i64 l3, .int .i64 h3]] => (match Nat.beq st_l 7 with
    | true => some ([eC.Is n_l F_l, ∀ c, c ∈ (eC.list n_l F_l) → c.nm.size ≤ 1000000, BestOK (eC.list n_l F_l) ⟨sv, ⟨l0, h0⟩, ⟨l1, h1⟩, ⟨l2, h2⟩, ⟨l3, h3⟩⟩], resB (M.best (eC.list n_l F_l) ⟨sv, ⟨l0, h0⟩, ⟨l1, h1⟩, ⟨l2, h2⟩, ⟨l3, h3⟩⟩))
    | _ => none)
  | _ => none
theorem C20 : FOK Try.prog G0 gw 20 dom20 := by
  intro ags p r hd hp κ w xs hw hl hG hx
  unfold dom20 at hd
  split at hd
  · rename_i q_l n_l st_l F_l sv l0 h0 l1 h1 l2 h2 l3 h3
    split at hd
    · rename_i hst
      have g1 := hst
      have g1 := Nat.eq_of_beq_eq_true g1
      subst g1
      simp only [Option.some.injEq, Prod.mk.injEq] at hd
      obtain ⟨rfl, rfl⟩ := hd
      obtain ⟨hI_l, hp⟩ := hp
      have heq : agsEqv [.c (.sl q_l n_l 7 F_l), .agg [.int .i64 sv, .int .i64 l0, .int .i64 h0, .int .i64 l1, .int .i64 h1, .int .i64 l2, .int .i64 h2, .int .i64 l3, .int .i64 h3]] [.c (.sl q_l (eC.list n_l F_l).length 7 (eC.F (eC.list n_l F_l))), .agg [.int .i64 sv, .int .i64 l0, .int .i64 h0, .int .i64 l1, .int .i64 h1, .int .i64 l2, .int .i64 h2, .int .i64 l3, .int .i64 h3]] := ⟨eC.to id hI_l, Ag.eqv_refl _, trivial⟩
      have len_l : (eC.list n_l F_l).length = n_l := eC.list_len
      generalize eC.list n_l F_l = l at *
      subst len_l
      exact fokX_fin mixed gw_stable (sl := [v65, v49, v64, v66, v67, v68, v69]) ⟨S65, S49, S64, S66, S67, S68, S69, trivial⟩ Try.func20 hw hl hG hx heq rfl (t20 q_l l sv l0 h0 l1 h1 l2 h2 l3 h3) (w20 l _ hp.1 hp.2.1)
    · cases hd
  · cases hd
end Go.Bl
end

section
set_option linter.unusedVariables false
set_option linter.unusedSimpArgs false
set_option maxRecDepth 100000
namespace Go.Bl
open Go.V Go.Proofs
structure NearR where
  den : Int
  pt : List Int
  d0 : Int
  d1 : Int
  e : Int
namespace M
def nearErr (l : List Cask) (s : Sample) : Int := first [casksErr l, checkSample s, unl (decide (volumes l ≥ s.vol)) 24]
def pNear (l : List Cask) (s : Sample) : Corner := cOf (psolve (shares l 1) s.vol (far l) (limits l s 1))
def nearC (l : List Cask) (s : Sample) (x : Corner) : NearR := ⟨x.den, x.pt.take l.length, told1 (away l (x.pt.take l.length) s) (sumP (fun _ => 1) l (x.pt.take l.length)), told2 (away l (x.pt.take l.length) s) (sumP (fun _ => 1) l (x.pt.take l.length)), 0⟩
def near (l : List Cask) (s : Sample) : NearR := cond (nearErr l s != 0) ⟨0, [], 0, 0, nearErr l s⟩ (nearC l s (pNear l s))
end M
def resN (b : NearR) : List Ar := [.agg [dI b.den, dL b.pt], .agg [dI b.d0, dI b.d1], rI b.e]
def NearOK (l : List Cask) (s : Sample) : Prop := M.nearErr l s = 0 → 1 ≤ l.length ∧ l.length ≤ 4 ∧ (∀ c, c ∈ M.limits l s 1 → c.coefs.length = (M.shares l 1).length) ∧ TurnOK (M.shares l 1) (M.limits l s 1) ∧
  l.length ≤ (M.pNear l s).pt.length ∧ M.sumP (fun _ => 1) l ((M.pNear l s).pt.take l.length) ≠ 0 ∧ i64ok (M.away l ((M.pNear l s).pt.take l.length) s) ∧ i64ok (M.sumP (fun _ => 1) l ((M.pNear l s).pt.take l.length))
theorem list_take {l : List Int} {n : Nat} (h : n ≤ l.length) : eI.list n (eI.F l) = l.take n := by
  apply List.ext_getElem
  · simp [Enc.list]; omega
  · intro i h1 h2
    simp only [Enc.list, List.getElem_map, List.getElem_range, Enc.F, List.getElem_take]
    show l.getD i 0 = _
    simp [List.length_take] at h2
    simp [(by omega : i < l.length)]
theorem take_eqv {l : List Int} {n : Nat} (h : n ≤ l.length) : (D.sl false n 1 (eI.F l)).eqv (dL (l.take n)) := by
  refine ⟨(fun e => by cases e), by simp [h], fun _ => rfl, fun i j hi hj => ?_⟩
  obtain rfl : j = 0 := Nat.lt_one_iff.1 hj
  show (dI (l.getD i 0)).eqv (dI ((l.take n).getD i 0))
  have : (l.take n).getD i 0 = l.getD i 0 := by
    simp only [List.getD_eq_getElem?_getD, List.getElem?_take, if_pos hi]
  rw [this]
  exact D.eqv_refl _
def P26 (LL : List Cask) (SS : Sample) : Option M.Corner := (M.psolve (Enc.list eI (List.length (M.shares LL (1 : Nat))) (Enc.F eI (M.shares LL (1 : Nat)))) (Sample.vol SS) (Enc.list eI (List.length (M.far LL)) (Enc.F eI (M.far LL))) (Enc.list eK (List.length (M.limits LL SS (1 : Nat))) (Enc.F eK (M.limits LL SS (1 : Nat)))))
def tr26 (l : List Cask) (s : Sample) : T (List Ar) :=
    T.need (Enc.Is eC (List.length l) (Enc.F eC l)) (T.need (∀ (c : Cask), c ∈ (Enc.list eC (List.length l) (Enc.F eC l)) → ByteArray.size (Cask.nm c) ≤ (1000000 : Nat)) (T.need (Enc.Is eC (List.length l) (Enc.F eC l)) (T.need (List.length (Enc.list eC (List.length l) (Enc.F eC l)) ≤ (1000000 : Nat)) (T.br (M.first [M.casksErr (Enc.list eC (List.length l) (Enc.F eC l)), M.checkSample s, M.unl (decide (M.volumes (Enc.list eC (List.length l) (Enc.F eC l)) ≥ s.vol)) (24 : Int)] != (0 : Int)) (T.ret [Ar.agg [D.int IntKind.i64 (0 : Int), D.sl false (0 : Nat) (0 : Nat) fun (x x_1 : Nat) => D.nilp], Ar.agg [D.int IntKind.i64 (0 : Int), D.int IntKind.i64 (0 : Int)], Ar.c (D.int IntKind.i64 (M.first [M.casksErr (Enc.list eC (List.length l) (Enc.F eC l)), M.checkSample s, M.unl (decide (M.volumes (Enc.list eC (List.length l) (Enc.F eC l)) ≥ s.vol)) (24 : Int)]))]) (T.need (Enc.Is eC (List.length l) (Enc.F eC l)) (T.need ((1 : Nat) ≤ List.length l) (T.need (List.length l ≤ (4 : Nat)) (T.need (Enc.Is eI (List.length (M.shares (Enc.list eC (List.length l) (Enc.F eC l)) (1 : Nat))) (Enc.F eI (M.shares (Enc.list eC (List.length l) (Enc.F eC l)) (1 : Nat)))) (T.need (Enc.Is eI (List.length (M.far (Enc.list eC (List.length l) (Enc.F eC l)))) (Enc.F eI (M.far (Enc.list eC (List.length l) (Enc.F eC l))))) (T.need (Enc.Is eK (List.length (M.limits (Enc.list eC (List.length l) (Enc.F eC l)) s (1 : Nat))) (Enc.F eK (M.limits (Enc.list eC (List.length l) (Enc.F eC l)) s (1 : Nat)))) (T.need ((1 : Nat) ≤ List.length (M.shares (Enc.list eC (List.length l) (Enc.F eC l)) (1 : Nat))) (T.need (List.length (M.shares (Enc.list eC (List.length l) (Enc.F eC l)) (1 : Nat)) ≤ (5 : Nat)) (T.need (List.length (M.shares (Enc.list eC (List.length l) (Enc.F eC l)) (1 : Nat)) = List.length (M.far (Enc.list eC (List.length l) (Enc.F eC l)))) (T.need (List.length (M.limits (Enc.list eC (List.length l) (Enc.F eC l)) s (1 : Nat)) ≤ (1000 : Nat)) (T.need (∀ (c : Cond), c ∈ Enc.list eK (List.length (M.limits (Enc.list eC (List.length l) (Enc.F eC l)) s (1 : Nat))) (Enc.F eK (M.limits (Enc.list eC (List.length l) (Enc.F eC l)) s (1 : Nat))) → List.length (Cond.coefs c) = List.length (M.shares (Enc.list eC (List.length l) (Enc.F eC l)) (1 : Nat))) (T.need (∀ (set : List Cond), List.length set + (1 : Nat) = List.length (Enc.list eI (List.length (M.shares (Enc.list eC (List.length l) (Enc.F eC l)) (1 : Nat))) (Enc.F eI (M.shares (Enc.list eC (List.length l) (Enc.F eC l)) (1 : Nat)))) → (∀ (c : Cond), c ∈ set → c ∈ Enc.list eK (List.length (M.limits (Enc.list eC (List.length l) (Enc.F eC l)) s (1 : Nat))) (Enc.F eK (M.limits (Enc.list eC (List.length l) (Enc.F eC l)) s (1 : Nat)))) → M.det (M.mat (Enc.list eI (List.length (M.shares (Enc.list eC (List.length l) (Enc.F eC l)) (1 : Nat))) (Enc.F eI (M.shares (Enc.list eC (List.length l) (Enc.F eC l)) (1 : Nat)))) set) ≠ (0 : Int) → M.det (M.turned (M.mat (Enc.list eI (List.length (M.shares (Enc.list eC (List.length l) (Enc.F eC l)) (1 : Nat))) (Enc.F eI (M.shares (Enc.list eC (List.length l) (Enc.F eC l)) (1 : Nat)))) set)) ≠ (0 : Int)) (T.need ((0 : Int) ≤ (Nat.cast (R := Int) l.length)) (T.need ((Nat.cast (R := Int) l.length) = (Nat.cast (R := Int) l.length)) (T.need ((Nat.cast (R := Int) l.length) ≤ (Nat.cast (R := Int) (List.length (M.Corner.pt (cOf (P26 (Enc.list eC (List.length l) (Enc.F eC l)) s)))))) (T.need (Enc.Is eC (List.length l) (Enc.F eC l)) (T.need (Enc.Is eI (Int.toNat (Nat.cast (R := Int) l.length)) (Enc.F eI (M.Corner.pt (cOf (P26 (Enc.list eC (List.length l) (Enc.F eC l)) s))))) (T.need (List.length (Enc.list eI (Int.toNat (Nat.cast (R := Int) l.length)) (Enc.F eI (M.Corner.pt (cOf (P26 (Enc.list eC (List.length l) (Enc.F eC l)) s))))) ≤ List.length (Enc.list eC (List.length l) (Enc.F eC l))) (T.need (List.length (Enc.list eI (Int.toNat (Nat.cast (R := Int) l.length)) (Enc.F eI (M.Corner.pt (cOf (P26 (Enc.list eC (List.length l) (Enc.F eC l)) s))))) ≤ (1000 : Nat)) (T.need (Enc.Is eC (List.length l) (Enc.F eC l)) (T.need (Enc.Is eI (Int.toNat (Nat.cast (R := Int) l.length)) (Enc.F eI (M.Corner.pt (cOf (P26 (Enc.list eC (List.length l) (Enc.F eC l)) s))))) (T.need (Int.toNat (Nat.cast (R := Int) l.length) ≤ List.length l) (T.need (Int.toNat (Nat.cast (R := Int) l.length) ≤ (1000 : Nat)) (T.need (M.sumP (fun (x : Cask) => (1 : Int)) (Enc.list eC (List.length l) (Enc.F eC l)) (Enc.list eI (Int.toNat (Nat.cast (R := Int) l.length)) (Enc.F eI (M.Corner.pt (cOf (P26 (Enc.list eC (List.length l) (Enc.F eC l)) s))))) ≠ (0 : Int)) (T.need (Int.natAbs (M.away (Enc.list eC (List.length l) (Enc.F eC l)) (Enc.list eI (Int.toNat (Nat.cast (R := Int) l.length)) (Enc.F eI (M.Corner.pt (cOf (P26 (Enc.list eC (List.length l) (Enc.F eC l)) s))))) s) < (9223372036854775808 : Nat)) (T.need (Int.natAbs (M.sumP (fun (x : Cask) => (1 : Int)) (Enc.list eC (List.length l) (Enc.F eC l)) (Enc.list eI (Int.toNat (Nat.cast (R := Int) l.length)) (Enc.F eI (M.Corner.pt (cOf (P26 (Enc.list eC (List.length l) (Enc.F eC l)) s)))))) < (9223372036854775808 : Nat)) (T.ret [Ar.agg [D.int IntKind.i64 (M.Corner.den (cOf (P26 (Enc.list eC (List.length l) (Enc.F eC l)) s))), D.sl false (Int.toNat (Nat.cast (R := Int) l.length)) (1 : Nat) (Enc.F eI (M.Corner.pt (cOf (P26 (Enc.list eC (List.length l) (Enc.F eC l)) s))))], Ar.agg [D.int IntKind.i64 (M.told1 (M.away (Enc.list eC (List.length l) (Enc.F eC l)) (Enc.list eI (Int.toNat (Nat.cast (R := Int) l.length)) (Enc.F eI (M.Corner.pt (cOf (P26 (Enc.list eC (List.length l) (Enc.F eC l)) s))))) s) (M.sumP (fun (x : Cask) => (1 : Int)) (Enc.list eC (List.length l) (Enc.F eC l)) (Enc.list eI (Int.toNat (Nat.cast (R := Int) l.length)) (Enc.F eI (M.Corner.pt (cOf (P26 (Enc.list eC (List.length l) (Enc.F eC l)) s))))))), D.int IntKind.i64 (M.told2 (M.away (Enc.list eC (List.length l) (Enc.F eC l)) (Enc.list eI (Int.toNat (Nat.cast (R := Int) l.length)) (Enc.F eI (M.Corner.pt (cOf (P26 (Enc.list eC (List.length l) (Enc.F eC l)) s))))) s) (M.sumP (fun (x : Cask) => (1 : Int)) (Enc.list eC (List.length l) (Enc.F eC l)) (Enc.list eI (Int.toNat (Nat.cast (R := Int) l.length)) (Enc.F eI (M.Corner.pt (cOf (P26 (Enc.list eC (List.length l) (Enc.F eC l)) s)))))))], Ar.c (D.int IntKind.i64 (0 : Int))])))))))))))))))))))))))))))))))
theorem t26 (q_l : Bool) (l : List Cask) (sv l0 h0 l1 h1 l2 h2 l3 h3 : Int) : runFnX Try.prog G0 (lookS [v65, v49, v64, v80, v81, v82, v67, v83, v84, v85]) (fun _ => []) [] 1 40 3 26 Try.f26 [.c (.sl q_l l.length 7 (eC.F l)), .agg [dI sv, dI l0, dI h0, dI l1, dI h1, dI l2, dI h2, dI l3, dI h3]] =
    tr26 l (⟨sv, ⟨l0, h0⟩, ⟨l1, h1⟩, ⟨l2, h2⟩, ⟨l3, h3⟩⟩ : Sample) := by kernel_rfl
theorem w26 (l : List Cask) (s : Sample) (hn : ∀ c, c ∈ l → c.nm.size ≤ 1000000) (hl : l.length ≤ 1000000) (h : NearOK l s) : (tr26 l s).wp (fun rs => rsEqv rs (resN (M.near l s))) := by
  have hP : cOf (P26 l s) = M.pNear l s := by unfold P26 M.pNear; simp only [Enc.list_F]
  have z0 : (nilD).eqv (dL []) := ⟨(fun e => by cases e), rfl, (fun h => absurd h (Nat.lt_irrefl 0)), fun i j hi => absurd hi (Nat.not_lt_zero i)⟩
  unfold tr26
  simp only [Enc.list_F, hP]
  refine ⟨Enc.is_F _ _ _, hn, Enc.is_F _ _ _, hl, wp_br (fun hb => ?_) (fun hb => ?_)⟩
  · have : M.near l s = ⟨0, [], 0, 0, M.nearErr l s⟩ := by
      unfold M.near; rw [show (M.nearErr l s != 0) = true from hb]; rfl
    rw [this]
    exact ⟨⟨rfl, z0, trivial⟩, ⟨rfl, rfl, trivial⟩, rfl, trivial⟩
  · have hb' : (M.nearErr l s != 0) = false := hb
    have he : M.nearErr l s = 0 := by simpa using hb'
    obtain ⟨h1, h4, hco, htd, hx, c1, c2, c3⟩ := h he
    have hnear : M.near l s = M.nearC l s (M.pNear l s) := by
      unfold M.near; rw [hb']; rfl
    rw [hnear]
    have hnn : Int.toNat (l.length : Int) = l.length := Int.toNat_natCast _
    have htake := list_take hx
    have hlen : ((M.pNear l s).pt.take l.length).length = l.length := by simp [hx]
    simp only [hnn, htake, hlen]
    refine ⟨Enc.is_F _ _ _, h1, h4, Enc.is_F _ _ _, Enc.is_F _ _ _, Enc.is_F _ _ _, by rw [shares_len]; omega, by rw [shares_len]; omega, by rw [shares_len, far_len], by rw [limits_len]; omega, hco, htd, by omega, trivial, by omega, Enc.is_F _ _ _, Enc.is_F _ _ _, Nat.le_refl _, by omega, Enc.is_F _ _ _, Enc.is_F _ _ _, Nat.le_refl _, by omega, c1, c2, c3, ?_⟩
    exact ⟨⟨rfl, take_eqv hx, trivial⟩, ⟨rfl, rfl, trivial⟩, rfl, trivial⟩
def dom26 : DomF
  | [.c (.sl _ n_l st_l F_l), .agg [.int .i64 sv, .int .i64 l0, .int .i64 h0, .int .i64 l1, .int .i64 h1, .int .i64 l2, .int .i64 h2, .int .i64 l3, .int .i64 h3]] => (match Nat.beq st_l 7 with
    | true => some ([eC.Is n_l F_l, ∀ c, c ∈ (eC.list n_l F_l) → c.nm.size ≤ 1000000, (eC.list n_l F_l).length ≤ 1000000, NearOK (eC.list n_l F_l) ⟨sv, ⟨l0, h0⟩, ⟨l1, h1⟩, ⟨l2, h2⟩, ⟨l3, h3⟩⟩], resN (M.near (eC.list n_l F_l) ⟨sv, ⟨l0, h0⟩, ⟨l1, h1⟩, ⟨l2, h2⟩, ⟨l3, h3⟩⟩))
    | _ => none)
  | _ => none
theorem C26 : FOK Try.prog G0 gw 26 dom26 := by
  intro ags p r hd hp κ w xs hw hl hG hx
  unfold dom26 at hd
  split at hd
  · rename_i q_l n_l st_l F_l sv l0 h0 l1 h1 l2 h2 l3 h3
    split at hd
    · rename_i hst
      have g1 := hst
      have g1 := Nat.eq_of_beq_eq_true g1
      subst g1
      simp only [Option.some.injEq, Prod.mk.injEq] at hd
      obtain ⟨rfl, rfl⟩ := hd
      obtain ⟨hI_l, hp⟩ := hp
      have heq : agsEqv [.c (.sl q_l n_l 7 F_l), .agg [.int .i64 sv, .int .i64 l0, .int .i64 h0, .int .i64 l1, .int .i64 h1, .int .i64 l2, .int .i64 h2, .int .i64 l3, .int .i64 h3]] [.c (.sl q_l (eC.list n_l F_l).length 7 (eC.F (eC.list n_l F_l))), .agg [.int .i64 sv, .int .i64 l0, .int .i64 h0, .int .i64 l1, .int .i64 h1, .int .i64 l2, .int .i64 h2, .int .i64 l3, .int .i64 h3]] := ⟨eC.to id hI_l, Ag.eqv_refl _, trivial⟩
      have len_l : (eC.list n_l F_l).length = n_l := eC.list_len
      generalize eC.list n_l F_l = l at *
      subst len_l
      exact fokX_fin mixed gw_stable (sl := [v65, v49, v64, v80, v81, v82, v67, v83, v84, v85]) ⟨S65, S49, S64, S80, S81, S82, S67, S83, S84, S85, trivial⟩ Try.func26 hw hl hG hx heq rfl (t26 q_l l sv l0 h0 l1 h1 l2 h2 l3 h3) (w26 l _ hp.1 hp.2.1 hp.2.2.1)
    · cases hd
  · cases hd
end Go.Bl
end

section
set_option linter.unusedVariables false
set_option linter.unusedSimpArgs false
namespace Go.Bl
open Go.V Go.Proofs
def exC : List Cask := [⟨⟨#[100, 114, 121]⟩, 100, 10, 0, 0, 0, 0⟩, ⟨⟨#[115, 119, 101, 101, 116]⟩, 100, 30, 100, 0, 0, 0⟩, ⟨⟨#[114, 105, 99, 104]⟩, 50, 20, 200, 0, 0, 0⟩]
def exS (lo hi : Int) : Sample := ⟨100, ⟨lo, hi⟩, ⟨0, 1000⟩, ⟨0, 1000⟩, ⟨0, 1000⟩⟩
end Go.Bl
end

section
set_option linter.unusedVariables false
set_option linter.unusedSimpArgs false
set_option maxRecDepth 100000
namespace Go.Bl
open Go.V Go.Proofs
namespace M
def meets (l : List Cask) (ps : List Int) (s : Sample) : Int := first [unl (decide (sumP (fun _ => 1) l ps ≥ s.vol)) 14, unl (decide (away l ps s ≤ 0)) 13]
end M
theorem t91 (q_l : Bool) (l : List Cask) (den : Int) (q_ps : Bool) (ps : List Int) (sv l0 h0 l1 h1 l2 h2 l3 h3 : Int) : runFnX Try.prog G0 (lookS [v85, v80, v84, v64]) (fun _ => []) [] 1 40 3 91 Try.f91 [.agg [.sl q_l l.length 7 (eC.F l), dI den, .sl q_ps ps.length 1 (eI.F ps)], .agg [dI sv, dI l0, dI h0, dI l1, dI h1, dI l2, dI h2, dI l3, dI h3]] =
    T.need (eC.Is l.length (eC.F l)) (T.need (eI.Is ps.length (eI.F ps)) (T.need (ps.length ≤ l.length) (T.need (ps.length ≤ 1000) (T.need (eC.Is l.length (eC.F l)) (T.need (eI.Is ps.length (eI.F ps)) (T.need ((eI.list ps.length (eI.F ps)).length ≤ (eC.list l.length (eC.F l)).length) (T.need ((eI.list ps.length (eI.F ps)).length ≤ 1000) (T.ret [rI (M.meets (eC.list l.length (eC.F l)) (eI.list ps.length (eI.F ps)) ⟨sv, ⟨l0, h0⟩, ⟨l1, h1⟩, ⟨l2, h2⟩, ⟨l3, h3⟩⟩)])))))))) := by kernel_rfl
def dom91 : DomF
  | [.agg [.sl _ n_l st_l F_l, .int .i64 den, .sl _ n_ps st_ps F_ps], .agg [.int .i64 sv, .int .i64 l0, .int .i64 h0, .int .i64 l1, .int .i64 h1, .int .i64 l2, .int .i64 h2, .int .i64 l3, .int .i64 h3]] => (match Nat.beq st_l 7 && Nat.beq st_ps 1 with
    | true => some ([eC.Is n_l F_l, eI.Is n_ps F_ps, (eI.list n_ps F_ps).length ≤ (eC.list n_l F_l).length, (eI.list n_ps F_ps).length ≤ 1000], [rI (M.meets (eC.list n_l F_l) (eI.list n_ps F_ps) ⟨sv, ⟨l0, h0⟩, ⟨l1, h1⟩, ⟨l2, h2⟩, ⟨l3, h3⟩⟩)])
    | _ => none)
  | _ => none
def v91 : Nat × Sm := (91, fokSm dom91)
theorem C91 : FOK Try.prog G0 gw 91 dom91 := by
  intro ags p r hd hp κ w xs hw hl hG hx
  unfold dom91 at hd
  split at hd
  · rename_i q_l n_l st_l F_l den q_ps n_ps st_ps F_ps sv l0 h0 l1 h1 l2 h2 l3 h3
    split at hd
    · rename_i hst
      simp only [Bool.and_eq_true] at hst
      obtain ⟨g1, g2⟩ := hst
      have g1 := Nat.eq_of_beq_eq_true g1
      have g2 := Nat.eq_of_beq_eq_true g2
      subst g1 g2
      simp only [Option.some.injEq, Prod.mk.injEq] at hd
      obtain ⟨rfl, rfl⟩ := hd
      obtain ⟨hI_l, hI_ps, hp⟩ := hp
      have heq : agsEqv [.agg [.sl q_l n_l 7 F_l, .int .i64 den, .sl q_ps n_ps 1 F_ps], .agg [.int .i64 sv, .int .i64 l0, .int .i64 h0, .int .i64 l1, .int .i64 h1, .int .i64 l2, .int .i64 h2, .int .i64 l3, .int .i64 h3]] [.agg [.sl q_l (eC.list n_l F_l).length 7 (eC.F (eC.list n_l F_l)), .int .i64 den, .sl q_ps (eI.list n_ps F_ps).length 1 (eI.F (eI.list n_ps F_ps))], .agg [.int .i64 sv, .int .i64 l0, .int .i64 h0, .int .i64 l1, .int .i64 h1, .int .i64 l2, .int .i64 h2, .int .i64 l3, .int .i64 h3]] := ⟨⟨eC.to id hI_l, rfl, eI.to id hI_ps, trivial⟩, Ag.eqv_refl _, trivial⟩
      have len_l : (eC.list n_l F_l).length = n_l := eC.list_len
      have len_ps : (eI.list n_ps F_ps).length = n_ps := eI.list_len
      generalize eC.list n_l F_l = l at *
      generalize eI.list n_ps F_ps = ps at *
      subst len_l len_ps
      have c1 := Enc.is_F eC l l.length
      have c2 := Enc.is_F eI ps ps.length
      obtain ⟨c3, c4, _⟩ := hp
      exact fokX_fin mixed gw_stable (sl := [v85, v80, v84, v64]) ⟨S85, S80, S84, S64, trivial⟩ Try.func91 hw hl hG hx heq rfl (t91 q_l l den q_ps ps sv l0 h0 l1 h1 l2 h2 l3 h3) ((by simp only [Enc.list_F]; exact ⟨c1, c2, c3, c4, c1, c2, c3, c4, rsEqv_refl _⟩))
    · cases hd
  · cases hd
theorem S91 : SumOK Try.prog G0 gw 91 (fokSm dom91) := fok_sum Try.func91 rfl C91
end Go.Bl
end

section
set_option linter.unusedVariables false
set_option linter.unusedSimpArgs false
set_option maxRecDepth 100000
namespace Go.Bl
open Go.V Go.Proofs
namespace M
def some_ (l : List Cask) : Bool := decide (l.length ≤ 12 ∧ ∀ k, k < l.length → (l.getD k dfC).nm.size ≤ 20)
end M
def tr63 (l : List Cask) : T (List Ar) :=
    T.br (decide ((Nat.cast (R := Int) l.length) > (12 : Int))) (T.ret [Ar.c (D.bool false)]) (T.loop (Int × PUnit) ((0 : Int), PUnit.unit) fun (x : Int × PUnit) => T.br (decide (x.1 < (Nat.cast (R := Int) l.length))) (T.need ((0 : Int) ≤ x.1) (T.need (x.1 < (Nat.cast (R := Int) l.length)) (T.br (decide ((Nat.cast (R := Int) (ByteArray.size (List.getD l (Int.toNat (x.1)) (Enc.dflt eC)).1)) > (20 : Int))) (T.ret (Sum.inr [Ar.c (D.bool false)])) (T.ret (Sum.inl (IntKind.i64.wrap (x.1 + (1 : Int)), PUnit.unit)))))) (T.ret (Sum.inr [Ar.c (D.bool true)])))
theorem t63 (q_l : Bool) (l : List Cask) : runFnX Try.prog G0 (lookS []) (fun _ => [(4, [.slot 3 (.int .i64)], none)]) [] 1 20 3 63 Try.f63 [.c (.sl q_l l.length 7 (eC.F l))] =
    tr63 l := by kernel_rfl
def tr21 (l : List Cask) : T (List Ar) :=
    T.need ((0 : Nat) + List.length l ≤ (1000000 : Nat)) (T.need ((0 : Nat) + List.length l ≤ (0 : Nat) + List.length l) (T.ret [Ar.c (D.sl true ((0 : Nat) + List.length l) (7 : Nat) (joinF (0 : Nat) (fun (i j : Nat) => List.getD [] (i * (7 : Nat) + j) D.nilp) (Enc.F eC l)))]))
theorem t21 (q_l : Bool) (l : List Cask) : runFnX Try.prog G0 (lookS []) (fun _ => []) [] 1 20 3 21 Try.f21 [.c (.sl q_l l.length 7 (eC.F l))] =
    tr21 l := by kernel_rfl
def tr41 (u : List Int) : T (List Ar) :=
    T.need ((0 : Nat) + List.length u ≤ (1000000 : Nat)) (T.need ((0 : Nat) + List.length u ≤ (0 : Nat) + List.length u) (T.ret [Ar.c (D.sl true ((0 : Nat) + List.length u) (1 : Nat) (joinF (0 : Nat) (fun (i j : Nat) => List.getD [] (i * (1 : Nat) + j) D.nilp) (Enc.F eI u)))]))
theorem t41 (q_u : Bool) (u : List Int) : runFnX Try.prog G0 (lookS []) (fun _ => []) [] 1 20 3 41 Try.f41 [.c (.sl q_u u.length 1 (eI.F u))] =
    tr41 u := by kernel_rfl
theorem w63 (l : List Cask) : (tr63 l).wp (fun rs => rsEqv rs [rB (M.some_ l)]) := by
  unfold tr63
  have no : ¬ (l.length ≤ 12 ∧ ∀ k, k < l.length → (l.getD k dfC).nm.size ≤ 20) → rsEqv [rB false] [rB (M.some_ l)] := fun hn => by
    unfold M.some_; rw [decide_eq_false hn]; exact rsEqv_refl _
  refine wp_br (fun hb => ?_) (fun hb => ?_)
  · have hb : (l.length : Int) > 12 := of_decide_eq_true hb
    exact no fun ⟨h, _⟩ => by omega
  · have hb : ¬ (l.length : Int) > 12 := of_decide_eq_false hb
    refine range_wp (n := l.length) (fun k _ => ∀ j, j < k → (l.getD j dfC).nm.size ≤ 20) (fun j hj => by omega) ?_
    rintro k s hk hI
    refine wp_br (fun hb => ?_) (fun hb => ?_)
    · have hlt := lt_of_dec hb
      refine ⟨by show (0 : Int) ≤ k; omega, by show (k : Int) < l.length; omega, wp_br (fun hc => ?_) (fun hc => ?_)⟩
      · have hc : ((l.getD k dfC).nm.size : Int) > 20 := of_decide_eq_true hc
        exact no fun ⟨_, h⟩ => by have := h k hlt; omega
      · have hc : ¬ ((l.getD k dfC).nm.size : Int) > 20 := of_decide_eq_false hc
        refine ⟨hlt, wrap_succ (by omega), fun j hj => ?_⟩
        rcases Nat.lt_or_ge j k with g | g
        · exact hI j g
        · obtain rfl : j = k := by omega
          omega
    · have hge := ge_of_dec hb
      obtain rfl : k = l.length := by omega
      show rsEqv [rB true] [rB (M.some_ l)]
      unfold M.some_; rw [decide_eq_true ⟨by omega, hI⟩]; exact rsEqv_refl _
theorem copy_eqv {α : Type} (E : Enc α) (l : List α) (F0 : Nat → Nat → D) : (D.sl true (0 + l.length) E.st (joinF 0 F0 (E.F l))).eqv (.sl true l.length E.st (E.F l)) := by
  refine ⟨id, Nat.zero_add _, fun _ => rfl, fun i j _ _ => ?_⟩
  have : joinF 0 F0 (E.F l) i j = E.F l i j := by
    unfold joinF
    rw [show Nat.blt i 0 = false by rw [← Bool.not_eq_true, Nat.blt_eq]; omega]
    rfl
  rw [this]; exact D.eqv_refl _
def dom63 : DomF
  | [.c (.sl _ n_l st_l F_l)] => (match Nat.beq st_l 7 with
    | true => some ([eC.Is n_l F_l], [rB (M.some_ (eC.list n_l F_l))])
    | _ => none)
  | _ => none
def v63 : Nat × Sm := (63, fokSm dom63)
theorem C63 : FOK Try.prog G0 gw 63 dom63 := by
  intro ags p r hd hp κ w xs hw hl hG hx
  unfold dom63 at hd
  split at hd
  · rename_i q_l n_l st_l F_l
    split at hd
    · rename_i hst
      have g1 := hst
      have g1 := Nat.eq_of_beq_eq_true g1
      subst g1
      simp only [Option.some.injEq, Prod.mk.injEq] at hd
      obtain ⟨rfl, rfl⟩ := hd
      obtain ⟨hI_l, hp⟩ := hp
      have heq : agsEqv [.c (.sl q_l n_l 7 F_l)] [.c (.sl q_l (eC.list n_l F_l).length 7 (eC.F (eC.list n_l F_l)))] := ⟨eC.to id hI_l, trivial⟩
      have len_l : (eC.list n_l F_l).length = n_l := eC.list_len
      generalize eC.list n_l F_l = l at *
      subst len_l
      exact fokX_fin mixed gw_stable (sl := []) trivial Try.func63 hw hl hG hx heq rfl (t63 q_l l) (w63 l)
    · cases hd
  · cases hd
theorem S63 : SumOK Try.prog G0 gw 63 (fokSm dom63) := fok_sum Try.func63 rfl C63
def dom21 : DomF
  | [.c (.sl _ n_l st_l F_l)] => (match Nat.beq st_l 7 with
    | true => some ([eC.Is n_l F_l, (eC.list n_l F_l).length ≤ 1000000], [.c (.sl true n_l 7 (eC.F (eC.list n_l F_l)))])
    | _ => none)
  | _ => none
def v21 : Nat × Sm := (21, fokSm dom21)
theorem C21 : FOK Try.prog G0 gw 21 dom21 := by
  intro ags p r hd hp κ w xs hw hl hG hx
  unfold dom21 at hd
  split at hd
  · rename_i q_l n_l st_l F_l
    split at hd
    · rename_i hst
      have g1 := hst
      have g1 := Nat.eq_of_beq_eq_true g1
      subst g1
      simp only [Option.some.injEq, Prod.mk.injEq] at hd
      obtain ⟨rfl, rfl⟩ := hd
      obtain ⟨hI_l, hp⟩ := hp
      have heq : agsEqv [.c (.sl q_l n_l 7 F_l)] [.c (.sl q_l (eC.list n_l F_l).length 7 (eC.F (eC.list n_l F_l)))] := ⟨eC.to id hI_l, trivial⟩
      have len_l : (eC.list n_l F_l).length = n_l := eC.list_len
      generalize eC.list n_l F_l = l at *
      subst len_l
      exact fokX_fin mixed gw_stable (sl := []) trivial Try.func21 hw hl hG hx heq rfl (t21 q_l l) (⟨by have := hp.1; omega, Nat.le_refl _, ⟨copy_eqv eC l _, trivial⟩⟩)
    · cases hd
  · cases hd
theorem S21 : SumOK Try.prog G0 gw 21 (fokSm dom21) := fok_sum Try.func21 rfl C21
def dom41 : DomF
  | [.c (.sl _ n_u st_u F_u)] => (match Nat.beq st_u 1 with
    | true => some ([eI.Is n_u F_u, (eI.list n_u F_u).length ≤ 1000000], [.c (.sl true n_u 1 (eI.F (eI.list n_u F_u)))])
    | _ => none)
  | _ => none
def v41 : Nat × Sm := (41, fokSm dom41)
theorem C41 : FOK Try.prog G0 gw 41 dom41 := by
  intro ags p r hd hp κ w xs hw hl hG hx
  unfold dom41 at hd
  split at hd
  · rename_i q_u n_u st_u F_u
    split at hd
    · rename_i hst
      have g1 := hst
      have g1 := Nat.eq_of_beq_eq_true g1
      subst g1
      simp only [Option.some.injEq, Prod.mk.injEq] at hd
      obtain ⟨rfl, rfl⟩ := hd
      obtain ⟨hI_u, hp⟩ := hp
      have heq : agsEqv [.c (.sl q_u n_u 1 F_u)] [.c (.sl q_u (eI.list n_u F_u).length 1 (eI.F (eI.list n_u F_u)))] := ⟨eI.to id hI_u, trivial⟩
      have len_u : (eI.list n_u F_u).length = n_u := eI.list_len
      generalize eI.list n_u F_u = u at *
      subst len_u
      exact fokX_fin mixed gw_stable (sl := []) trivial Try.func41 hw hl hG hx heq rfl (t41 q_u u) (⟨by have := hp.1; omega, Nat.le_refl _, ⟨copy_eqv eI u _, trivial⟩⟩)
    · cases hd
  · cases hd
theorem S41 : SumOK Try.prog G0 gw 41 (fokSm dom41) := fok_sum Try.func41 rfl C41
end Go.Bl
end

section
set_option linter.unusedVariables false
set_option linter.unusedSimpArgs false
set_option maxRecDepth 100000
namespace Go.Bl
open Go.V Go.Proofs
theorem is3 {F : Nat → Nat → D} {a b c : Int} (h0 : F 0 0 = dI a) (h1 : F 1 0 = dI b) (h2 : F 2 0 = dI c) : eI.Is 3 F := by
  intro i j hi hj
  obtain rfl : j = 0 := Nat.lt_one_iff.1 hj
  match i, hi with
  | 0, _ => show (F 0 0).eqv (dI (rdI (F 0) 0)); unfold rdI; rw [h0]; exact D.eqv_refl _
  | 1, _ => show (F 1 0).eqv (dI (rdI (F 1) 0)); unfold rdI; rw [h1]; exact D.eqv_refl _
  | 2, _ => show (F 2 0).eqv (dI (rdI (F 2) 0)); unfold rdI; rw [h2]; exact D.eqv_refl _
theorem exC_nm : ∀ c, c ∈ eC.list 3 (eC.F exC) → c.nm.size ≤ 1000000 := by
  have : eC.list 3 (eC.F exC) = exC := Enc.list_F eC exC
  rw [this]
  decide
def tr30c : T (List Ar) :=
    T.need (Enc.Is eC (3 : Nat) (Enc.F eC [{ nm := { data := { toList := [(100 : UInt8), (114 : UInt8), (121 : UInt8)] } }, vol := (100 : Int), cost := (10 : Int), k0 := (0 : Int), k1 := (0 : Int), k2 := (0 : Int), k3 := (0 : Int) }, { nm := { data := { toList := [(115 : UInt8), (119 : UInt8), (101 : UInt8), (101 : UInt8), (116 : UInt8)] } }, vol := (100 : Int), cost := (30 : Int), k0 := (100 : Int), k1 := (0 : Int), k2 := (0 : Int), k3 := (0 : Int) }, { nm := { data := { toList := [(114 : UInt8), (105 : UInt8), (99 : UInt8), (104 : UInt8)] } }, vol := (50 : Int), cost := (20 : Int), k0 := (200 : Int), k1 := (0 : Int), k2 := (0 : Int), k3 := (0 : Int) }])) (T.need (∀ (c : Cask), c ∈ Enc.list eC (3 : Nat) (Enc.F eC exC) → ByteArray.size (Cask.nm c) ≤ (1000000 : Nat)) (T.need (Enc.Is eC (3 : Nat) (Enc.F eC [{ nm := { data := { toList := [(100 : UInt8), (114 : UInt8), (121 : UInt8)] } }, vol := (100 : Int), cost := (10 : Int), k0 := (0 : Int), k1 := (0 : Int), k2 := (0 : Int), k3 := (0 : Int) }, { nm := { data := { toList := [(115 : UInt8), (119 : UInt8), (101 : UInt8), (101 : UInt8), (116 : UInt8)] } }, vol := (100 : Int), cost := (30 : Int), k0 := (100 : Int), k1 := (0 : Int), k2 := (0 : Int), k3 := (0 : Int) }, { nm := { data := { toList := [(114 : UInt8), (105 : UInt8), (99 : UInt8), (104 : UInt8)] } }, vol := (50 : Int), cost := (20 : Int), k0 := (200 : Int), k1 := (0 : Int), k2 := (0 : Int), k3 := (0 : Int) }])) (T.need (Enc.Is eI (3 : Nat) fun (i j : Nat) => List.getD [D.int IntKind.i64 (0 : Int), D.int IntKind.i64 (0 : Int), D.int IntKind.i64 (0 : Int)] (i * (1 : Nat) + j) D.nilp) (T.need ((3 : Nat) ≤ (3 : Nat)) (T.need ((3 : Nat) ≤ (1000 : Nat)) (T.need ((1 : Nat) ≤ (1000000 : Nat)) (T.need ((0 : Int) ≤ (0 : Int)) (T.need ((0 : Int) < (1 : Int)) (T.need ((0 : Nat) < (1 : Nat)) (T.need ((0 : Int) ≤ (0 : Int)) (T.need ((0 : Int) < (3 : Int)) (T.need (Enc.Is eC (3 : Nat) (Enc.F eC [{ nm := { data := { toList := [(100 : UInt8), (114 : UInt8), (121 : UInt8)] } }, vol := (100 : Int), cost := (10 : Int), k0 := (0 : Int), k1 := (0 : Int), k2 := (0 : Int), k3 := (0 : Int) }, { nm := { data := { toList := [(115 : UInt8), (119 : UInt8), (101 : UInt8), (101 : UInt8), (116 : UInt8)] } }, vol := (100 : Int), cost := (30 : Int), k0 := (100 : Int), k1 := (0 : Int), k2 := (0 : Int), k3 := (0 : Int) }, { nm := { data := { toList := [(114 : UInt8), (105 : UInt8), (99 : UInt8), (104 : UInt8)] } }, vol := (50 : Int), cost := (20 : Int), k0 := (200 : Int), k1 := (0 : Int), k2 := (0 : Int), k3 := (0 : Int) }])) (T.need (Enc.Is eI (3 : Nat) fun (i j : Nat) => List.getD [D.int IntKind.i64 (100 : Int), D.int IntKind.i64 (0 : Int), D.int IntKind.i64 (0 : Int)] (i * (1 : Nat) + j) D.nilp) (T.need ((3 : Nat) ≤ (3 : Nat)) (T.need ((3 : Nat) ≤ (1000 : Nat)) (T.need ((1 : Nat) ≤ (1000000 : Nat)) (T.need ((0 : Int) ≤ (0 : Int)) (T.need ((0 : Int) < (1 : Int)) (T.need ((0 : Nat) < (1 : Nat)) (T.need ((0 : Int) ≤ (1 : Int)) (T.need ((1 : Int) < (3 : Int)) (T.need (Enc.Is eC (3 : Nat) (Enc.F eC [{ nm := { data := { toList := [(100 : UInt8), (114 : UInt8), (121 : UInt8)] } }, vol := (100 : Int), cost := (10 : Int), k0 := (0 : Int), k1 := (0 : Int), k2 := (0 : Int), k3 := (0 : Int) }, { nm := { data := { toList := [(115 : UInt8), (119 : UInt8), (101 : UInt8), (101 : UInt8), (116 : UInt8)] } }, vol := (100 : Int), cost := (30 : Int), k0 := (100 : Int), k1 := (0 : Int), k2 := (0 : Int), k3 := (0 : Int) }, { nm := { data := { toList := [(114 : UInt8), (105 : UInt8), (99 : UInt8), (104 : UInt8)] } }, vol := (50 : Int), cost := (20 : Int), k0 := (200 : Int), k1 := (0 : Int), k2 := (0 : Int), k3 := (0 : Int) }])) (T.need (Enc.Is eI (3 : Nat) fun (i j : Nat) => List.getD [D.int IntKind.i64 (0 : Int), D.int IntKind.i64 (100 : Int), D.int IntKind.i64 (0 : Int)] (i * (1 : Nat) + j) D.nilp) (T.need ((3 : Nat) ≤ (3 : Nat)) (T.need ((3 : Nat) ≤ (1000 : Nat)) (T.need ((1 : Nat) ≤ (1000000 : Nat)) (T.need ((2 : Nat) ≤ (1000000 : Nat)) (T.need ((1 : Nat) ≤ (1 : Nat)) (T.need ((0 : Int) ≤ (0 : Int)) (T.need ((0 : Int) < (2 : Int)) (T.need ((0 : Nat) < (2 : Nat)) (T.need ((0 : Int) ≤ (0 : Int)) (T.need ((0 : Int) < (3 : Int)) (T.need ((0 : Int) ≤ (1 : Int)) (T.need ((1 : Int) < (2 : Int)) (T.need ((1 : Nat) < (2 : Nat)) (T.need ((0 : Int) ≤ (1 : Int)) (T.need ((1 : Int) < (3 : Int)) (T.need (Enc.Is eC (3 : Nat) (Enc.F eC [{ nm := { data := { toList := [(100 : UInt8), (114 : UInt8), (121 : UInt8)] } }, vol := (100 : Int), cost := (10 : Int), k0 := (0 : Int), k1 := (0 : Int), k2 := (0 : Int), k3 := (0 : Int) }, { nm := { data := { toList := [(115 : UInt8), (119 : UInt8), (101 : UInt8), (101 : UInt8), (116 : UInt8)] } }, vol := (100 : Int), cost := (30 : Int), k0 := (100 : Int), k1 := (0 : Int), k2 := (0 : Int), k3 := (0 : Int) }, { nm := { data := { toList := [(114 : UInt8), (105 : UInt8), (99 : UInt8), (104 : UInt8)] } }, vol := (50 : Int), cost := (20 : Int), k0 := (200 : Int), k1 := (0 : Int), k2 := (0 : Int), k3 := (0 : Int) }])) (T.need (Enc.Is eI (3 : Nat) fun (i j : Nat) => List.getD [D.int IntKind.i64 (100 : Int), D.int IntKind.i64 (100 : Int), D.int IntKind.i64 (0 : Int)] (i * (1 : Nat) + j) D.nilp) (T.need ((3 : Nat) ≤ (3 : Nat)) (T.need ((3 : Nat) ≤ (1000 : Nat)) (T.need ((1 : Nat) ≤ (1000000 : Nat)) (T.need ((0 : Int) ≤ (0 : Int)) (T.need ((0 : Int) < (1 : Int)) (T.need ((0 : Nat) < (1 : Nat)) (T.need ((0 : Int) ≤ (2 : Int)) (T.need ((2 : Int) < (3 : Int)) (T.need (Enc.Is eC (3 : Nat) (Enc.F eC [{ nm := { data := { toList := [(100 : UInt8), (114 : UInt8), (121 : UInt8)] } }, vol := (100 : Int), cost := (10 : Int), k0 := (0 : Int), k1 := (0 : Int), k2 := (0 : Int), k3 := (0 : Int) }, { nm := { data := { toList := [(115 : UInt8), (119 : UInt8), (101 : UInt8), (101 : UInt8), (116 : UInt8)] } }, vol := (100 : Int), cost := (30 : Int), k0 := (100 : Int), k1 := (0 : Int), k2 := (0 : Int), k3 := (0 : Int) }, { nm := { data := { toList := [(114 : UInt8), (105 : UInt8), (99 : UInt8), (104 : UInt8)] } }, vol := (50 : Int), cost := (20 : Int), k0 := (200 : Int), k1 := (0 : Int), k2 := (0 : Int), k3 := (0 : Int) }])) (T.need (Enc.Is eI (3 : Nat) fun (i j : Nat) => List.getD [D.int IntKind.i64 (0 : Int), D.int IntKind.i64 (0 : Int), D.int IntKind.i64 (50 : Int)] (i * (1 : Nat) + j) D.nilp) (T.need ((3 : Nat) ≤ (3 : Nat)) (T.need ((3 : Nat) ≤ (1000 : Nat)) (T.need ((1 : Nat) ≤ (1000000 : Nat)) (T.need ((2 : Nat) ≤ (1000000 : Nat)) (T.need ((1 : Nat) ≤ (1 : Nat)) (T.need ((0 : Int) ≤ (0 : Int)) (T.need ((0 : Int) < (2 : Int)) (T.need ((0 : Nat) < (2 : Nat)) (T.need ((0 : Int) ≤ (0 : Int)) (T.need ((0 : Int) < (3 : Int)) (T.need ((0 : Int) ≤ (1 : Int)) (T.need ((1 : Int) < (2 : Int)) (T.need ((1 : Nat) < (2 : Nat)) (T.need ((0 : Int) ≤ (2 : Int)) (T.need ((2 : Int) < (3 : Int)) (T.need (Enc.Is eC (3 : Nat) (Enc.F eC [{ nm := { data := { toList := [(100 : UInt8), (114 : UInt8), (121 : UInt8)] } }, vol := (100 : Int), cost := (10 : Int), k0 := (0 : Int), k1 := (0 : Int), k2 := (0 : Int), k3 := (0 : Int) }, { nm := { data := { toList := [(115 : UInt8), (119 : UInt8), (101 : UInt8), (101 : UInt8), (116 : UInt8)] } }, vol := (100 : Int), cost := (30 : Int), k0 := (100 : Int), k1 := (0 : Int), k2 := (0 : Int), k3 := (0 : Int) }, { nm := { data := { toList := [(114 : UInt8), (105 : UInt8), (99 : UInt8), (104 : UInt8)] } }, vol := (50 : Int), cost := (20 : Int), k0 := (200 : Int), k1 := (0 : Int), k2 := (0 : Int), k3 := (0 : Int) }])) (T.need (Enc.Is eI (3 : Nat) fun (i j : Nat) => List.getD [D.int IntKind.i64 (100 : Int), D.int IntKind.i64 (0 : Int), D.int IntKind.i64 (50 : Int)] (i * (1 : Nat) + j) D.nilp) (T.need ((3 : Nat) ≤ (3 : Nat)) (T.need ((3 : Nat) ≤ (1000 : Nat)) (T.need (Enc.Is eC (3 : Nat) (Enc.F eC [{ nm := { data := { toList := [(100 : UInt8), (114 : UInt8), (121 : UInt8)] } }, vol := (100 : Int), cost := (10 : Int), k0 := (0 : Int), k1 := (0 : Int), k2 := (0 : Int), k3 := (0 : Int) }, { nm := { data := { toList := [(115 : UInt8), (119 : UInt8), (101 : UInt8), (101 : UInt8), (116 : UInt8)] } }, vol := (100 : Int), cost := (30 : Int), k0 := (100 : Int), k1 := (0 : Int), k2 := (0 : Int), k3 := (0 : Int) }, { nm := { data := { toList := [(114 : UInt8), (105 : UInt8), (99 : UInt8), (104 : UInt8)] } }, vol := (50 : Int), cost := (20 : Int), k0 := (200 : Int), k1 := (0 : Int), k2 := (0 : Int), k3 := (0 : Int) }])) (T.need (Enc.Is eI (3 : Nat) fun (i j : Nat) => List.getD [D.int IntKind.i64 (100 : Int), D.int IntKind.i64 (0 : Int), D.int IntKind.i64 (50 : Int)] (i * (1 : Nat) + j) D.nilp) (T.need ((3 : Nat) ≤ (3 : Nat)) (T.need ((3 : Nat) ≤ (1000 : Nat)) (T.need ((1 : Int) ≠ (0 : Int)) (T.need ((1 : Nat) < (9223372036854775808 : Nat)) (T.need ((2000 : Nat) < (9223372036854775808 : Nat)) (T.need ((1 : Nat) ≤ (1000000 : Nat)) (T.need ((2 : Nat) ≤ (1000000 : Nat)) (T.need ((1 : Nat) ≤ (1 : Nat)) (T.need ((0 : Int) ≤ (0 : Int)) (T.need ((0 : Int) < (2 : Int)) (T.need ((0 : Nat) < (2 : Nat)) (T.need ((0 : Int) ≤ (1 : Int)) (T.need ((1 : Int) < (3 : Int)) (T.need ((0 : Int) ≤ (1 : Int)) (T.need ((1 : Int) < (2 : Int)) (T.need ((1 : Nat) < (2 : Nat)) (T.need ((0 : Int) ≤ (2 : Int)) (T.need ((2 : Int) < (3 : Int)) (T.need (Enc.Is eC (3 : Nat) (Enc.F eC [{ nm := { data := { toList := [(100 : UInt8), (114 : UInt8), (121 : UInt8)] } }, vol := (100 : Int), cost := (10 : Int), k0 := (0 : Int), k1 := (0 : Int), k2 := (0 : Int), k3 := (0 : Int) }, { nm := { data := { toList := [(115 : UInt8), (119 : UInt8), (101 : UInt8), (101 : UInt8), (116 : UInt8)] } }, vol := (100 : Int), cost := (30 : Int), k0 := (100 : Int), k1 := (0 : Int), k2 := (0 : Int), k3 := (0 : Int) }, { nm := { data := { toList := [(114 : UInt8), (105 : UInt8), (99 : UInt8), (104 : UInt8)] } }, vol := (50 : Int), cost := (20 : Int), k0 := (200 : Int), k1 := (0 : Int), k2 := (0 : Int), k3 := (0 : Int) }])) (T.need (Enc.Is eI (3 : Nat) fun (i j : Nat) => List.getD [D.int IntKind.i64 (0 : Int), D.int IntKind.i64 (100 : Int), D.int IntKind.i64 (50 : Int)] (i * (1 : Nat) + j) D.nilp) (T.need ((3 : Nat) ≤ (3 : Nat)) (T.need ((3 : Nat) ≤ (1000 : Nat)) (T.need ((1 : Nat) ≤ (1000000 : Nat)) (T.need ((2 : Nat) ≤ (1000000 : Nat)) (T.need ((1 : Nat) ≤ (1 : Nat)) (T.need ((3 : Nat) ≤ (1000000 : Nat)) (T.need ((2 : Nat) ≤ (2 : Nat)) (T.need ((0 : Int) ≤ (0 : Int)) (T.need ((0 : Int) < (3 : Int)) (T.need ((0 : Nat) < (3 : Nat)) (T.need ((0 : Int) ≤ (0 : Int)) (T.need ((0 : Int) < (3 : Int)) (T.need ((0 : Int) ≤ (1 : Int)) (T.need ((1 : Int) < (3 : Int)) (T.need ((1 : Nat) < (3 : Nat)) (T.need ((0 : Int) ≤ (1 : Int)) (T.need ((1 : Int) < (3 : Int)) (T.need ((0 : Int) ≤ (2 : Int)) (T.need ((2 : Int) < (3 : Int)) (T.need ((2 : Nat) < (3 : Nat)) (T.need ((0 : Int) ≤ (2 : Int)) (T.need ((2 : Int) < (3 : Int)) (T.need (Enc.Is eC (3 : Nat) (Enc.F eC [{ nm := { data := { toList := [(100 : UInt8), (114 : UInt8), (121 : UInt8)] } }, vol := (100 : Int), cost := (10 : Int), k0 := (0 : Int), k1 := (0 : Int), k2 := (0 : Int), k3 := (0 : Int) }, { nm := { data := { toList := [(115 : UInt8), (119 : UInt8), (101 : UInt8), (101 : UInt8), (116 : UInt8)] } }, vol := (100 : Int), cost := (30 : Int), k0 := (100 : Int), k1 := (0 : Int), k2 := (0 : Int), k3 := (0 : Int) }, { nm := { data := { toList := [(114 : UInt8), (105 : UInt8), (99 : UInt8), (104 : UInt8)] } }, vol := (50 : Int), cost := (20 : Int), k0 := (200 : Int), k1 := (0 : Int), k2 := (0 : Int), k3 := (0 : Int) }])) (T.need (Enc.Is eI (3 : Nat) fun (i j : Nat) => List.getD [D.int IntKind.i64 (100 : Int), D.int IntKind.i64 (100 : Int), D.int IntKind.i64 (50 : Int)] (i * (1 : Nat) + j) D.nilp) (T.need ((3 : Nat) ≤ (3 : Nat)) (T.need ((3 : Nat) ≤ (1000 : Nat)) (T.need ((2 : Nat) ≤ (2 : Nat)) (T.ret [Ar.c (D.sl true (2 : Nat) (1 : Nat) (joinF (1 : Nat) (joinF (0 : Nat) (fun (x x_1 : Nat) => D.nilp) fun (i j : Nat) => List.getD [D.int IntKind.i64 (0 : Int)] (i * (1 : Nat) + j) D.nilp) fun (i j : Nat) => List.getD [D.int IntKind.i64 (2 : Int)] (i * (1 : Nat) + j) D.nilp)), Ar.c (D.int IntKind.i64 (2000 : Int)), Ar.c (D.int IntKind.i64 (0 : Int))])))))))))))))))))))))))))))))))))))))))))))))))))))))))))))))))))))))))))))))))))))))))))))))))))))))))))))))))))))))))
theorem t30c (q : Bool) : runFnX Try.prog G0 (lookS [v47, v49, v64, v68, v91]) (fun _ => [(999999, [], none)]) [90, 92, 123, 145] 1 20 6 30 Try.f30 [.c (.sl q 3 7 (eC.F exC)), .agg [dI 100, dI 60, dI 70, dI 0, dI 1000, dI 0, dI 1000, dI 0, dI 1000]] =
    tr30c := by kernel_rfl
theorem w30c : tr30c.wp (fun rs => rsEqv rs [.c (dL [0, 2]), rI 2000, rI 0]) := by
  unfold tr30c
  repeat (first | refine ⟨by decide, ?_⟩ | refine ⟨exC_nm, ?_⟩ | refine ⟨Enc.is_F _ _ _, ?_⟩ | refine ⟨is3 rfl rfl rfl, ?_⟩ | refine ⟨by decide +kernel, ?_⟩)
  refine ⟨⟨(fun e => by cases e), rfl, fun _ => rfl, fun i j hi hj => ?_⟩, rfl, rfl, trivial⟩
  obtain rfl : j = 0 := Nat.lt_one_iff.1 hj
  match i, hi with
  | 0, _ => exact D.eqv_refl _
  | 1, _ => exact D.eqv_refl _
def dom30c : DomF
  | [.c (.sl _ n_l st_l F_l), .agg [.int .i64 sv, .int .i64 l0, .int .i64 h0, .int .i64 l1, .int .i64 h1, .int .i64 l2, .int .i64 h2, .int .i64 l3, .int .i64 h3]] => (match Nat.beq st_l 7 with
    | true => some ([eC.Is n_l F_l, (eC.list n_l F_l) = exC, (⟨sv, ⟨l0, h0⟩, ⟨l1, h1⟩, ⟨l2, h2⟩, ⟨l3, h3⟩⟩ : Sample) = exS 60 70], [.c (dL [0, 2]), rI 2000, rI 0])
    | _ => none)
  | _ => none
def v30c : Nat × Sm := (30, fokSm dom30c)
theorem C30c : FOK Try.prog G0 gw 30 dom30c := by
  intro ags p r hd hp κ w xs hw hl hG hx
  unfold dom30c at hd
  split at hd
  · rename_i q_l n_l st_l F_l sv l0 h0 l1 h1 l2 h2 l3 h3
    split at hd
    · rename_i hst
      have g1 := hst
      have g1 := Nat.eq_of_beq_eq_true g1
      subst g1
      simp only [Option.some.injEq, Prod.mk.injEq] at hd
      obtain ⟨rfl, rfl⟩ := hd
      obtain ⟨hI_l, hp⟩ := hp
      have heq : agsEqv [.c (.sl q_l n_l 7 F_l), .agg [.int .i64 sv, .int .i64 l0, .int .i64 h0, .int .i64 l1, .int .i64 h1, .int .i64 l2, .int .i64 h2, .int .i64 l3, .int .i64 h3]] [.c (.sl q_l (eC.list n_l F_l).length 7 (eC.F (eC.list n_l F_l))), .agg [.int .i64 sv, .int .i64 l0, .int .i64 h0, .int .i64 l1, .int .i64 h1, .int .i64 l2, .int .i64 h2, .int .i64 l3, .int .i64 h3]] := ⟨eC.to id hI_l, Ag.eqv_refl _, trivial⟩
      have len_l : (eC.list n_l F_l).length = n_l := eC.list_len
      generalize eC.list n_l F_l = l at *
      subst len_l
      obtain ⟨rfl, hs, _⟩ := hp
      simp only [exS, Sample.mk.injEq, Rg.mk.injEq] at hs
      obtain ⟨rfl, ⟨rfl, rfl⟩, ⟨rfl, rfl⟩, ⟨rfl, rfl⟩, rfl, rfl⟩ := hs
      exact fokX_fin mixed gw_stable (sl := [v47, v49, v64, v68, v91]) ⟨S47, S49, S64, S68, S91, trivial⟩ Try.func30 hw hl hG hx heq rfl (t30c q_l) (w30c)
    · cases hd
  · cases hd
theorem S30c : SumOK Try.prog G0 gw 30 (fokSm dom30c) := fok_sum Try.func30 rfl C30c
end Go.Bl
end

section
set_option linter.unusedVariables false
set_option linter.unusedSimpArgs false
set_option maxRecDepth 100000
namespace Go.Bl
open Go.V Go.Proofs
def FA : Nat → Nat → D := fun (i j : Nat) => List.getD [D.str { data := { toList := [(100 : UInt8), (114 : UInt8), (121 : UInt8)] } }, D.int IntKind.i64 (100 : Int), D.int IntKind.i64 (10 : Int), D.int IntKind.i64 (0 : Int), D.int IntKind.i64 (0 : Int), D.int IntKind.i64 (0 : Int), D.int IntKind.i64 (0 : Int), D.str { data := { toList := [(115 : UInt8), (119 : UInt8), (101 : UInt8), (101 : UInt8), (116 : UInt8)] } }, D.int IntKind.i64 (100 : Int), D.int IntKind.i64 (30 : Int), D.int IntKind.i64 (100 : Int), D.int IntKind.i64 (0 : Int), D.int IntKind.i64 (0 : Int), D.int IntKind.i64 (0 : Int), D.str { data := { toList := [(114 : UInt8), (105 : UInt8), (99 : UInt8), (104 : UInt8)] } }, D.int IntKind.i64 (50 : Int), D.int IntKind.i64 (20 : Int), D.int IntKind.i64 (200 : Int), D.int IntKind.i64 (0 : Int), D.int IntKind.i64 (0 : Int), D.int IntKind.i64 (0 : Int)] (i * (7 : Nat) + j) D.nilp
def FI : Nat → Nat → D := fun (i j : Nat) => List.getD [D.int IntKind.i64 (0 : Int), D.int IntKind.i64 (2 : Int)] (i * (1 : Nat) + j) D.nilp
theorem lA : eC.list 3 FA = exC := rfl
theorem isA : eC.Is 3 FA := by
  intro i j hi hj
  have hj' : j < 7 := hj
  match i, hi, j, hj' with
  | 0, _, 0, _ => exact D.eqv_refl _
  | 0, _, 1, _ => exact D.eqv_refl _
  | 0, _, 2, _ => exact D.eqv_refl _
  | 0, _, 3, _ => exact D.eqv_refl _
  | 0, _, 4, _ => exact D.eqv_refl _
  | 0, _, 5, _ => exact D.eqv_refl _
  | 0, _, 6, _ => exact D.eqv_refl _
  | 1, _, 0, _ => exact D.eqv_refl _
  | 1, _, 1, _ => exact D.eqv_refl _
  | 1, _, 2, _ => exact D.eqv_refl _
  | 1, _, 3, _ => exact D.eqv_refl _
  | 1, _, 4, _ => exact D.eqv_refl _
  | 1, _, 5, _ => exact D.eqv_refl _
  | 1, _, 6, _ => exact D.eqv_refl _
  | 2, _, 0, _ => exact D.eqv_refl _
  | 2, _, 1, _ => exact D.eqv_refl _
  | 2, _, 2, _ => exact D.eqv_refl _
  | 2, _, 3, _ => exact D.eqv_refl _
  | 2, _, 4, _ => exact D.eqv_refl _
  | 2, _, 5, _ => exact D.eqv_refl _
  | 2, _, 6, _ => exact D.eqv_refl _
theorem isI : eI.Is 2 FI := by
  intro i j hi hj
  obtain rfl : j = 0 := Nat.lt_one_iff.1 hj
  match i, hi with
  | 0, _ => exact D.eqv_refl _
  | 1, _ => exact D.eqv_refl _
theorem exC_nm' : ∀ c, c ∈ exC → c.nm.size ≤ 1000000 := by decide
end Go.Bl
end

section
set_option linter.unusedVariables false
set_option linter.unusedSimpArgs false
set_option maxRecDepth 100000
namespace Go.Bl
open Go.V Go.Proofs
namespace M
def partAt (l : List Cask) (den : Int) (ps : List Int) (i : Nat) : Int := first [unl (decide (ps.getD i 0 ≥ 0)) 2, unl (decide (ps.getD i 0 ≤ IntKind.i64.wrap (den * (l.getD i dfC).vol))) 24]
def partFrom (l : List Cask) (den : Int) (ps : List Int) : Nat → Nat → Int
  | 0, _ => 0
  | k + 1, i => cond (partAt l den ps i != 0) (partAt l den ps i) (partFrom l den ps k (i + 1))
def partHead (l : List Cask) (den : Int) (ps : List Int) : Int := first [unl (within den 1 200000000000) 2, unl ((ps.length : Int) == (l.length : Int)) 10]
def partErr (l : List Cask) (den : Int) (ps : List Int) : Int := cond (partHead l den ps != 0) (partHead l den ps) (partFrom l den ps ps.length 0)
def someN (n : Nat) (l : List Cask) : Bool := (decide (l.length ≤ n) || decide (l.length > 10)) && some_ l
end M
def tr106 (l : List Cask) (den : Int) (ps : List Int) : T (List Ar) :=
    T.br (M.first [M.unl (M.within den (1 : Int) (200000000000 : Int)) (2 : Int), M.unl ((Nat.cast (R := Int) ps.length) == (Nat.cast (R := Int) l.length)) (10 : Int)] != (0 : Int)) (T.ret [Ar.c (D.int IntKind.i64 (M.first [M.unl (M.within den (1 : Int) (200000000000 : Int)) (2 : Int), M.unl ((Nat.cast (R := Int) ps.length) == (Nat.cast (R := Int) l.length)) (10 : Int)]))]) (T.loop (Int × PUnit) ((0 : Int), PUnit.unit) fun (x : Int × PUnit) => T.br (decide (x.1 < (Nat.cast (R := Int) ps.length))) (T.need ((0 : Int) ≤ x.1) (T.need (x.1 < (Nat.cast (R := Int) ps.length)) (T.need ((0 : Int) ≤ x.1) (T.need (x.1 < (Nat.cast (R := Int) l.length)) (T.br (M.first [M.unl (decide (List.getD ps (Int.toNat (x.1)) (0 : Int) ≥ (0 : Int))) (2 : Int), M.unl (decide (List.getD ps (Int.toNat (x.1)) (0 : Int) ≤ IntKind.i64.wrap (den * (List.getD l (Int.toNat (x.1)) (Enc.dflt eC)).2))) (24 : Int)] != (0 : Int)) (T.ret (Sum.inr [Ar.c (D.int IntKind.i64 (M.first [M.unl (decide (List.getD ps (Int.toNat (x.1)) (0 : Int) ≥ (0 : Int))) (2 : Int), M.unl (decide (List.getD ps (Int.toNat (x.1)) (0 : Int) ≤ IntKind.i64.wrap (den * (List.getD l (Int.toNat (x.1)) (Enc.dflt eC)).2))) (24 : Int)]))])) (T.ret (Sum.inl (IntKind.i64.wrap (x.1 + (1 : Int)), PUnit.unit)))))))) (T.ret (Sum.inr [Ar.c (D.int IntKind.i64 (0 : Int))])))
theorem t106 (q_l : Bool) (l : List Cask) (den : Int) (q_ps : Bool) (ps : List Int) : runFnX Try.prog G0 (lookS [v102, v80, v64]) (fun _ => [(5, [.slot 28 (.int .i64)], none)]) [] 1 20 3 106 Try.f106 [.c (.sl q_l l.length 7 (eC.F l)), .agg [dI den, .sl q_ps ps.length 1 (eI.F ps)]] =
    tr106 l den ps := by kernel_rfl
def tr46 (l : List Cask) : T (List Ar) :=
    T.need (Enc.Is eC (List.length l) (Enc.F eC l)) (T.need (∀ (c : Cask), c ∈ Enc.list eC (List.length l) (Enc.F eC l) → ByteArray.size (Cask.nm c) ≤ (1000000 : Nat)) (T.br (M.wholeErr (Enc.list eC (List.length l) (Enc.F eC l)) != (0 : Int)) (T.ret [Ar.c (D.int IntKind.i64 (M.wholeErr (Enc.list eC (List.length l) (Enc.F eC l))))]) (T.br (decide ((Nat.cast (R := Int) l.length) > (4 : Int))) (T.ret [Ar.c (D.int IntKind.i64 (8 : Int))]) (T.ret [Ar.c (D.int IntKind.i64 (0 : Int))]))))
theorem t46 (q_l : Bool) (l : List Cask) : runFnX Try.prog G0 (lookS [v31]) (fun _ => []) [] 1 20 3 46 Try.f46 [.c (.sl q_l l.length 7 (eC.F l))] =
    tr46 l := by kernel_rfl
def tr19 (l : List Cask) : T (List Ar) :=
    T.br (decide ((Nat.cast (R := Int) l.length) ≤ (4 : Int))) (T.need (Enc.Is eC (List.length l) (Enc.F eC l)) (T.ret [Ar.c (D.bool (M.some_ (Enc.list eC (List.length l) (Enc.F eC l))))])) (T.br (decide ((Nat.cast (R := Int) l.length) > (10 : Int))) (T.need (Enc.Is eC (List.length l) (Enc.F eC l)) (T.ret [Ar.c (D.bool (M.some_ (Enc.list eC (List.length l) (Enc.F eC l))))])) (T.ret [Ar.c (D.bool false)]))
theorem t19 (q_l : Bool) (l : List Cask) : runFnX Try.prog G0 (lookS [v63]) (fun _ => []) [] 1 20 3 19 Try.f19 [.c (.sl q_l l.length 7 (eC.F l))] =
    tr19 l := by kernel_rfl
def tr51 (den : Int) (ps : List Int) : T (List Ar) :=
    T.need (Enc.Is eI (List.length ps) (Enc.F eI ps)) (T.need (List.length (Enc.list eI (List.length ps) (Enc.F eI ps)) ≤ (1000000 : Nat)) (T.ret [Ar.agg [D.int IntKind.i64 den, D.sl true (List.length ps) (1 : Nat) (Enc.F eI (Enc.list eI (List.length ps) (Enc.F eI ps)))]]))
theorem t51 (den : Int) (q_ps : Bool) (ps : List Int) : runFnX Try.prog G0 (lookS [v41]) (fun _ => []) [] 1 20 3 51 Try.f51 [.agg [dI den, .sl q_ps ps.length 1 (eI.F ps)]] =
    tr51 den ps := by kernel_rfl
theorem partFrom_step {l : List Cask} {den : Int} {ps : List Int} {k : Nat} (h : k < ps.length) : M.partFrom l den ps (ps.length - k) k = cond (M.partAt l den ps k != 0) (M.partAt l den ps k) (M.partFrom l den ps (ps.length - (k + 1)) (k + 1)) := by
  obtain ⟨m, hm⟩ : ∃ m, ps.length - k = m + 1 := ⟨ps.length - k - 1, by omega⟩
  rw [hm, show ps.length - (k + 1) = m by omega]
  rfl
theorem w106 (l : List Cask) (den : Int) (ps : List Int) (hn : ps.length ≤ 1000000) : (tr106 l den ps).wp (fun rs => rsEqv rs [rI (M.partErr l den ps)]) := by
  unfold tr106
  refine wp_br (fun hb => ?_) (fun hb => ?_)
  · have hb : (M.partHead l den ps != 0) = true := hb
    show rsEqv [rI (M.partHead l den ps)] [rI (M.partErr l den ps)]
    unfold M.partErr; rw [hb]; exact rsEqv_refl _
  · have hb : (M.partHead l den ps != 0) = false := hb
    have hE : M.partErr l den ps = M.partFrom l den ps ps.length 0 := by unfold M.partErr; rw [hb]; rfl
    have hl : ps.length = l.length := by
      have h0 : M.partHead l den ps = 0 := by simpa using hb
      unfold M.partHead M.first M.first M.first M.unl at h0
      by_cases e : (ps.length : Int) == (l.length : Int)
      · have := eq_of_beq e; omega
      · rw [Bool.eq_false_iff.2 e] at h0
        cases hw : M.within den 1 200000000000 <;> rw [hw] at h0 <;> exact absurd h0 (by decide)
    rw [hE]
    refine range_wp (n := ps.length) (fun k _ => M.partFrom l den ps (ps.length - k) k = M.partFrom l den ps ps.length 0) rfl ?_
    rintro k s hk hI
    refine wp_br (fun hb => ?_) (fun hb => ?_)
    · have hlt := lt_of_dec hb
      rw [partFrom_step hlt] at hI
      refine ⟨by show (0 : Int) ≤ k; omega, by show (k : Int) < ps.length; omega, by show (0 : Int) ≤ k; omega, by show (k : Int) < l.length; omega, wp_br (fun hc => ?_) (fun hc => ?_)⟩
      · have hc : (M.partAt l den ps k != 0) = true := hc
        rw [hc] at hI
        show rsEqv [rI (M.partAt l den ps k)] _
        rw [← hI]; exact rsEqv_refl _
      · have hc : (M.partAt l den ps k != 0) = false := hc
        rw [hc] at hI
        exact ⟨hlt, wrap_succ (by omega), hI⟩
    · have hge := ge_of_dec hb
      obtain rfl : k = ps.length := by omega
      rw [← hI, Nat.sub_self]
      exact rsEqv_refl _
theorem w46 (l : List Cask) (hn : ∀ c, c ∈ l → c.nm.size ≤ 1000000) : (tr46 l).wp (fun rs => rsEqv rs [rI (M.casksErr l)]) := by
  unfold tr46
  simp only [Enc.list_F]
  refine ⟨Enc.is_F _ _ _, hn, wp_br (fun hb => ?_) (fun hb => ?_)⟩
  · have hb : ((M.checkCasks l).2 != 0) = true := hb
    have : M.casksErr l = M.wholeErr l := by unfold M.casksErr M.first; rw [hb]; rfl
    rw [this]; exact rsEqv_refl _
  · have hb : ((M.checkCasks l).2 != 0) = false := hb
    refine wp_br (fun hc => ?_) (fun hc => ?_)
    · have hc : (l.length : Int) > 4 := of_decide_eq_true hc
      have : M.casksErr l = 8 := by unfold M.casksErr M.first; rw [hb, decide_eq_false (by omega)]; rfl
      rw [this]; exact rsEqv_refl _
    · have hc : ¬ (l.length : Int) > 4 := of_decide_eq_false hc
      have : M.casksErr l = 0 := by unfold M.casksErr M.first; rw [hb, decide_eq_true (by omega)]; rfl
      rw [this]; exact rsEqv_refl _
theorem w19 (l : List Cask) : (tr19 l).wp (fun rs => rsEqv rs [rB (M.someN 4 l)]) := by
  unfold tr19
  simp only [Enc.list_F]
  refine wp_br (fun hb => ?_) (fun hb => ?_)
  · have hb : (l.length : Int) ≤ 4 := of_decide_eq_true hb
    have : M.someN 4 l = M.some_ l := by unfold M.someN; rw [decide_eq_true (by omega)]; rfl
    rw [this]; exact ⟨Enc.is_F _ _ _, rsEqv_refl _⟩
  · have hb : ¬ (l.length : Int) ≤ 4 := of_decide_eq_false hb
    refine wp_br (fun hc => ?_) (fun hc => ?_)
    · have hc : (l.length : Int) > 10 := of_decide_eq_true hc
      have : M.someN 4 l = M.some_ l := by unfold M.someN; rw [decide_eq_false (by omega), decide_eq_true (by omega)]; rfl
      rw [this]; exact ⟨Enc.is_F _ _ _, rsEqv_refl _⟩
    · have hc : ¬ (l.length : Int) > 10 := of_decide_eq_false hc
      have : M.someN 4 l = false := by unfold M.someN; rw [decide_eq_false (by omega), decide_eq_false (by omega)]; rfl
      rw [this]; exact rsEqv_refl _
def dom106 : DomF
  | [.c (.sl _ n_l st_l F_l), .agg [.int .i64 den, .sl _ n_ps st_ps F_ps]] => (match Nat.beq st_l 7 && Nat.beq st_ps 1 with
    | true => some ([eC.Is n_l F_l, eI.Is n_ps F_ps, (eI.list n_ps F_ps).length ≤ 1000000], [rI (M.partErr (eC.list n_l F_l) den (eI.list n_ps F_ps))])
    | _ => none)
  | _ => none
def v106 : Nat × Sm := (106, fokSm dom106)
theorem C106 : FOK Try.prog G0 gw 106 dom106 := by
  intro ags p r hd hp κ w xs hw hl hG hx
  unfold dom106 at hd
  split at hd
  · rename_i q_l n_l st_l F_l den q_ps n_ps st_ps F_ps
    split at hd
    · rename_i hst
      simp only [Bool.and_eq_true] at hst
      obtain ⟨g1, g2⟩ := hst
      have g1 := Nat.eq_of_beq_eq_true g1
      have g2 := Nat.eq_of_beq_eq_true g2
      subst g1 g2
      simp only [Option.some.injEq, Prod.mk.injEq] at hd
      obtain ⟨rfl, rfl⟩ := hd
      obtain ⟨hI_l, hI_ps, hp⟩ := hp
      have heq : agsEqv [.c (.sl q_l n_l 7 F_l), .agg [.int .i64 den, .sl q_ps n_ps 1 F_ps]] [.c (.sl q_l (eC.list n_l F_l).length 7 (eC.F (eC.list n_l F_l))), .agg [.int .i64 den, .sl q_ps (eI.list n_ps F_ps).length 1 (eI.F (eI.list n_ps F_ps))]] := ⟨eC.to id hI_l, ⟨rfl, eI.to id hI_ps, trivial⟩, trivial⟩
      have len_l : (eC.list n_l F_l).length = n_l := eC.list_len
      have len_ps : (eI.list n_ps F_ps).length = n_ps := eI.list_len
      generalize eC.list n_l F_l = l at *
      generalize eI.list n_ps F_ps = ps at *
      subst len_l len_ps
      exact fokX_fin mixed gw_stable (sl := [v102, v80, v64]) ⟨S102, S80, S64, trivial⟩ Try.func106 hw hl hG hx heq rfl (t106 q_l l den q_ps ps) (w106 l den ps hp.1)
    · cases hd
  · cases hd
theorem S106 : SumOK Try.prog G0 gw 106 (fokSm dom106) := fok_sum Try.func106 rfl C106
def dom46 : DomF
  | [.c (.sl _ n_l st_l F_l)] => (match Nat.beq st_l 7 with
    | true => some ([eC.Is n_l F_l, ∀ c, c ∈ (eC.list n_l F_l) → c.nm.size ≤ 1000000], [rI (M.casksErr (eC.list n_l F_l))])
    | _ => none)
  | _ => none
def v46 : Nat × Sm := (46, fokSm dom46)
theorem C46 : FOK Try.prog G0 gw 46 dom46 := by
  intro ags p r hd hp κ w xs hw hl hG hx
  unfold dom46 at hd
  split at hd
  · rename_i q_l n_l st_l F_l
    split at hd
    · rename_i hst
      have g1 := hst
      have g1 := Nat.eq_of_beq_eq_true g1
      subst g1
      simp only [Option.some.injEq, Prod.mk.injEq] at hd
      obtain ⟨rfl, rfl⟩ := hd
      obtain ⟨hI_l, hp⟩ := hp
      have heq : agsEqv [.c (.sl q_l n_l 7 F_l)] [.c (.sl q_l (eC.list n_l F_l).length 7 (eC.F (eC.list n_l F_l)))] := ⟨eC.to id hI_l, trivial⟩
      have len_l : (eC.list n_l F_l).length = n_l := eC.list_len
      generalize eC.list n_l F_l = l at *
      subst len_l
      exact fokX_fin mixed gw_stable (sl := [v31]) ⟨S31, trivial⟩ Try.func46 hw hl hG hx heq rfl (t46 q_l l) (w46 l hp.1)
    · cases hd
  · cases hd
theorem S46 : SumOK Try.prog G0 gw 46 (fokSm dom46) := fok_sum Try.func46 rfl C46
def dom19 : DomF
  | [.c (.sl _ n_l st_l F_l)] => (match Nat.beq st_l 7 with
    | true => some ([eC.Is n_l F_l], [rB (M.someN 4 (eC.list n_l F_l))])
    | _ => none)
  | _ => none
def v19 : Nat × Sm := (19, fokSm dom19)
theorem C19 : FOK Try.prog G0 gw 19 dom19 := by
  intro ags p r hd hp κ w xs hw hl hG hx
  unfold dom19 at hd
  split at hd
  · rename_i q_l n_l st_l F_l
    split at hd
    · rename_i hst
      have g1 := hst
      have g1 := Nat.eq_of_beq_eq_true g1
      subst g1
      simp only [Option.some.injEq, Prod.mk.injEq] at hd
      obtain ⟨rfl, rfl⟩ := hd
      obtain ⟨hI_l, hp⟩ := hp
      have heq : agsEqv [.c (.sl q_l n_l 7 F_l)] [.c (.sl q_l (eC.list n_l F_l).length 7 (eC.F (eC.list n_l F_l)))] := ⟨eC.to id hI_l, trivial⟩
      have len_l : (eC.list n_l F_l).length = n_l := eC.list_len
      generalize eC.list n_l F_l = l at *
      subst len_l
      exact fokX_fin mixed gw_stable (sl := [v63]) ⟨S63, trivial⟩ Try.func19 hw hl hG hx heq rfl (t19 q_l l) (w19 l)
    · cases hd
  · cases hd
theorem S19 : SumOK Try.prog G0 gw 19 (fokSm dom19) := fok_sum Try.func19 rfl C19
def dom51 : DomF
  | [.agg [.int .i64 den, .sl _ n_ps st_ps F_ps]] => (match Nat.beq st_ps 1 with
    | true => some ([eI.Is n_ps F_ps, (eI.list n_ps F_ps).length ≤ 1000000], [.agg [dI den, .sl true n_ps 1 (eI.F (eI.list n_ps F_ps))]])
    | _ => none)
  | _ => none
def v51 : Nat × Sm := (51, fokSm dom51)
theorem C51 : FOK Try.prog G0 gw 51 dom51 := by
  intro ags p r hd hp κ w xs hw hl hG hx
  unfold dom51 at hd
  split at hd
  · rename_i den q_ps n_ps st_ps F_ps
    split at hd
    · rename_i hst
      have g1 := hst
      have g1 := Nat.eq_of_beq_eq_true g1
      subst g1
      simp only [Option.some.injEq, Prod.mk.injEq] at hd
      obtain ⟨rfl, rfl⟩ := hd
      obtain ⟨hI_ps, hp⟩ := hp
      have heq : agsEqv [.agg [.int .i64 den, .sl q_ps n_ps 1 F_ps]] [.agg [.int .i64 den, .sl q_ps (eI.list n_ps F_ps).length 1 (eI.F (eI.list n_ps F_ps))]] := ⟨⟨rfl, eI.to id hI_ps, trivial⟩, trivial⟩
      have len_ps : (eI.list n_ps F_ps).length = n_ps := eI.list_len
      generalize eI.list n_ps F_ps = ps at *
      subst len_ps
      exact fokX_fin mixed gw_stable (sl := [v41]) ⟨S41, trivial⟩ Try.func51 hw hl hG hx heq rfl (t51 den q_ps ps) ((by unfold tr51; rw [Enc.list_F]; exact ⟨Enc.is_F _ _ _, hp.1, rsEqv_refl _⟩))
    · cases hd
  · cases hd
theorem S51 : SumOK Try.prog G0 gw 51 (fokSm dom51) := fok_sum Try.func51 rfl C51
end Go.Bl
end

section
set_option linter.unusedVariables false
set_option linter.unusedSimpArgs false
set_option maxRecDepth 100000
namespace Go.Bl
open Go.V Go.Proofs
namespace M
end M
def tr22 (l : List Cask) (s : Sample) : T (List Ar) :=
    T.need (Enc.Is eC (List.length l) (Enc.F eC l)) (T.need (∀ (c : Cask), c ∈ Enc.list eC (List.length l) (Enc.F eC l) → ByteArray.size (Cask.nm c) ≤ (1000000 : Nat)) (T.br (M.casksErr (Enc.list eC (List.length l) (Enc.F eC l)) != (0 : Int)) (T.ret [Ar.c (D.int IntKind.i64 (M.casksErr (Enc.list eC (List.length l) (Enc.F eC l))))]) (T.ret [Ar.c (D.int IntKind.i64 (M.checkSample s))])))
theorem t22 (q_l : Bool) (l : List Cask) (sv l0 h0 l1 h1 l2 h2 l3 h3 : Int) : runFnX Try.prog G0 (lookS [v46, v32]) (fun _ => []) [] 1 20 3 22 Try.f22 [.c (.sl q_l l.length 7 (eC.F l)), .agg [dI sv, dI l0, dI h0, dI l1, dI h1, dI l2, dI h2, dI l3, dI h3]] =
    tr22 l (⟨sv, ⟨l0, h0⟩, ⟨l1, h1⟩, ⟨l2, h2⟩, ⟨l3, h3⟩⟩ : Sample) := by kernel_rfl
theorem first2 {x y : Int} (h : (x != 0) = false) : M.first [x, y] = y := by
  unfold M.first; rw [h]
  show M.first [y] = y
  unfold M.first M.first
  cases hy : y != 0
  · have : y = 0 := by simpa using hy
    rw [this]; rfl
  · rfl
theorem first1 {x : Int} {l : List Int} (h : (x != 0) = true) : M.first (x :: l) = x := by
  unfold M.first; rw [h]; rfl
theorem w22 (l : List Cask) (s : Sample) (hn : ∀ c, c ∈ l → c.nm.size ≤ 1000000) : (tr22 l s).wp (fun rs => rsEqv rs [rI (M.taskErr l s)]) := by
  unfold tr22
  simp only [Enc.list_F]
  refine ⟨Enc.is_F _ _ _, hn, wp_br (fun hb => ?_) (fun hb => ?_)⟩
  · have : M.taskErr l s = M.casksErr l := first1 hb
    rw [this]; exact rsEqv_refl _
  · have : M.taskErr l s = M.checkSample s := first2 hb
    rw [this]; exact rsEqv_refl _
def dom22 : DomF
  | [.c (.sl _ n_l st_l F_l), .agg [.int .i64 sv, .int .i64 l0, .int .i64 h0, .int .i64 l1, .int .i64 h1, .int .i64 l2, .int .i64 h2, .int .i64 l3, .int .i64 h3]] => (match Nat.beq st_l 7 with
    | true => some ([eC.Is n_l F_l, ∀ c, c ∈ (eC.list n_l F_l) → c.nm.size ≤ 1000000], [rI (M.taskErr (eC.list n_l F_l) (⟨sv, ⟨l0, h0⟩, ⟨l1, h1⟩, ⟨l2, h2⟩, ⟨l3, h3⟩⟩ : Sample))])
    | _ => none)
  | _ => none
def v22 : Nat × Sm := (22, fokSm dom22)
theorem C22 : FOK Try.prog G0 gw 22 dom22 := by
  intro ags p r hd hp κ w xs hw hl hG hx
  unfold dom22 at hd
  split at hd
  · rename_i q_l n_l st_l F_l sv l0 h0 l1 h1 l2 h2 l3 h3
    split at hd
    · rename_i hst
      have g1 := hst
      have g1 := Nat.eq_of_beq_eq_true g1
      subst g1
      simp only [Option.some.injEq, Prod.mk.injEq] at hd
      obtain ⟨rfl, rfl⟩ := hd
      obtain ⟨hI_l, hp⟩ := hp
      have heq : agsEqv [.c (.sl q_l n_l 7 F_l), .agg [.int .i64 sv, .int .i64 l0, .int .i64 h0, .int .i64 l1, .int .i64 h1, .int .i64 l2, .int .i64 h2, .int .i64 l3, .int .i64 h3]] [.c (.sl q_l (eC.list n_l F_l).length 7 (eC.F (eC.list n_l F_l))), .agg [.int .i64 sv, .int .i64 l0, .int .i64 h0, .int .i64 l1, .int .i64 h1, .int .i64 l2, .int .i64 h2, .int .i64 l3, .int .i64 h3]] := ⟨eC.to id hI_l, Ag.eqv_refl _, trivial⟩
      have len_l : (eC.list n_l F_l).length = n_l := eC.list_len
      generalize eC.list n_l F_l = l at *
      subst len_l
      exact fokX_fin mixed gw_stable (sl := [v46, v32]) ⟨S46, S32, trivial⟩ Try.func22 hw hl hG hx heq rfl (t22 q_l l sv l0 h0 l1 h1 l2 h2 l3 h3) (w22 l _ hp.1)
    · cases hd
  · cases hd
theorem S22 : SumOK Try.prog G0 gw 22 (fokSm dom22) := fok_sum Try.func22 rfl C22
end Go.Bl
end

section
set_option linter.unusedVariables false
set_option linter.unusedSimpArgs false
set_option maxRecDepth 100000
namespace Go.Bl
open Go.V Go.Proofs
theorem someN_small {n : Nat} {l : List Cask} (h : M.someN n l = true) : l.length ≤ 12 ∧ ∀ c, c ∈ l → c.nm.size ≤ 20 := by
  unfold M.someN at h
  simp only [Bool.and_eq_true] at h
  have h2 : l.length ≤ 12 ∧ ∀ k, k < l.length → (l.getD k dfC).nm.size ≤ 20 := of_decide_eq_true h.2
  refine ⟨h2.1, fun c hc => ?_⟩
  obtain ⟨k, hk, rfl⟩ := List.mem_iff_getElem.1 hc
  have := h2.2 k hk
  have e : l.getD k dfC = l[k] := by simp [hk]
  rwa [e] at this
end Go.Bl
end

section
set_option linter.unusedVariables false
set_option linter.unusedSimpArgs false
set_option maxRecDepth 100000
namespace Go.Bl
open Go.V Go.Proofs
namespace M
def valL (l : List Cask) (ps : List Int) (of : Cask → Int) (less : Int) : Int := (List.range l.length).foldl (fun a i => IntKind.i64.wrap (a + IntKind.i64.wrap (ps.getD i 0 * IntKind.i64.wrap (of (l.getD i dfC) - less)))) 0
def openErr (l : List Cask) (s : Sample) (den : Int) (ps : List Int) : Int := cond (taskErr l s != 0) (taskErr l s) (cond (partErr l den ps != 0) (partErr l den ps) (unl (sumP (fun _ => 1) l ps == IntKind.i64.wrap (den * s.vol)) 14))
end M
def tr108 (q_l : Bool) (l : List Cask) (s : Sample) (den : Int) (q_ps : Bool) (ps : List Int) : T (List Ar) :=
    T.need (Enc.Is eC (List.length l) (Enc.F eC l)) (T.need (∀ (c : Cask), c ∈ Enc.list eC (List.length l) (Enc.F eC l) → ByteArray.size (Cask.nm c) ≤ (1000000 : Nat)) (T.br (M.first [M.casksErr (Enc.list eC (List.length l) (Enc.F eC l)), M.checkSample s] != (0 : Int)) (T.ret [Ar.agg [D.sl q_l (List.length l) (7 : Nat) (Enc.F eC l), D.int IntKind.i64 den, D.sl q_ps (List.length ps) (1 : Nat) (Enc.F eI ps)], Ar.c (D.int IntKind.i64 (M.first [M.casksErr (Enc.list eC (List.length l) (Enc.F eC l)), M.checkSample s]))]) (T.need (Enc.Is eC (List.length l) (Enc.F eC l)) (T.need (Enc.Is eI (List.length ps) (Enc.F eI ps)) (T.need (List.length (Enc.list eI (List.length ps) (Enc.F eI ps)) ≤ (1000000 : Nat)) (T.br (M.partErr (Enc.list eC (List.length l) (Enc.F eC l)) den (Enc.list eI (List.length ps) (Enc.F eI ps)) != (0 : Int)) (T.ret [Ar.agg [D.sl q_l (List.length l) (7 : Nat) (Enc.F eC l), D.int IntKind.i64 den, D.sl q_ps (List.length ps) (1 : Nat) (Enc.F eI ps)], Ar.c (D.int IntKind.i64 (M.partErr (Enc.list eC (List.length l) (Enc.F eC l)) den (Enc.list eI (List.length ps) (Enc.F eI ps))))]) (T.need (Enc.Is eC (List.length l) (Enc.F eC l)) (T.need (Enc.Is eI (List.length ps) (Enc.F eI ps)) (T.need (List.length ps ≤ List.length l) (T.need (List.length ps ≤ (1000 : Nat)) (T.ret [Ar.agg [D.sl q_l (List.length l) (7 : Nat) (Enc.F eC l), D.int IntKind.i64 den, D.sl q_ps (List.length ps) (1 : Nat) (Enc.F eI ps)], Ar.c (D.int IntKind.i64 (M.unl (M.sumP (fun (x : Cask) => (1 : Int)) (Enc.list eC (List.length l) (Enc.F eC l)) (Enc.list eI (List.length ps) (Enc.F eI ps)) == IntKind.i64.wrap (den * s.vol)) (14 : Int)))])))))))))))
theorem t108 (q_l : Bool) (l : List Cask) (sv l0 h0 l1 h1 l2 h2 l3 h3 : Int) (den : Int) (q_ps : Bool) (ps : List Int) : runFnX Try.prog G0 (lookS [v65, v49, v64, v106, v85, v80]) (fun _ => []) [] 1 20 3 108 Try.f108 [.c (.sl q_l l.length 7 (eC.F l)), .agg [dI sv, dI l0, dI h0, dI l1, dI h1, dI l2, dI h2, dI l3, dI h3], .agg [dI den, .sl q_ps ps.length 1 (eI.F ps)]] =
    tr108 q_l l (⟨sv, ⟨l0, h0⟩, ⟨l1, h1⟩, ⟨l2, h2⟩, ⟨l3, h3⟩⟩ : Sample) den q_ps ps := by kernel_rfl
theorem sl_eqv {q : Bool} {n st : Nat} {F : Nat → Nat → D} : (D.sl q n st F).eqv (.sl false n st F) := ⟨(fun e => by cases e), rfl, fun _ => rfl, fun i j _ _ => D.eqv_refl _⟩
theorem part_len {l : List Cask} {den : Int} {ps : List Int} (h : (M.partErr l den ps != 0) = false) : ps.length = l.length := by
  have h : M.partErr l den ps = 0 := by simpa using h
  unfold M.partErr at h
  have h0 : M.partHead l den ps = 0 := by
    cases hh : M.partHead l den ps != 0
    · simpa using hh
    · rw [hh] at h
      have h : M.partHead l den ps = 0 := h
      exact h
  unfold M.partHead M.first M.first M.first M.unl at h0
  by_cases e : (ps.length : Int) == (l.length : Int)
  · have := eq_of_beq e; omega
  · rw [Bool.eq_false_iff.2 e] at h0
    cases hw : M.within den 1 200000000000 <;> rw [hw] at h0 <;> exact absurd h0 (by decide)
theorem w108 (q_l : Bool) (l : List Cask) (s : Sample) (den : Int) (q_ps : Bool) (ps : List Int) (hn : ∀ c, c ∈ l → c.nm.size ≤ 1000000) (hp : ps.length ≤ 1000) : (tr108 q_l l s den q_ps ps).wp (fun rs => rsEqv rs [.agg [.sl false l.length 7 (eC.F l), dI den, .sl false ps.length 1 (eI.F ps)], rI (M.openErr l s den ps)]) := by
  unfold tr108
  simp only [Enc.list_F]
  refine ⟨Enc.is_F _ _ _, hn, wp_br (fun hb => ?_) (fun hb => ?_)⟩
  · have hb : (M.taskErr l s != 0) = true := hb
    have : M.openErr l s den ps = M.taskErr l s := by unfold M.openErr; rw [hb]; rfl
    rw [this]
    exact ⟨⟨sl_eqv, rfl, sl_eqv, trivial⟩, rfl, trivial⟩
  · have hb : (M.taskErr l s != 0) = false := hb
    refine ⟨Enc.is_F _ _ _, Enc.is_F _ _ _, by omega, wp_br (fun hc => ?_) (fun hc => ?_)⟩
    · have : M.openErr l s den ps = M.partErr l den ps := by unfold M.openErr; rw [hb, hc]; rfl
      rw [this]
      exact ⟨⟨sl_eqv, rfl, sl_eqv, trivial⟩, rfl, trivial⟩
    · have hl := part_len hc
      have : M.openErr l s den ps = M.unl (M.sumP (fun _ => 1) l ps == IntKind.i64.wrap (den * s.vol)) 14 := by unfold M.openErr; rw [hb, hc]; rfl
      rw [this]
      exact ⟨Enc.is_F _ _ _, Enc.is_F _ _ _, by omega, hp, ⟨sl_eqv, rfl, sl_eqv, trivial⟩, rfl, trivial⟩
def dom108 : DomF
  | [.c (.sl _ n_l st_l F_l), .agg [.int .i64 sv, .int .i64 l0, .int .i64 h0, .int .i64 l1, .int .i64 h1, .int .i64 l2, .int .i64 h2, .int .i64 l3, .int .i64 h3], .agg [.int .i64 den, .sl _ n_ps st_ps F_ps]] => (match Nat.beq st_l 7 && Nat.beq st_ps 1 with
    | true => some ([eC.Is n_l F_l, eI.Is n_ps F_ps, ∀ c, c ∈ (eC.list n_l F_l) → c.nm.size ≤ 1000000, (eI.list n_ps F_ps).length ≤ 1000], [.agg [.sl false n_l 7 (eC.F (eC.list n_l F_l)), dI den, .sl false n_ps 1 (eI.F (eI.list n_ps F_ps))], rI (M.openErr (eC.list n_l F_l) (⟨sv, ⟨l0, h0⟩, ⟨l1, h1⟩, ⟨l2, h2⟩, ⟨l3, h3⟩⟩ : Sample) den (eI.list n_ps F_ps))])
    | _ => none)
  | _ => none
def v108 : Nat × Sm := (108, fokSm dom108)
theorem C108 : FOK Try.prog G0 gw 108 dom108 := by
  intro ags p r hd hp κ w xs hw hl hG hx
  unfold dom108 at hd
  split at hd
  · rename_i q_l n_l st_l F_l sv l0 h0 l1 h1 l2 h2 l3 h3 den q_ps n_ps st_ps F_ps
    split at hd
    · rename_i hst
      simp only [Bool.and_eq_true] at hst
      obtain ⟨g1, g2⟩ := hst
      have g1 := Nat.eq_of_beq_eq_true g1
      have g2 := Nat.eq_of_beq_eq_true g2
      subst g1 g2
      simp only [Option.some.injEq, Prod.mk.injEq] at hd
      obtain ⟨rfl, rfl⟩ := hd
      obtain ⟨hI_l, hI_ps, hp⟩ := hp
      have heq : agsEqv [.c (.sl q_l n_l 7 F_l), .agg [.int .i64 sv, .int .i64 l0, .int .i64 h0, .int .i64 l1, .int .i64 h1, .int .i64 l2, .int .i64 h2, .int .i64 l3, .int .i64 h3], .agg [.int .i64 den, .sl q_ps n_ps 1 F_ps]] [.c (.sl q_l (eC.list n_l F_l).length 7 (eC.F (eC.list n_l F_l))), .agg [.int .i64 sv, .int .i64 l0, .int .i64 h0, .int .i64 l1, .int .i64 h1, .int .i64 l2, .int .i64 h2, .int .i64 l3, .int .i64 h3], .agg [.int .i64 den, .sl q_ps (eI.list n_ps F_ps).length 1 (eI.F (eI.list n_ps F_ps))]] := ⟨eC.to id hI_l, Ag.eqv_refl _, ⟨rfl, eI.to id hI_ps, trivial⟩, trivial⟩
      have len_l : (eC.list n_l F_l).length = n_l := eC.list_len
      have len_ps : (eI.list n_ps F_ps).length = n_ps := eI.list_len
      generalize eC.list n_l F_l = l at *
      generalize eI.list n_ps F_ps = ps at *
      subst len_l len_ps
      exact fokX_fin mixed gw_stable (sl := [v65, v49, v64, v106, v85, v80]) ⟨S65, S49, S64, S106, S85, S80, trivial⟩ Try.func108 hw hl hG hx heq rfl (t108 q_l l sv l0 h0 l1 h1 l2 h2 l3 h3 den q_ps ps) (w108 q_l l _ den q_ps ps hp.1 hp.2.1)
    · cases hd
  · cases hd
theorem S108 : SumOK Try.prog G0 gw 108 (fokSm dom108) := fok_sum Try.func108 rfl C108
end Go.Bl
end

section
set_option linter.unusedVariables false
set_option linter.unusedSimpArgs false
set_option maxRecDepth 100000
namespace Go.Bl
open Go.V Go.Proofs
theorem first_nil (l : List Int) (h : M.first l = 0) : ∀ x, x ∈ l → x = 0 := by
  induction l with
  | nil => intro x hx; cases hx
  | cons y t ih =>
    unfold M.first at h
    cases hy : y != 0
    · rw [hy] at h
      have hy0 : y = 0 := by simpa using hy
      intro x hx
      rcases List.mem_cons.1 hx with rfl | hx
      · exact hy0
      · exact ih h x hx
    · rw [hy] at h
      have h : y = 0 := h
      rw [h] at hy
      exact absurd hy (by decide)
theorem unl_zero {b : Bool} {e : Int} (he : e ≠ 0) (h : M.unl b e = 0) : b = true := by
  cases b with
  | true => rfl
  | false => exact absurd h he
theorem cond_zero {x y : Int} (h : (cond (x != 0) x y) = 0) : x = 0 ∧ y = 0 := by
  cases hx : x != 0
  · rw [hx] at h
    exact ⟨by simpa using hx, h⟩
  · rw [hx] at h
    have h : x = 0 := h
    rw [h] at hx
    exact absurd hx (by decide)
theorem casksFrom_zero {l : List Cask} : ∀ (n i : Nat), (M.casksFrom l n i).2 = 0 → ∀ j, i ≤ j → j < i + n → M.caskErr l j = 0
  | 0, i, _, j, h1, h2 => by omega
  | n + 1, i, h, j, h1, h2 => by
    unfold M.casksFrom at h
    cases hx : M.caskErr l i != 0
    · rw [hx] at h
      rcases Nat.eq_or_lt_of_le h1 with rfl | hlt
      · simpa using hx
      · exact casksFrom_zero n (i + 1) h j hlt (by omega)
    · rw [hx] at h
      have h : M.caskErr l i = 0 := h
      rw [h] at hx
      exact absurd hx (by decide)
theorem partFrom_zero {l : List Cask} {den : Int} {ps : List Int} : ∀ (n i : Nat), M.partFrom l den ps n i = 0 → ∀ j, i ≤ j → j < i + n → M.partAt l den ps j = 0
  | 0, i, _, j, h1, h2 => by omega
  | n + 1, i, h, j, h1, h2 => by
    unfold M.partFrom at h
    obtain ⟨a, b⟩ := cond_zero h
    rcases Nat.eq_or_lt_of_le h1 with rfl | hlt
    · exact a
    · exact partFrom_zero n (i + 1) b j hlt (by omega)
theorem within_spec {n lo hi : Int} (h : M.within n lo hi = true) : lo ≤ n ∧ n ≤ hi := by
  unfold M.within at h
  simp only [Bool.and_eq_true, decide_eq_true_eq] at h
  exact h
structure RightC (c : Cask) : Prop where
  vol : 0 ≤ c.vol ∧ c.vol ≤ 10000
  cost : 0 ≤ c.cost ∧ c.cost ≤ 1000
  k0 : 0 ≤ c.k0 ∧ c.k0 ≤ 1000
  k1 : 0 ≤ c.k1 ∧ c.k1 ≤ 1000
  k2 : 0 ≤ c.k2 ∧ c.k2 ≤ 1000
  k3 : 0 ≤ c.k3 ∧ c.k3 ≤ 1000
theorem rightC_spec {c : Cask} (h : M.rightC c = true) : RightC c := by
  unfold M.rightC at h
  cases h1 : M.within c.vol 0 10000
  · rw [h1] at h; cases h
  rw [h1] at h
  have h : cond (M.within c.cost 0 1000) (M.kindsOk c) false = true := h
  cases h2 : M.within c.cost 0 1000
  · rw [h2] at h; cases h
  rw [h2] at h
  have h : M.kindsOk c = true := h
  unfold M.kindsOk M.allB M.allB M.allB M.allB M.allB at h
  cases g0 : M.isValue c.k0
  · rw [g0] at h; cases h
  cases g1 : M.isValue c.k1
  · rw [g0, g1] at h; cases h
  cases g2 : M.isValue c.k2
  · rw [g0, g1, g2] at h; cases h
  cases g3 : M.isValue c.k3
  · rw [g0, g1, g2, g3] at h; cases h
  exact ⟨within_spec h1, within_spec h2, within_spec g0, within_spec g1, within_spec g2, within_spec g3⟩
theorem casks_right {l : List Cask} (h : M.casksErr l = 0) : 1 ≤ l.length ∧ l.length ≤ 4 ∧ ∀ i, i < l.length → RightC (l.getD i dfC) := by
  unfold M.casksErr at h
  have h1 := first_nil _ h _ (List.mem_cons_self ..)
  have h2 := unl_zero (by decide) (first_nil _ h _ (List.mem_cons_of_mem _ (List.mem_cons_self ..)))
  have h2 : (l.length : Int) ≤ 4 := of_decide_eq_true h2
  unfold M.checkCasks at h1
  cases e0 : decide (l.length = 0)
  · rw [e0] at h1
    have h1 : (cond (decide (10 < l.length)) ((0 : Int), (8 : Int)) (M.casksFrom l l.length 0)).2 = 0 := h1
    rw [decide_eq_false (by omega)] at h1
    have h1 : (M.casksFrom l l.length 0).2 = 0 := h1
    have e0 : ¬ l.length = 0 := of_decide_eq_false e0
    refine ⟨by omega, by omega, fun i hi => ?_⟩
    have hc := casksFrom_zero _ _ h1 i (Nat.zero_le _) (by omega)
    unfold M.caskErr at hc
    exact rightC_spec (unl_zero (by decide) (first_nil _ hc _ (List.mem_cons_of_mem _ (List.mem_cons_of_mem _ (List.mem_cons_self ..)))))
  · rw [e0] at h1
    have h1 : (10 : Int) = 0 := h1
    exact absurd h1 (by decide)
structure RightP (l : List Cask) (den : Int) (ps : List Int) : Prop where
  len : ps.length = l.length
  den : 1 ≤ den ∧ den ≤ 200000000000
  part : ∀ i, i < l.length → 0 ≤ ps.getD i 0 ∧ ps.getD i 0 ≤ 2000000000000000
theorem parts_right {l : List Cask} {den : Int} {ps : List Int} (hl : ∀ i, i < l.length → RightC (l.getD i dfC)) (h : M.partErr l den ps = 0) : RightP l den ps := by
  have hlen := part_len (l := l) (den := den) (ps := ps) (by rw [h]; rfl)
  unfold M.partErr at h
  obtain ⟨h0, h1⟩ := cond_zero h
  unfold M.partHead at h0
  have hw := within_spec (unl_zero (by decide) (first_nil _ h0 _ (List.mem_cons_self ..)))
  refine ⟨hlen, hw, fun i hi => ?_⟩
  have ha := partFrom_zero _ _ h1 i (Nat.zero_le _) (by omega)
  unfold M.partAt at ha
  have a1 : ps.getD i 0 ≥ 0 := of_decide_eq_true (unl_zero (by decide) (first_nil _ ha _ (List.mem_cons_self ..)))
  have a2 : ps.getD i 0 ≤ IntKind.i64.wrap (den * (l.getD i dfC).vol) := of_decide_eq_true (unl_zero (by decide) (first_nil _ ha _ (List.mem_cons_of_mem _ (List.mem_cons_self ..))))
  have hv := (hl i hi).vol
  have hm0 : 0 ≤ den * (l.getD i dfC).vol := Int.mul_nonneg (by omega) hv.1
  have hm1 : den * (l.getD i dfC).vol ≤ 200000000000 * 10000 := Int.mul_le_mul hw.2 hv.2 hv.1 (by decide)
  rw [wrap_id (by omega) (by omega)] at a2
  exact ⟨a1, by omega⟩
def dot (g : Nat → Int) : Nat → Int
  | 0 => 0
  | n + 1 => dot g n + g n
theorem dot_congr {g h : Nat → Int} : ∀ {n : Nat}, (∀ i, i < n → g i = h i) → dot g n = dot h n
  | 0, _ => rfl
  | n + 1, e => by
    show dot g n + g n = dot h n + h n
    rw [dot_congr fun i hi => e i (by omega), e n (by omega)]
theorem fold_dot {f : Int → Nat → Int} {y : Nat → Int} {n : Nat} (hf : ∀ a i, i < n → f a i = IntKind.i64.wrap (a + y i)) (hy : ∀ i, i < n → (y i).natAbs ≤ 2000000000000000000) (hn : n ≤ 4) :
    (List.range n).foldl f 0 = dot y n ∧ (dot y n).natAbs ≤ n * 2000000000000000000 := by
  have key : ∀ k, k ≤ n → (List.range k).foldl f 0 = dot y k ∧ (dot y k).natAbs ≤ k * 2000000000000000000 := by
    intro k
    induction k with
    | zero => intro _; exact ⟨rfl, by show (0 : Int).natAbs ≤ _; simp⟩
    | succ k ih =>
      intro hk
      obtain ⟨h1, h2⟩ := ih (by omega)
      have hb := hy k (by omega)
      have e : dot y (k + 1) = dot y k + y k := rfl
      have hb' : (dot y (k + 1)).natAbs ≤ (k + 1) * 2000000000000000000 := by rw [e]; omega
      refine ⟨?_, hb'⟩
      rw [foldl_succ, h1, hf _ _ (by omega), ← e]
      exact wrap_id (by omega) (by omega)
  exact key n (Nat.le_refl n)
theorem mul_small {p w : Int} (hp : 0 ≤ p ∧ p ≤ 2000000000000000) (hw : w.natAbs ≤ 1000) : (p * w).natAbs ≤ 2000000000000000000 := by
  rw [Int.natAbs_mul]
  exact Nat.mul_le_mul (show p.natAbs ≤ 2000000000000000 by omega) hw
theorem dot_sub (p v : Nat → Int) (c : Int) : ∀ n, dot (fun i => p i * (v i - c)) n = dot (fun i => p i * v i) n - c * dot p n
  | 0 => by simp [dot]
  | n + 1 => by
    show dot (fun i => p i * (v i - c)) n + p n * (v n - c) = dot (fun i => p i * v i) n + p n * v n - c * (dot p n + p n)
    rw [dot_sub p v c n, Int.mul_sub, Int.mul_add, Int.mul_comm (p n) c]
    omega
theorem wrap_add_wrap (a b : Int) : IntKind.i64.wrap (a + IntKind.i64.wrap b) = IntKind.i64.wrap (a + b) := by
  simp only [IntKind.wrap_i64]; omega
section
variable {l : List Cask} {den : Int} {ps : List Int}
theorem sumP_eq (h4 : l.length ≤ 4) (hp : RightP l den ps) {of : Cask → Int} (hof : ∀ i, i < l.length → (of (l.getD i dfC)).natAbs ≤ 1000) :
    M.sumP of l ps = dot (fun i => ps.getD i 0 * of (l.getD i dfC)) l.length ∧ (M.sumP of l ps).natAbs ≤ l.length * 2000000000000000000 := by
  have h := fold_dot (f := fun a i => IntKind.i64.wrap (a + IntKind.i64.wrap (ps.getD i 0 * of (l.getD i dfC)))) (y := fun i => ps.getD i 0 * of (l.getD i dfC)) (n := l.length)
    (fun a i _ => wrap_add_wrap _ _) (fun i hi => mul_small (hp.part i hi) (hof i hi)) h4
  have e : M.sumP of l ps = (List.range l.length).foldl (fun a i => IntKind.i64.wrap (a + IntKind.i64.wrap (ps.getD i 0 * of (l.getD i dfC)))) 0 := by unfold M.sumP; rw [hp.len]
  rw [e, h.1]
  exact ⟨rfl, h.2⟩
theorem valL_eq (h4 : l.length ≤ 4) (hp : RightP l den ps) {of : Cask → Int} {c : Int} (hof : ∀ i, i < l.length → 0 ≤ of (l.getD i dfC) ∧ of (l.getD i dfC) ≤ 1000) (hc : 0 ≤ c ∧ c ≤ 1000) :
    M.valL l ps of c = dot (fun i => ps.getD i 0 * (of (l.getD i dfC) - c)) l.length ∧ (M.valL l ps of c).natAbs ≤ l.length * 2000000000000000000 := by
  have h := fold_dot (f := fun a i => IntKind.i64.wrap (a + IntKind.i64.wrap (ps.getD i 0 * IntKind.i64.wrap (of (l.getD i dfC) - c)))) (y := fun i => ps.getD i 0 * (of (l.getD i dfC) - c)) (n := l.length)
    (fun a i hi => by have := hof i hi; rw [wrap_add_wrap, wrap_id (n := of (l.getD i dfC) - c) (by omega) (by omega)]) (fun i hi => mul_small (hp.part i hi) (by have := hof i hi; omega)) h4
  have e : M.valL l ps of c = (List.range l.length).foldl (fun a i => IntKind.i64.wrap (a + IntKind.i64.wrap (ps.getD i 0 * IntKind.i64.wrap (of (l.getD i dfC) - c)))) 0 := rfl
  rw [e, h.1]
  exact ⟨rfl, h.2⟩
theorem vol_bound (h4 : l.length ≤ 4) (hp : RightP l den ps) : M.sumP (fun _ => 1) l ps = dot (fun i => ps.getD i 0) l.length ∧ 0 ≤ M.sumP (fun _ => 1) l ps ∧ M.sumP (fun _ => 1) l ps ≤ 8000000000000000 := by
  have h := (sumP_eq h4 hp (of := fun _ => 1) fun i hi => by decide).1
  have e : dot (fun i => ps.getD i 0 * 1) l.length = dot (fun i => ps.getD i 0) l.length := dot_congr fun i _ => Int.mul_one _
  rw [h, e]
  refine ⟨rfl, ?_⟩
  have key : ∀ k, k ≤ l.length → 0 ≤ dot (fun i => ps.getD i 0) k ∧ dot (fun i => ps.getD i 0) k ≤ k * 2000000000000000 := by
    intro k
    induction k with
    | zero => intro _; exact ⟨Int.le_refl _, by show (0 : Int) ≤ _; simp⟩
    | succ k ih =>
      intro hk
      have := ih (by omega)
      have hq := hp.part k (by omega)
      have e : dot (fun i => ps.getD i 0) (k + 1) = dot (fun i => ps.getD i 0) k + ps.getD k 0 := rfl
      rw [e]
      omega
  have := key _ (Nat.le_refl _)
  omega
theorem kind_eq (h4 : l.length ≤ 4) (hp : RightP l den ps) {of : Cask → Int} {lo hi : Int} (hof : ∀ i, i < l.length → 0 ≤ of (l.getD i dfC) ∧ of (l.getD i dfC) ≤ 1000) (h0 : 0 ≤ lo ∧ lo ≤ 1000) (h1 : 0 ≤ hi ∧ hi ≤ 1000) :
    IntKind.i64.wrap (IntKind.i64.wrap (lo * M.sumP (fun _ => 1) l ps) - M.sumP of l ps) = 0 - M.valL l ps of lo ∧ IntKind.i64.wrap (M.sumP of l ps - IntKind.i64.wrap (hi * M.sumP (fun _ => 1) l ps)) = M.valL l ps of hi ∧
      IntKind.i64.wrap (0 - M.valL l ps of lo) = 0 - M.valL l ps of lo ∧ (M.valL l ps of lo).natAbs ≤ 8000000000000000000 ∧ (M.valL l ps of hi).natAbs ≤ 8000000000000000000 := by
  obtain ⟨v1, v2⟩ := valL_eq h4 hp hof h0
  obtain ⟨w1, w2⟩ := valL_eq h4 hp hof h1
  obtain ⟨s1, s2⟩ := sumP_eq h4 hp (of := of) fun i hi => by have := hof i hi; omega
  obtain ⟨u1, u2, u3⟩ := vol_bound h4 hp
  have d0 := dot_sub (fun i => ps.getD i 0) (fun i => of (l.getD i dfC)) lo l.length
  have d1 := dot_sub (fun i => ps.getD i 0) (fun i => of (l.getD i dfC)) hi l.length
  rw [← u1, ← s1, ← v1] at d0
  rw [← u1, ← s1, ← w1] at d1
  have m0 : 0 ≤ lo * M.sumP (fun _ => 1) l ps := Int.mul_nonneg h0.1 u2
  have m1 : lo * M.sumP (fun _ => 1) l ps ≤ 1000 * 8000000000000000 := Int.mul_le_mul h0.2 u3 u2 (by decide)
  have m2 : 0 ≤ hi * M.sumP (fun _ => 1) l ps := Int.mul_nonneg h1.1 u2
  have m3 : hi * M.sumP (fun _ => 1) l ps ≤ 1000 * 8000000000000000 := Int.mul_le_mul h1.2 u3 u2 (by decide)
  have b1 : (M.valL l ps of lo).natAbs ≤ 8000000000000000000 := by omega
  have b2 : (M.valL l ps of hi).natAbs ≤ 8000000000000000000 := by omega
  refine ⟨?_, ?_, wrap_id (by omega) (by omega), b1, b2⟩
  · rw [wrap_id (n := lo * M.sumP (fun _ => 1) l ps) (by omega) (by omega), wrap_id (by omega) (by omega)]
    omega
  · rw [wrap_id (n := hi * M.sumP (fun _ => 1) l ps) (by omega) (by omega), wrap_id (by omega) (by omega)]
    omega
end
end Go.Bl
end

section
set_option linter.unusedVariables false
set_option linter.unusedSimpArgs false
set_option maxRecDepth 100000
namespace Go.Bl
open Go.V Go.Proofs
namespace M
def badK (l : List Cask) (ps : List Int) (of : Cask → Int) (r : Rg) : Bool := decide (valL l ps of r.lo < 0) || decide (valL l ps of r.hi > 0)
def meetsR (l : List Cask) (s : Sample) (ps : List Int) : Bool := !(badK l ps (kOf 0) s.r0 || (badK l ps (kOf 1) s.r1 || (badK l ps (kOf 2) s.r2 || badK l ps (kOf 3) s.r3)))
end M
end Go.Bl
end

section
set_option linter.unusedVariables false
set_option linter.unusedSimpArgs false
set_option maxRecDepth 100000
namespace Go.Bl
open Go.V Go.Proofs
namespace M
def farK (l : List Cask) (ps : List Int) (of : Cask → Int) (r : Rg) (a : Int) : Int := mx (mx a (IntKind.i64.wrap (0 - valL l ps of r.lo))) (valL l ps of r.hi)
def farR (l : List Cask) (s : Sample) (ps : List Int) : Int := farK l ps (kOf 3) s.r3 (farK l ps (kOf 2) s.r2 (farK l ps (kOf 1) s.r1 (farK l ps (kOf 0) s.r0 0)))
def blendR (l : List Cask) (s : Sample) (den : Int) (ps : List Int) : Int × Int × Int := cond (openErr l s den ps != 0) (0, 0, openErr l s den ps) (cond (decide (away l ps s > 0)) (0, 0, 13) (told1 (sumP Cask.cost l ps) den, told2 (sumP Cask.cost l ps) den, 0))
end M
def resT (x : Int × Int × Int) : List Ar := [.agg [dI x.1, dI x.2.1], rI x.2.2]
def tr53 (l : List Cask) (s : Sample) (den : Int) (ps : List Int) : T (List Ar) :=
    T.need (Enc.Is eC (List.length l) (Enc.F eC l)) (T.need (Enc.Is eI (List.length ps) (Enc.F eI ps)) (T.need (∀ (c : Cask), c ∈ Enc.list eC (List.length l) (Enc.F eC l) → ByteArray.size (Cask.nm c) ≤ (1000000 : Nat)) (T.need (List.length (Enc.list eI (List.length ps) (Enc.F eI ps)) ≤ (1000 : Nat)) (T.br (M.openErr (Enc.list eC (List.length l) (Enc.F eC l)) s den (Enc.list eI (List.length ps) (Enc.F eI ps)) != (0 : Int)) (T.ret [Ar.agg [D.int IntKind.i64 (0 : Int), D.int IntKind.i64 (0 : Int)], Ar.c (D.int IntKind.i64 (M.openErr (Enc.list eC (List.length l) (Enc.F eC l)) s den (Enc.list eI (List.length ps) (Enc.F eI ps))))]) (T.need (Enc.Is eC (List.length l) (Enc.F eC (Enc.list eC (List.length l) (Enc.F eC l)))) (T.need (Enc.Is eI (List.length ps) (Enc.F eI (Enc.list eI (List.length ps) (Enc.F eI ps)))) (T.need (List.length (Enc.list eI (List.length ps) (Enc.F eI (Enc.list eI (List.length ps) (Enc.F eI ps)))) ≤ List.length (Enc.list eC (List.length l) (Enc.F eC (Enc.list eC (List.length l) (Enc.F eC l))))) (T.need (List.length (Enc.list eI (List.length ps) (Enc.F eI (Enc.list eI (List.length ps) (Enc.F eI ps)))) ≤ (1000 : Nat)) (T.br (decide (M.away (Enc.list eC (List.length l) (Enc.F eC (Enc.list eC (List.length l) (Enc.F eC l)))) (Enc.list eI (List.length ps) (Enc.F eI (Enc.list eI (List.length ps) (Enc.F eI ps)))) s > (0 : Int))) (T.ret [Ar.agg [D.int IntKind.i64 (0 : Int), D.int IntKind.i64 (0 : Int)], Ar.c (D.int IntKind.i64 (13 : Int))]) (T.need (Enc.Is eC (List.length l) (Enc.F eC (Enc.list eC (List.length l) (Enc.F eC l)))) (T.need (Enc.Is eI (List.length ps) (Enc.F eI (Enc.list eI (List.length ps) (Enc.F eI ps)))) (T.need (List.length ps ≤ List.length l) (T.need (List.length ps ≤ (1000 : Nat)) (T.need (den ≠ (0 : Int)) (T.need (Int.natAbs den < (9223372036854775808 : Nat)) (T.need (Int.natAbs (M.sumP Cask.cost (Enc.list eC (List.length l) (Enc.F eC (Enc.list eC (List.length l) (Enc.F eC l)))) (Enc.list eI (List.length ps) (Enc.F eI (Enc.list eI (List.length ps) (Enc.F eI ps))))) < (9223372036854775808 : Nat)) (T.ret [Ar.agg [D.int IntKind.i64 (M.told1 (M.sumP Cask.cost (Enc.list eC (List.length l) (Enc.F eC (Enc.list eC (List.length l) (Enc.F eC l)))) (Enc.list eI (List.length ps) (Enc.F eI (Enc.list eI (List.length ps) (Enc.F eI ps))))) den), D.int IntKind.i64 (M.told2 (M.sumP Cask.cost (Enc.list eC (List.length l) (Enc.F eC (Enc.list eC (List.length l) (Enc.F eC l)))) (Enc.list eI (List.length ps) (Enc.F eI (Enc.list eI (List.length ps) (Enc.F eI ps))))) den)], Ar.c (D.int IntKind.i64 (0 : Int))])))))))))))))))))
theorem t53 (q_l : Bool) (l : List Cask) (sv l0 h0 l1 h1 l2 h2 l3 h3 : Int) (den : Int) (q_ps : Bool) (ps : List Int) : runFnX Try.prog G0 (lookS [v108, v84, v68]) (fun _ => []) [] 1 20 3 53 Try.f53 [.c (.sl q_l l.length 7 (eC.F l)), .agg [dI sv, dI l0, dI h0, dI l1, dI h1, dI l2, dI h2, dI l3, dI h3], .agg [dI den, .sl q_ps ps.length 1 (eI.F ps)]] =
    tr53 l (⟨sv, ⟨l0, h0⟩, ⟨l1, h1⟩, ⟨l2, h2⟩, ⟨l3, h3⟩⟩ : Sample) den ps := by kernel_rfl
structure OpenR (l : List Cask) (s : Sample) (den : Int) (ps : List Int) : Prop where
  n4 : l.length ≤ 4
  right : ∀ i, i < l.length → RightC (l.getD i dfC)
  parts : RightP l den ps
  vol : M.sumP (fun _ => 1) l ps ≠ 0
  r0 : (0 ≤ s.r0.lo ∧ s.r0.lo ≤ 1000) ∧ (0 ≤ s.r0.hi ∧ s.r0.hi ≤ 1000)
  r1 : (0 ≤ s.r1.lo ∧ s.r1.lo ≤ 1000) ∧ (0 ≤ s.r1.hi ∧ s.r1.hi ≤ 1000)
  r2 : (0 ≤ s.r2.lo ∧ s.r2.lo ≤ 1000) ∧ (0 ≤ s.r2.hi ∧ s.r2.hi ≤ 1000)
  r3 : (0 ≤ s.r3.lo ∧ s.r3.lo ≤ 1000) ∧ (0 ≤ s.r3.hi ∧ s.r3.hi ≤ 1000)
theorem rg_right {r : Rg} (h : M.rgErr r = 0) : (0 ≤ r.lo ∧ r.lo ≤ 1000) ∧ (0 ≤ r.hi ∧ r.hi ≤ 1000) := by
  unfold M.rgErr at h
  have h1 := unl_zero (by decide) (first_nil _ h _ (List.mem_cons_self ..))
  rw [Bool.and_eq_true] at h1
  exact ⟨within_spec h1.1, within_spec h1.2⟩
theorem open_right {l : List Cask} {s : Sample} {den : Int} {ps : List Int} (h : (M.openErr l s den ps != 0) = false) : OpenR l s den ps := by
  have h : M.openErr l s den ps = 0 := by simpa using h
  unfold M.openErr at h
  obtain ⟨h1, h⟩ := cond_zero h
  obtain ⟨h2, h3⟩ := cond_zero h
  unfold M.taskErr at h1
  obtain ⟨_, c4, cr⟩ := casks_right (first_nil _ h1 _ (List.mem_cons_self ..))
  have hs := first_nil _ h1 _ (List.mem_cons_of_mem _ (List.mem_cons_self ..))
  have hp := parts_right cr h2
  have h3 := unl_zero (by decide) h3
  have h3 : M.sumP (fun _ => 1) l ps = IntKind.i64.wrap (den * s.vol) := by simpa using h3
  unfold M.checkSample at hs
  cases hw : M.within s.vol 1 10000
  · rw [hw] at hs
    have hs : (2 : Int) = 0 := hs
    exact absurd hs (by decide)
  rw [hw] at hs
  have hs : M.first [M.rgErr s.r0, M.rgErr s.r1, M.rgErr s.r2, M.rgErr s.r3] = 0 := hs
  have hz := first_nil _ hs
  have hv := within_spec hw
  have hd := hp.den
  have m0 : 1 * 1 ≤ den * s.vol := Int.mul_le_mul hd.1 hv.1 (by decide) (by omega)
  have m1 : den * s.vol ≤ 200000000000 * 10000 := Int.mul_le_mul hd.2 hv.2 (by omega) (by decide)
  rw [wrap_id (by omega) (by omega)] at h3
  exact ⟨c4, cr, hp, by omega, rg_right (hz _ (by simp)), rg_right (hz _ (by simp)), rg_right (hz _ (by simp)), rg_right (hz _ (by simp))⟩
theorem mx_le {a b c : Int} : M.mx a b ≤ c ↔ a ≤ c ∧ b ≤ c := by unfold M.mx; split <;> omega
theorem mx_b {a b : Int} {B : Nat} (h1 : a.natAbs ≤ B) (h2 : b.natAbs ≤ B) : (M.mx a b).natAbs ≤ B := by unfold M.mx; split <;> assumption
section
variable {l : List Cask} {s : Sample} {den : Int} {ps : List Int}
theorem far_away (h : OpenR l s den ps) : M.farR l s ps = M.away l ps s ∧ (M.away l ps s).natAbs ≤ 8000000000000000000 ∧ M.meetsR l s ps = !decide (M.away l ps s > 0) := by
  obtain ⟨a1, a2, a3, a4, a5⟩ := kind_eq h.n4 h.parts (of := M.kOf 0) (fun i hi => (h.right i hi).k0) h.r0.1 h.r0.2
  obtain ⟨b1, b2, b3, b4, b5⟩ := kind_eq h.n4 h.parts (of := M.kOf 1) (fun i hi => (h.right i hi).k1) h.r1.1 h.r1.2
  obtain ⟨c1, c2, c3, c4, c5⟩ := kind_eq h.n4 h.parts (of := M.kOf 2) (fun i hi => (h.right i hi).k2) h.r2.1 h.r2.2
  obtain ⟨d1, d2, d3, d4, d5⟩ := kind_eq h.n4 h.parts (of := M.kOf 3) (fun i hi => (h.right i hi).k3) h.r3.1 h.r3.2
  unfold M.farR M.farK M.away M.awayK M.meetsR M.badK
  rw [a1, a2, a3, b1, b2, b3, c1, c2, c3, d1, d2, d3]
  refine ⟨rfl, ?_, ?_⟩
  · repeat' apply mx_b
    all_goals omega
  · generalize M.valL l ps (M.kOf 0) s.r0.lo = p0 at *
    generalize M.valL l ps (M.kOf 0) s.r0.hi = q0 at *
    generalize M.valL l ps (M.kOf 1) s.r1.lo = p1 at *
    generalize M.valL l ps (M.kOf 1) s.r1.hi = q1 at *
    generalize M.valL l ps (M.kOf 2) s.r2.lo = p2 at *
    generalize M.valL l ps (M.kOf 2) s.r2.hi = q2 at *
    generalize M.valL l ps (M.kOf 3) s.r3.lo = p3 at *
    generalize M.valL l ps (M.kOf 3) s.r3.hi = q3 at *
    rw [Bool.eq_iff_iff]
    simp only [Bool.not_eq_true', Bool.or_eq_false_iff, decide_eq_false_iff_not, gt_iff_lt, Int.not_lt, mx_le]
    constructor
    · rintro ⟨⟨x1, x2⟩, ⟨x3, x4⟩, ⟨x5, x6⟩, x7, x8⟩
      refine ⟨⟨⟨⟨⟨⟨⟨⟨?_, ?_⟩, ?_⟩, ?_⟩, ?_⟩, ?_⟩, ?_⟩, ?_⟩, ?_⟩ <;> omega
    · rintro ⟨⟨⟨⟨⟨⟨⟨⟨x0, x1⟩, x2⟩, x3⟩, x4⟩, x5⟩, x6⟩, x7⟩, x8⟩
      refine ⟨⟨?_, ?_⟩, ⟨?_, ?_⟩, ⟨?_, ?_⟩, ?_, ?_⟩ <;> omega
theorem cost_ok (h : OpenR l s den ps) : i64ok (M.sumP Cask.cost l ps) := by
  have := (sumP_eq h.n4 h.parts (of := Cask.cost) fun i hi => by have := (h.right i hi).cost; omega).2
  have := h.n4
  unfold i64ok; omega
end
end Go.Bl
end

section
set_option linter.unusedVariables false
set_option linter.unusedSimpArgs false
set_option maxRecDepth 100000
namespace Go.Bl
open Go.V Go.Proofs
section
variable {l : List Cask} {s : Sample} {den : Int} {ps : List Int}
theorem blendR_err (h : (M.openErr l s den ps != 0) = true) : M.blendR l s den ps = (0, 0, M.openErr l s den ps) := by unfold M.blendR; rw [h]; rfl
theorem blendR_ok (h : (M.openErr l s den ps != 0) = false) : M.blendR l s den ps = cond (decide (M.away l ps s > 0)) (0, 0, 13) (M.told1 (M.sumP Cask.cost l ps) den, M.told2 (M.sumP Cask.cost l ps) den, 0) := by unfold M.blendR; rw [h]; rfl
theorem den_ok (h : OpenR l s den ps) : den ≠ 0 ∧ i64ok den := by
  have := h.parts.den
  unfold i64ok; omega
end
theorem w53 (l : List Cask) (s : Sample) (den : Int) (ps : List Int) (hn : ∀ c, c ∈ l → c.nm.size ≤ 1000000) (hp : ps.length ≤ 1000) : (tr53 l s den ps).wp (fun rs => rsEqv rs (resT (M.blendR l s den ps))) := by
  unfold tr53
  simp only [Enc.list_F]
  refine ⟨Enc.is_F _ _ _, Enc.is_F _ _ _, hn, hp, wp_br (fun hb => ?_) (fun hb => ?_)⟩
  · rw [blendR_err hb]; exact rsEqv_refl _
  · have ho := open_right hb
    have hl := ho.parts.len
    rw [blendR_ok hb]
    refine ⟨Enc.is_F _ _ _, Enc.is_F _ _ _, by omega, hp, wp_br (fun hc => ?_) (fun hc => ?_)⟩
    · rw [hc]; exact rsEqv_refl _
    · rw [hc]
      exact ⟨Enc.is_F _ _ _, Enc.is_F _ _ _, by omega, hp, (den_ok ho).1, (den_ok ho).2, cost_ok ho, rsEqv_refl _⟩
def dom53 : DomF
  | [.c (.sl _ n_l st_l F_l), .agg [.int .i64 sv, .int .i64 l0, .int .i64 h0, .int .i64 l1, .int .i64 h1, .int .i64 l2, .int .i64 h2, .int .i64 l3, .int .i64 h3], .agg [.int .i64 den, .sl _ n_ps st_ps F_ps]] => (match Nat.beq st_l 7 && Nat.beq st_ps 1 with
    | true => some ([eC.Is n_l F_l, eI.Is n_ps F_ps, ∀ c, c ∈ (eC.list n_l F_l) → c.nm.size ≤ 1000000, (eI.list n_ps F_ps).length ≤ 1000], resT (M.blendR (eC.list n_l F_l) (⟨sv, ⟨l0, h0⟩, ⟨l1, h1⟩, ⟨l2, h2⟩, ⟨l3, h3⟩⟩ : Sample) den (eI.list n_ps F_ps)))
    | _ => none)
  | _ => none
def v53 : Nat × Sm := (53, fokSm dom53)
theorem C53 : FOK Try.prog G0 gw 53 dom53 := by
  intro ags p r hd hp κ w xs hw hl hG hx
  unfold dom53 at hd
  split at hd
  · rename_i q_l n_l st_l F_l sv l0 h0 l1 h1 l2 h2 l3 h3 den q_ps n_ps st_ps F_ps
    split at hd
    · rename_i hst
      simp only [Bool.and_eq_true] at hst
      obtain ⟨g1, g2⟩ := hst
      have g1 := Nat.eq_of_beq_eq_true g1
      have g2 := Nat.eq_of_beq_eq_true g2
      subst g1 g2
      simp only [Option.some.injEq, Prod.mk.injEq] at hd
      obtain ⟨rfl, rfl⟩ := hd
      obtain ⟨hI_l, hI_ps, hp⟩ := hp
      have heq : agsEqv [.c (.sl q_l n_l 7 F_l), .agg [.int .i64 sv, .int .i64 l0, .int .i64 h0, .int .i64 l1, .int .i64 h1, .int .i64 l2, .int .i64 h2, .int .i64 l3, .int .i64 h3], .agg [.int .i64 den, .sl q_ps n_ps 1 F_ps]] [.c (.sl q_l (eC.list n_l F_l).length 7 (eC.F (eC.list n_l F_l))), .agg [.int .i64 sv, .int .i64 l0, .int .i64 h0, .int .i64 l1, .int .i64 h1, .int .i64 l2, .int .i64 h2, .int .i64 l3, .int .i64 h3], .agg [.int .i64 den, .sl q_ps (eI.list n_ps F_ps).length 1 (eI.F (eI.list n_ps F_ps))]] := ⟨eC.to id hI_l, Ag.eqv_refl _, ⟨rfl, eI.to id hI_ps, trivial⟩, trivial⟩
      have len_l : (eC.list n_l F_l).length = n_l := eC.list_len
      have len_ps : (eI.list n_ps F_ps).length = n_ps := eI.list_len
      generalize eC.list n_l F_l = l at *
      generalize eI.list n_ps F_ps = ps at *
      subst len_l len_ps
      exact fokX_fin mixed gw_stable (sl := [v108, v84, v68]) ⟨S108, S84, S68, trivial⟩ Try.func53 hw hl hG hx heq rfl (t53 q_l l sv l0 h0 l1 h1 l2 h2 l3 h3 den q_ps ps) (w53 l _ den ps hp.1 hp.2.1)
    · cases hd
  · cases hd
theorem S53 : SumOK Try.prog G0 gw 53 (fokSm dom53) := fok_sum Try.func53 rfl C53
end Go.Bl
end

section
set_option linter.unusedVariables false
set_option linter.unusedSimpArgs false
set_option maxRecDepth 100000
namespace Go.Bl
open Go.V Go.Proofs
end Go.Bl
end

section
set_option linter.unusedVariables false
set_option linter.unusedSimpArgs false
set_option maxRecDepth 100000
namespace Go.Bl
open Go.V Go.Proofs
def dom129 : DomF
  | [.c (.int .i64 n)] => some ([], [rB (M.within n 0 100000000000000)])
  | _ => none
def v129 : Nat × Sm := (129, fokSm dom129)
theorem t129 (n : Int) : runFnX Try.prog G0 (lookS [v102]) (fun _ => []) [] 1 40 3 129 Try.f129 [.c (dI n)] =
    T.ret [Ar.c (D.bool (M.within n (0 : Int) (100000000000000 : Int)))] := by kernel_rfl
theorem C129 : FOK Try.prog G0 gw 129 dom129 := by
  intro ags p r hd hp κ w xs hw hl hG hx
  unfold dom129 at hd
  split at hd
  · rename_i n
    simp only [Option.some.injEq, Prod.mk.injEq] at hd
    obtain ⟨rfl, rfl⟩ := hd
    refine fokX_fin mixed gw_stable (sl := [v102]) ⟨S102, trivial⟩ Try.func129 hw hl hG hx (agsEqv_refl _) rfl (t129 n) ?_
    exact rsEqv_refl _
  · cases hd
theorem S129 : SumOK Try.prog G0 gw 129 (fokSm dom129) := fok_sum Try.func129 rfl C129
def v103w : Nat × Sm := (103, fokSm (dom103 129 M.isWeight))
theorem t103w (q : Bool) (l : List Int) : runFnX Try.prog G0 (lookS [v129]) (fun _ => [(2, [.slot 8 (.int .i64)], none)]) [127, 146, 128] 1 40 6 103 Try.f103 [.c (.sl q l.length 1 (eI.F l)), .c (.op (.func (.func 129) #[] #[]))] =
    T.loop (Int × PUnit) ((0 : Int), PUnit.unit) fun (x : Int × PUnit) => T.br (decide (x.1 < (Nat.cast (R := Int) l.length))) (T.need ((0 : Int) ≤ x.1) (T.need (x.1 < (Nat.cast (R := Int) l.length)) (T.br (!M.within (List.getD l (Int.toNat (x.1)) (0 : Int)) (0 : Int) (100000000000000 : Int)) (T.ret (Sum.inr [Ar.c (D.bool !decide (x.1 ≥ (0 : Int)))])) (T.ret (Sum.inl (IntKind.i64.wrap (x.1 + (1 : Int)), PUnit.unit)))))) (T.ret (Sum.inr [Ar.c (D.bool !decide ((-1 : Int) ≥ (0 : Int)))])) := by kernel_rfl
theorem C103w : FOK Try.prog G0 gw 103 (dom103 129 M.isWeight) := by
  intro ags p r hd hp κ w xs hw hl hG hx
  unfold dom103 at hd
  split at hd
  · rename_i q len st F g a b
    split at hd
    · rename_i hst ha hb
      simp only [Bool.and_eq_true] at hst
      have h1 := Nat.eq_of_beq_eq_true hst.1
      have h2 := Nat.eq_of_beq_eq_true hst.2
      have ea : a = #[] := by apply Array.ext'; simpa using ha
      have eb : b = #[] := by apply Array.ext'; simpa using hb
      subst h1 h2 ea eb
      simp only [Option.some.injEq, Prod.mk.injEq] at hd
      obtain ⟨rfl, rfl⟩ := hd
      obtain ⟨hIs, hn, _⟩ := hp
      obtain ⟨l, hll⟩ : ∃ l, l = eI.list len F := ⟨_, rfl⟩
      have hlen : len = l.length := by rw [hll, Enc.list_len]
      have heq : agsEqv [.c (.sl q len 1 F), .c (.op (.func (.func 129) #[] #[]))] [.c (.sl q l.length 1 (eI.F l)), .c (.op (.func (.func 129) #[] #[]))] := by
        refine ⟨?_, Ag.eqv_refl _, trivial⟩
        rw [hll]; exact eI.to id hIs
      rw [← hll]
      refine fokX_fin mixed gw_stable (sl := [v129]) ⟨S129, trivial⟩ Try.func103 hw hl hG hx heq rfl (t103w q l) ?_
      clear heq hx hIs hll hl hG
      subst hlen
      refine ⟨fun x => 0 ≤ x.1 ∧ x.1 ≤ l.length ∧ M.allB M.isWeight l = M.allB M.isWeight (l.drop x.1.toNat), fun x => l.length - x.1.toNat, ⟨Int.le_refl _, by simp, by simp⟩, ?_⟩
      rintro ⟨k, u⟩ ⟨g1, g2, g3⟩
      simp only at g1 g2 g3
      refine ⟨fun hlt => ?_, fun hge => ?_⟩
      · have hlt : k < l.length := by simpa using hlt
        have hk : k.toNat < l.length := by omega
        have hdrop : M.allB M.isWeight l = cond (M.within (l.getD k.toNat 0) 0 100000000000000) (M.allB M.isWeight (l.drop (k.toNat + 1))) false := by
          rw [g3, getD_drop (d := 0) hk]; rfl
        refine ⟨g1, hlt, fun hb => ?_, fun hb => ?_⟩
        · have hb : M.within (l.getD k.toNat 0) 0 100000000000000 = false := by simpa using hb
          rw [hdrop, hb]
          have hk0 : (!decide (k ≥ 0)) = false := by simp [g1]
          show rsEqv [Ar.c (D.bool (!decide (k ≥ 0)))] _
          rw [hk0]
          exact rsEqv_refl _
        · have hb : M.within (l.getD k.toNat 0) 0 100000000000000 = true := by simpa using hb
          show _ ∧ _
          have e2 : IntKind.i64.wrap (k + 1) = k + 1 := wrap_id (by omega) (by omega)
          simp only [e2]
          refine ⟨⟨by omega, by omega, ?_⟩, by omega⟩
          rw [hdrop, hb, show (k + 1).toNat = k.toNat + 1 by omega]
          rfl
      · have hge : ¬ k < l.length := by simpa using hge
        rw [g3, List.drop_of_length_le (l := l) (by omega)]
        exact rsEqv_refl _
    · cases hd
  · cases hd
theorem S103w : SumOK Try.prog G0 gw 103 (fokSm (dom103 129 M.isWeight)) := fok_sum Try.func103 rfl C103w
end Go.Bl
end

section
set_option linter.unusedVariables false
set_option linter.unusedSimpArgs false
namespace Go.Lp
def smI {α : Type} (g : α → Int) : List α → Int
  | [] => 0
  | a :: l => g a + smI g l
section
variable {α β γ : Type}
theorem smI_cast {g : α → Int} : ∀ {l : List α}, ((smI g l : Int) : Rat) = sm (fun a => (g a : Rat)) l := by
  intro l
  induction l with
  | nil => rfl
  | cons a l ih => simp only [smI, sm]; rw [Rat.intCast_add, ih]
theorem smI_congr {g h : α → Int} : ∀ {l : List α}, (∀ a, a ∈ l → g a = h a) → smI g l = smI h l := by
  intro l
  induction l with
  | nil => intro _; rfl
  | cons a l ih => intro e; simp only [smI]; rw [e a (List.mem_cons_self ..), ih fun b hb => e b (List.mem_cons_of_mem _ hb)]
theorem smI_append {g : α → Int} : ∀ {l k : List α}, smI g (l ++ k) = smI g l + smI g k := by
  intro l
  induction l with
  | nil => intro k; simp only [List.nil_append, smI]; omega
  | cons a l ih => intro k; simp only [List.cons_append, smI]; rw [ih]; omega
theorem smI_add {g h : α → Int} : ∀ {l : List α}, smI (fun a => g a + h a) l = smI g l + smI h l := by
  intro l
  induction l with
  | nil => simp only [smI]; omega
  | cons a l ih => simp only [smI]; rw [ih]; omega
theorem smI_neg {g : α → Int} : ∀ {l : List α}, smI (fun a => - g a) l = - smI g l := by
  intro l
  induction l with
  | nil => simp only [smI]; omega
  | cons a l ih => simp only [smI]; rw [ih]; omega
theorem smI_smul {k : Int} {g : α → Int} : ∀ {l : List α}, smI (fun a => k * g a) l = k * smI g l := by
  intro l
  induction l with
  | nil => simp only [smI]; omega
  | cons a l ih => simp only [smI]; rw [ih, Int.mul_add]
theorem smI_zero : ∀ {l : List α}, smI (fun _ => (0 : Int)) l = 0 := by
  intro l
  induction l with
  | nil => rfl
  | cons a l ih => simp only [smI]; rw [ih]; omega
theorem smI_comm {F : α → β → Int} : ∀ {l : List α} {k : List β}, smI (fun a => smI (F a) k) l = smI (fun b => smI (fun a => F a b) l) k := by
  intro l
  induction l with
  | nil => intro k; simp only [smI]; rw [smI_zero]
  | cons a l ih => intro k; simp only [smI]; rw [ih, smI_add]
theorem smI_le {g h : α → Int} : ∀ {l : List α}, (∀ a, a ∈ l → g a ≤ h a) → smI g l ≤ smI h l := by
  intro l
  induction l with
  | nil => intro _; exact Int.le_refl _
  | cons a l ih =>
    intro e
    have h1 := e a (List.mem_cons_self ..)
    have h2 := ih fun b hb => e b (List.mem_cons_of_mem _ hb)
    simp only [smI]
    omega
theorem smI_map {g : β → Int} {h : α → β} : ∀ {l : List α}, smI g (l.map h) = smI (fun a => g (h a)) l := by
  intro l
  induction l with
  | nil => rfl
  | cons a l ih => simp only [List.map_cons, smI]; rw [ih]
theorem sm_map {g : β → Rat} {h : α → β} : ∀ {l : List α}, sm g (l.map h) = sm (fun a => g (h a)) l := by
  intro l
  induction l with
  | nil => rfl
  | cons a l ih => simp only [List.map_cons, sm]; rw [ih]
theorem cramer_col [DecidableEq β] {f : α → β → Rat} {M : List α} {cols : List β} (hl : M.length = cols.length) (hnd : cols.Nodup) {x : β → Rat} {r : α → Rat}
    (h : ∀ a, a ∈ M → sm (fun c => f a c * x c) cols = r a) {k : β} (hk : k ∈ cols) : D (fun a c => if c = k then r a else f a c) M cols = x k * D f M cols := by
  rw [D_turn hl, D_turn (f := f) hl]
  obtain ⟨P, Q, rfl⟩ := List.append_of_mem hk
  have hn := hnd
  rw [List.nodup_append] at hn
  obtain ⟨_, hq, hpq⟩ := hn
  have hkQ := (List.nodup_cons.1 hq).1
  have hkP : k ∉ P := fun hp => hpq k hp k (List.mem_cons_self ..) rfl
  obtain ⟨g, hg⟩ : ∃ g : Option β → α → Rat, g = fun o a => match o with | some b => f a b | none => r a := ⟨_, rfl⟩
  have key := Df_repl (f := g) (cols := M) (P := P.map some) (Q := Q.map some) (j := some k) (v := none) (y := fun o => match o with | some b => x b | none => 0) (fun a ha => by
    have e : P.map some ++ some k :: Q.map some = (P ++ k :: Q).map some := by simp
    rw [e, sm_map]
    subst hg
    show r a = _
    rw [← h a ha]
    exact sm_congr fun c _ => by show f a c * x c = x c * f a c; grind)
  rw [D_map, List.map_append, List.map_cons]
  rw [D_map (rows := P ++ k :: Q), List.map_append, List.map_cons]
  rw [D_map, List.map_append, List.map_cons] at key
  rw [D_map (rows := P.map some ++ some k :: Q.map some), List.map_append, List.map_cons] at key
  simp only [List.map_map] at key
  subst hg
  rw [List.map_congr_left (l := P) (g := fun b a => f a b) (fun b hb => by
    funext a
    have : b ≠ k := fun e => hkP (by rw [← e]; exact hb)
    rw [if_neg this])]
  rw [List.map_congr_left (l := Q) (g := fun b a => f a b) (fun b hb => by
    funext a
    have : b ≠ k := fun e => hkQ (by rw [← e]; exact hb)
    rw [if_neg this])]
  simp only [if_true]
  exact key
theorem cramer_colI [DecidableEq β] {f : α → β → Int} {M : List α} {cols : List β} (hl : M.length = cols.length) (hnd : cols.Nodup) {x : β → Rat} {r : α → Int}
    (h : ∀ a, a ∈ M → sm (fun c => (f a c : Rat) * x c) cols = (r a : Rat)) {k : β} (hk : k ∈ cols) : ((DI (fun a c => if c = k then r a else f a c) M cols : Int) : Rat) = x k * ((DI f M cols : Int) : Rat) := by
  rw [D_cast, D_cast]
  have := cramer_col (f := fun a c => (f a c : Rat)) hl hnd (r := fun a => (r a : Rat)) h hk
  rw [← this]
  congr 1
  funext a c
  split <;> rfl
def altS (g : β → List β → Nat) : List β → Nat
  | [] => 0
  | c :: cs => g c cs + altS (fun d ds => g d (c :: ds)) cs
theorem altI_le : ∀ {l : List β} {f : β → List β → Int} {g : β → List β → Nat}, (∀ c cs, (c :: cs).Perm l → (f c cs).natAbs ≤ g c cs) → (altI f l).natAbs ≤ altS g l := by
  intro l
  induction l with
  | nil => intro f g _; simp [altI]
  | cons c cs ih =>
    intro f g h
    simp only [altI, altS]
    have h1 := h c cs (List.Perm.refl _)
    have h2 := ih (f := fun d ds => f d (c :: ds)) (g := fun d ds => g d (c :: ds)) (fun d ds hd => h d (c :: ds) ((List.Perm.swap c d ds).trans (hd.cons c)))
    omega
def bnd (K0 K : β → Nat) (cols : List β) : Nat := altS (fun c cs => K0 c * (fact cs.length * pK K cs)) cols
theorem DI_bnd {f : α → β → Int} {K0 K : β → Nat} {r : α} {rs : List α} {cols : List β} (h : (r :: rs).length = cols.length) (h0 : ∀ c, c ∈ cols → (f r c).natAbs ≤ K0 c)
    (hb : ∀ q, q ∈ rs → ∀ c, c ∈ cols → (f q c).natAbs ≤ K c) : (DI f (r :: rs) cols).natAbs ≤ bnd K0 K cols := by
  simp only [DI]
  refine altI_le fun c cs hp => ?_
  have hlen := hp.length_eq
  simp only [List.length_cons] at hlen h
  rw [Int.natAbs_mul]
  exact Nat.mul_le_mul (h0 c (hp.subset (List.mem_cons_self ..))) (DI_bound (by omega) fun q hq d hd => hb q hq d (hp.subset (List.mem_cons_of_mem _ hd)))
end
end Go.Lp
end

section
set_option linter.unusedVariables false
set_option linter.unusedSimpArgs false
set_option maxRecDepth 100000
namespace Go.Bl
open Go.V Go.Proofs Go.Lp
theorem DI_idx {n : Nat} {m : List (List Int)} (hl : m.length = n) : DI en m (List.range n) = DI (fun i c => en (m.getD i []) c) (List.range n) (List.range n) := by
  conv => lhs; rw [← range_getD (l := m) (d := []), hl, DI_map]
theorem en_set {r : List Int} {k c : Nat} {v : Int} (hk : k < r.length) : en (r.set k v) c = if c = k then v else en r c := by
  unfold en
  rw [List.getD_eq_getElem?_getD, List.getElem?_set]
  by_cases h : k = c
  · subst h; simp [hk]
  · rw [if_neg h, if_neg (fun e => h e.symm), ← List.getD_eq_getElem?_getD]
theorem getD_mem {α : Type} {l : List α} {d : α} {i : Nat} (h : i < l.length) : l.getD i d ∈ l := by
  rw [List.getD_eq_getElem?_getD, List.getElem?_eq_getElem h]; exact List.getElem_mem h
theorem map_getD {α : Type} {f : Nat → α} {n i : Nat} {d : α} (h : i < n) : ((List.range n).map f).getD i d = f i := by
  rw [List.getD_eq_getElem?_getD, List.getElem?_map, List.getElem?_range h]; rfl
theorem setCol_DI {n k : Nat} {m : List (List Int)} {r : List Int} (hl : m.length = n) (hrow : ∀ x, x ∈ m → x.length = n) (hk : k < n) :
    DI en (M.setCol m k r) (List.range n) = DI (fun i c => if c = k then r.getD i 0 else en (m.getD i []) c) (List.range n) (List.range n) := by
  unfold M.setCol
  rw [hl, DI_map]
  refine DI_congr fun i hi c hc => ?_
  have hi := List.mem_range.1 hi
  exact en_set (by rw [hrow _ (getD_mem (by omega))]; exact hk)
theorem setCol_len {m : List (List Int)} {k : Nat} {r : List Int} : (M.setCol m k r).length = m.length := by simp [M.setCol]
theorem small_fact : ∀ n, n ≤ 5 → ∀ k, k < 5 → fact n * pK (fun c => if c = k then 10000 else 1000) (List.range n) < 9223372036854775808 := by decide +kernel
theorem small_fact0 : ∀ n, n ≤ 5 → fact n * pK (fun _ => 1000) (List.range n) < 9223372036854775808 := by decide +kernel
structure Sq (n : Nat) (m : List (List Int)) : Prop where
  n5 : n ≤ 5
  len : m.length = n
  row : ∀ r, r ∈ m → r.length = n
  ent : ∀ r, r ∈ m → ∀ c, (en r c).natAbs ≤ 1000
theorem Sq.turned {n : Nat} {m : List (List Int)} (h : Sq n m) : Sq n (M.turned m) := by
  refine ⟨h.n5, turned_len.1.trans h.len, fun r hr => (turned_len.2 r hr).trans h.len, fun r hr c => getD_small (fun x hx => ?_) c⟩
  unfold M.turned at hr
  obtain ⟨k, _, rfl⟩ := List.mem_map.1 hr
  obtain ⟨i, hi, rfl⟩ := List.mem_map.1 hx
  exact h.ent _ (getD_mem (List.mem_range.1 hi)) k
theorem Sq.det {n : Nat} {m : List (List Int)} (h : Sq n m) : M.det m = DI en m (List.range n) := det_small h.n5 h.len h.row h.ent
theorem Sq.det_b {n : Nat} {m : List (List Int)} (h : Sq n m) : (DI en m (List.range n)).natAbs < 9223372036854775808 := by
  refine Nat.lt_of_le_of_lt (DI_bound (K := fun _ => 1000) (by simp [h.len]) fun r hr c _ => h.ent r hr c) ?_
  rw [List.length_range]; exact small_fact0 n h.n5
theorem Sq.set {n k : Nat} {m : List (List Int)} {r : List Int} (h : Sq n m) (hr : ∀ i, (r.getD i 0).natAbs ≤ 10000) (hk : k < n) :
    M.det (M.setCol m k r) = DI en (M.setCol m k r) (List.range n) ∧ (DI en (M.setCol m k r) (List.range n)).natAbs < 9223372036854775808 := by
  have hK := small_fact n h.n5 k (by have := h.n5; omega)
  have hrow : ∀ x, x ∈ M.setCol m k r → x.length = n := by
    intro x hx
    unfold M.setCol at hx
    obtain ⟨i, hi, rfl⟩ := List.mem_map.1 hx
    rw [List.length_set]
    exact h.row _ (getD_mem (List.mem_range.1 hi))
  have hent : ∀ x, x ∈ M.setCol m k r → ∀ c, (en x c).natAbs ≤ (if c = k then 10000 else 1000) := by
    intro x hx c
    unfold M.setCol at hx
    obtain ⟨i, hi, rfl⟩ := List.mem_map.1 hx
    have hm := getD_mem (d := ([] : List Int)) (List.mem_range.1 hi)
    rw [en_set (by rw [h.row _ hm]; exact hk)]
    split
    · exact hr i
    · exact h.ent _ hm c
  constructor
  · exact det_eq (K := fun c => if c = k then 10000 else 1000) h.n5 (fun c => by split <;> decide) (by rw [setCol_len]; exact h.len) hrow (fun x hx c _ => hent x hx c) hK
  · refine Nat.lt_of_le_of_lt (DI_bound (K := fun c => if c = k then 10000 else 1000) (by simp [setCol_len, h.len]) fun x hx c _ => hent x hx c) ?_
    rw [List.length_range]; exact hK
theorem neg_ok {x : Int} (h : x.natAbs < 9223372036854775808) : M.neg x = - x := by
  unfold M.neg
  rw [wrap_id (by omega) (by omega)]; omega
theorem solve_exact {n : Nat} {m : List (List Int)} {r : List Int} (h : Sq n m) (hr : ∀ i, (r.getD i 0).natAbs ≤ 10000) (hd : DI en m (List.range n) ≠ 0) :
    M.den m r = ((DI en m (List.range n)).natAbs : Int) ∧ (M.sol m r).length = n ∧ ∀ k, k < n → (M.sol m r).getD k 0 = if DI en m (List.range n) < 0 then - DI en (M.setCol m k r) (List.range n) else DI en (M.setCol m k r) (List.range n) := by
  have hdet := h.det
  have hb := h.det_b
  have hne : (M.det m == 0) = false := by rw [hdet]; simpa using hd
  have hsol : M.solve m r = ((List.range m.length).map fun k => cond (decide (M.det m < 0)) (M.neg (M.det (M.setCol m k r))) (M.det (M.setCol m k r)), if M.neg (M.det m) > M.det m then M.neg (M.det m) else M.det m) := by
    unfold M.solve; rw [hne]; rfl
  refine ⟨?_, ?_, fun k hk => ?_⟩
  · unfold M.den
    rw [hsol]
    show (if M.neg (M.det m) > M.det m then M.neg (M.det m) else M.det m) = _
    rw [hdet, neg_ok hb]
    split <;> omega
  · unfold M.sol; rw [hsol]; simp [h.len]
  · unfold M.sol
    rw [hsol]
    obtain ⟨e1, e2⟩ := h.set hr hk
    show ((List.range m.length).map _).getD k 0 = _
    rw [map_getD (by rw [h.len]; exact hk), hdet, e1, neg_ok e2]
    by_cases hs : DI en m (List.range n) < 0
    · rw [if_pos hs, decide_eq_true hs]; rfl
    · rw [if_neg hs, decide_eq_false hs]; rfl
theorem solve_den {n : Nat} {m : List (List Int)} {r : List Int} (h : Sq n m) (hd : DI en m (List.range n) = 0) : M.den m r = 0 := by
  unfold M.den M.solve
  rw [h.det, hd]; rfl
theorem sol_spec {n : Nat} {m : List (List Int)} {r : List Int} (h : Sq n m) (hr : ∀ i, (r.getD i 0).natAbs ≤ 10000) (hd : DI en m (List.range n) ≠ 0) {x : Nat → Rat}
    (hx : ∀ i, i < n → sm (fun c => ((en (m.getD i []) c : Int) : Rat) * x c) (List.range n) = ((r.getD i 0 : Int) : Rat)) : ∀ k, k < n → (((M.sol m r).getD k 0 : Int) : Rat) = x k * ((M.den m r : Int) : Rat) := by
  intro k hk
  obtain ⟨e1, _, e3⟩ := solve_exact h hr hd
  rw [e1, e3 k hk, setCol_DI h.len h.row hk]
  have key := cramer_colI (f := fun i c => en (m.getD i []) c) (M := List.range n) (cols := List.range n) rfl List.nodup_range (r := fun i => r.getD i 0) (x := x) (fun i hi => hx i (List.mem_range.1 hi)) (List.mem_range.2 hk)
  rw [← DI_idx h.len] at key
  by_cases hs : DI en m (List.range n) < 0
  · rw [if_pos hs, Rat.intCast_neg, key, show ((DI en m (List.range n)).natAbs : Int) = - DI en m (List.range n) by omega, Rat.intCast_neg]
    grind
  · rw [if_neg hs, key, show ((DI en m (List.range n)).natAbs : Int) = DI en m (List.range n) by omega]
theorem sol_ex {n : Nat} {m : List (List Int)} (r : List Int) (hl : m.length = n) (hd : DI en m (List.range n) ≠ 0) : ∃ x : Nat → Rat, ∀ i, i < n → sm (fun c => ((en (m.getD i []) c : Int) : Rat) * x c) (List.range n) = ((r.getD i 0 : Int) : Rat) := by
  rw [DI_idx hl] at hd
  obtain ⟨x, hx⟩ := corner_ex (f := fun i c => ((en (m.getD i []) c : Int) : Rat)) (M := List.range n) (cols := List.range n) rfl (D_ne.2 hd) (fun i => ((r.getD i 0 : Int) : Rat))
  exact ⟨x, fun i hi => hx i (List.mem_range.2 hi)⟩
theorem den_pos {n : Nat} {m : List (List Int)} {r : List Int} (h : Sq n m) (hr : ∀ i, (r.getD i 0).natAbs ≤ 10000) (hd : DI en m (List.range n) ≠ 0) : 0 < M.den m r := by
  rw [(solve_exact h hr hd).1]; omega
def dl (n : Nat) (a b : List Int) : Int := smI (fun c => en a c * en b c) (List.range n)
theorem sol_rows {n : Nat} {m : List (List Int)} {r : List Int} (h : Sq n m) (hr : ∀ i, (r.getD i 0).natAbs ≤ 10000) (hd : DI en m (List.range n) ≠ 0) : ∀ i, i < n → dl n (m.getD i []) (M.sol m r) = r.getD i 0 * M.den m r := by
  intro i hi
  obtain ⟨x, hx⟩ := sol_ex r h.len hd
  have hs := sol_spec h hr hd hx
  apply Rat.intCast_inj.1
  unfold dl
  rw [smI_cast, sm_congr (h := fun c => ((M.den m r : Int) : Rat) * (((en (m.getD i []) c : Int) : Rat) * x c)) (fun c hc => by
    have := hs c (List.mem_range.1 hc)
    unfold en at this ⊢
    rw [Rat.intCast_mul, this]; grind), sm_smul, hx i hi, Rat.intCast_mul]
  grind
theorem dl_cons (n : Nat) (a b : Int) (p q : List Int) : dl (n + 1) (a :: p) (b :: q) = a * b + dl n p q := by
  unfold dl
  rw [List.range_succ_eq_map]
  simp only [smI]
  rw [smI_map]
  rfl
theorem dot_exact : ∀ (p q : List Int) (acc : Int) (B : Nat), p.length = q.length → (∀ k, k < p.length → (en p k * en q k).natAbs ≤ B) → acc.natAbs + p.length * B < 9223372036854775808 → M.dot p q acc = acc + dl p.length p q := by
  intro p
  induction p with
  | nil => intro q acc B _ _ _; cases q <;> simp [M.dot, dl, smI]
  | cons a p ih =>
    intro q acc B hl hb hs
    cases q with
    | nil => simp at hl
    | cons b q =>
      have h0 : (a * b).natAbs ≤ B := hb 0 (by simp)
      have hl' : p.length = q.length := by simpa using hl
      have hs' : acc.natAbs + (p.length * B + B) < 9223372036854775808 := by rw [List.length_cons, Nat.succ_mul] at hs; exact hs
      have hw : IntKind.i64.wrap (acc + IntKind.i64.wrap (a * b)) = acc + a * b := by
        rw [wrap_add_wrap]
        exact wrap_id (by omega) (by omega)
      show M.dot p q (IntKind.i64.wrap (acc + IntKind.i64.wrap (a * b))) = _
      rw [hw, ih q (acc + a * b) B hl' (fun k hk => hb (k + 1) (by simp; omega)) (by omega), List.length_cons, dl_cons]
      omega
theorem keeps_iff {cs : List Cond} {pt : List Int} {den : Int} (h : ∀ c, c ∈ cs → M.dot c.coefs pt 0 = dl pt.length c.coefs pt ∧ IntKind.i64.wrap (c.limit * den) = c.limit * den) : M.keeps cs pt den = true ↔ ∀ c, c ∈ cs → dl pt.length c.coefs pt ≤ c.limit * den := by
  induction cs with
  | nil => simp [M.keeps]
  | cons c l ih =>
    obtain ⟨h1, h2⟩ := h c (List.mem_cons_self ..)
    have ih := ih fun d hd => h d (List.mem_cons_of_mem _ hd)
    unfold M.keeps
    rw [h1, h2]
    by_cases hc : dl pt.length c.coefs pt > c.limit * den
    · rw [decide_eq_true hc]
      constructor
      · intro e; cases e
      · intro e; exact absurd (e c (List.mem_cons_self ..)) (by omega)
    · rw [decide_eq_false hc]
      show M.keeps l pt den = true ↔ _
      rw [ih]
      constructor
      · intro e d hd
        rcases List.mem_cons.1 hd with rfl | hd
        · omega
        · exact e d hd
      · intro e d hd; exact e d (List.mem_cons_of_mem _ hd)
theorem nonpos_iff (l : List Int) : M.nonpos l = true ↔ ∀ x, x ∈ l → x ≤ 0 := by
  induction l with
  | nil => simp [M.nonpos]
  | cons n l ih =>
    unfold M.nonpos
    by_cases hn : n ≤ 0
    · rw [decide_eq_true hn]
      show M.nonpos l = true ↔ _
      rw [ih]
      constructor
      · intro e x hx
        rcases List.mem_cons.1 hx with rfl | hx
        · exact hn
        · exact e x hx
      · intro e x hx; exact e x (List.mem_cons_of_mem _ hx)
    · rw [decide_eq_false hn]
      constructor
      · intro e; cases e
      · intro e; exact absurd (e n (List.mem_cons_self ..)) hn
theorem pick_some {α : Type} {f : List Cond → Option α} {y : α} : ∀ {l : List Cond} {k : Nat} {set : List Cond}, M.pick f k l set = some y → ∃ t, t.Sublist l ∧ t.length = k ∧ f (set ++ t) = some y := by
  intro l
  induction l with
  | nil =>
    intro k set h
    cases k with
    | zero => exact ⟨[], List.Sublist.refl _, rfl, by rw [List.append_nil]; exact h⟩
    | succ k => cases h
  | cons c l ih =>
    intro k set h
    cases k with
    | zero => exact ⟨[], List.nil_sublist _, rfl, by rw [List.append_nil]; exact h⟩
    | succ k =>
      have h : M.ore (M.pick f k l (set ++ [c])) (M.pick f (k + 1) l set) = some y := h
      cases hp : M.pick f k l (set ++ [c]) with
      | some z =>
        rw [hp] at h
        have h : some z = some y := h
        rw [← hp] at h
        obtain ⟨t, h1, h2, h3⟩ := ih h
        exact ⟨c :: t, h1.cons_cons c, by simp [h2], by simpa using h3⟩
      | none =>
        rw [hp] at h
        have h : M.pick f (k + 1) l set = some y := h
        obtain ⟨t, h1, h2, h3⟩ := ih h
        exact ⟨t, h1.cons c, h2, h3⟩
theorem pick_none {α : Type} {f : List Cond → Option α} : ∀ {l : List Cond} {k : Nat} {set : List Cond}, M.pick f k l set = none → ∀ t, t.Sublist l → t.length = k → f (set ++ t) = none := by
  intro l
  induction l with
  | nil =>
    intro k set h t ht hk
    have : t = [] := List.eq_nil_of_sublist_nil ht
    subst this
    cases k with
    | zero => rw [List.append_nil]; exact h
    | succ k => cases hk
  | cons c l ih =>
    intro k set h t ht hk
    cases k with
    | zero =>
      have : t = [] := List.length_eq_zero_iff.1 hk
      subst this
      rw [List.append_nil]; exact h
    | succ k =>
      have h : M.ore (M.pick f k l (set ++ [c])) (M.pick f (k + 1) l set) = none := h
      cases hp : M.pick f k l (set ++ [c]) with
      | some z => rw [hp] at h; cases h
      | none =>
        rw [hp] at h
        have h : M.pick f (k + 1) l set = none := h
        cases ht with
        | cons _ ht => exact ih h t ht hk
        | cons_cons _ ht =>
          rename_i t'
          have := ih hp t' ht (by simpa using hk)
          simpa using this
end Go.Bl
end

section
set_option linter.unusedVariables false
set_option linter.unusedSimpArgs false
set_option maxRecDepth 100000
namespace Go.Bl
open Go.V Go.Proofs Go.Lp
def dK : Cond := ⟨0, 0, [], 0⟩
theorem mat0 (sh : List Int) (set : List Cond) : (M.mat sh set).getD 0 [] = sh := rfl
theorem matS (sh : List Int) (set : List Cond) (q : Nat) : (M.mat sh set).getD (q + 1) [] = (set.getD q dK).coefs := by
  show (set.map Cond.coefs).getD q [] = _
  rw [List.getD_eq_getElem?_getD, List.getD_eq_getElem?_getD, List.getElem?_map]
  cases set[q]? <;> rfl
theorem right0 (sum : Int) (set : List Cond) : (M.right sum set).getD 0 0 = sum := rfl
theorem rightS (sum : Int) (set : List Cond) (q : Nat) : (M.right sum set).getD (q + 1) 0 = (set.getD q dK).limit := by
  show (set.map Cond.limit).getD q 0 = _
  rw [List.getD_eq_getElem?_getD, List.getD_eq_getElem?_getD, List.getElem?_map]
  cases set[q]? <;> rfl
structure Small (n : Nat) (sh wo : List Int) (sum : Int) (cs : List Cond) : Prop where
  n1 : 1 ≤ n
  n5 : n ≤ 5
  sl : sh.length = n
  wl : wo.length = n
  she : ∀ x, x ∈ sh → x.natAbs ≤ 1000
  woe : ∀ x, x ∈ wo → x.natAbs ≤ 1000
  sume : sum.natAbs ≤ 10000
  cl : ∀ c, c ∈ cs → c.coefs.length = n
  ce : ∀ c, c ∈ cs → ∀ x, x ∈ c.coefs → x.natAbs ≤ 1000
  le : ∀ c, c ∈ cs → c.limit.natAbs ≤ 10000
  keep : ∀ set : List Cond, set.length + 1 = n → (∀ c, c ∈ set → c ∈ cs) → DI en (M.mat sh set) (List.range n) ≠ 0 → ∀ c, c ∈ cs →
    M.dot c.coefs (M.sol (M.mat sh set) (M.right sum set)) 0 = dl n c.coefs (M.sol (M.mat sh set) (M.right sum set)) ∧ IntKind.i64.wrap (c.limit * M.den (M.mat sh set) (M.right sum set)) = c.limit * M.den (M.mat sh set) (M.right sum set)
theorem sq_mat {n : Nat} {sh : List Int} {cs set : List Cond} (n5 : n ≤ 5) (sl : sh.length = n) (she : ∀ x, x ∈ sh → x.natAbs ≤ 1000) (cl : ∀ c, c ∈ cs → c.coefs.length = n) (ce : ∀ c, c ∈ cs → ∀ x, x ∈ c.coefs → x.natAbs ≤ 1000)
    (hs : set.length + 1 = n) (hm : ∀ c, c ∈ set → c ∈ cs) : Sq n (M.mat sh set) := by
  refine ⟨n5, by simp [M.mat]; omega, fun r hr => ?_, fun r hr c => ?_⟩
  · rcases List.mem_cons.1 hr with rfl | hr
    · exact sl
    · obtain ⟨c, hcm, rfl⟩ := List.mem_map.1 hr
      exact cl c (hm c hcm)
  · rcases List.mem_cons.1 hr with rfl | hr
    · exact getD_small she c
    · obtain ⟨d, hcm, rfl⟩ := List.mem_map.1 hr
      exact getD_small (ce d (hm d hcm)) c
theorem right_small {sum : Int} {cs set : List Cond} (sume : sum.natAbs ≤ 10000) (le : ∀ c, c ∈ cs → c.limit.natAbs ≤ 10000) (hm : ∀ c, c ∈ set → c ∈ cs) (i : Nat) : ((M.right sum set).getD i 0).natAbs ≤ 10000 := by
  refine getD_small (l := M.right sum set) (fun x hx => ?_) i
  rcases List.mem_cons.1 hx with rfl | hx
  · exact sume
  · obtain ⟨c, hcm, rfl⟩ := List.mem_map.1 hx
    exact le c (hm c hcm)
section
variable {n : Nat} {sh wo : List Int} {sum : Int} {cs : List Cond}
theorem Small.sq (h : Small n sh wo sum cs) {set : List Cond} (hs : set.length + 1 = n) (hm : ∀ c, c ∈ set → c ∈ cs) : Sq n (M.mat sh set) := sq_mat h.n5 h.sl h.she h.cl h.ce hs hm
theorem Small.rs (h : Small n sh wo sum cs) {set : List Cond} (hm : ∀ c, c ∈ set → c ∈ cs) (i : Nat) : ((M.right sum set).getD i 0).natAbs ≤ 10000 := right_small h.sume h.le hm i
theorem Small.ws (h : Small n sh wo sum cs) (i : Nat) : (wo.getD i 0).natAbs ≤ 10000 := getD_small (l := wo) (fun x hx => Nat.le_trans (h.woe x hx) (by decide)) i
theorem turned_ne {m : List (List Int)} (hm : Sq n m) (hd : DI en m (List.range n) ≠ 0) : DI en (M.turned m) (List.range n) ≠ 0 := by rw [turned_DI hm.len]; exact hd
theorem turned_at {m : List (List Int)} (hm : Sq n m) {j i : Nat} (hj : j < n) (hi : i < n) : en ((M.turned m).getD j []) i = en (m.getD i []) j := by
  unfold M.turned en
  rw [hm.len, map_getD hj, map_getD hi]
theorem rows_sum {set : List Cond} (hs : set.length + 1 = n) {j : Nat} (v : List Int) : smI (fun i => en ((M.mat sh set).getD i []) j * en v i) (List.range n) = en sh j * en v 0 + smI (fun q => en (set.getD q dK).coefs j * en v (q + 1)) (List.range set.length) := by
  rw [← hs, List.range_succ_eq_map]
  simp only [smI]
  rw [smI_map, mat0]
  congr 1
  exact smI_congr fun q _ => by show en ((M.mat sh set).getD (q + 1) []) j * _ = _; rw [matS]
theorem rows_sumR {set : List Cond} (hs : set.length + 1 = n) {j : Nat} (v : Nat → Rat) : sm (fun i => ((en ((M.mat sh set).getD i []) j : Int) : Rat) * v i) (List.range n) = ((en sh j : Int) : Rat) * v 0 + sm (fun q => ((en (set.getD q dK).coefs j : Int) : Rat) * v (q + 1)) (List.range set.length) := by
  rw [← hs, List.range_succ_eq_map]
  simp only [sm]
  rw [sm_map, mat0]
  congr 1
  exact sm_congr fun q _ => by show ((en ((M.mat sh set).getD (q + 1) []) j : Int) : Rat) * _ = _; rw [matS]
structure Opt (n : Nat) (sh : List Int) (sum : Int) (wo : List Int) (cs : List Cond) (x : M.Corner) : Prop where
  sub : x.tight.Sublist cs
  tl : x.tight.length + 1 = n
  den : 0 < x.den
  wd : 0 < x.wd
  pl : x.pt.length = n
  bl : x.by_.length = x.tight.length
  sum : dl n sh x.pt = sum * x.den
  all : ∀ c, c ∈ cs → dl n c.coefs x.pt ≤ c.limit * x.den
  eq : ∀ q, q < x.tight.length → dl n (x.tight.getD q dK).coefs x.pt = (x.tight.getD q dK).limit * x.den
  nn : ∀ q, q < x.tight.length → 0 ≤ en x.by_ q
  dual : ∀ j, j < n → x.each * en sh j - smI (fun q => en x.by_ q * en (x.tight.getD q dK).coefs j) (List.range x.tight.length) = en wo j * x.wd
  denE : x.den = ((DI en (M.mat sh x.tight) (List.range n)).natAbs : Int)
  wdE : x.wd = ((DI en (M.mat sh x.tight) (List.range n)).natAbs : Int)
  eachE : x.each.natAbs = (DI en (M.setCol (M.turned (M.mat sh x.tight)) 0 wo) (List.range n)).natAbs
  byE : ∀ q, q < x.tight.length → (en x.by_ q).natAbs = (DI en (M.setCol (M.turned (M.mat sh x.tight)) (q + 1) wo) (List.range n)).natAbs
theorem if_neg_abs {p : Prop} [Decidable p] (a : Int) : (if p then -a else a).natAbs = a.natAbs := by split <;> omega
theorem corner_opt (h : Small n sh wo sum cs) {set : List Cond} (hs : set.length + 1 = n) (hsub : set.Sublist cs) {x : M.Corner} (hc : M.corner sh sum wo cs set = some x) : Opt n sh sum wo cs x := by
  have hm : ∀ c, c ∈ set → c ∈ cs := fun c hc => hsub.subset hc
  have hq := h.sq hs hm
  have hr := h.rs (set := set) hm
  have hw := h.ws
  unfold M.corner at hc
  cases h1 : M.den (M.mat sh set) (M.right sum set) == 0
  case true => rw [h1] at hc; cases hc
  rw [h1] at hc
  cases h2 : M.keeps cs (M.sol (M.mat sh set) (M.right sum set)) (M.den (M.mat sh set) (M.right sum set))
  · rw [h2] at hc; cases hc
  rw [h2] at hc
  cases h3 : M.nonpos (M.sol (M.turned (M.mat sh set)) wo).tail
  · rw [h3] at hc; cases hc
  rw [h3] at hc
  simp only [cond_true, cond_false, Option.some.injEq] at hc
  have hd : DI en (M.mat sh set) (List.range n) ≠ 0 := by
    intro e
    rw [solve_den hq e] at h1
    exact absurd h1 (by decide)
  have hqT := hq.turned
  have hdT := turned_ne hq hd
  obtain ⟨e1, e2, e3⟩ := solve_exact hq hr hd
  obtain ⟨t1, t2, t3⟩ := solve_exact hqT hw hdT
  have hkeep := h.keep set hs hm hd
  have hall := (keeps_iff (pt := M.sol (M.mat sh set) (M.right sum set)) (by rw [e2]; exact hkeep)).1 h2
  rw [e2] at hall
  have hrows := sol_rows hq hr hd
  have hrowsT := sol_rows hqT hw hdT
  have hnp := (nonpos_iff _).1 h3
  have htl : ∀ q, (M.sol (M.turned (M.mat sh set)) wo).tail.getD q 0 = (M.sol (M.turned (M.mat sh set)) wo).getD (q + 1) 0 := by
    intro q
    cases M.sol (M.turned (M.mat sh set)) wo <;> rfl
  have hlt : (M.sol (M.turned (M.mat sh set)) wo).tail.length = set.length := by rw [List.length_tail, t2]; omega
  have hbq : ∀ q, q < set.length → en (M.negs (M.sol (M.turned (M.mat sh set)) wo).tail) q = - (M.sol (M.turned (M.mat sh set)) wo).getD (q + 1) 0 := by
    intro q hql
    unfold M.negs en
    rw [List.getD_eq_getElem?_getD, List.getElem?_map]
    have hx : (M.sol (M.turned (M.mat sh set)) wo).tail[q]? = some ((M.sol (M.turned (M.mat sh set)) wo).getD (q + 1) 0) := by
      rw [← htl q, List.getD_eq_getElem?_getD]
      rw [List.getElem?_eq_getElem (by rw [hlt]; exact hql)]; rfl
    rw [hx]
    show M.neg _ = _
    refine neg_ok ?_
    rw [t3 (q + 1) (by omega), if_neg_abs]
    exact (hqT.set hw (by omega)).2
  subst hc
  refine ⟨hsub, hs, den_pos hq hr hd, den_pos hqT hw hdT, e2, by simp [M.negs]; rw [t2]; omega, ?_, hall, fun q hql => ?_, fun q hql => ?_, fun j hj => ?_, e1, by rw [← turned_DI hq.len]; exact t1, ?_, fun q hql => ?_⟩
  · have := hrows 0 (by omega)
    rw [mat0, right0] at this
    exact this
  · have := hrows (q + 1) (by have : q < set.length := hql; omega)
    rw [matS, rightS] at this
    exact this
  · show 0 ≤ en (M.negs _) q
    rw [hbq q hql]
    have := hnp ((M.sol (M.turned (M.mat sh set)) wo).tail.getD q 0) (getD_mem (by rw [hlt]; exact hql))
    rw [htl] at this
    omega
  · have := hrowsT j hj
    unfold dl at this
    rw [smI_congr (h := fun i => en ((M.mat sh set).getD i []) j * en (M.sol (M.turned (M.mat sh set)) wo) i) (fun i hi => by rw [turned_at hq hj (List.mem_range.1 hi)]), rows_sum hs] at this
    show (M.sol (M.turned (M.mat sh set)) wo).getD 0 0 * en sh j - smI (fun q => en (M.negs _) q * en (set.getD q dK).coefs j) (List.range set.length) = en wo j * _
    rw [smI_congr (h := fun q => - (en (set.getD q dK).coefs j * en (M.sol (M.turned (M.mat sh set)) wo) (q + 1))) (fun q hql => by
      rw [hbq q (List.mem_range.1 hql), Int.neg_mul, Int.mul_comm]; rfl), smI_neg]
    have e4 : (M.sol (M.turned (M.mat sh set)) wo).getD 0 0 * en sh j = en sh j * en (M.sol (M.turned (M.mat sh set)) wo) 0 := Int.mul_comm _ _
    have e5 : wo.getD j 0 = en wo j := rfl
    rw [e5] at this
    rw [e4, ← this]
    show _ - - _ = _
    omega
  · show ((M.sol (M.turned (M.mat sh set)) wo).getD 0 0).natAbs = _
    rw [t3 0 (by omega), if_neg_abs]
  · show (en (M.negs _) q).natAbs = _
    have hql : q < set.length := hql
    rw [hbq q hql, Int.natAbs_neg, t3 (q + 1) (by omega), if_neg_abs]
theorem corner_yes (h : Small n sh wo sum cs) {set : List Cond} (hs : set.length + 1 = n) (hm : ∀ c, c ∈ set → c ∈ cs) (hd : DI en (M.mat sh set) (List.range n) ≠ 0) {x y : Nat → Rat}
    (hx0 : sm (fun c => ((en sh c : Int) : Rat) * x c) (List.range n) = (sum : Rat)) (hx : ∀ q, q < set.length → sm (fun c => ((en (set.getD q dK).coefs c : Int) : Rat) * x c) (List.range n) = (((set.getD q dK).limit : Int) : Rat))
    (hall : ∀ c, c ∈ cs → sm (fun j => ((en c.coefs j : Int) : Rat) * x j) (List.range n) ≤ (c.limit : Rat))
    (hy : ∀ q, q < set.length → y (q + 1) ≤ 0) (hw : ∀ j, j < n → ((en wo j : Int) : Rat) = ((en sh j : Int) : Rat) * y 0 + sm (fun q => ((en (set.getD q dK).coefs j : Int) : Rat) * y (q + 1)) (List.range set.length)) : M.corner sh sum wo cs set ≠ none := by
  have hq := h.sq hs hm
  have hr := h.rs (set := set) hm
  have hwo := h.ws
  have hqT := hq.turned
  have hdT := turned_ne hq hd
  obtain ⟨e1, e2, e3⟩ := solve_exact hq hr hd
  obtain ⟨t1, t2, t3⟩ := solve_exact hqT hwo hdT
  have hpos := den_pos hq hr hd
  have hposT := den_pos hqT hwo hdT
  have h1 : (M.den (M.mat sh set) (M.right sum set) == 0) = false := by
    rw [Bool.eq_false_iff]; intro e; have := eq_of_beq e; omega
  have hsol := sol_spec hq hr hd (x := x) (fun i hi => by
    cases i with
    | zero => rw [mat0, right0]; exact hx0
    | succ q => rw [matS, rightS]; exact hx q (by omega))
  have hsolT := sol_spec hqT hwo hdT (x := y) (fun j hj => by
    rw [sm_congr (h := fun i => ((en ((M.mat sh set).getD i []) j : Int) : Rat) * y i) (fun i hi => by rw [turned_at hq hj (List.mem_range.1 hi)]), rows_sumR hs]
    exact (hw j hj).symm)
  have h2 : M.keeps cs (M.sol (M.mat sh set) (M.right sum set)) (M.den (M.mat sh set) (M.right sum set)) = true := by
    refine (keeps_iff (by rw [e2]; exact h.keep set hs hm hd)).2 fun c hc => ?_
    rw [e2]
    apply Rat.intCast_le_intCast.1
    unfold dl
    rw [smI_cast, sm_congr (h := fun j => ((M.den (M.mat sh set) (M.right sum set) : Int) : Rat) * (((en c.coefs j : Int) : Rat) * x j)) (fun j hj => by
      have := hsol j (List.mem_range.1 hj)
      unfold en at this ⊢
      rw [Rat.intCast_mul, this]; grind), sm_smul, Rat.intCast_mul, Rat.mul_comm ((c.limit : Int) : Rat)]
    exact Rat.mul_le_mul_of_nonneg_left (hall c hc) (by have := Rat.intCast_nonneg.2 (Int.le_of_lt hpos); exact this)
  have h3 : M.nonpos (M.sol (M.turned (M.mat sh set)) wo).tail = true := by
    refine (nonpos_iff _).2 fun v hv => ?_
    obtain ⟨q, hql, rfl⟩ := List.getElem_of_mem hv
    have hlt : (M.sol (M.turned (M.mat sh set)) wo).tail.length = set.length := by rw [List.length_tail, t2]; omega
    rw [hlt] at hql
    have hs' := hsolT (q + 1) (by omega)
    have he : (M.sol (M.turned (M.mat sh set)) wo).tail[q]'(by rw [hlt]; exact hql) = (M.sol (M.turned (M.mat sh set)) wo).getD (q + 1) 0 := by
      rw [List.getElem_tail, List.getD_eq_getElem?_getD, List.getElem?_eq_getElem (by rw [t2]; omega)]; rfl
    rw [he]
    apply Rat.intCast_le_intCast.1
    rw [hs']
    have hp : (0 : Rat) ≤ ((M.den (M.turned (M.mat sh set)) wo : Int) : Rat) := Rat.intCast_nonneg.2 (Int.le_of_lt hposT)
    have hyq := hy q hql
    have := Rat.mul_nonneg (show 0 ≤ - y (q + 1) by grind) hp
    show _ ≤ ((0 : Int) : Rat)
    have e0 : ((0 : Int) : Rat) = 0 := rfl
    rw [e0]
    grind
  unfold M.corner
  rw [h1, h2, h3]
  intro e; cases e
def rowF (sh : List Int) (cs : List Cond) (i c : Nat) : Rat := ((en ((M.mat sh cs).getD i []) c : Int) : Rat)
def rightF (sum : Int) (cs : List Cond) (i : Nat) : Rat := (((M.right sum cs).getD i 0 : Int) : Rat)
def woF (wo : List Int) (j : Nat) : Rat := ((en wo j : Int) : Rat)
theorem psolve_some (h : Small n sh wo sum cs) {x : M.Corner} (hp : M.psolve sh sum wo cs = some x) : Opt n sh sum wo cs x := by
  unfold M.psolve at hp
  obtain ⟨t, h1, h2, h3⟩ := pick_some hp
  have := h.n1; have := h.sl
  exact corner_opt h (set := t) (by omega) h1 h3
theorem perm_of {l k : List Nat} (hl : l.Nodup) (hk : k.Nodup) (h : ∀ a, a ∈ l ↔ a ∈ k) : l.Perm k := (List.perm_ext_iff_of_nodup hl hk).2 h
theorem psolve_none (h : Small n sh wo sum cs) (hp : M.psolve sh sum wo cs = none) {B : List Nat} (hBl : B.length + 1 = n) (hB : ∀ i, i ∈ B → 1 ≤ i ∧ i ≤ cs.length)
    (hD : D (rowF sh cs) ([0] ++ B) (List.range n) ≠ 0) (hdual : Dual (rowF sh cs) (woF wo) (List.range n) [0] B) (x : Nat → Rat)
    (hx0 : sm (fun c => ((en sh c : Int) : Rat) * x c) (List.range n) = (sum : Rat)) (hall : ∀ c, c ∈ cs → sm (fun j => ((en c.coefs j : Int) : Rat) * x j) (List.range n) ≤ (c.limit : Rat)) : False := by
  have hn1 := h.n1; have hsl := h.sl
  rcases opt (rowF sh cs) (rightF sum cs) (woF wo) (List.range n) (n - 1) (List.range' 1 cs.length) [0] B (by omega) (by simp; omega) hD hdual with hno | ⟨S, hS, hSl, hSD, ⟨y, hy, hw⟩, z, hz, hzf⟩
  · refine hno x ⟨fun a ha => ?_, fun a ha => ?_⟩
    · have : a = 0 := by simpa using ha
      subst this
      exact hx0
    · have hb : 1 ≤ a ∧ a ≤ cs.length := by
        rcases List.mem_append.1 ha with ha | ha
        · exact hB a ha
        · have := List.mem_range'_1.1 ha; omega
      obtain ⟨q, rfl⟩ : ∃ q, a = q + 1 := ⟨a - 1, by omega⟩
      have := hall (cs.getD q dK) (getD_mem (by omega))
      unfold dt rowF rightF
      rw [matS, rightS]
      exact this
  · have hnd : S.Nodup := Df_nodup (A := [0]) hSD
    have hin : ∀ a, a ∈ S → 1 ≤ a ∧ a ≤ cs.length := by
      intro a ha
      rcases List.mem_append.1 (hS a ha) with ha | ha
      · exact hB a ha
      · have := List.mem_range'_1.1 ha; omega
    obtain ⟨S', hS'⟩ : ∃ S', S' = (List.range' 1 cs.length).filter (fun a => decide (a ∈ S)) := ⟨_, rfl⟩
    have hperm : S.Perm S' := by
      refine perm_of hnd ?_ fun a => ?_
      · rw [hS']; exact List.Pairwise.filter _ List.nodup_range'
      · rw [hS', List.mem_filter, List.mem_range'_1]
        constructor
        · intro ha; have := hin a ha; exact ⟨by omega, by simpa using ha⟩
        · intro ha; simpa using ha.2
    have hl' : S'.length = n - 1 := by rw [← hperm.length_eq]; exact hSl
    have hD' : D (rowF sh cs) (0 :: S') (List.range n) ≠ 0 := Df_perm_ne (hperm.cons 0) hSD
    have hin' : ∀ a, a ∈ S' → 1 ≤ a ∧ a ≤ cs.length := fun a ha => hin a (hperm.mem_iff.2 ha)
    obtain ⟨set, hset⟩ : ∃ set, set = S'.map (fun i => cs.getD (i - 1) dK) := ⟨_, rfl⟩
    have hcs : cs = (List.range' 1 cs.length).map (fun i => cs.getD (i - 1) dK) := by
      apply List.ext_getElem
      · simp
      · intro i h1 h2
        simp [List.getElem_range', h1]
    have hsub : set.Sublist cs := by
      rw [hset, hS']
      conv => rhs; rw [hcs]
      exact (List.filter_sublist (p := fun a => decide (a ∈ S)) (l := List.range' 1 cs.length)).map _
    have hsl' : set.length = n - 1 := by rw [hset, List.length_map]; exact hl'
    have hgd : ∀ q, q < n - 1 → 1 ≤ S'.getD q 0 ∧ S'.getD q 0 ≤ cs.length ∧ set.getD q dK = cs.getD (S'.getD q 0 - 1) dK := by
      intro q hq
      have hmem : S'.getD q 0 ∈ S' := getD_mem (by omega)
      refine ⟨(hin' _ hmem).1, (hin' _ hmem).2, ?_⟩
      rw [hset, List.getD_eq_getElem?_getD, List.getElem?_map, List.getElem?_eq_getElem (by omega), List.getD_eq_getElem?_getD (l := S'), List.getElem?_eq_getElem (by omega)]
      rfl
    have hrow : ∀ q c, q < n - 1 → rowF sh cs (S'.getD q 0) c = ((en (set.getD q dK).coefs c : Int) : Rat) := by
      intro q c hq
      obtain ⟨g1, g2, g3⟩ := hgd q hq
      unfold rowF
      rw [show S'.getD q 0 = (S'.getD q 0 - 1) + 1 by omega, matS, g3]
    -- the matrix of the choice
    have hpos : ∀ i, i < n → ∀ c, rowF sh cs ((0 :: S').getD i 0) c = ((en ((M.mat sh set).getD i []) c : Int) : Rat) := by
      intro i hi c
      cases i with
      | zero => rfl
      | succ q => rw [matS]; exact hrow q c (by omega)
    have hmap : (0 :: S') = (List.range n).map (fun i => (0 :: S').getD i 0) := by
      have : n = (0 :: S').length := by simp; omega
      conv => rhs; rw [this]
      exact range_getD.symm
    have hdI : DI en (M.mat sh set) (List.range n) ≠ 0 := by
      rw [DI_idx (by simp [M.mat]; omega)]
      refine D_ne.1 ?_
      rw [hmap] at hD'
      rw [D_map, List.map_map] at hD'
      rw [D_map]
      have e : (List.range n).map (rowF sh cs ∘ fun i => (0 :: S').getD i 0) = (List.range n).map (fun i => fun c => ((en ((M.mat sh set).getD i []) c : Int) : Rat)) :=
        List.map_congr_left fun i hi => by funext c; exact hpos i (List.mem_range.1 hi) c
      rw [e] at hD'
      exact hD'
    have hnone := pick_none hp set hsub (by omega)
    rw [List.nil_append] at hnone
    refine corner_yes h (set := set) (by omega) (fun c hc => hsub.subset hc) hdI (x := z) (y := fun i => y ((0 :: S').getD i 0)) ?_ (fun q hq => ?_) (fun c hc => ?_) (fun q hq => ?_) (fun j hj => ?_) hnone
    · exact hz 0 (by simp)
    · have hq : q < n - 1 := by omega
      obtain ⟨g1, g2, g3⟩ := hgd q hq
      have hmem : S'.getD q 0 ∈ S := hperm.mem_iff.2 (getD_mem (by omega))
      have := hz (S'.getD q 0) (List.mem_append_right _ hmem)
      unfold dt at this
      rw [sm_congr (h := fun c => ((en (set.getD q dK).coefs c : Int) : Rat) * z c) (fun c _ => by rw [hrow q c hq])] at this
      rw [this, g3]
      unfold rightF
      rw [show S'.getD q 0 = (S'.getD q 0 - 1) + 1 by omega, rightS]
      rfl
    · obtain ⟨q, hq, rfl⟩ := List.getElem_of_mem hc
      have := hzf (q + 1) (List.mem_append_right _ (List.mem_range'_1.2 ⟨by omega, by omega⟩))
      unfold dt rowF rightF at this
      rw [matS, rightS, List.getD_eq_getElem?_getD, List.getElem?_eq_getElem hq] at this
      exact this
    · have hmem : S'.getD q 0 ∈ S := hperm.mem_iff.2 (getD_mem (by omega))
      exact hy _ hmem
    · have e := hw j (List.mem_range.2 hj)
      rw [sm_perm (g := fun a => y a * rowF sh cs a j) (l := [0] ++ S) (k := 0 :: S') (hperm.cons 0), hmap, sm_map] at e
      have hn' : n = set.length + 1 := by omega
      rw [show List.range n = List.range (set.length + 1) by rw [hn'], List.range_succ_eq_map] at e
      simp only [sm] at e
      rw [sm_map] at e
      unfold woF at e
      rw [e]
      congr 1
      · show y 0 * ((en sh j : Int) : Rat) = _
        rw [Rat.mul_comm]; rfl
      · refine sm_congr fun q hq => ?_
        have hq := List.mem_range.1 hq
        show y (S'.getD q 0) * rowF sh cs (S'.getD q 0) j = _
        rw [hrow q j (by omega), Rat.mul_comm]
        rfl
end
end Go.Bl
end

section
set_option linter.unusedVariables false
set_option linter.unusedSimpArgs false
set_option maxRecDepth 100000
namespace Go.Bl
open Go.V Go.Proofs Go.Lp
theorem smI_succ {g : Nat → Int} {n : Nat} : smI g (List.range (n + 1)) = smI g (List.range n) + g n := by
  rw [List.range_succ, smI_append]; simp only [smI]; omega
theorem smI_dot {g : Nat → Int} : ∀ {n : Nat}, smI g (List.range n) = dot g n
  | 0 => rfl
  | n + 1 => by rw [smI_succ, smI_dot]; rfl
theorem smI_if {g : Nat → Int} {k : Nat} {v : Int} : ∀ {n : Nat}, smI (fun i => g i + if i = k then v else 0) (List.range n) = smI g (List.range n) + if k < n then v else 0
  | 0 => by simp [smI]
  | n + 1 => by
    rw [smI_succ, smI_if, smI_succ]
    by_cases h : n = k
    · subst h; simp only [if_true, Nat.lt_irrefl, if_false, Nat.lt_succ_self]; omega
    · rw [if_neg h]
      by_cases h2 : k < n
      · rw [if_pos h2, if_pos (by omega)]; omega
      · rw [if_neg h2, if_neg (by omega)]; omega
def phi (w : Wts) (m : Nat) (f1 f2 f3 : Nat → Int) : Int :=
  smI (fun i => en w.casks i * f1 i) (List.range m) + (w.x0 * f2 0 + w.x1 * f2 1 + w.x2 * f2 2 + w.x3 * f2 3) + (w.y0 * f3 0 + w.y1 * f3 1 + w.y2 * f3 2 + w.y3 * f3 3)
def ph (f1 f2 f3 : Nat → Int) (c : Cond) : Int := if c.kind = 1 then f1 c.which.toNat else if c.kind = 2 then f2 c.which.toNat else if c.kind = 3 then f3 c.which.toNat else 0
def wx (w : Wts) : Nat → Int
  | 0 => w.x0
  | 1 => w.x1
  | 2 => w.x2
  | _ => w.x3
def wy (w : Wts) : Nat → Int
  | 0 => w.y0
  | 1 => w.y1
  | 2 => w.y2
  | _ => w.y3
def slot (w : Wts) (c : Cond) : Int := if c.kind = 1 then en w.casks c.which.toNat else if c.kind = 2 then wx w c.which.toNat else if c.kind = 3 then wy w c.which.toNat else 0
def Each (P : Int → Prop) (w : Wts) : Prop := (∀ i, P (en w.casks i)) ∧ (P w.x0 ∧ P w.x1 ∧ P w.x2 ∧ P w.x3) ∧ (P w.y0 ∧ P w.y1 ∧ P w.y2 ∧ P w.y3)
def CondOK (m : Nat) (c : Cond) : Prop := 0 ≤ c.which ∧ (c.kind = 1 → c.which.toNat < m) ∧ (c.kind = 2 ∨ c.kind = 3 → c.which.toNat < 4)
theorem four {k : Nat} (h : k < 4) : k = 0 ∨ k = 1 ∨ k = 2 ∨ k = 3 := by omega
theorem beq_of_eq {a b : Int} (h : a = b) : (a == b) = true := by rw [h]; exact beq_self_eq_true b
theorem beq_of_ne {a b : Int} (h : a ≠ b) : (a == b) = false := by rw [Bool.eq_false_iff]; intro e; exact h (eq_of_beq e)
theorem step_phi {w : Wts} {m : Nat} {c : Cond} {b : Int} {f1 f2 f3 : Nat → Int} (hm : w.casks.length = m) (hc : CondOK m c) (h0 : slot w c = 0) : phi (M.wStep w c b) m f1 f2 f3 = phi w m f1 f2 f3 + b * ph f1 f2 f3 c := by
  unfold M.wStep
  by_cases k1 : c.kind = 1
  · rw [beq_of_eq k1]
    have hw := hc.2.1 k1
    unfold slot at h0
    rw [if_pos k1] at h0
    unfold phi ph
    rw [if_pos k1]
    show smI (fun i => en (w.casks.set c.which.toNat b) i * f1 i) (List.range m) + _ + _ = _
    rw [smI_congr (h := fun i => en w.casks i * f1 i + if i = c.which.toNat then b * f1 c.which.toNat else 0) (fun i _ => by
      rw [en_set (by omega)]
      by_cases e : i = c.which.toNat
      · subst e; rw [if_pos rfl, if_pos rfl, h0]; omega
      · rw [if_neg e, if_neg e]; omega), smI_if, if_pos hw]
    simp only [cond_true]
    omega
  · rw [beq_of_ne k1]
    by_cases k2 : c.kind = 2
    · rw [beq_of_eq k2]
      have hw := hc.2.2 (.inl k2)
      unfold slot at h0
      rw [if_neg k1, if_pos k2] at h0
      unfold phi ph
      rw [if_neg k1, if_pos k2]
      simp only [cond_true, cond_false]
      rcases four hw with e | e | e | e <;> rw [e] at h0 ⊢ <;> simp only [wx] at h0 <;> simp [h0] <;> omega
    · rw [beq_of_ne k2]
      by_cases k3 : c.kind = 3
      · rw [beq_of_eq k3]
        have hw := hc.2.2 (.inr k3)
        unfold slot at h0
        rw [if_neg k1, if_neg k2, if_pos k3] at h0
        unfold phi ph
        rw [if_neg k1, if_neg k2, if_pos k3]
        simp only [cond_true, cond_false]
        rcases four hw with e | e | e | e <;> rw [e] at h0 ⊢ <;> simp only [wy] at h0 <;> simp [h0] <;> omega
      · rw [beq_of_ne k3]
        unfold ph
        rw [if_neg k1, if_neg k2, if_neg k3, Int.mul_zero, Int.add_zero]
        rfl
theorem step_len {w : Wts} {c : Cond} {b : Int} : (M.wStep w c b).casks.length = w.casks.length := by
  unfold M.wStep
  cases c.kind == 1 <;> cases c.kind == 2 <;> cases c.kind == 3 <;> simp
theorem step_slot {w : Wts} {m : Nat} {c d : Cond} {b : Int} (hm : w.casks.length = m) (hc : CondOK m c) (hd : CondOK m d) (hne : (c.kind, c.which) ≠ (d.kind, d.which)) : slot (M.wStep w c b) d = slot w d := by
  have hx : c.kind = d.kind → c.which.toNat ≠ d.which.toNat := by
    intro e1 e2
    apply hne
    have := hc.1; have := hd.1
    rw [e1, show c.which = d.which by omega]
  unfold M.wStep
  by_cases k1 : c.kind = 1
  · rw [beq_of_eq k1]
    simp only [cond_true]
    unfold slot
    by_cases d1 : d.kind = 1
    · rw [if_pos d1, if_pos d1]
      show en (w.casks.set _ b) _ = _
      rw [en_set (by have := hc.2.1 k1; omega), if_neg (fun e => hx (by rw [k1, d1]) e.symm)]
    · rw [if_neg d1, if_neg d1]; rfl
  · rw [beq_of_ne k1]
    by_cases k2 : c.kind = 2
    · rw [beq_of_eq k2]
      simp only [cond_true, cond_false]
      unfold slot
      by_cases d1 : d.kind = 1
      · rw [if_pos d1, if_pos d1]
      · rw [if_neg d1, if_neg d1]
        by_cases d2 : d.kind = 2
        · rw [if_pos d2, if_pos d2]
          have h1 := hx (by rw [k2, d2])
          rcases four (hc.2.2 (.inl k2)) with e | e | e | e <;> rcases four (hd.2.2 (.inl d2)) with f | f | f | f <;> rw [e, f] at h1 <;> first | exact absurd rfl h1 | (rw [e, f]; rfl)
        · rw [if_neg d2, if_neg d2]
          by_cases d3 : d.kind = 3
          · rw [if_pos d3, if_pos d3]
            rcases four (hd.2.2 (.inr d3)) with f | f | f | f <;> rw [f] <;> rfl
          · rw [if_neg d3, if_neg d3]
    · rw [beq_of_ne k2]
      by_cases k3 : c.kind = 3
      · rw [beq_of_eq k3]
        simp only [cond_true, cond_false]
        unfold slot
        by_cases d1 : d.kind = 1
        · rw [if_pos d1, if_pos d1]
        · rw [if_neg d1, if_neg d1]
          by_cases d2 : d.kind = 2
          · rw [if_pos d2, if_pos d2]
            rcases four (hd.2.2 (.inl d2)) with f | f | f | f <;> rw [f] <;> rfl
          · rw [if_neg d2, if_neg d2]
            by_cases d3 : d.kind = 3
            · rw [if_pos d3, if_pos d3]
              have h1 := hx (by rw [k3, d3])
              rcases four (hc.2.2 (.inr k3)) with e | e | e | e <;> rcases four (hd.2.2 (.inr d3)) with f | f | f | f <;> rw [e, f] at h1 <;> first | exact absurd rfl h1 | (rw [e, f]; rfl)
            · rw [if_neg d3, if_neg d3]
      · rw [beq_of_ne k3]; rfl
theorem step_each {P : Int → Prop} {w : Wts} {c : Cond} {b : Int} (h : Each P w) (hb : P b) (h0 : P 0) : Each P (M.wStep w c b) := by
  obtain ⟨h1, ⟨x0, x1, x2, x3⟩, y0, y1, y2, y3⟩ := h
  unfold M.wStep
  cases c.kind == 1
  · cases c.kind == 2
    · cases c.kind == 3
      · exact ⟨h1, ⟨x0, x1, x2, x3⟩, y0, y1, y2, y3⟩
      · refine ⟨h1, ⟨x0, x1, x2, x3⟩, ?_, ?_, ?_, ?_⟩ <;> simp only [cond_true, cond_false] <;> split <;> assumption
    · refine ⟨h1, ⟨?_, ?_, ?_, ?_⟩, y0, y1, y2, y3⟩ <;> simp only [cond_true, cond_false] <;> split <;> assumption
  · refine ⟨fun i => ?_, ⟨x0, x1, x2, x3⟩, y0, y1, y2, y3⟩
    show P (en (w.casks.set _ b) i)
    by_cases hk : c.which.toNat < w.casks.length
    · rw [en_set hk]; split
      · exact hb
      · exact h1 i
    · rw [List.set_eq_of_length_le (by omega)]; exact h1 i
theorem step_fix {w : Wts} {c : Cond} {b : Int} : (M.wStep w c b).den = w.den ∧ (M.wStep w c b).each = w.each := by
  unfold M.wStep
  cases c.kind == 1 <;> cases c.kind == 2 <;> cases c.kind == 3 <;> exact ⟨rfl, rfl⟩
theorem en_zeros (n i : Nat) : en (List.replicate n 0) i = 0 := by
  unfold en
  rw [List.getD_eq_getElem?_getD, List.getElem?_replicate]
  split <;> rfl
theorem slot_zeros (wd each : Int) (m : Nat) (c : Cond) : slot ⟨wd, each, 0, 0, 0, 0, 0, 0, 0, 0, List.replicate m 0⟩ c = 0 := by
  unfold slot
  split
  · exact en_zeros _ _
  · split
    · unfold wx; split <;> rfl
    · split
      · unfold wy; split <;> rfl
      · rfl
theorem phi_zeros (wd each : Int) (m : Nat) (f1 f2 f3 : Nat → Int) : phi ⟨wd, each, 0, 0, 0, 0, 0, 0, 0, 0, List.replicate m 0⟩ m f1 f2 f3 = 0 := by
  unfold phi
  rw [smI_congr (h := fun _ => 0) (fun i _ => by rw [en_zeros, Int.zero_mul]), smI_zero]
  simp
theorem weights_spec {wd each : Int} {ti : List Cond} {by_ : List Int} {m : Nat} (hk : (ti.map fun c => (c.kind, c.which)).Nodup) (hc : ∀ c, c ∈ ti → CondOK m c) :
    (M.weights wd each ti by_ m).den = wd ∧ (M.weights wd each ti by_ m).each = each ∧ (M.weights wd each ti by_ m).casks.length = m ∧
    (∀ f1 f2 f3, phi (M.weights wd each ti by_ m) m f1 f2 f3 = smI (fun q => en by_ q * ph f1 f2 f3 (ti.getD q dK)) (List.range ti.length)) ∧
    ∀ P : Int → Prop, P 0 → (∀ q, q < ti.length → P (en by_ q)) → Each P (M.weights wd each ti by_ m) := by
  obtain ⟨st, hst⟩ : ∃ st : Nat → Wts, st = fun k => (List.range k).foldl (fun w i => M.wStep w (ti.getD i ⟨0, 0, [], 0⟩) (by_.getD i 0)) ⟨wd, each, 0, 0, 0, 0, 0, 0, 0, 0, List.replicate m 0⟩ := ⟨_, rfl⟩
  have hs : ∀ k, st (k + 1) = M.wStep (st k) (ti.getD k dK) (en by_ k) := by intro k; subst hst; exact foldl_succ
  have h0 : st 0 = ⟨wd, each, 0, 0, 0, 0, 0, 0, 0, 0, List.replicate m 0⟩ := by subst hst; rfl
  have hfin : M.weights wd each ti by_ m = st ti.length := by subst hst; rfl
  have hlen : ∀ k, (st k).casks.length = m := by
    intro k
    induction k with
    | zero => rw [h0]; simp
    | succ k ih => rw [hs, step_len, ih]
  have hkey : ∀ a b, a < ti.length → b < ti.length → a ≠ b → ((ti.getD a dK).kind, (ti.getD a dK).which) ≠ ((ti.getD b dK).kind, (ti.getD b dK).which) := by
    intro a b ha hb hab e
    apply hab
    have ga : (ti.map fun c => (c.kind, c.which))[a]'(by simpa using ha) = ((ti.getD a dK).kind, (ti.getD a dK).which) := by
      rw [List.getElem_map, List.getD_eq_getElem?_getD, List.getElem?_eq_getElem ha]; rfl
    have gb : (ti.map fun c => (c.kind, c.which))[b]'(by simpa using hb) = ((ti.getD b dK).kind, (ti.getD b dK).which) := by
      rw [List.getElem_map, List.getD_eq_getElem?_getD, List.getElem?_eq_getElem hb]; rfl
    have hp := List.pairwise_iff_getElem.1 hk
    rcases Nat.lt_trichotomy a b with h | h | h
    · exact absurd (by rw [ga, gb]; exact e) (hp a b (by simpa using ha) (by simpa using hb) h)
    · exact h
    · exact absurd (by rw [ga, gb]; exact e.symm) (hp b a (by simpa using hb) (by simpa using ha) h)
  have hslot : ∀ k, k ≤ ti.length → ∀ b, k ≤ b → b < ti.length → slot (st k) (ti.getD b dK) = 0 := by
    intro k
    induction k with
    | zero => intro _ b _ _; rw [h0]; exact slot_zeros _ _ _ _
    | succ k ih =>
      intro hk b h1 h2
      rw [hs, step_slot (hlen k) (hc _ (getD_mem (by omega))) (hc _ (getD_mem h2)) (hkey k b (by omega) h2 (by omega))]
      exact ih (by omega) b (by omega) h2
  rw [hfin]
  refine ⟨?_, ?_, hlen _, fun f1 f2 f3 => ?_, fun P p0 pb => ?_⟩
  · have : ∀ k, (st k).den = wd := by
      intro k
      induction k with
      | zero => rw [h0]
      | succ k ih => rw [hs, step_fix.1, ih]
    exact this _
  · have : ∀ k, (st k).each = each := by
      intro k
      induction k with
      | zero => rw [h0]
      | succ k ih => rw [hs, step_fix.2, ih]
    exact this _
  · have : ∀ k, k ≤ ti.length → phi (st k) m f1 f2 f3 = smI (fun q => en by_ q * ph f1 f2 f3 (ti.getD q dK)) (List.range k) := by
      intro k
      induction k with
      | zero => intro _; rw [h0, phi_zeros]; rfl
      | succ k ih =>
        intro hk
        rw [hs, step_phi (hlen k) (hc _ (getD_mem (by omega))) (hslot k (by omega) k (Nat.le_refl _) (by omega)), ih (by omega), smI_succ]
    exact this _ (Nat.le_refl _)
  · have : ∀ k, k ≤ ti.length → Each P (st k) := by
      intro k
      induction k with
      | zero =>
        intro _
        rw [h0]
        exact ⟨fun i => by show P (en (List.replicate m 0) i); rw [en_zeros]; exact p0, ⟨p0, p0, p0, p0⟩, p0, p0, p0, p0⟩
      | succ k ih =>
        intro hk
        rw [hs]
        exact step_each (ih (by omega)) (pb k (by omega)) p0
    exact this _ (Nat.le_refl _)
theorem limits_cases {l : List Cask} {s : Sample} {e : Nat} {c : Cond} (h : c ∈ M.limits l s e) :
    (∃ i : Nat, i < l.length + e ∧ c = ⟨0, i, M.only (l.length + e) i (-1), 0⟩) ∨ (∃ i : Nat, i < l.length ∧ c = ⟨1, i, M.only (l.length + e) i 1, (l.getD i dfC).vol⟩) ∨
    (∃ k : Nat, k < 4 ∧ c = ⟨2, k, M.by_ l (l.length + e) fun c => IntKind.i64.wrap (M.val c k - (M.rg s k).hi), 0⟩) ∨ ∃ k : Nat, k < 4 ∧ c = ⟨3, k, M.by_ l (l.length + e) fun c => IntKind.i64.wrap ((M.rg s k).lo - M.val c k), 0⟩ := by
  unfold M.limits at h
  rcases List.mem_append.1 h with h | h
  · rcases List.mem_append.1 h with h | h
    · obtain ⟨i, hi, rfl⟩ := List.mem_map.1 h
      exact .inl ⟨i, List.mem_range.1 hi, rfl⟩
    · obtain ⟨i, hi, rfl⟩ := List.mem_map.1 h
      exact .inr (.inl ⟨i, List.mem_range.1 hi, rfl⟩)
  · obtain ⟨k, hk, h⟩ := List.mem_flatMap.1 h
    have hk := List.mem_range.1 hk
    rcases List.mem_cons.1 h with rfl | h
    · exact .inr (.inr (.inl ⟨k, hk, rfl⟩))
    · have := List.mem_singleton.1 h
      subst this
      exact .inr (.inr (.inr ⟨k, hk, rfl⟩))
theorem limits_mem {l : List Cask} {s : Sample} {e : Nat} : (∀ i : Nat, i < l.length + e → (⟨0, i, M.only (l.length + e) i (-1), 0⟩ : Cond) ∈ M.limits l s e) ∧ (∀ i : Nat, i < l.length → (⟨1, i, M.only (l.length + e) i 1, (l.getD i dfC).vol⟩ : Cond) ∈ M.limits l s e) ∧
    ∀ k : Nat, k < 4 → (⟨2, k, M.by_ l (l.length + e) fun c => IntKind.i64.wrap (M.val c k - (M.rg s k).hi), 0⟩ : Cond) ∈ M.limits l s e ∧ (⟨3, k, M.by_ l (l.length + e) fun c => IntKind.i64.wrap ((M.rg s k).lo - M.val c k), 0⟩ : Cond) ∈ M.limits l s e := by
  unfold M.limits
  refine ⟨fun i hi => List.mem_append_left _ (List.mem_append_left _ (List.mem_map.2 ⟨i, List.mem_range.2 hi, rfl⟩)), fun i hi => List.mem_append_left _ (List.mem_append_right _ (List.mem_map.2 ⟨i, List.mem_range.2 hi, rfl⟩)), fun k hk => ⟨?_, ?_⟩⟩
  · exact List.mem_append_right _ (List.mem_flatMap.2 ⟨k, List.mem_range.2 hk, by simp⟩)
  · exact List.mem_append_right _ (List.mem_flatMap.2 ⟨k, List.mem_range.2 hk, by simp⟩)
theorem limits_keys (l : List Cask) (s : Sample) (e : Nat) : (M.limits l s e).map (fun c => (c.kind, c.which)) = ((List.range (l.length + e)).map fun (i : Nat) => ((0 : Int), (i : Int))) ++ ((List.range l.length).map fun (i : Nat) => ((1 : Int), (i : Int))) ++ ((List.range 4).flatMap fun (k : Nat) => [((2 : Int), (k : Int)), (3, (k : Int))]) := by
  unfold M.limits
  rw [List.map_append, List.map_append, List.map_map, List.map_map, List.map_flatMap]
  rfl
theorem keys_nodup : ∀ m, m ≤ 4 → ∀ e, e ≤ 1 → (((List.range (m + e)).map fun (i : Nat) => ((0 : Int), (i : Int))) ++ ((List.range m).map fun (i : Nat) => ((1 : Int), (i : Int))) ++ ((List.range 4).flatMap fun (k : Nat) => [((2 : Int), (k : Int)), (3, (k : Int))])).Nodup := by decide +kernel
theorem en_only {n a j : Nat} {x : Int} (hj : j < n) : en (M.only n a x) j = if j = a then x else 0 := by
  unfold M.only en
  rw [map_getD hj]
  by_cases h : j = a
  · subst h; rw [if_pos rfl, Nat.beq_refl]; rfl
  · rw [if_neg h, show Nat.beq j a = false from by rw [Bool.eq_false_iff]; intro e; exact h (Nat.eq_of_beq_eq_true e)]; rfl
theorem en_by {l : List Cask} {n j : Nat} {f : Cask → Int} (hj : j < n) : en (M.by_ l n f) j = if j = l.length then -1 else f (l.getD j dfC) := by
  unfold M.by_ en
  rw [map_getD hj]
  by_cases h : j = l.length
  · rw [if_pos h, h, Nat.beq_refl]; rfl
  · rw [if_neg h, show Nat.beq j l.length = false from by rw [Bool.eq_false_iff]; intro e; exact h (Nat.eq_of_beq_eq_true e)]; rfl
theorem only_len (n a : Nat) (x : Int) : (M.only n a x).length = n := by simp [M.only]
theorem by_len (l : List Cask) (n : Nat) (f : Cask → Int) : (M.by_ l n f).length = n := by simp [M.by_]
end Go.Bl
end

section
set_option linter.unusedVariables false
set_option linter.unusedSimpArgs false
set_option maxRecDepth 100000
namespace Go.Bl
open Go.V Go.Proofs Go.Lp
structure RightL (l : List Cask) (s : Sample) : Prop where
  n1 : 1 ≤ l.length
  n4 : l.length ≤ 4
  rc : ∀ i, i < l.length → RightC (l.getD i dfC)
  v : 1 ≤ s.vol ∧ s.vol ≤ 10000
  lo : ∀ k, k < 4 → 0 ≤ (M.rg s k).lo ∧ (M.rg s k).lo ≤ 1000
  hi : ∀ k, k < 4 → 0 ≤ (M.rg s k).hi ∧ (M.rg s k).hi ≤ 1000
  le : ∀ k, k < 4 → (M.rg s k).lo ≤ (M.rg s k).hi
theorem sample_right {s : Sample} (h : M.checkSample s = 0) : (1 ≤ s.vol ∧ s.vol ≤ 10000) ∧ (∀ k, k < 4 → 0 ≤ (M.rg s k).lo ∧ (M.rg s k).lo ≤ 1000) ∧ (∀ k, k < 4 → 0 ≤ (M.rg s k).hi ∧ (M.rg s k).hi ≤ 1000) ∧ ∀ k, k < 4 → (M.rg s k).lo ≤ (M.rg s k).hi := by
  unfold M.checkSample at h
  cases hw : M.within s.vol 1 10000
  · rw [hw] at h
    have hs : (2 : Int) = 0 := h
    exact absurd hs (by decide)
  rw [hw] at h
  have hs : M.first [M.rgErr s.r0, M.rgErr s.r1, M.rgErr s.r2, M.rgErr s.r3] = 0 := h
  have hz := first_nil _ hs
  have hle : ∀ r, M.rgErr r = 0 → r.lo ≤ r.hi := by
    intro r hr
    unfold M.rgErr at hr
    exact of_decide_eq_true (unl_zero (by decide) (first_nil _ hr _ (List.mem_cons_of_mem _ (List.mem_cons_self ..))))
  have all : ∀ k, k < 4 → M.rgErr (M.rg s k) = 0 := by
    intro k hk
    rcases (by omega : k = 0 ∨ k = 1 ∨ k = 2 ∨ k = 3) with rfl | rfl | rfl | rfl <;> exact hz _ (by simp [M.rg])
  exact ⟨within_spec hw, fun k hk => (rg_right (all k hk)).1, fun k hk => (rg_right (all k hk)).2, fun k hk => hle _ (all k hk)⟩
theorem task_right {l : List Cask} {s : Sample} (h : M.taskErr l s = 0) : RightL l s := by
  unfold M.taskErr at h
  obtain ⟨c1, c4, cr⟩ := casks_right (first_nil _ h _ (List.mem_cons_self ..))
  obtain ⟨h1, h2, h3, h4⟩ := sample_right (first_nil _ h _ (List.mem_cons_of_mem _ (List.mem_cons_self ..)))
  exact ⟨c1, c4, cr, h1, h2, h3, h4⟩
theorem RightC.val {c : Cask} (h : RightC c) (k : Nat) : 0 ≤ M.val c k ∧ M.val c k ≤ 1000 := by
  unfold M.val
  split
  · exact h.k0
  · exact h.k1
  · exact h.k2
  · exact h.k3
def Kb (m j : Nat) : Nat := if j < m then 1000 else 1
def S0 (m j : Nat) : Nat := if j < m then 1 else 0
section
variable {l : List Cask} {s : Sample}
theorem RightL.hiF (h : RightL l s) {i k : Nat} (hi : i < l.length) (hk : k < 4) : IntKind.i64.wrap (M.val (l.getD i dfC) k - (M.rg s k).hi) = M.val (l.getD i dfC) k - (M.rg s k).hi ∧ (M.val (l.getD i dfC) k - (M.rg s k).hi).natAbs ≤ 1000 := by
  have h1 := (h.rc i hi).val k
  have h2 := h.hi k hk
  exact ⟨wrap_id (by omega) (by omega), by omega⟩
theorem RightL.loF (h : RightL l s) {i k : Nat} (hi : i < l.length) (hk : k < 4) : IntKind.i64.wrap ((M.rg s k).lo - M.val (l.getD i dfC) k) = (M.rg s k).lo - M.val (l.getD i dfC) k ∧ ((M.rg s k).lo - M.val (l.getD i dfC) k).natAbs ≤ 1000 := by
  have h1 := (h.rc i hi).val k
  have h2 := h.lo k hk
  exact ⟨wrap_id (by omega) (by omega), by omega⟩
theorem en_out {a : List Int} {j : Nat} (h : a.length ≤ j) : en a j = 0 := by
  unfold en
  rw [List.getD_eq_getElem?_getD, List.getElem?_eq_none h]; rfl
theorem ent_of {a : List Int} {n B : Nat} (hl : a.length = n) (h : ∀ j, j < n → (en a j).natAbs ≤ B) : ∀ x, x ∈ a → x.natAbs ≤ B := by
  intro x hx
  obtain ⟨j, hj, rfl⟩ := List.getElem_of_mem hx
  have := h j (by omega)
  unfold en at this
  rw [List.getD_eq_getElem?_getD, List.getElem?_eq_getElem hj] at this
  exact this
theorem limits_ent (h : RightL l s) {e : Nat} (he : e ≤ 1) {c : Cond} (hc : c ∈ M.limits l s e) : c.coefs.length = l.length + e ∧ (∀ j, j < l.length + e → (en c.coefs j).natAbs ≤ Kb l.length j) ∧ 0 ≤ c.limit ∧ c.limit ≤ 10000 := by
  have k1 : ∀ j, 1 ≤ Kb l.length j := fun j => by unfold Kb; split <;> decide
  rcases limits_cases hc with ⟨i, hi, rfl⟩ | ⟨i, hi, rfl⟩ | ⟨k, hk, rfl⟩ | ⟨k, hk, rfl⟩
  · refine ⟨only_len _ _ _, fun j hj => ?_, (show (0 : Int) ≤ 0 by decide), (show (0 : Int) ≤ 10000 by decide)⟩
    show (en (M.only _ _ _) j).natAbs ≤ _
    have := k1 j
    rw [en_only hj]; split <;> omega
  · refine ⟨only_len _ _ _, fun j hj => ?_, (h.rc i hi).vol⟩
    show (en (M.only _ _ _) j).natAbs ≤ _
    have := k1 j
    rw [en_only hj]; split <;> omega
  · refine ⟨by_len l (l.length + e) (fun c => IntKind.i64.wrap (M.val c k - (M.rg s k).hi)), fun j hj => ?_, (show (0 : Int) ≤ 0 by decide), (show (0 : Int) ≤ 10000 by decide)⟩
    dsimp only
    rw [en_by hj]
    have := k1 j
    by_cases e1 : j = l.length
    · rw [if_pos e1]; omega
    · rw [if_neg e1]
      by_cases e2 : j < l.length
      · obtain ⟨w1, w2⟩ := h.hiF e2 hk
        rw [w1]; unfold Kb; rw [if_pos e2]; exact w2
      · exfalso; exact absurd hj (by omega)
  · refine ⟨by_len l (l.length + e) (fun c => IntKind.i64.wrap ((M.rg s k).lo - M.val c k)), fun j hj => ?_, (show (0 : Int) ≤ 0 by decide), (show (0 : Int) ≤ 10000 by decide)⟩
    dsimp only
    rw [en_by hj]
    have := k1 j
    by_cases e1 : j = l.length
    · rw [if_pos e1]; omega
    · rw [if_neg e1]
      by_cases e2 : j < l.length
      · obtain ⟨w1, w2⟩ := h.loF e2 hk
        rw [w1]; unfold Kb; rw [if_pos e2]; exact w2
      · exfalso; exact absurd hj (by omega)
theorem shares_en {l : List Cask} {e j : Nat} : en (M.shares l e) j = (S0 l.length j : Int) := by
  unfold M.shares S0 en
  by_cases h : j < l.length
  · rw [if_pos h, List.getD_eq_getElem?_getD, List.getElem?_append_left (by simpa using h), List.getElem?_map, List.getElem?_eq_getElem h]; rfl
  · rw [if_neg h, List.getD_eq_getElem?_getD, List.getElem?_append_right (by simp; omega), List.getElem?_replicate]; split <;> rfl
theorem num_den : ∀ m, m ≤ 4 → ∀ e, e ≤ 1 → bnd (S0 m) (Kb m) (List.range (m + e)) ≤ 200000000000 := by decide +kernel
theorem num_sol : ∀ m, m ≤ 4 → ∀ e, e ≤ 1 → ∀ k, k < 5 → Kb m k * bnd (fun c => if c = k then 10000 else S0 m c) (fun c => if c = k then 10000 else Kb m c) (List.range (m + e)) ≤ 1000000000000000000 := by decide +kernel
theorem num_cost : ∀ m, m ≤ 4 → bnd (fun _ => 1000) (Kb m) (List.range (m + 0)) ≤ 100000000000000 := by decide +kernel
theorem num_far : ∀ m, m ≤ 4 → bnd (fun c => if c < m then 0 else 1) (Kb m) (List.range (m + 1)) ≤ 100000000000000 := by decide +kernel
theorem DI_bnd_idx {n : Nat} {f : Nat → Nat → Int} {K0 K : Nat → Nat} (hn : 1 ≤ n) (h0 : ∀ c, c < n → (f 0 c).natAbs ≤ K0 c) (hb : ∀ i, 1 ≤ i → i < n → ∀ c, c < n → (f i c).natAbs ≤ K c) : (DI f (List.range n) (List.range n)).natAbs ≤ bnd K0 K (List.range n) := by
  obtain ⟨q, rfl⟩ : ∃ q, n = q + 1 := ⟨n - 1, by omega⟩
  have e : List.range (q + 1) = 0 :: (List.range q).map Nat.succ := List.range_succ_eq_map
  have := DI_bnd (f := f) (K0 := K0) (K := K) (r := 0) (rs := (List.range q).map Nat.succ) (cols := List.range (q + 1)) (by simp) (fun c hc => h0 c (List.mem_range.1 hc)) (fun i hi c hc => by
    obtain ⟨j, hj, rfl⟩ := List.mem_map.1 hi
    have := List.mem_range.1 hj
    exact hb (j + 1) (by omega) (by omega) c (List.mem_range.1 hc))
  rw [← e] at this
  exact this
section
variable {l : List Cask} {s : Sample} {e : Nat} {set : List Cond}
theorem mat_ent (h : RightL l s) (he : e ≤ 1) (hm : ∀ c, c ∈ set → c ∈ M.limits l s e) (i : Nat) (h1 : 1 ≤ i) (hi : i < set.length + 1) (j : Nat) (hj : j < l.length + e) : (en ((M.mat (M.shares l e) set).getD i []) j).natAbs ≤ Kb l.length j := by
  obtain ⟨q, rfl⟩ : ∃ q, i = q + 1 := ⟨i - 1, by omega⟩
  rw [matS]
  exact (limits_ent h he (hm _ (getD_mem (by omega)))).2.1 j hj
theorem mat_ent0 (j : Nat) : (en ((M.mat (M.shares l e) set).getD 0 []) j).natAbs ≤ S0 l.length j := by
  rw [mat0, shares_en]; omega
theorem mat_den (h : RightL l s) (he : e ≤ 1) (hs : set.length + 1 = l.length + e) (hm : ∀ c, c ∈ set → c ∈ M.limits l s e) : (DI en (M.mat (M.shares l e) set) (List.range (l.length + e))).natAbs ≤ 200000000000 := by
  rw [DI_idx (by simp [M.mat]; omega)]
  exact Nat.le_trans (DI_bnd_idx (K0 := S0 l.length) (K := Kb l.length) (by omega) (fun c _ => mat_ent0 c) (fun i h1 hi c hc => mat_ent h he hm i h1 (by omega) c hc)) (num_den _ h.n4 e he)
theorem limits_small (h : RightL l s) (he : e ≤ 1) : (M.shares l e).length = l.length + e ∧ (∀ x, x ∈ M.shares l e → x.natAbs ≤ 1000) ∧ (∀ c, c ∈ M.limits l s e → c.coefs.length = l.length + e) ∧ (∀ c, c ∈ M.limits l s e → ∀ x, x ∈ c.coefs → x.natAbs ≤ 1000) ∧ (∀ c, c ∈ M.limits l s e → c.limit.natAbs ≤ 10000) := by
  refine ⟨shares_len l e, ent_of (shares_len l e) (fun j _ => by rw [shares_en]; unfold S0; split <;> decide), fun c hc => (limits_ent h he hc).1, fun c hc => ?_, fun c hc => ?_⟩
  · obtain ⟨h1, h2, _⟩ := limits_ent h he hc
    refine ent_of h1 fun j hj => Nat.le_trans (h2 j hj) ?_
    unfold Kb; split <;> decide
  · have := (limits_ent h he hc).2.2; omega
theorem small_of (h : RightL l s) (he : e ≤ 1) {wo : List Int} (hwl : wo.length = l.length + e) (hwe : ∀ x, x ∈ wo → x.natAbs ≤ 1000) : Small (l.length + e) (M.shares l e) wo s.vol (M.limits l s e) := by
  obtain ⟨a1, a2, a3, a4, a5⟩ := limits_small h he
  have hv : s.vol.natAbs ≤ 10000 := by have := h.v; omega
  have n5 : l.length + e ≤ 5 := by have := h.n4; omega
  refine ⟨by have := h.n1; omega, n5, a1, hwl, a2, hwe, hv, a3, a4, a5, ?_⟩
  intro set hs hm hd c hc
  have hq := sq_mat n5 a1 a2 a3 a4 hs hm
  have hr := right_small (set := set) hv a5 hm
  obtain ⟨e1, e2, e3⟩ := solve_exact hq hr hd
  have hcl := a3 c hc
  constructor
  · have := dot_exact c.coefs (M.sol (M.mat (M.shares l e) set) (M.right s.vol set)) 0 1000000000000000000 (by rw [hcl, e2]) (fun k hk => by
      have hk : k < l.length + e := by omega
      have hb : (en (M.sol (M.mat (M.shares l e) set) (M.right s.vol set)) k).natAbs ≤ bnd (fun c => if c = k then 10000 else S0 l.length c) (fun c => if c = k then 10000 else Kb l.length c) (List.range (l.length + e)) := by
        show ((M.sol (M.mat (M.shares l e) set) (M.right s.vol set)).getD k 0).natAbs ≤ _
        rw [e3 k hk, if_neg_abs, setCol_DI hq.len hq.row hk]
        refine DI_bnd_idx (by omega) (fun j hj => ?_) (fun i h1 hi j hj => ?_)
        · by_cases ej : j = k
          · rw [if_pos ej, if_pos ej, right0]; exact hv
          · rw [if_neg ej, if_neg ej]; exact mat_ent0 j
        · by_cases ej : j = k
          · rw [if_pos ej, if_pos ej]; exact hr i
          · rw [if_neg ej, if_neg ej]; exact mat_ent h he hm i h1 (by omega) j hj
      rw [Int.natAbs_mul]
      exact Nat.le_trans (Nat.mul_le_mul ((limits_ent h he hc).2.1 k hk) hb) (num_sol _ h.n4 e he k (by omega))) (by rw [hcl]; have : (l.length + e) * 1000000000000000000 ≤ 5 * 1000000000000000000 := Nat.mul_le_mul_right _ n5; omega)
    rw [this, hcl]; omega
  · have h1 := mat_den h he hs hm
    have h2 := (limits_ent h he hc).2.2
    rw [e1]
    have m0 : 0 ≤ c.limit * ((DI en (M.mat (M.shares l e) set) (List.range (l.length + e))).natAbs : Int) := Int.mul_nonneg h2.1 (by omega)
    have m1 : c.limit * ((DI en (M.mat (M.shares l e) set) (List.range (l.length + e))).natAbs : Int) ≤ 10000 * 200000000000 := Int.mul_le_mul h2.2 (by omega) (by omega) (by decide)
    exact wrap_id (by omega) (by omega)
end
end
end Go.Bl
end
