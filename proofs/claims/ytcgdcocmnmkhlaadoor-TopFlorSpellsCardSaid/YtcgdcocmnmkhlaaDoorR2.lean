/- From a row's arguments to a contract of the second engine: slices of structs of whole numbers, arrays of whole numbers. Plain Lean over the kit's laws. -/
import Derived.Test.YtcgdcocmnmkhlaaDoorR0
import Derived.Test.YtcgdcocmnmkhlaaDoorVD
import Derived.ChangeArms
set_option linter.unusedVariables false
set_option linter.unusedSimpArgs false
namespace Go.V
open Go Go.ChangeShapes Go.WideShapes Go.RowKit Go.ChangeAt
open Go.Eng (allI ints trod_allI)

section
variable {H : Type} {enc : TypeId × Value → H} {P : Program} {w : World} {base : Nat} {sp : Nat → Bool} {hd : Bool}

theorem list1 {α : Type} {l : List α} (h : l.length = 1) : ∃ a0, l = [a0] := by
  match l, h with
  | [a0], _ => exact ⟨a0, rfl⟩
theorem list5 {α : Type} {l : List α} (h : l.length = 5) : ∃ a0 a1 a2 a3 a4, l = [a0, a1, a2, a3, a4] := by
  match l, h with
  | [a0, a1, a2, a3, a4], _ => exact ⟨a0, a1, a2, a3, a4, rfl⟩
theorem list8 {α : Type} {l : List α} (h : l.length = 8) : ∃ a0 a1 a2 a3 a4 a5 a6 a7, l = [a0, a1, a2, a3, a4, a5, a6, a7] := by
  match l, h with
  | [a0, a1, a2, a3, a4, a5, a6, a7], _ => exact ⟨a0, a1, a2, a3, a4, a5, a6, a7, rfl⟩
theorem list10 {α : Type} {l : List α} (h : l.length = 10) : ∃ a0 a1 a2 a3 a4 a5 a6 a7 a8 a9, l = [a0, a1, a2, a3, a4, a5, a6, a7, a8, a9] := by
  match l, h with
  | [a0, a1, a2, a3, a4, a5, a6, a7, a8, a9], _ => exact ⟨a0, a1, a2, a3, a4, a5, a6, a7, a8, a9, rfl⟩
theorem list14 {α : Type} {l : List α} (h : l.length = 14) : ∃ a0 a1 a2 a3 a4 a5 a6 a7 a8 a9 a10 a11 a12 a13, l = [a0, a1, a2, a3, a4, a5, a6, a7, a8, a9, a10, a11, a12, a13] := by
  match l, h with
  | [a0, a1, a2, a3, a4, a5, a6, a7, a8, a9, a10, a11, a12, a13], _ => exact ⟨a0, a1, a2, a3, a4, a5, a6, a7, a8, a9, a10, a11, a12, a13, rfl⟩
/-- A slice of elements of whole numbers. -/
theorem open_slI {r : Reach} {b0 : Nat} {t e : TypeId} {v : Value} {d : DataW H} {p : List MemPlace} (k n : Nat) (ht : P.underlying t = some (.slice e)) (ha : allI P k e = true) (hn : P.cellsOf e = n) (hn0 : 0 < n)
    (hv : Value.okWide P w r b0 t v) (h : DataW.Trod enc P w base sp hd t v d p) : ∃ (len : Nat) (f : Nat → Nat → Int), (D.sl false len n fun i j => .int .i64 (f i j)).rel (fullK w) v := by
  obtain ⟨a0, len0, cap0, rfl⟩ := okWide_slice ht hv
  obtain ⟨fuel, hf⟩ := h
  have hc : (Value.slice a0 len0 cap0).cells.toList = [Value.slice a0 len0 cap0] := rfl
  rw [hc] at hf
  rcases DataW.trod_slice ht hf with ⟨h1, _⟩ | ⟨a, len, cap, elems, rest, n', _, h1, _, _, hlc, _, hel, hget, _⟩
  · simp only [List.cons.injEq, Value.slice.injEq, and_true] at h1
    obtain ⟨rfl, rfl, rfl⟩ := h1
    exact ⟨0, fun _ _ => 0, .inl ⟨rfl, rfl, rfl⟩⟩
  · simp only [List.cons.injEq, Value.slice.injEq, and_true] at h1
    obtain ⟨rfl, rfl, rfl⟩ := h1
    rw [hn] at hget
    have each : ∀ i, i < len0 → ∃ ns : List Int, ∀ j, j < n → w.cell? ((a.add (i * n)).add j) = some (.int .i64 (ns.getD j 0)) := by
      intro i hi
      have hg := hget i hi
      have hlt : i < elems.length := by omega
      rw [List.getElem?_eq_getElem hlt] at hg
      simp only [Option.bind_eq_some_iff] at hg
      obtain ⟨cs, hcs, hx⟩ := hg
      obtain ⟨⟨ns, hns⟩, _⟩ := trod_allI k n' e cs _ ha hx
      obtain ⟨_, hl, hcell⟩ := World.cells?_some hcs
      refine ⟨ns, fun j hj => ?_⟩
      rw [hcell j hj, hns]
      have hl' : ns.length = n := by rw [hns] at hl; simpa [ints] using hl
      have hj' : j < ns.length := by omega
      simp [ints, List.getElem?_map, List.getD, List.getElem?_eq_getElem hj']
    have spot0 : 0 < len0 → a.spot = none := by
      intro hp
      have h9 := Classical.choose_spec (each 0 hp) 0 hn0
      have := World.cell?_spot h9
      simpa [Addr.add] using this
    refine ⟨len0, fun i j => if h : i < len0 then (Classical.choose (each i h)).getD j 0 else 0, .inr ⟨a, cap0, rfl, hlc, spot0, fun i j hi hj => ?_⟩⟩
    have hs := Classical.choose_spec (each i hi) j hj
    have hp : a.spot = none := spot0 (by omega)
    have e1 : (a.add (i * n)).add j = ⟨a.block, a.off + i * n + j, none⟩ := by
      obtain ⟨b, off, spot⟩ := a
      simp only at hp
      subst hp
      rw [Go.WideShapes.add_plain, Go.WideShapes.add_plain]
    rw [e1] at hs
    refine ⟨_, fullK_cell hs, ?_⟩
    simp only [dif_pos hi]
    rfl

/-- Nothing but whole numbers of 64 bits: structs, and arrays of them. -/
def allJ (P : Program) : Nat → TypeId → Bool
  | 0, _ => false
  | k + 1, t => match P.underlying t with
    | some (.int .i64) => true
    | some (.struct fs) => fs.toList.all (fun f => allJ P k f.type) && Eng.tiles P fs.toList 0 (P.cellsOf t)
    | some (.array n e) => allJ P k e && Nat.beq (P.cellsOf t) (n * P.cellsOf e)
    | _ => false
theorem rows_ints : ∀ (n c : Nat) (cs : List Value), cs.length = n * c → (∀ i, i < n → ∃ ns, (cs.drop (i * c)).take c = ints ns) → ∃ ns, cs = ints ns
  | 0, c, cs, h, _ => ⟨[], by have : cs.length = 0 := by simpa using h
                              cases cs with
                              | nil => rfl
                              | cons => simp at this⟩
  | n + 1, c, cs, h, hf => by
    obtain ⟨ns, hn⟩ := hf 0 (by omega)
    obtain ⟨ms, hm⟩ := rows_ints n c (cs.drop c) (by rw [List.length_drop, h, Nat.succ_mul]; omega) fun i hi => by
      obtain ⟨ks, hk⟩ := hf (i + 1) (by omega)
      refine ⟨ks, ?_⟩
      rw [List.drop_drop, show c + i * c = (i + 1) * c by rw [Nat.succ_mul]; omega]
      exact hk
    refine ⟨ns ++ ms, ?_⟩
    rw [Nat.zero_mul, List.drop_zero] at hn
    rw [← List.take_append_drop c cs, hn, hm]
    simp [ints]
theorem trod_allJ : ∀ (k fuel : Nat) (t : TypeId) (cs : List Value) (x : DataW H × List MemPlace), allJ P k t = true → DataW.trod enc P w base sp hd fuel t cs = some x →
    (∃ ns, cs = ints ns) ∧ x.2 = []
  | 0, _, _, _, _, h, _ => by cases h
  | k + 1, fuel, t, cs, x, h, hx => by
    unfold allJ at h
    split at h
    · rename_i ht
      obtain ⟨n, rfl, rfl, _⟩ := DataW.trod_int ht hx
      exact ⟨⟨[n], rfl⟩, rfl⟩
    · rename_i fs ht
      simp only [Bool.and_eq_true, List.all_eq_true] at h
      obtain ⟨xs, n, _, rfl, hl, hlen, hf⟩ := DataW.trod_struct ht hx
      have each : ∀ (i : Nat) (f : Field), fs[i]? = some f → ∃ y, xs[i]? = some y ∧ (∃ ns, (cs.drop f.offset).take (P.cellsOf f.type) = ints ns) ∧ y.2 = [] := by
        intro i f hi
        have hlt : i < xs.length := by rw [hlen]; exact (Array.getElem?_eq_some_iff.1 hi).1
        have hy : xs[i]? = some xs[i] := List.getElem?_eq_getElem hlt
        have := hf i f hi
        rw [hy] at this
        have hm : f ∈ fs.toList := by
          have := Array.mem_of_getElem? hi
          simpa using this
        obtain ⟨h1, h2⟩ := trod_allJ k n f.type _ _ (h.1 f hm) this
        exact ⟨_, hy, h1, h2⟩
      constructor
      · obtain ⟨ns, hn⟩ := Eng.tiles_ints fs.toList 0 (P.cellsOf t) cs h.2 hl (by
          intro f hm
          obtain ⟨i, hi, hi'⟩ := List.getElem_of_mem hm
          obtain ⟨_, _, h1, _⟩ := each i f (by rw [← Array.getElem?_toList, List.getElem?_eq_getElem hi, hi'])
          exact h1)
        exact ⟨ns, by simpa using hn⟩
      · simp only [List.flatMap_eq_nil_iff]
        intro y hy
        obtain ⟨i, hi, hi'⟩ := List.getElem_of_mem hy
        have hlt : i < fs.size := by rw [← hlen]; exact hi
        obtain ⟨y', h1, _, h3⟩ := each i fs[i] (Array.getElem?_eq_getElem hlt)
        rw [List.getElem?_eq_getElem hi, hi'] at h1
        cases h1
        exact h3
    · rename_i n e ht
      simp only [Bool.and_eq_true] at h
      obtain ⟨xs, m, _, ex, hlen, hl, hel⟩ := DataW.trod_array ht hx
      have hcz : P.cellsOf t = n * P.cellsOf e := Nat.eq_of_beq_eq_true h.2
      have each : ∀ i, i < n → ∃ y, xs[i]? = some y ∧ (∃ ns, (cs.drop (i * P.cellsOf e)).take (P.cellsOf e) = ints ns) ∧ y.2 = [] := by
        intro i hi
        have hlt : i < xs.length := by omega
        have hy : xs[i]? = some xs[i] := List.getElem?_eq_getElem hlt
        have := hel i hi
        rw [hy] at this
        obtain ⟨h1, h2⟩ := trod_allJ k m e _ _ h.1 this
        exact ⟨_, hy, h1, h2⟩
      subst ex
      constructor
      · exact rows_ints n (P.cellsOf e) cs (by rw [← hcz]; exact hlen) fun i hi => (each i hi).elim fun y hy => hy.2.1
      · simp only [List.flatMap_eq_nil_iff]
        intro y hy
        obtain ⟨i, hi, hi'⟩ := List.getElem_of_mem hy
        obtain ⟨y', h1, _, h3⟩ := each i (by omega)
        rw [List.getElem?_eq_getElem hi, hi'] at h1
        cases h1
        exact h3
    · cases h
theorem open_aggJ {r : Reach} {b0 : Nat} {t : TypeId} {fs : Array Field} {v : Value} {d : DataW H} {p : List MemPlace} (k n : Nat) (ht : P.underlying t = some (.struct fs)) (ha : allJ P k t = true) (hn : P.cellsOf t = n)
    (hv : Value.okWide P w r b0 t v) (h : DataW.Trod enc P w base sp hd t v d p) : ∃ ns : List Int, ns.length = n ∧ v = .agg (ints ns).toArray ∧ p = [] := by
  obtain ⟨cs, rfl, hsz⟩ := okWide_struct ht hv
  obtain ⟨fuel, hf⟩ := h
  obtain ⟨⟨ns, hns⟩, hp⟩ := trod_allJ k fuel t _ _ ha hf
  have hns' : cs.toList = ints ns := hns
  have hl : cs.toList.length = (ints ns).length := by rw [hns']
  refine ⟨ns, ?_, ?_, hp⟩
  · simp [ints] at hl
    omega
  · rw [← hns']
end
end Go.V
