/- From a row's arguments to a contract: values made of whole numbers only; the law's end. Plain Lean over the kit's laws. -/
import Derived.Test.YtcgdcocmnmkhlaaDoorE11
import Derived.ChangeSame
import Derived.ChangeVars
import Derived.ProofKit
import Derived.LaidMore
import Derived.OpenShut
import Derived.Carry
namespace Go.Eng
open Go Go.ChangeShapes Go.WideShapes Go.RowKit Go.ChangeAt

/-- The fields lie one behind the other. -/
def tiles (P : Program) : List Field → Nat → Nat → Bool
  | [], o, c => Nat.beq o c
  | f :: fs, o, c => Nat.beq f.offset o && tiles P fs (o + P.cellsOf f.type) c
/-- Nothing but whole numbers of 64 bits. -/
def allI (P : Program) : Nat → TypeId → Bool
  | 0, _ => false
  | k + 1, t => match P.underlying t with
    | some (.int .i64) => true
    | some (.struct fs) => fs.toList.all (fun f => allI P k f.type) && tiles P fs.toList 0 (P.cellsOf t)
    | _ => false

def ints (ns : List Int) : List Value := ns.map (.int .i64)

section
variable {H : Type} {enc : TypeId × Value → H} {P : Program} {w : World} {base : Nat} {sp : Nat → Bool} {hd : Bool}

theorem tiles_ints : ∀ (fs : List Field) (o c : Nat) (cs : List Value), tiles P fs o c = true → cs.length = c →
    (∀ f ∈ fs, ∃ ns, (cs.drop f.offset).take (P.cellsOf f.type) = ints ns) → ∃ ns, cs.drop o = ints ns
  | [], o, c, cs, h, hl, _ => by
    have : o = c := Nat.eq_of_beq_eq_true h
    exact ⟨[], by rw [this, ← hl]; simp [ints]⟩
  | f :: fs, o, c, cs, h, hl, hf => by
    simp only [tiles, Bool.and_eq_true] at h
    have ho : f.offset = o := Nat.eq_of_beq_eq_true h.1
    obtain ⟨ns, hn⟩ := hf f (List.mem_cons_self ..)
    obtain ⟨ms, hm⟩ := tiles_ints fs _ c cs h.2 hl fun g hg => hf g (List.mem_cons_of_mem _ hg)
    refine ⟨ns ++ ms, ?_⟩
    rw [ho] at hn
    have e : cs.drop o = (cs.drop o).take (P.cellsOf f.type) ++ (cs.drop o).drop (P.cellsOf f.type) := (List.take_append_drop _ _).symm
    rw [e, hn, List.drop_drop, hm]
    simp [ints]

theorem trod_allI : ∀ (k fuel : Nat) (t : TypeId) (cs : List Value) (x : DataW H × List MemPlace), allI P k t = true → DataW.trod enc P w base sp hd fuel t cs = some x →
    (∃ ns, cs = ints ns) ∧ x.2 = []
  | 0, _, _, _, _, h, _ => by cases h
  | k + 1, fuel, t, cs, x, h, hx => by
    unfold allI at h
    split at h
    · rename_i ht
      obtain ⟨n, rfl, rfl, _⟩ := DataW.trod_int ht hx
      exact ⟨⟨[n], rfl⟩, rfl⟩
    · rename_i fs ht
      simp only [Bool.and_eq_true, List.all_eq_true] at h
      obtain ⟨xs, n, _, rfl, hl, hlen, hf⟩ := DataW.trod_struct ht hx
      have each : ∀ (i : Nat) (f : Field), fs[i]? = some f → ∃ y, xs[i]? = some y ∧ (∃ ns, (cs.drop f.offset).take (P.cellsOf f.type) = ints ns) ∧ y.2 = [] := by
        intro i f hi
        have hlt : i < xs.length := by rw [hlen]; exact (Array.getElem?_eq_some_iff.1 hi).1
        have hy : xs[i]? = some xs[i] := List.getElem?_eq_getElem hlt
        have := hf i f hi
        rw [hy] at this
        have hm : f ∈ fs.toList := by
          have := Array.mem_of_getElem? hi
          simpa using this
        obtain ⟨h1, h2⟩ := trod_allI k n f.type _ _ (h.1 f hm) this
        exact ⟨_, hy, h1, h2⟩
      constructor
      · obtain ⟨ns, hn⟩ := tiles_ints fs.toList 0 (P.cellsOf t) cs h.2 hl (by
          intro f hm
          obtain ⟨i, hi, hi'⟩ := List.getElem_of_mem hm
          obtain ⟨_, _, h1, _⟩ := each i f (by rw [← Array.getElem?_toList, List.getElem?_eq_getElem hi, hi'])
          exact h1)
        exact ⟨ns, by simpa using hn⟩
      · simp only [List.flatMap_eq_nil_iff]
        intro y hy
        obtain ⟨i, hi, hi'⟩ := List.getElem_of_mem hy
        have hlt : i < fs.size := by rw [← hlen]; exact hi
        obtain ⟨y', h1, _, h3⟩ := each i fs[i] (Array.getElem?_eq_getElem hlt)
        rw [List.getElem?_eq_getElem hi, hi'] at h1
        cases h1
        exact h3
    · cases h

/-- A struct of whole numbers, by value. -/
theorem open_aggI {r : Reach} {b0 : Nat} {t : TypeId} {fs : Array Field} {v : Value} {d : DataW H} {p : List MemPlace} (k n : Nat) (ht : P.underlying t = some (.struct fs)) (ha : allI P k t = true) (hn : P.cellsOf t = n)
    (hv : Value.okWide P w r b0 t v) (h : DataW.Trod enc P w base sp hd t v d p) : ∃ ns : List Int, ns.length = n ∧ v = .agg (ints ns).toArray ∧ p = [] := by
  obtain ⟨cs, rfl, hsz⟩ := okWide_struct ht hv
  obtain ⟨fuel, hf⟩ := h
  obtain ⟨⟨ns, hns⟩, hp⟩ := trod_allI k fuel t _ _ ha hf
  have hns' : cs.toList = ints ns := hns
  have hl : cs.toList.length = (ints ns).length := by rw [hns']
  refine ⟨ns, ?_, ?_, hp⟩
  · simp [ints] at hl
    omega
  · rw [← hns']
theorem list4 {α : Type} {l : List α} (h : l.length = 4) : ∃ a b c d, l = [a, b, c, d] := by
  match l, h with
  | [a, b, c, d], _ => exact ⟨a, b, c, d, rfl⟩
theorem list2 {α : Type} {l : List α} (h : l.length = 2) : ∃ a b, l = [a, b] := by
  match l, h with
  | [a, b], _ => exact ⟨a, b, rfl⟩
theorem list3 {α : Type} {l : List α} (h : l.length = 3) : ∃ a b c, l = [a, b, c] := by
  match l, h with
  | [a, b, c], _ => exact ⟨a, b, c, rfl⟩
theorem list6 {α : Type} {l : List α} (h : l.length = 6) : ∃ a b c d e f, l = [a, b, c, d, e, f] := by
  match l, h with
  | [a, b, c, d, e, f], _ => exact ⟨a, b, c, d, e, f, rfl⟩
theorem list7 {α : Type} {l : List α} (h : l.length = 7) : ∃ a b c d e f g, l = [a, b, c, d, e, f, g] := by
  match l, h with
  | [a, b, c, d, e, f, g], _ => exact ⟨a, b, c, d, e, f, g, rfl⟩

theorem trodAll_below (hl : laidOutB P = true) {W W' : World} (hb : Below W.heap.size W W') : ∀ {ts : List TypeId} {vs : List Value} {ds : List (DataW H)} {ps : List MemPlace},
    (∀ t ∈ ts, P.readableRec t = true ∧ t < P.types.size) → DataW.TrodAll enc P W 0 (fun _ => true) true ts vs ds ps → (∀ x ∈ ps, x.block < W.heap.size) →
    DataW.TrodAll enc P W' 0 (fun b => decide (b < W.heap.size)) true ts vs ds ps
  | [], _, _, _, _, h, _ => by
    obtain ⟨rfl, rfl, rfl⟩ := trodAll_nil h
    exact trodAll_mk0
  | t :: ts, _, _, _, hr, h, hlt => by
    obtain ⟨v, vs1, d, ds1, a, b, rfl, rfl, rfl, h1, h2⟩ := trodAll_cons h
    refine ⟨a, b, ?_, trodAll_below hl hb (fun u hu => hr u (List.mem_cons_of_mem _ hu)) h2 fun x hx => hlt x (List.mem_append_right _ hx), rfl⟩
    have ht := hr t (List.mem_cons_self ..)
    exact Below.trod hl ht.1 ht.2 h1 hb fun x hx => hlt x (List.mem_append_left _ hx)

/-- A LAW's END: it answers true; its arguments read as they did. -/
theorem law_post {fn : Func} {s : ChangeSpec} {apart fresh handsOn : Bool} {W W' : World} {args : Array Value} {ds gs : List (DataW H)} {before : List MemPlace} {tb : TypeId} (hl : laidOutB P = true)
    (hr : ∀ t ∈ fn.params.toList, P.readableRec t = true ∧ t < P.types.size) (hv : s.vars = []) (hrt : fn.resultTypes = #[tb]) (hbool : P.underlying tb = some .bool)
    (hfn : s.fn H ds = { results := [.lit (.bool true)], args := ds })
    (hW : DataW.Whole enc P fn.params.toList s.vars apart W args.toList ds gs before) (hb : Below W.heap.size W W') : s.post enc P fn apart fresh handsOn false W args (.bool true) W' := by
  have hW' := hW
  obtain ⟨p, q, hA, hV, rfl, _, _⟩ := hW'
  have hlt : ∀ x ∈ p ++ q, x.block < W.heap.size := fun x hx => hW.lt x hx
  rw [hv] at hV
  have hgs : gs = [] ∧ q = [] := by
    cases gs with
    | nil => exact ⟨rfl, hV⟩
    | cons g r => exact absurd hV (by intro h; cases h)
  obtain ⟨rfl, rfl⟩ := hgs
  have e : s.fn H (ds ++ []) = { results := [.lit (.bool true)], args := ds } := by rw [List.append_nil]; exact hfn
  refine ⟨ds, [], _, [], p, [], hW, ?_, ?_, ?_, hb.frame _, fun h => by cases h⟩
  · rw [e, hrt]
    exact trodAll_mk1 (shut_bool hbool true)
  · rw [e]
    exact trodAll_below hl hb hr hA fun x hx => hlt x (List.mem_append_left _ hx)
  · rw [e, hv]
    rfl
end
end Go.Eng
