/- The parts of the engines, of their contracts and of the plain laws that the claim rests on: E6, E7, E8, E9, E10, E11, E12, U18, U30, M, D, F0, F1, F3, L, F5, F2, F4, F6, F7, F8, F9, D2, L2, F10, L3, L4, L5, L6, L7, D3, W0, F13, F12, W1, W2, W3, W4, W5, W6, W7, W8. -/
import Derived.Test.YtcgdcocmnmkhlaaDoorFB2
import Derived.WalkKit
import Derived.Test.YtcgdcocmnmkhlaaDoorRows
set_option linter.unusedVariables false
set_option linter.unusedSimpArgs false
section
set_option linter.unusedVariables false
set_option linter.unusedSimpArgs false
namespace Go.Eng
open Go.RowKit (Below)
/-- A summary: of the arguments, the named blocks and the first new name: a condition, the result, the new blocks. -/
abbrev Sm := List A → (Nat → Option Blk) → Nat → Option (List Prop × V × List Blk)
/-- What a call of a summed function comes to. -/
def Ends (ρ : Ren) (c : Nat) (v : V) (N : List Blk) (w : World) (e : Ending) (w' : World) : Prop :=
  ∃ (ρ' : Ren) (x : Value), e = .returned x ∧ ρ.le ρ' ∧ (∀ m, ρ m = none → (m < c ∨ c + N.length ≤ m) → ρ' m = none) ∧ v.rel ρ' x ∧ Below w.heap.size w w' ∧
    (∀ i k, N[i]? = some k → ∃ b, ρ' (c + i) = some b ∧ w.heap.size ≤ b.1 ∧ b.1 < w'.heap.size ∧ k.rel ρ' b.1 w') ∧
    (∀ i j b b', i < N.length → j < N.length → i ≠ j → ρ' (c + i) = some b → ρ' (c + j) = some b' → b.1 ≠ b'.1)
def namesL : List A → List Nat
  | [] => []
  | a :: l => a.names ++ namesL l
structure SumOK (P : Program) (gw : World → Prop) (f : FuncId) (σ : Sm) : Prop where
  enter : ∀ (args : Array Value) (w : World), (callFunc f args).run P w = .ok (.enter f args) w
  loc : ∀ args c hp hp', (∀ m, m ∈ namesL args → hp m = hp' m) → σ args hp c = σ args hp' c
  ok : ∀ args c hp p v N, σ args hp c = some (p, v, N) → All p → ∀ (ρ : Ren) (xs : List Value) (w : World), gw w → F2 (A.rel ρ) args xs →
    (∀ m k, hp m = some k → ∃ b, ρ m = some b ∧ b.1 < w.heap.size ∧ k.rel ρ b.1 w) → (∀ i, i < N.length → ρ (c + i) = none) → Calls P f xs.toArray w (Ends ρ c v N w)
theorem run_callFunc {P : Program} {f : FuncId} {fn : Func} (h : P.funcs[f]? = some fn) (hn : (fn.name == "runtime.NumGoroutine") = false) (hb : fn.body.isNone = false) (args : Array Value) (w : World) :
    (callFunc f args).run P w = .ok (.enter f args) w := by
  unfold callFunc
  simp only [Sem.run_bind, run_program, Result.andThen_ok, h, hn, Bool.false_eq_true, if_false, hb]
  rfl
section
variable (P : Program) (G n0 : Nat) (sg : FuncId → Option Sm)
def zeroL (n : Nat) (zl : List C) : List C := (List.range n).map fun i => zl.getD (i % zl.length) (.lit false)
def effM (o : Oper) (c : Nat) (s : S) : Option (Eff × List Prop) :=
  match o.op with
  | .alloc elem => (match P.info? elem with
    | some i => (match i.zero with
      | some z => (match ofCells true z.cells.toList with | some cs => some (⟨some (.a (.c (.ptr c 0))), [.known elem cs], none⟩, []) | none => none)
      | none => none)
    | none => none)
  | .box elem x => (match look G s x with | some (.a y) => some (⟨some (.a (.c (.ptr c 0))), [.known elem y.cells], none⟩, []) | _ => none)
  | .buildSlice t len parts => (match P.underlying t, looks G s parts.toList with
    | some (.slice elem), some ps => (match P.info? elem with
      | some i => (match i.zero with
        | some z => (match ofCells true z.cells.toList, Nat.ble (len * i.size) 16777216 && Nat.blt 0 z.cells.size with
          | some zl, true => (match fillA (fun j => some (j * i.size, i.size)) (zeroL (len * i.size) zl) ps with
            | some r => some (⟨some (.a (.c (.sl c 0 len len))), [.known elem r], none⟩, [])
            | none => none)
          | _, _ => none)
        | none => none)
      | none => none)
    | _, _ => none)
  | .makeSlice t l cp => (match P.underlying t, look G s l, look G s cp with
    | some (.slice elem), some (.a (.c (.num _ n))), some (.a (.c (.num _ m))) => (match P.info? elem with
      | some i => (match i.zero with
        | some z => (match ofCells true z.cells.toList, decide (0 ≤ n ∧ n ≤ m ∧ m ≤ 1000000 ∧ i.bytes ≤ 1000000) && Nat.blt 0 z.cells.size with
          | some zl, true => some (⟨some (.a (.c (.sl c 0 n.toNat m.toNat))), [.known elem (zeroL (m.toNat * i.size) zl)], none⟩, [])
          | _, _ => none)
        | none => none)
      | none => none)
    | _, _, _ => none)
  | .store t x y => (match look G s x, look G s y, P.info? t with
    | some (.a (.c (.ptr m off))), some (.a v), some i => (match s.hp m with
      | some (.known e cs) => (match Nat.ble n0 m && Nat.beq v.cells.length i.size && Nat.ble (off + v.cells.length) cs.length with
        | true => some (⟨none, [], some (m, .known e (cs.take off ++ v.cells ++ cs.drop (off + v.cells.length)))⟩, [])
        | false => none)
      | _ => none)
    | _, _, _ => none)
  | .call cl => (match cl.callee with
    | .value f => (match look G s f, lookAll G s cl.args.toList with
      | some (.a (.c (.fn g caps))), some args => (match sg g with
        | some σ => (match σ (args ++ caps.map fun q => .c (.ptr q.1 q.2)) s.hp c with
          | some (p, v, N) => some (⟨some v, N, none⟩, p)
          | none => none)
        | none => none)
      | _, _ => none)
    | _ => (match effV P G o s with | some (v, p) => some (⟨some v, [], none⟩, p) | none => none))
  | _ => (match effV P G o s with | some (v, p) => some (⟨some v, [], none⟩, p) | none => none)
end
section
variable {P : Program} {G n0 N : Nat} {sg : FuncId → Option Sm} {gw : World → Prop} {w0 : World} {ρ : Ren} {s s' : S} {a : Act} {w : World} {Q : Exit → Act → World → Prop}
theorem f2_map_range {α β : Type} {R : α → β → Prop} {f : Nat → α} {g : Nat → β} (h : ∀ i, R (f i) (g i)) : ∀ (l : List Nat), F2 R (l.map f) (l.map g)
  | [] => .nil
  | x :: l => .cons (h x) (f2_map_range h l)
theorem zeroL_rel {ρ : Ren} {zl : List C} {z : Array Value} (h : F2 (C.rel ρ) zl z.toList) (hp : 0 < z.size) (n : Nat) : F2 (C.rel ρ) (zeroL n zl) ((Array.range n).map (z[· % z.size]!)).toList := by
  have hl : zl.length = z.size := by rw [f2_len h]; simp
  have e : ((Array.range n).map (z[· % z.size]!)).toList = (List.range n).map (fun i => z[i % z.size]!) := by simp
  rw [e]
  unfold zeroL
  refine f2_map_range (fun i => ?_) _
  have hi : i % zl.length < zl.length := Nat.mod_lt _ (by omega)
  obtain ⟨y, hy, hr⟩ := f2_get h (i := i % zl.length) (List.getElem?_eq_getElem hi)
  rw [hl] at hy
  simp only [List.getD_eq_getElem?_getD, List.getElem?_eq_getElem hi, Option.getD_some]
  have : z[i % z.size]! = y := by
    have : z[i % z.size]? = some y := by simpa using hy
    simp [getElem!_def, this]
  rw [this]; exact hr
theorem map_range_zero {α : Type} {n : Nat} (h : n = 0) (g : Nat → α) : (Array.range n).map g = #[] := by subst h; apply Array.ext'; simp
theorem ptr_names {ρ : Ren} : ∀ {l : List (Nat × Nat)} {xs : List Value}, F2 (PtrRel ρ) l xs → F2 (A.rel ρ) (l.map fun q => A.c (.ptr q.1 q.2)) xs
  | _, _, .nil => .nil
  | _, _, .cons r rs => .cons r (ptr_names rs)
theorem new_le {c : Nat} (hf : ρ c = none) (b : Nat × Nat) : ρ.le (upd ρ c (some b)) := by
  intro m x hm
  by_cases e : m = c
  · subst e; rw [hf] at hm; cases hm
  · rw [upd_ne _ _ e]; exact hm
/-- One new block. -/
theorem Rel.alloc1 (h : Rel w0 n0 N ρ s a w) {dst : Option Tmp} {c : Nat} {val : Option V} {k : Blk} {x : Value} {ob : Obj} (cap : Nat)
    (hd : ∀ d, dst = some d → d < N) (hn : n0 ≤ c) (hfresh : s.hp c = none)
    (hv : ∀ v, val = some v → v.rel (upd ρ c (some (w.heap.size, cap))) x) (hk : k.rel (upd ρ c (some (w.heap.size, cap))) w.heap.size (w.alloc ob)) :
    Rel w0 n0 N (upd ρ c (some (w.heap.size, cap))) (act dst c ⟨val, [k], none⟩ s) (a.put dst x) (w.alloc ob) := by
  have hf := h.dom c hfresh
  refine h.grow hd hn ((Below.refl _ _).alloc (Nat.le_refl _) ob) (new_le hf _) ?_ ?_ (fun v _ => hv v) ?_ ?_
  · intro m hm hout
    simp only [List.length_singleton] at hout
    rw [upd_ne _ _ (by omega)]; exact hm
  · intro i hi; simp at hi; subst hi; exact hfresh
  · intro i k' hi
    cases i with
    | zero =>
      simp at hi; subst hi
      exact ⟨_, upd_same _ _ _, Nat.le_refl _, by simp, hk⟩
    | succ i => simp at hi
  · intro i j b b' hi hj hne; simp at hi hj; omega
theorem Rel.quiet (h : Rel w0 n0 N ρ s a w) {dst : Option Tmp} {c : Nat} {val : Option V} {x : Value} (hd : ∀ d, dst = some d → d < N) (hn : n0 ≤ c) (hv : ∀ v, val = some v → v.rel ρ x) :
    Rel w0 n0 N ρ (act dst c ⟨val, [], none⟩ s) (a.put dst x) w := by
  refine h.grow hd hn (Below.refl _ _) (Ren.le_refl _) (fun m hm _ => hm) ?_ (fun v _ => hv v) ?_ ?_
  · intro i hi; simp at hi
  · intro i k hi; simp at hi
  · intro i j b b' hi; simp at hi
theorem new_block {w : World} {cs : Array Value} {e : TypeId} : (w.alloc (.cells cs e (0, 0))).heap[w.heap.size]? = some (.cells cs e (0, 0)) := heap_alloc_new w _
/-- ONE OPERATION: what the abstract state becomes is what the frame and the world become. sr: what the operation may see of s. -/
theorem effM_sound (hsg : ∀ f σ, sg f = some σ → SumOK P gw f σ) (h : Rel w0 n0 N ρ s a w) (hgl : ∀ g, g < G → ρ g = some (g, 0)) (hgw : gw w)
    (hview : View G ρ s' a w) (hsub : ∀ m k, s'.hp m = some k → s.hp m = some k)
    {o : Oper} {c : Nat} {e : Eff} {p : List Prop} (he : effM P G n0 sg o c s' = some (e, p)) (hp : All p) (hd : ∀ d, o.dst = some d → d < N) (hn : n0 ≤ c)
    (hfresh : ∀ i, i < e.nw.length → s.hp (c + i) = none) :
    o.wp P a w (fun a' w' => ∃ ρ', Rel w0 n0 N ρ' (act o.dst c e s) a' w' ∧ ρ.le ρ') Q := by
  have val_case : (match effV P G o s' with | some (v, p) => some ((⟨some v, [], none⟩ : Eff), p) | none => none) = some (e, p) →
      o.wp P a w (fun a' w' => ∃ ρ', Rel w0 n0 N ρ' (act o.dst c e s) a' w' ∧ ρ.le ρ') Q := by
    intro he
    split at he
    · rename_i v p' hv
      simp only [Option.some.injEq, Prod.mk.injEq] at he; obtain ⟨rfl, rfl⟩ := he
      obtain ⟨x, hx, hr⟩ := effV_sound hview hv hp
      unfold Oper.wp
      rw [hx, Oper.upon_value]
      exact ⟨ρ, h.quiet hd hn (fun v' hv' => by cases hv'; exact hr), Ren.le_refl _⟩
    · cases he
  unfold effM at he
  split at he
  case h_1 elem ho =>
    split at he
    · rename_i i hi
      split at he
      · rename_i z hz
        split at he
        · rename_i cs hcs
          simp only [Option.some.injEq, Prod.mk.injEq] at he; obtain ⟨rfl, rfl⟩ := he
          have hx : (execOp a.eval o).run P w = .ok (.value (.pointer (some ⟨w.heap.size, 0, none⟩))) (w.alloc (.cells z.cells elem (0, 0))) := by
            simp [execOp, ho, Instr.alloc, run_zeroValue' P hi hz, newVar, newRow]
          unfold Oper.wp
          rw [hx, Oper.upon_value]
          have hf := hfresh 0 (by simp)
          refine ⟨_, h.alloc1 0 hd hn hf ?_ ?_, new_le (h.dom c hf) _⟩
          · intro v hv; cases hv; exact ⟨_, upd_same _ _ _, rfl⟩
          · exact ⟨z.cells.toList, ofCells_rel _ hcs, by rw [Array.toArray_toList]; exact new_block⟩
        · cases he
      · cases he
    · cases he
  case h_2 elem x ho =>
    split at he
    · rename_i y hy
      simp only [Option.some.injEq, Prod.mk.injEq] at he; obtain ⟨rfl, rfl⟩ := he
      have hr := look_rel hview hy
      have hx : (execOp a.eval o).run P w = .ok (.value (.pointer (some ⟨w.heap.size, 0, none⟩))) (w.alloc (.cells (a.eval x).cells elem (0, 0))) := by
        simp [execOp, ho, Instr.box, newVar, newRow]
      unfold Oper.wp
      rw [hx, Oper.upon_value]
      have hf := hfresh 0 (by simp)
      have hle := new_le (h.dom c hf) (w.heap.size, 0)
      refine ⟨_, h.alloc1 0 hd hn hf ?_ ?_, hle⟩
      · intro v hv; cases hv; exact ⟨_, upd_same _ _ _, rfl⟩
      · exact ⟨(a.eval x).cells.toList, f2_imp (C.rel_mono hle) (A.rel_cells hr), by rw [Array.toArray_toList]; exact new_block⟩
    · cases he
  case h_3 t len parts ho =>
    split at he
    · rename_i elem ps hu hps
      split at he
      · rename_i i hi
        split at he
        · rename_i z hz
          split at he
          · rename_i zl hzl hok
            split at he
            · rename_i r hr
              simp only [Option.some.injEq, Prod.mk.injEq] at he; obtain ⟨rfl, rfl⟩ := he
              simp only [Bool.and_eq_true] at hok
              have h1 := Nat.le_of_ble_eq_true hok.1
              have h2 : 0 < z.cells.size := by simpa [Nat.blt_eq] using hok.2
              have hzr := zeroL_rel (ρ := ρ) (ofCells_rel ρ hzl) h2 (len * i.size)
              obtain ⟨k', hk, hrel⟩ := fillA_sound (looks_rel G hview hps) hzr hr
              have hk' : Instr.fill (fun j => some (j * i.size, i.size)) ((Array.range (len * i.size)).map (z.cells[· % z.cells.size]!)) (parts.map fun (i, x) => (i, a.eval x)).toList = some k' := by simpa using hk
              have hx : (execOp a.eval o).run P w = .ok (.value (.slice (some ⟨w.heap.size, 0, none⟩) len len)) (w.alloc (.cells k' elem (0, 0))) := by
                by_cases h0 : len * i.size = 0
                · have h3 : ¬ (2 ^ 24 < len * i.size) := by omega
                  rw [map_range_zero h0] at hk'
                  simp only [execOp, ho, Instr.buildSlice, Sem.run_bind, run_underlying hu, Result.andThen_ok, run_sizeOf' P hi, if_pos h0, newRow, run_newObj, Sem.run_pure, Sem.run_ite, gt_iff_lt, h3, if_false, map_range_zero h0, hk']
                  rfl
                · have h3 : ¬ (2 ^ 24 < len * i.size) := by omega
                  simp only [execOp, ho, Instr.buildSlice, Sem.run_bind, run_underlying hu, Result.andThen_ok, run_sizeOf' P hi, h0, if_false, run_zeroValue' P hi hz, hk', newRow, run_newObj, Sem.run_pure, Sem.run_ite, gt_iff_lt, h3]
                  rfl
              unfold Oper.wp
              rw [hx, Oper.upon_value]
              have hf := hfresh 0 (by simp)
              have hle := new_le (h.dom c hf) (w.heap.size, 0)
              refine ⟨_, h.alloc1 0 hd hn hf ?_ ?_, hle⟩
              · intro v hv; cases hv; exact ⟨_, upd_same _ _ _, rfl⟩
              · exact ⟨k'.toList, f2_imp (C.rel_mono hle) hrel, by rw [Array.toArray_toList]; exact new_block⟩
            · cases he
          · cases he
        · cases he
      · cases he
    · cases he
  case h_4 t l cp ho =>
    split at he
    · rename_i elem k1 n k2 m hu hl hc
      split at he
      · rename_i i hi
        split at he
        · rename_i z hz
          split at he
          · rename_i zl hzl hok
            simp only [Option.some.injEq, Prod.mk.injEq] at he; obtain ⟨rfl, rfl⟩ := he
            simp only [Bool.and_eq_true] at hok
            obtain ⟨g1, g2, g3, g4⟩ := of_decide_eq_true hok.1
            have h2 : 0 < z.cells.size := by simpa [Nat.blt_eq] using hok.2
            have hln : a.eval l = .int k1 n := look_rel hview hl
            have hcn : a.eval cp = .int k2 m := look_rel hview hc
            have hzr := zeroL_rel (ρ := ρ) (ofCells_rel ρ hzl) h2 (m.toNat * i.size)
            have wn : IntKind.i64.wrap n = n := by rw [IntKind.wrap_i64]; omega
            have wm : IntKind.i64.wrap m = m := by rw [IntKind.wrap_i64]; omega
            have hb : (i.bytes : Int) * m ≤ 2 ^ 48 := by
              have : (i.bytes : Int) * m ≤ 1000000 * 1000000 := Int.mul_le_mul (by omega) (by omega) (by omega) (by omega)
              omega
            have hx : (execOp a.eval o).run P w = .ok (.value (.slice (some ⟨w.heap.size, 0, none⟩) n.toNat m.toNat)) (w.alloc (.cells ((Array.range (m.toNat * i.size)).map (z.cells[· % z.cells.size]!)) elem (0, 0))) := by
              have c1 : ¬ (m < 0) := by omega
              have c2 : ¬ (281474976710656 < (i.bytes : Int) * m) := by omega
              have c3 : ¬ (n < 0) := by omega
              have c4 : ¬ (m < n) := by omega
              by_cases h0 : m.toNat * i.size = 0
              · rw [map_range_zero h0]
                simp [execOp, ho, hln, hcn, Instr.makeSlice, run_underlying hu, asInt, asIntOf, typeInfo, hi, wn, wm, c1, c2, c3, c4, run_sizeOf' P hi, if_pos h0, newRow, map_range_zero h0]
              · simp [execOp, ho, hln, hcn, Instr.makeSlice, run_underlying hu, asInt, asIntOf, typeInfo, hi, wn, wm, c1, c2, c3, c4, run_sizeOf' P hi, h0, newRow, run_zeroValue' P hi hz]
            unfold Oper.wp
            rw [hx, Oper.upon_value]
            have hf := hfresh 0 (by simp)
            have hle := new_le (h.dom c hf) (w.heap.size, 0)
            refine ⟨_, h.alloc1 0 hd hn hf ?_ ?_, hle⟩
            · intro v hv; cases hv; exact ⟨_, upd_same _ _ _, rfl⟩
            · exact ⟨_, f2_imp (C.rel_mono hle) hzr, by rw [Array.toArray_toList]; exact new_block⟩
          · cases he
        · cases he
      · cases he
    · cases he
  case h_5 t x y ho =>
    split at he
    · rename_i m off v i hx hy hi
      split at he
      · rename_i el cs hm
        split at he
        · rename_i hok
          simp only [Option.some.injEq, Prod.mk.injEq] at he; obtain ⟨rfl, rfl⟩ := he
          simp only [Bool.and_eq_true] at hok
          have g1 := Nat.le_of_ble_eq_true hok.1.1
          have g2 : v.cells.length = i.size := Nat.eq_of_beq_eq_true hok.1.2
          have g3 := Nat.le_of_ble_eq_true hok.2
          obtain ⟨b, hb, hxv⟩ := look_rel hview hx
          have hyv := look_rel hview hy
          have hcv := A.rel_cells hyv
          obtain ⟨b', hb', hlt, xs, hf, hh⟩ := hview.hp m _ hm
          simp only at hb
          rw [hb] at hb'; cases hb'
          have hlen : xs.length = cs.length := (f2_len hf).symm
          have hvl : (a.eval y).cells.toList.length = v.cells.length := (f2_len hcv).symm
          have hst := run_storeCells_at P b.1 off el (a.eval y).cells.toList 0 xs.toArray w hh (by simp only [Array.size_eq_length_toList] ; simp at hvl ⊢; omega) (f2_oneCell hcv)
          have hrun : (execOp a.eval o).run P w = .ok .skip (w.setRow b.1 (xs.take off ++ (a.eval y).cells.toList ++ xs.drop (off + (a.eval y).cells.toList.length)).toArray) := by
            have hsz : (a.eval y).cells.size = i.size := by rw [← g2, ← hvl]; simp
            simp only [execOp, ho, hxv, Instr.storeAt, Instr.sureAddr, Sem.run_bind, Sem.run_pure, Result.andThen_ok, storeVar, run_sizeOf' P hi, hsz, ne_eq, not_true_eq_false, if_false, Sem.run_ite, hst]
            simp [hst]
          unfold Oper.wp
          rw [hrun, Oper.upon_skip]
          refine ⟨ρ, ?_, Ren.le_refl _⟩
          refine h.wrote hd (hsub m _ hm) g1 hb rfl rfl rfl (size_setRow _ _ _) ?_ ?_ (fun v' hdn hv' => by cases hv')
          · intro j hj; simp [World.setRow, Array.getElem?_modify, Ne.symm hj]
          · refine ⟨_, f2_append (f2_append (f2_take hf off) hcv) (f2_drop hf _), ?_⟩
            rw [setRow_heap w b.1 xs.toArray _ el _ hh]
            rw [hvl]
        · cases he
      · cases he
    · cases he
  case h_6 cl ho =>
    split at he
    · rename_i f hcal
      split at he
      · rename_i g caps args hf hargs
        split at he
        · rename_i σ hσ
          split at he
          · rename_i p' v N' hs
            simp only [Option.some.injEq, Prod.mk.injEq] at he; obtain ⟨rfl, rfl⟩ := he
            have S := hsg g σ hσ
            obtain ⟨cx, hcx, hfv⟩ := look_rel hview hf
            have hax := lookAll_rel G hview hargs
            have hrun : (execOp a.eval o).run P w = .ok (.enter g (cl.args.map a.eval ++ cx.toArray)) w := by
              simp only [execOp, ho, resolve, hcal, hfv, Deferred.ofValue, Sem.run_bind, Sem.run_pure, Result.andThen_ok, invoke, Array.empty_append, S.enter]
            unfold Oper.wp
            rw [hrun, Oper.upon_enter]
            have hall : F2 (A.rel ρ) (args ++ caps.map fun q => .c (.ptr q.1 q.2)) (cl.args.toList.map a.eval ++ cx) := f2_append hax (ptr_names hcx)
            have hc := S.ok _ c s'.hp p' v N' hs hp ρ _ w hgw hall hview.hp (fun i hi => h.dom _ (hfresh i hi))
            have earr : (cl.args.toList.map a.eval ++ cx).toArray = cl.args.map a.eval ++ cx.toArray := by apply Array.ext'; simp
            rw [earr] at hc
            refine hc.mono ?_
            rintro en w' ⟨ρ', x, rfl, hle, hno, hv, hbel, hnew, hdist⟩
            exact ⟨ρ', h.grow hd hn hbel hle hno hfresh (fun v' _ hv' => by cases hv'; exact hv) hnew hdist, hle⟩
          · cases he
        · cases he
      · cases he
    · exact val_case he
  case h_7 => exact val_case he
end
end Go.Eng
end

section
namespace Go.Eng
open Go.RowKit (Below)
def memN : List Nat → Nat → Bool
  | [], _ => false
  | x :: l, m => match Nat.beq x m with | true => true | false => memN l m
theorem memN_iff {m : Nat} : ∀ {l : List Nat}, memN l m = true ↔ m ∈ l := by
  intro l
  induction l with
  | nil => simp [memN]
  | cons x l ih =>
    simp only [memN]
    split
    · rename_i h; have := Nat.eq_of_beq_eq_true h; subst this; simp
    · rename_i h
      rw [ih, List.mem_cons]
      constructor
      · exact .inr
      · rintro (rfl | h')
        · simp at h
        · exact h'
def restr (s : S) (ts ms : List Nat) : S :=
  { tm := fun t => match memN ts t with | true => s.tm t | false => none
    hp := fun m => match memN ms m with | true => s.hp m | false => none }
theorem restr_congr {s s' : S} {ts ms : List Nat} (ht : ∀ t, t ∈ ts → s.tm t = s'.tm t) (hm : ∀ m, m ∈ ms → s.hp m = s'.hp m) : restr s ts ms = restr s' ts ms := by
  unfold restr
  congr 1
  · funext t; split
    · rename_i h; exact ht t (memN_iff.1 h)
    · rfl
  · funext m; split
    · rename_i h; exact hm m (memN_iff.1 h)
    · rfl
/-- What has been assumed of a bool that a guard asks. -/
def assume (orc : Option Bool) (r : Eff × List Prop) : Eff × List Prop :=
  match orc, r.1.val with
  | some b0, some (.a (.c (.bool b))) => ({ r.1 with val := some (.a (.c (.lit b0))) }, (b = b0) :: r.2)
  | _, _ => r
inductive St where
  | ok (e : Option Eff) (p : List Prop) (rd : List Nat)
  | ask (k : Nat) (b : Bool)
  | fail
def freshB (s : S) : List Nat → Bool
  | [] => true
  | m :: l => match s.hp m with | none => freshB s l | some _ => false
theorem freshB_at {s : S} : ∀ {l : List Nat} {m : Nat}, freshB s l = true → m ∈ l → s.hp m = none := by
  intro l
  induction l with
  | nil => intro m _ h; simp at h
  | cons x l ih =>
    intro m h hm
    simp only [freshB] at h
    split at h
    · rename_i hx
      rcases List.mem_cons.1 hm with rfl | hm
      · exact hx
      · exact ih h hm
    · cases h
section
variable (P : Program) (G n0 N : Nat) (sg : FuncId → Option Sm)
def opEff (orc : Option Bool) (o : Oper) (c : Nat) (s : S) : St :=
  match rdOf G o (restr s (opTmps o.op.operands.toList) []) with
  | rd =>
    match effM P G n0 sg o c (restr s (opTmps o.op.operands.toList) rd) with
    | some r =>
      match (match o.dst with | some d => Nat.blt d N | none => true) && Nat.ble n0 c && freshB s (names c r.1.nw.length) with
      | true => .ok (some (assume orc r).1) (assume orc r).2 rd
      | false => .fail
    | none => .fail
/-- An operation that its guard leaves out. -/
def skipA (N : Nat) (o : Oper) : St := match (match o.dst with | some d => Nat.blt d N | none => true) with | true => .ok (some ⟨some (.tup []), [], none⟩) [] [] | false => .fail
def stepA (ops : Array Oper) (orc : Nat → Option Bool) (i c : Nat) (o : Oper) (s : S) : St :=
  match o.guard with
  | none => opEff P G n0 N sg (orc i) o c s
  | some (k, want) =>
    match dstOf ops k with
    | some d =>
      match s.tm d with
      | some (.a (.c (.lit b))) => (match b == want with
        | true => opEff P G n0 N sg (orc i) o c s
        | false => skipA N o)
      | some (.a (.c (.bool b))) => .ask k b
      | some (.tup []) => skipA N o
      | _ => .fail
    | none => .fail
inductive RR where
  | done (L : List Item) (s : S) (c : Nat) (p : List Prop)
  | ask (k : Nat) (b : Bool)
  | fail
def newsOf : Option Eff → Nat
  | some e => e.nw.length
  | none => 0
def rrun (ops : Array Oper) (orc : Nat → Option Bool) : List Oper → Nat → Nat → S → RR
  | [], _, c, s => .done [] s c []
  | o :: l, i, c, s =>
    match stepA P G n0 N sg ops orc i c o s with
    | .ok e p rd =>
      (match rrun ops orc l (i + 1) (c + newsOf e) (doit o.dst ⟨c, e, rd⟩ s) with
      | .done L s' c' q => .done ((o.dst, ⟨c, e, rd⟩) :: L) s' c' (p ++ q)
      | r => r)
    | .ask k b => .ask k b
    | .fail => .fail
end
section
variable {P : Program} {G n0 N : Nat} {sg : FuncId → Option Sm} {gw : World → Prop} {w0 : World} {ρ : Ren} {a : Act} {w : World} {Q : Exit → Act → World → Prop}
theorem Rel.view {s : S} (h : Rel w0 n0 N ρ s a w) (hgl : ∀ g, g < G → ρ g = some (g, 0)) (ts ms : List Nat) : View G ρ (restr s ts ms) a w where
  tm := by
    intro t v ht
    simp only [restr] at ht
    split at ht
    · exact (h.tm t v ht).2
    · cases ht
  hp := by
    intro m k hk
    simp only [restr] at hk
    split at hk
    · obtain ⟨b, h1, h2, h3, _⟩ := h.hp m k hk; exact ⟨b, h1, h2, h3⟩
    · cases hk
  gl := hgl
/-- A weaker state. -/
theorem Rel.weaken {s s' : S} (h : Rel w0 n0 N ρ s a w) (ht : ∀ t v', s'.tm t = some v' → ∃ v, s.tm t = some v ∧ ∀ x, v.rel ρ x → v'.rel ρ x) (hm : ∀ m, s'.hp m = s.hp m) : Rel w0 n0 N ρ s' a w where
  sz := h.sz
  df := h.df
  bel := h.bel
  tm := by
    intro t v' hv
    obtain ⟨v, h1, h2⟩ := ht t v' hv
    obtain ⟨h3, h4⟩ := h.tm t v h1
    exact ⟨h3, h2 _ h4⟩
  dom := fun m hd => h.dom m (by rw [← hm]; exact hd)
  hp := fun m k hk => h.hp m k (by rw [← hm]; exact hk)
  inj := h.inj
theorem assume_rel {orc : Option Bool} {r : Eff × List Prop} {dst : Option Tmp} {c : Nat} {s : S} (hp : All (assume orc r).2) (h : Rel w0 n0 N ρ (act dst c r.1 s) a w) : Rel w0 n0 N ρ (act dst c (assume orc r).1 s) a w := by
  unfold assume at hp ⊢
  split at hp
  · rename_i b0 b hv
    simp only at hp
    obtain ⟨rfl, _⟩ := hp
    refine h.weaken ?_ (fun m => rfl)
    intro t v' ht
    cases dst with
    | none => simp only [act] at ht ⊢; exact ⟨v', ht, fun x hx => hx⟩
    | some d =>
      simp only [act] at ht ⊢
      by_cases e : t = d
      · subst e
        rw [upd_same] at ht; cases ht
        refine ⟨.a (.c (.bool _)), by rw [upd_same]; exact hv, fun x hx => hx⟩
      · rw [upd_ne _ _ e] at ht ⊢
        exact ⟨v', ht, fun x hx => hx⟩
  · exact h
theorem assume_p {orc : Option Bool} {r : Eff × List Prop} (hp : All (assume orc r).2) : All r.2 := by
  unfold assume at hp
  split at hp
  · exact hp.2
  · exact hp
theorem assume_nw {orc : Option Bool} {r : Eff × List Prop} : (assume orc r).1.nw = r.1.nw ∧ (assume orc r).1.wr = r.1.wr := by
  unfold assume; split <;> exact ⟨rfl, rfl⟩
theorem opEff_sound (hsg : ∀ f σ, sg f = some σ → SumOK P gw f σ) (hgl : ∀ g, g < G → ρ g = some (g, 0)) (hgw : gw w) {orc : Option Bool} {o : Oper} {c : Nat} {T T' : S} {e : Option Eff} {p : List Prop} {rd : List Nat}
    (he : opEff P G n0 N sg orc o c T' = .ok e p rd) (hp : All p) (h : Rel w0 n0 N ρ T a w)
    (h1 : ∀ t, t ∈ opTmps o.op.operands.toList → T.tm t = T'.tm t) (h2 : ∀ m, m ∈ rd → T.hp m = T'.hp m) (h3 : ∀ m, m ∈ (Rec.mk c e rd).touch → T.hp m = T'.hp m) :
    o.wp P a w (fun a' w' => ∃ ρ', Rel w0 n0 N ρ' (doit o.dst ⟨c, e, rd⟩ T) a' w' ∧ ρ.le ρ') Q := by
  unfold opEff at he
  simp only at he
  split at he
  · rename_i r hr
    split at he
    · rename_i hok
      simp only [St.ok.injEq] at he
      obtain ⟨rfl, rfl, rfl⟩ := he
      simp only [Bool.and_eq_true] at hok
      have hn := Nat.le_of_ble_eq_true hok.1.2
      have hd : ∀ d, o.dst = some d → d < N := by
        intro d hd
        have := hok.1.1
        rw [hd] at this
        simpa [Nat.blt_eq] using this
      have e1 : restr T (opTmps o.op.operands.toList) [] = restr T' (opTmps o.op.operands.toList) [] := restr_congr h1 (by simp)
      rw [← e1] at hr h2
      have e2 : restr T (opTmps o.op.operands.toList) (rdOf G o (restr T (opTmps o.op.operands.toList) [])) = restr T' (opTmps o.op.operands.toList) (rdOf G o (restr T (opTmps o.op.operands.toList) [])) := restr_congr h1 h2
      rw [← e2] at hr
      have hfr : ∀ i, i < r.1.nw.length → T.hp (c + i) = none := by
        intro i hi
        have hm : c + i ∈ names c r.1.nw.length := mem_names.2 ⟨by omega, by omega⟩
        rw [h3 (c + i) (by simp only [Rec.touch, assume_nw.1]; exact List.mem_append_right _ hm)]
        exact freshB_at hok.2 hm
      have key := effM_sound (Q := Q) hsg h hgl hgw (h.view hgl (opTmps o.op.operands.toList) (rdOf G o (restr T (opTmps o.op.operands.toList) []))) (fun m k hk => by
        simp only [restr] at hk
        split at hk
        · exact hk
        · cases hk) hr (assume_p hp) hd hn hfr
      refine Oper.wp_mono ?_ key
      rintro a' w' ⟨ρ', hrel, hle⟩
      exact ⟨ρ', assume_rel hp hrel, hle⟩
    · cases he
  · cases he
theorem skipA_sound {c : Nat} {o : Oper} {T : S} {e : Option Eff} {p : List Prop} {rd : List Nat} (he : skipA N o = .ok e p rd) (h : Rel w0 n0 N ρ T a w) :
    ∃ ρ', Rel w0 n0 N ρ' (doit o.dst ⟨c, e, rd⟩ T) (a.put o.dst undef) w ∧ ρ.le ρ' := by
  unfold skipA at he
  split at he
  · rename_i hdn
    simp only [St.ok.injEq] at he
    obtain ⟨rfl, rfl, rfl⟩ := he
    refine ⟨ρ, ?_, Ren.le_refl _⟩
    have hdn' : ∀ d, o.dst = some d → d < N := by
      intro d hd; rw [hd] at hdn; simpa [Nat.blt_eq] using hdn
    have := h.quiet (dst := o.dst) (c := n0) (val := some (.tup [])) (x := undef) hdn' (Nat.le_refl _) (fun v hv => by cases hv; exact ⟨[], .nil, rfl⟩)
    exact this
  · cases he
theorem stepA_sound (hsg : ∀ f σ, sg f = some σ → SumOK P gw f σ) (hgl : ∀ g, g < G → ρ g = some (g, 0)) (hgw : gw w) {ops : Array Oper} {orc : Nat → Option Bool} {i c : Nat} {o : Oper} {T T' : S} {e : Option Eff} {p : List Prop} {rd : List Nat}
    (ho : ops[i]? = some o) (he : stepA P G n0 N sg ops orc i c o T' = .ok e p rd) (hp : All p) (h : Rel w0 n0 N ρ T a w)
    (h1 : ∀ t, t ∈ uses ops o → T.tm t = T'.tm t) (h2 : ∀ m, m ∈ rd → T.hp m = T'.hp m) (h3 : ∀ m, m ∈ (Rec.mk c e rd).touch → T.hp m = T'.hp m) :
    wpOp P ops Q i (fun a' w' => ∃ ρ', Rel w0 n0 N ρ' (doit o.dst ⟨c, e, rd⟩ T) a' w' ∧ ρ.le ρ') a w := by
  have hu : ∀ t, t ∈ opTmps o.op.operands.toList → T.tm t = T'.tm t := fun t ht => h1 t (by unfold uses; exact List.mem_append_right _ ht)
  unfold wpOp
  rw [ho]
  simp only
  unfold stepA at he
  split at he
  · rename_i hg
    rw [if_pos (by simp [Region.wanted, hg])]
    exact .inl (opEff_sound hsg hgl hgw he hp h hu h2 h3)
  · rename_i k want hg
    split at he
    · rename_i d hd
      have hT : T.tm d = T'.tm d := h1 d (by unfold uses; rw [hg]; simp [hd])
      split at he
      · rename_i b hb
        rw [← hT] at hb
        obtain ⟨hlt, hv⟩ := h.tm d _ hb
        have hv' : a.tmps.getD d undef = .bool b := hv
        have hy : yielded ops a.tmps k = some b := by
          have hd' : (ops[k]?).bind (·.dst) = some d := hd
          have : a.tmps[d]? = some (.bool b) := by
            rw [Array.getD_eq_getD_getElem?] at hv'
            have hlt' : d < a.tmps.size := by rw [h.sz]; exact hlt
            rw [Array.getElem?_eq_getElem hlt'] at hv' ⊢
            simpa using hv'
          simp [yielded, hd', this]
        split at he
        · rename_i hw
          have : b = want := by simpa using hw
          subst this
          rw [if_pos (by simp [Region.wanted, hg, hy])]
          exact .inl (opEff_sound hsg hgl hgw he hp h hu h2 h3)
        · rename_i hw
          rw [if_neg (by simp [Region.wanted, hg, hy]; simpa using hw)]
          exact skipA_sound he h
      · cases he
      · rename_i hb
        rw [← hT] at hb
        obtain ⟨hlt, hv⟩ := h.tm d _ hb
        have hv' : a.tmps.getD d undef = .tuple #[] := by
          obtain ⟨ys, h1, h2⟩ := hv
          cases h1
          exact h2
        have hy : yielded ops a.tmps k = none := by
          have hd' : (ops[k]?).bind (·.dst) = some d := hd
          have : a.tmps[d]? = some (.tuple #[]) := by
            rw [Array.getD_eq_getD_getElem?] at hv'
            have hlt' : d < a.tmps.size := by rw [h.sz]; exact hlt
            rw [Array.getElem?_eq_getElem hlt'] at hv' ⊢
            simpa using hv'
          simp [yielded, hd', this]
        rw [if_neg (by simp [Region.wanted, hg, hy])]
        exact skipA_sound he h
      · cases he
    · cases he
theorem rrun_spec {ops : Array Oper} {orc : Nat → Option Bool} : ∀ {l : List Oper} {i c : Nat} {s : S} {L : List Item} {s' : S} {c' : Nat} {q : List Prop}, rrun P G n0 N sg ops orc l i c s = .done L s' c' q → All q →
    L.length = l.length ∧ s' = runL (fun _ => true) L i s ∧ ∀ j o x, l[j]? = some o → L[j]? = some x →
      x.1 = o.dst ∧ ∃ p, stepA P G n0 N sg ops orc (i + j) x.2.c o (runL (fun k => Nat.blt k (i + j)) L i s) = .ok x.2.e p x.2.rd ∧ All p := by
  intro l
  induction l with
  | nil =>
    intro i c s L s' c' q h hq
    simp only [rrun, RR.done.injEq] at h
    obtain ⟨rfl, rfl, rfl, rfl⟩ := h
    exact ⟨rfl, rfl, fun j o x h => by simp at h⟩
  | cons o l ih =>
    intro i c s L s' c' q h hq
    simp only [rrun] at h
    split at h
    · rename_i e p rd hst
      split at h
      · rename_i L2 s2 c2 q2 hr
        simp only [RR.done.injEq] at h
        obtain ⟨rfl, rfl, rfl, rfl⟩ := h
        obtain ⟨hp, hq2⟩ := All.append.1 hq
        obtain ⟨i1, i2, i3⟩ := ih hr hq2
        refine ⟨by simp [i1], by simp [runL, i2], ?_⟩
        intro j o' x ho hx
        cases j with
        | zero =>
          simp at ho hx; subst ho; subst hx
          refine ⟨rfl, p, ?_, hp⟩
          have : ∀ (l : List Item) (k : Nat), i ≤ k → ∀ s, runL (fun k => Nat.blt k (i + 0)) l k s = s := by
            intro l
            induction l with
            | nil => intro k _ s; rfl
            | cons x l ih =>
              intro k hk s
              have : Nat.blt k (i + 0) = false := by rw [← Bool.not_eq_true, Nat.blt_eq]; omega
              simp only [runL, this, Bool.false_eq_true, if_false]
              exact ih _ (by omega) _
          rw [this _ _ (Nat.le_refl _)]
          exact hst
        | succ j =>
          obtain ⟨k1, p', k2, k3⟩ := i3 j o' x (by simpa using ho) (by simpa using hx)
          refine ⟨k1, p', ?_, k3⟩
          have hlt : Nat.blt i (i + (j + 1)) = true := by rw [Nat.blt_eq]; omega
          simp only [runL, hlt, if_true]
          rw [show i + (j + 1) = i + 1 + j by omega]
          exact k2
      · rename_i hne
        exact absurd h (by intro hh; exact hne _ _ _ _ hh)
    · cases h
    · cases h
/-- In the text's order. -/
theorem region_seq (hsg : ∀ f σ, sg f = some σ → SumOK P gw f σ) (hst : ∀ w w', gw w → Below w.heap.size w w' → gw w') (hgw0 : gw w0) {ops : Array Oper} {orc : Nat → Option Bool} {c c' : Nat} {s s' : S} {L : List Item} {q : List Prop}
    (hr : rrun P G n0 N sg ops orc ops.toList 0 c s = .done L s' c' q) (hq : All q) (h : Rel w0 n0 N ρ s a w) (hgl : ∀ g, g < G → ρ g = some (g, 0))
    (hQ : ∀ a' w' ρ', Rel w0 n0 N ρ' s' a' w' → ρ.le ρ' → Q .normal a' w') : wpOps P ops Q (List.range ops.size) a w := by
  obtain ⟨hlen, hs', hall⟩ := rrun_spec hr hq
  have key : ∀ n, n ≤ ops.size → ∀ (a : Act) (w : World) (ρ1 : Ren), Rel w0 n0 N ρ1 (runL (fun k => Nat.blt k (ops.size - n)) L 0 s) a w → ρ.le ρ1 →
      wpOps P ops Q (List.range' (ops.size - n) n) a w := by
    intro n
    induction n with
    | zero =>
      intro _ a w ρ1 h1 hle
      simp only [List.range'_zero, wpOps]
      refine hQ a w ρ1 ?_ hle
      rw [hs', ← runL_all (D := fun k => Nat.blt k (ops.size - 0)) L 0 s (fun k hk => by rw [Nat.blt_eq]; simp at hlen; omega)]
      exact h1
    | succ n ih =>
      intro hn a w ρ1 h1 hle
      rw [List.range'_succ, wpOps_cons]
      have hj : ops.size - (n + 1) < ops.size := by omega
      have ho : ops[ops.size - (n + 1)]? = some ops[ops.size - (n + 1)] := Array.getElem?_eq_getElem hj
      have hjL : ops.size - (n + 1) < L.length := by rw [hlen]; simpa using hj
      obtain ⟨k1, p, k2, k3⟩ := hall (ops.size - (n + 1)) _ L[ops.size - (n + 1)] (by rw [Array.getElem?_toList]; exact ho) (List.getElem?_eq_getElem hjL)
      simp only [Nat.zero_add] at k2
      have st := stepA_sound (Q := Q) hsg (fun g hg => hle _ _ (hgl g hg)) (hst _ _ hgw0 h1.bel) ho k2 k3 h1 (fun t _ => rfl) (fun m _ => rfl) (fun m _ => rfl)
      refine wpOp_mono ?_ st
      rintro a' w' ⟨ρ', hrel, hle'⟩
      have := ih (by omega) a' w' ρ' ?_ (Ren.le_trans hle hle')
      · rw [show ops.size - (n + 1) + 1 = ops.size - n by omega]; exact this
      · have e := runL_ins (D := fun k => Nat.blt k (ops.size - (n + 1))) (D' := fun k => Nat.blt k (ops.size - n)) L[ops.size - (n + 1)] L 0 (ops.size - (n + 1)) s (List.getElem?_eq_getElem hjL)
          (by rw [← Bool.not_eq_true, Nat.blt_eq]; omega) (by rw [Nat.blt_eq]; omega)
          (fun k hk => by
            have : (k < ops.size - n) ↔ (k < ops.size - (n + 1)) := by omega
            rw [Bool.eq_iff_iff, Nat.blt_eq, Nat.blt_eq]; exact this)
          (fun k y _ hjk hD => by rw [Nat.blt_eq] at hD; omega)
        rw [e, k1]
        exact hrel
  have := key ops.size (Nat.le_refl _) a w ρ (by
    have : ∀ (l : List Item) (i : Nat), runL (fun k => Nat.blt k (ops.size - ops.size)) l i s = s := by
      intro l
      induction l with
      | nil => intro i; rfl
      | cons x l ih =>
        intro i
        have : Nat.blt i (ops.size - ops.size) = false := by rw [← Bool.not_eq_true, Nat.blt_eq]; omega
        simp only [runL, this, Bool.false_eq_true, if_false]
        exact ih _
    rw [this]; exact h) (Ren.le_refl _)
  rw [Nat.sub_self, ← List.range_eq_range'] at this
  exact this
end
end Go.Eng
end

section
namespace Go.Eng
open Go.RowKit (Below)
/-- All that must hold of a region's record if its order is drawn. -/
def anyOk (ops : Array Oper) (L : List Item) : Bool :=
  match masks ops.toList [] with
  | M => masksOk M ops.toList 0 && allPairsOk ops M L ops.toList L 0
theorem count_set : ∀ {l : List Bool} {j : Nat} (hj : j < l.length), l[j] = false → ((l.set j true).filter id).length = (l.filter id).length + 1
  | [], j, hj, _ => by simp at hj
  | x :: l, 0, _, h => by simp at h; subst h; simp
  | x :: l, j + 1, hj, h => by
    have := count_set (l := l) (j := j) (by simpa using hj) (by simpa using h)
    cases x <;> simp [this]
section
variable {P : Program} {G n0 N : Nat} {sg : FuncId → Option Sm} {gw : World → Prop} {w0 : World} {ρ : Ren} {a : Act} {w : World} {Q : Exit → Act → World → Prop}
theorem mem_ready' {ops : Array Oper} {listed : Array Bool} {j : Nat} (h : j ∈ Region.ready .any ops listed) :
    ∃ o, ops[j]? = some o ∧ j < ops.size ∧ listed.getD j true = false ∧ ∀ e ∈ o.after.toList, Region.binds .any e = true → listed.getD e.on false = true := by
  unfold Region.ready at h
  rw [List.mem_filter, List.mem_range] at h
  obtain ⟨hj, h2⟩ := h
  have ho : ops[j]? = some ops[j] := Array.getElem?_eq_getElem hj
  rw [ho] at h2
  simp only [Option.map_some, Option.getD_some, Bool.and_eq_true, Bool.not_eq_true'] at h2
  refine ⟨_, ho, hj, h2.1, fun e he hb => ?_⟩
  have := Array.all_eq_true_iff_forall_mem.1 h2.2 e (by simpa using he)
  rw [hb] at this
  simpa using this
theorem ready_nil {ops : Array Oper} {listed : Array Bool} (hs : listed.size = ops.size) {M : List Nat} (hM : masksOk M ops.toList 0 = true) (h : Region.ready .any ops listed = []) :
    ∀ i, i < ops.size → listed.getD i false = true := by
  intro i
  induction i using Nat.strongRecOn with
  | _ i ih =>
    intro hi
    cases hl : listed.getD i false with
    | true => rfl
    | false =>
      exfalso
      have ho : ops[i]? = some ops[i] := Array.getElem?_eq_getElem hi
      have hm := (masksOk_at hM (k := i) (o := ops[i]) (by rw [Array.getElem?_toList]; exact ho)).2
      have : i ∈ Region.ready .any ops listed := by
        unfold Region.ready
        rw [List.mem_filter, List.mem_range]
        refine ⟨hi, ?_⟩
        rw [ho]
        simp only [Option.map_some, Option.getD_some, Bool.and_eq_true, Bool.not_eq_true']
        constructor
        · have hi' : i < listed.size := by omega
          rw [Array.getD_eq_getD_getElem?, Array.getElem?_eq_getElem hi'] at hl ⊢
          simpa using hl
        · rw [Array.all_eq_true_iff_forall_mem]
          intro e he
          by_cases hb : Region.binds .any e = true
          · have h1 := hm e (by simpa using he) hb
            rw [hb, ih e.on (by omega) (by omega)]; rfl
          · simp [hb]
      rw [h] at this; simp at this
theorem region_any (hsg : ∀ f σ, sg f = some σ → SumOK P gw f σ) (hst : ∀ w w', gw w → Below w.heap.size w w' → gw w') (hgw0 : gw w0) {ops : Array Oper} {orc : Nat → Option Bool} {c c' : Nat} {s s' : S} {L : List Item} {q : List Prop}
    (hr : rrun P G n0 N sg ops orc ops.toList 0 c s = .done L s' c' q) (hq : All q) (hok : anyOk ops L = true) (h : Rel w0 n0 N ρ s a w) (hgl : ∀ g, g < G → ρ g = some (g, 0))
    (hQ : ∀ a' w' ρ', Rel w0 n0 N ρ' s' a' w' → ρ.le ρ' → Q .normal a' w') : wpAny P .any ops Q ops.size (Array.replicate ops.size false) a w := by
  obtain ⟨hlen, hs', hall⟩ := rrun_spec hr hq
  unfold anyOk at hok
  simp only [Bool.and_eq_true] at hok
  obtain ⟨hM, hP⟩ := hok
  generalize masks ops.toList [] = M at hM hP
  have key : ∀ fuel (listed : Array Bool) (a : Act) (w : World) (ρ1 : Ren), listed.size = ops.size → ops.size ≤ fuel + (listed.toList.filter id).length →
      (∀ j o, ops[j]? = some o → listed.getD j false = true → ∀ e ∈ o.after.toList, Region.binds .any e = true → listed.getD e.on false = true) →
      Rel w0 n0 N ρ1 (runL (fun k => listed.getD k false) L 0 s) a w → ρ.le ρ1 → wpAny P .any ops Q fuel listed a w := by
    have fin : ∀ (listed : Array Bool) (a : Act) (w : World) (ρ1 : Ren), listed.size = ops.size → Region.ready .any ops listed = [] →
        Rel w0 n0 N ρ1 (runL (fun k => listed.getD k false) L 0 s) a w → ρ.le ρ1 → Q .normal a w := by
      intro listed a w ρ1 hs hnil h1 hle
      have hf := ready_nil hs hM hnil
      refine hQ a w ρ1 ?_ hle
      rw [hs', ← runL_all (D := fun k => listed.getD k false) L 0 s (fun k hk => by
        rw [Nat.zero_add]; exact hf k (by rw [hlen] at hk; simpa using hk))]
      exact h1
    intro fuel
    induction fuel with
    | zero =>
      intro listed a w ρ1 hs hcount hcl h1 hle
      have hfull : ∀ i, i < ops.size → listed.getD i false = true := by
        intro i hi
        have hl : (listed.toList.filter id).length = listed.toList.length := by
          have := List.length_filter_le id listed.toList
          simp at this hcount ⊢; omega
        rw [List.length_filter_eq_length_iff] at hl
        have hi' : i < listed.size := by omega
        have := hl listed[i] (by simp)
        rw [Array.getD_eq_getD_getElem?, Array.getElem?_eq_getElem hi']
        simpa using this
      have hnil : Region.ready .any ops listed = [] := by
        rw [List.eq_nil_iff_forall_not_mem]
        intro j hj
        obtain ⟨o, _, hlt, hn, _⟩ := mem_ready' hj
        have := hfull j hlt
        have hi' : j < listed.size := by omega
        rw [Array.getD_eq_getD_getElem?, Array.getElem?_eq_getElem hi'] at hn this
        simp at hn this
        rw [hn] at this; cases this
      exact ⟨hnil, fin listed a w ρ1 hs hnil h1 hle⟩
    | succ fuel ih =>
      intro listed a w ρ1 hs hcount hcl h1 hle
      refine ⟨fun hnil => fin listed a w ρ1 hs hnil h1 hle, ?_⟩
      intro j hj
      obtain ⟨o, ho, hjlt, hnot, hpre⟩ := mem_ready' hj
      have hjs : j < listed.size := by omega
      have hnot' : listed.getD j false = false := by
        rw [Array.getD_eq_getD_getElem?, Array.getElem?_eq_getElem hjs] at hnot ⊢
        simpa using hnot
      have hjL : j < L.length := by rw [hlen]; simpa using hjlt
      obtain ⟨k1, p, k2, k3⟩ := hall j o L[j] (by rw [Array.getElem?_toList]; exact ho) (List.getElem?_eq_getElem hjL)
      simp only [Nat.zero_add] at k2
      have hpairs := allPairsOk_at hP (k := j) (o := o) (y := L[j]) (by rw [Array.getElem?_toList]; exact ho) (List.getElem?_eq_getElem hjL)
      rw [Nat.zero_add] at hpairs
      -- what comes before one that has run has run
      have hdown : ∀ (i k : Nat), listed.getD i false = true → (M.getD i 0).testBit k = true → listed.getD k false = true := by
        intro i
        induction i using Nat.strongRecOn with
        | _ i ihd =>
          intro k hi hk
          have his : i < ops.size := by
            have : i < listed.size := by
              by_cases hlt : i < listed.size
              · exact hlt
              · rw [Array.getD_eq_getD_getElem?, Array.getElem?_eq_none (by omega)] at hi; simp at hi
            omega
          have hoi : ops[i]? = some ops[i] := Array.getElem?_eq_getElem his
          obtain ⟨m1, m2⟩ := masksOk_at hM (k := i) (o := ops[i]) (by rw [Array.getElem?_toList]; exact hoi)
          rw [Nat.zero_add] at m1 m2
          rw [m1] at hk
          obtain ⟨e, he, hb, hor⟩ := maskE_bit hk
          have h1 := hcl i _ hoi hi e he hb
          rcases hor with rfl | hor
          · exact h1
          · exact ihd e.on (m2 e he hb) k h1 hor
      have hbefore : ∀ k, (M.getD j 0).testBit k = true → listed.getD k false = true := by
        intro k hk
        obtain ⟨m1, m2⟩ := masksOk_at hM (k := j) (o := o) (by rw [Array.getElem?_toList]; exact ho)
        rw [Nat.zero_add] at m1 m2
        rw [m1] at hk
        obtain ⟨e, he, hb, hor⟩ := maskE_bit hk
        rcases hor with rfl | hor
        · exact hpre e he hb
        · exact hdown e.on k (hpre e he hb) hor
      -- an operation that j conflicts with has run just if it stands before j
      have hsame : ∀ k x, L[k]? = some x → k ≠ j → conf (uses ops o) x L[j] = true → listed.getD k false = Nat.blt k j := by
        intro k x hx hne hc
        have hp := pairsOk_at hpairs hx (by omega) hc
        rw [Nat.zero_add] at hp
        by_cases hlt : k < j
        · rw [hbefore k (hp.1 hlt)]; rw [eq_comm, Nat.blt_eq]; exact hlt
        · have hgt : j < k := by omega
          have : Nat.blt k j = false := by rw [← Bool.not_eq_true, Nat.blt_eq]; omega
          rw [this]
          cases hk : listed.getD k false with
          | false => rfl
          | true => have := hdown k j hk (hp.2 hgt); rw [hnot'] at this; cases this
      have hmem : ∀ {d : Nat} {l : List Nat}, d ∈ l → l.elem d = true := fun h => List.elem_eq_true_of_mem h
      have a1 : ∀ t, t ∈ uses ops o → (runL (fun k => listed.getD k false) L 0 s).tm t = (runL (fun k => Nat.blt k j) L 0 s).tm t := by
        intro t ht
        refine runL_tm L 0 s s rfl (fun k x hx hxt => ?_)
        rw [Nat.zero_add]
        by_cases e : k = j
        · subst e
          rw [hnot', eq_comm, ← Bool.not_eq_true, Nat.blt_eq]; omega
        · exact hsame k x hx e (by unfold conf; rw [hxt]; simp only [hmem ht, Bool.true_or])
      have a2 : ∀ m, (m ∈ L[j].2.rd ∨ m ∈ L[j].2.touch) → (runL (fun k => listed.getD k false) L 0 s).hp m = (runL (fun k => Nat.blt k j) L 0 s).hp m := by
        intro m hm
        refine runL_hp L 0 s s rfl (fun k x hx hxm => ?_)
        rw [Nat.zero_add]
        by_cases e : k = j
        · subst e
          rw [hnot', eq_comm, ← Bool.not_eq_true, Nat.blt_eq]; omega
        · refine hsame k x hx e ?_
          unfold conf
          rw [Bool.or_eq_true]; right
          rw [List.any_eq_true]
          refine ⟨m, hxm, ?_⟩
          rcases hm with hm | hm
          · rw [hmem hm]; rfl
          · rw [hmem hm]; simp
      have st := stepA_sound (Q := Q) hsg (fun g hg => hle _ _ (hgl g hg)) (hst _ _ hgw0 h1.bel) ho k2 k3 h1 a1 (fun m hm => a2 m (.inl hm)) (fun m hm => a2 m (.inr hm))
      refine wpOp_mono ?_ st
      rintro a' w' ⟨ρ', hrel, hle'⟩
      refine ih (listed.setIfInBounds j true) a' w' ρ' (by simpa using hs) ?_ ?_ ?_ (Ren.le_trans hle hle')
      · have : ((listed.setIfInBounds j true).toList.filter id).length = (listed.toList.filter id).length + 1 := by
          rw [Array.toList_setIfInBounds]
          have hjl : j < listed.toList.length := by simpa using hjs
          have hval : listed.toList[j] = false := by
            rw [Array.getD_eq_getD_getElem?, Array.getElem?_eq_getElem hjs] at hnot'
            simpa using hnot'
          exact count_set hjl hval
        omega
      · intro i oi hoi hi e he hb
        by_cases hij : i = j
        · subst hij
          rw [ho] at hoi; cases hoi
          have := hpre e he hb
          by_cases hej : e.on = i
          · rw [hej] at this; rw [hnot'] at this; cases this
          · rw [getD_set_ne _ (fun h => hej h.symm)]; exact this
        · rw [getD_set_ne _ (fun h => hij h.symm)] at hi
          exact getD_set_true (hcl i oi hoi hi e he hb)
      · have e := runL_ins (D := fun k => listed.getD k false) (D' := fun k => (listed.setIfInBounds j true).getD k false) L[j] L 0 j s (List.getElem?_eq_getElem hjL)
          (by rw [Nat.zero_add]; exact hnot')
          (by rw [Nat.zero_add, Array.getD_eq_getD_getElem?, Array.getElem?_setIfInBounds]; simp [hjs])
          (fun k hk => by rw [Nat.zero_add] at hk; exact getD_set_ne _ (fun h => hk h.symm))
          (fun k y hy hjk hD t => by
            rw [Nat.zero_add] at hD
            have hnc : conf (uses ops o) y L[j] = false := by
              cases hc : conf (uses ops o) y L[j] with
              | false => rfl
              | true =>
                have := hsame k y hy (by omega) hc
                rw [hD, eq_comm, Nat.blt_eq] at this; omega
            unfold conf at hnc
            rw [Bool.or_eq_false_iff] at hnc
            refine doit_comm y L[j] t ?_ ?_
            · intro d hd hd'
              rw [hd] at hnc
              have : d ∈ uses ops o := by unfold uses; rw [k1] at hd'; rw [hd']; simp
              have := hmem this
              simp only at hnc
              rw [this] at hnc; cases hnc.1
            · intro m hm hm'
              have := hnc.2
              rw [List.any_eq_false] at this
              have := this m hm
              rw [hmem hm'] at this; simp at this)
        rw [e, k1]; exact hrel
  refine key ops.size _ a w ρ (by simp) (by omega) ?_ ?_ (Ren.le_refl _)
  · intro j o _ hj
    exfalso
    rw [Array.getD_eq_getD_getElem?, Array.getElem?_replicate] at hj
    split at hj <;> simp at hj
  · have : ∀ (l : List Item) (i : Nat), runL (fun k => (Array.replicate ops.size false).getD k false) l i s = s := by
      intro l
      induction l with
      | nil => intro i; rfl
      | cons x l ih =>
        intro i
        have : (Array.replicate ops.size false).getD i false = false := by
          rw [Array.getD_eq_getD_getElem?, Array.getElem?_replicate]; split <;> simp
        simp only [runL, this, Bool.false_eq_true, if_false]
        exact ih _
    rw [this]; exact h
end
end Go.Eng
end

section
namespace Go.Eng
open Go.RowKit (Below)
/-- A tree of the ways: a test on a bool, a condition that is owed, an end. -/
inductive T (α : Type) where
  | ret (x : α)
  | br (b : Bool) (t e : T α)
  | need (p : Prop) (t : T α)
  | fail
def T.wp {α : Type} (Q : α → Prop) : T α → Prop
  | .ret x => Q x
  | .br b t e => (b = true → t.wp Q) ∧ (b = false → e.wp Q)
  | .need p t => p ∧ t.wp Q
  | .fail => False
def T.bind {α β : Type} (f : α → T β) : T α → T β
  | .ret x => f x
  | .br b t e => .br b (t.bind f) (e.bind f)
  | .need p t => .need p (t.bind f)
  | .fail => .fail
def T.needs {α : Type} : List Prop → T α → T α
  | [], t => t
  | p :: l, t => .need p (T.needs l t)
theorem T.wp_needs {α : Type} {Q : α → Prop} {t : T α} : ∀ {l : List Prop}, (T.needs l t).wp Q → All l ∧ t.wp Q
  | [], h => ⟨trivial, h⟩
  | _ :: _, h => ⟨⟨h.1, (T.wp_needs h.2).1⟩, (T.wp_needs h.2).2⟩
theorem T.wp_bind {α β : Type} {f : α → T β} {Q : β → Prop} : ∀ {t : T α}, (t.bind f).wp Q → t.wp (fun x => (f x).wp Q) := by
  intro t
  induction t with
  | ret x => exact id
  | br b t e iht ihe => exact fun h => ⟨fun hb => iht (h.1 hb), fun hb => ihe (h.2 hb)⟩
  | need p t ih => exact fun h => ⟨h.1, ih h.2⟩
  | fail => exact id
inductive Ex where
  | normal
  | exit (id : Nat)
  | ret
abbrev St3 := Ex × Nat × S
def setO (orc : Nat → Option Bool) (k : Nat) (b : Bool) : Nat → Option Bool := upd orc k (some b)
section
variable (P : Program) (G n0 N : Nat) (sg : FuncId → Option Sm)
def rtree (ops : Array Oper) (draw : Bool) (c : Nat) (s : S) : Nat → (Nat → Option Bool) → T St3
  | 0, _ => .fail
  | fuel + 1, orc =>
    match rrun P G n0 N sg ops orc ops.toList 0 c s with
    | .done L s' c' p => (match !draw || anyOk ops L with | true => T.needs p (.ret (.normal, c', s')) | false => .fail)
    | .ask k b => .br b (rtree ops draw c s fuel (setO orc k true)) (rtree ops draw c s fuel (setO orc k false))
    | .fail => .fail
def loopN (f : Nat → S → T St3) : Nat → Nat → S → T St3
  | 0, _, _ => .fail
  | n + 1, c, s => (f c s).bind fun r => match r with
    | (.normal, c', s') => loopN f n c' s'
    | r => .ret r
def exec (fuel : Nat) : Code → Nat → S → T St3
  | .skip, c, s => .ret (.normal, c, s)
  | .region _ ops draw, c, s => rtree P G n0 N sg ops draw c s fuel (fun _ => none)
  | .seq x y, c, s => (exec fuel x c s).bind fun r => match r with
    | (.normal, c', s') => exec fuel y c' s'
    | r => .ret r
  | .cond x y z, c, s => (match look G s x with
    | some (.a (.c (.lit true))) => exec fuel y c s
    | some (.a (.c (.lit false))) => exec fuel z c s
    | some (.a (.c (.bool b))) => .br b (exec fuel y c s) (exec fuel z c s)
    | _ => .fail)
  | .block id x, c, s => (exec fuel x c s).bind fun r => match r with
    | (.exit i, c', s') => (match Nat.beq i id with | true => .ret (.normal, c', s') | false => .ret (.exit i, c', s'))
    | r => .ret r
  | .loop x, c, s => loopN (exec fuel x) fuel c s
  | .exit id, c, s => .ret (.exit id, c, s)
  | .ret, c, s => .ret (.ret, c, s)
  | _, _, _ => .fail
end
section
variable {P : Program} {G n0 N : Nat} {sg : FuncId → Option Sm} {gw : World → Prop} {w0 : World}
/-- What the ways' ends say of frame and world. -/
def CP (w0 : World) (n0 N : Nat) (ρ : Ren) (R : St3 → Prop) : Exit → Act → World → Prop
  | .normal, a, w => ∃ c s ρ', R (.normal, c, s) ∧ Rel w0 n0 N ρ' s a w ∧ ρ.le ρ'
  | .exit id, a, w => ∃ c s ρ', R (.exit id, c, s) ∧ Rel w0 n0 N ρ' s a w ∧ ρ.le ρ'
  | .ret, a, w => ∃ c s ρ', R (.ret, c, s) ∧ Rel w0 n0 N ρ' s a w ∧ ρ.le ρ'
  | _, _, _ => False
theorem CP.mono {ρ ρ1 : Ren} {R R' : St3 → Prop} (hle : ρ.le ρ1) (h : ∀ r, R r → R' r) : ∀ e a w, CP w0 n0 N ρ1 R e a w → CP w0 n0 N ρ R' e a w := by
  intro e a w hc
  cases e <;> simp only [CP] at hc ⊢
  all_goals (try exact hc)
  all_goals (obtain ⟨c, s, ρ', h1, h2, h3⟩ := hc; exact ⟨c, s, ρ', h _ h1, h2, Ren.le_trans hle h3⟩)
structure Env (P : Program) (G : Nat) (sg : FuncId → Option Sm) (gw : World → Prop) : Prop where
  mixed : P.follows .mixedOrders = true
  sums : ∀ f σ, sg f = some σ → SumOK P gw f σ
  stable : ∀ w w', gw w → Below w.heap.size w w' → gw w'
theorem Rel.drew {ρ : Ren} {s : S} {a : Act} {w : World} (h : Rel w0 n0 N ρ s a w) : Rel w0 n0 N ρ s a { w with drawn := w.drawn + 1 } where
  sz := h.sz
  df := h.df
  bel := h.bel.trans ⟨rfl, rfl, rfl, Nat.le_refl _, fun _ _ => rfl⟩
  tm := h.tm
  dom := h.dom
  hp := by
    intro m k hk
    obtain ⟨b, h1, h2, h3, h4⟩ := h.hp m k hk
    exact ⟨b, h1, h2, Blk.rel_mono (w := w) (Ren.le_refl _) rfl h3, h4⟩
  inj := h.inj
theorem rtree_sound (E : Env P G sg gw) (hgw0 : gw w0) {id : Nat} {ops : Array Oper} {draw : Bool} {c : Nat} {s : S} {R : St3 → Prop} {ρ : Ren} {a : Act} {w : World} (hrel : Rel w0 n0 N ρ s a w) (hgl : ∀ g, g < G → ρ g = some (g, 0)) :
    ∀ {fuel : Nat} {orc : Nat → Option Bool}, (rtree P G n0 N sg ops draw c s fuel orc).wp R → (Code.region id ops draw).wp P (CP w0 n0 N ρ R) a w := by
  intro fuel
  induction fuel with
  | zero => intro orc h; exact h.elim
  | succ fuel ih =>
    intro orc h
    simp only [rtree] at h
    split at h
    · rename_i L s' c' p hr
      split at h
      · rename_i hok
        obtain ⟨hp, hR⟩ := T.wp_needs h
        have hQ : ∀ a' w' ρ', Rel w0 n0 N ρ' s' a' w' → ρ.le ρ' → CP w0 n0 N ρ R .normal a' w' := fun a' w' ρ' h1 h2 => ⟨c', s', ρ', hR, h1, h2⟩
        cases draw with
        | false => exact wp_region (region_seq E.sums E.stable hgw0 hr hp hrel hgl hQ)
        | true => exact wp_region_any E.mixed (region_any E.sums E.stable hgw0 hr hp (by simpa using hok) hrel.drew hgl hQ)
      · exact h.elim
    · rename_i k b _
      cases b with
      | true => exact ih (h.1 rfl)
      | false => exact ih (h.2 rfl)
    · exact h.elim
theorem exec_sound (E : Env P G sg gw) (hgw0 : gw w0) (fuel : Nat) : ∀ (code : Code) {c : Nat} {s : S} {R : St3 → Prop} {ρ : Ren} {a : Act} {w : World}, Rel w0 n0 N ρ s a w → (∀ g, g < G → ρ g = some (g, 0)) →
    (exec P G n0 N sg fuel code c s).wp R → code.wp P (CP w0 n0 N ρ R) a w := by
  intro code
  induction code with
  | skip => intro c s R ρ a w hrel hgl h; exact wp_skip ⟨c, s, ρ, h, hrel, Ren.le_refl _⟩
  | region id ops draw => intro c s R ρ a w hrel hgl h; exact rtree_sound E hgw0 hrel hgl h
  | seq x y ihx ihy =>
    intro c s R ρ a w hrel hgl h
    simp only [exec] at h
    have h1 := T.wp_bind h
    refine wp_seq (wp_mono (ihx hrel hgl h1) ?_)
    intro e a' w' hc
    cases e <;> simp only [CP, Exit.then] at hc ⊢
    case normal =>
      obtain ⟨c', s', ρ', hr, hrel', hle⟩ := hc
      exact wp_mono (ihy hrel' (fun g hg => hle _ _ (hgl g hg)) hr) (CP.mono hle (fun _ h => h))
    case exit id => exact hc
    case ret => exact hc
  | cond x y z ihy ihz =>
    intro c s R ρ a w hrel hgl h
    simp only [exec] at h
    have hview : View G ρ s a w := ⟨fun t v ht => (hrel.tm t v ht).2, fun m k hk => by obtain ⟨b, h1, h2, h3, _⟩ := hrel.hp m k hk; exact ⟨b, h1, h2, h3⟩, hgl⟩
    split at h
    · rename_i hl; exact wp_cond_true (look_rel hview hl) (ihy hrel hgl h)
    · rename_i hl; exact wp_cond_false (look_rel hview hl) (ihz hrel hgl h)
    · rename_i b hl
      exact wp_cond_split (look_rel hview hl) (fun hb => ihy hrel hgl (h.1 hb)) (fun hb => ihz hrel hgl (h.2 hb))
    · exact h.elim
  | block id x ih =>
    intro c s R ρ a w hrel hgl h
    simp only [exec] at h
    have h1 := T.wp_bind h
    refine wp_block (wp_mono (ih hrel hgl h1) ?_)
    intro e a' w' hc
    cases e <;> simp only [CP, Exit.inBlock] at hc ⊢
    case normal => exact hc
    case ret => exact hc
    case exit i =>
      obtain ⟨c', s', ρ', hr, hrel', hle⟩ := hc
      split at hr
      · rename_i hb
        have := Nat.eq_of_beq_eq_true hb
        rw [if_pos this]
        exact ⟨c', s', ρ', hr, hrel', hle⟩
      · rename_i hb
        rw [if_neg (by intro e; subst e; simp at hb)]
        exact ⟨c', s', ρ', hr, hrel', hle⟩
  | loop x ih =>
    intro c s R ρ a w hrel hgl h
    simp only [exec] at h
    have key : ∀ n c s, (loopN (exec P G n0 N sg fuel x) n c s).wp R → ∀ ρ1 a w, Rel w0 n0 N ρ1 s a w → ρ.le ρ1 → Code.rounds P x (CP w0 n0 N ρ R) n a w := by
      intro n
      induction n with
      | zero => intro c s h; exact h.elim
      | succ n ihn =>
        intro c s h ρ1 a w hrel1 hle1
        simp only [loopN] at h
        have h1 := T.wp_bind h
        rw [rounds_succ]
        refine wp_mono (ih hrel1 (fun g hg => hle1 _ _ (hgl g hg)) h1) ?_
        intro e a' w' hc
        cases e <;> simp only [CP, Exit.then] at hc ⊢
        case normal =>
          obtain ⟨c', s', ρ', hr, hrel', hle⟩ := hc
          exact ihn c' s' hr ρ' a' w' hrel' (Ren.le_trans hle1 hle)
        case exit id => obtain ⟨c', s', ρ', hr, hrel', hle⟩ := hc; exact ⟨c', s', ρ', hr, hrel', Ren.le_trans hle1 hle⟩
        case ret => obtain ⟨c', s', ρ', hr, hrel', hle⟩ := hc; exact ⟨c', s', ρ', hr, hrel', Ren.le_trans hle1 hle⟩
    exact wp_loop_rounds fuel (key fuel c s h ρ a w hrel (Ren.le_refl _))
  | exit id => intro c s R ρ a w hrel hgl h; exact wp_exit ⟨c, s, ρ, h, hrel, Ren.le_refl _⟩
  | ret => intro c s R ρ a w hrel hgl h; exact wp_ret ⟨c, s, ρ, h, hrel, Ren.le_refl _⟩
  | _ => intro c s R ρ a w hrel hgl h; exact h.elim
end
section
variable (P : Program)
/-- A result. -/
def resA (s : S) : ResultVar → Option A
  | .tmp t => (match s.tm t with | some (.a y) => some y | _ => none)
  | .cell t ty => (match s.tm t, P.underlying ty, P.info? ty with
    | some (.a (.c (.ptr m off))), some d, some i => (match s.hp m with
      | some k => (match isAggD d with
        | true => (match readN k off i.size with | some cs => some (.agg cs) | none => none)
        | false => (match k.cell off with | some c => some (.c c) | none => none))
      | none => none)
    | _, _, _ => none)
def resL (s : S) : List ResultVar → Option (List A)
  | [] => some []
  | r :: l => match resA P s r, resL s l with | some a, some k => some (a :: k) | _, _ => none
def resV : List A → V
  | [x] => .a x
  | xs => .tup xs
/-- What 'results' reads of one result. -/
def resOne (a : Act) (r : ResultVar) : Sem Value :=
  match r with
  | .tmp t => pure (a.tmps.getD t undef)
  | .cell c t => do loadVar t (← asAddr (a.tmps.getD c undef))
theorem results_eq (fn : Func) (a : Act) : results fn a.tmps = (do let vs ← fn.results.mapM (resOne a); pure (if h : vs.size = 1 then vs[0] else .tuple vs)) := by
  unfold results resOne
  rfl
theorem resA_sound {G : Nat} {ρ : Ren} {s : S} {a : Act} {w : World} (h : View G ρ s a w) {r : ResultVar} {p : A} (e : resA P s r = some p) :
    ∃ x, (resOne a r).run P w = .ok x w ∧ p.rel ρ x := by
  unfold resOne
  cases r with
  | tmp t =>
    simp only [resA] at e
    split at e
    · rename_i y hy
      simp only [Option.some.injEq] at e; subst e
      exact ⟨_, rfl, h.tm t _ hy⟩
    · cases e
  | cell t ty =>
    simp only [resA] at e
    split at e
    · rename_i m off d i hx hd hi
      obtain ⟨b, hb, hv⟩ := h.tm t _ hx
      split at e
      · rename_i k hk
        obtain ⟨b', hb', hlt, hrel⟩ := h.hp m k hk
        simp only at hb
        rw [hb] at hb'; cases hb'
        split at e
        · rename_i hg
          split at e
          · rename_i cs hcs
            simp only [Option.some.injEq] at e; subst e
            obtain ⟨xs, hf, hl, hc⟩ := readN_sound hrel hcs
            refine ⟨.agg xs.toArray, ?_, xs, hf, rfl⟩
            simp only [hv, asAddr, Sem.run_bind, Sem.run_pure, Result.andThen_ok, run_loadVar_agg hd hi hg hl hc]
          · cases e
        · rename_i hg
          split at e
          · rename_i c hc
            simp only [Option.some.injEq] at e; subst e
            obtain ⟨z, hz, hcell⟩ := Blk.rel_cell hrel hc
            refine ⟨z, ?_, hz⟩
            simp only [hv, asAddr, Sem.run_bind, Sem.run_pure, Result.andThen_ok, run_loadVar_one hd hg hcell]
          · cases e
      · cases e
    · cases e
theorem resL_sound {G : Nat} {ρ : Ren} {s : S} {a : Act} {w : World} (h : View G ρ s a w) : ∀ {l : List ResultVar} {ps : List A}, resL P s l = some ps →
    ∃ xs : List Value, (l.mapM (resOne a)).run P w = .ok xs w ∧ F2 (A.rel ρ) ps xs := by
  intro l
  induction l with
  | nil => intro ps e; simp [resL] at e; subst e; exact ⟨[], rfl, .nil⟩
  | cons r l ih =>
    intro ps e
    simp only [resL] at e
    split at e
    · rename_i p k hp hk
      simp only [Option.some.injEq] at e; subst e
      obtain ⟨x, hx, hr⟩ := resA_sound P h hp
      obtain ⟨xs, hxs, hrs⟩ := ih hk
      refine ⟨x :: xs, ?_, .cons hr hrs⟩
      rw [List.mapM_cons, Sem.run_bind, hx, Result.andThen_ok, Sem.run_bind, hxs]
      rfl
    · cases e
theorem results_sound {G : Nat} {ρ : Ren} {s : S} {a : Act} {w : World} (h : View G ρ s a w) {fn : Func} {ps : List A} (e : resL P s fn.results.toList = some ps) :
    ∃ x, (results fn a.tmps).run P w = .ok x w ∧ (resV ps).rel ρ x := by
  obtain ⟨xs, hx, hr⟩ := resL_sound P h e
  rw [results_eq, Array.mapM_eq_mapM_toList]
  simp only [Sem.run_bind, Sem.run_map, hx, Result.andThen_ok, Sem.run_pure]
  cases hr with
  | nil => exact ⟨_, rfl, [], .nil, by simp⟩
  | cons r0 rs =>
    cases rs with
    | nil => exact ⟨_, rfl, r0⟩
    | cons r1 rs => exact ⟨_, rfl, _, .cons r0 (.cons r1 rs), by simp⟩
/-- Values of results without addresses. -/
def valA : List A → Option (List Value)
  | [] => some []
  | a :: l => match a.val, valA l with | some v, some r => some (v :: r) | _, _ => none
def valR : List A → Option Value
  | [x] => x.val
  | xs => match valA xs with | some l => some (.tuple l.toArray) | none => none
theorem valA_rel {ρ : Ren} : ∀ {ps : List A} {l xs : List Value}, valA ps = some l → F2 (A.rel ρ) ps xs → xs = l := by
  intro ps
  induction ps with
  | nil => intro l xs h r; cases r; simp [valA] at h; exact h.symm
  | cons c ps ih =>
    intro l xs h r
    cases r with
    | cons r0 rs =>
      simp only [valA] at h
      split at h
      · rename_i v r' hv hr
        simp only [Option.some.injEq] at h; subst h
        rw [A.val_rel hv r0, ih hr rs]
      · cases h
theorem valR_rel {ρ : Ren} {ps : List A} {v x : Value} (h : valR ps = some v) (r : (resV ps).rel ρ x) : x = v := by
  match ps, h, r with
  | [p], h, r => exact A.val_rel h r
  | [], h, r =>
    obtain ⟨ys, hf, rfl⟩ := r
    cases hf
    simp [valR, valA] at h; exact h
  | p :: q :: l, h, r =>
    obtain ⟨ys, hf, rfl⟩ := r
    simp only [valR] at h
    split at h
    · rename_i l' hl
      simp only [Option.some.injEq] at h; subst h
      rw [valA_rel hl hf]
    · cases h
variable (G n0 : Nat) (sg : FuncId → Option Sm)
def args0 (args : List A) (bs : List Blk) : S := ⟨fun t => match args[t]? with | some a => some (.a a) | none => none, fun m => bs[m]?⟩
/-- A function's ways to results without addresses. -/
def runFn (fuel : Nat) (fn : Func) (args : List A) (bs : List Blk) : T Value :=
  match fn.body with
  | some code => (exec P G n0 fn.ntmps sg fuel code n0 (args0 args bs)).bind fun r => match r with
    | (.exit _, _, _) => .fail
    | (_, _, s) => (match resL P s fn.results.toList with
      | some ps => (match valR ps with | some v => .ret v | none => .fail)
      | none => .fail)
  | none => .fail
end
/-- A FUNCTION WHOSE RESULT HOLDS NO ADDRESS. bs: the blocks that were there (names 0, 1, ..), at_: where they lie. -/
theorem fn_sound {P : Program} {G : Nat} {sg : FuncId → Option Sm} {gw : World → Prop} (E : Env P G sg gw) {f : FuncId} {fn : Func} (hf : P.funcs[f]? = some fn) {fuel : Nat} {args : List A} {bs : List Blk} {at_ : List Nat} {xs : List Value} {w : World} {Q : Value → Prop}
    (hgw : gw w) (hx : F2 (A.rel fun m => (at_[m]?).map fun b => (b, 0)) args xs) (hlen : xs.length ≤ fn.ntmps) (hbl : at_.length = bs.length)
    (hbs : ∀ (m : Nat) (k : Blk), bs[m]? = some k → ∃ b, at_[m]? = some b ∧ b < w.heap.size ∧ k.rel (fun m => (at_[m]?).map fun b => (b, 0)) b w) (hG : ∀ g : Nat, g < G → at_[g]? = some g)
    (h : (runFn P G bs.length sg fuel fn args bs).wp Q) : Calls P f xs.toArray w (fun e w' => ∃ x, e = .returned x ∧ Q x ∧ Below w.heap.size w w') := by
  unfold runFn at h
  split at h
  · rename_i code hb
    refine calls_of_wp hf hb ?_
    have hrel : Rel w bs.length fn.ntmps (fun m => (at_[m]?).map fun b => (b, 0)) (args0 args bs) { tmps := xs.toArray ++ Array.replicate (fn.ntmps - xs.toArray.size) undef, defers := [] } w := by
      refine ⟨by simp; omega, rfl, Below.refl _ _, ?_, ?_, ?_, ?_⟩
      · intro t v ht
        simp only [args0] at ht
        split at ht
        · rename_i a ha
          simp only [Option.some.injEq] at ht; subst ht
          obtain ⟨x, hxt, hr⟩ := f2_get hx ha
          have hlt : t < xs.length := by
            rcases Nat.lt_or_ge t xs.length with h | h
            · exact h
            · rw [List.getElem?_eq_none h] at hxt; cases hxt
          refine ⟨by omega, ?_⟩
          rw [Array.getD_eq_getD_getElem?, Array.getElem?_append, if_pos (by simpa using hlt)]
          simp only [List.getElem?_toArray, hxt, Option.getD_some]
          exact hr
        · cases ht
      · intro m hm
        simp only [args0] at hm
        have : at_[m]? = none := by
          rw [List.getElem?_eq_none_iff] at hm ⊢; omega
        simp [this]
      · intro m k hm
        simp only [args0] at hm
        obtain ⟨b, h1, h2, h3⟩ := hbs m k hm
        have hlt : m < bs.length := by
          rcases Nat.lt_or_ge m bs.length with h | h
          · exact h
          · rw [List.getElem?_eq_none h] at hm; cases hm
        exact ⟨(b, 0), by simp [h1], h2, h3, fun hge => by omega, fun _ => h2⟩
      · intro m m' b b' hm hm' hn
        exfalso
        have : at_[m]? = none := by rw [List.getElem?_eq_none_iff]; omega
        simp [this] at hm
    have hgl : ∀ g, g < G → (at_[g]?).map (fun b => (b, 0)) = some (g, 0) := fun g hg => by rw [hG g hg]; rfl
    refine wp_mono (exec_sound E hgw fuel code hrel hgl (T.wp_bind h)) ?_
    have fin : ∀ (s : S) (ρ' : Ren) (a' : Act) (w' : World), Rel w bs.length fn.ntmps ρ' s a' w' → Ren.le (fun m => (at_[m]?).map fun b => (b, 0)) ρ' →
        T.wp Q (match resL P s fn.results.toList with | some ps => (match valR ps with | some v => T.ret v | none => T.fail) | none => T.fail) →
        a'.defers = [] ∧ ∃ v, (results fn a'.tmps).run P w' = .ok v w' ∧ ∃ x, Ending.returned v = .returned x ∧ Q x ∧ Below w.heap.size w w' := by
      intro s ρ' a' w' hrel' hle hr
      split at hr
      · rename_i ps hps
        split at hr
        · rename_i v hv
          have hview : View G ρ' s a' w' := ⟨fun t v ht => (hrel'.tm t v ht).2, fun m k hk => by obtain ⟨b, h1, h2, h3, _⟩ := hrel'.hp m k hk; exact ⟨b, h1, h2, h3⟩, fun g hg => hle _ _ (hgl g hg)⟩
          obtain ⟨x, hx1, hx2⟩ := results_sound P hview hps
          have := valR_rel hv hx2
          subst this
          exact ⟨hrel'.df, x, hx1, x, rfl, hr, hrel'.bel⟩
        · exact hr.elim
      · exact hr.elim
    intro e a' w' hc
    cases e <;> simp only [CP, bodyPost] at hc ⊢
    case normal => obtain ⟨c', s', ρ', hr, hrel', hle⟩ := hc; exact fin s' ρ' a' w' hrel' hle hr
    case ret => obtain ⟨c', s', ρ', hr, hrel', hle⟩ := hc; exact fin s' ρ' a' w' hrel' hle hr
    case exit id => obtain ⟨c', s', ρ', hr, hrel', hle⟩ := hc; exact hr.elim
  · exact h.elim
end Go.Eng
end

section
namespace Go.Eng
open Go.RowKit (Below)
/-- A table of summaries. -/
def lookS : List (Nat × Sm) → FuncId → Option Sm
  | [], _ => none
  | (g, σ) :: l, f => match Nat.beq g f with | true => some σ | false => lookS l f
def AllS (P : Program) (gw : World → Prop) : List (Nat × Sm) → Prop
  | [] => True
  | (f, σ) :: l => SumOK P gw f σ ∧ AllS P gw l
theorem lookS_ok {P : Program} {gw : World → Prop} : ∀ {l : List (Nat × Sm)}, AllS P gw l → ∀ f σ, lookS l f = some σ → SumOK P gw f σ := by
  intro l
  induction l with
  | nil => intro _ f σ h; simp [lookS] at h
  | cons x l ih =>
    intro hl f σ h
    obtain ⟨g, τ⟩ := x
    simp only [lookS] at h
    split at h
    · rename_i hb
      have := Nat.eq_of_beq_eq_true hb
      subst this
      simp only [Option.some.injEq] at h; subst h
      exact hl.1
    · exact ih hl.2 f σ h
def isGo (fn : Func) : Bool := !(fn.name == "runtime.NumGoroutine") && !fn.body.isNone
theorem enter_of {P : Program} {f : FuncId} {fn : Func} (h : P.funcs[f]? = some fn) (hg : isGo fn = true) (args : Array Value) (w : World) : (callFunc f args).run P w = .ok (.enter f args) w := by
  unfold isGo at hg
  simp only [Bool.and_eq_true, Bool.not_eq_true'] at hg
  exact run_callFunc h hg.1 hg.2 args w
theorem ends_flat {ρ : Ren} {c : Nat} {v : V} {w : World} {e : Ending} {w' : World} (h : ∃ x, e = .returned x ∧ (∀ ρ, v.rel ρ x) ∧ Below w.heap.size w w') : Ends ρ c v [] w e w' := by
  obtain ⟨x, rfl, hv, hb⟩ := h
  exact ⟨ρ, x, rfl, Ren.le_refl _, fun m hm _ => hm, hv ρ, hb, fun i k hi => by simp at hi, fun i j b b' hi => by simp at hi⟩
/-- Arguments that are plain. -/
def C.pv : C → Option Value
  | .op _ => none
  | c => c.val
def pvL : List C → Option (List Value)
  | [] => some []
  | c :: l => match c.pv, pvL l with | some v, some r => some (v :: r) | _, _ => none
def A.pv : A → Option Value
  | .c x => x.pv
  | .agg cs => match pvL cs with | some l => some (.agg l.toArray) | none => none
def pvA : List A → Option (List Value)
  | [] => some []
  | c :: l => match c.pv, pvA l with | some v, some r => some (v :: r) | _, _ => none
theorem C.pv_rel {ρ : Ren} {c : C} {v : Value} (h : c.pv = some v) : c.rel ρ v := by
  cases c <;> simp only [C.pv, C.val, Option.some.injEq, reduceCtorEq] at h <;> subst h <;> rfl
theorem pvL_rel {ρ : Ren} : ∀ {cs : List C} {l : List Value}, pvL cs = some l → F2 (C.rel ρ) cs l := by
  intro cs
  induction cs with
  | nil => intro l h; simp [pvL] at h; subst h; exact .nil
  | cons c cs ih =>
    intro l h
    simp only [pvL] at h
    split at h
    · rename_i v r hv hr
      simp only [Option.some.injEq] at h; subst h
      exact .cons (C.pv_rel hv) (ih hr)
    · cases h
theorem A.pv_rel {ρ : Ren} {c : A} {v : Value} (h : c.pv = some v) : c.rel ρ v := by
  cases c with
  | c x => exact C.pv_rel h
  | agg cs =>
    simp only [A.pv] at h
    split at h
    · rename_i l hl
      simp only [Option.some.injEq] at h; subst h
      exact ⟨l, pvL_rel hl, rfl⟩
    · cases h
theorem pvA_rel {ρ : Ren} : ∀ {cs : List A} {l : List Value}, pvA cs = some l → F2 (A.rel ρ) cs l := by
  intro cs
  induction cs with
  | nil => intro l h; simp [pvA] at h; subst h; exact .nil
  | cons c cs ih =>
    intro l h
    simp only [pvA] at h
    split at h
    · rename_i v r hv hr
      simp only [Option.some.injEq] at h; subst h
      exact .cons (A.pv_rel hv) (ih hr)
    · cases h
theorem T.wp_mono {α : Type} {Q R : α → Prop} (h : ∀ x, Q x → R x) : ∀ {t : T α}, t.wp Q → t.wp R := by
  intro t
  induction t with
  | ret x => exact h x
  | br b t e iht ihe => exact fun k => ⟨fun hb => iht (k.1 hb), fun hb => ihe (k.2 hb)⟩
  | need p t ih => exact fun k => ⟨k.1, ih k.2⟩
  | fail => exact id
end Go.Eng
end

section
namespace Go.Eng
open Go.RowKit (Below)
/-- The shape of an argument. -/
inductive Shp where
  | c
  | agg
  | ptr
  | sl
abbrev DomG := List (List Value) → Option (List Prop × V)
def blkCells : Blk → Option (List C)
  | .known _ cs => some cs
  | .part base cs => match Nat.beq base 0 with | true => some cs | false => none
  | .dead => none
/-- Arguments as groups of plain cells. -/
def groups (hp : Nat → Option Blk) : List Shp → List A → Option (List (List Value))
  | [], [] => some []
  | .c :: sh, .c x :: l => (match x.val, groups hp sh l with | some v, some r => some ([v] :: r) | _, _ => none)
  | .agg :: sh, .agg cs :: l => (match valL cs, groups hp sh l with | some vs, some r => some (vs :: r) | _, _ => none)
  | .ptr :: sh, .c (.ptr m 0) :: l => (match hp m with
    | some k => (match blkCells k with
      | some cs => (match valL cs, groups hp sh l with | some vs, some r => some (vs :: r) | _, _ => none)
      | none => none)
    | none => none)
  | .sl :: sh, .c (.sl m 0 n n') :: l => (match hp m with
    | some k => (match blkCells k with
      | some cs => (match valL cs, groups hp sh l with
        | some vs, some r => (match Nat.beq vs.length n && Nat.beq n n' with | true => some (vs :: r) | false => none)
        | _, _ => none)
      | none => none)
    | none => none)
  | _, _ => none
/-- How arguments stand to their groups. -/
inductive GRel (w : World) : List Shp → List (List Value) → List Value → Prop where
  | nil : GRel w [] [] []
  | c {v : Value} {sh : List Shp} {gs : List (List Value)} {xs : List Value} : GRel w sh gs xs → GRel w (.c :: sh) ([v] :: gs) (v :: xs)
  | agg {g : List Value} {sh : List Shp} {gs : List (List Value)} {xs : List Value} : GRel w sh gs xs → GRel w (.agg :: sh) (g :: gs) (.agg g.toArray :: xs)
  | ptr {g : List Value} {sh : List Shp} {gs : List (List Value)} {xs : List Value} (b : Nat) : b < w.heap.size → (∀ j v, g[j]? = some v → w.cell? ⟨b, j, none⟩ = some v) → GRel w sh gs xs →
      GRel w (.ptr :: sh) (g :: gs) (.pointer (some ⟨b, 0, none⟩) :: xs)
  | sl {g : List Value} {sh : List Shp} {gs : List (List Value)} {xs : List Value} (b : Nat) : b < w.heap.size → (∀ j v, g[j]? = some v → w.cell? ⟨b, j, none⟩ = some v) → GRel w sh gs xs →
      GRel w (.sl :: sh) (g :: gs) (.slice (some ⟨b, 0, none⟩) g.length g.length :: xs)
theorem blkCells_at {ρ : Ren} {b : Nat} {w : World} {k : Blk} {cs : List C} {vs : List Value} (h : k.rel ρ b w) (hc : blkCells k = some cs) (hv : valL cs = some vs) : ∀ j v, vs[j]? = some v → w.cell? ⟨b, j, none⟩ = some v := by
  have hval : ∀ {cs : List C} {vs : List Value}, valL cs = some vs → ∀ (j : Nat) (v : Value), vs[j]? = some v → ∃ c, cs[j]? = some c ∧ c.val = some v := by
    intro cs
    induction cs with
    | nil => intro vs h j v hj; simp [valL] at h; subst h; simp at hj
    | cons c cs ih =>
      intro vs h j v hj
      simp only [valL] at h
      split at h
      · rename_i u r hu hr
        simp only [Option.some.injEq] at h; subst h
        cases j with
        | zero => simp at hj; subst hj; exact ⟨c, rfl, hu⟩
        | succ j => simpa using ih hr j v (by simpa using hj)
      · cases h
  intro j v hj
  obtain ⟨c, hcj, hcv⟩ := hval hv j v hj
  have hcell : k.cell j = some c := by
    cases k with
    | known e cs' => simp only [blkCells, Option.some.injEq] at hc; subst hc; exact hcj
    | part base cs' =>
      simp only [blkCells] at hc
      split at hc
      · rename_i hb
        have := Nat.eq_of_beq_eq_true hb
        subst this
        simp only [Option.some.injEq] at hc; subst hc
        have hz : Nat.ble 0 j = true := by cases j <;> rfl
        simp only [Blk.cell, hz, Nat.sub_zero]; exact hcj
      · cases hc
    | dead => cases hc
  obtain ⟨x, hx, hxc⟩ := Blk.rel_cell h hcell
  rw [hxc, C.val_rel hcv hx]
theorem groups_rel {ρ : Ren} {hp : Nat → Option Blk} {w : World} (hhp : ∀ m k, hp m = some k → ∃ b, ρ m = some b ∧ b.1 < w.heap.size ∧ k.rel ρ b.1 w) :
    ∀ {sh : List Shp} {args : List A} {gs : List (List Value)} {xs : List Value}, groups hp sh args = some gs → F2 (A.rel ρ) args xs → GRel w sh gs xs := by
  intro sh
  induction sh with
  | nil =>
    intro args gs xs h r
    cases args with
    | nil => simp [groups] at h; subst h; cases r; exact .nil
    | cons a l => simp [groups] at h
  | cons s sh ih =>
    intro args gs xs h r
    unfold groups at h
    split at h
    · rename_i e; cases e
    · rename_i sh' x l e1
      cases e1
      cases r with
      | cons r0 rs =>
        split at h
        · rename_i v r' hv hr
          simp only [Option.some.injEq] at h; subst h
          rw [C.val_rel hv r0]
          exact .c (ih hr rs)
        · cases h
    · rename_i sh' cs l e1
      cases e1
      cases r with
      | cons r0 rs =>
        split at h
        · rename_i vs r' hv hr
          simp only [Option.some.injEq] at h; subst h
          obtain ⟨ys, hf, rfl⟩ := r0
          rw [valL_rel hv hf]
          exact .agg (ih hr rs)
        · cases h
    · rename_i sh' m l e1
      cases e1
      cases r with
      | cons r0 rs =>
        split at h
        · rename_i k hk
          split at h
          · rename_i cs hcs
            split at h
            · rename_i vs r' hv hr
              simp only [Option.some.injEq] at h; subst h
              obtain ⟨b, hb, rfl⟩ := r0
              obtain ⟨b', hb', hlt, hrel⟩ := hhp m k hk
              simp only at hb
              rw [hb] at hb'; cases hb'
              exact .ptr b.1 hlt (blkCells_at hrel hcs hv) (ih hr rs)
            · cases h
          · cases h
        · cases h
    · rename_i sh' m n n' l e1
      cases e1
      cases r with
      | cons r0 rs =>
        split at h
        · rename_i k hk
          split at h
          · rename_i cs hcs
            split at h
            · rename_i vs r' hv hr
              split at h
              · rename_i hn
                simp only [Bool.and_eq_true] at hn
                have h1 := Nat.eq_of_beq_eq_true hn.1
                have h2 := Nat.eq_of_beq_eq_true hn.2
                subst h2
                simp only [Option.some.injEq] at h; subst h
                obtain ⟨b, hb, rfl⟩ := r0
                obtain ⟨b', hb', hlt, hrel⟩ := hhp m k hk
                rw [hb] at hb'; cases hb'
                rw [← h1]
                exact .sl b.1 hlt (blkCells_at hrel hcs hv) (ih hr rs)
              · cases h
            · cases h
          · cases h
        · cases h
    · cases h
theorem groups_loc {hp hp' : Nat → Option Blk} : ∀ {sh : List Shp} {args : List A}, (∀ m, m ∈ namesL args → hp m = hp' m) → groups hp sh args = groups hp' sh args := by
  intro sh
  induction sh with
  | nil => intro args h; cases args <;> rfl
  | cons s sh ih =>
    intro args h
    cases args with
    | nil => cases s <;> rfl
    | cons a l =>
      have ihl := ih (args := l) (fun m hm => h m (by simp [namesL, hm]))
      cases s with
      | c => cases a with
        | c x => simp only [groups, ihl]
        | agg cs => rfl
      | agg => cases a with
        | c x => rfl
        | agg cs => simp only [groups, ihl]
      | ptr =>
        cases a with
        | agg cs => rfl
        | c x =>
          cases x with
          | ptr m off =>
            cases off with
            | zero => simp only [groups, ihl, h m (by simp [namesL, A.names])]
            | succ off => rfl
          | _ => rfl
      | sl =>
        cases a with
        | agg cs => rfl
        | c x =>
          cases x with
          | sl m off n n' =>
            cases off with
            | zero => simp only [groups, ihl, h m (by simp [namesL, A.names])]
            | succ off => rfl
          | _ => rfl
def grpSm (sh : List Shp) (dom : DomG) : Sm := fun args hp _ =>
  match groups hp sh args with
  | some gs => (match dom gs with | some (p, v) => some (p, v, []) | none => none)
  | none => none
/-- THE CONTRACT of a function over such arguments. -/
def GOK (P : Program) (gw : World → Prop) (f : FuncId) (sh : List Shp) (dom : DomG) : Prop :=
  ∀ gs p v, dom gs = some (p, v) → All p → ∀ w xs, gw w → GRel w sh gs xs → Calls P f xs.toArray w (fun e w' => ∃ x, e = .returned x ∧ (∀ ρ, v.rel ρ x) ∧ Below w.heap.size w w')
theorem grp_sum {P : Program} {gw : World → Prop} {f : FuncId} {fn : Func} {sh : List Shp} {dom : DomG} (hf : P.funcs[f]? = some fn) (hg : isGo fn = true) (h : GOK P gw f sh dom) : SumOK P gw f (grpSm sh dom) where
  enter := enter_of hf hg
  loc := by intro args c hp hp' hm; unfold grpSm; rw [groups_loc hm]
  ok := by
    intro args c hp p v N hs hpr ρ xs w hgw hx hhp _
    unfold grpSm at hs
    split at hs
    · rename_i gs hgs
      split at hs
      · rename_i p' v' hd
        simp only [Option.some.injEq, Prod.mk.injEq] at hs
        obtain ⟨rfl, rfl, rfl⟩ := hs
        exact (h gs _ _ hd hpr w xs hgw (groups_rel hhp hgs hx)).mono fun e w' he => ends_flat he
      · cases hs
    · cases hs
/-- The same the other way: arguments for the engine, out of groups. -/
def symC : Value → Option C
  | .int k n => some (.int k n)
  | .bool b => some (.bool b)
  | .string s => some (.str s)
  | _ => none
def symL : List Value → Option (List C)
  | [] => some []
  | v :: l => match symC v, symL l with | some c, some r => some (c :: r) | _, _ => none
theorem symC_rel {ρ : Ren} {v : Value} {c : C} (h : symC v = some c) : c.rel ρ v := by
  unfold symC at h
  split at h <;> first | (simp only [Option.some.injEq] at h; subst h; rfl) | cases h
theorem symL_rel {ρ : Ren} : ∀ {vs : List Value} {cs : List C}, symL vs = some cs → F2 (C.rel ρ) cs vs := by
  intro vs
  induction vs with
  | nil => intro cs h; simp [symL] at h; subst h; exact .nil
  | cons v vs ih =>
    intro cs h
    simp only [symL] at h
    split at h
    · rename_i c r hc hr
      simp only [Option.some.injEq] at h; subst h
      exact .cons (symC_rel hc) (ih hr)
    · cases h
def mkArgs : List Shp → List (List Value) → Nat → Option (List A × List Blk)
  | [], [], _ => some ([], [])
  | .c :: sh, [v] :: gs, k => (match symC v, mkArgs sh gs k with | some c, some r => some (.c c :: r.1, r.2) | _, _ => none)
  | .agg :: sh, g :: gs, k => (match symL g, mkArgs sh gs k with | some cs, some r => some (.agg cs :: r.1, r.2) | _, _ => none)
  | .ptr :: sh, g :: gs, k => (match symL g, mkArgs sh gs (k + 1) with | some cs, some r => some (.c (.ptr k 0) :: r.1, .part 0 cs :: r.2) | _, _ => none)
  | .sl :: sh, g :: gs, k => (match symL g, mkArgs sh gs (k + 1) with | some cs, some r => some (.c (.sl k 0 g.length g.length) :: r.1, .part 0 cs :: r.2) | _, _ => none)
  | _, _, _ => none
theorem part_rel {ρ : Ren} {b : Nat} {w : World} {cs : List C} {vs : List Value} (hs : F2 (C.rel ρ) cs vs) (hc : ∀ j v, vs[j]? = some v → w.cell? ⟨b, j, none⟩ = some v) : (Blk.part 0 cs).rel ρ b w := by
  intro j c hj
  obtain ⟨x, hx, hr⟩ := f2_get hs hj
  exact ⟨x, hr, by rw [Nat.zero_add]; exact hc j x hx⟩
/-- The blocks of the arguments, named from k on. -/
theorem mkArgs_rel {w : World} : ∀ {sh : List Shp} {gs : List (List Value)} {xs : List Value} {k : Nat} {args : List A} {bs : List Blk}, GRel w sh gs xs → mkArgs sh gs k = some (args, bs) →
    ∃ at_ : List Nat, at_.length = bs.length ∧ (∀ (i : Nat) (kb : Blk), bs[i]? = some kb → ∃ b, at_[i]? = some b ∧ b < w.heap.size ∧ ∀ ρ, kb.rel ρ b w) ∧
      (∀ ρ : Ren, (∀ (i : Nat) (b : Nat), at_[i]? = some b → ρ (k + i) = some (b, 0)) → F2 (A.rel ρ) args xs) := by
  intro sh gs xs k args bs h
  induction h generalizing k args bs with
  | nil =>
    intro e
    simp only [mkArgs, Option.some.injEq, Prod.mk.injEq] at e
    obtain ⟨rfl, rfl⟩ := e
    exact ⟨[], rfl, fun i kb h => by simp at h, fun ρ _ => .nil⟩
  | c _ ih =>
    intro e
    simp only [mkArgs] at e
    split at e
    · rename_i c r hc hr
      simp only [Option.some.injEq, Prod.mk.injEq] at e
      obtain ⟨rfl, rfl⟩ := e
      obtain ⟨at_, h1, h2, h3⟩ := ih (k := k) (args := r.1) (bs := r.2) hr
      exact ⟨at_, h1, h2, fun ρ hρ => .cons (symC_rel hc) (h3 ρ hρ)⟩
    · cases e
  | agg _ ih =>
    intro e
    simp only [mkArgs] at e
    split at e
    · rename_i c r hc hr
      simp only [Option.some.injEq, Prod.mk.injEq] at e
      obtain ⟨rfl, rfl⟩ := e
      obtain ⟨at_, h1, h2, h3⟩ := ih (k := k) (args := r.1) (bs := r.2) hr
      exact ⟨at_, h1, h2, fun ρ hρ => .cons ⟨_, symL_rel hc, rfl⟩ (h3 ρ hρ)⟩
    · cases e
  | ptr b hb hcell _ ih =>
    intro e
    simp only [mkArgs] at e
    split at e
    · rename_i c r hc hr
      simp only [Option.some.injEq, Prod.mk.injEq] at e
      obtain ⟨rfl, rfl⟩ := e
      obtain ⟨at_, h1, h2, h3⟩ := ih (k := k + 1) (args := r.1) (bs := r.2) hr
      refine ⟨b :: at_, by simp [h1], ?_, fun ρ hρ => .cons ⟨(b, 0), hρ 0 b rfl, rfl⟩ (h3 ρ (fun i b' hi => by rw [show k + 1 + i = k + (i + 1) by omega]; exact hρ (i + 1) b' (by simpa using hi)))⟩
      intro i kb hi
      cases i with
      | zero => simp at hi; subst hi; exact ⟨b, rfl, hb, fun ρ => part_rel (symL_rel hc) hcell⟩
      | succ i => simpa using h2 i kb (by simpa using hi)
    · cases e
  | sl b hb hcell _ ih =>
    intro e
    simp only [mkArgs] at e
    split at e
    · rename_i c r hc hr
      simp only [Option.some.injEq, Prod.mk.injEq] at e
      obtain ⟨rfl, rfl⟩ := e
      obtain ⟨at_, h1, h2, h3⟩ := ih (k := k + 1) (args := r.1) (bs := r.2) hr
      refine ⟨b :: at_, by simp [h1], ?_, fun ρ hρ => .cons ⟨(b, 0), hρ 0 b rfl, rfl⟩ (h3 ρ (fun i b' hi => by rw [show k + 1 + i = k + (i + 1) by omega]; exact hρ (i + 1) b' (by simpa using hi)))⟩
      intro i kb hi
      cases i with
      | zero => simp at hi; subst hi; exact ⟨b, rfl, hb, fun ρ => part_rel (symL_rel hc) hcell⟩
      | succ i => simpa using h2 i kb (by simpa using hi)
    · cases e
/-- The package-level variables that have a name, block by block: what they hold. -/
structure Glob (G : Nat) (gw : World → Prop) (bs : List Blk) : Prop where
  len : bs.length = G
  at_ : ∀ w, gw w → ∀ (i : Nat) (k : Blk), bs[i]? = some k → i < w.heap.size ∧ ∀ ρ, k.rel ρ i w
/-- THE RUN OF A FUNCTION, out of its tree. -/
theorem grp_run {P : Program} {G : Nat} {sg : FuncId → Option Sm} {gw : World → Prop} {gb : List Blk} (E : Env P G sg gw) (hgb : Glob G gw gb) {f : FuncId} {fn : Func} (hf : P.funcs[f]? = some fn) (fuel : Nat) {sh : List Shp} {gs : List (List Value)} {args : List A} {bs : List Blk} {xs : List Value} {w : World} {Q : Value → Prop}
    (hgw : gw w) (hx : GRel w sh gs xs) (hm : mkArgs sh gs G = some (args, bs)) (hlen : Nat.ble args.length fn.ntmps = true)
    (h : (runFn P G (gb ++ bs).length sg fuel fn args (gb ++ bs)).wp Q) : Calls P f xs.toArray w (fun e w' => ∃ x, e = .returned x ∧ Q x ∧ Below w.heap.size w w') := by
  obtain ⟨at_, h1, h2, h3⟩ := mkArgs_rel hx hm
  have hat : ∀ (i : Nat), i < G → (List.range G ++ at_)[i]? = some i := by
    intro i hi
    rw [List.getElem?_append_left (by simpa using hi)]
    simp [hi]
  have hat2 : ∀ (i : Nat), (List.range G ++ at_)[G + i]? = at_[i]? := by
    intro i
    rw [List.getElem?_append_right (by simp)]
    simp
  have hfr : F2 (A.rel fun m => ((List.range G ++ at_)[m]?).map fun b => (b, 0)) args xs := by
    refine h3 _ (fun i b hi => ?_)
    rw [hat2, hi]; rfl
  refine fn_sound E hf (at_ := List.range G ++ at_) (bs := gb ++ bs) hgw hfr ?_ (by simp [h1, hgb.len]) ?_ hat h
  · rw [← f2_len hfr]; exact Nat.le_of_ble_eq_true hlen
  · intro m k hk
    by_cases hm : m < G
    · rw [List.getElem?_append_left (by rw [hgb.len]; exact hm)] at hk
      obtain ⟨g1, g2⟩ := hgb.at_ w hgw m k hk
      exact ⟨m, hat m hm, g1, g2 _⟩
    · rw [List.getElem?_append_right (by rw [hgb.len]; omega), hgb.len] at hk
      obtain ⟨b, k1, k2, k3⟩ := h2 (m - G) k hk
      refine ⟨b, ?_, k2, k3 _⟩
      have := hat2 (m - G)
      rw [show G + (m - G) = m by omega] at this
      rw [this]; exact k1
end Go.Eng
end

section
namespace Go.Eng
open Go.RowKit (Below)
def V.pv : V → Option Value
  | .a y => y.pv
  | .tup ys => match pvA ys with | some l => some (.tuple l.toArray) | none => none
theorem V.pv_rel {ρ : Ren} {v : V} {x : Value} (h : v.pv = some x) : v.rel ρ x := by
  cases v with
  | a y => exact A.pv_rel h
  | tup ys =>
    simp only [V.pv] at h
    split at h
    · rename_i l hl
      simp only [Option.some.injEq] at h; subst h
      exact ⟨l, pvA_rel hl, rfl⟩
    · cases h
theorem grp_fin {P : Program} {G : Nat} {sl : List (Nat × Sm)} {gw : World → Prop} {gb : List Blk} (hmix : P.follows .mixedOrders = true) (hst : ∀ w w', gw w → Below w.heap.size w w' → gw w') (hgb : Glob G gw gb) (hS : AllS P gw sl)
    {f : FuncId} {fn : Func} (hf : P.funcs[f]? = some fn) {n0 fuel : Nat} {sh : List Shp} {gs : List (List Value)} {args : List A} {bs bl : List Blk} {xs : List Value} {w : World} {v : V} {x' : Value} {t : T Value}
    (hgw : gw w) (hx : GRel w sh gs xs) (hm : mkArgs sh gs G = some (args, bs)) (hbl : gb ++ bs = bl) (hn : bl.length = n0) (hlen : Nat.ble args.length fn.ntmps = true)
    (ht : runFn P G n0 (lookS sl) fuel fn args bl = t) (hv : v.pv = some x') (h : t.wp (fun x => x = x')) :
    Calls P f xs.toArray w (fun e w' => ∃ x, e = .returned x ∧ (∀ ρ, v.rel ρ x) ∧ Below w.heap.size w w') := by
  subst hbl hn
  have E : Env P G (lookS sl) gw := ⟨hmix, fun f σ hs => lookS_ok hS f σ hs, hst⟩
  refine (grp_run E hgb hf fuel hgw hx hm hlen (by rw [ht]; exact h)).mono ?_
  rintro e w' ⟨x, he, rfl, hb⟩
  exact ⟨_, he, fun ρ => V.pv_rel hv, hb⟩
end Go.Eng
end

section
set_option linter.unusedVariables false
set_option linter.unusedSimpArgs false
namespace Go.V
open Go.RowKit (Below)
def D.val : D → Option Value
  | .int k n => some (.int k n)
  | .bool b => some (.bool b)
  | .str s => some (.string s)
  | _ => none
def dVals : List D → Option (List Value)
  | [] => some []
  | d :: l => match d.val, dVals l with | some v, some r => some (v :: r) | _, _ => none
/-- Arguments of the first engine: cells and structs. -/
def gOf : List Eng.Shp → List Ag → Option (List (List Value))
  | [], [] => some []
  | .c :: sh, .c d :: l => (match d.val, gOf sh l with | some v, some r => some ([v] :: r) | _, _ => none)
  | .agg :: sh, .agg ds :: l => (match dVals ds, gOf sh l with | some v, some r => some (v :: r) | _, _ => none)
  | _, _ => none
def dC : Eng.C → Option D
  | .num k n => some (.int k n)
  | .int k n => some (.int k n)
  | .lit b => some (.bool b)
  | .bool b => some (.bool b)
  | .str s => some (.str s)
  | _ => none
def dCs : List Eng.C → Option (List D)
  | [] => some []
  | c :: l => match dC c, dCs l with | some v, some r => some (v :: r) | _, _ => none
def arA : Eng.A → Option Ar
  | .c c => (match dC c with | some d => some (.c d) | none => none)
  | .agg cs => (match dCs cs with | some ds => some (.agg ds) | none => none)
def arAs : List Eng.A → Option (List Ar)
  | [] => some []
  | c :: l => match arA c, arAs l with | some v, some r => some (v :: r) | _, _ => none
def arV : Eng.V → Option (List Ar)
  | .a y => (match arA y with | some r => some [r] | none => none)
  | .tup (y :: z :: l) => arAs (y :: z :: l)
  | _ => none
/-- The contract's domain. -/
def bdom (sh : List Eng.Shp) (dom : Eng.DomG) : DomF := fun ags =>
  match gOf sh ags with
  | some gs => (match dom gs with
    | some (p, v) => (match arV v with | some r => some (p, r) | none => none)
    | none => none)
  | none => none
theorem all_iff : ∀ {l : List Prop}, All l → Eng.All l
  | [], _ => trivial
  | _ :: _, h => ⟨h.1, all_iff h.2⟩
section
variable {P : Program} {G : GT} {gw : World → Prop} {κ : Still} {ρ : Eng.Ren}
theorem dval_rel {d : D} {v x : Value} (h : d.val = some v) (r : d.rel κ x) : x = v := by
  cases d <;> simp only [D.val, Option.some.injEq, reduceCtorEq] at h <;> simp only [D.rel] at r <;> rw [r, h]
theorem dvals_rel : ∀ {ds : List D} {vs xs : List Value}, dVals ds = some vs → F2 (D.rel κ) ds xs → xs = vs
  | [], vs, _, h, .nil => by simp [dVals] at h; exact h.symm
  | d :: l, vs, _, h, .cons r rs => by
    simp only [dVals] at h
    split at h
    · rename_i v k hv hk
      simp only [Option.some.injEq] at h; subst h
      rw [dval_rel hv r, dvals_rel hk rs]
    · cases h
theorem gOf_rel {w : World} : ∀ {sh : List Eng.Shp} {ags : List Ag} {gs : List (List Value)} {xs : List Value}, gOf sh ags = some gs → F2 (Ag.rel P gw κ) ags xs → Eng.GRel w sh gs xs
  | [], [], gs, _, h, .nil => by simp [gOf] at h; subst h; exact .nil
  | .c :: sh, .c d :: l, gs, _, h, .cons r rs => by
    simp only [gOf] at h
    split at h
    · rename_i v k hv hk
      simp only [Option.some.injEq] at h; subst h
      rw [dval_rel hv r]
      exact .c (gOf_rel hk rs)
    · cases h
  | .agg :: sh, .agg ds :: l, gs, _, h, .cons r rs => by
    simp only [gOf] at h
    split at h
    · rename_i v k hv hk
      simp only [Option.some.injEq] at h; subst h
      obtain ⟨ys, hf, rfl⟩ := r
      rw [dvals_rel hv hf]
      exact .agg (gOf_rel hk rs)
    · cases h
  | [], _ :: _, _, _, h, _ => by simp [gOf] at h
  | _ :: _, [], _, _, h, _ => by simp [gOf] at h
  | .c :: _, .agg _ :: _, _, _, h, _ => by simp [gOf] at h
  | .c :: _, .ptr _ _ :: _, _, _, h, _ => by simp [gOf] at h
  | .c :: _, .clo _ :: _, _, _, h, _ => by simp [gOf] at h
  | .agg :: _, .c _ :: _, _, _, h, _ => by simp [gOf] at h
  | .agg :: _, .ptr _ _ :: _, _, _, h, _ => by simp [gOf] at h
  | .agg :: _, .clo _ :: _, _, _, h, _ => by simp [gOf] at h
  | .ptr :: _, _ :: _, _, _, h, _ => by simp [gOf] at h
  | .sl :: _, _ :: _, _, _, h, _ => by simp [gOf] at h
theorem dC_rel {c : Eng.C} {d : D} {x : Value} (h : dC c = some d) (r : c.rel ρ x) : d.rel κ x := by
  cases c <;> simp only [dC, Option.some.injEq, reduceCtorEq] at h <;> subst h <;> exact r
theorem dCs_rel : ∀ {cs : List Eng.C} {ds : List D} {xs : List Value}, dCs cs = some ds → Eng.F2 (Eng.C.rel ρ) cs xs → F2 (D.rel κ) ds xs
  | [], ds, _, h, .nil => by simp [dCs] at h; subst h; exact .nil
  | c :: l, ds, _, h, .cons r rs => by
    simp only [dCs] at h
    split at h
    · rename_i v k hv hk
      simp only [Option.some.injEq] at h; subst h
      exact .cons (dC_rel hv r) (dCs_rel hk rs)
    · cases h
theorem arA_rel {y : Eng.A} {r : Ar} {x : Value} (h : arA y = some r) (hr : y.rel ρ x) : r.rel κ x := by
  cases y with
  | c c =>
    simp only [arA] at h
    split at h
    · rename_i d hd; simp only [Option.some.injEq] at h; subst h; exact dC_rel hd hr
    · cases h
  | agg cs =>
    simp only [arA] at h
    split at h
    · rename_i d hd
      simp only [Option.some.injEq] at h; subst h
      obtain ⟨xs, hf, e⟩ := hr
      exact ⟨xs, dCs_rel hd hf, e⟩
    · cases h
theorem arAs_rel : ∀ {cs : List Eng.A} {ds : List Ar} {xs : List Value}, arAs cs = some ds → Eng.F2 (Eng.A.rel ρ) cs xs → F2 (Ar.rel κ) ds xs
  | [], ds, _, h, .nil => by simp [arAs] at h; subst h; exact .nil
  | c :: l, ds, _, h, .cons r rs => by
    simp only [arAs] at h
    split at h
    · rename_i v k hv hk
      simp only [Option.some.injEq] at h; subst h
      exact .cons (arA_rel hv r) (arAs_rel hk rs)
    · cases h
theorem arV_rel {v : Eng.V} {r : List Ar} {x : Value} (h : arV v = some r) (hr : v.rel ρ x) : resRel κ r x := by
  unfold arV at h
  split at h
  · split at h
    · rename_i y r' hr'
      simp only [Option.some.injEq] at h; subst h
      exact arA_rel hr' hr
    · cases h
  · rename_i y z l
    obtain ⟨ys, hf, e⟩ := hr
    have h2 := arAs_rel (κ := κ) h hf
    have h3 : ∃ r0 r1 rs, r = r0 :: r1 :: rs := by
      cases h2 with
      | nil => cases hf
      | cons r0 rs0 =>
        cases rs0 with
        | cons r1 rs1 => exact ⟨_, _, _, rfl⟩
        | nil => cases hf with | cons _ t => cases t
    obtain ⟨r0, r1, rs, rfl⟩ := h3
    exact ⟨ys, h2, e⟩
  · cases h
theorem bridge {f : FuncId} {sh : List Eng.Shp} {dom : Eng.DomG} (h : Eng.GOK P gw f sh dom) : FOK P G gw f (bdom sh dom) := by
  intro ags p r hd hp κ w xs hgw hl hG hx
  unfold bdom at hd
  split at hd
  · rename_i gs hgs
    split at hd
    · rename_i p' v hdv
      split at hd
      · rename_i r' hr
        simp only [Option.some.injEq, Prod.mk.injEq] at hd
        obtain ⟨rfl, rfl⟩ := hd
        refine (h gs p' v hdv (all_iff hp) w xs hgw (gOf_rel hgs hx)).mono ?_
        rintro e w' ⟨x, rfl, hv, hb⟩
        exact ⟨x, κ, rfl, fun _ _ _ h => h, lies_back (κ' := κ) hl hb, fun b o v h => .inl h, arV_rel hr (hv fun _ => none), hb⟩
      · cases hd
    · cases hd
  · cases hd
end
end Go.V
end

section
set_option linter.unusedVariables false
set_option linter.unusedSimpArgs false
namespace Go.V
open Go.RowKit (Below)
/-- What runs a region: in the text's order with calls of yield and calls carried out here; or in whatever order. -/
def rxD (P : Program) (G : GT) (N : Nat) (sg : FuncId → Option Sm) (fuel : Nat) (yh : Nat → Option YH) (inl : FuncId → Option (Func × Run)) : RX := fun ops draw wk c s =>
  match draw with
  | true => rtree P G N sg ops true wk c s fuel (fun _ => none)
  | false => goX P G N sg yh inl wk ops ops.toList c s
def inlOf (P : Program) (inS : List Nat) (ex : FuncId → Func → Run) : FuncId → Option (Func × Run) := fun g =>
  match memN inS g, P.funcs[g]? with
  | true, some fn => (match isGo fn with | true => some (fn, ex g fn) | false => none)
  | _, _ => none
/-- A function's code: calls of the functions inS and loops over functions are carried out here, so deep; k: the level of the next loop over a function. -/
def execD (P : Program) (G : GT) (sg : FuncId → Option Sm) (an : Nat → An) (inS : List Nat) (LV fuel : Nat) : Nat → Nat → (Nat → Option YH) → FuncId → Func → Run
  | 0, _, _, _, _ => fun _ _ _ _ => .fail
  | d + 1, k, yh, f, fn => exec G fn.ntmps (an f) LV (rxD P G fn.ntmps sg fuel yh (inlOf P inS (execD P G sg an inS LV fuel d k yh)))
      (rfX P G fn.ntmps k LV (exec G fn.ntmps (an f) LV (rxD P G fn.ntmps sg fuel yh (inlOf P inS (execD P G sg an inS LV fuel d LV yh))) rf0 fuel)
        (fun h gf gfn => execD P G sg an inS LV fuel d (k + 1) (upd yh k (some h)) gf gfn)) fuel
section
variable {P : Program} {G : GT} {N : Nat} {rr : Option Nat} {sg : FuncId → Option Sm} {yh : Nat → Option YH} {inl : FuncId → Option (Func × Run)} {gw : World → Prop} {w0 : World} {LV : Nat} {a : Act} {w : World} {Q : Exit → Act → World → Prop}
theorem putS_tm {dst : Option Tmp} {v : V} {s : S} {t : Nat} (h : dst ≠ some t) : (putS dst v s).tm t = s.tm t := by
  cases dst with
  | none => rfl
  | some d => exact upd_ne _ _ (fun e => h (by rw [e]))
theorem spOf_yl {o : Oper} {s : S} {k : Nat} {h : YH} {args : List A} (e : spOf G yh inl o s = some (.yl k h args)) : yh k = some h := by
  unfold spOf at e
  split at e
  · split at e
    · split at e
      · split at e
        · rename_i hyk'
          simp only [Option.some.injEq, Sp.yl.injEq] at e
          obtain ⟨rfl, rfl, rfl⟩ := e
          exact hyk'
        · cases e
      · split at e <;> cases e
      · cases e
    · cases e
  · cases e
theorem spOf_inl {o : Oper} {s : S} {fn : Func} {ex : Run} {args : List A} (e : spOf G yh inl o s = some (.inl fn ex args)) : ∃ g, inl g = some (fn, ex) := by
  unfold spOf at e
  split at e
  · split at e
    · split at e
      · split at e <;> cases e
      · split at e
        · rename_i hig
          simp only [Option.some.injEq, Sp.inl.injEq] at e
          obtain ⟨rfl, rfl, rfl⟩ := e
          exact ⟨_, hig⟩
        · cases e
      · cases e
    · cases e
  · cases e
theorem opX_keep {wk : Nat → Bool} (hyk : ∀ k h, yh k = some h → HKeep h) (hik : ∀ g fn ex, inl g = some (fn, ex) → RKeep ex) {o : Oper} {c : Nat} {s : S} :
    (opX P G N sg yh inl wk o c s).all fun r => c ≤ r.1 ∧ (∀ t, o.dst ≠ some t → r.2.tm t = s.tm t) ∧ ∀ m, m < c → wk m = false → r.2.hp m = s.hp m := by
  unfold opX
  split
  · rename_i k hd args hsp
    split
    · refine T.all_bind (T.all_mono ?_ (hyk k hd (spOf_yl hsp) args wk c s))
      rintro ⟨b, c1, s1⟩ ⟨h1, h2, h3⟩
      exact ⟨h1, fun t ht => (putS_tm ht).trans (congrFun h2 t), h3⟩
    · trivial
  · rename_i fn ex args hsp
    split
    · obtain ⟨g, hg⟩ := spOf_inl hsp
      refine T.all_bind (T.all_mono ?_ (callT_keep (hik g fn ex hg)))
      rintro ⟨v, c1, s1⟩ ⟨h1, h2, h3⟩
      exact ⟨h1, fun t ht => (putS_tm ht).trans (congrFun h2 t), h3⟩
    · trivial
  · split
    · rename_i e p rd hop
      refine T.all_needs ?_
      refine ⟨Nat.le_add_right _ _, fun t ht => doit_tm_ne (o.dst, ⟨c, e, rd⟩) s t ht, fun m hm hw => doit_hp_ne (o.dst, ⟨c, e, rd⟩) s m ?_⟩
      simp only [Rec.touch]
      cases e with
      | none => simp
      | some f =>
        simp only [List.mem_append, mem_names, not_or, List.mem_map, not_exists, not_and]
        refine ⟨fun q hq hqm => ?_, by omega⟩
        have hst : stepA P G N sg wk #[{ o with guard := none }] (fun _ => none) 0 c { o with guard := none } s = .ok (some f) p rd := hop
        have := stepA_keeps hst f rfl q hq
        rw [hqm, hw] at this; cases this
    · trivial
theorem goX_keep {wk : Nat → Bool} (hyk : ∀ k h, yh k = some h → HKeep h) (hik : ∀ g fn ex, inl g = some (fn, ex) → RKeep ex) {id : Nat} {ops : Array Oper} {draw : Bool} :
    ∀ (l : List Oper) {c : Nat} {s : S}, (∀ o, o ∈ l → o ∈ ops.toList) → (goX P G N sg yh inl wk ops l c s).all (Keeps c s wk (dsts (.region id ops draw))) := by
  have hdst : ∀ {o : Oper} {t : Nat}, o ∈ ops.toList → memN (dsts (.region id ops draw)) t = false → o.dst ≠ some t := by
    intro o t ho ht hd
    have : memN (dsts (.region id ops draw)) t = true := memN_iff.2 (by simp only [dsts, List.mem_filterMap]; exact ⟨o, ho, hd⟩)
    rw [ht] at this; cases this
  intro l
  induction l with
  | nil => intro c s _; exact Keeps.refl _ _ _ _ _
  | cons o l ih =>
    intro c s hmem
    have hin := hmem o (List.mem_cons_self ..)
    have ih' := fun {c : Nat} {s : S} => ih (c := c) (s := s) (fun o' ho' => hmem o' (List.mem_cons_of_mem _ ho'))
    have yes : ∀ s', (∀ t, memN (dsts (.region id ops draw)) t = false → s'.tm t = s.tm t) → s'.hp = s.hp →
        ((opX P G N sg yh inl wk o c s').bind fun r => goX P G N sg yh inl wk ops l r.1 r.2).all (Keeps c s wk (dsts (.region id ops draw))) := by
      intro s' h1 h2
      refine T.all_bind (T.all_mono ?_ (opX_keep hyk hik))
      rintro ⟨c1, s1⟩ ⟨g1, g2, g3⟩
      refine T.all_mono ?_ (ih' (c := c1) (s := s1))
      rintro r ⟨k1, k2, k3⟩
      exact ⟨Nat.le_trans g1 k1, fun t ht => ((k2 t ht).trans (g2 t (hdst hin ht))).trans (h1 t ht), fun m hm hw => ((k3 m (Nat.lt_of_lt_of_le hm g1) hw).trans (g3 m hm hw)).trans (by rw [h2])⟩
    have no : ∀ s', (∀ t, memN (dsts (.region id ops draw)) t = false → s'.tm t = s.tm t) → s'.hp = s.hp →
        (match dstOk N o with | true => goX P G N sg yh inl wk ops l c (putS o.dst (.tup []) s') | false => T.fail).all (Keeps c s wk (dsts (.region id ops draw))) := by
      intro s' h1 h2
      split
      · refine T.all_mono ?_ (ih' (c := c) (s := putS o.dst (.tup []) s'))
        rintro r ⟨k1, k2, k3⟩
        exact ⟨k1, fun t ht => ((k2 t ht).trans (putS_tm (hdst hin ht))).trans (h1 t ht), fun m hm hw => (k3 m hm hw).trans (by show s'.hp m = s.hp m; rw [h2])⟩
      · trivial
    simp only [goX, guardX]
    split
    · exact yes s (fun _ _ => rfl) rfl
    · rename_i k want hg
      split
      · rename_i d hd
        split
        · split
          · exact yes s (fun _ _ => rfl) rfl
          · exact no s (fun _ _ => rfl) rfl
        · rename_i b hb
          have hput : ∀ v, ∀ t, memN (dsts (.region id ops draw)) t = false → (putS (some d) v s).tm t = s.tm t := by
            intro v t ht
            refine putS_tm ?_
            intro e
            unfold dstOf at hd
            obtain ⟨o', ho', hdo⟩ := Option.bind_eq_some_iff.1 hd
            have hm : o' ∈ ops.toList := by
              have := Array.mem_of_getElem? ho'
              exact this.1
            exact hdst hm ht (by rw [hdo, e])
          refine ⟨?_, ?_⟩
          · split
            · exact yes _ (hput _) rfl
            · exact no _ (hput _) rfl
          · split
            · exact yes _ (hput _) rfl
            · exact no _ (hput _) rfl
        · exact no s (fun _ _ => rfl) rfl
        · trivial
      · trivial
theorem rxD_keep {fuel : Nat} (hyk : ∀ k h, yh k = some h → HKeep h) (hik : ∀ g fn ex, inl g = some (fn, ex) → RKeep ex) (id : Nat) (ops : Array Oper) (draw : Bool) (wk : Nat → Bool) (c : Nat) (s : S) :
    (rxD P G N sg fuel yh inl ops draw wk c s).all (Keeps c s wk (dsts (.region id ops draw))) := by
  unfold rxD
  split
  · exact rtree_keeps
  · exact goX_keep hyk hik _ (fun _ h => h)
theorem exec_rkeep {an : An} {rx : RX} {rf : RF} (hxk : ∀ id ops draw wk c s, (rx ops draw wk c s).all (Keeps c s wk (dsts (.region id ops draw)))) (hfk : ∀ g ps x y wk c s, (rf g ps x y wk c s).all (Keeps c s wk [])) (fuel : Nat) :
    RKeep (exec G N an LV rx rf fuel) := fun code wk c s => T.all_mono (fun r hr => ⟨hr.1, hr.2.2⟩) (exec_keeps hxk hfk fuel code wk c s)
theorem rf0_keep (g : Operand) (ps : Array Tmp) (x y : Code) (wk : Nat → Bool) (c : Nat) (s : S) : (rf0 g ps x y wk c s).all (Keeps c s wk []) := trivial
theorem inlOf_spec {inS : List Nat} {ex : FuncId → Func → Run} {g : FuncId} {fn : Func} {e : Run} (h : inlOf P inS ex g = some (fn, e)) : P.funcs[g]? = some fn ∧ isGo fn = true ∧ e = ex g fn := by
  unfold inlOf at h
  split at h
  · rename_i fn' _ hf
    split at h
    · rename_i hg
      simp only [Option.some.injEq, Prod.mk.injEq] at h
      obtain ⟨rfl, rfl⟩ := h
      exact ⟨hf, hg, rfl⟩
    · cases h
  · cases h
theorem upd_yh {yh : Nat → Option YH} {p : YH → Prop} (h0 : ∀ j h, yh j = some h → p h) {k : Nat} {h : YH} (hh : p h) : ∀ j h', upd yh k (some h) j = some h' → p h' := by
  intro j h' hj
  by_cases e : j = k
  · subst e; rw [upd_same] at hj; cases hj; exact hh
  · rw [upd_ne _ _ e] at hj; exact h0 j h' hj
variable {an : Nat → An} {inS : List Nat} {fuel : Nat}
theorem execD_keep : ∀ (d k : Nat) (yh : Nat → Option YH) (f : FuncId) (fn : Func), (∀ j h, yh j = some h → HKeep h) → RKeep (execD P G sg an inS LV fuel d k yh f fn) := by
  intro d
  induction d with
  | zero => intro k yh f fn _ code wk c s; simp only [execD]; trivial
  | succ d ih =>
    intro k yh f fn hy
    simp only [execD]
    refine exec_rkeep (rxD_keep hy ?_) (rfX_keep (exec_rkeep (rxD_keep hy ?_) rf0_keep fuel) ?_) fuel
    · intro g fn' e he
      obtain ⟨_, _, rfl⟩ := inlOf_spec he
      exact ih k yh g fn' hy
    · intro g fn' e he
      obtain ⟨_, _, rfl⟩ := inlOf_spec he
      exact ih LV yh g fn' hy
    · intro h gf gfn hh
      exact ih (k + 1) _ gf gfn (upd_yh hy hh)
theorem CP.less {cz c : Nat} {ρ : Ren} {R : St3 → Prop} (hc : cz ≤ c) : ∀ e a w, CP c w0 N ρ R e a w → CP cz w0 N ρ R e a w := by
  intro e a w h
  cases e <;> simp only [CP] at h ⊢
  all_goals (try exact h)
  all_goals (obtain ⟨c', s, ρ', h1, h2, h3⟩ := h; exact ⟨c', s, ρ', h1, h2, h3.less hc⟩)
theorem execD_sound (E : Env P G sg gw) (hgw0 : gw w0) : ∀ (d k : Nat) (yh : Nat → Option YH) (f : FuncId) (fn : Func) {K : Ren → Prop} {cz : Nat}, KOK P G gw w0 LV cz K → (∀ j h, yh j = some h → HOK P w0 K cz j h) → (∀ j h, yh j = some h → HKeep h) →
    ∀ (code : Code) {wk : Nat → Bool} {c : Nat} {s : S} {R : St3 → Prop} {ρ : Ren} {a : Act} {w : World}, Rel w0 fn.ntmps ρ s a w → K ρ → (∀ j l r, ρ.lp j = some (l, r) → j < k) → cz ≤ c → (execD P G sg an inS LV fuel d k yh f fn code wk c s).wp R →
      code.wpIn (Fd none) 0 P (CP c w0 fn.ntmps ρ R) a w := by
  intro d
  induction d with
  | zero => intro k yh f fn K cz _ _ _ code wk c s R ρ a w _ _ _ _ h; simp only [execD] at h; exact h.elim
  | succ d ih =>
    intro k yh f fn K cz hK hH hY code wk c s R ρ a w hrel hKρ hlv hcz h
    simp only [execD] at h
    have keepI : ∀ k, ∀ g fn' e, inlOf P inS (execD P G sg an inS LV fuel d k yh) g = some (fn', e) → RKeep e := by
      intro k g fn' e he
      obtain ⟨_, _, rfl⟩ := inlOf_spec he
      exact execD_keep d k yh g fn' hY
    -- regions, at any level
    have regions : ∀ (rr : Option Nat) (k : Nat) (K1 : Ren → Prop) (cz1 : Nat), (∀ ρ, K1 ρ → K ρ ∧ ∀ j l r, ρ.lp j = some (l, r) → j < k) → (∀ {ρ : Ren} fx', K1 ρ → LpOK w0 { ρ with fx := fx' } → K1 { ρ with fx := fx' }) → (∀ {ρ ρ'}, K1 ρ → ρ.up cz1 ρ' → K1 ρ') → cz ≤ cz1 →
        ∀ {id : Nat} {ops : Array Oper} {draw : Bool} {wk : Nat → Bool} {c : Nat} {s : S} {R : St3 → Prop} {ρ : Ren} {a : Act} {w : World}, Rel w0 fn.ntmps ρ s a w → K1 ρ → cz1 ≤ c →
          (rxD P G fn.ntmps sg fuel yh (inlOf P inS (execD P G sg an inS LV fuel d k yh)) ops draw wk c s).wp R → (Code.region id ops draw).wpIn (Fd rr) 0 P (CP cz1 w0 fn.ntmps ρ R) a w := by
      intro rr k K1 cz1 hK1 hF hU hc1 id ops draw wk c s R ρ a w hrel hKρ hcz h
      unfold rxD at h
      split at h
      · exact rtree_sound E hgw0 hrel (hK.amb (hK1 _ hKρ).1) h
      · refine wpIn_region ?_
        have := goX_sound (rr := rr) (LV := LV) (K := K1) (cz := cz1) E.stable hgw0 E.sums (fun h => hK.amb (hK1 _ h).1) (fun h => hK.lpk (hK1 _ h).1) hF hU (fun k h e => (hH k h e).less (fun ρ hρ => (hK1 ρ hρ).1) hc1)
          (inl := inlOf P inS (execD P G sg an inS LV fuel d k yh)) (fun g fn' e he => by
            obtain ⟨h1, h2, rfl⟩ := inlOf_spec he
            exact ⟨h1, h2, fun code {wk c s R ρ a w} g1 g2 g3 g4 => ih k yh g fn' hK hH hY code g1 (hK1 _ g2).1 (hK1 _ g2).2 (Nat.le_trans hc1 g3) g4⟩) hY (keepI k) (ρ0 := ρ) (R := R) ops.toList 0 rfl hrel hKρ hcz (Ren.up_refl _) h
        rw [List.range_eq_range']
        exact this
    refine exec_sound (gw := gw) (rr := none) (cz := c) (K := fun ρ => K ρ ∧ ∀ j l r, ρ.lp j = some (l, r) → j < k) ?_ fuel code hrel ⟨hKρ, hlv⟩ (Nat.le_refl _) h
    refine ⟨fun h => hK.amb h.1, fun h => hK.lvl h.1, fun h hle => ⟨hK.up h.1 (hle.less hcz), lv_up h.2 hle⟩, rxD_keep hY (keepI k), ?_, ?_, ?_⟩
    · refine rfX_keep (exec_rkeep (rxD_keep hY (keepI LV)) rf0_keep fuel) ?_
      intro h gf gfn hh
      exact execD_keep d (k + 1) _ gf gfn (upd_yh hY hh)
    · intro id ops draw wk c1 s R ρ a w g1 g2 g3 g4
      exact regions none k _ c (fun ρ h => h) (fun fx' h hL => ⟨hK.fxs fx' h.1 hL, h.2⟩) (fun h hle => ⟨hK.up h.1 (hle.less hcz), lv_up h.2 hle⟩) hcz g1 g2 g3 g4
    · intro g ps x y wk c1 s R ρ a w g1 g2 g3 g4
      refine wpIn_mono (rfX_sound hK ?_ (exec_rkeep (rxD_keep hY (keepI LV)) rf0_keep fuel) ?_ g1 g2.1 g2.2 (Nat.le_trans hcz g3) g4) (CP.less g3)
      · intro l code wk c s R ρ a w q1 q2 q3 q4
        refine exec_sound (gw := gw) (rr := some l) (cz := c) (K := K) ?_ fuel code q1 q2 (Nat.le_refl _) q4
        refine ⟨hK.amb, hK.lvl, fun h hle => hK.up h (hle.less q3), rxD_keep hY (keepI LV), rf0_keep, ?_, fun _ _ _ h => h.elim⟩
        intro id ops draw wk c1 s R ρ a w r1 r2 r3 r4
        exact regions (some l) LV K c (fun ρ h => ⟨h, hK.lvl h⟩) hK.fxs (fun h hle => hK.up h (hle.less q3)) q3 r1 r2 r3 r4
      · intro h gf gfn K' c' hK' hKK hcc hHh hHk code wk c s R ρ a w q1 q2 q3 q4 q5
        refine ih (k + 1) (upd yh k (some h)) gf gfn hK' ?_ (upd_yh hY hHk) code q1 q2 q3 q4 q5
        intro j h' hj
        by_cases e : j = k
        · subst e; rw [upd_same] at hj; cases hj; exact hHh
        · rw [upd_ne _ _ e] at hj; exact (hH j h' hj).less hKK hcc
end
section
variable (P : Program) (G : GT) (sg : FuncId → Option Sm) (an : Nat → An) (inS : List Nat)
/-- A function's ways, with calls and loops over functions carried out within. -/
def runFnX (LV fuel d : Nat) (f : FuncId) (fn : Func) (ags : List Ag) : T (List Ar) :=
  match fn.body with
  | some code => (execD P G sg an inS LV fuel d 0 (fun _ => none) f fn code (fun _ => true) 0 (args0 ags)).bind fun r => match r with
    | (.exit _, _, _) => .fail
    | (_, _, s) => (match resL P s fn.results.toList with
      | some ps => (match finAs P s ps with | some (rs, p) => T.needs p (.ret rs) | none => .fail)
      | none => .fail)
  | none => .fail
end
section
variable {P : Program} {G : GT} {gw : World → Prop} {sg : FuncId → Option Sm} {an : Nat → An} {inS : List Nat}
/-- THE RUN OF A FUNCTION, out of its tree. -/
theorem fnX_sound (E : Env P G sg gw) {f : FuncId} {fn : Func} (hf : P.funcs[f]? = some fn) {LV fuel d : Nat} {ags : List Ag} {xs : List Value} {w : World} {κ : Still} {r : List Ar}
    (hgw : gw w) (hl : Lies κ w) (hG : GIn G κ) (hx : F2 (Ag.rel P gw κ) ags xs) (hlen : Nat.ble ags.length fn.ntmps = true)
    (h : (runFnX P G sg an inS LV fuel d f fn ags).wp (fun rs => rsEqv rs r)) : Calls P f xs.toArray w (Back κ r w) := by
  unfold runFnX at h
  split at h
  · rename_i code hb
    refine (callsIn_wide (n := 0)).1 (callsIn_of_wp_marks (F := Fence.wide) hf hb trivial ?_)
    have hlen' := Nat.le_of_ble_eq_true hlen
    have hxl := f2_len hx
    obtain ⟨ρ, hρ⟩ : ∃ ρ : Ren, ρ = { nm := fun _ => none, κ := κ, cl := fun φ x => CloOK P gw κ φ x, k0 := κ, fx := fun _ => none, lp := fun _ => none } := ⟨_, rfl⟩
    have hx' : F2 (A.rel ρ) (ags.map agA) xs := by
      refine agA_f2 ?_ (by rw [hρ]; exact hx)
      rw [hρ]; exact fun φ x h => h
    have hrel : Rel w fn.ntmps ρ (args0 ags) { tmps := xs.toArray ++ Array.replicate (fn.ntmps - xs.toArray.size) undef, defers := [] } w := by
      refine ⟨by simp; omega, Below.refl _ _, ⟨[], rfl, List.nodup_nil, fun D hD => by cases hD⟩, ?_, ?_, ?_, ?_, ?_, ?_, ?_, by rw [hρ]; exact fun b o hb => (by cases hb), by rw [hρ]; exact fun k l r hk => (by cases hk), fun d D hd => (by cases hd)⟩
      · intro t v ht
        simp only [args0] at ht
        split at ht
        · rename_i g hg
          simp only [Option.some.injEq] at ht; subst ht
          have hg' : (ags.map agA)[t]? = some (agA g) := by simp [hg]
          obtain ⟨x, hxt, hr⟩ := f2_get hx' hg'
          have hlt : t < xs.length := (List.getElem?_eq_some_iff.1 hxt).1
          refine ⟨by omega, ?_⟩
          rw [Array.getD_eq_getD_getElem?, Array.getElem?_append, if_pos (by simpa using hlt)]
          simp only [List.getElem?_toArray, hxt, Option.getD_some]
          exact hr
        · cases ht
      · intro m hm; rw [hρ]
      · intro m k hm; simp [args0] at hm
      · intro m m' k k' b b' hm; simp [args0] at hm
      · rw [hρ]; exact hl
      · intro m k b o hm; simp [args0] at hm
      · intro b o v hv _; rw [hρ] at hv ⊢; exact hv
    have hamb : Amb P G gw ρ := by
      refine ⟨fun g n F e => ⟨⟨g, 0, none⟩, rfl, rfl, ?_⟩, ?_⟩
      · rw [hρ]; exact hG g n F e
      · rw [hρ]; exact fun φ x h => h
    have hK0 : KOK P G gw w LV 0 (fun ρ => Amb P G gw ρ ∧ LpOK w ρ ∧ ∀ k l r, ρ.lp k = some (l, r) → k < LV) := by
      refine ⟨fun h => h.1, fun h => h.2.1, fun h => h.2.2, fun h hle => ⟨h.1.up hle, h.2.1.up hle, lv_up h.2.2 hle⟩, fun fx' h hL => ⟨h.1.fxs, hL, h.2.2⟩, fun k p h hn hk hL => ⟨⟨h.1.gl, h.1.cl⟩, hL, fun j l r hj => ?_⟩⟩
      rename_i ρa
      by_cases e : j = k
      · omega
      · have hj : upd ρa.lp k (some p) j = some (l, r) := hj
        rw [upd_ne _ _ e] at hj
        exact h.2.2 j l r hj
    have hlp0 : ρ.lp = fun _ => none := by rw [hρ]
    refine wpIn_mono (execD_sound E hgw d 0 (fun _ => none) f fn hK0 (fun j h hj => by cases hj) (fun j h hj => by cases hj) code hrel ⟨hamb, ⟨fun k l r hk => (by rw [hlp0] at hk; cases hk), fun k l r hk => (by rw [hlp0] at hk; cases hk), fun k j l r q hk => (by rw [hlp0] at hk; cases hk)⟩, fun k l r hk => (by rw [hlp0] at hk; cases hk)⟩ (fun k l r hk => (by rw [hlp0] at hk; cases hk)) (Nat.le_refl _) (T.wp_bind h)) ?_
    have fin : ∀ (s : S) (ρ' : Ren), ρ.up 0 ρ' → (match resL P s fn.results.toList with | some ps => (match finAs P s ps with | some (rs, p) => T.needs p (.ret rs) | none => T.fail) | none => T.fail).wp (fun rs => rsEqv rs r) →
        ∀ (Ds : List Nat) (a' : Act) (w' : World), a'.defers = Ds.map (fun D => { target := .collected D, args := #[] }) → Rel w fn.ntmps ρ' s a' w' → LeavesInM Fence.wide 0 P fn a'.tmps (Back κ r w) a'.defers .returning w' := by
      intro s ρ' hle hr Ds
      have hk0 : ρ'.k0 = κ := by rw [hle.k0, hρ]
      induction Ds with
      | nil =>
        intro a' w' hd hrel'
        rw [hd]
        split at hr
        · rename_i ps hps
          split at hr
          · rename_i rs p hrs
            obtain ⟨hp, heq⟩ := T.wp_needs hr
            have hview : View G ρ' s a' w' := ⟨fun t v ht => (hrel'.tm t v ht).2, fun m k hk => by obtain ⟨b, h1, h2, h3, _⟩ := hrel'.hp m k hk; exact ⟨b, h1, h2, h3⟩, hrel'.im, (hamb.up hle).gl⟩
            obtain ⟨x, hx1, hx2⟩ := results_sound hrel' hview hps hrs hp
            rw [hk0] at hx2
            refine ⟨x, hx1, x, endK κ w.heap.size w', rfl, ?_, ?_, ?_, rsEqv_rel heq hx2, hrel'.bel⟩
            · intro b o v hv
              have hlt := (hl b o v hv).1
              unfold endK
              rw [if_neg (by omega)]; exact hv
            · intro b o v hv
              unfold endK at hv
              split at hv
              · split at hv
                · rename_i hlt; exact ⟨hlt, hv⟩
                · cases hv
              · exact lies_back (κ' := κ) hl hrel'.bel b o v hv
            · intro b o v hv
              unfold endK at hv
              split at hv
              · rename_i hge; exact .inr hge
              · exact .inl hv
          · exact hr.elim
        · exact hr.elim
      | cons D Ds ih =>
        intro a' w' hd hrel'
        rw [hd]
        obtain ⟨w2, htake, hrel2⟩ := taken (P := P) hrel' hd
        refine ⟨by simp, .inl ⟨D, w2, rfl, htake, ?_⟩⟩
        have := ih { a' with defers := Ds.map (fun D => { target := .collected D, args := #[] }) } w2 rfl hrel2
        exact this
    intro e a' w' hc
    cases e <;> simp only [CP, bodyPostM] at hc ⊢
    case normal =>
      obtain ⟨c', s', ρ', hr, hrel', hle⟩ := hc
      obtain ⟨Ds, hDs, _⟩ := hrel'.df
      exact fin s' ρ' hle hr Ds a' w' hDs hrel'
    case ret =>
      obtain ⟨c', s', ρ', hr, hrel', hle⟩ := hc
      obtain ⟨Ds, hDs, _⟩ := hrel'.df
      exact fin s' ρ' hle hr Ds a' w' hDs hrel'
    case exit id => obtain ⟨c', s', ρ', hr, hrel', hle⟩ := hc; exact hr.elim
  · exact h.elim
/-- THE END of a contract's proof. -/
theorem fokX_fin {sl : List (Nat × Sm)} (hmix : P.follows .mixedOrders = true) (hst : ∀ w w', gw w → Below w.heap.size w w' → gw w') (hS : AllS P G gw sl) {f : FuncId} {fn : Func} (hf : P.funcs[f]? = some fn) {LV fuel d : Nat} {ags ags' : List Ag} {xs : List Value} {w : World} {κ : Still} {r : List Ar} {t : T (List Ar)}
    (hgw : gw w) (hl : Lies κ w) (hG : GIn G κ) (hx : F2 (Ag.rel P gw κ) ags xs) (heq : agsEqv ags ags') (hlen : Nat.ble ags'.length fn.ntmps = true)
    (ht : runFnX P G (lookS sl) an inS LV fuel d f fn ags' = t) (h : t.wp (fun rs => rsEqv rs r)) : Calls P f xs.toArray w (Back κ r w) :=
  fnX_sound ⟨hmix, fun f σ hs => lookS_ok hS f σ hs, hst⟩ hf hgw hl hG (agsEqv_rel heq hx) hlen (by rw [ht]; exact h)
end
end Go.V
end

section
namespace Go.Fl.M
@[reducible] def W (n : Int) : Int := IntKind.i64.wrap n
structure Rg where
  lo : Int
  hi : Int
structure Wine where
  v0 : Int
  v1 : Int
  s0 : Int
  s1 : Int
  c0 : Int
  c1 : Int
structure Rate where
  a : Int
  b : Int
  c : Int
  d : Int
def Wine.v (w : Wine) : Rg := ⟨w.v0, w.v1⟩
def Wine.s (w : Wine) : Rg := ⟨w.s0, w.s1⟩
def Wine.c (w : Wine) : Rg := ⟨w.c0, w.c1⟩
def Rate.w (r : Rate) : Rg := ⟨r.a, r.b⟩
def Rate.al (r : Rate) : Rg := ⟨r.c, r.d⟩
def Wine.mk3 (v s c : Rg) : Wine := ⟨v.lo, v.hi, s.lo, s.hi, c.lo, c.hi⟩
def wine0 : Wine := ⟨0, 0, 0, 0, 0, 0⟩
def rate0 : Rate := ⟨0, 0, 0, 0⟩
def rg0 : Rg := ⟨0, 0⟩
def within (n lo hi : Int) : Bool := cond (decide (lo ≤ n)) (decide (n ≤ hi)) false
def unl (ok : Bool) (e : Int) : Int := cond ok 0 e
def first : List Int → Int
  | [] => 0
  | e :: l => cond (e != 0) e (first l)
def floor (n b : Int) : Int := cond (decide (n.tmod b < 0)) (W (W (n.tdiv b) - 1)) (W (n.tdiv b))
def ceiling (n b : Int) : Int := W (0 - floor (W (0 - n)) b)
def spanErr (r : Rg) (most : Int) : Int := first [unl (cond (within r.lo 0 most) (within r.hi 0 most) false) 2, unl (decide (r.lo ≤ r.hi)) 9]
def maxI (x y : Int) : Int := if y > x then y else x
def minI (x y : Int) : Int := if y < x then y else x
def common (a b : Rg) : Rg := ⟨maxI a.lo b.lo, minI a.hi b.hi⟩
def rgOk (a : Rg) : Bool := decide (a.lo ≤ a.hi)
def rgIn (a b : Rg) : Bool := cond (decide (b.lo ≤ a.lo)) (decide (a.hi ≤ b.hi)) false
def checkWine (w : Wine) : Int := cond (spanErr w.v 100000 != 0) (spanErr w.v 100000) (cond (spanErr w.s 10000 != 0) (spanErr w.s 10000) (cond (spanErr w.c 100000 != 0) (spanErr w.c 100000) 0))
def checkRate (r : Rate) : Int := first [spanErr r.w 2000, spanErr r.al 2000]
def daysErr (d : Int) : Int := unl (within d 0 365) 2
def strengthErr (n : Int) : Int := unl (within n 0 10000) 2
def left (r : Rg) (d : Int) : Rg := ⟨W (1000000 - W (r.hi * d)), W (1000000 - W (r.lo * d))⟩
def after (w : Wine) (r : Rate) (d : Int) : Wine :=
  ⟨floor (W (w.v0 * (left r.w d).lo)) 1000000, ceiling (W (w.v1 * (left r.w d).hi)) 1000000,
   floor (W (w.s0 * (left r.al d).lo)) (left r.w d).hi, ceiling (W (w.s1 * (left r.al d).hi)) (left r.w d).lo,
   floor (W (w.c0 * 1000000)) (left r.w d).hi, ceiling (W (w.c1 * 1000000)) (left r.w d).lo⟩
def taskErr (w : Wine) (r : Rate) (d : Int) : Int := first [checkWine w, checkRate r, daysErr d]
def After (w : Wine) (r : Rate) (d : Int) : Wine × Int :=
  cond (taskErr w r d != 0) (wine0, taskErr w r d)
    (cond (decide ((after w r d).s1 > 10000)) (wine0, 8) (cond (decide ((after w r d).c1 > 100000)) (wine0, 8) (after w r d, 0)))
def alcohol (w : Wine) : Rg := ⟨W (w.v0 * w.s0), W (w.v1 * w.s1)⟩
def rate (before after : Rg) (days : Int) : Rg :=
  common ⟨floor (W (1000000 * W (before.lo - after.hi))) (W (before.lo * days)), ceiling (W (1000000 * W (before.hi - after.lo))) (W (before.hi * days))⟩ ⟨0, 2000⟩
def ratesErr (b a : Wine) (d : Int) : Int := first [checkWine b, checkWine a, unl (within d 1 365) 2, unl (cond (decide (b.v0 > 0)) (decide (b.s0 > 0)) false) 25]
def Rate.mk2 (a b : Rg) : Rate := ⟨a.lo, a.hi, b.lo, b.hi⟩
def RatesOf (b a : Wine) (d : Int) : Rate × Int :=
  cond (ratesErr b a d != 0) (rate0, ratesErr b a d)
    (cond (rgOk (rate b.v a.v d)) (cond (rgOk (rate (alcohol b) (alcohol a) d)) (Rate.mk2 (rate b.v a.v d) (rate (alcohol b) (alcohol a) d), 0) (rate0, 13)) (rate0, 13))
def measureErr (d : Int) (w : Wine) : Int := first [unl (within d 0 100000) 2, checkWine w]
def betweenErr (a b : Int) : Int := first [unl (decide (b > a)) 9, unl (decide (W (b - a) ≤ 365)) 8]
def commonW (a b : Wine) : Wine := Wine.mk3 (common a.v b.v) (common a.s b.s) (common a.c b.c)
def wOk (a : Wine) : Bool := cond (rgOk a.v) (cond (rgOk a.s) (rgOk a.c) false) false
def wIn (a b : Wine) : Bool := cond (rgIn a.v b.v) (cond (rgIn a.s b.s) (rgIn a.c b.c) false) false
def explErr (r : Rate) (da : Int) (a : Wine) (db : Int) (b : Wine) : Int := first [checkRate r, measureErr da a, measureErr db b]
def Explains (r : Rate) (da : Int) (a : Wine) (db : Int) (b : Wine) : Int × Int :=
  cond (explErr r da a db b != 0) (0, explErr r da a db b)
    (cond (betweenErr da db != 0) (0, betweenErr da db)
      (cond ((After a r (W (db - da))).2 != 0) (0, (After a r (W (db - da))).2)
        (cond (wOk (commonW (After a r (W (db - da))).1 b)) (cond (wIn (After a r (W (db - da))).1 b) (2, 0) (1, 0)) (0, 0))))
def spiritErr (w : Wine) (x y : Int) : Int := first [checkWine w, strengthErr x, strengthErr y, unl (decide (x > y)) 11]
def need (volume strength target spirit : Int) : Int := ceiling (W (volume * maxI 0 (W (target - strength)))) (W (spirit - target))
def SpiritFor (w : Wine) (spirit target : Int) : Rg × Int :=
  cond (spiritErr w spirit target != 0) (rg0, spiritErr w spirit target)
    (cond (decide (need w.v1 w.s0 target spirit > 100000)) (rg0, 8) (⟨need w.v0 w.s1 target spirit, need w.v1 w.s0 target spirit⟩, 0))
/- the reference -/
def rangeErr (r : Rg) (most : Int) : Int := cond (within r.lo 0 most) (cond (within r.hi 0 most) (cond (decide (r.lo > r.hi)) 9 0) 2) 2
def first3 (a b c : Int) : Int := cond (a != 0) a (cond (b != 0) b c)
def rCheckWine (w : Wine) : Int := first3 (rangeErr w.v 100000) (rangeErr w.s 10000) (rangeErr w.c 100000)
def rLossOf (w : Wine) (r : Rate) (d : Int) : Rg := ⟨floor (W (W (w.v0 * r.a) * d)) 1000000, ceiling (W (W (w.v1 * r.b) * d)) 1000000⟩
/- the statements -/
def mod (n b : Int) : Int := cond (decide (n.tmod b < 0)) (W (n.tmod b + b)) (n.tmod b)
def pick (r : Rg) (b : Int) : Int := W (r.lo + mod b (W (W (r.hi - r.lo) + 1)))
end Go.Fl.M
end

section
set_option linter.unusedVariables false
set_option linter.unusedSimpArgs false
namespace Go.Fl
open Go.Eng
def gb : List Blk := [.part 0 [.num .i64 100000, .num .i64 10000, .num .i64 100000]]
abbrev vI (n : Int) : V := .a (.c (.int .i64 n))
abbrev vB (b : Bool) : V := .a (.c (.bool b))
abbrev aI (n : Int) : A := .c (.int .i64 n)
abbrev cI (n : Int) : C := .int .i64 n
abbrev aRg (r : M.Rg) : A := .agg [cI r.lo, cI r.hi]
abbrev aWine (w : M.Wine) : A := .agg [cI w.v0, cI w.v1, cI w.s0, cI w.s1, cI w.c0, cI w.c1]
abbrev aRate (r : M.Rate) : A := .agg [cI r.a, cI r.b, cI r.c, cI r.d]
def d76 : DomG
  | [[.int .i64 a, .int .i64 b]] => some ([], vI (M.first [a, b]))
  | [[.int .i64 a, .int .i64 b, .int .i64 c]] => some ([], vI (M.first [a, b, c]))
  | [[.int .i64 a, .int .i64 b, .int .i64 c, .int .i64 d]] => some ([], vI (M.first [a, b, c, d]))
  | _ => none
def s76 : Nat × Sm := (76, grpSm [.sl] d76)
def d90 : DomG
  | [[.int .i64 n], [.int .i64 lo], [.int .i64 hi]] => some ([], vB (M.within n lo hi))
  | _ => none
def s90 : Nat × Sm := (90, grpSm [.c, .c, .c] d90)
def d55 : DomG
  | [[.int .i64 n], [.int .i64 lo], [.int .i64 hi]] => some ([], vB (M.within n lo hi))
  | _ => none
def s55 : Nat × Sm := (55, grpSm [.c, .c, .c] d55)
def d85 : DomG
  | [[.bool ok], [.int .i64 e]] => some ([], vI (M.unl ok e))
  | _ => none
def s85 : Nat × Sm := (85, grpSm [.c, .c] d85)
def d80 : DomG
  | [[.int .i64 n], [.int .i64 b]] => some ([b ≠ 0], vI (M.floor n b))
  | _ => none
def s80 : Nat × Sm := (80, grpSm [.c, .c] d80)
def d68 : DomG
  | [[.int .i64 n], [.int .i64 b]] => some ([b ≠ 0], vI (M.floor n b))
  | _ => none
def s68 : Nat × Sm := (68, grpSm [.c, .c] d68)
def d81 : DomG
  | [[.int .i64 n], [.int .i64 b]] => some ([b ≠ 0], vI (M.ceiling n b))
  | _ => none
def s81 : Nat × Sm := (81, grpSm [.c, .c] d81)
def d67 : DomG
  | [[.int .i64 n], [.int .i64 b]] => some ([b ≠ 0], vI (M.mod n b))
  | _ => none
def s67 : Nat × Sm := (67, grpSm [.c, .c] d67)
def d73 : DomG
  | [[.int .i64 lo, .int .i64 hi], [.int .i64 most]] => some ([], vI (M.spanErr ⟨lo, hi⟩ most))
  | _ => none
def s73 : Nat × Sm := (73, grpSm [.agg, .c] d73)
def d79 : DomG
  | [[.int .i64 lo, .int .i64 hi], [.int .i64 d]] => some ([], .a (aRg (M.left ⟨lo, hi⟩ d)))
  | _ => none
def s79 : Nat × Sm := (79, grpSm [.agg, .c] d79)
def d72 : DomG
  | [[.int .i64 v0, .int .i64 v1, .int .i64 s0, .int .i64 s1, .int .i64 c0, .int .i64 c1]] => some ([], .a (aWine (⟨v0, v1, s0, s1, c0, c1⟩)))
  | _ => none
def s72 : Nat × Sm := (72, grpSm [.agg] d72)
def d77 : DomG
  | [[.int .i64 d]] => some ([], vI (M.daysErr d))
  | _ => none
def s77 : Nat × Sm := (77, grpSm [.c] d77)
def d86 : DomG
  | [[.int .i64 n]] => some ([], vI (M.strengthErr n))
  | _ => none
def s86 : Nat × Sm := (86, grpSm [.c] d86)
def d21 : DomG
  | [[.int .i64 v0, .int .i64 v1, .int .i64 s0, .int .i64 s1, .int .i64 c0, .int .i64 c1]] => some ([], vI (M.checkWine ⟨v0, v1, s0, s1, c0, c1⟩))
  | _ => none
def s21 : Nat × Sm := (21, grpSm [.agg] d21)
def d23 : DomG
  | [[.int .i64 ra, .int .i64 rb, .int .i64 rc, .int .i64 rd]] => some ([], vI (M.checkRate ⟨ra, rb, rc, rd⟩))
  | _ => none
def s23 : Nat × Sm := (23, grpSm [.agg] d23)
def d78 : DomG
  | [[.int .i64 v0, .int .i64 v1, .int .i64 s0, .int .i64 s1, .int .i64 c0, .int .i64 c1], [.int .i64 ra, .int .i64 rb, .int .i64 rc, .int .i64 rd], [.int .i64 d]] => some ([(M.left (M.Rate.w ⟨ra, rb, rc, rd⟩) d).hi ≠ 0, (M.left (M.Rate.w ⟨ra, rb, rc, rd⟩) d).lo ≠ 0], .a (aWine (M.after ⟨v0, v1, s0, s1, c0, c1⟩ ⟨ra, rb, rc, rd⟩ d)))
  | _ => none
def s78 : Nat × Sm := (78, grpSm [.agg, .agg, .c] d78)
def d27 : DomG
  | [[.int .i64 v0, .int .i64 v1, .int .i64 s0, .int .i64 s1, .int .i64 c0, .int .i64 c1], [.int .i64 ra, .int .i64 rb, .int .i64 rc, .int .i64 rd], [.int .i64 d]] => some ([], .tup [aWine (M.After ⟨v0, v1, s0, s1, c0, c1⟩ ⟨ra, rb, rc, rd⟩ d).1, aI (M.After ⟨v0, v1, s0, s1, c0, c1⟩ ⟨ra, rb, rc, rd⟩ d).2])
  | _ => none
def s27 : Nat × Sm := (27, grpSm [.agg, .agg, .c] d27)
def d104 : DomG
  | [[.int .i64 volume], [.int .i64 strength], [.int .i64 target], [.int .i64 spirit]] => some ([M.W (spirit - target) ≠ 0], vI (M.need volume strength target spirit))
  | _ => none
def s104 : Nat × Sm := (104, grpSm [.c, .c, .ptr, .ptr] d104)
def d58 : DomG
  | [[.int .i64 v0, .int .i64 v1, .int .i64 s0, .int .i64 s1, .int .i64 c0, .int .i64 c1], [.int .i64 x], [.int .i64 y]] => some ([], .tup [aRg (M.SpiritFor ⟨v0, v1, s0, s1, c0, c1⟩ x y).1, aI (M.SpiritFor ⟨v0, v1, s0, s1, c0, c1⟩ x y).2])
  | _ => none
def s58 : Nat × Sm := (58, grpSm [.agg, .c, .c] d58)
def d75 : DomG
  | [[.int .i64 lo, .int .i64 hi], [.int .i64 most]] => some ([], vI (M.rangeErr ⟨lo, hi⟩ most))
  | _ => none
def s75 : Nat × Sm := (75, grpSm [.agg, .c] d75)
def d74 : DomG
  | [[.int .i64 a], [.int .i64 b], [.int .i64 c]] => some ([], vI (M.first3 a b c))
  | _ => none
def s74 : Nat × Sm := (74, grpSm [.c, .c, .c] d74)
def d22 : DomG
  | [[.int .i64 v0, .int .i64 v1, .int .i64 s0, .int .i64 s1, .int .i64 c0, .int .i64 c1]] => some ([], vI (M.rCheckWine ⟨v0, v1, s0, s1, c0, c1⟩))
  | _ => none
def d32 : DomG
  | [[.int .i64 lo, .int .i64 hi], [.int .i64 b]] => some ([M.W (M.W (hi - lo) + 1) ≠ 0], vI (M.pick ⟨lo, hi⟩ b))
  | _ => none
def d56 : DomG
  | [[.int .i64 n]] => some ([], .a (aRg (⟨n, n⟩)))
  | _ => none
def s56 : Nat × Sm := (56, grpSm [.c] d56)
def d70 : DomG
  | [] => some ([], .a (aWine (⟨1000, 1000, 1500, 1600, 200, 200⟩)))
  | _ => none
def s70 : Nat × Sm := (70, grpSm [] d70)
def d71 : DomG
  | [] => some ([], .a (aRate (⟨100, 200, 200, 300⟩)))
  | _ => none
def s71 : Nat × Sm := (71, grpSm [] d71)
end Go.Fl
end

section
namespace Go.Fl
open Go.Eng Go.RowKit Go.Proofs
set_option maxRecDepth 100000
/-- What the package-level variable holds. -/
def gw (w : World) : Prop := 0 < w.heap.size ∧ w.cell? ⟨0, 0, none⟩ = some (.int .i64 100000) ∧ w.cell? ⟨0, 1, none⟩ = some (.int .i64 10000) ∧ w.cell? ⟨0, 2, none⟩ = some (.int .i64 100000)
theorem gw_stable (w w' : World) (h : gw w) (hb : Below w.heap.size w w') : gw w' := by
  obtain ⟨h0, h1, h2, h3⟩ := h
  have e : ∀ j, w'.cell? ⟨0, j, none⟩ = w.cell? ⟨0, j, none⟩ := fun j => hb.cell (p := ⟨0, j, none⟩) h0
  exact ⟨Nat.lt_of_lt_of_le h0 hb.size, by rw [e]; exact h1, by rw [e]; exact h2, by rw [e]; exact h3⟩
theorem gw_glob : Glob 1 gw gb where
  len := rfl
  at_ := by
    intro w h i k hk
    obtain ⟨h0, h1, h2, h3⟩ := h
    match i, hk with
    | 0, hk =>
      simp only [gb, List.getElem?_cons_zero, Option.some.injEq] at hk
      subst hk
      refine ⟨h0, fun ρ => part_rel (vs := [.int .i64 100000, .int .i64 10000, .int .i64 100000]) (.cons rfl (.cons rfl (.cons rfl .nil))) ?_⟩
      intro j v hj
      match j, hj with
      | 0, hj => simp at hj; subst hj; exact h1
      | 1, hj => simp at hj; subst hj; exact h2
      | 2, hj => simp at hj; subst hj; exact h3
      | j + 3, hj => simp at hj
    | i + 1, hk => simp [gb] at hk
theorem mixed : Tryd.prog.follows .mixedOrders = true := by kernel_rfl
theorem t76_2 (a b : Int) : runFn Tryd.prog 1 2 (lookS []) 40 Tryd.f76 [.c (.sl 1 0 2 2)] (gb ++ [.part 0 [.int .i64 a, .int .i64 b]]) =
    T.br (a != 0) (T.ret (.int .i64 a)) (T.br (b != 0) (T.ret (.int .i64 b)) (T.ret (.int .i64 0))) := by kernel_rfl
theorem t76_3 (a b c : Int) : runFn Tryd.prog 1 2 (lookS []) 40 Tryd.f76 [.c (.sl 1 0 3 3)] (gb ++ [.part 0 [.int .i64 a, .int .i64 b, .int .i64 c]]) =
    T.br (a != 0) (T.ret (.int .i64 a)) (T.br (b != 0) (T.ret (.int .i64 b)) (T.br (c != 0) (T.ret (.int .i64 c)) (T.ret (.int .i64 0)))) := by kernel_rfl
theorem t76_4 (a b c d : Int) : runFn Tryd.prog 1 2 (lookS []) 40 Tryd.f76 [.c (.sl 1 0 4 4)] (gb ++ [.part 0 [.int .i64 a, .int .i64 b, .int .i64 c, .int .i64 d]]) =
    T.br (a != 0) (T.ret (.int .i64 a)) (T.br (b != 0) (T.ret (.int .i64 b)) (T.br (c != 0) (T.ret (.int .i64 c)) (T.br (d != 0) (T.ret (.int .i64 d)) (T.ret (.int .i64 0))))) := by kernel_rfl
theorem C76 : GOK Tryd.prog gw 76 [.sl] d76 := by
  intro gs p v hd hp w xs hw hx
  unfold d76 at hd
  split at hd
  · cases hd
    refine grp_fin mixed gw_stable gw_glob (sl := []) trivial Tryd.func76 hw hx rfl rfl rfl rfl (t76_2 _ _) rfl ?_
    simp only [T.wp]
    repeat' (first | refine ⟨?_, ?_⟩ | intro _)
    all_goals (simp only [M.first, cond_true, cond_false, *])
  · cases hd
    refine grp_fin mixed gw_stable gw_glob (sl := []) trivial Tryd.func76 hw hx rfl rfl rfl rfl (t76_3 _ _ _) rfl ?_
    simp only [T.wp]
    repeat' (first | refine ⟨?_, ?_⟩ | intro _)
    all_goals (simp only [M.first, cond_true, cond_false, *])
  · cases hd
    refine grp_fin mixed gw_stable gw_glob (sl := []) trivial Tryd.func76 hw hx rfl rfl rfl rfl (t76_4 _ _ _ _) rfl ?_
    simp only [T.wp]
    repeat' (first | refine ⟨?_, ?_⟩ | intro _)
    all_goals (simp only [M.first, cond_true, cond_false, *])
  · cases hd
theorem S76 : SumOK Tryd.prog gw 76 (grpSm [.sl] d76) := grp_sum Tryd.func76 rfl C76
end Go.Fl
end

section
namespace Go.Fl
open Go.Eng Go.RowKit Go.Proofs
set_option maxRecDepth 100000
set_option linter.unusedSimpArgs false
set_option linter.unusedVariables false
theorem t90 (n : Int) (lo : Int) (hi : Int) : runFn Tryd.prog 1 1 (lookS []) 40 Tryd.f90 [.c (.int .i64 n), .c (.int .i64 lo), .c (.int .i64 hi)] gb =
    T.br (decide (lo ≤ n)) (T.need (decide (lo ≤ n) = true) (T.ret (Value.bool (decide (n ≤ hi))))) (T.need (decide (lo ≤ n) = false) (T.ret (Value.bool false))) := by kernel_rfl
theorem C90 : GOK Tryd.prog gw 90 [.c, .c, .c] d90 := by
  intro gs p v hd hp w xs hw hx
  unfold d90 at hd
  split at hd
  · cases hd
    refine grp_fin mixed gw_stable gw_glob (sl := []) trivial Tryd.func90 hw hx rfl rfl rfl rfl (t90 _ _ _) rfl ?_
    simp only [T.wp]
    repeat' (first | assumption | decide | refine ⟨?_, ?_⟩ | intro _)
    all_goals (first | rfl | (simp only [M.within, M.Wine.v, M.Wine.s, M.Wine.c, M.Rate.w, M.Rate.al, cond_true, cond_false, *]; done))
  · cases hd
theorem S90 : SumOK Tryd.prog gw 90 (grpSm [.c, .c, .c] d90) := grp_sum Tryd.func90 rfl C90
theorem t55 (n : Int) (lo : Int) (hi : Int) : runFn Tryd.prog 1 1 (lookS []) 40 Tryd.f55 [.c (.int .i64 n), .c (.int .i64 lo), .c (.int .i64 hi)] gb =
    T.br (decide (lo ≤ n)) (T.need (decide (lo ≤ n) = true) (T.ret (Value.bool (decide (n ≤ hi))))) (T.need (decide (lo ≤ n) = false) (T.ret (Value.bool false))) := by kernel_rfl
theorem C55 : GOK Tryd.prog gw 55 [.c, .c, .c] d55 := by
  intro gs p v hd hp w xs hw hx
  unfold d55 at hd
  split at hd
  · cases hd
    refine grp_fin mixed gw_stable gw_glob (sl := []) trivial Tryd.func55 hw hx rfl rfl rfl rfl (t55 _ _ _) rfl ?_
    simp only [T.wp]
    repeat' (first | assumption | decide | refine ⟨?_, ?_⟩ | intro _)
    all_goals (first | rfl | (simp only [M.within, M.Wine.v, M.Wine.s, M.Wine.c, M.Rate.w, M.Rate.al, cond_true, cond_false, *]; done))
  · cases hd
theorem S55 : SumOK Tryd.prog gw 55 (grpSm [.c, .c, .c] d55) := grp_sum Tryd.func55 rfl C55
theorem t85 (ok : Bool) (e : Int) : runFn Tryd.prog 1 1 (lookS []) 40 Tryd.f85 [.c (.bool ok), .c (.int .i64 e)] gb =
    T.br ok (T.ret (Value.int IntKind.i64 (0 : Int))) (T.ret (Value.int IntKind.i64 e)) := by kernel_rfl
theorem C85 : GOK Tryd.prog gw 85 [.c, .c] d85 := by
  intro gs p v hd hp w xs hw hx
  unfold d85 at hd
  split at hd
  · cases hd
    refine grp_fin mixed gw_stable gw_glob (sl := []) trivial Tryd.func85 hw hx rfl rfl rfl rfl (t85 _ _) rfl ?_
    simp only [T.wp]
    repeat' (first | assumption | decide | refine ⟨?_, ?_⟩ | intro _)
    all_goals (first | rfl | (simp only [M.unl, M.Wine.v, M.Wine.s, M.Wine.c, M.Rate.w, M.Rate.al, cond_true, cond_false, *]; done))
  · cases hd
theorem S85 : SumOK Tryd.prog gw 85 (grpSm [.c, .c] d85) := grp_sum Tryd.func85 rfl C85
theorem t80 (n : Int) (b : Int) : runFn Tryd.prog 1 1 (lookS []) 40 Tryd.f80 [.c (.int .i64 n), .c (.int .i64 b)] gb =
    T.need (b ≠ (0 : Int)) (T.need (b ≠ (0 : Int)) (T.br (decide (Int.tmod n b < (0 : Int))) (T.ret (Value.int IntKind.i64 (IntKind.wrap IntKind.i64 (IntKind.wrap IntKind.i64 (Int.tdiv n b) - (1 : Int))))) (T.ret (Value.int IntKind.i64 (IntKind.wrap IntKind.i64 (Int.tdiv n b)))))) := by kernel_rfl
theorem C80 : GOK Tryd.prog gw 80 [.c, .c] d80 := by
  intro gs p v hd hp w xs hw hx
  unfold d80 at hd
  split at hd
  · cases hd
    refine grp_fin mixed gw_stable gw_glob (sl := []) trivial Tryd.func80 hw hx rfl rfl rfl rfl (t80 _ _) rfl ?_
    obtain ⟨hp0, _⟩ := hp
    simp only [T.wp]
    repeat' (first | assumption | decide | refine ⟨?_, ?_⟩ | intro _)
    all_goals (first | rfl | (simp only [M.floor, M.Wine.v, M.Wine.s, M.Wine.c, M.Rate.w, M.Rate.al, cond_true, cond_false, *]; done))
  · cases hd
theorem S80 : SumOK Tryd.prog gw 80 (grpSm [.c, .c] d80) := grp_sum Tryd.func80 rfl C80
theorem t68 (n : Int) (b : Int) : runFn Tryd.prog 1 1 (lookS []) 40 Tryd.f68 [.c (.int .i64 n), .c (.int .i64 b)] gb =
    T.need (b ≠ (0 : Int)) (T.need (b ≠ (0 : Int)) (T.br (decide (Int.tmod n b < (0 : Int))) (T.ret (Value.int IntKind.i64 (IntKind.wrap IntKind.i64 (IntKind.wrap IntKind.i64 (Int.tdiv n b) - (1 : Int))))) (T.ret (Value.int IntKind.i64 (IntKind.wrap IntKind.i64 (Int.tdiv n b)))))) := by kernel_rfl
theorem C68 : GOK Tryd.prog gw 68 [.c, .c] d68 := by
  intro gs p v hd hp w xs hw hx
  unfold d68 at hd
  split at hd
  · cases hd
    refine grp_fin mixed gw_stable gw_glob (sl := []) trivial Tryd.func68 hw hx rfl rfl rfl rfl (t68 _ _) rfl ?_
    obtain ⟨hp0, _⟩ := hp
    simp only [T.wp]
    repeat' (first | assumption | decide | refine ⟨?_, ?_⟩ | intro _)
    all_goals (first | rfl | (simp only [M.floor, M.Wine.v, M.Wine.s, M.Wine.c, M.Rate.w, M.Rate.al, cond_true, cond_false, *]; done))
  · cases hd
theorem S68 : SumOK Tryd.prog gw 68 (grpSm [.c, .c] d68) := grp_sum Tryd.func68 rfl C68
theorem t81 (n : Int) (b : Int) : runFn Tryd.prog 1 1 (lookS [s80]) 40 Tryd.f81 [.c (.int .i64 n), .c (.int .i64 b)] gb =
    T.need (b ≠ (0 : Int)) (T.ret (Value.int IntKind.i64 (IntKind.wrap IntKind.i64 ((0 : Int) - M.floor (IntKind.wrap IntKind.i64 ((0 : Int) - n)) b)))) := by kernel_rfl
theorem C81 : GOK Tryd.prog gw 81 [.c, .c] d81 := by
  intro gs p v hd hp w xs hw hx
  unfold d81 at hd
  split at hd
  · cases hd
    refine grp_fin mixed gw_stable gw_glob (sl := [s80]) ⟨S80, trivial⟩ Tryd.func81 hw hx rfl rfl rfl rfl (t81 _ _) rfl ?_
    obtain ⟨hp0, _⟩ := hp
    simp only [T.wp]
    repeat' (first | assumption | decide | refine ⟨?_, ?_⟩ | intro _)
    all_goals (first | rfl | (simp only [M.ceiling, M.Wine.v, M.Wine.s, M.Wine.c, M.Rate.w, M.Rate.al, cond_true, cond_false, *]; done))
  · cases hd
theorem S81 : SumOK Tryd.prog gw 81 (grpSm [.c, .c] d81) := grp_sum Tryd.func81 rfl C81
theorem t67 (n : Int) (b : Int) : runFn Tryd.prog 1 1 (lookS []) 40 Tryd.f67 [.c (.int .i64 n), .c (.int .i64 b)] gb =
    T.need (b ≠ (0 : Int)) (T.br (decide (Int.tmod n b < (0 : Int))) (T.ret (Value.int IntKind.i64 (IntKind.wrap IntKind.i64 (Int.tmod n b + b)))) (T.ret (Value.int IntKind.i64 (Int.tmod n b)))) := by kernel_rfl
theorem C67 : GOK Tryd.prog gw 67 [.c, .c] d67 := by
  intro gs p v hd hp w xs hw hx
  unfold d67 at hd
  split at hd
  · cases hd
    refine grp_fin mixed gw_stable gw_glob (sl := []) trivial Tryd.func67 hw hx rfl rfl rfl rfl (t67 _ _) rfl ?_
    obtain ⟨hp0, _⟩ := hp
    simp only [T.wp]
    repeat' (first | assumption | decide | refine ⟨?_, ?_⟩ | intro _)
    all_goals (first | rfl | (simp only [M.mod, M.Wine.v, M.Wine.s, M.Wine.c, M.Rate.w, M.Rate.al, cond_true, cond_false, *]; done))
  · cases hd
theorem S67 : SumOK Tryd.prog gw 67 (grpSm [.c, .c] d67) := grp_sum Tryd.func67 rfl C67
theorem t73 (lo : Int) (hi : Int) (most : Int) : runFn Tryd.prog 1 1 (lookS [s90, s85, s76]) 40 Tryd.f73 [.agg [.int .i64 lo, .int .i64 hi], .c (.int .i64 most)] gb =
    T.br (M.within lo (0 : Int) most) (T.need (M.within lo (0 : Int) most = true) (T.ret (Value.int IntKind.i64 (M.first [M.unl (M.within hi (0 : Int) most) (2 : Int), M.unl (decide (lo ≤ hi)) (9 : Int)])))) (T.need (M.within lo (0 : Int) most = false) (T.ret (Value.int IntKind.i64 (M.first [M.unl false (2 : Int), M.unl (decide (lo ≤ hi)) (9 : Int)])))) := by kernel_rfl
theorem C73 : GOK Tryd.prog gw 73 [.agg, .c] d73 := by
  intro gs p v hd hp w xs hw hx
  unfold d73 at hd
  split at hd
  · cases hd
    refine grp_fin mixed gw_stable gw_glob (sl := [s90, s85, s76]) ⟨S90, S85, S76, trivial⟩ Tryd.func73 hw hx rfl rfl rfl rfl (t73 _ _ _) rfl ?_
    simp only [T.wp]
    repeat' (first | assumption | decide | refine ⟨?_, ?_⟩ | intro _)
    all_goals (first | rfl | (simp only [M.spanErr, M.Wine.v, M.Wine.s, M.Wine.c, M.Rate.w, M.Rate.al, cond_true, cond_false, *]; done))
  · cases hd
theorem S73 : SumOK Tryd.prog gw 73 (grpSm [.agg, .c] d73) := grp_sum Tryd.func73 rfl C73
theorem t79 (lo : Int) (hi : Int) (d : Int) : runFn Tryd.prog 1 1 (lookS []) 40 Tryd.f79 [.agg [.int .i64 lo, .int .i64 hi], .c (.int .i64 d)] gb =
    T.ret (Value.agg #[Value.int IntKind.i64 (IntKind.wrap IntKind.i64 ((1000000 : Int) - IntKind.wrap IntKind.i64 (hi * d))), Value.int IntKind.i64 (IntKind.wrap IntKind.i64 ((1000000 : Int) - IntKind.wrap IntKind.i64 (lo * d)))]) := by kernel_rfl
theorem C79 : GOK Tryd.prog gw 79 [.agg, .c] d79 := by
  intro gs p v hd hp w xs hw hx
  unfold d79 at hd
  split at hd
  · cases hd
    refine grp_fin mixed gw_stable gw_glob (sl := []) trivial Tryd.func79 hw hx rfl rfl rfl rfl (t79 _ _ _) rfl ?_
    simp only [T.wp]
    repeat' (first | assumption | decide | refine ⟨?_, ?_⟩ | intro _)
    all_goals (first | rfl | (simp only [M.left, M.Wine.v, M.Wine.s, M.Wine.c, M.Rate.w, M.Rate.al, cond_true, cond_false, *]; done))
  · cases hd
theorem S79 : SumOK Tryd.prog gw 79 (grpSm [.agg, .c] d79) := grp_sum Tryd.func79 rfl C79
theorem t72 (v0 : Int) (v1 : Int) (s0 : Int) (s1 : Int) (c0 : Int) (c1 : Int) : runFn Tryd.prog 1 1 (lookS []) 40 Tryd.f72 [.agg [.int .i64 v0, .int .i64 v1, .int .i64 s0, .int .i64 s1, .int .i64 c0, .int .i64 c1]] gb =
    T.ret (Value.agg #[Value.int IntKind.i64 v0, Value.int IntKind.i64 v1, Value.int IntKind.i64 s0, Value.int IntKind.i64 s1, Value.int IntKind.i64 c0, Value.int IntKind.i64 c1]) := by kernel_rfl
theorem C72 : GOK Tryd.prog gw 72 [.agg] d72 := by
  intro gs p v hd hp w xs hw hx
  unfold d72 at hd
  split at hd
  · cases hd
    refine grp_fin mixed gw_stable gw_glob (sl := []) trivial Tryd.func72 hw hx rfl rfl rfl rfl (t72 _ _ _ _ _ _) rfl ?_
    simp only [T.wp]
    repeat' (first | assumption | decide | refine ⟨?_, ?_⟩ | intro _)
    all_goals (first | rfl | (simp only [M.Wine.v, M.Wine.s, M.Wine.c, M.Rate.w, M.Rate.al, cond_true, cond_false, *]; done))
  · cases hd
theorem S72 : SumOK Tryd.prog gw 72 (grpSm [.agg] d72) := grp_sum Tryd.func72 rfl C72
theorem t77 (d : Int) : runFn Tryd.prog 1 1 (lookS [s90, s85]) 40 Tryd.f77 [.c (.int .i64 d)] gb =
    T.ret (Value.int IntKind.i64 (M.unl (M.within d (0 : Int) (365 : Int)) (2 : Int))) := by kernel_rfl
theorem C77 : GOK Tryd.prog gw 77 [.c] d77 := by
  intro gs p v hd hp w xs hw hx
  unfold d77 at hd
  split at hd
  · cases hd
    refine grp_fin mixed gw_stable gw_glob (sl := [s90, s85]) ⟨S90, S85, trivial⟩ Tryd.func77 hw hx rfl rfl rfl rfl (t77 _) rfl ?_
    simp only [T.wp]
    repeat' (first | assumption | decide | refine ⟨?_, ?_⟩ | intro _)
    all_goals (first | rfl | (simp only [M.daysErr, M.Wine.v, M.Wine.s, M.Wine.c, M.Rate.w, M.Rate.al, cond_true, cond_false, *]; done))
  · cases hd
theorem S77 : SumOK Tryd.prog gw 77 (grpSm [.c] d77) := grp_sum Tryd.func77 rfl C77
theorem t86 (n : Int) : runFn Tryd.prog 1 1 (lookS [s90, s85]) 40 Tryd.f86 [.c (.int .i64 n)] gb =
    T.ret (Value.int IntKind.i64 (M.unl (M.within n (0 : Int) (10000 : Int)) (2 : Int))) := by kernel_rfl
theorem C86 : GOK Tryd.prog gw 86 [.c] d86 := by
  intro gs p v hd hp w xs hw hx
  unfold d86 at hd
  split at hd
  · cases hd
    refine grp_fin mixed gw_stable gw_glob (sl := [s90, s85]) ⟨S90, S85, trivial⟩ Tryd.func86 hw hx rfl rfl rfl rfl (t86 _) rfl ?_
    simp only [T.wp]
    repeat' (first | assumption | decide | refine ⟨?_, ?_⟩ | intro _)
    all_goals (first | rfl | (simp only [M.strengthErr, M.Wine.v, M.Wine.s, M.Wine.c, M.Rate.w, M.Rate.al, cond_true, cond_false, *]; done))
  · cases hd
theorem S86 : SumOK Tryd.prog gw 86 (grpSm [.c] d86) := grp_sum Tryd.func86 rfl C86
theorem t21 (v0 : Int) (v1 : Int) (s0 : Int) (s1 : Int) (c0 : Int) (c1 : Int) : runFn Tryd.prog 1 1 (lookS [s72, s73]) 40 Tryd.f21 [.agg [.int .i64 v0, .int .i64 v1, .int .i64 s0, .int .i64 s1, .int .i64 c0, .int .i64 c1]] gb =
    T.br (M.spanErr { lo := M.Wine.v0 { v0 := v0, v1 := v1, s0 := s0, s1 := s1, c0 := c0, c1 := c1 }, hi := M.Wine.v1 { v0 := v0, v1 := v1, s0 := s0, s1 := s1, c0 := c0, c1 := c1 } } (100000 : Int) != (0 : Int)) (T.ret (Value.int IntKind.i64 (M.spanErr { lo := M.Wine.v0 { v0 := v0, v1 := v1, s0 := s0, s1 := s1, c0 := c0, c1 := c1 }, hi := M.Wine.v1 { v0 := v0, v1 := v1, s0 := s0, s1 := s1, c0 := c0, c1 := c1 } } (100000 : Int)))) (T.br (M.spanErr { lo := M.Wine.s0 { v0 := v0, v1 := v1, s0 := s0, s1 := s1, c0 := c0, c1 := c1 }, hi := M.Wine.s1 { v0 := v0, v1 := v1, s0 := s0, s1 := s1, c0 := c0, c1 := c1 } } (10000 : Int) != (0 : Int)) (T.ret (Value.int IntKind.i64 (M.spanErr { lo := M.Wine.s0 { v0 := v0, v1 := v1, s0 := s0, s1 := s1, c0 := c0, c1 := c1 }, hi := M.Wine.s1 { v0 := v0, v1 := v1, s0 := s0, s1 := s1, c0 := c0, c1 := c1 } } (10000 : Int)))) (T.br (M.spanErr { lo := M.Wine.c0 { v0 := v0, v1 := v1, s0 := s0, s1 := s1, c0 := c0, c1 := c1 }, hi := M.Wine.c1 { v0 := v0, v1 := v1, s0 := s0, s1 := s1, c0 := c0, c1 := c1 } } (100000 : Int) != (0 : Int)) (T.ret (Value.int IntKind.i64 (M.spanErr { lo := M.Wine.c0 { v0 := v0, v1 := v1, s0 := s0, s1 := s1, c0 := c0, c1 := c1 }, hi := M.Wine.c1 { v0 := v0, v1 := v1, s0 := s0, s1 := s1, c0 := c0, c1 := c1 } } (100000 : Int)))) (T.ret (Value.int IntKind.i64 (0 : Int))))) := by kernel_rfl
theorem C21 : GOK Tryd.prog gw 21 [.agg] d21 := by
  intro gs p v hd hp w xs hw hx
  unfold d21 at hd
  split at hd
  · cases hd
    refine grp_fin mixed gw_stable gw_glob (sl := [s72, s73]) ⟨S72, S73, trivial⟩ Tryd.func21 hw hx rfl rfl rfl rfl (t21 _ _ _ _ _ _) rfl ?_
    simp only [T.wp]
    repeat' (first | assumption | decide | refine ⟨?_, ?_⟩ | intro _)
    all_goals (first | rfl | (simp only [M.checkWine, M.Wine.v, M.Wine.s, M.Wine.c, M.Rate.w, M.Rate.al, cond_true, cond_false, *]; done))
  · cases hd
theorem S21 : SumOK Tryd.prog gw 21 (grpSm [.agg] d21) := grp_sum Tryd.func21 rfl C21
theorem t23 (ra : Int) (rb : Int) (rc : Int) (rd : Int) : runFn Tryd.prog 1 1 (lookS [s73, s76]) 40 Tryd.f23 [.agg [.int .i64 ra, .int .i64 rb, .int .i64 rc, .int .i64 rd]] gb =
    T.ret (Value.int IntKind.i64 (M.first [M.spanErr { lo := ra, hi := rb } (2000 : Int), M.spanErr { lo := rc, hi := rd } (2000 : Int)])) := by kernel_rfl
theorem C23 : GOK Tryd.prog gw 23 [.agg] d23 := by
  intro gs p v hd hp w xs hw hx
  unfold d23 at hd
  split at hd
  · cases hd
    refine grp_fin mixed gw_stable gw_glob (sl := [s73, s76]) ⟨S73, S76, trivial⟩ Tryd.func23 hw hx rfl rfl rfl rfl (t23 _ _ _ _) rfl ?_
    simp only [T.wp]
    repeat' (first | assumption | decide | refine ⟨?_, ?_⟩ | intro _)
    all_goals (first | rfl | (simp only [M.checkRate, M.Wine.v, M.Wine.s, M.Wine.c, M.Rate.w, M.Rate.al, cond_true, cond_false, *]; done))
  · cases hd
theorem S23 : SumOK Tryd.prog gw 23 (grpSm [.agg] d23) := grp_sum Tryd.func23 rfl C23
end Go.Fl
end

section
namespace Go.Fl
open Go.Eng Go.RowKit Go.Proofs
set_option maxRecDepth 100000
set_option linter.unusedSimpArgs false
set_option linter.unusedVariables false
theorem t75 (lo : Int) (hi : Int) (most : Int) : runFn Tryd.prog 1 1 (lookS [s55]) 40 Tryd.f75 [.agg [.int .i64 lo, .int .i64 hi], .c (.int .i64 most)] gb =
    T.br (!M.within lo (0 : Int) most) (T.need ((!M.within lo (0 : Int) most) = true) (T.ret (Value.int IntKind.i64 (2 : Int)))) (T.need ((!M.within lo (0 : Int) most) = false) (T.br (!M.within hi (0 : Int) most) (T.ret (Value.int IntKind.i64 (2 : Int))) (T.br (decide (lo > hi)) (T.ret (Value.int IntKind.i64 (9 : Int))) (T.ret (Value.int IntKind.i64 (0 : Int)))))) := by kernel_rfl
theorem C75 : GOK Tryd.prog gw 75 [.agg, .c] d75 := by
  intro gs p v hd hp w xs hw hx
  unfold d75 at hd
  split at hd
  · cases hd
    refine grp_fin mixed gw_stable gw_glob (sl := [s55]) ⟨S55, trivial⟩ Tryd.func75 hw hx rfl rfl rfl rfl (t75 _ _ _) rfl ?_
    simp only [T.wp]
    repeat' (first | assumption | decide | refine ⟨?_, ?_⟩ | intro _)
    all_goals (try simp only [Bool.not_eq_true', Bool.not_eq_false'] at *)
    all_goals (first | rfl | (simp only [M.rangeErr, M.Wine.v, M.Wine.s, M.Wine.c, M.Rate.w, M.Rate.al, M.wine0, M.rg0, M.rate0, cond_true, cond_false, decide_true, decide_false, *]; done) | (simp only [M.rangeErr, M.Wine.v, M.Wine.s, M.Wine.c, M.Rate.w, M.Rate.al, M.wine0, M.rg0, M.rate0, cond_true, cond_false]; grind))
  · cases hd
theorem S75 : SumOK Tryd.prog gw 75 (grpSm [.agg, .c] d75) := grp_sum Tryd.func75 rfl C75
theorem t74 (a : Int) (b : Int) (c : Int) : runFn Tryd.prog 1 1 (lookS []) 40 Tryd.f74 [.c (.int .i64 a), .c (.int .i64 b), .c (.int .i64 c)] gb =
    T.br (a != (0 : Int)) (T.ret (Value.int IntKind.i64 a)) (T.br (b != (0 : Int)) (T.ret (Value.int IntKind.i64 b)) (T.ret (Value.int IntKind.i64 c))) := by kernel_rfl
theorem C74 : GOK Tryd.prog gw 74 [.c, .c, .c] d74 := by
  intro gs p v hd hp w xs hw hx
  unfold d74 at hd
  split at hd
  · cases hd
    refine grp_fin mixed gw_stable gw_glob (sl := []) trivial Tryd.func74 hw hx rfl rfl rfl rfl (t74 _ _ _) rfl ?_
    simp only [T.wp]
    repeat' (first | assumption | decide | refine ⟨?_, ?_⟩ | intro _)
    all_goals (try simp only [Bool.not_eq_true', Bool.not_eq_false'] at *)
    all_goals (first | rfl | (simp only [M.first3, M.Wine.v, M.Wine.s, M.Wine.c, M.Rate.w, M.Rate.al, M.wine0, M.rg0, M.rate0, cond_true, cond_false, decide_true, decide_false, *]; done) | (simp only [M.first3, M.Wine.v, M.Wine.s, M.Wine.c, M.Rate.w, M.Rate.al, M.wine0, M.rg0, M.rate0, cond_true, cond_false]; grind))
  · cases hd
theorem S74 : SumOK Tryd.prog gw 74 (grpSm [.c, .c, .c] d74) := grp_sum Tryd.func74 rfl C74
theorem t22 (v0 : Int) (v1 : Int) (s0 : Int) (s1 : Int) (c0 : Int) (c1 : Int) : runFn Tryd.prog 1 1 (lookS [s75, s74]) 40 Tryd.f22 [.agg [.int .i64 v0, .int .i64 v1, .int .i64 s0, .int .i64 s1, .int .i64 c0, .int .i64 c1]] gb =
    T.ret (Value.int IntKind.i64 (M.first3 (M.rangeErr { lo := v0, hi := v1 } (100000 : Int)) (M.rangeErr { lo := s0, hi := s1 } (10000 : Int)) (M.rangeErr { lo := c0, hi := c1 } (100000 : Int)))) := by kernel_rfl
theorem C22 : GOK Tryd.prog gw 22 [.agg] d22 := by
  intro gs p v hd hp w xs hw hx
  unfold d22 at hd
  split at hd
  · cases hd
    refine grp_fin mixed gw_stable gw_glob (sl := [s75, s74]) ⟨S75, S74, trivial⟩ Tryd.func22 hw hx rfl rfl rfl rfl (t22 _ _ _ _ _ _) rfl ?_
    simp only [T.wp]
    repeat' (first | assumption | decide | refine ⟨?_, ?_⟩ | intro _)
    all_goals (try simp only [Bool.not_eq_true', Bool.not_eq_false'] at *)
    all_goals (first | rfl | (simp only [M.rCheckWine, M.Wine.v, M.Wine.s, M.Wine.c, M.Rate.w, M.Rate.al, M.wine0, M.rg0, M.rate0, cond_true, cond_false, decide_true, decide_false, *]; done) | (simp only [M.rCheckWine, M.Wine.v, M.Wine.s, M.Wine.c, M.Rate.w, M.Rate.al, M.wine0, M.rg0, M.rate0, cond_true, cond_false]; grind))
  · cases hd
theorem t32 (lo : Int) (hi : Int) (b : Int) : runFn Tryd.prog 1 1 (lookS [s67]) 40 Tryd.f32 [.agg [.int .i64 lo, .int .i64 hi], .c (.int .i64 b)] gb =
    T.need (IntKind.wrap IntKind.i64 (IntKind.wrap IntKind.i64 (hi - lo) + (1 : Int)) ≠ (0 : Int)) (T.ret (Value.int IntKind.i64 (IntKind.wrap IntKind.i64 (lo + M.mod b (IntKind.wrap IntKind.i64 (IntKind.wrap IntKind.i64 (hi - lo) + (1 : Int))))))) := by kernel_rfl
theorem C32 : GOK Tryd.prog gw 32 [.agg, .c] d32 := by
  intro gs p v hd hp w xs hw hx
  unfold d32 at hd
  split at hd
  · cases hd
    refine grp_fin mixed gw_stable gw_glob (sl := [s67]) ⟨S67, trivial⟩ Tryd.func32 hw hx rfl rfl rfl rfl (t32 _ _ _) rfl ?_
    obtain ⟨hp0, _⟩ := hp
    simp only [T.wp]
    repeat' (first | assumption | decide | refine ⟨?_, ?_⟩ | intro _)
    all_goals (try simp only [Bool.not_eq_true', Bool.not_eq_false'] at *)
    all_goals (first | rfl | (simp only [M.pick, M.Wine.v, M.Wine.s, M.Wine.c, M.Rate.w, M.Rate.al, M.wine0, M.rg0, M.rate0, cond_true, cond_false, decide_true, decide_false, *]; done) | (simp only [M.pick, M.Wine.v, M.Wine.s, M.Wine.c, M.Rate.w, M.Rate.al, M.wine0, M.rg0, M.rate0, cond_true, cond_false]; grind))
  · cases hd
theorem t56 (n : Int) : runFn Tryd.prog 1 1 (lookS []) 40 Tryd.f56 [.c (.int .i64 n)] gb =
    T.ret (Value.agg #[Value.int IntKind.i64 n, Value.int IntKind.i64 n]) := by kernel_rfl
theorem C56 : GOK Tryd.prog gw 56 [.c] d56 := by
  intro gs p v hd hp w xs hw hx
  unfold d56 at hd
  split at hd
  · cases hd
    refine grp_fin mixed gw_stable gw_glob (sl := []) trivial Tryd.func56 hw hx rfl rfl rfl rfl (t56 _) rfl ?_
    simp only [T.wp]
    repeat' (first | assumption | decide | refine ⟨?_, ?_⟩ | intro _)
    all_goals (try simp only [Bool.not_eq_true', Bool.not_eq_false'] at *)
    all_goals (first | rfl | (simp only [M.Wine.v, M.Wine.s, M.Wine.c, M.Rate.w, M.Rate.al, M.wine0, M.rg0, M.rate0, cond_true, cond_false, decide_true, decide_false, *]; done) | (simp only [M.Wine.v, M.Wine.s, M.Wine.c, M.Rate.w, M.Rate.al, M.wine0, M.rg0, M.rate0, cond_true, cond_false]; grind))
  · cases hd
theorem S56 : SumOK Tryd.prog gw 56 (grpSm [.c] d56) := grp_sum Tryd.func56 rfl C56
theorem t70 : runFn Tryd.prog 1 1 (lookS []) 40 Tryd.f70 [] gb =
    T.ret (Value.agg #[Value.int IntKind.i64 (1000 : Int), Value.int IntKind.i64 (1000 : Int), Value.int IntKind.i64 (1500 : Int), Value.int IntKind.i64 (1600 : Int), Value.int IntKind.i64 (200 : Int), Value.int IntKind.i64 (200 : Int)]) := by kernel_rfl
theorem C70 : GOK Tryd.prog gw 70 [] d70 := by
  intro gs p v hd hp w xs hw hx
  unfold d70 at hd
  split at hd
  · cases hd
    refine grp_fin mixed gw_stable gw_glob (sl := []) trivial Tryd.func70 hw hx rfl rfl rfl rfl (t70 ) rfl ?_
    simp only [T.wp]
    repeat' (first | assumption | decide | refine ⟨?_, ?_⟩ | intro _)
    all_goals (try simp only [Bool.not_eq_true', Bool.not_eq_false'] at *)
    all_goals (first | rfl | (simp only [M.Wine.v, M.Wine.s, M.Wine.c, M.Rate.w, M.Rate.al, M.wine0, M.rg0, M.rate0, cond_true, cond_false, decide_true, decide_false, *]; done) | (simp only [M.Wine.v, M.Wine.s, M.Wine.c, M.Rate.w, M.Rate.al, M.wine0, M.rg0, M.rate0, cond_true, cond_false]; grind))
  · cases hd
theorem S70 : SumOK Tryd.prog gw 70 (grpSm [] d70) := grp_sum Tryd.func70 rfl C70
theorem t71 : runFn Tryd.prog 1 1 (lookS []) 40 Tryd.f71 [] gb =
    T.ret (Value.agg #[Value.int IntKind.i64 (100 : Int), Value.int IntKind.i64 (200 : Int), Value.int IntKind.i64 (200 : Int), Value.int IntKind.i64 (300 : Int)]) := by kernel_rfl
theorem C71 : GOK Tryd.prog gw 71 [] d71 := by
  intro gs p v hd hp w xs hw hx
  unfold d71 at hd
  split at hd
  · cases hd
    refine grp_fin mixed gw_stable gw_glob (sl := []) trivial Tryd.func71 hw hx rfl rfl rfl rfl (t71 ) rfl ?_
    simp only [T.wp]
    repeat' (first | assumption | decide | refine ⟨?_, ?_⟩ | intro _)
    all_goals (try simp only [Bool.not_eq_true', Bool.not_eq_false'] at *)
    all_goals (first | rfl | (simp only [M.Wine.v, M.Wine.s, M.Wine.c, M.Rate.w, M.Rate.al, M.wine0, M.rg0, M.rate0, cond_true, cond_false, decide_true, decide_false, *]; done) | (simp only [M.Wine.v, M.Wine.s, M.Wine.c, M.Rate.w, M.Rate.al, M.wine0, M.rg0, M.rate0, cond_true, cond_false]; grind))
  · cases hd
theorem S71 : SumOK Tryd.prog gw 71 (grpSm [] d71) := grp_sum Tryd.func71 rfl C71
end Go.Fl
end

section
set_option linter.unusedVariables false
set_option linter.unusedSimpArgs false
namespace Go.Fl.L
open Go.Fl.M
theorem W_id {n : Int} (h1 : -9223372036854775808 ≤ n) (h2 : n ≤ 9223372036854775807) : W n = n := by
  unfold W; rw [IntKind.wrap_i64]; omega
theorem first_nil {l : List Int} : first l = 0 ↔ ∀ e ∈ l, e = 0 := by
  induction l with
  | nil => simp [first]
  | cons e l ih =>
    simp only [first]
    by_cases h : e = 0
    · subst h; simp [ih]
    · have : (e != 0) = true := by simp [h]
      rw [this]; simp [h]
theorem ne_false {e : Int} : (e != 0) = false ↔ e = 0 := by simp
theorem unl_zero {b : Bool} {e : Int} (he : e ≠ 0) : unl b e = 0 ↔ b = true := by cases b <;> simp [unl, he]
theorem within_iff {n lo hi : Int} : within n lo hi = true ↔ lo ≤ n ∧ n ≤ hi := by
  unfold within
  by_cases h : lo ≤ n <;> simp [h]
theorem spanErr_zero {r : Rg} {most : Int} : spanErr r most = 0 ↔ 0 ≤ r.lo ∧ r.lo ≤ r.hi ∧ r.hi ≤ most := by
  unfold spanErr
  rw [first_nil]
  simp only [List.mem_cons, List.not_mem_nil, or_false, forall_eq_or_imp, forall_eq]
  rw [unl_zero (by decide), unl_zero (by decide)]
  by_cases h : within r.lo 0 most = true
  · rw [h]; simp only [cond_true, within_iff, decide_eq_true_eq]; rw [within_iff] at h; omega
  · have h' : within r.lo 0 most = false := by simpa using h
    rw [h']; simp only [cond_false]
    rw [within_iff] at h
    constructor
    · intro hh; cases hh.1
    · intro hh; exact absurd (by omega) h
/-- A wine's numbers. -/
structure OkW (w : Wine) : Prop where
  v0 : 0 ≤ w.v0
  v : w.v0 ≤ w.v1
  v1 : w.v1 ≤ 100000
  s0 : 0 ≤ w.s0
  s : w.s0 ≤ w.s1
  s1 : w.s1 ≤ 10000
  c0 : 0 ≤ w.c0
  c : w.c0 ≤ w.c1
  c1 : w.c1 ≤ 100000
structure OkR (r : Rate) : Prop where
  a : 0 ≤ r.a
  b : r.a ≤ r.b
  b1 : r.b ≤ 2000
  c : 0 ≤ r.c
  d : r.c ≤ r.d
  d1 : r.d ≤ 2000
theorem cond_ne_zero {a b : Int} : cond (a != 0) a b = 0 ↔ a = 0 ∧ b = 0 := by
  by_cases h : a = 0
  · subst h; simp
  · have : (a != 0) = true := by simp [h]
    rw [this]; simp [h]
theorem checkWine_zero {w : Wine} : checkWine w = 0 ↔ OkW w := by
  unfold checkWine
  rw [cond_ne_zero, cond_ne_zero, cond_ne_zero, spanErr_zero, spanErr_zero, spanErr_zero]
  constructor
  · rintro ⟨⟨a1, a2, a3⟩, ⟨b1, b2, b3⟩, ⟨c1, c2, c3⟩, _⟩; exact ⟨a1, a2, a3, b1, b2, b3, c1, c2, c3⟩
  · rintro ⟨a1, a2, a3, b1, b2, b3, c1, c2, c3⟩; exact ⟨⟨a1, a2, a3⟩, ⟨b1, b2, b3⟩, ⟨c1, c2, c3⟩, rfl⟩
theorem checkRate_zero {r : Rate} : checkRate r = 0 ↔ OkR r := by
  unfold checkRate
  rw [first_nil]
  simp only [List.mem_cons, List.not_mem_nil, or_false, forall_eq_or_imp, forall_eq, spanErr_zero]
  constructor
  · rintro ⟨⟨a1, a2, a3⟩, ⟨b1, b2, b3⟩⟩; exact ⟨a1, a2, a3, b1, b2, b3⟩
  · rintro ⟨a1, a2, a3, b1, b2, b3⟩; exact ⟨⟨a1, a2, a3⟩, ⟨b1, b2, b3⟩⟩
theorem daysErr_zero {d : Int} : daysErr d = 0 ↔ 0 ≤ d ∧ d ≤ 365 := by unfold daysErr; rw [unl_zero (by decide), within_iff]
theorem strengthErr_zero {d : Int} : strengthErr d = 0 ↔ 0 ≤ d ∧ d ≤ 10000 := by unfold strengthErr; rw [unl_zero (by decide), within_iff]
theorem taskErr_zero {w : Wine} {r : Rate} {d : Int} : taskErr w r d = 0 ↔ OkW w ∧ OkR r ∧ 0 ≤ d ∧ d ≤ 365 := by
  unfold taskErr
  rw [first_nil]
  simp only [List.mem_cons, List.not_mem_nil, or_false, forall_eq_or_imp, forall_eq, checkWine_zero, checkRate_zero, daysErr_zero]
/-- What is left behind some days. -/
theorem mul_le {a d A D : Int} (h0 : 0 ≤ a) (h1 : a ≤ A) (h2 : 0 ≤ d) (h3 : d ≤ D) : 0 ≤ a * d ∧ a * d ≤ A * D :=
  ⟨Int.mul_nonneg h0 h2, Int.mul_le_mul h1 h3 h2 (by omega)⟩
theorem left_eq {r : Rg} {d : Int} (h0 : 0 ≤ r.lo) (h : r.lo ≤ r.hi) (h1 : r.hi ≤ 2000) (hd : 0 ≤ d) (hd1 : d ≤ 365) :
    (left r d).lo = 1000000 - r.hi * d ∧ (left r d).hi = 1000000 - r.lo * d ∧ 270000 ≤ (left r d).lo ∧ (left r d).lo ≤ (left r d).hi ∧ (left r d).hi ≤ 1000000 := by
  have b1 := mul_le (by omega) h1 hd hd1
  have b2 := mul_le h0 (by omega : r.lo ≤ 2000) hd hd1
  have b3 : r.lo * d ≤ r.hi * d := Int.mul_le_mul_of_nonneg_right h hd
  have e1 : (left r d).lo = 1000000 - r.hi * d := by
    unfold left; simp only
    rw [W_id (n := r.hi * d) (by omega) (by omega), W_id (by omega) (by omega)]
  have e2 : (left r d).hi = 1000000 - r.lo * d := by
    unfold left; simp only
    rw [W_id (n := r.lo * d) (by omega) (by omega), W_id (by omega) (by omega)]
  rw [e1, e2]
  exact ⟨rfl, rfl, by omega, by omega, by omega⟩
theorem task_left {r : Rate} {d : Int} (hr : OkR r) (hd : 0 ≤ d ∧ d ≤ 365) : (left r.w d).hi ≠ 0 ∧ (left r.w d).lo ≠ 0 := by
  obtain ⟨_, _, h1, h2, _⟩ := left_eq (r := r.w) hr.a hr.b hr.b1 hd.1 hd.2
  exact ⟨by omega, by omega⟩
theorem task_hi {w : Wine} {r : Rate} {d : Int} (h : (first [checkWine w, checkRate r, daysErr d] != 0) = false) : (left (Rate.w r) d).hi ≠ 0 := by
  have := taskErr_zero.1 (ne_false.1 h)
  exact (task_left this.2.1 this.2.2).1
theorem task_lo {w : Wine} {r : Rate} {d : Int} (h : (first [checkWine w, checkRate r, daysErr d] != 0) = false) : (left (Rate.w r) d).lo ≠ 0 := by
  have := taskErr_zero.1 (ne_false.1 h)
  exact (task_left this.2.1 this.2.2).2
/- the reference's errors are the program's -/
theorem rangeErr_eq (r : Rg) (most : Int) : rangeErr r most = spanErr r most := by
  unfold rangeErr spanErr
  have e : cond (decide (r.lo > r.hi)) (9 : Int) 0 = cond (decide (r.lo ≤ r.hi)) 0 9 := by
    by_cases h : r.lo ≤ r.hi
    · have h' : ¬ r.lo > r.hi := by omega
      rw [decide_eq_true h, decide_eq_false h']; rfl
    · have h' : r.lo > r.hi := by omega
      rw [decide_eq_false h, decide_eq_true h']; rfl
  cases h1 : within r.lo 0 most <;> cases h2 : within r.hi 0 most <;> simp only [cond_true, cond_false]
  · rfl
  · rfl
  · rfl
  · rw [e]; cases decide (r.lo ≤ r.hi) <;> rfl
theorem first3_eq (a b c : Int) : first3 a b c = first [a, b, c] := by
  unfold first3
  simp only [first]
  by_cases h : c = 0
  · subst h; simp
  · have : (c != 0) = true := by simp [h]
    rw [this]; simp
theorem rCheckWine_eq (w : Wine) : rCheckWine w = checkWine w := by
  unfold rCheckWine checkWine
  rw [first3_eq, rangeErr_eq, rangeErr_eq, rangeErr_eq]
  simp only [first]
theorem spirit_ne {w : Wine} {x y : Int} (h : (first [checkWine w, strengthErr x, strengthErr y, unl (decide (x > y)) 11] != 0) = false) : W (x - y) ≠ 0 := by
  have := first_nil.1 (ne_false.1 h)
  simp only [List.mem_cons, List.not_mem_nil, or_false, forall_eq_or_imp, forall_eq, checkWine_zero, strengthErr_zero] at this
  rw [unl_zero (by decide), decide_eq_true_eq] at this
  rw [W_id (by omega) (by omega)]; omega
end Go.Fl.L
end

section
namespace Go.Fl
open Go.Eng Go.RowKit Go.Proofs
set_option maxRecDepth 100000
set_option linter.unusedSimpArgs false
set_option linter.unusedVariables false
end Go.Fl
end

section
namespace Go.Fl
open Go.Eng Go.RowKit Go.Proofs
set_option maxRecDepth 100000
set_option linter.unusedSimpArgs false
set_option linter.unusedVariables false
theorem t78 (v0 : Int) (v1 : Int) (s0 : Int) (s1 : Int) (c0 : Int) (c1 : Int) (ra : Int) (rb : Int) (rc : Int) (rd : Int) (d : Int) : runFn Tryd.prog 1 1 (lookS [s79, s80, s81]) 40 Tryd.f78 [.agg [.int .i64 v0, .int .i64 v1, .int .i64 s0, .int .i64 s1, .int .i64 c0, .int .i64 c1], .agg [.int .i64 ra, .int .i64 rb, .int .i64 rc, .int .i64 rd], .c (.int .i64 d)] gb =
    T.need ((1000000 : Int) ≠ (0 : Int)) (T.need ((1000000 : Int) ≠ (0 : Int)) (T.need (M.Rg.hi (M.left { lo := ra, hi := rb } d) ≠ (0 : Int)) (T.need (M.Rg.lo (M.left { lo := ra, hi := rb } d) ≠ (0 : Int)) (T.need (M.Rg.hi (M.left { lo := ra, hi := rb } d) ≠ (0 : Int)) (T.need (M.Rg.lo (M.left { lo := ra, hi := rb } d) ≠ (0 : Int)) (T.ret (Value.agg #[Value.int IntKind.i64 (M.floor (IntKind.wrap IntKind.i64 (v0 * M.Rg.lo (M.left { lo := ra, hi := rb } d))) (1000000 : Int)), Value.int IntKind.i64 (M.ceiling (IntKind.wrap IntKind.i64 (v1 * M.Rg.hi (M.left { lo := ra, hi := rb } d))) (1000000 : Int)), Value.int IntKind.i64 (M.floor (IntKind.wrap IntKind.i64 (s0 * M.Rg.lo (M.left { lo := rc, hi := rd } d))) (M.Rg.hi (M.left { lo := ra, hi := rb } d))), Value.int IntKind.i64 (M.ceiling (IntKind.wrap IntKind.i64 (s1 * M.Rg.hi (M.left { lo := rc, hi := rd } d))) (M.Rg.lo (M.left { lo := ra, hi := rb } d))), Value.int IntKind.i64 (M.floor (IntKind.wrap IntKind.i64 (c0 * (1000000 : Int))) (M.Rg.hi (M.left { lo := ra, hi := rb } d))), Value.int IntKind.i64 (M.ceiling (IntKind.wrap IntKind.i64 (c1 * (1000000 : Int))) (M.Rg.lo (M.left { lo := ra, hi := rb } d)))]))))))) := by kernel_rfl
theorem C78 : GOK Tryd.prog gw 78 [.agg, .agg, .c] d78 := by
  intro gs p v hd hp w xs hw hx
  unfold d78 at hd
  split at hd
  · cases hd
    refine grp_fin mixed gw_stable gw_glob (sl := [s79, s80, s81]) ⟨S79, S80, S81, trivial⟩ Tryd.func78 hw hx rfl rfl rfl rfl (t78 _ _ _ _ _ _ _ _ _ _ _) rfl ?_
    obtain ⟨hp0, hp1, _⟩ := hp
    simp only [T.wp]
    repeat' (first | assumption | decide | refine ⟨?_, ?_⟩ | intro _)
    all_goals (try simp only [Bool.not_eq_true', Bool.not_eq_false'] at *)
    all_goals (first | rfl | (simp only [M.after, M.Wine.v, M.Wine.s, M.Wine.c, M.Rate.w, M.Rate.al, M.wine0, M.rg0, M.rate0, cond_true, cond_false, decide_true, decide_false, *]; done) | (simp only [M.after, M.Wine.v, M.Wine.s, M.Wine.c, M.Rate.w, M.Rate.al, M.wine0, M.rg0, M.rate0, cond_true, cond_false]; grind))
  · cases hd
theorem S78 : SumOK Tryd.prog gw 78 (grpSm [.agg, .agg, .c] d78) := grp_sum Tryd.func78 rfl C78
theorem t104 (volume : Int) (strength : Int) (target : Int) (spirit : Int) : runFn Tryd.prog 1 3 (lookS [s81]) 40 Tryd.f104 [.c (.int .i64 volume), .c (.int .i64 strength), .c (.ptr 1 0), .c (.ptr 2 0)] (gb ++ [.part 0 [.int .i64 target], .part 0 [.int .i64 spirit]]) =
    T.need (IntKind.wrap IntKind.i64 (spirit - target) ≠ (0 : Int)) (T.ret (Value.int IntKind.i64 (M.ceiling (IntKind.wrap IntKind.i64 (volume * if IntKind.wrap IntKind.i64 (target - strength) > (0 : Int) then IntKind.wrap IntKind.i64 (target - strength) else (0 : Int))) (IntKind.wrap IntKind.i64 (spirit - target))))) := by kernel_rfl
theorem C104 : GOK Tryd.prog gw 104 [.c, .c, .ptr, .ptr] d104 := by
  intro gs p v hd hp w xs hw hx
  unfold d104 at hd
  split at hd
  · cases hd
    refine grp_fin mixed gw_stable gw_glob (sl := [s81]) ⟨S81, trivial⟩ Tryd.func104 hw hx rfl rfl rfl rfl (t104 _ _ _ _) rfl ?_
    obtain ⟨hp0, _⟩ := hp
    simp only [T.wp]
    repeat' (first | assumption | decide | refine ⟨?_, ?_⟩ | intro _)
    all_goals (try simp only [Bool.not_eq_true', Bool.not_eq_false'] at *)
    all_goals (first | rfl | (simp only [M.need, M.maxI, M.Wine.v, M.Wine.s, M.Wine.c, M.Rate.w, M.Rate.al, M.wine0, M.rg0, M.rate0, cond_true, cond_false, decide_true, decide_false, *]; done) | (simp only [M.need, M.maxI, M.Wine.v, M.Wine.s, M.Wine.c, M.Rate.w, M.Rate.al, M.wine0, M.rg0, M.rate0, cond_true, cond_false]; grind))
  · cases hd
theorem S104 : SumOK Tryd.prog gw 104 (grpSm [.c, .c, .ptr, .ptr] d104) := grp_sum Tryd.func104 rfl C104
end Go.Fl
end

section
namespace Go.Fl
open Go.Eng Go.RowKit Go.Proofs
set_option maxRecDepth 100000
set_option linter.unusedSimpArgs false
set_option linter.unusedVariables false
theorem t27 (v0 : Int) (v1 : Int) (s0 : Int) (s1 : Int) (c0 : Int) (c1 : Int) (ra : Int) (rb : Int) (rc : Int) (rd : Int) (d : Int) : runFn Tryd.prog 1 1 (lookS [s21, s23, s77, s76, s78]) 40 Tryd.f27 [.agg [.int .i64 v0, .int .i64 v1, .int .i64 s0, .int .i64 s1, .int .i64 c0, .int .i64 c1], .agg [.int .i64 ra, .int .i64 rb, .int .i64 rc, .int .i64 rd], .c (.int .i64 d)] gb =
    T.br (M.first [M.checkWine { v0 := v0, v1 := v1, s0 := s0, s1 := s1, c0 := c0, c1 := c1 }, M.checkRate { a := ra, b := rb, c := rc, d := rd }, M.daysErr d] != (0 : Int)) (T.ret (Value.tuple #[Value.agg #[Value.int IntKind.i64 (0 : Int), Value.int IntKind.i64 (0 : Int), Value.int IntKind.i64 (0 : Int), Value.int IntKind.i64 (0 : Int), Value.int IntKind.i64 (0 : Int), Value.int IntKind.i64 (0 : Int)], Value.int IntKind.i64 (M.first [M.checkWine { v0 := v0, v1 := v1, s0 := s0, s1 := s1, c0 := c0, c1 := c1 }, M.checkRate { a := ra, b := rb, c := rc, d := rd }, M.daysErr d])])) (T.need (M.Rg.hi (M.left (M.Rate.w { a := ra, b := rb, c := rc, d := rd }) d) ≠ (0 : Int)) (T.need (M.Rg.lo (M.left (M.Rate.w { a := ra, b := rb, c := rc, d := rd }) d) ≠ (0 : Int)) (T.br (decide (M.Wine.s1 (M.after { v0 := v0, v1 := v1, s0 := s0, s1 := s1, c0 := c0, c1 := c1 } { a := ra, b := rb, c := rc, d := rd } d) > (10000 : Int))) (T.need (decide (M.Wine.s1 (M.after { v0 := v0, v1 := v1, s0 := s0, s1 := s1, c0 := c0, c1 := c1 } { a := ra, b := rb, c := rc, d := rd } d) > (10000 : Int)) = true) (T.ret (Value.tuple #[Value.agg #[Value.int IntKind.i64 (0 : Int), Value.int IntKind.i64 (0 : Int), Value.int IntKind.i64 (0 : Int), Value.int IntKind.i64 (0 : Int), Value.int IntKind.i64 (0 : Int), Value.int IntKind.i64 (0 : Int)], Value.int IntKind.i64 (8 : Int)]))) (T.need (decide (M.Wine.s1 (M.after { v0 := v0, v1 := v1, s0 := s0, s1 := s1, c0 := c0, c1 := c1 } { a := ra, b := rb, c := rc, d := rd } d) > (10000 : Int)) = false) (T.br (decide (M.Wine.c1 (M.after { v0 := v0, v1 := v1, s0 := s0, s1 := s1, c0 := c0, c1 := c1 } { a := ra, b := rb, c := rc, d := rd } d) > (100000 : Int))) (T.ret (Value.tuple #[Value.agg #[Value.int IntKind.i64 (0 : Int), Value.int IntKind.i64 (0 : Int), Value.int IntKind.i64 (0 : Int), Value.int IntKind.i64 (0 : Int), Value.int IntKind.i64 (0 : Int), Value.int IntKind.i64 (0 : Int)], Value.int IntKind.i64 (8 : Int)])) (T.ret (Value.tuple #[Value.agg #[Value.int IntKind.i64 (M.Wine.v0 (M.after { v0 := v0, v1 := v1, s0 := s0, s1 := s1, c0 := c0, c1 := c1 } { a := ra, b := rb, c := rc, d := rd } d)), Value.int IntKind.i64 (M.Wine.v1 (M.after { v0 := v0, v1 := v1, s0 := s0, s1 := s1, c0 := c0, c1 := c1 } { a := ra, b := rb, c := rc, d := rd } d)), Value.int IntKind.i64 (M.Wine.s0 (M.after { v0 := v0, v1 := v1, s0 := s0, s1 := s1, c0 := c0, c1 := c1 } { a := ra, b := rb, c := rc, d := rd } d)), Value.int IntKind.i64 (M.Wine.s1 (M.after { v0 := v0, v1 := v1, s0 := s0, s1 := s1, c0 := c0, c1 := c1 } { a := ra, b := rb, c := rc, d := rd } d)), Value.int IntKind.i64 (M.Wine.c0 (M.after { v0 := v0, v1 := v1, s0 := s0, s1 := s1, c0 := c0, c1 := c1 } { a := ra, b := rb, c := rc, d := rd } d)), Value.int IntKind.i64 (M.Wine.c1 (M.after { v0 := v0, v1 := v1, s0 := s0, s1 := s1, c0 := c0, c1 := c1 } { a := ra, b := rb, c := rc, d := rd } d))], Value.int IntKind.i64 (0 : Int)]))))))) := by kernel_rfl
theorem C27 : GOK Tryd.prog gw 27 [.agg, .agg, .c] d27 := by
  intro gs p v hd hp w xs hw hx
  unfold d27 at hd
  split at hd
  · cases hd
    refine grp_fin mixed gw_stable gw_glob (sl := [s21, s23, s77, s76, s78]) ⟨S21, S23, S77, S76, S78, trivial⟩ Tryd.func27 hw hx rfl rfl rfl rfl (t27 _ _ _ _ _ _ _ _ _ _ _) rfl ?_
    simp only [T.wp]
    repeat' (first | with_reducible assumption | decide | with_reducible exact L.task_hi (by with_reducible assumption) | with_reducible exact L.task_lo (by with_reducible assumption) | refine ⟨?_, ?_⟩ | intro _)
    all_goals (try simp only [Bool.not_eq_true', Bool.not_eq_false'] at *)
    all_goals (first | rfl | (simp only [M.After, M.taskErr, M.Wine.v, M.Wine.s, M.Wine.c, M.Rate.w, M.Rate.al, M.wine0, M.rg0, M.rate0, cond_true, cond_false, decide_true, decide_false, *]; done) | (simp only [M.After, M.taskErr, M.Wine.v, M.Wine.s, M.Wine.c, M.Rate.w, M.Rate.al, M.wine0, M.rg0, M.rate0, cond_true, cond_false]; grind))
  · cases hd
theorem S27 : SumOK Tryd.prog gw 27 (grpSm [.agg, .agg, .c] d27) := grp_sum Tryd.func27 rfl C27
theorem t58 (v0 : Int) (v1 : Int) (s0 : Int) (s1 : Int) (c0 : Int) (c1 : Int) (x : Int) (y : Int) : runFn Tryd.prog 1 1 (lookS [s21, s86, s85, s76, s104]) 40 Tryd.f58 [.agg [.int .i64 v0, .int .i64 v1, .int .i64 s0, .int .i64 s1, .int .i64 c0, .int .i64 c1], .c (.int .i64 x), .c (.int .i64 y)] gb =
    T.br (M.first [M.checkWine { v0 := v0, v1 := v1, s0 := s0, s1 := s1, c0 := c0, c1 := c1 }, M.strengthErr x, M.strengthErr y, M.unl (decide (x > y)) (11 : Int)] != (0 : Int)) (T.ret (Value.tuple #[Value.agg #[Value.int IntKind.i64 (0 : Int), Value.int IntKind.i64 (0 : Int)], Value.int IntKind.i64 (M.first [M.checkWine { v0 := v0, v1 := v1, s0 := s0, s1 := s1, c0 := c0, c1 := c1 }, M.strengthErr x, M.strengthErr y, M.unl (decide (x > y)) (11 : Int)])])) (T.need (M.W (x - y) ≠ (0 : Int)) (T.need (M.W (x - y) ≠ (0 : Int)) (T.br (decide (M.need v1 s0 y x > (100000 : Int))) (T.ret (Value.tuple #[Value.agg #[Value.int IntKind.i64 (0 : Int), Value.int IntKind.i64 (0 : Int)], Value.int IntKind.i64 (8 : Int)])) (T.ret (Value.tuple #[Value.agg #[Value.int IntKind.i64 (M.need v0 s1 y x), Value.int IntKind.i64 (M.need v1 s0 y x)], Value.int IntKind.i64 (0 : Int)]))))) := by kernel_rfl
theorem C58 : GOK Tryd.prog gw 58 [.agg, .c, .c] d58 := by
  intro gs p v hd hp w xs hw hx
  unfold d58 at hd
  split at hd
  · cases hd
    refine grp_fin mixed gw_stable gw_glob (sl := [s21, s86, s85, s76, s104]) ⟨S21, S86, S85, S76, S104, trivial⟩ Tryd.func58 hw hx rfl rfl rfl rfl (t58 _ _ _ _ _ _ _ _) rfl ?_
    simp only [T.wp]
    repeat' (first | with_reducible assumption | decide | with_reducible exact L.spirit_ne (by with_reducible assumption) | refine ⟨?_, ?_⟩ | intro _)
    all_goals (try simp only [Bool.not_eq_true', Bool.not_eq_false'] at *)
    all_goals (first | rfl | (simp only [M.SpiritFor, M.spiritErr, M.Wine.v, M.Wine.s, M.Wine.c, M.Rate.w, M.Rate.al, M.wine0, M.rg0, M.rate0, cond_true, cond_false, decide_true, decide_false, *]; done) | (simp only [M.SpiritFor, M.spiritErr, M.Wine.v, M.Wine.s, M.Wine.c, M.Rate.w, M.Rate.al, M.wine0, M.rg0, M.rate0, cond_true, cond_false]; grind))
  · cases hd
theorem S58 : SumOK Tryd.prog gw 58 (grpSm [.agg, .c, .c] d58) := grp_sum Tryd.func58 rfl C58
end Go.Fl
end

section
namespace Go.Fl
open Go.Eng Go.RowKit Go.Proofs
set_option maxRecDepth 100000
set_option linter.unusedSimpArgs false
set_option linter.unusedVariables false
end Go.Fl
end

section
namespace Go.Fl
open Go.Eng Go.RowKit Go.Proofs
set_option maxRecDepth 100000
def sdT (f : Int → Int) (r : M.Rate) (k : Int) : Nat → Int → T Value
  | 0, d => .ret (.tuple #[.int .i64 d, .int .i64 0])
  | n + 1, d => .need ((M.left r.w (M.W (d + 1))).hi ≠ 0) (.need ((M.left r.w (M.W (d + 1))).lo ≠ 0)
      (.br (decide (f (M.W (d + 1)) ≥ k)) (sdT f r k n (M.W (d + 1))) (.ret (.tuple #[.int .i64 d, .int .i64 0]))))
theorem t39 (v0 v1 s0 s1 c0 c1 ra rb rc rd k : Int) : runFn Tryd.prog 1 1 (lookS [s21, s23, s86, s85, s76, s78]) 370 Tryd.f39 [.agg [.int .i64 v0, .int .i64 v1, .int .i64 s0, .int .i64 s1, .int .i64 c0, .int .i64 c1], .agg [.int .i64 ra, .int .i64 rb, .int .i64 rc, .int .i64 rd], .c (.int .i64 k)] gb =
  T.br (M.first [M.checkWine ⟨v0, v1, s0, s1, c0, c1⟩, M.checkRate ⟨ra, rb, rc, rd⟩, M.strengthErr k, M.unl (decide (s0 ≥ k)) 24] != 0)
    (T.ret (Value.tuple #[Value.int IntKind.i64 0, Value.int IntKind.i64 (M.first [M.checkWine ⟨v0, v1, s0, s1, c0, c1⟩, M.checkRate ⟨ra, rb, rc, rd⟩, M.strengthErr k, M.unl (decide (s0 ≥ k)) 24])]))
      (sdT (fun d => (M.after ⟨v0, v1, s0, s1, c0, c1⟩ ⟨ra, rb, rc, rd⟩ d).s0) ⟨ra, rb, rc, rd⟩ k 365 0) := by kernel_rfl
end Go.Fl
end

section
namespace Go.Fl
open Go.Eng Go.RowKit Go.Proofs
set_option maxRecDepth 100000
end Go.Fl
end

section
namespace Go.Fl
open Go.Eng Go.RowKit Go.Proofs
set_option maxRecDepth 100000
namespace M
def safe (f : Int → Int) (k : Int) : Nat → Int → Int
  | 0, d => d
  | n + 1, d => cond (decide (f (W (d + 1)) ≥ k)) (safe f k n (W (d + 1))) d
def safeErr (w : Wine) (r : Rate) (k : Int) : Int := first [checkWine w, checkRate r, strengthErr k, unl (decide (w.s0 ≥ k)) 24]
def SafeDays (w : Wine) (r : Rate) (k : Int) : Int × Int := cond (safeErr w r k != 0) (0, safeErr w r k) (safe (fun d => (after w r d).s0) k 365 0, 0)
end M
theorem sdT_wp (f : Int → Int) (r : M.Rate) (k : Int) (hr : L.OkR r) (Q : Value → Prop) : ∀ (n : Nat) (d : Int), 0 ≤ d → d + n ≤ 365 → Q (.tuple #[.int .i64 (M.safe f k n d), .int .i64 0]) → (sdT f r k n d).wp Q := by
  intro n
  induction n with
  | zero => intro d _ _ h; exact h
  | succ n ih =>
    intro d h0 h1 h
    have e : M.W (d + 1) = d + 1 := L.W_id (by omega) (by omega)
    have hl := L.task_left (d := M.W (d + 1)) hr (by rw [e]; omega)
    simp only [sdT, T.wp]
    refine ⟨hl.1, hl.2, ?_, ?_⟩
    · intro hb
      refine ih _ (by omega) (by omega) ?_
      simpa only [M.safe, hb, cond_true] using h
    · intro hb
      simpa only [M.safe, hb, cond_false] using h
def d39 : DomG
  | [[.int .i64 v0, .int .i64 v1, .int .i64 s0, .int .i64 s1, .int .i64 c0, .int .i64 c1], [.int .i64 ra, .int .i64 rb, .int .i64 rc, .int .i64 rd], [.int .i64 k]] => some ([], .tup [aI (M.SafeDays ⟨v0, v1, s0, s1, c0, c1⟩ ⟨ra, rb, rc, rd⟩ k).1, aI (M.SafeDays ⟨v0, v1, s0, s1, c0, c1⟩ ⟨ra, rb, rc, rd⟩ k).2])
  | _ => none
def s39 : Nat × Sm := (39, grpSm [.agg, .agg, .c] d39)
theorem C39 : GOK Tryd.prog gw 39 [.agg, .agg, .c] d39 := by
  intro gs p v hd hp w xs hw hx
  unfold d39 at hd
  split at hd
  · rename_i v0 v1 s0 s1 c0 c1 ra rb rc rd k
    cases hd
    refine grp_fin mixed gw_stable gw_glob (sl := [s21, s23, s86, s85, s76, s78]) ⟨S21, S23, S86, S85, S76, S78, trivial⟩ Tryd.func39 hw hx rfl rfl rfl rfl (t39 _ _ _ _ _ _ _ _ _ _ _) rfl ?_
    simp only [T.wp]
    refine ⟨?_, ?_⟩
    · intro h
      simp only [M.SafeDays, M.safeErr, h, cond_true]
    · intro h
      have h' := L.ne_false.1 h
      rw [L.first_nil] at h'
      refine sdT_wp _ _ _ (L.checkRate_zero.1 (h' _ (by simp))) _ _ _ (by decide) (by decide) ?_
      simp only [M.SafeDays, M.safeErr, h, cond_false]
  · cases hd
theorem S39 : SumOK Tryd.prog gw 39 (grpSm [.agg, .agg, .c] d39) := grp_sum Tryd.func39 rfl C39
end Go.Fl
end

section
set_option linter.unusedVariables false
set_option linter.unusedSimpArgs false
namespace Go.Fl
open Go.Eng
def d20 : DomG
  | [] => some ([], vB (true))
  | _ => none
def d3 : DomG
  | [[.int .i64 v0, .int .i64 v1, .int .i64 s0, .int .i64 s1, .int .i64 c0, .int .i64 c1], [.int .i64 ra, .int .i64 rb, .int .i64 rc, .int .i64 rd], [.int .i64 xa, .int .i64 xb, .int .i64 xc, .int .i64 xd]] => some ([], vB (true))
  | _ => none
end Go.Fl
end

section
set_option linter.unusedVariables false
set_option linter.unusedSimpArgs false
namespace Go.Fl.L
open Go.Fl.M
end Go.Fl.L
end

section
namespace Go.Fl
open Go.Eng Go.RowKit Go.Proofs
set_option maxRecDepth 100000
set_option linter.unusedSimpArgs false
set_option linter.unusedVariables false
theorem br_true {Q : Value → Prop} {b : Bool} {t e : T Value} (hb : b = true) (h : t.wp Q) : (T.br b t e).wp Q :=
  ⟨fun _ => h, fun h' => by rw [hb] at h'; cases h'⟩
theorem need_ok {Q : Value → Prop} {p : Prop} {t : T Value} (hb : p) (h : t.wp Q) : (T.need p t).wp Q := ⟨hb, h⟩
theorem ret_ok {x y : Value} (h : x = y) : (T.ret x).wp (fun z => z = y) := h
theorem t20 : runFn Tryd.prog 1 1 (lookS [s70, s71, s56, s27, s39, s58]) 40 Tryd.f20 [] gb =
    T.br ((0 : Int) == (0 : Int))
  (T.br
    (M.Wine.v0 (M.after { v0 := M.Wine.v0 { v0 := (1000 : Int), v1 := (1000 : Int), s0 := (1500 : Int), s1 := (1600 : Int), c0 := (200 : Int), c1 := (200 : Int) }, v1 := M.Wine.v1 { v0 := (1000 : Int), v1 := (1000 : Int), s0 := (1500 : Int), s1 := (1600 : Int), c0 := (200 : Int), c1 := (200 : Int) }, s0 := M.Wine.s0 { v0 := (1000 : Int), v1 := (1000 : Int), s0 := (1500 : Int), s1 := (1600 : Int), c0 := (200 : Int), c1 := (200 : Int) }, s1 := M.Wine.s1 { v0 := (1000 : Int), v1 := (1000 : Int), s0 := (1500 : Int), s1 := (1600 : Int), c0 := (200 : Int), c1 := (200 : Int) }, c0 := M.Wine.c0 { v0 := (1000 : Int), v1 := (1000 : Int), s0 := (1500 : Int), s1 := (1600 : Int), c0 := (200 : Int), c1 := (200 : Int) }, c1 := M.Wine.c1 { v0 := (1000 : Int), v1 := (1000 : Int), s0 := (1500 : Int), s1 := (1600 : Int), c0 := (200 : Int), c1 := (200 : Int) } } { a := M.Rate.a { a := (100 : Int), b := (200 : Int), c := (200 : Int), d := (300 : Int) }, b := M.Rate.b { a := (100 : Int), b := (200 : Int), c := (200 : Int), d := (300 : Int) }, c := M.Rate.c { a := (100 : Int), b := (200 : Int), c := (200 : Int), d := (300 : Int) }, d := M.Rate.d { a := (100 : Int), b := (200 : Int), c := (200 : Int), d := (300 : Int) } } (100 : Int)) == (980 : Int) && (M.Wine.v1 (M.after { v0 := M.Wine.v0 { v0 := (1000 : Int), v1 := (1000 : Int), s0 := (1500 : Int), s1 := (1600 : Int), c0 := (200 : Int), c1 := (200 : Int) }, v1 := M.Wine.v1 { v0 := (1000 : Int), v1 := (1000 : Int), s0 := (1500 : Int), s1 := (1600 : Int), c0 := (200 : Int), c1 := (200 : Int) }, s0 := M.Wine.s0 { v0 := (1000 : Int), v1 := (1000 : Int), s0 := (1500 : Int), s1 := (1600 : Int), c0 := (200 : Int), c1 := (200 : Int) }, s1 := M.Wine.s1 { v0 := (1000 : Int), v1 := (1000 : Int), s0 := (1500 : Int), s1 := (1600 : Int), c0 := (200 : Int), c1 := (200 : Int) }, c0 := M.Wine.c0 { v0 := (1000 : Int), v1 := (1000 : Int), s0 := (1500 : Int), s1 := (1600 : Int), c0 := (200 : Int), c1 := (200 : Int) }, c1 := M.Wine.c1 { v0 := (1000 : Int), v1 := (1000 : Int), s0 := (1500 : Int), s1 := (1600 : Int), c0 := (200 : Int), c1 := (200 : Int) } } { a := M.Rate.a { a := (100 : Int), b := (200 : Int), c := (200 : Int), d := (300 : Int) }, b := M.Rate.b { a := (100 : Int), b := (200 : Int), c := (200 : Int), d := (300 : Int) }, c := M.Rate.c { a := (100 : Int), b := (200 : Int), c := (200 : Int), d := (300 : Int) }, d := M.Rate.d { a := (100 : Int), b := (200 : Int), c := (200 : Int), d := (300 : Int) } } (100 : Int)) == (990 : Int) && true) &&
      (M.Wine.s0 (M.after { v0 := M.Wine.v0 { v0 := (1000 : Int), v1 := (1000 : Int), s0 := (1500 : Int), s1 := (1600 : Int), c0 := (200 : Int), c1 := (200 : Int) }, v1 := M.Wine.v1 { v0 := (1000 : Int), v1 := (1000 : Int), s0 := (1500 : Int), s1 := (1600 : Int), c0 := (200 : Int), c1 := (200 : Int) }, s0 := M.Wine.s0 { v0 := (1000 : Int), v1 := (1000 : Int), s0 := (1500 : Int), s1 := (1600 : Int), c0 := (200 : Int), c1 := (200 : Int) }, s1 := M.Wine.s1 { v0 := (1000 : Int), v1 := (1000 : Int), s0 := (1500 : Int), s1 := (1600 : Int), c0 := (200 : Int), c1 := (200 : Int) }, c0 := M.Wine.c0 { v0 := (1000 : Int), v1 := (1000 : Int), s0 := (1500 : Int), s1 := (1600 : Int), c0 := (200 : Int), c1 := (200 : Int) }, c1 := M.Wine.c1 { v0 := (1000 : Int), v1 := (1000 : Int), s0 := (1500 : Int), s1 := (1600 : Int), c0 := (200 : Int), c1 := (200 : Int) } } { a := M.Rate.a { a := (100 : Int), b := (200 : Int), c := (200 : Int), d := (300 : Int) }, b := M.Rate.b { a := (100 : Int), b := (200 : Int), c := (200 : Int), d := (300 : Int) }, c := M.Rate.c { a := (100 : Int), b := (200 : Int), c := (200 : Int), d := (300 : Int) }, d := M.Rate.d { a := (100 : Int), b := (200 : Int), c := (200 : Int), d := (300 : Int) } } (100 : Int)) == (1469 : Int) && (M.Wine.s1 (M.after { v0 := M.Wine.v0 { v0 := (1000 : Int), v1 := (1000 : Int), s0 := (1500 : Int), s1 := (1600 : Int), c0 := (200 : Int), c1 := (200 : Int) }, v1 := M.Wine.v1 { v0 := (1000 : Int), v1 := (1000 : Int), s0 := (1500 : Int), s1 := (1600 : Int), c0 := (200 : Int), c1 := (200 : Int) }, s0 := M.Wine.s0 { v0 := (1000 : Int), v1 := (1000 : Int), s0 := (1500 : Int), s1 := (1600 : Int), c0 := (200 : Int), c1 := (200 : Int) }, s1 := M.Wine.s1 { v0 := (1000 : Int), v1 := (1000 : Int), s0 := (1500 : Int), s1 := (1600 : Int), c0 := (200 : Int), c1 := (200 : Int) }, c0 := M.Wine.c0 { v0 := (1000 : Int), v1 := (1000 : Int), s0 := (1500 : Int), s1 := (1600 : Int), c0 := (200 : Int), c1 := (200 : Int) }, c1 := M.Wine.c1 { v0 := (1000 : Int), v1 := (1000 : Int), s0 := (1500 : Int), s1 := (1600 : Int), c0 := (200 : Int), c1 := (200 : Int) } } { a := M.Rate.a { a := (100 : Int), b := (200 : Int), c := (200 : Int), d := (300 : Int) }, b := M.Rate.b { a := (100 : Int), b := (200 : Int), c := (200 : Int), d := (300 : Int) }, c := M.Rate.c { a := (100 : Int), b := (200 : Int), c := (200 : Int), d := (300 : Int) }, d := M.Rate.d { a := (100 : Int), b := (200 : Int), c := (200 : Int), d := (300 : Int) } } (100 : Int)) == (1600 : Int) && true) &&
        (M.Wine.c0 (M.after { v0 := M.Wine.v0 { v0 := (1000 : Int), v1 := (1000 : Int), s0 := (1500 : Int), s1 := (1600 : Int), c0 := (200 : Int), c1 := (200 : Int) }, v1 := M.Wine.v1 { v0 := (1000 : Int), v1 := (1000 : Int), s0 := (1500 : Int), s1 := (1600 : Int), c0 := (200 : Int), c1 := (200 : Int) }, s0 := M.Wine.s0 { v0 := (1000 : Int), v1 := (1000 : Int), s0 := (1500 : Int), s1 := (1600 : Int), c0 := (200 : Int), c1 := (200 : Int) }, s1 := M.Wine.s1 { v0 := (1000 : Int), v1 := (1000 : Int), s0 := (1500 : Int), s1 := (1600 : Int), c0 := (200 : Int), c1 := (200 : Int) }, c0 := M.Wine.c0 { v0 := (1000 : Int), v1 := (1000 : Int), s0 := (1500 : Int), s1 := (1600 : Int), c0 := (200 : Int), c1 := (200 : Int) }, c1 := M.Wine.c1 { v0 := (1000 : Int), v1 := (1000 : Int), s0 := (1500 : Int), s1 := (1600 : Int), c0 := (200 : Int), c1 := (200 : Int) } } { a := M.Rate.a { a := (100 : Int), b := (200 : Int), c := (200 : Int), d := (300 : Int) }, b := M.Rate.b { a := (100 : Int), b := (200 : Int), c := (200 : Int), d := (300 : Int) }, c := M.Rate.c { a := (100 : Int), b := (200 : Int), c := (200 : Int), d := (300 : Int) }, d := M.Rate.d { a := (100 : Int), b := (200 : Int), c := (200 : Int), d := (300 : Int) } } (100 : Int)) == (202 : Int) && (M.Wine.c1 (M.after { v0 := M.Wine.v0 { v0 := (1000 : Int), v1 := (1000 : Int), s0 := (1500 : Int), s1 := (1600 : Int), c0 := (200 : Int), c1 := (200 : Int) }, v1 := M.Wine.v1 { v0 := (1000 : Int), v1 := (1000 : Int), s0 := (1500 : Int), s1 := (1600 : Int), c0 := (200 : Int), c1 := (200 : Int) }, s0 := M.Wine.s0 { v0 := (1000 : Int), v1 := (1000 : Int), s0 := (1500 : Int), s1 := (1600 : Int), c0 := (200 : Int), c1 := (200 : Int) }, s1 := M.Wine.s1 { v0 := (1000 : Int), v1 := (1000 : Int), s0 := (1500 : Int), s1 := (1600 : Int), c0 := (200 : Int), c1 := (200 : Int) }, c0 := M.Wine.c0 { v0 := (1000 : Int), v1 := (1000 : Int), s0 := (1500 : Int), s1 := (1600 : Int), c0 := (200 : Int), c1 := (200 : Int) }, c1 := M.Wine.c1 { v0 := (1000 : Int), v1 := (1000 : Int), s0 := (1500 : Int), s1 := (1600 : Int), c0 := (200 : Int), c1 := (200 : Int) } } { a := M.Rate.a { a := (100 : Int), b := (200 : Int), c := (200 : Int), d := (300 : Int) }, b := M.Rate.b { a := (100 : Int), b := (200 : Int), c := (200 : Int), d := (300 : Int) }, c := M.Rate.c { a := (100 : Int), b := (200 : Int), c := (200 : Int), d := (300 : Int) }, d := M.Rate.d { a := (100 : Int), b := (200 : Int), c := (200 : Int), d := (300 : Int) } } (100 : Int)) == (205 : Int) && true) && true)))
    (T.br ((0 : Int) == (0 : Int))
      (T.br (M.safe (fun d => M.Wine.s0 (M.after { v0 := M.Wine.v0 { v0 := (1000 : Int), v1 := (1000 : Int), s0 := (1500 : Int), s1 := (1600 : Int), c0 := (200 : Int), c1 := (200 : Int) }, v1 := M.Wine.v1 { v0 := (1000 : Int), v1 := (1000 : Int), s0 := (1500 : Int), s1 := (1600 : Int), c0 := (200 : Int), c1 := (200 : Int) }, s0 := M.Wine.s0 { v0 := (1000 : Int), v1 := (1000 : Int), s0 := (1500 : Int), s1 := (1600 : Int), c0 := (200 : Int), c1 := (200 : Int) }, s1 := M.Wine.s1 { v0 := (1000 : Int), v1 := (1000 : Int), s0 := (1500 : Int), s1 := (1600 : Int), c0 := (200 : Int), c1 := (200 : Int) }, c0 := M.Wine.c0 { v0 := (1000 : Int), v1 := (1000 : Int), s0 := (1500 : Int), s1 := (1600 : Int), c0 := (200 : Int), c1 := (200 : Int) }, c1 := M.Wine.c1 { v0 := (1000 : Int), v1 := (1000 : Int), s0 := (1500 : Int), s1 := (1600 : Int), c0 := (200 : Int), c1 := (200 : Int) } } { a := M.Rate.a { a := (100 : Int), b := (200 : Int), c := (200 : Int), d := (300 : Int) }, b := M.Rate.b { a := (100 : Int), b := (200 : Int), c := (200 : Int), d := (300 : Int) }, c := M.Rate.c { a := (100 : Int), b := (200 : Int), c := (200 : Int), d := (300 : Int) }, d := M.Rate.d { a := (100 : Int), b := (200 : Int), c := (200 : Int), d := (300 : Int) } } d)) (1490 : Int) (365 : Nat) (0 : Int) == (33 : Int))
        (T.br ((0 : Int) == (0 : Int))
          (T.need (((0 : Int) == (0 : Int)) = true)
            (T.need
              ((M.Wine.v0 (M.after { v0 := M.Wine.v0 { v0 := (1000 : Int), v1 := (1000 : Int), s0 := (1500 : Int), s1 := (1600 : Int), c0 := (200 : Int), c1 := (200 : Int) }, v1 := M.Wine.v1 { v0 := (1000 : Int), v1 := (1000 : Int), s0 := (1500 : Int), s1 := (1600 : Int), c0 := (200 : Int), c1 := (200 : Int) }, s0 := M.Wine.s0 { v0 := (1000 : Int), v1 := (1000 : Int), s0 := (1500 : Int), s1 := (1600 : Int), c0 := (200 : Int), c1 := (200 : Int) }, s1 := M.Wine.s1 { v0 := (1000 : Int), v1 := (1000 : Int), s0 := (1500 : Int), s1 := (1600 : Int), c0 := (200 : Int), c1 := (200 : Int) }, c0 := M.Wine.c0 { v0 := (1000 : Int), v1 := (1000 : Int), s0 := (1500 : Int), s1 := (1600 : Int), c0 := (200 : Int), c1 := (200 : Int) }, c1 := M.Wine.c1 { v0 := (1000 : Int), v1 := (1000 : Int), s0 := (1500 : Int), s1 := (1600 : Int), c0 := (200 : Int), c1 := (200 : Int) } } { a := M.Rate.a { a := (100 : Int), b := (200 : Int), c := (200 : Int), d := (300 : Int) }, b := M.Rate.b { a := (100 : Int), b := (200 : Int), c := (200 : Int), d := (300 : Int) }, c := M.Rate.c { a := (100 : Int), b := (200 : Int), c := (200 : Int), d := (300 : Int) }, d := M.Rate.d { a := (100 : Int), b := (200 : Int), c := (200 : Int), d := (300 : Int) } } (100 : Int)) == (980 : Int) && (M.Wine.v1 (M.after { v0 := M.Wine.v0 { v0 := (1000 : Int), v1 := (1000 : Int), s0 := (1500 : Int), s1 := (1600 : Int), c0 := (200 : Int), c1 := (200 : Int) }, v1 := M.Wine.v1 { v0 := (1000 : Int), v1 := (1000 : Int), s0 := (1500 : Int), s1 := (1600 : Int), c0 := (200 : Int), c1 := (200 : Int) }, s0 := M.Wine.s0 { v0 := (1000 : Int), v1 := (1000 : Int), s0 := (1500 : Int), s1 := (1600 : Int), c0 := (200 : Int), c1 := (200 : Int) }, s1 := M.Wine.s1 { v0 := (1000 : Int), v1 := (1000 : Int), s0 := (1500 : Int), s1 := (1600 : Int), c0 := (200 : Int), c1 := (200 : Int) }, c0 := M.Wine.c0 { v0 := (1000 : Int), v1 := (1000 : Int), s0 := (1500 : Int), s1 := (1600 : Int), c0 := (200 : Int), c1 := (200 : Int) }, c1 := M.Wine.c1 { v0 := (1000 : Int), v1 := (1000 : Int), s0 := (1500 : Int), s1 := (1600 : Int), c0 := (200 : Int), c1 := (200 : Int) } } { a := M.Rate.a { a := (100 : Int), b := (200 : Int), c := (200 : Int), d := (300 : Int) }, b := M.Rate.b { a := (100 : Int), b := (200 : Int), c := (200 : Int), d := (300 : Int) }, c := M.Rate.c { a := (100 : Int), b := (200 : Int), c := (200 : Int), d := (300 : Int) }, d := M.Rate.d { a := (100 : Int), b := (200 : Int), c := (200 : Int), d := (300 : Int) } } (100 : Int)) == (990 : Int) && true) &&
                  (M.Wine.s0 (M.after { v0 := M.Wine.v0 { v0 := (1000 : Int), v1 := (1000 : Int), s0 := (1500 : Int), s1 := (1600 : Int), c0 := (200 : Int), c1 := (200 : Int) }, v1 := M.Wine.v1 { v0 := (1000 : Int), v1 := (1000 : Int), s0 := (1500 : Int), s1 := (1600 : Int), c0 := (200 : Int), c1 := (200 : Int) }, s0 := M.Wine.s0 { v0 := (1000 : Int), v1 := (1000 : Int), s0 := (1500 : Int), s1 := (1600 : Int), c0 := (200 : Int), c1 := (200 : Int) }, s1 := M.Wine.s1 { v0 := (1000 : Int), v1 := (1000 : Int), s0 := (1500 : Int), s1 := (1600 : Int), c0 := (200 : Int), c1 := (200 : Int) }, c0 := M.Wine.c0 { v0 := (1000 : Int), v1 := (1000 : Int), s0 := (1500 : Int), s1 := (1600 : Int), c0 := (200 : Int), c1 := (200 : Int) }, c1 := M.Wine.c1 { v0 := (1000 : Int), v1 := (1000 : Int), s0 := (1500 : Int), s1 := (1600 : Int), c0 := (200 : Int), c1 := (200 : Int) } } { a := M.Rate.a { a := (100 : Int), b := (200 : Int), c := (200 : Int), d := (300 : Int) }, b := M.Rate.b { a := (100 : Int), b := (200 : Int), c := (200 : Int), d := (300 : Int) }, c := M.Rate.c { a := (100 : Int), b := (200 : Int), c := (200 : Int), d := (300 : Int) }, d := M.Rate.d { a := (100 : Int), b := (200 : Int), c := (200 : Int), d := (300 : Int) } } (100 : Int)) == (1469 : Int) && (M.Wine.s1 (M.after { v0 := M.Wine.v0 { v0 := (1000 : Int), v1 := (1000 : Int), s0 := (1500 : Int), s1 := (1600 : Int), c0 := (200 : Int), c1 := (200 : Int) }, v1 := M.Wine.v1 { v0 := (1000 : Int), v1 := (1000 : Int), s0 := (1500 : Int), s1 := (1600 : Int), c0 := (200 : Int), c1 := (200 : Int) }, s0 := M.Wine.s0 { v0 := (1000 : Int), v1 := (1000 : Int), s0 := (1500 : Int), s1 := (1600 : Int), c0 := (200 : Int), c1 := (200 : Int) }, s1 := M.Wine.s1 { v0 := (1000 : Int), v1 := (1000 : Int), s0 := (1500 : Int), s1 := (1600 : Int), c0 := (200 : Int), c1 := (200 : Int) }, c0 := M.Wine.c0 { v0 := (1000 : Int), v1 := (1000 : Int), s0 := (1500 : Int), s1 := (1600 : Int), c0 := (200 : Int), c1 := (200 : Int) }, c1 := M.Wine.c1 { v0 := (1000 : Int), v1 := (1000 : Int), s0 := (1500 : Int), s1 := (1600 : Int), c0 := (200 : Int), c1 := (200 : Int) } } { a := M.Rate.a { a := (100 : Int), b := (200 : Int), c := (200 : Int), d := (300 : Int) }, b := M.Rate.b { a := (100 : Int), b := (200 : Int), c := (200 : Int), d := (300 : Int) }, c := M.Rate.c { a := (100 : Int), b := (200 : Int), c := (200 : Int), d := (300 : Int) }, d := M.Rate.d { a := (100 : Int), b := (200 : Int), c := (200 : Int), d := (300 : Int) } } (100 : Int)) == (1600 : Int) && true) &&
                    (M.Wine.c0 (M.after { v0 := M.Wine.v0 { v0 := (1000 : Int), v1 := (1000 : Int), s0 := (1500 : Int), s1 := (1600 : Int), c0 := (200 : Int), c1 := (200 : Int) }, v1 := M.Wine.v1 { v0 := (1000 : Int), v1 := (1000 : Int), s0 := (1500 : Int), s1 := (1600 : Int), c0 := (200 : Int), c1 := (200 : Int) }, s0 := M.Wine.s0 { v0 := (1000 : Int), v1 := (1000 : Int), s0 := (1500 : Int), s1 := (1600 : Int), c0 := (200 : Int), c1 := (200 : Int) }, s1 := M.Wine.s1 { v0 := (1000 : Int), v1 := (1000 : Int), s0 := (1500 : Int), s1 := (1600 : Int), c0 := (200 : Int), c1 := (200 : Int) }, c0 := M.Wine.c0 { v0 := (1000 : Int), v1 := (1000 : Int), s0 := (1500 : Int), s1 := (1600 : Int), c0 := (200 : Int), c1 := (200 : Int) }, c1 := M.Wine.c1 { v0 := (1000 : Int), v1 := (1000 : Int), s0 := (1500 : Int), s1 := (1600 : Int), c0 := (200 : Int), c1 := (200 : Int) } } { a := M.Rate.a { a := (100 : Int), b := (200 : Int), c := (200 : Int), d := (300 : Int) }, b := M.Rate.b { a := (100 : Int), b := (200 : Int), c := (200 : Int), d := (300 : Int) }, c := M.Rate.c { a := (100 : Int), b := (200 : Int), c := (200 : Int), d := (300 : Int) }, d := M.Rate.d { a := (100 : Int), b := (200 : Int), c := (200 : Int), d := (300 : Int) } } (100 : Int)) == (202 : Int) && (M.Wine.c1 (M.after { v0 := M.Wine.v0 { v0 := (1000 : Int), v1 := (1000 : Int), s0 := (1500 : Int), s1 := (1600 : Int), c0 := (200 : Int), c1 := (200 : Int) }, v1 := M.Wine.v1 { v0 := (1000 : Int), v1 := (1000 : Int), s0 := (1500 : Int), s1 := (1600 : Int), c0 := (200 : Int), c1 := (200 : Int) }, s0 := M.Wine.s0 { v0 := (1000 : Int), v1 := (1000 : Int), s0 := (1500 : Int), s1 := (1600 : Int), c0 := (200 : Int), c1 := (200 : Int) }, s1 := M.Wine.s1 { v0 := (1000 : Int), v1 := (1000 : Int), s0 := (1500 : Int), s1 := (1600 : Int), c0 := (200 : Int), c1 := (200 : Int) }, c0 := M.Wine.c0 { v0 := (1000 : Int), v1 := (1000 : Int), s0 := (1500 : Int), s1 := (1600 : Int), c0 := (200 : Int), c1 := (200 : Int) }, c1 := M.Wine.c1 { v0 := (1000 : Int), v1 := (1000 : Int), s0 := (1500 : Int), s1 := (1600 : Int), c0 := (200 : Int), c1 := (200 : Int) } } { a := M.Rate.a { a := (100 : Int), b := (200 : Int), c := (200 : Int), d := (300 : Int) }, b := M.Rate.b { a := (100 : Int), b := (200 : Int), c := (200 : Int), d := (300 : Int) }, c := M.Rate.c { a := (100 : Int), b := (200 : Int), c := (200 : Int), d := (300 : Int) }, d := M.Rate.d { a := (100 : Int), b := (200 : Int), c := (200 : Int), d := (300 : Int) } } (100 : Int)) == (205 : Int) && true) && true))) =
                true)
              (T.need (((0 : Int) == (0 : Int)) = true)
                (T.need ((M.safe (fun d => M.Wine.s0 (M.after { v0 := M.Wine.v0 { v0 := (1000 : Int), v1 := (1000 : Int), s0 := (1500 : Int), s1 := (1600 : Int), c0 := (200 : Int), c1 := (200 : Int) }, v1 := M.Wine.v1 { v0 := (1000 : Int), v1 := (1000 : Int), s0 := (1500 : Int), s1 := (1600 : Int), c0 := (200 : Int), c1 := (200 : Int) }, s0 := M.Wine.s0 { v0 := (1000 : Int), v1 := (1000 : Int), s0 := (1500 : Int), s1 := (1600 : Int), c0 := (200 : Int), c1 := (200 : Int) }, s1 := M.Wine.s1 { v0 := (1000 : Int), v1 := (1000 : Int), s0 := (1500 : Int), s1 := (1600 : Int), c0 := (200 : Int), c1 := (200 : Int) }, c0 := M.Wine.c0 { v0 := (1000 : Int), v1 := (1000 : Int), s0 := (1500 : Int), s1 := (1600 : Int), c0 := (200 : Int), c1 := (200 : Int) }, c1 := M.Wine.c1 { v0 := (1000 : Int), v1 := (1000 : Int), s0 := (1500 : Int), s1 := (1600 : Int), c0 := (200 : Int), c1 := (200 : Int) } } { a := M.Rate.a { a := (100 : Int), b := (200 : Int), c := (200 : Int), d := (300 : Int) }, b := M.Rate.b { a := (100 : Int), b := (200 : Int), c := (200 : Int), d := (300 : Int) }, c := M.Rate.c { a := (100 : Int), b := (200 : Int), c := (200 : Int), d := (300 : Int) }, d := M.Rate.d { a := (100 : Int), b := (200 : Int), c := (200 : Int), d := (300 : Int) } } d)) (1490 : Int) (365 : Nat) (0 : Int) == (33 : Int)) = true)
                  (T.need (((0 : Int) == (0 : Int)) = true) (T.ret (Value.bool (M.Rg.lo { lo := M.need (M.Wine.v0 { v0 := M.Rg.lo { lo := (900 : Int), hi := (900 : Int) }, v1 := M.Rg.hi { lo := (900 : Int), hi := (900 : Int) }, s0 := M.Rg.lo { lo := (1500 : Int), hi := (1500 : Int) }, s1 := M.Rg.hi { lo := (1500 : Int), hi := (1500 : Int) }, c0 := (0 : Int), c1 := (0 : Int) }) (M.Wine.s1 { v0 := M.Rg.lo { lo := (900 : Int), hi := (900 : Int) }, v1 := M.Rg.hi { lo := (900 : Int), hi := (900 : Int) }, s0 := M.Rg.lo { lo := (1500 : Int), hi := (1500 : Int) }, s1 := M.Rg.hi { lo := (1500 : Int), hi := (1500 : Int) }, c0 := (0 : Int), c1 := (0 : Int) }) (1700 : Int) (9500 : Int), hi := M.need (M.Wine.v1 { v0 := M.Rg.lo { lo := (900 : Int), hi := (900 : Int) }, v1 := M.Rg.hi { lo := (900 : Int), hi := (900 : Int) }, s0 := M.Rg.lo { lo := (1500 : Int), hi := (1500 : Int) }, s1 := M.Rg.hi { lo := (1500 : Int), hi := (1500 : Int) }, c0 := (0 : Int), c1 := (0 : Int) }) (M.Wine.s0 { v0 := M.Rg.lo { lo := (900 : Int), hi := (900 : Int) }, v1 := M.Rg.hi { lo := (900 : Int), hi := (900 : Int) }, s0 := M.Rg.lo { lo := (1500 : Int), hi := (1500 : Int) }, s1 := M.Rg.hi { lo := (1500 : Int), hi := (1500 : Int) }, c0 := (0 : Int), c1 := (0 : Int) }) (1700 : Int) (9500 : Int) } == M.Rg.lo { lo := (24 : Int), hi := (24 : Int) } && (M.Rg.hi { lo := M.need (M.Wine.v0 { v0 := M.Rg.lo { lo := (900 : Int), hi := (900 : Int) }, v1 := M.Rg.hi { lo := (900 : Int), hi := (900 : Int) }, s0 := M.Rg.lo { lo := (1500 : Int), hi := (1500 : Int) }, s1 := M.Rg.hi { lo := (1500 : Int), hi := (1500 : Int) }, c0 := (0 : Int), c1 := (0 : Int) }) (M.Wine.s1 { v0 := M.Rg.lo { lo := (900 : Int), hi := (900 : Int) }, v1 := M.Rg.hi { lo := (900 : Int), hi := (900 : Int) }, s0 := M.Rg.lo { lo := (1500 : Int), hi := (1500 : Int) }, s1 := M.Rg.hi { lo := (1500 : Int), hi := (1500 : Int) }, c0 := (0 : Int), c1 := (0 : Int) }) (1700 : Int) (9500 : Int), hi := M.need (M.Wine.v1 { v0 := M.Rg.lo { lo := (900 : Int), hi := (900 : Int) }, v1 := M.Rg.hi { lo := (900 : Int), hi := (900 : Int) }, s0 := M.Rg.lo { lo := (1500 : Int), hi := (1500 : Int) }, s1 := M.Rg.hi { lo := (1500 : Int), hi := (1500 : Int) }, c0 := (0 : Int), c1 := (0 : Int) }) (M.Wine.s0 { v0 := M.Rg.lo { lo := (900 : Int), hi := (900 : Int) }, v1 := M.Rg.hi { lo := (900 : Int), hi := (900 : Int) }, s0 := M.Rg.lo { lo := (1500 : Int), hi := (1500 : Int) }, s1 := M.Rg.hi { lo := (1500 : Int), hi := (1500 : Int) }, c0 := (0 : Int), c1 := (0 : Int) }) (1700 : Int) (9500 : Int) } == M.Rg.hi { lo := (24 : Int), hi := (24 : Int) } && true)))))))))
          (T.need (((0 : Int) == (0 : Int)) = true)
            (T.need
              ((M.Wine.v0 (M.after { v0 := M.Wine.v0 { v0 := (1000 : Int), v1 := (1000 : Int), s0 := (1500 : Int), s1 := (1600 : Int), c0 := (200 : Int), c1 := (200 : Int) }, v1 := M.Wine.v1 { v0 := (1000 : Int), v1 := (1000 : Int), s0 := (1500 : Int), s1 := (1600 : Int), c0 := (200 : Int), c1 := (200 : Int) }, s0 := M.Wine.s0 { v0 := (1000 : Int), v1 := (1000 : Int), s0 := (1500 : Int), s1 := (1600 : Int), c0 := (200 : Int), c1 := (200 : Int) }, s1 := M.Wine.s1 { v0 := (1000 : Int), v1 := (1000 : Int), s0 := (1500 : Int), s1 := (1600 : Int), c0 := (200 : Int), c1 := (200 : Int) }, c0 := M.Wine.c0 { v0 := (1000 : Int), v1 := (1000 : Int), s0 := (1500 : Int), s1 := (1600 : Int), c0 := (200 : Int), c1 := (200 : Int) }, c1 := M.Wine.c1 { v0 := (1000 : Int), v1 := (1000 : Int), s0 := (1500 : Int), s1 := (1600 : Int), c0 := (200 : Int), c1 := (200 : Int) } } { a := M.Rate.a { a := (100 : Int), b := (200 : Int), c := (200 : Int), d := (300 : Int) }, b := M.Rate.b { a := (100 : Int), b := (200 : Int), c := (200 : Int), d := (300 : Int) }, c := M.Rate.c { a := (100 : Int), b := (200 : Int), c := (200 : Int), d := (300 : Int) }, d := M.Rate.d { a := (100 : Int), b := (200 : Int), c := (200 : Int), d := (300 : Int) } } (100 : Int)) == (980 : Int) && (M.Wine.v1 (M.after { v0 := M.Wine.v0 { v0 := (1000 : Int), v1 := (1000 : Int), s0 := (1500 : Int), s1 := (1600 : Int), c0 := (200 : Int), c1 := (200 : Int) }, v1 := M.Wine.v1 { v0 := (1000 : Int), v1 := (1000 : Int), s0 := (1500 : Int), s1 := (1600 : Int), c0 := (200 : Int), c1 := (200 : Int) }, s0 := M.Wine.s0 { v0 := (1000 : Int), v1 := (1000 : Int), s0 := (1500 : Int), s1 := (1600 : Int), c0 := (200 : Int), c1 := (200 : Int) }, s1 := M.Wine.s1 { v0 := (1000 : Int), v1 := (1000 : Int), s0 := (1500 : Int), s1 := (1600 : Int), c0 := (200 : Int), c1 := (200 : Int) }, c0 := M.Wine.c0 { v0 := (1000 : Int), v1 := (1000 : Int), s0 := (1500 : Int), s1 := (1600 : Int), c0 := (200 : Int), c1 := (200 : Int) }, c1 := M.Wine.c1 { v0 := (1000 : Int), v1 := (1000 : Int), s0 := (1500 : Int), s1 := (1600 : Int), c0 := (200 : Int), c1 := (200 : Int) } } { a := M.Rate.a { a := (100 : Int), b := (200 : Int), c := (200 : Int), d := (300 : Int) }, b := M.Rate.b { a := (100 : Int), b := (200 : Int), c := (200 : Int), d := (300 : Int) }, c := M.Rate.c { a := (100 : Int), b := (200 : Int), c := (200 : Int), d := (300 : Int) }, d := M.Rate.d { a := (100 : Int), b := (200 : Int), c := (200 : Int), d := (300 : Int) } } (100 : Int)) == (990 : Int) && true) &&
                  (M.Wine.s0 (M.after { v0 := M.Wine.v0 { v0 := (1000 : Int), v1 := (1000 : Int), s0 := (1500 : Int), s1 := (1600 : Int), c0 := (200 : Int), c1 := (200 : Int) }, v1 := M.Wine.v1 { v0 := (1000 : Int), v1 := (1000 : Int), s0 := (1500 : Int), s1 := (1600 : Int), c0 := (200 : Int), c1 := (200 : Int) }, s0 := M.Wine.s0 { v0 := (1000 : Int), v1 := (1000 : Int), s0 := (1500 : Int), s1 := (1600 : Int), c0 := (200 : Int), c1 := (200 : Int) }, s1 := M.Wine.s1 { v0 := (1000 : Int), v1 := (1000 : Int), s0 := (1500 : Int), s1 := (1600 : Int), c0 := (200 : Int), c1 := (200 : Int) }, c0 := M.Wine.c0 { v0 := (1000 : Int), v1 := (1000 : Int), s0 := (1500 : Int), s1 := (1600 : Int), c0 := (200 : Int), c1 := (200 : Int) }, c1 := M.Wine.c1 { v0 := (1000 : Int), v1 := (1000 : Int), s0 := (1500 : Int), s1 := (1600 : Int), c0 := (200 : Int), c1 := (200 : Int) } } { a := M.Rate.a { a := (100 : Int), b := (200 : Int), c := (200 : Int), d := (300 : Int) }, b := M.Rate.b { a := (100 : Int), b := (200 : Int), c := (200 : Int), d := (300 : Int) }, c := M.Rate.c { a := (100 : Int), b := (200 : Int), c := (200 : Int), d := (300 : Int) }, d := M.Rate.d { a := (100 : Int), b := (200 : Int), c := (200 : Int), d := (300 : Int) } } (100 : Int)) == (1469 : Int) && (M.Wine.s1 (M.after { v0 := M.Wine.v0 { v0 := (1000 : Int), v1 := (1000 : Int), s0 := (1500 : Int), s1 := (1600 : Int), c0 := (200 : Int), c1 := (200 : Int) }, v1 := M.Wine.v1 { v0 := (1000 : Int), v1 := (1000 : Int), s0 := (1500 : Int), s1 := (1600 : Int), c0 := (200 : Int), c1 := (200 : Int) }, s0 := M.Wine.s0 { v0 := (1000 : Int), v1 := (1000 : Int), s0 := (1500 : Int), s1 := (1600 : Int), c0 := (200 : Int), c1 := (200 : Int) }, s1 := M.Wine.s1 { v0 := (1000 : Int), v1 := (1000 : Int), s0 := (1500 : Int), s1 := (1600 : Int), c0 := (200 : Int), c1 := (200 : Int) }, c0 := M.Wine.c0 { v0 := (1000 : Int), v1 := (1000 : Int), s0 := (1500 : Int), s1 := (1600 : Int), c0 := (200 : Int), c1 := (200 : Int) }, c1 := M.Wine.c1 { v0 := (1000 : Int), v1 := (1000 : Int), s0 := (1500 : Int), s1 := (1600 : Int), c0 := (200 : Int), c1 := (200 : Int) } } { a := M.Rate.a { a := (100 : Int), b := (200 : Int), c := (200 : Int), d := (300 : Int) }, b := M.Rate.b { a := (100 : Int), b := (200 : Int), c := (200 : Int), d := (300 : Int) }, c := M.Rate.c { a := (100 : Int), b := (200 : Int), c := (200 : Int), d := (300 : Int) }, d := M.Rate.d { a := (100 : Int), b := (200 : Int), c := (200 : Int), d := (300 : Int) } } (100 : Int)) == (1600 : Int) && true) &&
                    (M.Wine.c0 (M.after { v0 := M.Wine.v0 { v0 := (1000 : Int), v1 := (1000 : Int), s0 := (1500 : Int), s1 := (1600 : Int), c0 := (200 : Int), c1 := (200 : Int) }, v1 := M.Wine.v1 { v0 := (1000 : Int), v1 := (1000 : Int), s0 := (1500 : Int), s1 := (1600 : Int), c0 := (200 : Int), c1 := (200 : Int) }, s0 := M.Wine.s0 { v0 := (1000 : Int), v1 := (1000 : Int), s0 := (1500 : Int), s1 := (1600 : Int), c0 := (200 : Int), c1 := (200 : Int) }, s1 := M.Wine.s1 { v0 := (1000 : Int), v1 := (1000 : Int), s0 := (1500 : Int), s1 := (1600 : Int), c0 := (200 : Int), c1 := (200 : Int) }, c0 := M.Wine.c0 { v0 := (1000 : Int), v1 := (1000 : Int), s0 := (1500 : Int), s1 := (1600 : Int), c0 := (200 : Int), c1 := (200 : Int) }, c1 := M.Wine.c1 { v0 := (1000 : Int), v1 := (1000 : Int), s0 := (1500 : Int), s1 := (1600 : Int), c0 := (200 : Int), c1 := (200 : Int) } } { a := M.Rate.a { a := (100 : Int), b := (200 : Int), c := (200 : Int), d := (300 : Int) }, b := M.Rate.b { a := (100 : Int), b := (200 : Int), c := (200 : Int), d := (300 : Int) }, c := M.Rate.c { a := (100 : Int), b := (200 : Int), c := (200 : Int), d := (300 : Int) }, d := M.Rate.d { a := (100 : Int), b := (200 : Int), c := (200 : Int), d := (300 : Int) } } (100 : Int)) == (202 : Int) && (M.Wine.c1 (M.after { v0 := M.Wine.v0 { v0 := (1000 : Int), v1 := (1000 : Int), s0 := (1500 : Int), s1 := (1600 : Int), c0 := (200 : Int), c1 := (200 : Int) }, v1 := M.Wine.v1 { v0 := (1000 : Int), v1 := (1000 : Int), s0 := (1500 : Int), s1 := (1600 : Int), c0 := (200 : Int), c1 := (200 : Int) }, s0 := M.Wine.s0 { v0 := (1000 : Int), v1 := (1000 : Int), s0 := (1500 : Int), s1 := (1600 : Int), c0 := (200 : Int), c1 := (200 : Int) }, s1 := M.Wine.s1 { v0 := (1000 : Int), v1 := (1000 : Int), s0 := (1500 : Int), s1 := (1600 : Int), c0 := (200 : Int), c1 := (200 : Int) }, c0 := M.Wine.c0 { v0 := (1000 : Int), v1 := (1000 : Int), s0 := (1500 : Int), s1 := (1600 : Int), c0 := (200 : Int), c1 := (200 : Int) }, c1 := M.Wine.c1 { v0 := (1000 : Int), v1 := (1000 : Int), s0 := (1500 : Int), s1 := (1600 : Int), c0 := (200 : Int), c1 := (200 : Int) } } { a := M.Rate.a { a := (100 : Int), b := (200 : Int), c := (200 : Int), d := (300 : Int) }, b := M.Rate.b { a := (100 : Int), b := (200 : Int), c := (200 : Int), d := (300 : Int) }, c := M.Rate.c { a := (100 : Int), b := (200 : Int), c := (200 : Int), d := (300 : Int) }, d := M.Rate.d { a := (100 : Int), b := (200 : Int), c := (200 : Int), d := (300 : Int) } } (100 : Int)) == (205 : Int) && true) && true))) =
                true)
              (T.need (((0 : Int) == (0 : Int)) = true) (T.need ((M.safe (fun d => M.Wine.s0 (M.after { v0 := M.Wine.v0 { v0 := (1000 : Int), v1 := (1000 : Int), s0 := (1500 : Int), s1 := (1600 : Int), c0 := (200 : Int), c1 := (200 : Int) }, v1 := M.Wine.v1 { v0 := (1000 : Int), v1 := (1000 : Int), s0 := (1500 : Int), s1 := (1600 : Int), c0 := (200 : Int), c1 := (200 : Int) }, s0 := M.Wine.s0 { v0 := (1000 : Int), v1 := (1000 : Int), s0 := (1500 : Int), s1 := (1600 : Int), c0 := (200 : Int), c1 := (200 : Int) }, s1 := M.Wine.s1 { v0 := (1000 : Int), v1 := (1000 : Int), s0 := (1500 : Int), s1 := (1600 : Int), c0 := (200 : Int), c1 := (200 : Int) }, c0 := M.Wine.c0 { v0 := (1000 : Int), v1 := (1000 : Int), s0 := (1500 : Int), s1 := (1600 : Int), c0 := (200 : Int), c1 := (200 : Int) }, c1 := M.Wine.c1 { v0 := (1000 : Int), v1 := (1000 : Int), s0 := (1500 : Int), s1 := (1600 : Int), c0 := (200 : Int), c1 := (200 : Int) } } { a := M.Rate.a { a := (100 : Int), b := (200 : Int), c := (200 : Int), d := (300 : Int) }, b := M.Rate.b { a := (100 : Int), b := (200 : Int), c := (200 : Int), d := (300 : Int) }, c := M.Rate.c { a := (100 : Int), b := (200 : Int), c := (200 : Int), d := (300 : Int) }, d := M.Rate.d { a := (100 : Int), b := (200 : Int), c := (200 : Int), d := (300 : Int) } } d)) (1490 : Int) (365 : Nat) (0 : Int) == (33 : Int)) = true) (T.need (((0 : Int) == (0 : Int)) = false) (T.ret (Value.bool false))))))))
        (T.need (((0 : Int) == (0 : Int)) = true)
          (T.need
            ((M.Wine.v0 (M.after { v0 := M.Wine.v0 { v0 := (1000 : Int), v1 := (1000 : Int), s0 := (1500 : Int), s1 := (1600 : Int), c0 := (200 : Int), c1 := (200 : Int) }, v1 := M.Wine.v1 { v0 := (1000 : Int), v1 := (1000 : Int), s0 := (1500 : Int), s1 := (1600 : Int), c0 := (200 : Int), c1 := (200 : Int) }, s0 := M.Wine.s0 { v0 := (1000 : Int), v1 := (1000 : Int), s0 := (1500 : Int), s1 := (1600 : Int), c0 := (200 : Int), c1 := (200 : Int) }, s1 := M.Wine.s1 { v0 := (1000 : Int), v1 := (1000 : Int), s0 := (1500 : Int), s1 := (1600 : Int), c0 := (200 : Int), c1 := (200 : Int) }, c0 := M.Wine.c0 { v0 := (1000 : Int), v1 := (1000 : Int), s0 := (1500 : Int), s1 := (1600 : Int), c0 := (200 : Int), c1 := (200 : Int) }, c1 := M.Wine.c1 { v0 := (1000 : Int), v1 := (1000 : Int), s0 := (1500 : Int), s1 := (1600 : Int), c0 := (200 : Int), c1 := (200 : Int) } } { a := M.Rate.a { a := (100 : Int), b := (200 : Int), c := (200 : Int), d := (300 : Int) }, b := M.Rate.b { a := (100 : Int), b := (200 : Int), c := (200 : Int), d := (300 : Int) }, c := M.Rate.c { a := (100 : Int), b := (200 : Int), c := (200 : Int), d := (300 : Int) }, d := M.Rate.d { a := (100 : Int), b := (200 : Int), c := (200 : Int), d := (300 : Int) } } (100 : Int)) == (980 : Int) && (M.Wine.v1 (M.after { v0 := M.Wine.v0 { v0 := (1000 : Int), v1 := (1000 : Int), s0 := (1500 : Int), s1 := (1600 : Int), c0 := (200 : Int), c1 := (200 : Int) }, v1 := M.Wine.v1 { v0 := (1000 : Int), v1 := (1000 : Int), s0 := (1500 : Int), s1 := (1600 : Int), c0 := (200 : Int), c1 := (200 : Int) }, s0 := M.Wine.s0 { v0 := (1000 : Int), v1 := (1000 : Int), s0 := (1500 : Int), s1 := (1600 : Int), c0 := (200 : Int), c1 := (200 : Int) }, s1 := M.Wine.s1 { v0 := (1000 : Int), v1 := (1000 : Int), s0 := (1500 : Int), s1 := (1600 : Int), c0 := (200 : Int), c1 := (200 : Int) }, c0 := M.Wine.c0 { v0 := (1000 : Int), v1 := (1000 : Int), s0 := (1500 : Int), s1 := (1600 : Int), c0 := (200 : Int), c1 := (200 : Int) }, c1 := M.Wine.c1 { v0 := (1000 : Int), v1 := (1000 : Int), s0 := (1500 : Int), s1 := (1600 : Int), c0 := (200 : Int), c1 := (200 : Int) } } { a := M.Rate.a { a := (100 : Int), b := (200 : Int), c := (200 : Int), d := (300 : Int) }, b := M.Rate.b { a := (100 : Int), b := (200 : Int), c := (200 : Int), d := (300 : Int) }, c := M.Rate.c { a := (100 : Int), b := (200 : Int), c := (200 : Int), d := (300 : Int) }, d := M.Rate.d { a := (100 : Int), b := (200 : Int), c := (200 : Int), d := (300 : Int) } } (100 : Int)) == (990 : Int) && true) &&
                (M.Wine.s0 (M.after { v0 := M.Wine.v0 { v0 := (1000 : Int), v1 := (1000 : Int), s0 := (1500 : Int), s1 := (1600 : Int), c0 := (200 : Int), c1 := (200 : Int) }, v1 := M.Wine.v1 { v0 := (1000 : Int), v1 := (1000 : Int), s0 := (1500 : Int), s1 := (1600 : Int), c0 := (200 : Int), c1 := (200 : Int) }, s0 := M.Wine.s0 { v0 := (1000 : Int), v1 := (1000 : Int), s0 := (1500 : Int), s1 := (1600 : Int), c0 := (200 : Int), c1 := (200 : Int) }, s1 := M.Wine.s1 { v0 := (1000 : Int), v1 := (1000 : Int), s0 := (1500 : Int), s1 := (1600 : Int), c0 := (200 : Int), c1 := (200 : Int) }, c0 := M.Wine.c0 { v0 := (1000 : Int), v1 := (1000 : Int), s0 := (1500 : Int), s1 := (1600 : Int), c0 := (200 : Int), c1 := (200 : Int) }, c1 := M.Wine.c1 { v0 := (1000 : Int), v1 := (1000 : Int), s0 := (1500 : Int), s1 := (1600 : Int), c0 := (200 : Int), c1 := (200 : Int) } } { a := M.Rate.a { a := (100 : Int), b := (200 : Int), c := (200 : Int), d := (300 : Int) }, b := M.Rate.b { a := (100 : Int), b := (200 : Int), c := (200 : Int), d := (300 : Int) }, c := M.Rate.c { a := (100 : Int), b := (200 : Int), c := (200 : Int), d := (300 : Int) }, d := M.Rate.d { a := (100 : Int), b := (200 : Int), c := (200 : Int), d := (300 : Int) } } (100 : Int)) == (1469 : Int) && (M.Wine.s1 (M.after { v0 := M.Wine.v0 { v0 := (1000 : Int), v1 := (1000 : Int), s0 := (1500 : Int), s1 := (1600 : Int), c0 := (200 : Int), c1 := (200 : Int) }, v1 := M.Wine.v1 { v0 := (1000 : Int), v1 := (1000 : Int), s0 := (1500 : Int), s1 := (1600 : Int), c0 := (200 : Int), c1 := (200 : Int) }, s0 := M.Wine.s0 { v0 := (1000 : Int), v1 := (1000 : Int), s0 := (1500 : Int), s1 := (1600 : Int), c0 := (200 : Int), c1 := (200 : Int) }, s1 := M.Wine.s1 { v0 := (1000 : Int), v1 := (1000 : Int), s0 := (1500 : Int), s1 := (1600 : Int), c0 := (200 : Int), c1 := (200 : Int) }, c0 := M.Wine.c0 { v0 := (1000 : Int), v1 := (1000 : Int), s0 := (1500 : Int), s1 := (1600 : Int), c0 := (200 : Int), c1 := (200 : Int) }, c1 := M.Wine.c1 { v0 := (1000 : Int), v1 := (1000 : Int), s0 := (1500 : Int), s1 := (1600 : Int), c0 := (200 : Int), c1 := (200 : Int) } } { a := M.Rate.a { a := (100 : Int), b := (200 : Int), c := (200 : Int), d := (300 : Int) }, b := M.Rate.b { a := (100 : Int), b := (200 : Int), c := (200 : Int), d := (300 : Int) }, c := M.Rate.c { a := (100 : Int), b := (200 : Int), c := (200 : Int), d := (300 : Int) }, d := M.Rate.d { a := (100 : Int), b := (200 : Int), c := (200 : Int), d := (300 : Int) } } (100 : Int)) == (1600 : Int) && true) &&
                  (M.Wine.c0 (M.after { v0 := M.Wine.v0 { v0 := (1000 : Int), v1 := (1000 : Int), s0 := (1500 : Int), s1 := (1600 : Int), c0 := (200 : Int), c1 := (200 : Int) }, v1 := M.Wine.v1 { v0 := (1000 : Int), v1 := (1000 : Int), s0 := (1500 : Int), s1 := (1600 : Int), c0 := (200 : Int), c1 := (200 : Int) }, s0 := M.Wine.s0 { v0 := (1000 : Int), v1 := (1000 : Int), s0 := (1500 : Int), s1 := (1600 : Int), c0 := (200 : Int), c1 := (200 : Int) }, s1 := M.Wine.s1 { v0 := (1000 : Int), v1 := (1000 : Int), s0 := (1500 : Int), s1 := (1600 : Int), c0 := (200 : Int), c1 := (200 : Int) }, c0 := M.Wine.c0 { v0 := (1000 : Int), v1 := (1000 : Int), s0 := (1500 : Int), s1 := (1600 : Int), c0 := (200 : Int), c1 := (200 : Int) }, c1 := M.Wine.c1 { v0 := (1000 : Int), v1 := (1000 : Int), s0 := (1500 : Int), s1 := (1600 : Int), c0 := (200 : Int), c1 := (200 : Int) } } { a := M.Rate.a { a := (100 : Int), b := (200 : Int), c := (200 : Int), d := (300 : Int) }, b := M.Rate.b { a := (100 : Int), b := (200 : Int), c := (200 : Int), d := (300 : Int) }, c := M.Rate.c { a := (100 : Int), b := (200 : Int), c := (200 : Int), d := (300 : Int) }, d := M.Rate.d { a := (100 : Int), b := (200 : Int), c := (200 : Int), d := (300 : Int) } } (100 : Int)) == (202 : Int) && (M.Wine.c1 (M.after { v0 := M.Wine.v0 { v0 := (1000 : Int), v1 := (1000 : Int), s0 := (1500 : Int), s1 := (1600 : Int), c0 := (200 : Int), c1 := (200 : Int) }, v1 := M.Wine.v1 { v0 := (1000 : Int), v1 := (1000 : Int), s0 := (1500 : Int), s1 := (1600 : Int), c0 := (200 : Int), c1 := (200 : Int) }, s0 := M.Wine.s0 { v0 := (1000 : Int), v1 := (1000 : Int), s0 := (1500 : Int), s1 := (1600 : Int), c0 := (200 : Int), c1 := (200 : Int) }, s1 := M.Wine.s1 { v0 := (1000 : Int), v1 := (1000 : Int), s0 := (1500 : Int), s1 := (1600 : Int), c0 := (200 : Int), c1 := (200 : Int) }, c0 := M.Wine.c0 { v0 := (1000 : Int), v1 := (1000 : Int), s0 := (1500 : Int), s1 := (1600 : Int), c0 := (200 : Int), c1 := (200 : Int) }, c1 := M.Wine.c1 { v0 := (1000 : Int), v1 := (1000 : Int), s0 := (1500 : Int), s1 := (1600 : Int), c0 := (200 : Int), c1 := (200 : Int) } } { a := M.Rate.a { a := (100 : Int), b := (200 : Int), c := (200 : Int), d := (300 : Int) }, b := M.Rate.b { a := (100 : Int), b := (200 : Int), c := (200 : Int), d := (300 : Int) }, c := M.Rate.c { a := (100 : Int), b := (200 : Int), c := (200 : Int), d := (300 : Int) }, d := M.Rate.d { a := (100 : Int), b := (200 : Int), c := (200 : Int), d := (300 : Int) } } (100 : Int)) == (205 : Int) && true) && true))) =
              true)
            (T.need (((0 : Int) == (0 : Int)) = true) (T.need ((M.safe (fun d => M.Wine.s0 (M.after { v0 := M.Wine.v0 { v0 := (1000 : Int), v1 := (1000 : Int), s0 := (1500 : Int), s1 := (1600 : Int), c0 := (200 : Int), c1 := (200 : Int) }, v1 := M.Wine.v1 { v0 := (1000 : Int), v1 := (1000 : Int), s0 := (1500 : Int), s1 := (1600 : Int), c0 := (200 : Int), c1 := (200 : Int) }, s0 := M.Wine.s0 { v0 := (1000 : Int), v1 := (1000 : Int), s0 := (1500 : Int), s1 := (1600 : Int), c0 := (200 : Int), c1 := (200 : Int) }, s1 := M.Wine.s1 { v0 := (1000 : Int), v1 := (1000 : Int), s0 := (1500 : Int), s1 := (1600 : Int), c0 := (200 : Int), c1 := (200 : Int) }, c0 := M.Wine.c0 { v0 := (1000 : Int), v1 := (1000 : Int), s0 := (1500 : Int), s1 := (1600 : Int), c0 := (200 : Int), c1 := (200 : Int) }, c1 := M.Wine.c1 { v0 := (1000 : Int), v1 := (1000 : Int), s0 := (1500 : Int), s1 := (1600 : Int), c0 := (200 : Int), c1 := (200 : Int) } } { a := M.Rate.a { a := (100 : Int), b := (200 : Int), c := (200 : Int), d := (300 : Int) }, b := M.Rate.b { a := (100 : Int), b := (200 : Int), c := (200 : Int), d := (300 : Int) }, c := M.Rate.c { a := (100 : Int), b := (200 : Int), c := (200 : Int), d := (300 : Int) }, d := M.Rate.d { a := (100 : Int), b := (200 : Int), c := (200 : Int), d := (300 : Int) } } d)) (1490 : Int) (365 : Nat) (0 : Int) == (33 : Int)) = false) (T.ret (Value.bool false)))))))
      (T.need (((0 : Int) == (0 : Int)) = true)
        (T.need
          ((M.Wine.v0 (M.after { v0 := M.Wine.v0 { v0 := (1000 : Int), v1 := (1000 : Int), s0 := (1500 : Int), s1 := (1600 : Int), c0 := (200 : Int), c1 := (200 : Int) }, v1 := M.Wine.v1 { v0 := (1000 : Int), v1 := (1000 : Int), s0 := (1500 : Int), s1 := (1600 : Int), c0 := (200 : Int), c1 := (200 : Int) }, s0 := M.Wine.s0 { v0 := (1000 : Int), v1 := (1000 : Int), s0 := (1500 : Int), s1 := (1600 : Int), c0 := (200 : Int), c1 := (200 : Int) }, s1 := M.Wine.s1 { v0 := (1000 : Int), v1 := (1000 : Int), s0 := (1500 : Int), s1 := (1600 : Int), c0 := (200 : Int), c1 := (200 : Int) }, c0 := M.Wine.c0 { v0 := (1000 : Int), v1 := (1000 : Int), s0 := (1500 : Int), s1 := (1600 : Int), c0 := (200 : Int), c1 := (200 : Int) }, c1 := M.Wine.c1 { v0 := (1000 : Int), v1 := (1000 : Int), s0 := (1500 : Int), s1 := (1600 : Int), c0 := (200 : Int), c1 := (200 : Int) } } { a := M.Rate.a { a := (100 : Int), b := (200 : Int), c := (200 : Int), d := (300 : Int) }, b := M.Rate.b { a := (100 : Int), b := (200 : Int), c := (200 : Int), d := (300 : Int) }, c := M.Rate.c { a := (100 : Int), b := (200 : Int), c := (200 : Int), d := (300 : Int) }, d := M.Rate.d { a := (100 : Int), b := (200 : Int), c := (200 : Int), d := (300 : Int) } } (100 : Int)) == (980 : Int) && (M.Wine.v1 (M.after { v0 := M.Wine.v0 { v0 := (1000 : Int), v1 := (1000 : Int), s0 := (1500 : Int), s1 := (1600 : Int), c0 := (200 : Int), c1 := (200 : Int) }, v1 := M.Wine.v1 { v0 := (1000 : Int), v1 := (1000 : Int), s0 := (1500 : Int), s1 := (1600 : Int), c0 := (200 : Int), c1 := (200 : Int) }, s0 := M.Wine.s0 { v0 := (1000 : Int), v1 := (1000 : Int), s0 := (1500 : Int), s1 := (1600 : Int), c0 := (200 : Int), c1 := (200 : Int) }, s1 := M.Wine.s1 { v0 := (1000 : Int), v1 := (1000 : Int), s0 := (1500 : Int), s1 := (1600 : Int), c0 := (200 : Int), c1 := (200 : Int) }, c0 := M.Wine.c0 { v0 := (1000 : Int), v1 := (1000 : Int), s0 := (1500 : Int), s1 := (1600 : Int), c0 := (200 : Int), c1 := (200 : Int) }, c1 := M.Wine.c1 { v0 := (1000 : Int), v1 := (1000 : Int), s0 := (1500 : Int), s1 := (1600 : Int), c0 := (200 : Int), c1 := (200 : Int) } } { a := M.Rate.a { a := (100 : Int), b := (200 : Int), c := (200 : Int), d := (300 : Int) }, b := M.Rate.b { a := (100 : Int), b := (200 : Int), c := (200 : Int), d := (300 : Int) }, c := M.Rate.c { a := (100 : Int), b := (200 : Int), c := (200 : Int), d := (300 : Int) }, d := M.Rate.d { a := (100 : Int), b := (200 : Int), c := (200 : Int), d := (300 : Int) } } (100 : Int)) == (990 : Int) && true) &&
              (M.Wine.s0 (M.after { v0 := M.Wine.v0 { v0 := (1000 : Int), v1 := (1000 : Int), s0 := (1500 : Int), s1 := (1600 : Int), c0 := (200 : Int), c1 := (200 : Int) }, v1 := M.Wine.v1 { v0 := (1000 : Int), v1 := (1000 : Int), s0 := (1500 : Int), s1 := (1600 : Int), c0 := (200 : Int), c1 := (200 : Int) }, s0 := M.Wine.s0 { v0 := (1000 : Int), v1 := (1000 : Int), s0 := (1500 : Int), s1 := (1600 : Int), c0 := (200 : Int), c1 := (200 : Int) }, s1 := M.Wine.s1 { v0 := (1000 : Int), v1 := (1000 : Int), s0 := (1500 : Int), s1 := (1600 : Int), c0 := (200 : Int), c1 := (200 : Int) }, c0 := M.Wine.c0 { v0 := (1000 : Int), v1 := (1000 : Int), s0 := (1500 : Int), s1 := (1600 : Int), c0 := (200 : Int), c1 := (200 : Int) }, c1 := M.Wine.c1 { v0 := (1000 : Int), v1 := (1000 : Int), s0 := (1500 : Int), s1 := (1600 : Int), c0 := (200 : Int), c1 := (200 : Int) } } { a := M.Rate.a { a := (100 : Int), b := (200 : Int), c := (200 : Int), d := (300 : Int) }, b := M.Rate.b { a := (100 : Int), b := (200 : Int), c := (200 : Int), d := (300 : Int) }, c := M.Rate.c { a := (100 : Int), b := (200 : Int), c := (200 : Int), d := (300 : Int) }, d := M.Rate.d { a := (100 : Int), b := (200 : Int), c := (200 : Int), d := (300 : Int) } } (100 : Int)) == (1469 : Int) && (M.Wine.s1 (M.after { v0 := M.Wine.v0 { v0 := (1000 : Int), v1 := (1000 : Int), s0 := (1500 : Int), s1 := (1600 : Int), c0 := (200 : Int), c1 := (200 : Int) }, v1 := M.Wine.v1 { v0 := (1000 : Int), v1 := (1000 : Int), s0 := (1500 : Int), s1 := (1600 : Int), c0 := (200 : Int), c1 := (200 : Int) }, s0 := M.Wine.s0 { v0 := (1000 : Int), v1 := (1000 : Int), s0 := (1500 : Int), s1 := (1600 : Int), c0 := (200 : Int), c1 := (200 : Int) }, s1 := M.Wine.s1 { v0 := (1000 : Int), v1 := (1000 : Int), s0 := (1500 : Int), s1 := (1600 : Int), c0 := (200 : Int), c1 := (200 : Int) }, c0 := M.Wine.c0 { v0 := (1000 : Int), v1 := (1000 : Int), s0 := (1500 : Int), s1 := (1600 : Int), c0 := (200 : Int), c1 := (200 : Int) }, c1 := M.Wine.c1 { v0 := (1000 : Int), v1 := (1000 : Int), s0 := (1500 : Int), s1 := (1600 : Int), c0 := (200 : Int), c1 := (200 : Int) } } { a := M.Rate.a { a := (100 : Int), b := (200 : Int), c := (200 : Int), d := (300 : Int) }, b := M.Rate.b { a := (100 : Int), b := (200 : Int), c := (200 : Int), d := (300 : Int) }, c := M.Rate.c { a := (100 : Int), b := (200 : Int), c := (200 : Int), d := (300 : Int) }, d := M.Rate.d { a := (100 : Int), b := (200 : Int), c := (200 : Int), d := (300 : Int) } } (100 : Int)) == (1600 : Int) && true) &&
                (M.Wine.c0 (M.after { v0 := M.Wine.v0 { v0 := (1000 : Int), v1 := (1000 : Int), s0 := (1500 : Int), s1 := (1600 : Int), c0 := (200 : Int), c1 := (200 : Int) }, v1 := M.Wine.v1 { v0 := (1000 : Int), v1 := (1000 : Int), s0 := (1500 : Int), s1 := (1600 : Int), c0 := (200 : Int), c1 := (200 : Int) }, s0 := M.Wine.s0 { v0 := (1000 : Int), v1 := (1000 : Int), s0 := (1500 : Int), s1 := (1600 : Int), c0 := (200 : Int), c1 := (200 : Int) }, s1 := M.Wine.s1 { v0 := (1000 : Int), v1 := (1000 : Int), s0 := (1500 : Int), s1 := (1600 : Int), c0 := (200 : Int), c1 := (200 : Int) }, c0 := M.Wine.c0 { v0 := (1000 : Int), v1 := (1000 : Int), s0 := (1500 : Int), s1 := (1600 : Int), c0 := (200 : Int), c1 := (200 : Int) }, c1 := M.Wine.c1 { v0 := (1000 : Int), v1 := (1000 : Int), s0 := (1500 : Int), s1 := (1600 : Int), c0 := (200 : Int), c1 := (200 : Int) } } { a := M.Rate.a { a := (100 : Int), b := (200 : Int), c := (200 : Int), d := (300 : Int) }, b := M.Rate.b { a := (100 : Int), b := (200 : Int), c := (200 : Int), d := (300 : Int) }, c := M.Rate.c { a := (100 : Int), b := (200 : Int), c := (200 : Int), d := (300 : Int) }, d := M.Rate.d { a := (100 : Int), b := (200 : Int), c := (200 : Int), d := (300 : Int) } } (100 : Int)) == (202 : Int) && (M.Wine.c1 (M.after { v0 := M.Wine.v0 { v0 := (1000 : Int), v1 := (1000 : Int), s0 := (1500 : Int), s1 := (1600 : Int), c0 := (200 : Int), c1 := (200 : Int) }, v1 := M.Wine.v1 { v0 := (1000 : Int), v1 := (1000 : Int), s0 := (1500 : Int), s1 := (1600 : Int), c0 := (200 : Int), c1 := (200 : Int) }, s0 := M.Wine.s0 { v0 := (1000 : Int), v1 := (1000 : Int), s0 := (1500 : Int), s1 := (1600 : Int), c0 := (200 : Int), c1 := (200 : Int) }, s1 := M.Wine.s1 { v0 := (1000 : Int), v1 := (1000 : Int), s0 := (1500 : Int), s1 := (1600 : Int), c0 := (200 : Int), c1 := (200 : Int) }, c0 := M.Wine.c0 { v0 := (1000 : Int), v1 := (1000 : Int), s0 := (1500 : Int), s1 := (1600 : Int), c0 := (200 : Int), c1 := (200 : Int) }, c1 := M.Wine.c1 { v0 := (1000 : Int), v1 := (1000 : Int), s0 := (1500 : Int), s1 := (1600 : Int), c0 := (200 : Int), c1 := (200 : Int) } } { a := M.Rate.a { a := (100 : Int), b := (200 : Int), c := (200 : Int), d := (300 : Int) }, b := M.Rate.b { a := (100 : Int), b := (200 : Int), c := (200 : Int), d := (300 : Int) }, c := M.Rate.c { a := (100 : Int), b := (200 : Int), c := (200 : Int), d := (300 : Int) }, d := M.Rate.d { a := (100 : Int), b := (200 : Int), c := (200 : Int), d := (300 : Int) } } (100 : Int)) == (205 : Int) && true) && true))) =
            true)
          (T.need (((0 : Int) == (0 : Int)) = false) (T.ret (Value.bool false))))))
    (T.need (((0 : Int) == (0 : Int)) = true)
      (T.need
        ((M.Wine.v0 (M.after { v0 := M.Wine.v0 { v0 := (1000 : Int), v1 := (1000 : Int), s0 := (1500 : Int), s1 := (1600 : Int), c0 := (200 : Int), c1 := (200 : Int) }, v1 := M.Wine.v1 { v0 := (1000 : Int), v1 := (1000 : Int), s0 := (1500 : Int), s1 := (1600 : Int), c0 := (200 : Int), c1 := (200 : Int) }, s0 := M.Wine.s0 { v0 := (1000 : Int), v1 := (1000 : Int), s0 := (1500 : Int), s1 := (1600 : Int), c0 := (200 : Int), c1 := (200 : Int) }, s1 := M.Wine.s1 { v0 := (1000 : Int), v1 := (1000 : Int), s0 := (1500 : Int), s1 := (1600 : Int), c0 := (200 : Int), c1 := (200 : Int) }, c0 := M.Wine.c0 { v0 := (1000 : Int), v1 := (1000 : Int), s0 := (1500 : Int), s1 := (1600 : Int), c0 := (200 : Int), c1 := (200 : Int) }, c1 := M.Wine.c1 { v0 := (1000 : Int), v1 := (1000 : Int), s0 := (1500 : Int), s1 := (1600 : Int), c0 := (200 : Int), c1 := (200 : Int) } } { a := M.Rate.a { a := (100 : Int), b := (200 : Int), c := (200 : Int), d := (300 : Int) }, b := M.Rate.b { a := (100 : Int), b := (200 : Int), c := (200 : Int), d := (300 : Int) }, c := M.Rate.c { a := (100 : Int), b := (200 : Int), c := (200 : Int), d := (300 : Int) }, d := M.Rate.d { a := (100 : Int), b := (200 : Int), c := (200 : Int), d := (300 : Int) } } (100 : Int)) == (980 : Int) && (M.Wine.v1 (M.after { v0 := M.Wine.v0 { v0 := (1000 : Int), v1 := (1000 : Int), s0 := (1500 : Int), s1 := (1600 : Int), c0 := (200 : Int), c1 := (200 : Int) }, v1 := M.Wine.v1 { v0 := (1000 : Int), v1 := (1000 : Int), s0 := (1500 : Int), s1 := (1600 : Int), c0 := (200 : Int), c1 := (200 : Int) }, s0 := M.Wine.s0 { v0 := (1000 : Int), v1 := (1000 : Int), s0 := (1500 : Int), s1 := (1600 : Int), c0 := (200 : Int), c1 := (200 : Int) }, s1 := M.Wine.s1 { v0 := (1000 : Int), v1 := (1000 : Int), s0 := (1500 : Int), s1 := (1600 : Int), c0 := (200 : Int), c1 := (200 : Int) }, c0 := M.Wine.c0 { v0 := (1000 : Int), v1 := (1000 : Int), s0 := (1500 : Int), s1 := (1600 : Int), c0 := (200 : Int), c1 := (200 : Int) }, c1 := M.Wine.c1 { v0 := (1000 : Int), v1 := (1000 : Int), s0 := (1500 : Int), s1 := (1600 : Int), c0 := (200 : Int), c1 := (200 : Int) } } { a := M.Rate.a { a := (100 : Int), b := (200 : Int), c := (200 : Int), d := (300 : Int) }, b := M.Rate.b { a := (100 : Int), b := (200 : Int), c := (200 : Int), d := (300 : Int) }, c := M.Rate.c { a := (100 : Int), b := (200 : Int), c := (200 : Int), d := (300 : Int) }, d := M.Rate.d { a := (100 : Int), b := (200 : Int), c := (200 : Int), d := (300 : Int) } } (100 : Int)) == (990 : Int) && true) &&
            (M.Wine.s0 (M.after { v0 := M.Wine.v0 { v0 := (1000 : Int), v1 := (1000 : Int), s0 := (1500 : Int), s1 := (1600 : Int), c0 := (200 : Int), c1 := (200 : Int) }, v1 := M.Wine.v1 { v0 := (1000 : Int), v1 := (1000 : Int), s0 := (1500 : Int), s1 := (1600 : Int), c0 := (200 : Int), c1 := (200 : Int) }, s0 := M.Wine.s0 { v0 := (1000 : Int), v1 := (1000 : Int), s0 := (1500 : Int), s1 := (1600 : Int), c0 := (200 : Int), c1 := (200 : Int) }, s1 := M.Wine.s1 { v0 := (1000 : Int), v1 := (1000 : Int), s0 := (1500 : Int), s1 := (1600 : Int), c0 := (200 : Int), c1 := (200 : Int) }, c0 := M.Wine.c0 { v0 := (1000 : Int), v1 := (1000 : Int), s0 := (1500 : Int), s1 := (1600 : Int), c0 := (200 : Int), c1 := (200 : Int) }, c1 := M.Wine.c1 { v0 := (1000 : Int), v1 := (1000 : Int), s0 := (1500 : Int), s1 := (1600 : Int), c0 := (200 : Int), c1 := (200 : Int) } } { a := M.Rate.a { a := (100 : Int), b := (200 : Int), c := (200 : Int), d := (300 : Int) }, b := M.Rate.b { a := (100 : Int), b := (200 : Int), c := (200 : Int), d := (300 : Int) }, c := M.Rate.c { a := (100 : Int), b := (200 : Int), c := (200 : Int), d := (300 : Int) }, d := M.Rate.d { a := (100 : Int), b := (200 : Int), c := (200 : Int), d := (300 : Int) } } (100 : Int)) == (1469 : Int) && (M.Wine.s1 (M.after { v0 := M.Wine.v0 { v0 := (1000 : Int), v1 := (1000 : Int), s0 := (1500 : Int), s1 := (1600 : Int), c0 := (200 : Int), c1 := (200 : Int) }, v1 := M.Wine.v1 { v0 := (1000 : Int), v1 := (1000 : Int), s0 := (1500 : Int), s1 := (1600 : Int), c0 := (200 : Int), c1 := (200 : Int) }, s0 := M.Wine.s0 { v0 := (1000 : Int), v1 := (1000 : Int), s0 := (1500 : Int), s1 := (1600 : Int), c0 := (200 : Int), c1 := (200 : Int) }, s1 := M.Wine.s1 { v0 := (1000 : Int), v1 := (1000 : Int), s0 := (1500 : Int), s1 := (1600 : Int), c0 := (200 : Int), c1 := (200 : Int) }, c0 := M.Wine.c0 { v0 := (1000 : Int), v1 := (1000 : Int), s0 := (1500 : Int), s1 := (1600 : Int), c0 := (200 : Int), c1 := (200 : Int) }, c1 := M.Wine.c1 { v0 := (1000 : Int), v1 := (1000 : Int), s0 := (1500 : Int), s1 := (1600 : Int), c0 := (200 : Int), c1 := (200 : Int) } } { a := M.Rate.a { a := (100 : Int), b := (200 : Int), c := (200 : Int), d := (300 : Int) }, b := M.Rate.b { a := (100 : Int), b := (200 : Int), c := (200 : Int), d := (300 : Int) }, c := M.Rate.c { a := (100 : Int), b := (200 : Int), c := (200 : Int), d := (300 : Int) }, d := M.Rate.d { a := (100 : Int), b := (200 : Int), c := (200 : Int), d := (300 : Int) } } (100 : Int)) == (1600 : Int) && true) &&
              (M.Wine.c0 (M.after { v0 := M.Wine.v0 { v0 := (1000 : Int), v1 := (1000 : Int), s0 := (1500 : Int), s1 := (1600 : Int), c0 := (200 : Int), c1 := (200 : Int) }, v1 := M.Wine.v1 { v0 := (1000 : Int), v1 := (1000 : Int), s0 := (1500 : Int), s1 := (1600 : Int), c0 := (200 : Int), c1 := (200 : Int) }, s0 := M.Wine.s0 { v0 := (1000 : Int), v1 := (1000 : Int), s0 := (1500 : Int), s1 := (1600 : Int), c0 := (200 : Int), c1 := (200 : Int) }, s1 := M.Wine.s1 { v0 := (1000 : Int), v1 := (1000 : Int), s0 := (1500 : Int), s1 := (1600 : Int), c0 := (200 : Int), c1 := (200 : Int) }, c0 := M.Wine.c0 { v0 := (1000 : Int), v1 := (1000 : Int), s0 := (1500 : Int), s1 := (1600 : Int), c0 := (200 : Int), c1 := (200 : Int) }, c1 := M.Wine.c1 { v0 := (1000 : Int), v1 := (1000 : Int), s0 := (1500 : Int), s1 := (1600 : Int), c0 := (200 : Int), c1 := (200 : Int) } } { a := M.Rate.a { a := (100 : Int), b := (200 : Int), c := (200 : Int), d := (300 : Int) }, b := M.Rate.b { a := (100 : Int), b := (200 : Int), c := (200 : Int), d := (300 : Int) }, c := M.Rate.c { a := (100 : Int), b := (200 : Int), c := (200 : Int), d := (300 : Int) }, d := M.Rate.d { a := (100 : Int), b := (200 : Int), c := (200 : Int), d := (300 : Int) } } (100 : Int)) == (202 : Int) && (M.Wine.c1 (M.after { v0 := M.Wine.v0 { v0 := (1000 : Int), v1 := (1000 : Int), s0 := (1500 : Int), s1 := (1600 : Int), c0 := (200 : Int), c1 := (200 : Int) }, v1 := M.Wine.v1 { v0 := (1000 : Int), v1 := (1000 : Int), s0 := (1500 : Int), s1 := (1600 : Int), c0 := (200 : Int), c1 := (200 : Int) }, s0 := M.Wine.s0 { v0 := (1000 : Int), v1 := (1000 : Int), s0 := (1500 : Int), s1 := (1600 : Int), c0 := (200 : Int), c1 := (200 : Int) }, s1 := M.Wine.s1 { v0 := (1000 : Int), v1 := (1000 : Int), s0 := (1500 : Int), s1 := (1600 : Int), c0 := (200 : Int), c1 := (200 : Int) }, c0 := M.Wine.c0 { v0 := (1000 : Int), v1 := (1000 : Int), s0 := (1500 : Int), s1 := (1600 : Int), c0 := (200 : Int), c1 := (200 : Int) }, c1 := M.Wine.c1 { v0 := (1000 : Int), v1 := (1000 : Int), s0 := (1500 : Int), s1 := (1600 : Int), c0 := (200 : Int), c1 := (200 : Int) } } { a := M.Rate.a { a := (100 : Int), b := (200 : Int), c := (200 : Int), d := (300 : Int) }, b := M.Rate.b { a := (100 : Int), b := (200 : Int), c := (200 : Int), d := (300 : Int) }, c := M.Rate.c { a := (100 : Int), b := (200 : Int), c := (200 : Int), d := (300 : Int) }, d := M.Rate.d { a := (100 : Int), b := (200 : Int), c := (200 : Int), d := (300 : Int) } } (100 : Int)) == (205 : Int) && true) && true))) =
          false)
        (T.ret (Value.bool false)))))
  (T.need (((0 : Int) == (0 : Int)) = false) (T.ret (Value.bool false))) := by kernel_rfl
theorem C20 : GOK Tryd.prog gw 20 [] d20 := by
  intro gs p v hd hp w xs hw hx
  unfold d20 at hd
  split at hd
  · cases hd
    refine grp_fin mixed gw_stable gw_glob (sl := [s70, s71, s56, s27, s39, s58]) ⟨S70, S71, S56, S27, S39, S58, trivial⟩ Tryd.func20 hw hx rfl rfl rfl rfl (t20 ) rfl ?_
    repeat (first | with_reducible refine br_true (by kernel_rfl) ?_ | with_reducible refine need_ok (by kernel_rfl) ?_)
    exact ret_ok (by kernel_rfl)
  · cases hd
end Go.Fl
end

section
set_option linter.unusedVariables false
set_option linter.unusedSimpArgs false
namespace Go.Fl.M
/-- n / d against m. -/
def compare1 (n d m : Int) : Int :=
  cond (decide (floor n d < m)) (-1) (cond (decide (floor n d > m)) 1 (cond (W (n - W (floor n d * d)) == 0) 0 1))
def between (n d : Int) (r : Rg) : Bool := cond (decide (compare1 n d r.lo ≥ 0)) (decide (compare1 n d r.hi ≤ 0)) false
end Go.Fl.M
namespace Go.Fl.L
open Go.Fl.M
theorem floor_eq {n b : Int} (hb : 0 < b) (h1 : -1000000000000000000 ≤ n) (h2 : n ≤ 1000000000000000000) : floor n b = n / b := by
  unfold floor
  have e := Int.tmod_add_mul_tdiv n b
  have eb := Int.emod_add_mul_ediv n b
  have m0 := Int.emod_nonneg n (by omega : b ≠ 0)
  have m1 := Int.emod_lt_of_pos n hb
  have tl : -b < n.tmod b ∧ n.tmod b < b := by
    exact ⟨Int.lt_tmod_of_pos n hb, Int.tmod_lt_of_pos n hb⟩
  have key : (n.tmod b < 0 → n / b = n.tdiv b - 1) ∧ (¬ n.tmod b < 0 → n / b = n.tdiv b) := by
    constructor
    · intro h
      have : b * (n.tdiv b - 1) ≤ n ∧ n < b * (n.tdiv b - 1) + b := by
        have : b * (n.tdiv b - 1) = b * n.tdiv b - b := by rw [Int.mul_sub, Int.mul_one]
        omega
      refine Int.le_antisymm ?_ ?_
      · apply Int.le_of_lt_add_one
        apply Int.ediv_lt_of_lt_mul hb
        have : (n.tdiv b - 1 + 1) * b = b * (n.tdiv b - 1) + b := by rw [Int.add_mul, Int.mul_comm b, Int.one_mul]
        omega
      · apply Int.le_ediv_of_mul_le hb
        rw [Int.mul_comm]; omega
    · intro h
      refine Int.le_antisymm ?_ ?_
      · apply Int.le_of_lt_add_one
        apply Int.ediv_lt_of_lt_mul hb
        have : (n.tdiv b + 1) * b = b * n.tdiv b + b := by rw [Int.add_mul, Int.mul_comm b, Int.one_mul]
        omega
      · apply Int.le_ediv_of_mul_le hb
        rw [Int.mul_comm]; omega
  have bd : -1000000000000000000 ≤ n / b ∧ n / b ≤ 1000000000000000000 := by
    constructor
    · apply Int.le_ediv_of_mul_le hb
      have : -1000000000000000000 * b ≤ -1000000000000000000 * 1 := by omega
      omega
    · apply Int.ediv_le_of_le_mul hb
      have : 1000000000000000000 * 1 ≤ 1000000000000000000 * b := by omega
      omega
  by_cases h : n.tmod b < 0
  · rw [decide_eq_true h, cond_true]
    have := key.1 h
    rw [W_id (n := n.tdiv b) (by omega) (by omega), W_id (by omega) (by omega)]; omega
  · rw [decide_eq_false h, cond_false]
    have := key.2 h
    rw [W_id (by omega) (by omega)]; omega
theorem floor_mul {n b : Int} (hb : 0 < b) (h1 : -1000000000000000000 ≤ n) (h2 : n ≤ 1000000000000000000) : floor n b * b ≤ n ∧ n < floor n b * b + b := by
  rw [floor_eq hb h1 h2]
  have e := Int.emod_add_mul_ediv n b
  have m0 := Int.emod_nonneg n (by omega : b ≠ 0)
  have m1 := Int.emod_lt_of_pos n hb
  rw [Int.mul_comm]
  omega
theorem floor_bd {n b : Int} (hb : 0 < b) (h1 : -1000000000000000000 ≤ n) (h2 : n ≤ 1000000000000000000) : -1000000000000000000 ≤ floor n b ∧ floor n b ≤ 1000000000000000000 := by
  rw [floor_eq hb h1 h2]
  constructor
  · apply Int.le_ediv_of_mul_le hb
    have : -1000000000000000000 * b ≤ -1000000000000000000 * 1 := by omega
    omega
  · apply Int.ediv_le_of_le_mul hb
    have : 1000000000000000000 * 1 ≤ 1000000000000000000 * b := by omega
    omega
theorem ceiling_mul {n b : Int} (hb : 0 < b) (h1 : -1000000000000000000 ≤ n) (h2 : n ≤ 1000000000000000000) : n ≤ ceiling n b * b ∧ ceiling n b * b < n + b := by
  unfold ceiling
  have e : W (0 - n) = -n := by rw [W_id (by omega) (by omega)]; omega
  rw [e]
  have b1 := floor_bd hb (n := -n) (by omega) (by omega)
  have b2 := floor_mul hb (n := -n) (by omega) (by omega)
  rw [W_id (by omega) (by omega)]
  have : (0 - floor (-n) b) * b = -(floor (-n) b * b) := by rw [Int.sub_mul, Int.zero_mul]; omega
  omega
/-- lo ≤ floor, by its multiple. -/
theorem le_floor {n b q : Int} (hb : 0 < b) (h1 : -1000000000000000000 ≤ n) (h2 : n ≤ 1000000000000000000) : q ≤ floor n b ↔ q * b ≤ n := by
  rw [floor_eq hb h1 h2]
  exact Int.le_ediv_iff_mul_le hb
theorem ceiling_le {n b q : Int} (hb : 0 < b) (h1 : -1000000000000000000 ≤ n) (h2 : n ≤ 1000000000000000000) : ceiling n b ≤ q ↔ n ≤ q * b := by
  have b1 := floor_bd hb (n := -n) (by omega) (by omega)
  have e : ceiling n b = - floor (-n) b := by
    unfold ceiling
    have e : W (0 - n) = -n := by rw [W_id (by omega) (by omega)]; omega
    rw [e, W_id (by omega) (by omega)]; omega
  have := le_floor hb (n := -n) (q := -q) (by omega) (by omega)
  have e2 : -q * b = -(q * b) := Int.neg_mul q b
  rw [e]
  constructor
  · intro h; have := this.1 (by omega); omega
  · intro h; have := this.2 (by omega); omega
theorem between_true {n d : Int} {r : Rg} (hd : 0 < d) (h1 : -100000000000000000 ≤ n) (h2 : n ≤ 100000000000000000) (hd2 : d ≤ 100000000000000000) (hl : r.lo * d ≤ n) (hh : n ≤ r.hi * d) : between n d r = true := by
  have f1 := (le_floor hd (by omega) (by omega) (q := r.lo)).2 hl
  have fm := floor_mul hd (n := n) (by omega) (by omega)
  have fb := floor_bd hd (n := n) (by omega) (by omega)
  have e1 : W (floor n d * d) = floor n d * d := W_id (by omega) (by omega)
  have e2 : W (n - floor n d * d) = n - floor n d * d := W_id (by omega) (by omega)
  have c1 : compare1 n d r.lo ≥ 0 := by
    unfold compare1
    rw [e1, e2, decide_eq_false (by omega), cond_false]
    cases decide (floor n d > r.lo)
    · rw [cond_false]
      cases (n - floor n d * d == 0) <;> simp
    · simp
  have c2 : compare1 n d r.hi ≤ 0 := by
    unfold compare1
    rw [e1, e2]
    by_cases h : floor n d < r.hi
    · rw [decide_eq_true h]; simp
    · rw [decide_eq_false h, cond_false]
      have g : floor n d ≤ r.hi := by
        apply Int.le_of_lt_add_one
        rw [floor_eq hd (by omega) (by omega)]
        apply Int.ediv_lt_of_lt_mul hd
        rw [Int.add_mul, Int.one_mul]; omega
      have g' : floor n d = r.hi := by omega
      rw [decide_eq_false (by omega), cond_false]
      have : (n - floor n d * d == 0) = true := by
        rw [beq_iff_eq]
        rw [g'] at fm ⊢
        omega
      rw [this, cond_true]
      decide
  unfold between
  rw [decide_eq_true c1, cond_true, decide_eq_true c2]
theorem mod_bd {n b : Int} (hb : 0 < b) (hb2 : b ≤ 1000000000000) : 0 ≤ mod n b ∧ mod n b < b := by
  have tl : -b < n.tmod b ∧ n.tmod b < b := by
    exact ⟨Int.lt_tmod_of_pos n hb, Int.tmod_lt_of_pos n hb⟩
  unfold mod
  by_cases h : n.tmod b < 0
  · rw [decide_eq_true h, cond_true, W_id (by omega) (by omega)]; omega
  · rw [decide_eq_false h, cond_false]; omega
theorem pick_bd {r : Rg} {b : Int} (h0 : 0 ≤ r.lo) (h : r.lo ≤ r.hi) (h1 : r.hi ≤ 100000000000) : r.lo ≤ pick r b ∧ pick r b ≤ r.hi := by
  unfold pick
  have e : W (W (r.hi - r.lo) + 1) = r.hi - r.lo + 1 := by rw [W_id (n := r.hi - r.lo) (by omega) (by omega), W_id (by omega) (by omega)]
  have e2 := mod_bd (n := b) (b := r.hi - r.lo + 1) (by omega) (by omega)
  rw [e, W_id (by omega) (by omega)]
  omega
theorem pick_ne {r : Rg} (h0 : 0 ≤ r.lo) (h : r.lo ≤ r.hi) (h1 : r.hi ≤ 100000000000) : W (W (r.hi - r.lo) + 1) ≠ 0 := by
  have e : W (W (r.hi - r.lo) + 1) = r.hi - r.lo + 1 := by rw [W_id (n := r.hi - r.lo) (by omega) (by omega), W_id (by omega) (by omega)]
  omega
end Go.Fl.L
end

section
set_option linter.unusedVariables false
set_option linter.unusedSimpArgs false
namespace Go.Fl.L
open Go.Fl.M
structure TrueIn (w : Wine) (r : Rate) (d v s c p q : Int) : Prop where
  loss : between (W (v * W (p * d))) 1000000 (rLossOf w r d) = true
  vol : between (W (v * W (1000000 - W (p * d)))) 1000000 ⟨(after w r d).v0, (after w r d).v1⟩ = true
  str : between (W (s * W (1000000 - W (q * d)))) (W (1000000 - W (p * d))) ⟨(after w r d).s0, (after w r d).s1⟩ = true
  sug : between (W (c * 1000000)) (W (1000000 - W (p * d))) ⟨(after w r d).c0, (after w r d).c1⟩ = true
  ne : W (1000000 - W (p * d)) ≠ 0
end Go.Fl.L
end

section
set_option linter.unusedVariables false
set_option linter.unusedSimpArgs false
namespace Go.Fl.L
open Go.Fl.M
end Go.Fl.L
end

section
set_option linter.unusedVariables false
set_option linter.unusedSimpArgs false
namespace Go.Fl.L
open Go.Fl.M
structure Back (w : Wine) (r : Rate) (d : Int) : Prop where
  fv : (after w r d).v1 ≤ 100000
  ff : (RatesOf w (after w r d) d).2 = 0
  fa : (RatesOf w (after w r d) d).1.a ≤ r.a
  fb : r.b ≤ (RatesOf w (after w r d) d).1.b
  fc : (RatesOf w (after w r d) d).1.c ≤ r.c
  fd : r.d ≤ (RatesOf w (after w r d) d).1.d
  fe : Explains r 0 w d (after w r d) = (2, 0)
end Go.Fl.L
end

section
namespace Go.Fl.L
open Go.Fl.M
theorem floor_one {m : Int} (h : W m = m) : floor m 1 = m := by
  unfold floor
  rw [Int.tmod_one, Int.tdiv_one]
  exact h
end Go.Fl.L
end

section
set_option linter.unusedVariables false
namespace Go.Fl
open Go.Eng
def d84 : DomG
  | [[.int .i64 n], [.int .i64 d], [.int .i64 m], [.int .i64 1]] => some ([d ≠ 0, M.W m = m], vI (M.compare1 n d m))
  | _ => none
def s84 : Nat × Sm := (84, grpSm [.c, .c, .c, .c] d84)
def d33 : DomG
  | [[.int .i64 n], [.int .i64 d], [.int .i64 lo, .int .i64 hi]] => some ([d ≠ 0, M.W lo = lo, M.W hi = hi], vB (M.between n d ⟨lo, hi⟩))
  | _ => none
end Go.Fl
end

section
set_option linter.unusedVariables false
set_option linter.unusedSimpArgs false
namespace Go.Fl2
open Go.V Go.Fl
def G0 : GT := fun _ => none
def rdI (F : Nat → D) (j : Nat) : Int := match F j with | .int _ n => n | _ => 0
abbrev dI (n : Int) : D := .int .i64 n
abbrev rI (n : Int) : Ar := .c (.int .i64 n)
abbrev rB (b : Bool) : Ar := .c (.bool b)
abbrev dsW (w : M.Wine) : List D := [dI w.v0, dI w.v1, dI w.s0, dI w.s1, dI w.c0, dI w.c1]
structure Spell where
  r : M.Rate
  d : Int
structure Meas where
  day : Int
  w : M.Wine
def eI : Enc Int := ⟨1, fun n _ => dI n, fun F => rdI F 0, 0, fun _ => rfl⟩
def encW (w : M.Wine) : Nat → D
  | 0 => dI w.v0
  | 1 => dI w.v1
  | 2 => dI w.s0
  | 3 => dI w.s1
  | 4 => dI w.c0
  | _ => dI w.c1
def eW : Enc M.Wine := ⟨6, encW, fun F => ⟨rdI F 0, rdI F 1, rdI F 2, rdI F 3, rdI F 4, rdI F 5⟩, ⟨0, 0, 0, 0, 0, 0⟩, fun _ => rfl⟩
/-- A short list of numbers. -/
def intsL : Nat → (Nat → Nat → D) → Option (List Int)
  | 0, _ => some []
  | n + 1, F => match F 0 0, intsL n (fun i => F (i + 1)) with | .int .i64 x, some l => some (x :: l) | _, _ => none
theorem intsL_spec : ∀ {n : Nat} {F : Nat → Nat → D} {l : List Int}, intsL n F = some l → l.length = n ∧ ∀ i, i < n → F i 0 = dI (l.getD i 0) := by
  intro n
  induction n with
  | zero => intro F l h; simp [intsL] at h; subst h; exact ⟨rfl, fun i hi => by omega⟩
  | succ n ih =>
    intro F l h
    simp only [intsL] at h
    split at h
    · rename_i x k hx hk
      simp only [Option.some.injEq] at h; subst h
      obtain ⟨h1, h2⟩ := ih hk
      refine ⟨by simp [h1], fun i hi => ?_⟩
      cases i with
      | zero => simpa using hx
      | succ i => simpa using h2 i (by omega)
    · cases h
def dom76 : DomF
  | [.c (.sl q len st F)] => (match Nat.beq st 1 && Nat.ble len 1000, intsL len F with
    | true, some l => some ([], [rI (M.first l)])
    | _, _ => none)
  | _ => none
def v76 : Nat × Sm := (76, fokSm dom76)
def bs (n : Nat) (sh : List Eng.Shp) (d : Eng.DomG) : Nat × Sm := (n, fokSm (bdom sh d))
def v21 := bs 21 [.agg] d21
def v22 := bs 22 [.agg] d22
def v85 := bs 85 [.c, .c] d85
end Go.Fl2
end

section
namespace Go.Fl
open Go.Eng Go.RowKit Go.Proofs
set_option maxRecDepth 100000
set_option linter.unusedSimpArgs false
set_option linter.unusedVariables false
theorem t84 (n : Int) (d : Int) (m : Int) : runFn Tryd.prog 1 1 (lookS [s68]) 2 Tryd.f84 [.c (.int .i64 n), .c (.int .i64 d), .c (.int .i64 m), .c (.int .i64 1)] gb =
    T.need (d ≠ (0 : Int))
  (T.need ((1 : Int) ≠ (0 : Int))
    (T.br (decide (M.floor n d < M.floor m (1 : Int))) (T.ret (Value.int IntKind.i64 (-1 : Int)))
      (T.br (decide (M.floor n d > M.floor m (1 : Int))) (T.ret (Value.int IntKind.i64 (1 : Int)))
        (T.br (IntKind.wrap IntKind.i64 (n - IntKind.wrap IntKind.i64 (M.floor n d * d)) == (0 : Int))
          (T.need ((IntKind.wrap IntKind.i64 (n - IntKind.wrap IntKind.i64 (M.floor n d * d)) == (0 : Int)) = true)
            (T.br (IntKind.wrap IntKind.i64 (m - IntKind.wrap IntKind.i64 (M.floor m (1 : Int) * (1 : Int))) == (0 : Int)) (T.ret (Value.int IntKind.i64 (0 : Int)))
              (T.br (IntKind.wrap IntKind.i64 (n - IntKind.wrap IntKind.i64 (M.floor n d * d)) == (0 : Int)) (T.ret (Value.int IntKind.i64 (-1 : Int)))
                (T.br (IntKind.wrap IntKind.i64 (m - IntKind.wrap IntKind.i64 (M.floor m (1 : Int) * (1 : Int))) == (0 : Int)) (T.ret (Value.int IntKind.i64 (1 : Int)))
                  (T.need (IntKind.wrap IntKind.i64 (m - IntKind.wrap IntKind.i64 (M.floor m (1 : Int) * (1 : Int))) ≠ (0 : Int))
                    (T.need (IntKind.wrap IntKind.i64 (n - IntKind.wrap IntKind.i64 (M.floor n d * d)) ≠ (0 : Int))
                      (T.br (decide (M.floor (1 : Int) (IntKind.wrap IntKind.i64 (m - IntKind.wrap IntKind.i64 (M.floor m (1 : Int) * (1 : Int)))) < M.floor d (IntKind.wrap IntKind.i64 (n - IntKind.wrap IntKind.i64 (M.floor n d * d))))) (T.ret (Value.int IntKind.i64 (-1 : Int))) (T.br (decide (M.floor (1 : Int) (IntKind.wrap IntKind.i64 (m - IntKind.wrap IntKind.i64 (M.floor m (1 : Int) * (1 : Int)))) > M.floor d (IntKind.wrap IntKind.i64 (n - IntKind.wrap IntKind.i64 (M.floor n d * d))))) (T.ret (Value.int IntKind.i64 (1 : Int))) (T.br (IntKind.wrap IntKind.i64 ((1 : Int) - IntKind.wrap IntKind.i64 (M.floor (1 : Int) (IntKind.wrap IntKind.i64 (m - IntKind.wrap IntKind.i64 (M.floor m (1 : Int) * (1 : Int)))) * IntKind.wrap IntKind.i64 (m - IntKind.wrap IntKind.i64 (M.floor m (1 : Int) * (1 : Int))))) == (0 : Int)) (T.need ((IntKind.wrap IntKind.i64 ((1 : Int) - IntKind.wrap IntKind.i64 (M.floor (1 : Int) (IntKind.wrap IntKind.i64 (m - IntKind.wrap IntKind.i64 (M.floor m (1 : Int) * (1 : Int)))) * IntKind.wrap IntKind.i64 (m - IntKind.wrap IntKind.i64 (M.floor m (1 : Int) * (1 : Int))))) == (0 : Int)) = true) (T.br (IntKind.wrap IntKind.i64 (d - IntKind.wrap IntKind.i64 (M.floor d (IntKind.wrap IntKind.i64 (n - IntKind.wrap IntKind.i64 (M.floor n d * d))) * IntKind.wrap IntKind.i64 (n - IntKind.wrap IntKind.i64 (M.floor n d * d)))) == (0 : Int)) (T.ret (Value.int IntKind.i64 (0 : Int))) (T.br (IntKind.wrap IntKind.i64 ((1 : Int) - IntKind.wrap IntKind.i64 (M.floor (1 : Int) (IntKind.wrap IntKind.i64 (m - IntKind.wrap IntKind.i64 (M.floor m (1 : Int) * (1 : Int)))) * IntKind.wrap IntKind.i64 (m - IntKind.wrap IntKind.i64 (M.floor m (1 : Int) * (1 : Int))))) == (0 : Int)) (T.ret (Value.int IntKind.i64 (-1 : Int))) (T.br (IntKind.wrap IntKind.i64 (d - IntKind.wrap IntKind.i64 (M.floor d (IntKind.wrap IntKind.i64 (n - IntKind.wrap IntKind.i64 (M.floor n d * d))) * IntKind.wrap IntKind.i64 (n - IntKind.wrap IntKind.i64 (M.floor n d * d)))) == (0 : Int)) (T.ret (Value.int IntKind.i64 (1 : Int))) T.fail)))) (T.need ((IntKind.wrap IntKind.i64 ((1 : Int) - IntKind.wrap IntKind.i64 (M.floor (1 : Int) (IntKind.wrap IntKind.i64 (m - IntKind.wrap IntKind.i64 (M.floor m (1 : Int) * (1 : Int)))) * IntKind.wrap IntKind.i64 (m - IntKind.wrap IntKind.i64 (M.floor m (1 : Int) * (1 : Int))))) == (0 : Int)) = false) (T.br (IntKind.wrap IntKind.i64 ((1 : Int) - IntKind.wrap IntKind.i64 (M.floor (1 : Int) (IntKind.wrap IntKind.i64 (m - IntKind.wrap IntKind.i64 (M.floor m (1 : Int) * (1 : Int)))) * IntKind.wrap IntKind.i64 (m - IntKind.wrap IntKind.i64 (M.floor m (1 : Int) * (1 : Int))))) == (0 : Int)) (T.ret (Value.int IntKind.i64 (-1 : Int))) (T.br (IntKind.wrap IntKind.i64 (d - IntKind.wrap IntKind.i64 (M.floor d (IntKind.wrap IntKind.i64 (n - IntKind.wrap IntKind.i64 (M.floor n d * d))) * IntKind.wrap IntKind.i64 (n - IntKind.wrap IntKind.i64 (M.floor n d * d)))) == (0 : Int)) (T.ret (Value.int IntKind.i64 (1 : Int))) T.fail))))))))))))
          (T.need ((IntKind.wrap IntKind.i64 (n - IntKind.wrap IntKind.i64 (M.floor n d * d)) == (0 : Int)) = false)
            (T.br (IntKind.wrap IntKind.i64 (n - IntKind.wrap IntKind.i64 (M.floor n d * d)) == (0 : Int)) (T.ret (Value.int IntKind.i64 (-1 : Int)))
              (T.br (IntKind.wrap IntKind.i64 (m - IntKind.wrap IntKind.i64 (M.floor m (1 : Int) * (1 : Int))) == (0 : Int)) (T.ret (Value.int IntKind.i64 (1 : Int)))
                (T.need (IntKind.wrap IntKind.i64 (m - IntKind.wrap IntKind.i64 (M.floor m (1 : Int) * (1 : Int))) ≠ (0 : Int))
                  (T.need (IntKind.wrap IntKind.i64 (n - IntKind.wrap IntKind.i64 (M.floor n d * d)) ≠ (0 : Int))
                    (T.br (decide (M.floor (1 : Int) (IntKind.wrap IntKind.i64 (m - IntKind.wrap IntKind.i64 (M.floor m (1 : Int) * (1 : Int)))) < M.floor d (IntKind.wrap IntKind.i64 (n - IntKind.wrap IntKind.i64 (M.floor n d * d))))) (T.ret (Value.int IntKind.i64 (-1 : Int))) (T.br (decide (M.floor (1 : Int) (IntKind.wrap IntKind.i64 (m - IntKind.wrap IntKind.i64 (M.floor m (1 : Int) * (1 : Int)))) > M.floor d (IntKind.wrap IntKind.i64 (n - IntKind.wrap IntKind.i64 (M.floor n d * d))))) (T.ret (Value.int IntKind.i64 (1 : Int))) (T.br (IntKind.wrap IntKind.i64 ((1 : Int) - IntKind.wrap IntKind.i64 (M.floor (1 : Int) (IntKind.wrap IntKind.i64 (m - IntKind.wrap IntKind.i64 (M.floor m (1 : Int) * (1 : Int)))) * IntKind.wrap IntKind.i64 (m - IntKind.wrap IntKind.i64 (M.floor m (1 : Int) * (1 : Int))))) == (0 : Int)) (T.need ((IntKind.wrap IntKind.i64 ((1 : Int) - IntKind.wrap IntKind.i64 (M.floor (1 : Int) (IntKind.wrap IntKind.i64 (m - IntKind.wrap IntKind.i64 (M.floor m (1 : Int) * (1 : Int)))) * IntKind.wrap IntKind.i64 (m - IntKind.wrap IntKind.i64 (M.floor m (1 : Int) * (1 : Int))))) == (0 : Int)) = true) (T.br (IntKind.wrap IntKind.i64 (d - IntKind.wrap IntKind.i64 (M.floor d (IntKind.wrap IntKind.i64 (n - IntKind.wrap IntKind.i64 (M.floor n d * d))) * IntKind.wrap IntKind.i64 (n - IntKind.wrap IntKind.i64 (M.floor n d * d)))) == (0 : Int)) (T.ret (Value.int IntKind.i64 (0 : Int))) (T.br (IntKind.wrap IntKind.i64 ((1 : Int) - IntKind.wrap IntKind.i64 (M.floor (1 : Int) (IntKind.wrap IntKind.i64 (m - IntKind.wrap IntKind.i64 (M.floor m (1 : Int) * (1 : Int)))) * IntKind.wrap IntKind.i64 (m - IntKind.wrap IntKind.i64 (M.floor m (1 : Int) * (1 : Int))))) == (0 : Int)) (T.ret (Value.int IntKind.i64 (-1 : Int))) (T.br (IntKind.wrap IntKind.i64 (d - IntKind.wrap IntKind.i64 (M.floor d (IntKind.wrap IntKind.i64 (n - IntKind.wrap IntKind.i64 (M.floor n d * d))) * IntKind.wrap IntKind.i64 (n - IntKind.wrap IntKind.i64 (M.floor n d * d)))) == (0 : Int)) (T.ret (Value.int IntKind.i64 (1 : Int))) T.fail)))) (T.need ((IntKind.wrap IntKind.i64 ((1 : Int) - IntKind.wrap IntKind.i64 (M.floor (1 : Int) (IntKind.wrap IntKind.i64 (m - IntKind.wrap IntKind.i64 (M.floor m (1 : Int) * (1 : Int)))) * IntKind.wrap IntKind.i64 (m - IntKind.wrap IntKind.i64 (M.floor m (1 : Int) * (1 : Int))))) == (0 : Int)) = false) (T.br (IntKind.wrap IntKind.i64 ((1 : Int) - IntKind.wrap IntKind.i64 (M.floor (1 : Int) (IntKind.wrap IntKind.i64 (m - IntKind.wrap IntKind.i64 (M.floor m (1 : Int) * (1 : Int)))) * IntKind.wrap IntKind.i64 (m - IntKind.wrap IntKind.i64 (M.floor m (1 : Int) * (1 : Int))))) == (0 : Int)) (T.ret (Value.int IntKind.i64 (-1 : Int))) (T.br (IntKind.wrap IntKind.i64 (d - IntKind.wrap IntKind.i64 (M.floor d (IntKind.wrap IntKind.i64 (n - IntKind.wrap IntKind.i64 (M.floor n d * d))) * IntKind.wrap IntKind.i64 (n - IntKind.wrap IntKind.i64 (M.floor n d * d)))) == (0 : Int)) (T.ret (Value.int IntKind.i64 (1 : Int))) T.fail))))))))))))))) := by kernel_rfl
theorem C84 : GOK Tryd.prog gw 84 [.c, .c, .c, .c] d84 := by
  intro gs p v hd hp w xs hw hx
  unfold d84 at hd
  split at hd
  · cases hd
    refine grp_fin mixed gw_stable gw_glob (sl := [s68]) ⟨S68, trivial⟩ Tryd.func84 hw hx rfl rfl rfl rfl (t84 _ _ _) rfl ?_
    rename_i n d m
    obtain ⟨hp0, hp1, _⟩ := hp
    have e1 : M.floor m 1 = m := L.floor_one hp1
    have e2 : M.W (m - M.W (m * 1)) = 0 := by rw [Int.mul_one, hp1, Int.sub_self]; rfl
    have e3 : M.W (m - m) = 0 := by rw [Int.sub_self]; rfl
    have e4 : IntKind.wrap .i64 0 = 0 := rfl
    by_cases a1 : M.floor n d < m <;> by_cases a2 : m < M.floor n d <;> cases a3 : (M.W (n - M.W (M.floor n d * d)) == 0)
    all_goals simp [T.wp, e1, hp1, e4, M.compare1, a1, a2, a3, hp0]
  · cases hd
theorem S84 : SumOK Tryd.prog gw 84 (grpSm [.c, .c, .c, .c] d84) := grp_sum Tryd.func84 rfl C84
theorem t33 (n : Int) (d : Int) (lo : Int) (hi : Int) : runFn Tryd.prog 1 1 (lookS [s84]) 40 Tryd.f33 [.c (.int .i64 n), .c (.int .i64 d), .agg [.int .i64 lo, .int .i64 hi]] gb =
    T.br (decide (M.compare1 n d lo ≥ (0 : Int))) (T.need (d ≠ (0 : Int)) (T.need (M.W lo = lo) (T.need (decide (M.compare1 n d lo ≥ (0 : Int)) = true) (T.need (d ≠ (0 : Int)) (T.need (M.W hi = hi) (T.ret (Value.bool (decide (M.compare1 n d hi ≤ (0 : Int)))))))))) (T.need (d ≠ (0 : Int)) (T.need (M.W lo = lo) (T.need (decide (M.compare1 n d lo ≥ (0 : Int)) = false) (T.ret (Value.bool false))))) := by kernel_rfl
theorem C33 : GOK Tryd.prog gw 33 [.c, .c, .agg] d33 := by
  intro gs p v hd hp w xs hw hx
  unfold d33 at hd
  split at hd
  · cases hd
    refine grp_fin mixed gw_stable gw_glob (sl := [s84]) ⟨S84, trivial⟩ Tryd.func33 hw hx rfl rfl rfl rfl (t33 _ _ _ _) rfl ?_
    obtain ⟨hp0, hp1, hp2, _⟩ := hp
    simp only [T.wp]
    repeat' (first | with_reducible assumption | decide | refine ⟨?_, ?_⟩ | intro _)
    all_goals (try simp only [Bool.not_eq_true', Bool.not_eq_false'] at *)
    all_goals (first | rfl | (simp only [M.between, M.Wine.v, M.Wine.s, M.Wine.c, M.Rate.w, M.Rate.al, M.wine0, M.rg0, M.rate0, cond_true, cond_false, decide_true, decide_false, *]; done) | (simp only [M.between, M.Wine.v, M.Wine.s, M.Wine.c, M.Rate.w, M.Rate.al, M.wine0, M.rg0, M.rate0, cond_true, cond_false]; grind))
  · cases hd
end Go.Fl
end

section
namespace Go.Fl
open Go.Eng Go.RowKit Go.Proofs
set_option maxRecDepth 100000
set_option linter.unusedSimpArgs false
set_option linter.unusedVariables false
end Go.Fl
end

section
set_option linter.unusedVariables false
set_option linter.unusedSimpArgs false
set_option maxRecDepth 100000
namespace Go.Fl2
open Go.V Go.Fl Go.Proofs
theorem wrap_id {n : Int} (h0 : -9223372036854775808 ≤ n) (h1 : n < 9223372036854775808) : IntKind.wrap IntKind.i64 n = n := by rw [IntKind.wrap_i64]; omega
theorem getD_drop {α : Type} {l : List α} {d : α} {k : Nat} (h : k < l.length) : l.drop k = l.getD k d :: l.drop (k + 1) := by
  rw [List.drop_eq_getElem_cons h]; simp [h]
theorem t76 (q : Bool) (l : List Int) : runFn Tryd.prog G0 (lookS []) [(2, [.slot 7 (.int .i64)], none)] 40 Tryd.f76 [.c (.sl q l.length 1 (eI.F l))] =
    T.loop (Int × PUnit) ((0 : Int), PUnit.unit) fun (x : Int × PUnit) => T.br (decide (Prod.fst x < ↑(List.length l))) (T.need ((0 : Int) ≤ Prod.fst x) (T.need (Prod.fst x < ↑(List.length l)) (T.br (List.getD l (Int.toNat (Prod.fst x)) (0 : Int) != (0 : Int)) (T.ret (Sum.inr [Ar.c (D.int IntKind.i64 (List.getD l (Int.toNat (Prod.fst x)) (0 : Int)))])) (T.ret (Sum.inl (IntKind.wrap IntKind.i64 (Prod.fst x + (1 : Int)), PUnit.unit)))))) (T.ret (Sum.inr [Ar.c (D.int IntKind.i64 (0 : Int))])) := by kernel_rfl
theorem C76v : FOK Tryd.prog G0 gw 76 dom76 := by
  intro ags p r hd hp κ w xs hw hl hG hx
  unfold dom76 at hd
  split at hd
  · rename_i q len st F
    split at hd
    · rename_i l hst hls
      simp only [Bool.and_eq_true] at hst
      have h1 := Nat.eq_of_beq_eq_true hst.1
      have h2 := Nat.le_of_ble_eq_true hst.2
      subst h1
      obtain ⟨hlen, hF⟩ := intsL_spec hls
      simp only [Option.some.injEq, Prod.mk.injEq] at hd
      obtain ⟨rfl, rfl⟩ := hd
      subst hlen
      refine fok_fin mixed gw_stable (sl := []) trivial Tryd.func76 hw hl hG hx (ags' := [.c (.sl q l.length 1 (eI.F l))]) ⟨⟨id, rfl, fun _ => rfl, fun i j hi hj => ?_⟩, trivial⟩ rfl (t76 q l) ?_
      · obtain rfl : j = 0 := by omega
        rw [hF i hi]; exact D.eqv_refl _
      · refine ⟨fun x => 0 ≤ x.1 ∧ x.1 ≤ l.length ∧ M.first l = M.first (l.drop x.1.toNat), fun x => l.length - x.1.toNat, ⟨Int.le_refl _, by simp, by simp⟩, fun x ⟨g1, g2, g3⟩ => ?_⟩
        obtain ⟨k, u⟩ := x
        simp only at g1 g2 g3
        simp only [T.wp, LoopP, decide_eq_true_eq, decide_eq_false_iff_not, bne_iff_ne, ne_eq, bne_eq_false_iff_eq]
        refine ⟨fun hlt => ⟨g1, hlt, fun hne => ?_, fun heq => ?_⟩, fun hge => ?_⟩
        · have hk : k.toNat < l.length := by omega
          rw [g3, getD_drop (d := 0) hk]
          have : (l.getD k.toNat 0 != 0) = true := by simpa using hne
          simp only [M.first, this, cond_true]
          exact rsEqv_refl _
        · have hk : k.toNat < l.length := by omega
          rw [wrap_id (by omega) (by omega)]
          refine ⟨⟨by omega, by omega, ?_⟩, by omega⟩
          rw [g3, getD_drop (d := 0) hk, show (k + 1).toNat = k.toNat + 1 by omega]
          simp only [M.first]
          rw [heq]; rfl
        · have hk : l.length ≤ k.toNat := by omega
          rw [g3, List.drop_of_length_le hk]
          exact rsEqv_refl _
    · cases hd
  · cases hd
theorem S76v : SumOK Tryd.prog G0 gw 76 (fokSm dom76) := fok_sum Tryd.func76 rfl C76v
theorem S21v : SumOK Tryd.prog G0 gw 21 (fokSm (bdom [.agg] d21)) := fok_sum Tryd.func21 rfl (bridge C21)
theorem S22v : SumOK Tryd.prog G0 gw 22 (fokSm (bdom [.agg] d22)) := fok_sum Tryd.func22 rfl (bridge C22)
theorem S85v : SumOK Tryd.prog G0 gw 85 (fokSm (bdom [.c, .c] d85)) := fok_sum Tryd.func85 rfl (bridge C85)
end Go.Fl2
end

section
set_option linter.unusedVariables false
set_option linter.unusedSimpArgs false
namespace Go.Fl2
open Go.V Go.Fl
end Go.Fl2
end

section
set_option linter.unusedVariables false
set_option linter.unusedSimpArgs false
set_option maxRecDepth 100000
namespace Go.Fl2
open Go.V Go.Fl Go.Proofs
theorem wlit (X : M.Wine) : (∀ j, j < eW.st → ((fun (i j : Nat) => List.getD [dI X.v0, dI X.v1, dI X.s0, dI X.s1, dI X.c0, dI X.c1] (i * 6 + j) D.nilp) 0 j).eqv (eW.enc X j)) ∧ eW.rd ((fun (i j : Nat) => List.getD [dI X.v0, dI X.v1, dI X.s0, dI X.s1, dI X.c0, dI X.c1] (i * 6 + j) D.nilp) 0) = X := by
  refine ⟨fun j hj => ?_, rfl⟩
  match j, hj with
  | 0, _ => rfl
  | 1, _ => rfl
  | 2, _ => rfl
  | 3, _ => rfl
  | 4, _ => rfl
  | 5, _ => rfl
  | j + 6, hj => exact absurd hj (by show ¬ j + 6 < 6; omega)
theorem wlit1 (X : M.Wine) : eW.Is 1 (fun (i j : Nat) => List.getD [dI X.v0, dI X.v1, dI X.s0, dI X.s1, dI X.c0, dI X.c1] (i * 6 + j) D.nilp) ∧ eW.list 1 (fun (i j : Nat) => List.getD [dI X.v0, dI X.v1, dI X.s0, dI X.s1, dI X.c0, dI X.c1] (i * 6 + j) D.nilp) = [X] := by
  constructor
  · intro i j hi hj
    obtain rfl : i = 0 := by omega
    rw [(wlit X).2]; exact (wlit X).1 j hj
  · rfl
theorem wpush (l : List M.Wine) (X : M.Wine) : eW.Is (l.length + 1) (joinF l.length (eW.F l) fun (i j : Nat) => List.getD [dI X.v0, dI X.v1, dI X.s0, dI X.s1, dI X.c0, dI X.c1] (i * 6 + j) D.nilp) ∧
    eW.list (l.length + 1) (joinF l.length (eW.F l) fun (i j : Nat) => List.getD [dI X.v0, dI X.v1, dI X.s0, dI X.s1, dI X.c0, dI X.c1] (i * 6 + j) D.nilp) = l ++ [X] := eW.push (wlit X).1 (wlit X).2
theorem join0 (F F' : Nat → Nat → D) (i j : Nat) : joinF 0 F F' i j = F' i j := by
  have hb : Nat.blt i 0 = false := by rw [← Bool.not_eq_true, Nat.blt_eq]; omega
  simp only [joinF, hb, Nat.sub_zero]
theorem sucW (k : Nat) (h : k < 1000001) : IntKind.wrap IntKind.i64 ((k : Int) + 1) = ((k + 1 : Nat) : Int) := by rw [wrap_id (by omega) (by omega)]; omega
end Go.Fl2
end

section
set_option linter.unusedVariables false
set_option linter.unusedSimpArgs false
set_option maxRecDepth 100000
namespace Go.Fl2
open Go.V Go.Fl Go.Proofs
end Go.Fl2
end

section
set_option linter.unusedVariables false
set_option linter.unusedSimpArgs false
set_option maxRecDepth 100000
namespace Go.Fl2
open Go.V Go.Fl Go.Proofs
end Go.Fl2
end

section
set_option linter.unusedVariables false
set_option linter.unusedSimpArgs false
namespace Go.Fl2
open Go.V Go.Fl Go.Proofs
def v20 := bs 20 [] d20
def v55 := bs 55 [.c, .c, .c] d55
theorem S20v : SumOK Tryd.prog G0 gw 20 (fokSm (bdom [] d20)) := fok_sum Tryd.func20 rfl (bridge C20)
theorem S55v : SumOK Tryd.prog G0 gw 55 (fokSm (bdom [.c, .c, .c] d55)) := fok_sum Tryd.func55 rfl (bridge C55)
end Go.Fl2
end

section
set_option linter.unusedVariables false
set_option linter.unusedSimpArgs false
namespace Go.Fl2
open Go.V Go.Fl
end Go.Fl2
end

section
set_option linter.unusedVariables false
set_option linter.unusedSimpArgs false
set_option maxRecDepth 100000
namespace Go.Fl2
open Go.V Go.Fl Go.Proofs
theorem isI6 {len : Nat} (f : Nat → Nat → Int) : eW.Is len fun i j => .int .i64 (f i j) := by
  intro i j hi hj
  match j, hj with
  | 0, _ => rfl
  | 1, _ => rfl
  | 2, _ => rfl
  | 3, _ => rfl
  | 4, _ => rfl
  | 5, _ => rfl
  | j + 6, hj => exact absurd hj (by show ¬ j + 6 < 6; omega)
end Go.Fl2
end
