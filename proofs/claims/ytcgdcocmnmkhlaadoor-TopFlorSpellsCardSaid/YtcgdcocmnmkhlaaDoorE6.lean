/- The engine, part 6: operations that make or write memory, and calls by their summaries; one operation's law. -/
import Derived.Test.YtcgdcocmnmkhlaaDoorE5
set_option linter.unusedVariables false
set_option linter.unusedSimpArgs false
namespace Go.Eng
open Go.RowKit (Below)

/-- A summary: of the arguments, the named blocks and the first new name: a condition, the result, the new blocks. -/
abbrev Sm := List A → (Nat → Option Blk) → Nat → Option (List Prop × V × List Blk)

/-- What a call of a summed function comes to. -/
def Ends (ρ : Ren) (c : Nat) (v : V) (N : List Blk) (w : World) (e : Ending) (w' : World) : Prop :=
  ∃ (ρ' : Ren) (x : Value), e = .returned x ∧ ρ.le ρ' ∧ (∀ m, ρ m = none → (m < c ∨ c + N.length ≤ m) → ρ' m = none) ∧ v.rel ρ' x ∧ Below w.heap.size w w' ∧
    (∀ i k, N[i]? = some k → ∃ b, ρ' (c + i) = some b ∧ w.heap.size ≤ b.1 ∧ b.1 < w'.heap.size ∧ k.rel ρ' b.1 w') ∧
    (∀ i j b b', i < N.length → j < N.length → i ≠ j → ρ' (c + i) = some b → ρ' (c + j) = some b' → b.1 ≠ b'.1)

def namesL : List A → List Nat
  | [] => []
  | a :: l => a.names ++ namesL l

structure SumOK (P : Program) (gw : World → Prop) (f : FuncId) (σ : Sm) : Prop where
  enter : ∀ (args : Array Value) (w : World), (callFunc f args).run P w = .ok (.enter f args) w
  loc : ∀ args c hp hp', (∀ m, m ∈ namesL args → hp m = hp' m) → σ args hp c = σ args hp' c
  ok : ∀ args c hp p v N, σ args hp c = some (p, v, N) → All p → ∀ (ρ : Ren) (xs : List Value) (w : World), gw w → F2 (A.rel ρ) args xs →
    (∀ m k, hp m = some k → ∃ b, ρ m = some b ∧ b.1 < w.heap.size ∧ k.rel ρ b.1 w) → (∀ i, i < N.length → ρ (c + i) = none) → Calls P f xs.toArray w (Ends ρ c v N w)

theorem run_callFunc {P : Program} {f : FuncId} {fn : Func} (h : P.funcs[f]? = some fn) (hn : (fn.name == "runtime.NumGoroutine") = false) (hb : fn.body.isNone = false) (args : Array Value) (w : World) :
    (callFunc f args).run P w = .ok (.enter f args) w := by
  unfold callFunc
  simp only [Sem.run_bind, run_program, Result.andThen_ok, h, hn, Bool.false_eq_true, if_false, hb]
  rfl

section
variable (P : Program) (G n0 : Nat) (sg : FuncId → Option Sm)

def zeroL (n : Nat) (zl : List C) : List C := (List.range n).map fun i => zl.getD (i % zl.length) (.lit false)

def effM (o : Oper) (c : Nat) (s : S) : Option (Eff × List Prop) :=
  match o.op with
  | .alloc elem => (match P.info? elem with
    | some i => (match i.zero with
      | some z => (match ofCells true z.cells.toList with | some cs => some (⟨some (.a (.c (.ptr c 0))), [.known elem cs], none⟩, []) | none => none)
      | none => none)
    | none => none)
  | .box elem x => (match look G s x with | some (.a y) => some (⟨some (.a (.c (.ptr c 0))), [.known elem y.cells], none⟩, []) | _ => none)
  | .buildSlice t len parts => (match P.underlying t, looks G s parts.toList with
    | some (.slice elem), some ps => (match P.info? elem with
      | some i => (match i.zero with
        | some z => (match ofCells true z.cells.toList, Nat.ble (len * i.size) 16777216 && Nat.blt 0 z.cells.size with
          | some zl, true => (match fillA (fun j => some (j * i.size, i.size)) (zeroL (len * i.size) zl) ps with
            | some r => some (⟨some (.a (.c (.sl c 0 len len))), [.known elem r], none⟩, [])
            | none => none)
          | _, _ => none)
        | none => none)
      | none => none)
    | _, _ => none)
  | .makeSlice t l cp => (match P.underlying t, look G s l, look G s cp with
    | some (.slice elem), some (.a (.c (.num _ n))), some (.a (.c (.num _ m))) => (match P.info? elem with
      | some i => (match i.zero with
        | some z => (match ofCells true z.cells.toList, decide (0 ≤ n ∧ n ≤ m ∧ m ≤ 1000000 ∧ i.bytes ≤ 1000000) && Nat.blt 0 z.cells.size with
          | some zl, true => some (⟨some (.a (.c (.sl c 0 n.toNat m.toNat))), [.known elem (zeroL (m.toNat * i.size) zl)], none⟩, [])
          | _, _ => none)
        | none => none)
      | none => none)
    | _, _, _ => none)
  | .store t x y => (match look G s x, look G s y, P.info? t with
    | some (.a (.c (.ptr m off))), some (.a v), some i => (match s.hp m with
      | some (.known e cs) => (match Nat.ble n0 m && Nat.beq v.cells.length i.size && Nat.ble (off + v.cells.length) cs.length with
        | true => some (⟨none, [], some (m, .known e (cs.take off ++ v.cells ++ cs.drop (off + v.cells.length)))⟩, [])
        | false => none)
      | _ => none)
    | _, _, _ => none)
  | .call cl => (match cl.callee with
    | .value f => (match look G s f, lookAll G s cl.args.toList with
      | some (.a (.c (.fn g caps))), some args => (match sg g with
        | some σ => (match σ (args ++ caps.map fun q => .c (.ptr q.1 q.2)) s.hp c with
          | some (p, v, N) => some (⟨some v, N, none⟩, p)
          | none => none)
        | none => none)
      | _, _ => none)
    | _ => (match effV P G o s with | some (v, p) => some (⟨some v, [], none⟩, p) | none => none))
  | _ => (match effV P G o s with | some (v, p) => some (⟨some v, [], none⟩, p) | none => none)

end

section
variable {P : Program} {G n0 N : Nat} {sg : FuncId → Option Sm} {gw : World → Prop} {w0 : World} {ρ : Ren} {s s' : S} {a : Act} {w : World} {Q : Exit → Act → World → Prop}

theorem f2_map_range {α β : Type} {R : α → β → Prop} {f : Nat → α} {g : Nat → β} (h : ∀ i, R (f i) (g i)) : ∀ (l : List Nat), F2 R (l.map f) (l.map g)
  | [] => .nil
  | x :: l => .cons (h x) (f2_map_range h l)

theorem zeroL_rel {ρ : Ren} {zl : List C} {z : Array Value} (h : F2 (C.rel ρ) zl z.toList) (hp : 0 < z.size) (n : Nat) : F2 (C.rel ρ) (zeroL n zl) ((Array.range n).map (z[· % z.size]!)).toList := by
  have hl : zl.length = z.size := by rw [f2_len h]; simp
  have e : ((Array.range n).map (z[· % z.size]!)).toList = (List.range n).map (fun i => z[i % z.size]!) := by simp
  rw [e]
  unfold zeroL
  refine f2_map_range (fun i => ?_) _
  have hi : i % zl.length < zl.length := Nat.mod_lt _ (by omega)
  obtain ⟨y, hy, hr⟩ := f2_get h (i := i % zl.length) (List.getElem?_eq_getElem hi)
  rw [hl] at hy
  simp only [List.getD_eq_getElem?_getD, List.getElem?_eq_getElem hi, Option.getD_some]
  have : z[i % z.size]! = y := by
    have : z[i % z.size]? = some y := by simpa using hy
    simp [getElem!_def, this]
  rw [this]; exact hr

theorem map_range_zero {α : Type} {n : Nat} (h : n = 0) (g : Nat → α) : (Array.range n).map g = #[] := by subst h; apply Array.ext'; simp

theorem ptr_names {ρ : Ren} : ∀ {l : List (Nat × Nat)} {xs : List Value}, F2 (PtrRel ρ) l xs → F2 (A.rel ρ) (l.map fun q => A.c (.ptr q.1 q.2)) xs
  | _, _, .nil => .nil
  | _, _, .cons r rs => .cons r (ptr_names rs)

theorem new_le {c : Nat} (hf : ρ c = none) (b : Nat × Nat) : ρ.le (upd ρ c (some b)) := by
  intro m x hm
  by_cases e : m = c
  · subst e; rw [hf] at hm; cases hm
  · rw [upd_ne _ _ e]; exact hm

/-- One new block. -/
theorem Rel.alloc1 (h : Rel w0 n0 N ρ s a w) {dst : Option Tmp} {c : Nat} {val : Option V} {k : Blk} {x : Value} {ob : Obj} (cap : Nat)
    (hd : ∀ d, dst = some d → d < N) (hn : n0 ≤ c) (hfresh : s.hp c = none)
    (hv : ∀ v, val = some v → v.rel (upd ρ c (some (w.heap.size, cap))) x) (hk : k.rel (upd ρ c (some (w.heap.size, cap))) w.heap.size (w.alloc ob)) :
    Rel w0 n0 N (upd ρ c (some (w.heap.size, cap))) (act dst c ⟨val, [k], none⟩ s) (a.put dst x) (w.alloc ob) := by
  have hf := h.dom c hfresh
  refine h.grow hd hn ((Below.refl _ _).alloc (Nat.le_refl _) ob) (new_le hf _) ?_ ?_ (fun v _ => hv v) ?_ ?_
  · intro m hm hout
    simp only [List.length_singleton] at hout
    rw [upd_ne _ _ (by omega)]; exact hm
  · intro i hi; simp at hi; subst hi; exact hfresh
  · intro i k' hi
    cases i with
    | zero =>
      simp at hi; subst hi
      exact ⟨_, upd_same _ _ _, Nat.le_refl _, by simp, hk⟩
    | succ i => simp at hi
  · intro i j b b' hi hj hne; simp at hi hj; omega

theorem Rel.quiet (h : Rel w0 n0 N ρ s a w) {dst : Option Tmp} {c : Nat} {val : Option V} {x : Value} (hd : ∀ d, dst = some d → d < N) (hn : n0 ≤ c) (hv : ∀ v, val = some v → v.rel ρ x) :
    Rel w0 n0 N ρ (act dst c ⟨val, [], none⟩ s) (a.put dst x) w := by
  refine h.grow hd hn (Below.refl _ _) (Ren.le_refl _) (fun m hm _ => hm) ?_ (fun v _ => hv v) ?_ ?_
  · intro i hi; simp at hi
  · intro i k hi; simp at hi
  · intro i j b b' hi; simp at hi

theorem new_block {w : World} {cs : Array Value} {e : TypeId} : (w.alloc (.cells cs e (0, 0))).heap[w.heap.size]? = some (.cells cs e (0, 0)) := heap_alloc_new w _

/-- ONE OPERATION: what the abstract state becomes is what the frame and the world become. sr: what the operation may see of s. -/
theorem effM_sound (hsg : ∀ f σ, sg f = some σ → SumOK P gw f σ) (h : Rel w0 n0 N ρ s a w) (hgl : ∀ g, g < G → ρ g = some (g, 0)) (hgw : gw w)
    (hview : View G ρ s' a w) (hsub : ∀ m k, s'.hp m = some k → s.hp m = some k)
    {o : Oper} {c : Nat} {e : Eff} {p : List Prop} (he : effM P G n0 sg o c s' = some (e, p)) (hp : All p) (hd : ∀ d, o.dst = some d → d < N) (hn : n0 ≤ c)
    (hfresh : ∀ i, i < e.nw.length → s.hp (c + i) = none) :
    o.wp P a w (fun a' w' => ∃ ρ', Rel w0 n0 N ρ' (act o.dst c e s) a' w' ∧ ρ.le ρ') Q := by
  have val_case : (match effV P G o s' with | some (v, p) => some ((⟨some v, [], none⟩ : Eff), p) | none => none) = some (e, p) →
      o.wp P a w (fun a' w' => ∃ ρ', Rel w0 n0 N ρ' (act o.dst c e s) a' w' ∧ ρ.le ρ') Q := by
    intro he
    split at he
    · rename_i v p' hv
      simp only [Option.some.injEq, Prod.mk.injEq] at he; obtain ⟨rfl, rfl⟩ := he
      obtain ⟨x, hx, hr⟩ := effV_sound hview hv hp
      unfold Oper.wp
      rw [hx, Oper.upon_value]
      exact ⟨ρ, h.quiet hd hn (fun v' hv' => by cases hv'; exact hr), Ren.le_refl _⟩
    · cases he
  unfold effM at he
  split at he
  case h_1 elem ho =>
    split at he
    · rename_i i hi
      split at he
      · rename_i z hz
        split at he
        · rename_i cs hcs
          simp only [Option.some.injEq, Prod.mk.injEq] at he; obtain ⟨rfl, rfl⟩ := he
          have hx : (execOp a.eval o).run P w = .ok (.value (.pointer (some ⟨w.heap.size, 0, none⟩))) (w.alloc (.cells z.cells elem (0, 0))) := by
            simp [execOp, ho, Instr.alloc, run_zeroValue' P hi hz, newVar, newRow]
          unfold Oper.wp
          rw [hx, Oper.upon_value]
          have hf := hfresh 0 (by simp)
          refine ⟨_, h.alloc1 0 hd hn hf ?_ ?_, new_le (h.dom c hf) _⟩
          · intro v hv; cases hv; exact ⟨_, upd_same _ _ _, rfl⟩
          · exact ⟨z.cells.toList, ofCells_rel _ hcs, by rw [Array.toArray_toList]; exact new_block⟩
        · cases he
      · cases he
    · cases he
  case h_2 elem x ho =>
    split at he
    · rename_i y hy
      simp only [Option.some.injEq, Prod.mk.injEq] at he; obtain ⟨rfl, rfl⟩ := he
      have hr := look_rel hview hy
      have hx : (execOp a.eval o).run P w = .ok (.value (.pointer (some ⟨w.heap.size, 0, none⟩))) (w.alloc (.cells (a.eval x).cells elem (0, 0))) := by
        simp [execOp, ho, Instr.box, newVar, newRow]
      unfold Oper.wp
      rw [hx, Oper.upon_value]
      have hf := hfresh 0 (by simp)
      have hle := new_le (h.dom c hf) (w.heap.size, 0)
      refine ⟨_, h.alloc1 0 hd hn hf ?_ ?_, hle⟩
      · intro v hv; cases hv; exact ⟨_, upd_same _ _ _, rfl⟩
      · exact ⟨(a.eval x).cells.toList, f2_imp (C.rel_mono hle) (A.rel_cells hr), by rw [Array.toArray_toList]; exact new_block⟩
    · cases he
  case h_3 t len parts ho =>
    split at he
    · rename_i elem ps hu hps
      split at he
      · rename_i i hi
        split at he
        · rename_i z hz
          split at he
          · rename_i zl hzl hok
            split at he
            · rename_i r hr
              simp only [Option.some.injEq, Prod.mk.injEq] at he; obtain ⟨rfl, rfl⟩ := he
              simp only [Bool.and_eq_true] at hok
              have h1 := Nat.le_of_ble_eq_true hok.1
              have h2 : 0 < z.cells.size := by simpa [Nat.blt_eq] using hok.2
              have hzr := zeroL_rel (ρ := ρ) (ofCells_rel ρ hzl) h2 (len * i.size)
              obtain ⟨k', hk, hrel⟩ := fillA_sound (looks_rel G hview hps) hzr hr
              have hk' : Instr.fill (fun j => some (j * i.size, i.size)) ((Array.range (len * i.size)).map (z.cells[· % z.cells.size]!)) (parts.map fun (i, x) => (i, a.eval x)).toList = some k' := by simpa using hk
              have hx : (execOp a.eval o).run P w = .ok (.value (.slice (some ⟨w.heap.size, 0, none⟩) len len)) (w.alloc (.cells k' elem (0, 0))) := by
                by_cases h0 : len * i.size = 0
                · have h3 : ¬ (2 ^ 24 < len * i.size) := by omega
                  rw [map_range_zero h0] at hk'
                  simp only [execOp, ho, Instr.buildSlice, Sem.run_bind, run_underlying hu, Result.andThen_ok, run_sizeOf' P hi, if_pos h0, newRow, run_newObj, Sem.run_pure, Sem.run_ite, gt_iff_lt, h3, if_false, map_range_zero h0, hk']
                  rfl
                · have h3 : ¬ (2 ^ 24 < len * i.size) := by omega
                  simp only [execOp, ho, Instr.buildSlice, Sem.run_bind, run_underlying hu, Result.andThen_ok, run_sizeOf' P hi, h0, if_false, run_zeroValue' P hi hz, hk', newRow, run_newObj, Sem.run_pure, Sem.run_ite, gt_iff_lt, h3]
                  rfl
              unfold Oper.wp
              rw [hx, Oper.upon_value]
              have hf := hfresh 0 (by simp)
              have hle := new_le (h.dom c hf) (w.heap.size, 0)
              refine ⟨_, h.alloc1 0 hd hn hf ?_ ?_, hle⟩
              · intro v hv; cases hv; exact ⟨_, upd_same _ _ _, rfl⟩
              · exact ⟨k'.toList, f2_imp (C.rel_mono hle) hrel, by rw [Array.toArray_toList]; exact new_block⟩
            · cases he
          · cases he
        · cases he
      · cases he
    · cases he
  case h_4 t l cp ho =>
    split at he
    · rename_i elem k1 n k2 m hu hl hc
      split at he
      · rename_i i hi
        split at he
        · rename_i z hz
          split at he
          · rename_i zl hzl hok
            simp only [Option.some.injEq, Prod.mk.injEq] at he; obtain ⟨rfl, rfl⟩ := he
            simp only [Bool.and_eq_true] at hok
            obtain ⟨g1, g2, g3, g4⟩ := of_decide_eq_true hok.1
            have h2 : 0 < z.cells.size := by simpa [Nat.blt_eq] using hok.2
            have hln : a.eval l = .int k1 n := look_rel hview hl
            have hcn : a.eval cp = .int k2 m := look_rel hview hc
            have hzr := zeroL_rel (ρ := ρ) (ofCells_rel ρ hzl) h2 (m.toNat * i.size)
            have wn : IntKind.i64.wrap n = n := by rw [IntKind.wrap_i64]; omega
            have wm : IntKind.i64.wrap m = m := by rw [IntKind.wrap_i64]; omega
            have hb : (i.bytes : Int) * m ≤ 2 ^ 48 := by
              have : (i.bytes : Int) * m ≤ 1000000 * 1000000 := Int.mul_le_mul (by omega) (by omega) (by omega) (by omega)
              omega
            have hx : (execOp a.eval o).run P w = .ok (.value (.slice (some ⟨w.heap.size, 0, none⟩) n.toNat m.toNat)) (w.alloc (.cells ((Array.range (m.toNat * i.size)).map (z.cells[· % z.cells.size]!)) elem (0, 0))) := by
              have c1 : ¬ (m < 0) := by omega
              have c2 : ¬ (281474976710656 < (i.bytes : Int) * m) := by omega
              have c3 : ¬ (n < 0) := by omega
              have c4 : ¬ (m < n) := by omega
              by_cases h0 : m.toNat * i.size = 0
              · rw [map_range_zero h0]
                simp [execOp, ho, hln, hcn, Instr.makeSlice, run_underlying hu, asInt, asIntOf, typeInfo, hi, wn, wm, c1, c2, c3, c4, run_sizeOf' P hi, if_pos h0, newRow, map_range_zero h0]
              · simp [execOp, ho, hln, hcn, Instr.makeSlice, run_underlying hu, asInt, asIntOf, typeInfo, hi, wn, wm, c1, c2, c3, c4, run_sizeOf' P hi, h0, newRow, run_zeroValue' P hi hz]
            unfold Oper.wp
            rw [hx, Oper.upon_value]
            have hf := hfresh 0 (by simp)
            have hle := new_le (h.dom c hf) (w.heap.size, 0)
            refine ⟨_, h.alloc1 0 hd hn hf ?_ ?_, hle⟩
            · intro v hv; cases hv; exact ⟨_, upd_same _ _ _, rfl⟩
            · exact ⟨_, f2_imp (C.rel_mono hle) hzr, by rw [Array.toArray_toList]; exact new_block⟩
          · cases he
        · cases he
      · cases he
    · cases he
  case h_5 t x y ho =>
    split at he
    · rename_i m off v i hx hy hi
      split at he
      · rename_i el cs hm
        split at he
        · rename_i hok
          simp only [Option.some.injEq, Prod.mk.injEq] at he; obtain ⟨rfl, rfl⟩ := he
          simp only [Bool.and_eq_true] at hok
          have g1 := Nat.le_of_ble_eq_true hok.1.1
          have g2 : v.cells.length = i.size := Nat.eq_of_beq_eq_true hok.1.2
          have g3 := Nat.le_of_ble_eq_true hok.2
          obtain ⟨b, hb, hxv⟩ := look_rel hview hx
          have hyv := look_rel hview hy
          have hcv := A.rel_cells hyv
          obtain ⟨b', hb', hlt, xs, hf, hh⟩ := hview.hp m _ hm
          simp only at hb
          rw [hb] at hb'; cases hb'
          have hlen : xs.length = cs.length := (f2_len hf).symm
          have hvl : (a.eval y).cells.toList.length = v.cells.length := (f2_len hcv).symm
          have hst := run_storeCells_at P b.1 off el (a.eval y).cells.toList 0 xs.toArray w hh (by simp only [Array.size_eq_length_toList] ; simp at hvl ⊢; omega) (f2_oneCell hcv)
          have hrun : (execOp a.eval o).run P w = .ok .skip (w.setRow b.1 (xs.take off ++ (a.eval y).cells.toList ++ xs.drop (off + (a.eval y).cells.toList.length)).toArray) := by
            have hsz : (a.eval y).cells.size = i.size := by rw [← g2, ← hvl]; simp
            simp only [execOp, ho, hxv, Instr.storeAt, Instr.sureAddr, Sem.run_bind, Sem.run_pure, Result.andThen_ok, storeVar, run_sizeOf' P hi, hsz, ne_eq, not_true_eq_false, if_false, Sem.run_ite, hst]
            simp [hst]
          unfold Oper.wp
          rw [hrun, Oper.upon_skip]
          refine ⟨ρ, ?_, Ren.le_refl _⟩
          refine h.wrote hd (hsub m _ hm) g1 hb rfl rfl rfl (size_setRow _ _ _) ?_ ?_ (fun v' hdn hv' => by cases hv')
          · intro j hj; simp [World.setRow, Array.getElem?_modify, Ne.symm hj]
          · refine ⟨_, f2_append (f2_append (f2_take hf off) hcv) (f2_drop hf _), ?_⟩
            rw [setRow_heap w b.1 xs.toArray _ el _ hh]
            rw [hvl]
        · cases he
      · cases he
    · cases he
  case h_6 cl ho =>
    split at he
    · rename_i f hcal
      split at he
      · rename_i g caps args hf hargs
        split at he
        · rename_i σ hσ
          split at he
          · rename_i p' v N' hs
            simp only [Option.some.injEq, Prod.mk.injEq] at he; obtain ⟨rfl, rfl⟩ := he
            have S := hsg g σ hσ
            obtain ⟨cx, hcx, hfv⟩ := look_rel hview hf
            have hax := lookAll_rel G hview hargs
            have hrun : (execOp a.eval o).run P w = .ok (.enter g (cl.args.map a.eval ++ cx.toArray)) w := by
              simp only [execOp, ho, resolve, hcal, hfv, Deferred.ofValue, Sem.run_bind, Sem.run_pure, Result.andThen_ok, invoke, Array.empty_append, S.enter]
            unfold Oper.wp
            rw [hrun, Oper.upon_enter]
            have hall : F2 (A.rel ρ) (args ++ caps.map fun q => .c (.ptr q.1 q.2)) (cl.args.toList.map a.eval ++ cx) := f2_append hax (ptr_names hcx)
            have hc := S.ok _ c s'.hp p' v N' hs hp ρ _ w hgw hall hview.hp (fun i hi => h.dom _ (hfresh i hi))
            have earr : (cl.args.toList.map a.eval ++ cx).toArray = cl.args.map a.eval ++ cx.toArray := by apply Array.ext'; simp
            rw [earr] at hc
            refine hc.mono ?_
            rintro en w' ⟨ρ', x, rfl, hle, hno, hv, hbel, hnew, hdist⟩
            exact ⟨ρ', h.grow hd hn hbel hle hno hfresh (fun v' _ hv' => by cases hv'; exact hv) hnew hdist, hle⟩
          · cases he
        · cases he
      · cases he
    · exact val_case he
  case h_7 => exact val_case he

end
end Go.Eng
