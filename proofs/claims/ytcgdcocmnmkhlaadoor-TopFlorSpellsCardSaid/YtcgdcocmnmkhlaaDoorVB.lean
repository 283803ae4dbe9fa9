/- The second engine, parts 6 to 10: summaries, append, effects, regions. -/
import Derived.Test.YtcgdcocmnmkhlaaDoorVA
import Derived.OrdersIn
import Derived.LoopNIn
import Derived.ArgAppend
set_option linter.unusedVariables false
set_option linter.unusedSimpArgs false
section
/- The second engine, part 6: operations that make or write memory, append, and calls by their summaries or of a function's value; one operation's law. -/
set_option linter.unusedVariables false
set_option linter.unusedSimpArgs false
namespace Go.V
open Go.RowKit (Below)

/-- The fence that lets everything in; r: the loop whose round this is. -/
def Fd (r : Option Nat) : Fence := { fn := fun _ => True, depth := none, alive := false, round := r }

def Ar.rel (κ : Still) : Ar → Value → Prop
  | .c d, x => d.rel κ x
  | .agg ds, x => ∃ xs : List Value, F2 (D.rel κ) ds xs ∧ x = .agg xs.toArray
theorem Ar.rel_mono {κ κ' : Still} (h : κ.le κ') (r : Ar) (x : Value) (hr : r.rel κ x) : r.rel κ' x := by
  cases r with
  | c d => exact D.rel_mono h d x hr
  | agg ds => obtain ⟨xs, hf, e⟩ := hr; exact ⟨xs, f2_imp (D.rel_mono h) hf, e⟩
def toAr : A → Option Ar
  | .c x => (match toD x with | some d => some (.c d) | none => none)
  | .agg cs => (match toDs cs with | some ds => some (.agg ds) | none => none)
def toArs : List A → Option (List Ar)
  | [] => some []
  | a :: l => match toAr a, toArs l with | some r, some k => some (r :: k) | _, _ => none
def ofAr : Ar → A
  | .c d => .c (toC d)
  | .agg ds => .agg (ds.map toC)
theorem toAr_rel {ρ : Ren} {p : A} {r : Ar} {x : Value} (h : toAr p = some r) (hr : p.rel ρ x) : r.rel ρ.κ x := by
  cases p with
  | c y =>
    simp only [toAr] at h
    split at h
    · rename_i d hd; simp at h; subst h; exact toD_rel hd hr
    · cases h
  | agg cs =>
    simp only [toAr] at h
    split at h
    · rename_i ds hd; simp at h; subst h
      obtain ⟨xs, hf, e⟩ := hr
      exact ⟨xs, toDs_rel hd hf, e⟩
    · cases h
theorem toArs_rel {ρ : Ren} : ∀ {ps : List A} {rs : List Ar} {xs : List Value}, toArs ps = some rs → F2 (A.rel ρ) ps xs → F2 (Ar.rel ρ.κ) rs xs := by
  intro ps
  induction ps with
  | nil => intro rs xs h r; cases r; simp [toArs] at h; subst h; exact .nil
  | cons p ps ih =>
    intro rs xs h r
    cases r with
    | cons r0 rs' =>
      simp only [toArs] at h
      split at h
      · rename_i q k hq hk
        simp at h; subst h
        exact .cons (toAr_rel hq r0) (ih hk rs')
      · cases h
theorem f2_toC {ρ : Ren} : ∀ {ds : List D} {xs : List Value}, F2 (D.rel ρ.κ) ds xs → F2 (C.rel ρ) (ds.map toC) xs
  | _, _, .nil => .nil
  | _, _, .cons r rs => .cons (toC_rel r) (f2_toC rs)
theorem ofAr_rel {ρ : Ren} {r : Ar} {x : Value} (h : r.rel ρ.κ x) : (ofAr r).rel ρ x := by
  cases r with
  | c d => exact toC_rel h
  | agg ds => obtain ⟨xs, hf, e⟩ := h; exact ⟨xs, f2_toC hf, e⟩

/-- A function's value does so: whatever lies still besides. -/
def CloOK (P : Program) (gw : World → Prop) (κ : Still) (φ : Clo) (x : Value) : Prop :=
  ∃ f caps, x = .func (.func f) #[] caps ∧ (∀ args w, (callFunc f args).run P w = .ok (.enter f args) w) ∧ ∀ κ' w ars p r xs, κ.le κ' → Lies κ' w → gw w → φ ars = some (p, r) → All p → F2 (Ar.rel κ') ars xs →
    Calls P f (xs.toArray ++ caps) w (fun e w' => ∃ x κ'', e = .returned x ∧ κ'.le κ'' ∧ Lies κ'' w' ∧ (∀ b o v, κ'' b o = some v → κ' b o = some v ∨ w.heap.size ≤ b) ∧ r.rel κ'' x ∧ Below w.heap.size w w')
theorem CloOK.mono {P : Program} {gw : World → Prop} {κ κ' : Still} (h : κ.le κ') {φ : Clo} {x : Value} (hc : CloOK P gw κ φ x) : CloOK P gw κ' φ x := by
  obtain ⟨f, caps, hx, he, hs⟩ := hc
  exact ⟨f, caps, hx, he, fun κ2 w ars p r xs hle => hs κ2 w ars p r xs (fun b o v hv => hle _ _ _ (h _ _ _ hv))⟩

/-- A summary: of the arguments, the named blocks and the first new name: a condition, the result, the new blocks, the blocks that are laid to rest. -/
abbrev Sm := List A → (Nat → Option Blk) → Nat → Option (List Prop × V × List Blk × List (Nat × Blk))

/-- What a call of a summed function comes to. -/
def Ends (ρ : Ren) (c : Nat) (v : V) (N : List Blk) (Z : List (Nat × Blk)) (w : World) (e : Ending) (w' : World) : Prop :=
  ∃ (ρ' : Ren) (x : Value), e = .returned x ∧ ρ.le ρ' ∧ (∀ m, ρ m = none → (m < c ∨ c + N.length ≤ m) → ρ' m = none) ∧ v.rel ρ' x ∧ Below w.heap.size w w' ∧
    (∀ i k, N[i]? = some k → ∃ b, ρ' (c + i) = some b ∧ w.heap.size ≤ b.1 ∧ b.1 < w'.heap.size ∧ k.rel ρ' b w') ∧
    (∀ i j b b', i < N.length → j < N.length → i ≠ j → ρ' (c + i) = some b → ρ' (c + j) = some b' → b.1 ≠ b'.1) ∧
    (∀ q, q ∈ Z → ∀ b, ρ q.1 = some b → q.2.rel ρ' b w') ∧
    (∀ b o v, ρ'.κ b o = some v → ρ.κ b o = some v ∨ ((w.heap.size ≤ b ∨ ∃ q b0, q ∈ Z ∧ ρ q.1 = some b0 ∧ b = b0.1) ∧ b < w'.heap.size ∧ w'.cell? ⟨b, o, none⟩ = some v ∧ ∀ i k b', N[i]? = some k → k.own = true → ρ' (c + i) = some b' → b'.1 ≠ b))

def namesL : List A → List Nat
  | [] => []
  | a :: l => a.names ++ namesL l

structure SumOK (P : Program) (G : GT) (gw : World → Prop) (f : FuncId) (σ : Sm) : Prop where
  enter : ∀ (args : Array Value) (w : World), (callFunc f args).run P w = .ok (.enter f args) w
  loc : ∀ args c hp hp', (∀ m, m ∈ namesL args → hp m = hp' m) → σ args hp c = σ args hp' c
  frz : ∀ args c hp p v N Z, σ args hp c = some (p, v, N, Z) → ∀ q, q ∈ Z → q.2.own = false ∧ ∃ k, hp q.1 = some k ∧ k.own = true
  ok : ∀ args c hp p v N Z, σ args hp c = some (p, v, N, Z) → All p → ∀ (ρ : Ren) (xs : List Value) (w : World), gw w → Lies ρ.κ w → (∀ φ x, ρ.cl φ x → CloOK P gw ρ.κ φ x) → (∀ g n F, G g = some (n, F) → (C.ip n F).rel ρ (.pointer (some ⟨g, 0, none⟩))) → F2 (A.rel ρ) args xs →
    (∀ m k, hp m = some k → ∃ b, ρ m = some b ∧ b.1 < w.heap.size ∧ k.rel ρ b w) → (∀ i, i < N.length → ρ (c + i) = none) → Calls P f xs.toArray w (Ends ρ c v N Z w)

theorem run_callFunc {P : Program} {f : FuncId} {fn : Func} (h : P.funcs[f]? = some fn) (hn : (fn.name == "runtime.NumGoroutine") = false) (hb : fn.body.isNone = false) (args : Array Value) (w : World) :
    (callFunc f args).run P w = .ok (.enter f args) w := by
  unfold callFunc
  simp only [Sem.run_bind, run_program, Result.andThen_ok, h, hn, Bool.false_eq_true, if_false, hb]
  rfl


section
variable (P : Program) (G : GT) (sg : FuncId → Option Sm)

def zeroL (n : Nat) (zl : List C) : List C := (List.range n).map fun i => zl.getD (i % zl.length) (.lit false)

/-- What an append stands on: the name that loses its block, how many elements, what they are; whether it is surely not nil; what is owed. -/
def baseOf (s : S) (e : TypeId) (size : Nat) : V → Option (Option Nat × Nat × (Nat → Nat → D) × Bool × List Prop)
  | .a (.c .nsl) => some (none, 0, (fun _ _ => .nilp), false, [])
  | .a (.c (.gsl m len)) => (match s.hp m with
    | some (.row e' st L F) => (match Nat.beq e e' && Nat.beq st size with | true => some (some m, len, F, true, [len ≤ L]) | false => none)
    | _ => none)
  | .a (.c (.sl m 0 n cap)) => (match s.hp m with
    | some (.known e' cs) => (match toDs cs, Nat.beq e e' && Nat.beq cs.length (cap * size) && Nat.ble n cap && Nat.ble cap 1000000 with
      | some ds, true => some (some m, n, (fun i j => ds.getD (i * size + j) .nilp), true, [])
      | _, _ => none)
    | _ => none)
  | _ => none
/-- What is appended: how many elements, what they are; whether there is surely one. -/
def moreOf (s : S) (e : TypeId) (size : Nat) : V → Option (Nat × (Nat → Nat → D) × Bool × List Prop)
  | .a (.c (.im (.sl _ n st F))) => (match Nat.beq st size with | true => some (n, F, false, []) | false => none)
  | .a (.c (.gsl m len)) => (match s.hp m with
    | some k => (match rowOf k with
      | some (st, L, F) => (match Nat.beq st size with | true => some (len, F, false, [len ≤ L]) | false => none)
      | none => none)
    | _ => none)
  | .a (.c (.sl m 0 n cap)) => (match s.hp m with
    | some (.known e' cs) => (match toDs cs, Nat.ble (n * size) cs.length with
      | some ds, true => some (n, (fun i j => ds.getD (i * size + j) .nilp), Nat.blt 0 n, [])
      | _, _ => none)
    | _ => none)
  | _ => none
def joinF (len : Nat) (F F' : Nat → Nat → D) : Nat → Nat → D := fun i j => match Nat.blt i len with | true => F i j | false => F' (i - len) j
/-- An element's cells written. -/
def putF (i j n : Nat) (ds : List D) (F : Nat → Nat → D) : Nat → Nat → D := fun i' j' => match Nat.beq i' i && (Nat.ble j j' && Nat.blt j' (j + n)) with | true => ds.getD (j' - j) .nilp | false => F i' j'

def appM (c : Nat) (s : S) (x y : Operand) (t : TypeId) : Option (Eff × List Prop) :=
  match P.underlying t, look G s x, look G s y with
  | some (.slice e), some vx, some vy => (match P.info? e with
    | some i => (match i.zero, Nat.blt 0 i.size && Nat.ble i.bytes 100000000 with
      | some z, true => (match Nat.beq z.cells.size i.size, baseOf s e i.size vx, moreOf s e i.size vy with
        | true, some (bm, len, F, q, p), some (n, F', q', p') => (match q || q' with
          | true => some (⟨some (.a (.c (.gsl c (len + n)))), [.row e i.size (len + n) (joinF len F F')], (match bm with | some m => [(m, .dead)] | none => [])⟩, (len + n ≤ 1000000) :: (p ++ p'))
          | false => some (⟨some (.a (.c (.im (.sl false n i.size F')))), [], []⟩, (len + n ≤ 1000000) :: (p ++ p')))
        | _, _, _ => none)
      | _, _ => none)
    | none => none)
  | _, _, _ => none

def effM (o : Oper) (c : Nat) (s : S) : Option (Eff × List Prop) :=
  match o.op with
  | .alloc elem => (match P.info? elem with
    | some i => (match i.zero with
      | some z => (match ofCells true z.cells.toList with | some cs => some (⟨some (.a (.c (.ptr c 0))), [.known elem cs], []⟩, []) | none => none)
      | none => none)
    | none => none)
  | .box elem x => (match look G s x with | some (.a y) => some (⟨some (.a (.c (.ptr c 0))), [.known elem y.cells], []⟩, []) | _ => none)
  | .buildSlice t len parts => (match P.underlying t, looks G s parts.toList with
    | some (.slice elem), some ps => (match P.info? elem with
      | some i => (match i.zero with
        | some z => (match ofCells true z.cells.toList, Nat.ble (len * i.size) 16777216 && Nat.blt 0 z.cells.size with
          | some zl, true => (match fillA (fun j => some (j * i.size, i.size)) (zeroL (len * i.size) zl) ps with
            | some r => some (⟨some (.a (.c (.sl c 0 len len))), [.known elem r], []⟩, [])
            | none => none)
          | _, _ => none)
        | none => none)
      | none => none)
    | _, _ => none)
  | .makeSlice t l cp => (match P.underlying t, look G s l, look G s cp with
    | some (.slice elem), some (.a (.c (.num _ n))), some (.a (.c (.num _ m))) => (match P.info? elem with
      | some i => (match i.zero with
        | some z => (match ofCells true z.cells.toList, decide (0 ≤ n ∧ n ≤ m ∧ m ≤ 1000000 ∧ i.bytes ≤ 1000000) && Nat.blt 0 z.cells.size with
          | some zl, true => some (⟨some (.a (.c (.sl c 0 n.toNat m.toNat))), [.known elem (zeroL (m.toNat * i.size) zl)], []⟩, [])
          | _, _ => none)
        | none => none)
      | none => none)
    | some (.slice elem), some (.a (.c (.int _ n))), some (.a (.c (.int _ m))) => (match P.info? elem with
      | some i => (match i.zero with
        | some z => (match ofCells true z.cells.toList, decide (i.bytes ≤ 1000000) && Nat.beq z.cells.size i.size && Nat.blt 0 i.size with
          | some zl, true => (match toDs zl with
            | some ds => some (⟨some (.a (.c (.gsl c n.toNat))), [.row elem i.size n.toNat (fun _ j => ds.getD j .nilp)], []⟩, [0 ≤ n, n ≤ m, m ≤ 1000000])
            | none => none)
          | _, _ => none)
        | none => none)
      | none => none)
    | _, _, _ => none)
  | .store t x y => (match look G s x, look G s y, P.info? t with
    | some (.a (.c (.ptr m off))), some (.a v), some i => (match s.hp m with
      | some (.known e cs) => (match Nat.beq v.cells.length i.size && Nat.ble (off + v.cells.length) cs.length with
        | true => some (⟨none, [], [(m, .known e (cs.take off ++ v.cells ++ cs.drop (off + v.cells.length)))]⟩, [])
        | false => none)
      | _ => none)
    | some (.a (.c (.ep m st e j))), some (.a v), some i => (match s.hp m with
      | some (.row el st' len F) => (match toDs v.cells, Nat.beq v.cells.length i.size && Nat.ble (j + v.cells.length) st && Nat.beq st st' with
        | some ds, true => some (⟨none, [], [(m, .row el st' len (putF e j v.cells.length ds F))]⟩, [e < len])
        | _, _ => none)
      | _ => none)
    | _, _, _ => none)
  | .call cl => (match cl.callee, cl.args.toList, cl.argTypes.toList with
    | .builtin .append, [x, y], [t, t'] => (match Nat.beq t t' with | true => appM P G c s x y t | false => none)
    | .value f, _, _ => (match look G s f, lookAll G s cl.args.toList with
      | some (.a (.c (.fn g caps))), some args => (match sg g with
        | some σ => (match σ (args ++ caps.map fun q => .c (.ptr q.1 q.2)) s.hp c with
          | some (p, v, N, Z) => some (⟨some v, N, Z⟩, p)
          | none => none)
        | none => none)
      | some (.a (.c (.clo φ))), some args => (match toArs args with
        | some ars => (match φ ars with | some (p, r) => some (⟨some (.a (ofAr r)), [], []⟩, p) | none => none)
        | none => none)
      | _, _ => none)
    | _, _, _ => (match effV P G o s with | some (v, p) => some (⟨some v, [], []⟩, p) | none => none))
  | _ => (match effV P G o s with | some (v, p) => some (⟨some v, [], []⟩, p) | none => none)

end

section
variable {P : Program} {G : GT} {N : Nat} {r : Option Nat} {sg : FuncId → Option Sm} {gw : World → Prop} {w0 : World} {ρ : Ren} {s s' : S} {a : Act} {w : World} {Q : Exit → Act → World → Prop}

theorem ow_value {o : Oper} {K : Act → World → Prop} {v : Value} {w' : World} (h : (execOp a.eval o).run P w = .ok (.value v) w') (hd : ∀ c, o.op ≠ .defer c) (hk : K (a.put o.dst v) w') : o.wpIn (Fd r) 0 P a w K Q :=
  ⟨fun _ _ => trivial, by rw [Oper.semAt_eq _ _ _ hd, h]; exact hk⟩
theorem ow_skip {o : Oper} {K : Act → World → Prop} {w' : World} (h : (execOp a.eval o).run P w = .ok .skip w') (hd : ∀ c, o.op ≠ .defer c) (hk : K (a.put o.dst undef) w') : o.wpIn (Fd r) 0 P a w K Q :=
  ⟨fun _ _ => trivial, by rw [Oper.semAt_eq _ _ _ hd, h]; exact hk⟩
theorem callsIn_Fd {n : Nat} {f : FuncId} {args : Array Value} {R : Ending → World → Prop} (h : Calls P f args w R) : CallsIn (Fd r) n P f args w R := (callsIn_wide (n := n)).2 h
theorem ow_enter {o : Oper} {K : Act → World → Prop} {f : FuncId} {args : Array Value} (h : (execOp a.eval o).run P w = .ok (.enter f args) w) (hd : ∀ c, o.op ≠ .defer c)
    (hk : Calls P f args w (fun e w' => ∃ x, e = .returned x ∧ K (a.put o.dst x) w')) : o.wpIn (Fd r) 0 P a w K Q := by
  refine ⟨fun _ _ => trivial, ?_⟩
  rw [Oper.semAt_eq _ _ _ hd, h, Oper.uponIn_enter]
  refine ⟨fun h => (by cases h), callsIn_Fd (hk.mono ?_)⟩
  rintro e w' ⟨x, rfl, hx⟩
  exact hx

theorem f2_map_range {α β : Type} {R : α → β → Prop} {f : Nat → α} {g : Nat → β} (h : ∀ i, R (f i) (g i)) : ∀ (l : List Nat), F2 R (l.map f) (l.map g)
  | [] => .nil
  | x :: l => .cons (h x) (f2_map_range h l)

theorem zeroL_rel {ρ : Ren} {zl : List C} {z : Array Value} (h : F2 (C.rel ρ) zl z.toList) (hp : 0 < z.size) (n : Nat) : F2 (C.rel ρ) (zeroL n zl) ((Array.range n).map (z[· % z.size]!)).toList := by
  have hl : zl.length = z.size := by rw [f2_len h]; simp
  have e : ((Array.range n).map (z[· % z.size]!)).toList = (List.range n).map (fun i => z[i % z.size]!) := by simp
  rw [e]
  unfold zeroL
  refine f2_map_range (fun i => ?_) _
  have hi : i % zl.length < zl.length := Nat.mod_lt _ (by omega)
  obtain ⟨y, hy, hr⟩ := f2_get h (i := i % zl.length) (List.getElem?_eq_getElem hi)
  rw [hl] at hy
  simp only [List.getD_eq_getElem?_getD, List.getElem?_eq_getElem hi, Option.getD_some]
  have : z[i % z.size]! = y := by
    have : z[i % z.size]? = some y := by simpa using hy
    simp [getElem!_def, this]
  rw [this]; exact hr

theorem map_range_zero {α : Type} {n : Nat} (h : n = 0) (g : Nat → α) : (Array.range n).map g = #[] := by subst h; apply Array.ext'; simp

theorem ptr_names {ρ : Ren} : ∀ {l : List (Nat × Nat)} {xs : List Value}, F2 (PtrRel ρ) l xs → F2 (A.rel ρ) (l.map fun q => A.c (.ptr q.1 q.2)) xs
  | _, _, .nil => .nil
  | _, _, .cons r rs => .cons r (ptr_names rs)


def Ren.new (ρ : Ren) (c : Nat) (b : Nat × Nat) : Ren := { ρ with nm := upd ρ.nm c (some b) }
theorem new_le {c : Nat} (hf : ρ c = none) (b : Nat × Nat) : ρ.le (ρ.new c b) where
  nm := by
    intro m x hm
    show upd ρ.nm c (some b) m = some x
    by_cases e : m = c
    · subst e; rw [hf] at hm; cases hm
    · rw [upd_ne _ _ e]; exact hm
  κ := fun _ _ _ h => h
  cl := rfl
  k0 := rfl
theorem new_same {c : Nat} {b : Nat × Nat} : (ρ.new c b) c = some b := upd_same _ _ _

/-- One new block. -/
theorem Rel.alloc1 (h : Rel w0 N ρ s a w) {dst : Option Tmp} {c : Nat} {val : Option V} {k : Blk} {x : Value} {ob : Obj} (cap : Nat)
    (hd : ∀ d, dst = some d → d < N) (hfresh : s.hp c = none)
    (hv : ∀ v, val = some v → v.rel (ρ.new c (w.heap.size, cap)) x) (hk : k.rel (ρ.new c (w.heap.size, cap)) (w.heap.size, cap) (w.alloc ob)) :
    Rel w0 N (ρ.new c (w.heap.size, cap)) (act dst c ⟨val, [k], []⟩ s) (a.put dst x) (w.alloc ob) := by
  have hf := h.dom c hfresh
  have hb := (Below.refl _ w).alloc (Nat.le_refl _) ob
  refine h.step hd (new_le hf _) rfl rfl rfl hb.size (fun i hi _ => hb.block i hi) ?_ ?_ (fun v _ => hv v) (fun p hp => by cases hp) ?_ ?_ ?_
  · intro m hm hout
    simp only [List.length_singleton] at hout
    show upd ρ.nm c (some _) m = none
    rw [upd_ne _ _ (by omega)]; exact hm
  · intro i hi; simp at hi; subst hi; exact hfresh
  · intro i k' hi
    cases i with
    | zero =>
      simp at hi; subst hi
      exact ⟨_, new_same, by simp, hk, .inl (Nat.le_refl _)⟩
    | succ i => simp at hi
  · intro i j b b' hi hj hne; simp at hi hj; omega
  · intro b o v hv; exact .inl hv

theorem Rel.quiet (h : Rel w0 N ρ s a w) {dst : Option Tmp} {c : Nat} {val : Option V} {x : Value} (hd : ∀ d, dst = some d → d < N) (hv : ∀ v, val = some v → v.rel ρ x) :
    Rel w0 N ρ (act dst c ⟨val, [], []⟩ s) (a.put dst x) w := by
  refine h.step hd (Ren.le_refl _) rfl rfl rfl (Nat.le_refl _) (fun i _ _ => rfl) (fun m hm _ => hm) ?_ (fun v _ => hv v) (fun p hp => by cases hp) ?_ ?_ (fun b o v hv => .inl hv)
  · intro i hi; simp at hi
  · intro i k hi; simp at hi
  · intro i j b b' hi; simp at hi

/-- A block of the call's own, written. -/
theorem Rel.wrote (h : Rel w0 N ρ s a w) {dst : Option Tmp} {c : Nat} {val : Option V} {m : Nat} {b : Nat × Nat} {k k' : Blk} {x : Value} {w' : World}
    (hd : ∀ d, dst = some d → d < N) (hm : s.hp m = some k) (hown : k.own = true) (hb : ρ m = some b)
    (ho : w'.os = w.os) (ht : w'.tape = w.tape) (hu : w'.output = w.output) (hsz : w'.heap.size = w.heap.size) (hother : ∀ i, i ≠ b.1 → w'.heap[i]? = w.heap[i]?)
    (hk : k'.rel ρ b w') (hv : ∀ v, val = some v → v.rel ρ x) :
    Rel w0 N ρ (act dst c ⟨val, [], [(m, k')]⟩ s) (a.put dst x) w' := by
  refine h.step hd (Ren.le_refl _) ho ht hu (by omega) (fun i _ hw => hother i fun e => hw ⟨(m, k'), b, by simp, hb, e.symm⟩) (fun m hm _ => hm) ?_ (fun v _ => hv v) ?_ ?_ ?_ (fun b o v hv => .inl hv)
  · intro i hi; simp at hi
  · intro p hp
    simp only [List.mem_singleton] at hp
    subst hp
    refine ⟨⟨k, hm, hown⟩, fun b' hb' => ?_⟩
    rw [hb] at hb'; cases hb'; exact hk
  · intro i k hi; simp at hi
  · intro i j b b' hi; simp at hi

theorem new_block {w : World} {cs : Array Value} {e : TypeId} : (w.alloc (.cells cs e (0, 0))).heap[w.heap.size]? = some (.cells cs e (0, 0)) := heap_alloc_new w _
end
end Go.V
end

section
/- The second engine, part 7: append. -/
set_option linter.unusedVariables false
set_option linter.unusedSimpArgs false
namespace Go.V
open Go.RowKit (Below)

section
variable {P : Program} {G : GT} {N : Nat} {r : Option Nat} {gw : World → Prop} {w0 : World} {ρ : Ren} {s s' : S} {a : Act} {w : World} {Q : Exit → Act → World → Prop}

theorem toDs_len : ∀ {cs : List C} {ds : List D}, toDs cs = some ds → ds.length = cs.length := by
  intro cs
  induction cs with
  | nil => intro ds h; simp [toDs] at h; subst h; rfl
  | cons c cs ih =>
    intro ds h
    simp only [toDs] at h
    split at h
    · rename_i d r' hd hr
      simp at h; subst h
      simp [ih hr]
    · cases h

/-- An element's cell. -/
theorem el_lt {i j n st : Nat} (hi : i < n) (hj : j < st) : i * st + j < n * st := by
  have := Nat.mul_le_mul_right st (show i + 1 ≤ n from hi)
  rw [Nat.add_mul] at this
  omega

theorem getD_rel {κ : Still} {ds : List D} {xs : List Value} (h : F2 (D.rel κ) ds xs) {k : Nat} (hk : k < xs.length) : ∃ y, xs[k]? = some y ∧ (ds.getD k .nilp).rel κ y := by
  have hl := f2_len h
  obtain ⟨y, hy, hr⟩ := f2_get h (i := k) (List.getElem?_eq_getElem (by omega))
  exact ⟨y, hy, by rw [List.getD_eq_getElem?_getD, List.getElem?_eq_getElem (by omega)]; exact hr⟩

theorem base_sound (h : Rel w0 N ρ s a w) (hsub : ∀ m k, s'.hp m = some k → s.hp m = some k) {e : TypeId} {size : Nat} {vx : V} {v : Value} (hv : vx.rel ρ v) {bm : Option Nat} {len : Nat} {F : Nat → Nat → D} {q : Bool} {p : List Prop}
    (hb : baseOf s' e size vx = some (bm, len, F, q, p)) (hp : All p) :
    ∃ xs : List Value, xs.length = len * size ∧ (∀ i j, i < len → j < size → ∃ y, xs[i * size + j]? = some y ∧ (F i j).rel ρ.κ y) ∧
      ((bm = none ∧ q = false ∧ v = .slice none 0 0 ∧ len = 0) ∨
       ∃ m k b cap cur, bm = some m ∧ q = true ∧ s.hp m = some k ∧ k.own = true ∧ ρ m = some b ∧ v = .slice (some ⟨b.1, 0, none⟩) len cap ∧ w.heap[b.1]? = some (.cells cur e (0, 0)) ∧ len ≤ cap ∧ cap ≤ maxLen ∧ cur.size = cap * size ∧
         cur.toList.take (len * size) = xs) := by
  unfold baseOf at hb
  split at hb
  · simp only [Option.some.injEq, Prod.mk.injEq] at hb
    obtain ⟨rfl, rfl, rfl, rfl, rfl⟩ := hb
    exact ⟨[], by simp, fun i j hi => by omega, .inl ⟨rfl, rfl, hv, rfl⟩⟩
  · rename_i m len'
    split at hb
    · rename_i e' st L F' hm
      split at hb
      · rename_i hok
        simp only [Option.some.injEq, Prod.mk.injEq] at hb
        obtain ⟨rfl, rfl, rfl, rfl, rfl⟩ := hb
        simp only [Bool.and_eq_true] at hok
        have h1 := Nat.eq_of_beq_eq_true hok.1
        have h2 := Nat.eq_of_beq_eq_true hok.2
        subst h1 h2
        have hle := hp.1
        obtain ⟨b, hb, rfl⟩ := hv
        obtain ⟨b', hb', hlt, hrel, hge⟩ := h.hp m _ (hsub _ _ hm)
        rw [hb] at hb'; cases hb'
        obtain ⟨xs, hh, g1, g2, g3, g4⟩ := hrel
        have htot : len' * st ≤ xs.length := by rw [g1]; exact Nat.mul_le_mul_right st (by omega)
        refine ⟨xs.take (len' * st), by simp; omega, ?_, .inr ⟨m, _, b, b.2, xs.toArray, rfl, rfl, hsub _ _ hm, rfl, hb, rfl, hh, by omega, g3, by simpa using g1, rfl⟩⟩
        intro i j hi hj
        obtain ⟨y, hy, hr⟩ := g4 i j (by omega) hj
        exact ⟨y, by rw [List.getElem?_take, if_pos (el_lt hi hj)]; exact hy, hr⟩
      · cases hb
    · cases hb
  · rename_i m n cap
    split at hb
    · rename_i e' cs hm
      split at hb
      · rename_i ds hds hok
        simp only [Option.some.injEq, Prod.mk.injEq] at hb
        obtain ⟨rfl, rfl, rfl, rfl, rfl⟩ := hb
        simp only [Bool.and_eq_true] at hok
        have h1 := Nat.eq_of_beq_eq_true hok.1.1.1
        have h2 := Nat.eq_of_beq_eq_true hok.1.1.2
        have h3 := Nat.le_of_ble_eq_true hok.1.2
        have h4 := Nat.le_of_ble_eq_true hok.2
        subst h1
        obtain ⟨b, hb, rfl⟩ := hv
        obtain ⟨b', hb', hlt, hrel, hge⟩ := h.hp m _ (hsub _ _ hm)
        rw [hb] at hb'; cases hb'
        obtain ⟨xs, hf, hh⟩ := hrel
        have hl := f2_len hf
        have hf' := toDs_rel hds hf
        have htot : n * size ≤ xs.length := by rw [← hl, h2]; exact Nat.mul_le_mul_right size h3
        refine ⟨xs.take (n * size), by simp; omega, ?_, .inr ⟨m, _, b, cap, xs.toArray, rfl, rfl, hsub _ _ hm, rfl, hb, rfl, hh, h3, by simp only [maxLen]; omega, by simp; omega, rfl⟩⟩
        intro i j hi hj
        have hlt2 := el_lt hi hj
        obtain ⟨y, hy, hr⟩ := getD_rel hf' (k := i * size + j) (by omega)
        exact ⟨y, by rw [List.getElem?_take, if_pos hlt2]; exact hy, hr⟩
      · cases hb
    · cases hb
  · cases hb

theorem more_sound (h : Rel w0 N ρ s a w) (hsub : ∀ m k, s'.hp m = some k → s.hp m = some k) {e : TypeId} {size : Nat} (hsz : 0 < size) {vx : V} {v : Value} (hv : vx.rel ρ v) {n : Nat} {F : Nat → Nat → D} {q : Bool} {p : List Prop}
    (hb : moreOf s' e size vx = some (n, F, q, p)) (hp : All p) :
    ∃ (ao : Option Addr) (cap : Nat) (news : List Value), v = .slice ao n cap ∧ (ao = none → n = 0 ∧ cap = 0) ∧ (q = true → 0 < n) ∧ news.length = n * size ∧ (∀ ad, ao = some ad → ∀ j u, news[j]? = some u → w.cell? (ad.add j) = some u) ∧ (∀ u ∈ news, u.oneCell' = true) ∧
      (∀ i j, i < n → j < size → ∃ y, news[i * size + j]? = some y ∧ (F i j).rel ρ.κ y) := by
  have one : ∀ {d : D} {y : Value}, d.rel ρ.κ y → y.oneCell' = true := by
    intro d y hr
    have := D.rel_noAgg hr
    cases y <;> first | rfl | exact absurd rfl (this.1 _) | exact absurd rfl (this.2 _)
  -- cells that are there, one for each place
  have gather : ∀ (g : Nat → Option Value) (n : Nat) (F : Nat → Nat → D), (∀ i j, i < n → j < size → ∃ y, g (i * size + j) = some y ∧ (F i j).rel ρ.κ y) →
      ∃ news : List Value, news.length = n * size ∧ (∀ u ∈ news, u.oneCell' = true) ∧ (∀ k u, news[k]? = some u → g k = some u) ∧ (∀ i j, i < n → j < size → ∃ y, news[i * size + j]? = some y ∧ (F i j).rel ρ.κ y) := by
    intro g n F hg
    have each : ∀ k, k < n * size → ∃ y, g k = some y ∧ (F (k / size) (k % size)).rel ρ.κ y := by
      intro k hk
      have h1 : k / size < n := (Nat.div_lt_iff_lt_mul hsz).2 hk
      have h2 : k % size < size := Nat.mod_lt _ hsz
      have := hg _ _ h1 h2
      rwa [Nat.mul_comm, Nat.div_add_mod] at this
    refine ⟨(List.range (n * size)).map fun k => (g k).getD undef, by simp, ?_, ?_, ?_⟩
    · intro u hu
      simp only [List.mem_map, List.mem_range] at hu
      obtain ⟨k, hk, rfl⟩ := hu
      obtain ⟨y, hy, hr⟩ := each k hk
      rw [hy]; exact one hr
    · intro k u hk
      simp only [List.getElem?_map, Option.map_eq_some_iff, List.getElem?_eq_some_iff, List.getElem_range, List.length_range] at hk
      obtain ⟨k', ⟨hlt, rfl⟩, rfl⟩ := hk
      obtain ⟨y, hy, hr⟩ := each k hlt
      rw [hy]; rfl
    · intro i j hi hj
      obtain ⟨y, hy, hr⟩ := hg i j hi hj
      refine ⟨y, ?_, hr⟩
      have := el_lt hi hj
      simp [List.getElem?_range this, hy]
  unfold moreOf at hb
  split at hb
  · rename_i q0 n0 st F0
    split at hb
    · rename_i hst
      have := Nat.eq_of_beq_eq_true hst
      subst this
      simp only [Option.some.injEq, Prod.mk.injEq] at hb
      obtain ⟨rfl, rfl, rfl, rfl⟩ := hb
      rcases hv with ⟨_, rfl, hv⟩ | ⟨ad, cap, hv, hc, hsp, hcell⟩
      · exact ⟨none, 0, [], hv, (fun _ => ⟨rfl, rfl⟩), (fun h => by cases h), (by simp), (fun ad he => by cases he), (by simp), (fun i j hi => by omega)⟩
      · obtain ⟨news, g1, g2, g3, g4⟩ := gather (fun k => ρ.κ ad.block (ad.off + k)) n0 F0 (fun i j hi hj => by
          obtain ⟨y, hy, hr⟩ := hcell i j hi hj
          exact ⟨y, by rw [Nat.add_assoc] at hy; exact hy, hr⟩)
        refine ⟨some ad, cap, news, hv, (fun he => by cases he), (fun h => by cases h), g1, ?_, g2, g4⟩
        intro ad' he j u hj
        cases he
        have hlt := (List.getElem?_eq_some_iff.1 hj).1
        have hn0 : 0 < n0 := by
          rcases Nat.eq_zero_or_pos n0 with h0 | h0
          · subst h0; simp at g1; simp [g1] at hlt
          · exact h0
        have hs := hsp hn0
        obtain ⟨blk, off, spt⟩ := ad
        simp only at hs; subst hs
        have := (h.im _ _ _ (g3 j u hj)).2
        rw [Addr.add_lit]; exact this
    · cases hb
  · rename_i m len'
    split at hb
    · rename_i k hm
      split at hb
      · rename_i st L F' hrow
        split at hb
        · rename_i hst
          have := Nat.eq_of_beq_eq_true hst
          subst this
          simp only [Option.some.injEq, Prod.mk.injEq] at hb
          obtain ⟨rfl, rfl, rfl, rfl⟩ := hb
          obtain ⟨b, hb, rfl⟩ := hv
          obtain ⟨b', hb', hlt, hrel, hge⟩ := h.hp m _ (hsub _ _ hm)
          rw [hb] at hb'; cases hb'
          obtain ⟨news, g1, g2, g3, g4⟩ := gather (fun k => w.cell? ⟨b.1, k, none⟩) len' F' (fun i j hi hj => by
            obtain ⟨xs, hf, hl, hc⟩ := rCells_sound h.im hrel hrow (show i < L by have := hp.1; omega) (n := 1) (o := j) (by omega)
            simp only [dCells] at hf
            cases hf with
            | cons r0 rs =>
              rename_i y ys
              have hcy := hc 0 y (by simp)
              refine ⟨y, by simpa [Addr.add] using hcy, ?_⟩
              have : ∀ (d : D), (toC d).rel ρ y → d.rel ρ.κ y := by intro d hd; cases d <;> exact hd
              exact this _ r0)
          refine ⟨some ⟨b.1, 0, none⟩, b.2, news, rfl, (fun he => by cases he), (fun h => by cases h), g1, ?_, g2, g4⟩
          intro ad' he j u hj
          cases he
          rw [Addr.add_lit, Nat.zero_add]
          exact g3 j u hj
        · cases hb
      · cases hb
    · cases hb
  · rename_i m n0 cap
    split at hb
    · rename_i e' cs hm
      split at hb
      · rename_i ds hds hok
        have hok' := Nat.le_of_ble_eq_true hok
        simp only [Option.some.injEq, Prod.mk.injEq] at hb
        obtain ⟨rfl, rfl, rfl, rfl⟩ := hb
        obtain ⟨b, hb, rfl⟩ := hv
        obtain ⟨b', hb', hlt, hrel, hge⟩ := h.hp m _ (hsub _ _ hm)
        rw [hb] at hb'; cases hb'
        obtain ⟨xs, hf, hh⟩ := hrel
        have hl := f2_len hf
        have hf' := toDs_rel hds hf
        obtain ⟨news, g1, g2, g3, g4⟩ := gather (fun k => xs[k]?) n0 (fun i j => ds.getD (i * size + j) .nilp) (fun i j hi hj => by
          have := el_lt hi hj
          exact getD_rel hf' (k := i * size + j) (by omega))
        refine ⟨some ⟨b.1, 0, none⟩, cap, news, rfl, (fun he => by cases he), (fun h => by simpa [Nat.blt_eq] using h), g1, ?_, g2, g4⟩
        intro ad' he j u hj
        cases he
        rw [Addr.add_lit, Nat.zero_add]
        have := g3 j u hj
        simp [World.cell?, hh, this]
      · cases hb
    · cases hb
  · cases hb
/-- AN APPEND, run. -/
theorem run_app (base : Nat) {t ty e : TypeId} {i : TypeInfo} {z : Value} (ht : P.underlying t = some (.slice e)) (hi : P.info? e = some i) (hz : i.zero = some z) (hzs : z.cells.size = i.size) (hsz : 0 < i.size) (hby : i.bytes ≤ 100000000)
    {v : Value} {n : Nat} {xs : List Value} (hown : w.ownsRow base e i.size v n xs) (hbase : base ≤ w.heap.size)
    {ao : Option Addr} {m cap : Nat} {news : List Value} (hao : ao = none → m = 0 ∧ cap = 0) (hl : news.length = m * i.size) (hnews : ∀ ad, ao = some ad → ∀ j u, news[j]? = some u → w.cell? (ad.add j) = some u) (h1 : ∀ u ∈ news, u.oneCell' = true) (hb : n + m ≤ 1000000) :
    ∃ v' w', (Builtin.append_ #[t, t] ty #[v, .slice ao m cap]).run P w = .ok v' w' ∧ w'.ownsRow base e i.size v' (n + m) (xs ++ news) ∧ w.grownBy w' v.ownBlock ∧ (v' = .slice none 0 0 ↔ v = .slice none 0 0 ∧ m = 0) ∧
      (∀ g c, v' = .slice (some ⟨g, 0, none⟩) (n + m) c → w.heap.size ≤ g ∨ v.ownBlock = some g) := by
  have hbytes : (n + m) * i.bytes ≤ 140737488355328 := Nat.le_trans (Nat.mul_le_mul hb hby) (by decide)
  have h63 : n + m ≤ maxLen := by simp only [maxLen]; omega
  cases ao with
  | none =>
    obtain ⟨rfl, rfl⟩ := hao rfl
    have hn0 : news = [] := List.eq_nil_of_length_eq_zero (by simpa using hl)
    subst hn0
    have hr := run_append_owned_none (P := P) w base t ty e i i.size ht hi v n xs hown
    refine ⟨v, w, hr, by simpa using hown, World.grownBy.refl _ _, by simp, fun g c hv => .inr ?_⟩
    rw [hv]; rfl
  | some ad =>
    rcases hown.2 with ⟨hv, hn⟩ | ⟨g, cp, cur, hv, hbg, hg, hnc, hcm, hcs, htake⟩
    · subst hv hn
      have hnil : xs = [] := List.eq_nil_of_length_eq_zero (by simpa using hown.1)
      subst hnil
      obtain ⟨v', w', hr, ho, hgr, hiff⟩ := run_append_own (P := P) w w.heap.size t ty e i z i.size i.bytes ht hi hz rfl rfl hzs hsz (.slice none 0 0) 0 [] (World.ownsRow_nil w _ e _) ad m cap news hl (hnews ad rfl) h1 h63 hbytes (Nat.le_refl _)
      refine ⟨v', w', hr, ⟨ho.1, ?_⟩, hgr, hiff, fun g c hv => ?_⟩
      · rcases ho.2 with h | ⟨g, cp, cur, h1, h2, h3⟩
        · exact .inl h
        · exact .inr ⟨g, cp, cur, h1, Nat.le_trans hbase h2, h3⟩
      · rcases ho.2 with ⟨h, _⟩ | ⟨g', cp, cur, h1, h2, _⟩
        · rw [hv] at h; cases h
        · rw [hv] at h1; cases h1; exact .inl h2
    · subst hv
      by_cases hroom : n + m ≤ cp
      · obtain ⟨w', hr, ho, hgr⟩ := run_append_fits (P := P) w base t ty e i i.size ht hi rfl g n cp xs hown ad m cap news hl (hnews ad rfl) h1 hroom
        exact ⟨_, w', hr, ho, hgr, by simp, fun g' c hv => by cases hv; exact .inr rfl⟩
      · have holds : ∀ j u, xs[j]? = some u → w.cell? ((⟨g, 0, none⟩ : Addr).add j) = some u := by
          intro j u hj
          rw [← htake, List.getElem?_take] at hj
          split at hj
          · rw [Addr.add_lit, Nat.zero_add]
            have : cur[j]? = some u := by simpa using hj
            simp [World.cell?, hg, this]
          · cases hj
        obtain ⟨v', w', hr, ho, hgr⟩ := run_append_arg_grows (P := P) w t ty e i z i.size i.bytes ht hi hz rfl rfl hzs hsz ⟨g, 0, none⟩ n cp xs hown.1 holds ad m cap news hl (hnews ad rfl) (by omega) h63 hbytes
        have hnn : v' ≠ .slice none 0 0 := by
          intro hv
          rcases ho.2 with ⟨_, h0⟩ | ⟨g', _, _, h, _⟩
          · omega
          · rw [hv] at h; cases h
        refine ⟨v', w', hr, ⟨ho.1, ?_⟩, ⟨hgr.os, hgr.tape, hgr.output, hgr.size, fun k hk _ => hgr.block k hk (by simp)⟩, by simp [hnn], fun g' c hv => ?_⟩
        · rcases ho.2 with h | ⟨g, cp, cur, h1, h2, h3⟩
          · exact .inl h
          · exact .inr ⟨g, cp, cur, h1, Nat.le_trans hbase h2, h3⟩
        · rcases ho.2 with ⟨h, _⟩ | ⟨g', cp, cur, h1, h2, _⟩
          · rw [hv] at h; cases h
          · rw [hv] at h1; cases h1; exact .inl h2

theorem join_rel {κ : Still} {len n size : Nat} {F F' : Nat → Nat → D} {xs news : List Value} (hlx : xs.length = len * size) (hx : ∀ i j, i < len → j < size → ∃ y, xs[i * size + j]? = some y ∧ (F i j).rel κ y)
    (hn : ∀ i j, i < n → j < size → ∃ y, news[i * size + j]? = some y ∧ (F' i j).rel κ y) : ∀ i j, i < len + n → j < size → ∃ y, (xs ++ news)[i * size + j]? = some y ∧ (joinF len F F' i j).rel κ y := by
  intro i j hi hj
  by_cases hlt : i < len
  · obtain ⟨y, hy, hr⟩ := hx i j hlt hj
    have : i * size + j < xs.length := by rw [hlx]; exact el_lt hlt hj
    refine ⟨y, by rw [List.getElem?_append_left this]; exact hy, ?_⟩
    have hb : Nat.blt i len = true := by rw [Nat.blt_eq]; exact hlt
    simp only [joinF, hb]; exact hr
  · obtain ⟨y, hy, hr⟩ := hn (i - len) j (by omega) hj
    have hge : xs.length ≤ i * size + j := by
      rw [hlx]
      have := Nat.mul_le_mul_right size (show len ≤ i by omega)
      omega
    refine ⟨y, ?_, ?_⟩
    · rw [List.getElem?_append_right hge, hlx]
      have : i * size + j - len * size = (i - len) * size + j := by rw [Nat.sub_mul]; have := Nat.mul_le_mul_right size (show len ≤ i by omega); omega
      rw [this]; exact hy
    · have hb : Nat.blt i len = false := by rw [← Bool.not_eq_true, Nat.blt_eq]; exact hlt
      simp only [joinF, hb]; exact hr

theorem app_sound (h : Rel w0 N ρ s a w) (hview : View G ρ s' a w) (hsub : ∀ m k, s'.hp m = some k → s.hp m = some k) {o : Oper} {cl : Call} (ho : o.op = .call cl) (hcal : cl.callee = .builtin .append) {x y : Operand} {t : TypeId}
    (hargs : cl.args = #[x, y]) (hty : cl.argTypes = #[t, t]) {c : Nat} {e : Eff} {p : List Prop} (he : appM P G c s' x y t = some (e, p)) (hp : All p) (hd : ∀ d, o.dst = some d → d < N) (hfresh : ∀ i, i < e.nw.length → s.hp (c + i) = none) :
    o.wpIn (Fd r) 0 P a w (fun a' w' => ∃ ρ', Rel w0 N ρ' (act o.dst c e s) a' w' ∧ ρ.le ρ') Q := by
  have hdf : ∀ c, o.op ≠ .defer c := by simp [ho]
  unfold appM at he
  split at he
  · rename_i el vx vy hu hvx hvy
    split at he
    · rename_i i hi
      split at he
      · rename_i z hz hok
        simp only [Bool.and_eq_true] at hok
        have hsz : 0 < i.size := by simpa [Nat.blt_eq] using hok.1
        have hby := Nat.le_of_ble_eq_true hok.2
        split at he
        · rename_i bm len F q p1 n F' q' p2 hzs hbase hmore
          have hzs' := Nat.eq_of_beq_eq_true hzs
          have hpp : All ((len + n ≤ 1000000) :: (p1 ++ p2)) := by
            split at he <;> (simp only [Option.some.injEq, Prod.mk.injEq] at he; rw [he.2]; exact hp)
          have hb := hpp.1
          obtain ⟨hp1, hp2⟩ := All.append.1 hpp.2
          have hrx := look_rel hview hvx
          have hry := look_rel hview hvy
          obtain ⟨xs, hxl, hxr, hbs⟩ := base_sound h hsub hrx hbase hp1
          obtain ⟨ao, cap, news, hvy', hao, hq', hnl, hnc, hn1, hnr⟩ := more_sound h hsub hsz hry hmore hp2
          have hown : w.ownsRow w0.heap.size el i.size (a.eval x) len xs := by
            rcases hbs with ⟨_, _, hv, h0⟩ | ⟨m, k, b, cp, cur, _, _, hm, _, hρ, hv, hh, g1, g2, g3, g4⟩
            · rw [hv]; exact ⟨hxl, .inl ⟨rfl, h0⟩⟩
            · rw [hv]
              obtain ⟨b', hb', _, _, hge⟩ := h.hp m k hm
              rw [hρ] at hb'; cases hb'
              exact ⟨hxl, .inr ⟨b.1, cp, cur, rfl, hge, hh, g1, g2, g3, g4⟩⟩
          obtain ⟨v', w', hrun, hown', hgr, hiff, hwhere⟩ := run_app (P := P) (ty := o.type) w0.heap.size hu hi hz hzs' hsz hby hown h.bel.size hao hnl hnc hn1 hb
          have hx : (execOp a.eval o).run P w = .ok (.value v') w' := by
            rw [hvy'.symm] at hrun
            simp [execOp, ho, resolve, hcal, hargs, hty, invoke, builtin, hrun]
          refine ow_value hx hdf ?_
          split at he
          · rename_i hqq
            simp only [Option.some.injEq, Prod.mk.injEq] at he; obtain ⟨rfl, rfl⟩ := he
            have hnn : v' ≠ .slice none 0 0 := by
              intro hv
              have := hiff.1 hv
              rcases hbs with ⟨_, hq0, _, _⟩ | ⟨m, k, b, cp, cur, _, _, _, _, _, hv2, _⟩
              · rw [hq0, Bool.false_or] at hqq
                have := hq' hqq; omega
              · rw [hv2] at this; cases this.1
            rcases hown'.2 with ⟨h0, _⟩ | ⟨g, cp', cur', hv', hge, hg, g1, g2, g3, g4⟩
            · exact absurd h0 hnn
            have hf := h.dom c (hfresh 0 (by simp))
            have hgl : g < w'.heap.size := (Array.getElem?_eq_some_iff.1 hg).1
            refine ⟨ρ.new c (g, cp'), h.step hd (new_le hf _) hgr.os hgr.tape hgr.output hgr.size ?_ ?_ ?_ ?_ ?_ ?_ ?_ (fun b o v hv => .inl hv), new_le hf _⟩
            · intro j hj hnw
              refine hgr.block j hj fun hrow => hnw ?_
              rcases hbs with ⟨_, _, hv, _⟩ | ⟨m, k, b, cp, cur, hbm, _, hm, _, hρ, hv, _⟩
              · rw [hv] at hrow; cases hrow
              · rw [hv] at hrow
                simp only [Value.ownBlock, Option.some.injEq] at hrow
                exact ⟨(m, .dead), b, by simp [hbm], hρ, hrow.symm⟩
            · intro m hm hout
              simp only [List.length_singleton] at hout
              show upd ρ.nm c (some _) m = none
              rw [upd_ne _ _ (by omega)]; exact hm
            · intro j hj; simp at hj; subst hj; exact hfresh 0 (by simp)
            · intro u _ hu; cases hu; exact ⟨_, new_same, hv'⟩
            · intro pr hpr
              rcases hbs with ⟨hbm, _⟩ | ⟨m, k, b, cp, cur, hbm, _, hm, hko, hρ, hv, _⟩
              · rw [hbm] at hpr; cases hpr
              · simp only [hbm, List.mem_singleton] at hpr
                subst hpr
                exact ⟨⟨k, hm, hko⟩, fun _ _ => trivial⟩
            · intro j k hj
              cases j with
              | zero =>
                simp at hj; subst hj
                refine ⟨_, new_same, hgl, ?_, ?_⟩
                · refine ⟨cur'.toList, by rw [Array.toArray_toList]; exact hg, by simpa using g3, g1, g2, ?_⟩
                  intro i' j' hi' hj'
                  obtain ⟨u, hu, hr⟩ := join_rel hxl hxr hnr i' j' hi' hj'
                  refine ⟨u, ?_, hr⟩
                  rw [← g4, List.getElem?_take, if_pos (el_lt hi' hj')] at hu
                  exact hu
                · rcases hwhere g cp' hv' with hge' | hob
                  · exact .inl hge'
                  · rcases hbs with ⟨_, _, hv, _⟩ | ⟨m, k, b, cp, cur, hbm, _, hm, hko, hρ, hv, _⟩
                    · rw [hv] at hob; cases hob
                    · rw [hv] at hob
                      simp only [Value.ownBlock, Option.some.injEq] at hob
                      refine .inr ⟨(m, .dead), b, by simp [hbm], hρ, hob.symm, ?_⟩
                      intro q hq _
                      simp only [hbm, List.mem_singleton] at hq
                      subst hq; rfl
              | succ j => simp at hj
            · intro j j' b b' hj hj' hne; simp at hj hj'; omega
          · rename_i hqq
            simp only [Option.some.injEq, Prod.mk.injEq] at he; obtain ⟨rfl, rfl⟩ := he
            rw [Bool.or_eq_false_iff] at hqq
            have hv0 : a.eval x = .slice none 0 0 ∧ len = 0 := by
              rcases hbs with ⟨_, _, hv, h0⟩ | ⟨m, k, b, cp, cur, _, hq1, _⟩
              · exact ⟨hv, h0⟩
              · rw [hqq.1] at hq1; cases hq1
            obtain ⟨hv, h0⟩ := hv0
            subst h0
            have hxs : xs = [] := List.eq_nil_of_length_eq_zero (by simpa using hxl)
            subst hxs
            rcases hown'.2 with ⟨hv', h0⟩ | ⟨g, cp', cur', hv', hge, hg, g1, g2, g3, g4⟩
            · refine ⟨ρ, h.step hd (Ren.le_refl _) hgr.os hgr.tape hgr.output hgr.size ?_ (fun m hm _ => hm) ?_ ?_ (fun pr hpr => by cases hpr) ?_ ?_ (fun b o v hv => .inl hv), Ren.le_refl _⟩
              · intro j hj _; exact hgr.block j hj (by rw [hv]; simp [Value.ownBlock])
              · intro j hj; simp at hj
              · intro u _ hu; cases hu; exact .inl ⟨rfl, by omega, hv'⟩
              · intro j k hj; simp at hj
              · intro j j' b b' hj; simp at hj
            · have hgw : w.heap.size ≤ g := by
                rcases hwhere g cp' hv' with hge' | hob
                · exact hge'
                · rw [hv] at hob; cases hob
              have hgl : g < w'.heap.size := (Array.getElem?_eq_some_iff.1 hg).1
              have hle : ρ.le { ρ with κ := fun b o => if b = g then cur'.toList[o]? else ρ.κ b o } := by
                refine ⟨fun _ _ h => h, fun b o u hu => ?_, rfl, rfl⟩
                have := (h.im b o u hu).1
                have hne : b ≠ g := by omega
                show (if b = g then cur'.toList[o]? else ρ.κ b o) = some u
                rw [if_neg hne]; exact hu
              refine ⟨_, h.step hd hle hgr.os hgr.tape hgr.output hgr.size ?_ (fun m hm _ => hm) ?_ ?_ (fun pr hpr => by cases hpr) ?_ ?_ ?_, hle⟩
              · intro j hj _; exact hgr.block j hj (by rw [hv]; simp [Value.ownBlock])
              · intro j hj; simp at hj
              · intro u _ hu; cases hu
                refine .inr ⟨⟨g, 0, none⟩, cp', by rw [hv']; congr 1; omega, by omega, fun _ => rfl, fun i' j' hi' hj' => ?_⟩
                obtain ⟨u, hu, hr⟩ := hnr i' j' hi' hj'
                refine ⟨u, ?_, D.rel_mono hle.κ _ _ hr⟩
                show (if g = g then cur'.toList[0 + i' * i.size + j']? else ρ.κ g _) = some u
                rw [if_pos rfl, Nat.zero_add]
                simp only [List.nil_append] at g4
                rw [← g4, List.getElem?_take, if_pos (by rw [Nat.zero_add]; exact el_lt hi' hj')] at hu
                exact hu
              · intro j k hj; simp at hj
              · intro j j' b b' hj; simp at hj
              · intro b o' u hu
                by_cases hb : b = g
                · subst hb
                  have hu' : cur'.toList[o']? = some u := by
                    have : (if b = b then cur'.toList[o']? else ρ.κ b o') = some u := hu
                    rwa [if_pos rfl] at this
                  refine .inr ⟨.inl hgw, hgl, ?_, fun i' k b' hj => by simp at hj⟩
                  have : cur'[o']? = some u := by simpa using hu'
                  simp [World.cell?, hg, this]
                · have : (if b = g then cur'.toList[o']? else ρ.κ b o') = some u := hu
                  rw [if_neg hb] at this
                  exact .inl this
        · cases he
      · cases he
    · cases he
  · cases he
end
end Go.V
end

section
/- The second engine, part 8: one operation's law. -/
set_option linter.unusedVariables false
set_option linter.unusedSimpArgs false
namespace Go.V
open Go.RowKit (Below)

section
variable {P : Program} {G : GT} {N : Nat} {r : Option Nat} {sg : FuncId → Option Sm} {gw : World → Prop} {w0 : World} {ρ : Ren} {s s' : S} {a : Act} {w : World} {Q : Exit → Act → World → Prop}

/-- The call of a function's value. -/
theorem clo_rel (h : Rel w0 N ρ s a w) {κ'' : Still} (hle : ρ.κ.le κ'') {w' : World} (hl : Lies κ'' w') (hn : ∀ b o v, κ'' b o = some v → ρ.κ b o = some v ∨ w.heap.size ≤ b) (hb : Below w.heap.size w w')
    {dst : Option Tmp} (hd : ∀ d, dst = some d → d < N) {c : Nat} {val : Option V} {x : Value} (hv : ∀ v, val = some v → v.rel { ρ with κ := κ'' } x) : Rel w0 N { ρ with κ := κ'' } (act dst c ⟨val, [], []⟩ s) (a.put dst x) w' := by
  refine h.step hd ⟨fun _ _ h => h, hle, rfl, rfl⟩ hb.os hb.tape hb.output hb.size (fun i hi _ => hb.block i hi) (fun m hm _ => hm) ?_ (fun v _ => hv v) (fun p hp => by cases hp) ?_ ?_ ?_
  · intro i hi; simp at hi
  · intro i k hi; simp at hi
  · intro i j b b' hi; simp at hi
  · intro b o v hv
    rcases hn b o v hv with h1 | h1
    · exact .inl h1
    · obtain ⟨g1, g2⟩ := hl b o v hv
      exact .inr ⟨.inl h1, g1, g2, fun i k b' hj => by simp at hj⟩

/-- ONE OPERATION: what the abstract state becomes is what the frame and the world become. sr: what the operation may see of s. -/
theorem effM_sound (hsg : ∀ f σ, sg f = some σ → SumOK P G gw f σ) (h : Rel w0 N ρ s a w) (hcl : ∀ φ x, ρ.cl φ x → CloOK P gw ρ.κ φ x) (hgw : gw w)
    (hview : View G ρ s' a w) (hsub : ∀ m k, s'.hp m = some k → s.hp m = some k)
    {o : Oper} {c : Nat} {e : Eff} {p : List Prop} (he : effM P G sg o c s' = some (e, p)) (hp : All p) (hd : ∀ d, o.dst = some d → d < N)
    (hfresh : ∀ i, i < e.nw.length → s.hp (c + i) = none) :
    o.wpIn (Fd r) 0 P a w (fun a' w' => ∃ ρ', Rel w0 N ρ' (act o.dst c e s) a' w' ∧ ρ.le ρ') Q := by
  have hdf : ∀ c, o.op ≠ .defer c := by
    intro c0 ho
    unfold effM at he
    simp [ho, effV] at he
  have val_case : (match effV P G o s' with | some (v, p) => some ((⟨some v, [], []⟩ : Eff), p) | none => none) = some (e, p) →
      o.wpIn (Fd r) 0 P a w (fun a' w' => ∃ ρ', Rel w0 N ρ' (act o.dst c e s) a' w' ∧ ρ.le ρ') Q := by
    intro he
    split at he
    · rename_i v p' hv
      simp only [Option.some.injEq, Prod.mk.injEq] at he; obtain ⟨rfl, rfl⟩ := he
      obtain ⟨x, hx, hr⟩ := effV_sound hview hv hp
      exact ow_value hx hdf ⟨ρ, h.quiet hd (fun v' hv' => by cases hv'; exact hr), Ren.le_refl _⟩
    · cases he
  unfold effM at he
  split at he
  case h_1 elem ho =>
    split at he
    · rename_i i hi
      split at he
      · rename_i z hz
        split at he
        · rename_i cs hcs
          simp only [Option.some.injEq, Prod.mk.injEq] at he; obtain ⟨rfl, rfl⟩ := he
          have hx : (execOp a.eval o).run P w = .ok (.value (.pointer (some ⟨w.heap.size, 0, none⟩))) (w.alloc (.cells z.cells elem (0, 0))) := by
            simp [execOp, ho, Instr.alloc, run_zeroValue' P hi hz, newVar, newRow]
          refine ow_value hx hdf ?_
          have hf := hfresh 0 (by simp)
          refine ⟨_, h.alloc1 0 hd hf ?_ ?_, new_le (h.dom c hf) _⟩
          · intro v hv; cases hv; exact ⟨_, new_same, rfl⟩
          · exact ⟨z.cells.toList, ofCells_rel _ hcs, by rw [Array.toArray_toList]; exact new_block⟩
        · cases he
      · cases he
    · cases he
  case h_2 elem x ho =>
    split at he
    · rename_i y hy
      simp only [Option.some.injEq, Prod.mk.injEq] at he; obtain ⟨rfl, rfl⟩ := he
      have hr := look_rel hview hy
      have hx : (execOp a.eval o).run P w = .ok (.value (.pointer (some ⟨w.heap.size, 0, none⟩))) (w.alloc (.cells (a.eval x).cells elem (0, 0))) := by
        simp [execOp, ho, Instr.box, newVar, newRow]
      refine ow_value hx hdf ?_
      have hf := hfresh 0 (by simp)
      have hle := new_le (h.dom c hf) (w.heap.size, 0)
      refine ⟨_, h.alloc1 0 hd hf ?_ ?_, hle⟩
      · intro v hv; cases hv; exact ⟨_, new_same, rfl⟩
      · exact ⟨(a.eval x).cells.toList, f2_imp (C.rel_mono hle) (A.rel_cells hr), by rw [Array.toArray_toList]; exact new_block⟩
    · cases he
  case h_3 t len parts ho =>
    split at he
    · rename_i elem ps hu hps
      split at he
      · rename_i i hi
        split at he
        · rename_i z hz
          split at he
          · rename_i zl hzl hok
            split at he
            · rename_i r hr
              simp only [Option.some.injEq, Prod.mk.injEq] at he; obtain ⟨rfl, rfl⟩ := he
              simp only [Bool.and_eq_true] at hok
              have h1 := Nat.le_of_ble_eq_true hok.1
              have h2 : 0 < z.cells.size := by simpa [Nat.blt_eq] using hok.2
              have hzr := zeroL_rel (ρ := ρ) (ofCells_rel ρ hzl) h2 (len * i.size)
              obtain ⟨k', hk, hrel⟩ := fillA_sound (looks_rel G hview hps) hzr hr
              have hk' : Instr.fill (fun j => some (j * i.size, i.size)) ((Array.range (len * i.size)).map (z.cells[· % z.cells.size]!)) (parts.map fun (i, x) => (i, a.eval x)).toList = some k' := by simpa using hk
              have hx : (execOp a.eval o).run P w = .ok (.value (.slice (some ⟨w.heap.size, 0, none⟩) len len)) (w.alloc (.cells k' elem (0, 0))) := by
                by_cases h0 : len * i.size = 0
                · have h3 : ¬ (2 ^ 24 < len * i.size) := by omega
                  rw [map_range_zero h0] at hk'
                  simp only [execOp, ho, Instr.buildSlice, Sem.run_bind, run_underlying hu, Result.andThen_ok, run_sizeOf' P hi, if_pos h0, newRow, run_newObj, Sem.run_pure, Sem.run_ite, gt_iff_lt, h3, if_false, map_range_zero h0, hk']
                  rfl
                · have h3 : ¬ (2 ^ 24 < len * i.size) := by omega
                  simp only [execOp, ho, Instr.buildSlice, Sem.run_bind, run_underlying hu, Result.andThen_ok, run_sizeOf' P hi, h0, if_false, run_zeroValue' P hi hz, hk', newRow, run_newObj, Sem.run_pure, Sem.run_ite, gt_iff_lt, h3]
                  rfl
              refine ow_value hx hdf ?_
              have hf := hfresh 0 (by simp)
              have hle := new_le (h.dom c hf) (w.heap.size, 0)
              refine ⟨_, h.alloc1 0 hd hf ?_ ?_, hle⟩
              · intro v hv; cases hv; exact ⟨_, new_same, rfl⟩
              · exact ⟨k'.toList, f2_imp (C.rel_mono hle) hrel, by rw [Array.toArray_toList]; exact new_block⟩
            · cases he
          · cases he
        · cases he
      · cases he
    · cases he
  case h_4 t l cp ho =>
    split at he
    · rename_i elem k1 n k2 m hu hl hc
      split at he
      · rename_i i hi
        split at he
        · rename_i z hz
          split at he
          · rename_i zl hzl hok
            simp only [Option.some.injEq, Prod.mk.injEq] at he; obtain ⟨rfl, rfl⟩ := he
            simp only [Bool.and_eq_true] at hok
            obtain ⟨g1, g2, g3, g4⟩ := of_decide_eq_true hok.1
            have h2 : 0 < z.cells.size := by simpa [Nat.blt_eq] using hok.2
            have hln : a.eval l = .int k1 n := look_rel hview hl
            have hcn : a.eval cp = .int k2 m := look_rel hview hc
            have hzr := zeroL_rel (ρ := ρ) (ofCells_rel ρ hzl) h2 (m.toNat * i.size)
            have wn : IntKind.i64.wrap n = n := by rw [IntKind.wrap_i64]; omega
            have wm : IntKind.i64.wrap m = m := by rw [IntKind.wrap_i64]; omega
            have hb : (i.bytes : Int) * m ≤ 2 ^ 48 := by
              have : (i.bytes : Int) * m ≤ 1000000 * 1000000 := Int.mul_le_mul (by omega) (by omega) (by omega) (by omega)
              omega
            have hx : (execOp a.eval o).run P w = .ok (.value (.slice (some ⟨w.heap.size, 0, none⟩) n.toNat m.toNat)) (w.alloc (.cells ((Array.range (m.toNat * i.size)).map (z.cells[· % z.cells.size]!)) elem (0, 0))) := by
              have c1 : ¬ (m < 0) := by omega
              have c2 : ¬ (281474976710656 < (i.bytes : Int) * m) := by omega
              have c3 : ¬ (n < 0) := by omega
              have c4 : ¬ (m < n) := by omega
              by_cases h0 : m.toNat * i.size = 0
              · rw [map_range_zero h0]
                simp [execOp, ho, hln, hcn, Instr.makeSlice, run_underlying hu, asInt, asIntOf, typeInfo, hi, wn, wm, c1, c2, c3, c4, run_sizeOf' P hi, if_pos h0, newRow, map_range_zero h0]
              · simp [execOp, ho, hln, hcn, Instr.makeSlice, run_underlying hu, asInt, asIntOf, typeInfo, hi, wn, wm, c1, c2, c3, c4, run_sizeOf' P hi, h0, newRow, run_zeroValue' P hi hz]
            refine ow_value hx hdf ?_
            have hf := hfresh 0 (by simp)
            have hle := new_le (h.dom c hf) (w.heap.size, 0)
            refine ⟨_, h.alloc1 0 hd hf ?_ ?_, hle⟩
            · intro v hv; cases hv; exact ⟨_, new_same, rfl⟩
            · exact ⟨_, f2_imp (C.rel_mono hle) hzr, by rw [Array.toArray_toList]; exact new_block⟩
          · cases he
        · cases he
      · cases he
    · rename_i elem k1 n k2 m hu hl hc
      split at he
      · rename_i i hi
        split at he
        · rename_i z hz
          split at he
          · rename_i zl hzl hok
            split at he
            · rename_i ds hds
              simp only [Option.some.injEq, Prod.mk.injEq] at he; obtain ⟨rfl, rfl⟩ := he
              simp only [Bool.and_eq_true] at hok
              have g4 := of_decide_eq_true hok.1.1
              have hzs := Nat.eq_of_beq_eq_true hok.1.2
              have h2 : 0 < i.size := by simpa [Nat.blt_eq] using hok.2
              obtain ⟨g1, g2, g3, _⟩ := hp
              have hln : a.eval l = .int k1 n := look_rel hview hl
              have hcn : a.eval cp = .int k2 m := look_rel hview hc
              have wn : IntKind.i64.wrap n = n := by rw [IntKind.wrap_i64]; omega
              have wm : IntKind.i64.wrap m = m := by rw [IntKind.wrap_i64]; omega
              have hb : (i.bytes : Int) * m ≤ 2 ^ 48 := by
                have : (i.bytes : Int) * m ≤ 1000000 * 1000000 := Int.mul_le_mul (by omega) (by omega) (by omega) (by omega)
                omega
              have hx : (execOp a.eval o).run P w = .ok (.value (.slice (some ⟨w.heap.size, 0, none⟩) n.toNat m.toNat)) (w.alloc (.cells ((Array.range (m.toNat * i.size)).map (z.cells[· % z.cells.size]!)) elem (0, 0))) := by
                have c1 : ¬ (m < 0) := by omega
                have c2 : ¬ (281474976710656 < (i.bytes : Int) * m) := by omega
                have c3 : ¬ (n < 0) := by omega
                have c4 : ¬ (m < n) := by omega
                by_cases h0 : m.toNat * i.size = 0
                · rw [map_range_zero h0]
                  simp [execOp, ho, hln, hcn, Instr.makeSlice, run_underlying hu, asInt, asIntOf, typeInfo, hi, wn, wm, c1, c2, c3, c4, run_sizeOf' P hi, if_pos h0, newRow, map_range_zero h0]
                · simp [execOp, ho, hln, hcn, Instr.makeSlice, run_underlying hu, asInt, asIntOf, typeInfo, hi, wn, wm, c1, c2, c3, c4, run_sizeOf' P hi, h0, newRow, run_zeroValue' P hi hz]
              refine ow_value hx hdf ?_
              have hf := hfresh 0 (by simp)
              have hle := new_le (h.dom c hf) (w.heap.size, m.toNat)
              refine ⟨_, h.alloc1 m.toNat hd hf ?_ ?_, hle⟩
              · intro v hv; cases hv; exact ⟨_, new_same, rfl⟩
              · have hzc : F2 (D.rel ρ.κ) ds z.cells.toList := toDs_rel hds (ofCells_rel ρ hzl)
                refine ⟨((Array.range (m.toNat * i.size)).map (z.cells[· % z.cells.size]!)).toList, by rw [Array.toArray_toList]; exact new_block, by simp, by simp; omega, by simp only [maxLen]; simp; omega, ?_⟩
                intro i' j' hi' hj'
                obtain ⟨y, hy, hr⟩ := getD_rel hzc (k := j') (by simp; omega)
                refine ⟨y, ?_, hr⟩
                have hlt : i' * i.size + j' < m.toNat * i.size := el_lt (by simp at hi'; omega) hj'
                have hmod : (i' * i.size + j') % z.cells.size = j' := by rw [hzs, Nat.mul_comm, Nat.mul_add_mod]; exact Nat.mod_eq_of_lt hj'
                have hy' : z.cells[j']? = some y := by simpa using hy
                simp only [Array.toList_map, Array.toList_range, List.getElem?_map, List.getElem?_range hlt, Option.map_some, hmod]
                simp [getElem!_def, hy']
            · cases he
          · cases he
        · cases he
      · cases he
    · cases he
  case h_5 t x y ho =>
    split at he
    · rename_i m off v i hx hy hi
      split at he
      · rename_i el cs hm
        split at he
        · rename_i hok
          simp only [Option.some.injEq, Prod.mk.injEq] at he; obtain ⟨rfl, rfl⟩ := he
          simp only [Bool.and_eq_true] at hok
          have g2 : v.cells.length = i.size := Nat.eq_of_beq_eq_true hok.1
          have g3 := Nat.le_of_ble_eq_true hok.2
          obtain ⟨b, hb, hxv⟩ := look_rel hview hx
          have hyv := look_rel hview hy
          have hcv := A.rel_cells hyv
          obtain ⟨b', hb', hlt, xs, hf, hh⟩ := hview.hp m _ hm
          simp only at hb
          rw [hb] at hb'; cases hb'
          have hlen : xs.length = cs.length := (f2_len hf).symm
          have hvl : (a.eval y).cells.toList.length = v.cells.length := (f2_len hcv).symm
          have hst := run_storeCells_at P b.1 off el (a.eval y).cells.toList 0 xs.toArray w hh (by simp only [Array.size_eq_length_toList] ; simp at hvl ⊢; omega) (f2_oneCell hcv)
          have hrun : (execOp a.eval o).run P w = .ok .skip (w.setRow b.1 (xs.take off ++ (a.eval y).cells.toList ++ xs.drop (off + (a.eval y).cells.toList.length)).toArray) := by
            have hsz : (a.eval y).cells.size = i.size := by rw [← g2, ← hvl]; simp
            simp only [execOp, ho, hxv, Instr.storeAt, Instr.sureAddr, Sem.run_bind, Sem.run_pure, Result.andThen_ok, storeVar, run_sizeOf' P hi, hsz, ne_eq, not_true_eq_false, if_false, Sem.run_ite, hst]
            simp [hst]
          refine ow_skip hrun hdf ?_
          refine ⟨ρ, ?_, Ren.le_refl _⟩
          refine h.wrote hd (hsub m _ hm) rfl hb rfl rfl rfl (size_setRow _ _ _) ?_ ?_ (fun v' hv' => by cases hv')
          · intro j hj; simp [World.setRow, Array.getElem?_modify, Ne.symm hj]
          · refine ⟨_, f2_append (f2_append (f2_take hf off) hcv) (f2_drop hf _), ?_⟩
            rw [setRow_heap w b.1 xs.toArray _ el _ hh]
            rw [hvl]
        · cases he
      · cases he
    · rename_i m st e0 j v i hx hy hi
      split at he
      · rename_i el st' len F hm
        split at he
        · rename_i ds hds hok
          simp only [Option.some.injEq, Prod.mk.injEq] at he; obtain ⟨rfl, rfl⟩ := he
          simp only [Bool.and_eq_true] at hok
          have g2 : v.cells.length = i.size := Nat.eq_of_beq_eq_true hok.1.1
          have g3 := Nat.le_of_ble_eq_true hok.1.2
          have g4 := Nat.eq_of_beq_eq_true hok.2
          subst g4
          have hlt0 := hp.1
          obtain ⟨b, hb, hxv⟩ := look_rel hview hx
          have hyv := look_rel hview hy
          have hcv := A.rel_cells hyv
          obtain ⟨b', hb', hlt, xs, hh, q1, q2, q3, q4⟩ := hview.hp m _ hm
          simp only at hb
          rw [hb] at hb'; cases hb'
          have hvl : (a.eval y).cells.toList.length = v.cells.length := (f2_len hcv).symm
          have hroom : e0 * st + j + v.cells.length ≤ xs.length := by
            rw [q1]
            have := Nat.mul_le_mul_right st (show e0 + 1 ≤ b.2 by omega)
            rw [Nat.add_mul] at this
            omega
          have hst := run_storeCells_at P b.1 (e0 * st + j) el (a.eval y).cells.toList 0 xs.toArray w hh (by simp only [Array.size_eq_length_toList] ; simp at hvl ⊢; omega) (f2_oneCell hcv)
          have hrun : (execOp a.eval o).run P w = .ok .skip (w.setRow b.1 (xs.take (e0 * st + j) ++ (a.eval y).cells.toList ++ xs.drop (e0 * st + j + (a.eval y).cells.toList.length)).toArray) := by
            have hsz : (a.eval y).cells.size = i.size := by rw [← g2, ← hvl]; simp
            simp only [execOp, ho, hxv, Instr.storeAt, Instr.sureAddr, Sem.run_bind, Sem.run_pure, Result.andThen_ok, storeVar, run_sizeOf' P hi, hsz, ne_eq, not_true_eq_false, if_false, Sem.run_ite, hst]
            simp [hst]
          refine ow_skip hrun hdf ?_
          refine ⟨ρ, ?_, Ren.le_refl _⟩
          refine h.wrote hd (hsub m _ hm) rfl hb rfl rfl rfl (size_setRow _ _ _) ?_ ?_ (fun v' hv' => by cases hv')
          · intro j hj; simp [World.setRow, Array.getElem?_modify, Ne.symm hj]
          · refine ⟨xs.take (e0 * st + j) ++ (a.eval y).cells.toList ++ xs.drop (e0 * st + j + (a.eval y).cells.toList.length), ?_, ?_, q2, q3, ?_⟩
            · rw [setRow_heap w b.1 xs.toArray _ el _ hh]
            · rw [← q1]; simp only [List.length_append, List.length_take, List.length_drop, hvl]; omega
            · intro i' j' hi' hj'
              have hds' := toDs_rel hds hcv
              have hdl := f2_len hds'
              by_cases hin : i' = e0 ∧ j ≤ j' ∧ j' < j + v.cells.length
              · obtain ⟨rfl, h1, h2⟩ := hin
                obtain ⟨u, hu, hr⟩ := getD_rel hds' (k := j' - j) (by rw [hvl]; omega)
                refine ⟨u, ?_, ?_⟩
                · rw [List.getElem?_append_left (by simp only [List.length_append, List.length_take, hvl]; omega), List.getElem?_append_right (by simp only [List.length_take]; omega)]
                  simp only [List.length_take]
                  rw [show i' * st + j' - min (i' * st + j) xs.length = j' - j by omega]
                  exact hu
                · have e1 : (Nat.beq i' i' && (Nat.ble j j' && Nat.blt j' (j + v.cells.length))) = true := by simp [Nat.blt_eq, Nat.ble_eq, h1, h2]
                  simp only [putF, e1]; exact hr
              · obtain ⟨u, hu, hr⟩ := q4 i' j' hi' hj'
                have hne : i' * st + j' < e0 * st + j ∨ e0 * st + j + v.cells.length ≤ i' * st + j' := by
                  by_cases h1 : i' = e0
                  · subst h1; omega
                  · rcases Nat.lt_or_gt_of_ne h1 with h2 | h2
                    · have := Nat.mul_le_mul_right st (show i' + 1 ≤ e0 from h2)
                      rw [Nat.add_mul] at this
                      omega
                    · have := Nat.mul_le_mul_right st (show e0 + 1 ≤ i' from h2)
                      rw [Nat.add_mul] at this
                      omega
                refine ⟨u, ?_, ?_⟩
                · rcases hne with h1 | h1
                  · rw [List.getElem?_append_left (by simp only [List.length_append, List.length_take]; omega), List.getElem?_append_left (by simp only [List.length_take]; omega), List.getElem?_take, if_pos h1]
                    exact hu
                  · rw [List.getElem?_append_right (by simp only [List.length_append, List.length_take, hvl]; omega)]
                    simp only [List.length_append, List.length_take, hvl, List.getElem?_drop]
                    rw [show e0 * st + j + v.cells.length + (i' * st + j' - (min (e0 * st + j) xs.length + v.cells.length)) = i' * st + j' by omega]
                    exact hu
                · have e1 : (Nat.beq i' e0 && (Nat.ble j j' && Nat.blt j' (j + v.cells.length))) = false := by
                    rw [Bool.and_eq_false_iff]
                    by_cases h1 : i' = e0
                    · right
                      rw [← Bool.not_eq_true]
                      simp only [Bool.and_eq_true, Nat.blt_eq, Nat.ble_eq]
                      intro h2; exact hin ⟨h1, h2⟩
                    · left
                      rw [← Bool.not_eq_true]
                      intro h2; exact h1 (Nat.eq_of_beq_eq_true h2)
                  simp only [putF, e1]; exact hr
        · cases he
      · cases he
    · cases he
  case h_6 cl ho =>
    split at he
    · rename_i x y t t' hcal hargs htys
      split at he
      · rename_i htt
        have := Nat.eq_of_beq_eq_true htt
        subst this
        have ha : cl.args = #[x, y] := by apply Array.ext'; simpa using hargs
        have hat : cl.argTypes = #[t, t] := by apply Array.ext'; simpa using htys
        exact app_sound h hview hsub ho hcal ha hat he hp hd hfresh
      · cases he
    · rename_i f hcal
      split at he
      · rename_i g caps args hf hargs
        split at he
        · rename_i σ hσ
          split at he
          · rename_i p' v N' Z hs
            simp only [Option.some.injEq, Prod.mk.injEq] at he; obtain ⟨rfl, rfl⟩ := he
            have S := hsg g σ hσ
            obtain ⟨cx, hcx, hfv⟩ := look_rel hview hf
            have hax := lookAll_rel G hview hargs
            have hrun : (execOp a.eval o).run P w = .ok (.enter g (cl.args.map a.eval ++ cx.toArray)) w := by
              simp only [execOp, ho, resolve, hcal, hfv, Deferred.ofValue, Sem.run_bind, Sem.run_pure, Result.andThen_ok, invoke, Array.empty_append, S.enter]
            refine ow_enter hrun hdf ?_
            have hall : F2 (A.rel ρ) (args ++ caps.map fun q => .c (.ptr q.1 q.2)) (cl.args.toList.map a.eval ++ cx) := f2_append hax (ptr_names hcx)
            have hc := S.ok _ c s'.hp p' v N' Z hs hp ρ _ w hgw h.im hcl hview.gl hall hview.hp (fun i hi => h.dom _ (hfresh i hi))
            have earr : (cl.args.toList.map a.eval ++ cx).toArray = cl.args.map a.eval ++ cx.toArray := by apply Array.ext'; simp
            rw [earr] at hc
            refine hc.mono ?_
            rintro en w' ⟨ρ', x, rfl, hle, hno, hv, hbel, hnew, hdist, hZ, hκ⟩
            have hfz := S.frz _ c s'.hp p' v N' Z hs
            refine ⟨x, rfl, ρ', h.step hd hle hbel.os hbel.tape hbel.output hbel.size (fun i hi _ => hbel.block i hi) hno hfresh (fun v' _ hv' => by cases hv'; exact hv) ?_ ?_ hdist ?_, hle⟩
            · intro q hq
              obtain ⟨_, k, g1, g2⟩ := hfz q hq
              exact ⟨⟨k, hsub _ _ g1, g2⟩, hZ q hq⟩
            · intro i k hi
              obtain ⟨b, g1, g2, g3, g4⟩ := hnew i k hi
              exact ⟨b, g1, g3, g4, .inl g2⟩
            · intro b o v hv
              rcases hκ b o v hv with h1 | ⟨h1, h2, h3, h4⟩
              · exact .inl h1
              · refine .inr ⟨?_, h2, h3, h4⟩
                rcases h1 with h1 | ⟨q, b0, hq, hb0, hbb⟩
                · exact .inl h1
                · exact .inr ⟨q, b0, hq, hb0, hbb, fun q' hq' _ => (hfz q' hq').1⟩
          · cases he
        · cases he
      · rename_i φ args hf hargs
        split at he
        · rename_i ars hars
          split at he
          · rename_i p' r' hφ
            simp only [Option.some.injEq, Prod.mk.injEq] at he; obtain ⟨rfl, rfl⟩ := he
            have hfv := look_rel hview hf
            obtain ⟨fid, caps, hfe, hent, hcall⟩ := hcl φ _ hfv.1
            have hax := lookAll_rel G hview hargs
            have hrun : (execOp a.eval o).run P w = .ok (.enter fid (cl.args.map a.eval ++ caps)) w := by
              simp only [execOp, ho, resolve, hcal, hfe, Deferred.ofValue, Sem.run_bind, Sem.run_pure, Result.andThen_ok, invoke, Array.empty_append, hent]
            refine ow_enter hrun hdf ?_
            have hc := hcall ρ.κ w ars p' r' _ (fun _ _ _ h => h) h.im hgw hφ hp (toArs_rel hars hax)
            have earr : (cl.args.toList.map a.eval).toArray ++ caps = cl.args.map a.eval ++ caps := by apply Array.ext'; simp
            rw [earr] at hc
            refine hc.mono ?_
            rintro en w' ⟨x, κ'', rfl, hle, hl, hn, hr, hb⟩
            exact ⟨x, rfl, _, clo_rel h hle hl hn hb hd (fun v hv => by cases hv; exact ofAr_rel (ρ := { ρ with κ := κ'' }) hr), ⟨fun _ _ h => h, hle, rfl, rfl⟩⟩
          · cases he
        · cases he
      · cases he
    · exact val_case he
  case h_7 => exact val_case he

end
end Go.V
end

section
/- The second engine, part 9: a region, in the text's order. -/
set_option linter.unusedVariables false
set_option linter.unusedSimpArgs false
namespace Go.V
open Go.RowKit (Below)

def memN : List Nat → Nat → Bool
  | [], _ => false
  | x :: l, m => match Nat.beq x m with | true => true | false => memN l m
theorem memN_iff {m : Nat} : ∀ {l : List Nat}, memN l m = true ↔ m ∈ l := by
  intro l
  induction l with
  | nil => simp [memN]
  | cons x l ih =>
    simp only [memN]
    split
    · rename_i h; have := Nat.eq_of_beq_eq_true h; subst this; simp
    · rename_i h
      rw [ih, List.mem_cons]
      constructor
      · exact .inr
      · rintro (rfl | h')
        · simp at h
        · exact h'

def restr (s : S) (ts ms : List Nat) : S :=
  { tm := fun t => match memN ts t with | true => s.tm t | false => none
    hp := fun m => match memN ms m with | true => s.hp m | false => none }

theorem restr_congr {s s' : S} {ts ms : List Nat} (ht : ∀ t, t ∈ ts → s.tm t = s'.tm t) (hm : ∀ m, m ∈ ms → s.hp m = s'.hp m) : restr s ts ms = restr s' ts ms := by
  unfold restr
  congr 1
  · funext t; split
    · rename_i h; exact ht t (memN_iff.1 h)
    · rfl
  · funext m; split
    · rename_i h; exact hm m (memN_iff.1 h)
    · rfl

/-- What has been assumed of a bool that a guard asks. -/
def assume (orc : Option Bool) (r : Eff × List Prop) : Eff × List Prop :=
  match orc, r.1.val with
  | some b0, some (.a (.c (.bool b))) => ({ r.1 with val := some (.a (.c (.lit b0))) }, (b = b0) :: r.2)
  | _, _ => r

inductive St where
  | ok (e : Option Eff) (p : List Prop) (rd : List Nat)
  | ask (k : Nat) (b : Bool)
  | fail

def freshB (s : S) : List Nat → Bool
  | [] => true
  | m :: l => match s.hp m with | none => freshB s l | some _ => false
theorem freshB_at {s : S} : ∀ {l : List Nat} {m : Nat}, freshB s l = true → m ∈ l → s.hp m = none := by
  intro l
  induction l with
  | nil => intro m _ h; simp at h
  | cons x l ih =>
    intro m h hm
    simp only [freshB] at h
    split at h
    · rename_i hx
      rcases List.mem_cons.1 hm with rfl | hm
      · exact hx
      · exact ih h hm
    · cases h

section
variable (P : Program) (G : GT) (N : Nat) (sg : FuncId → Option Sm) (wk : Nat → Bool)

def opEff (orc : Option Bool) (o : Oper) (c : Nat) (s : S) : St :=
  match rdOf G o (restr s (opTmps o.op.operands.toList) []) with
  | rd =>
    match effM P G sg o c (restr s (opTmps o.op.operands.toList) rd) with
    | some r =>
      match (match o.dst with | some d => Nat.blt d N | none => true) && freshB s (names c r.1.nw.length) && r.1.wr.all (fun p => wk p.1) with
      | true => .ok (some (assume orc r).1) (assume orc r).2 rd
      | false => .fail
    | none => .fail

/-- An operation that its guard leaves out. -/
def skipA (N : Nat) (o : Oper) : St := match (match o.dst with | some d => Nat.blt d N | none => true) with | true => .ok (some ⟨some (.tup []), [], []⟩) [] [] | false => .fail

def stepA (ops : Array Oper) (orc : Nat → Option Bool) (i c : Nat) (o : Oper) (s : S) : St :=
  match o.guard with
  | none => opEff P G N sg wk (orc i) o c s
  | some (k, want) =>
    match dstOf ops k with
    | some d =>
      match s.tm d with
      | some (.a (.c (.lit b))) => (match b == want with
        | true => opEff P G N sg wk (orc i) o c s
        | false => skipA N o)
      | some (.a (.c (.bool b))) => .ask k b
      | some (.tup []) => skipA N o
      | _ => .fail
    | none => .fail

inductive RR where
  | done (L : List Item) (s : S) (c : Nat) (p : List Prop)
  | ask (k : Nat) (b : Bool)
  | fail

def newsOf : Option Eff → Nat
  | some e => e.nw.length
  | none => 0

def rrun (ops : Array Oper) (orc : Nat → Option Bool) : List Oper → Nat → Nat → S → RR
  | [], _, c, s => .done [] s c []
  | o :: l, i, c, s =>
    match stepA P G N sg wk ops orc i c o s with
    | .ok e p rd =>
      (match rrun ops orc l (i + 1) (c + newsOf e) (doit o.dst ⟨c, e, rd⟩ s) with
      | .done L s' c' q => .done ((o.dst, ⟨c, e, rd⟩) :: L) s' c' (p ++ q)
      | r => r)
    | .ask k b => .ask k b
    | .fail => .fail

end

section
variable {P : Program} {G : GT} {N : Nat} {rr : Option Nat} {sg : FuncId → Option Sm} {wk : Nat → Bool} {gw : World → Prop} {w0 : World} {ρ : Ren} {a : Act} {w : World} {Q : Exit → Act → World → Prop}

/-- What is known of the surroundings: the package-level variables, the functions among the arguments. -/
structure Amb (P : Program) (G : GT) (gw : World → Prop) (ρ : Ren) : Prop where
  gl : ∀ g n F, G g = some (n, F) → (C.ip n F).rel ρ (.pointer (some ⟨g, 0, none⟩))
  cl : ∀ φ x, ρ.cl φ x → CloOK P gw ρ.κ φ x
theorem Amb.mono {ρ' : Ren} (h : Amb P G gw ρ) (hle : ρ.le ρ') : Amb P G gw ρ' where
  gl := fun g n F e => C.rel_mono hle _ _ (h.gl g n F e)
  cl := fun φ x hx => CloOK.mono hle.κ (h.cl φ x (by rw [← hle.cl]; exact hx))

theorem Rel.view {s : S} (h : Rel w0 N ρ s a w) (hgl : Amb P G gw ρ) (ts ms : List Nat) : View G ρ (restr s ts ms) a w where
  tm := by
    intro t v ht
    simp only [restr] at ht
    split at ht
    · exact (h.tm t v ht).2
    · cases ht
  hp := by
    intro m k hk
    simp only [restr] at hk
    split at hk
    · obtain ⟨b, h1, h2, h3, _⟩ := h.hp m k hk; exact ⟨b, h1, h2, h3⟩
    · cases hk
  im := h.im
  gl := hgl.gl

/-- A weaker state. -/
theorem Rel.weaken {s s' : S} (h : Rel w0 N ρ s a w) (ht : ∀ t v', s'.tm t = some v' → ∃ v, s.tm t = some v ∧ ∀ x, v.rel ρ x → v'.rel ρ x) (hm : ∀ m, s'.hp m = s.hp m) : Rel w0 N ρ s' a w where
  sz := h.sz
  df := h.df
  bel := h.bel
  tm := by
    intro t v' hv
    obtain ⟨v, h1, h2⟩ := ht t v' hv
    obtain ⟨h3, h4⟩ := h.tm t v h1
    exact ⟨h3, h2 _ h4⟩
  dom := fun m hd => h.dom m (by rw [← hm]; exact hd)
  hp := fun m k hk => h.hp m k (by rw [← hm]; exact hk)
  inj := fun m m' k k' b b' h1 h2 => h.inj m m' k k' b b' (by rw [← hm]; exact h1) (by rw [← hm]; exact h2)
  im := h.im
  old := h.old
  dis := fun m k b o h1 => h.dis m k b o (by rw [← hm]; exact h1)

theorem assume_rel {orc : Option Bool} {r : Eff × List Prop} {dst : Option Tmp} {c : Nat} {s : S} (hp : All (assume orc r).2) (h : Rel w0 N ρ (act dst c r.1 s) a w) : Rel w0 N ρ (act dst c (assume orc r).1 s) a w := by
  unfold assume at hp ⊢
  split at hp
  · rename_i b0 b hv
    simp only at hp
    obtain ⟨rfl, _⟩ := hp
    refine h.weaken ?_ (fun m => rfl)
    intro t v' ht
    cases dst with
    | none => simp only [act] at ht ⊢; exact ⟨v', ht, fun x hx => hx⟩
    | some d =>
      simp only [act] at ht ⊢
      by_cases e : t = d
      · subst e
        rw [upd_same] at ht; cases ht
        refine ⟨.a (.c (.bool _)), by rw [upd_same]; exact hv, fun x hx => hx⟩
      · rw [upd_ne _ _ e] at ht ⊢
        exact ⟨v', ht, fun x hx => hx⟩
  · exact h

theorem assume_p {orc : Option Bool} {r : Eff × List Prop} (hp : All (assume orc r).2) : All r.2 := by
  unfold assume at hp
  split at hp
  · exact hp.2
  · exact hp
theorem assume_nw {orc : Option Bool} {r : Eff × List Prop} : (assume orc r).1.nw = r.1.nw ∧ (assume orc r).1.wr = r.1.wr := by
  unfold assume; split <;> exact ⟨rfl, rfl⟩

theorem opEff_sound (hsg : ∀ f σ, sg f = some σ → SumOK P G gw f σ) (hgl : Amb P G gw ρ) (hgw : gw w) {orc : Option Bool} {o : Oper} {c : Nat} {T T' : S} {e : Option Eff} {p : List Prop} {rd : List Nat}
    (he : opEff P G N sg wk orc o c T' = .ok e p rd) (hp : All p) (h : Rel w0 N ρ T a w)
    (h1 : ∀ t, t ∈ opTmps o.op.operands.toList → T.tm t = T'.tm t) (h2 : ∀ m, m ∈ rd → T.hp m = T'.hp m) (h3 : ∀ m, m ∈ (Rec.mk c e rd).touch → T.hp m = T'.hp m) :
    o.wpIn (Fd rr) 0 P a w (fun a' w' => ∃ ρ', Rel w0 N ρ' (doit o.dst ⟨c, e, rd⟩ T) a' w' ∧ ρ.le ρ') Q := by
  unfold opEff at he
  simp only at he
  split at he
  · rename_i r hr
    split at he
    · rename_i hok
      simp only [St.ok.injEq] at he
      obtain ⟨rfl, rfl, rfl⟩ := he
      simp only [Bool.and_eq_true] at hok
      have hd : ∀ d, o.dst = some d → d < N := by
        intro d hd
        have := hok.1.1
        rw [hd] at this
        simpa [Nat.blt_eq] using this
      have e1 : restr T (opTmps o.op.operands.toList) [] = restr T' (opTmps o.op.operands.toList) [] := restr_congr h1 (by simp)
      rw [← e1] at hr h2
      have e2 : restr T (opTmps o.op.operands.toList) (rdOf G o (restr T (opTmps o.op.operands.toList) [])) = restr T' (opTmps o.op.operands.toList) (rdOf G o (restr T (opTmps o.op.operands.toList) [])) := restr_congr h1 h2
      rw [← e2] at hr
      have hfr : ∀ i, i < r.1.nw.length → T.hp (c + i) = none := by
        intro i hi
        have hm : c + i ∈ names c r.1.nw.length := mem_names.2 ⟨by omega, by omega⟩
        rw [h3 (c + i) (by simp only [Rec.touch, assume_nw.1]; exact List.mem_append_right _ hm)]
        exact freshB_at hok.1.2 hm
      have key := effM_sound (r := rr) (Q := Q) hsg h hgl.cl hgw (h.view hgl (opTmps o.op.operands.toList) (rdOf G o (restr T (opTmps o.op.operands.toList) []))) (fun m k hk => by
        simp only [restr] at hk
        split at hk
        · exact hk
        · cases hk) hr (assume_p hp) hd hfr
      refine Oper.wpIn_mono ?_ key
      rintro a' w' ⟨ρ', hrel, hle⟩
      exact ⟨ρ', assume_rel hp hrel, hle⟩
    · cases he
  · cases he

theorem skipA_sound {c : Nat} {o : Oper} {T : S} {e : Option Eff} {p : List Prop} {rd : List Nat} (he : skipA N o = .ok e p rd) (h : Rel w0 N ρ T a w) :
    ∃ ρ', Rel w0 N ρ' (doit o.dst ⟨c, e, rd⟩ T) (a.put o.dst undef) w ∧ ρ.le ρ' := by
  unfold skipA at he
  split at he
  · rename_i hdn
    simp only [St.ok.injEq] at he
    obtain ⟨rfl, rfl, rfl⟩ := he
    refine ⟨ρ, ?_, Ren.le_refl _⟩
    have hdn' : ∀ d, o.dst = some d → d < N := by
      intro d hd; rw [hd] at hdn; simpa [Nat.blt_eq] using hdn
    have := h.quiet (dst := o.dst) (c := 0) (val := some (.tup [])) (x := undef) hdn' (fun v hv => by cases hv; exact ⟨[], .nil, rfl⟩)
    exact this
  · cases he

theorem stepA_sound (hsg : ∀ f σ, sg f = some σ → SumOK P G gw f σ) (hgl : Amb P G gw ρ) (hgw : gw w) {ops : Array Oper} {orc : Nat → Option Bool} {i c : Nat} {o : Oper} {T T' : S} {e : Option Eff} {p : List Prop} {rd : List Nat}
    (ho : ops[i]? = some o) (he : stepA P G N sg wk ops orc i c o T' = .ok e p rd) (hp : All p) (h : Rel w0 N ρ T a w)
    (h1 : ∀ t, t ∈ uses ops o → T.tm t = T'.tm t) (h2 : ∀ m, m ∈ rd → T.hp m = T'.hp m) (h3 : ∀ m, m ∈ (Rec.mk c e rd).touch → T.hp m = T'.hp m) :
    wpOpIn (Fd rr) 0 P ops Q i (fun a' w' => ∃ ρ', Rel w0 N ρ' (doit o.dst ⟨c, e, rd⟩ T) a' w' ∧ ρ.le ρ') a w := by
  have hu : ∀ t, t ∈ opTmps o.op.operands.toList → T.tm t = T'.tm t := fun t ht => h1 t (by unfold uses; exact List.mem_append_right _ ht)
  unfold wpOpIn
  rw [ho]
  simp only
  unfold stepA at he
  split at he
  · rename_i hg
    rw [if_pos (by simp [Region.wanted, hg])]
    exact opEff_sound hsg hgl hgw he hp h hu h2 h3
  · rename_i k want hg
    split at he
    · rename_i d hd
      have hT : T.tm d = T'.tm d := h1 d (by unfold uses; rw [hg]; simp [hd])
      split at he
      · rename_i b hb
        rw [← hT] at hb
        obtain ⟨hlt, hv⟩ := h.tm d _ hb
        have hv' : a.tmps.getD d undef = .bool b := hv
        have hy : yielded ops a.tmps k = some b := by
          have hd' : (ops[k]?).bind (·.dst) = some d := hd
          have : a.tmps[d]? = some (.bool b) := by
            rw [Array.getD_eq_getD_getElem?] at hv'
            have hlt' : d < a.tmps.size := by rw [h.sz]; exact hlt
            rw [Array.getElem?_eq_getElem hlt'] at hv' ⊢
            simpa using hv'
          simp [yielded, hd', this]
        split at he
        · rename_i hw
          have : b = want := by simpa using hw
          subst this
          rw [if_pos (by simp [Region.wanted, hg, hy])]
          exact opEff_sound hsg hgl hgw he hp h hu h2 h3
        · rename_i hw
          rw [if_neg (by simp [Region.wanted, hg, hy]; simpa using hw)]
          exact ⟨fun _ _ => trivial, skipA_sound he h⟩
      · cases he
      · rename_i hb
        rw [← hT] at hb
        obtain ⟨hlt, hv⟩ := h.tm d _ hb
        have hv' : a.tmps.getD d undef = .tuple #[] := by
          obtain ⟨ys, h1, h2⟩ := hv
          cases h1
          exact h2
        have hy : yielded ops a.tmps k = none := by
          have hd' : (ops[k]?).bind (·.dst) = some d := hd
          have : a.tmps[d]? = some (.tuple #[]) := by
            rw [Array.getD_eq_getD_getElem?] at hv'
            have hlt' : d < a.tmps.size := by rw [h.sz]; exact hlt
            rw [Array.getElem?_eq_getElem hlt'] at hv' ⊢
            simpa using hv'
          simp [yielded, hd', this]
        rw [if_neg (by simp [Region.wanted, hg, hy])]
        exact ⟨fun _ _ => trivial, skipA_sound he h⟩
      · cases he
    · cases he

theorem rrun_spec {ops : Array Oper} {orc : Nat → Option Bool} : ∀ {l : List Oper} {i c : Nat} {s : S} {L : List Item} {s' : S} {c' : Nat} {q : List Prop}, rrun P G N sg wk ops orc l i c s = .done L s' c' q → All q →
    L.length = l.length ∧ s' = runL (fun _ => true) L i s ∧ ∀ j o x, l[j]? = some o → L[j]? = some x →
      x.1 = o.dst ∧ ∃ p, stepA P G N sg wk ops orc (i + j) x.2.c o (runL (fun k => Nat.blt k (i + j)) L i s) = .ok x.2.e p x.2.rd ∧ All p := by
  intro l
  induction l with
  | nil =>
    intro i c s L s' c' q h hq
    simp only [rrun, RR.done.injEq] at h
    obtain ⟨rfl, rfl, rfl, rfl⟩ := h
    exact ⟨rfl, rfl, fun j o x h => by simp at h⟩
  | cons o l ih =>
    intro i c s L s' c' q h hq
    simp only [rrun] at h
    split at h
    · rename_i e p rd hst
      split at h
      · rename_i L2 s2 c2 q2 hr
        simp only [RR.done.injEq] at h
        obtain ⟨rfl, rfl, rfl, rfl⟩ := h
        obtain ⟨hp, hq2⟩ := All.append.1 hq
        obtain ⟨i1, i2, i3⟩ := ih hr hq2
        refine ⟨by simp [i1], by simp [runL, i2], ?_⟩
        intro j o' x ho hx
        cases j with
        | zero =>
          simp at ho hx; subst ho; subst hx
          refine ⟨rfl, p, ?_, hp⟩
          have : ∀ (l : List Item) (k : Nat), i ≤ k → ∀ s, runL (fun k => Nat.blt k (i + 0)) l k s = s := by
            intro l
            induction l with
            | nil => intro k _ s; rfl
            | cons x l ih =>
              intro k hk s
              have : Nat.blt k (i + 0) = false := by rw [← Bool.not_eq_true, Nat.blt_eq]; omega
              simp only [runL, this, Bool.false_eq_true, if_false]
              exact ih _ (by omega) _
          rw [this _ _ (Nat.le_refl _)]
          exact hst
        | succ j =>
          obtain ⟨k1, p', k2, k3⟩ := i3 j o' x (by simpa using ho) (by simpa using hx)
          refine ⟨k1, p', ?_, k3⟩
          have hlt : Nat.blt i (i + (j + 1)) = true := by rw [Nat.blt_eq]; omega
          simp only [runL, hlt, if_true]
          rw [show i + (j + 1) = i + 1 + j by omega]
          exact k2
      · rename_i hne
        exact absurd h (by intro hh; exact hne _ _ _ _ hh)
    · cases h
    · cases h

theorem stepA_keeps {ops : Array Oper} {orc : Nat → Option Bool} {i c : Nat} {o : Oper} {s : S} {e : Option Eff} {p : List Prop} {rd : List Nat} (h : stepA P G N sg wk ops orc i c o s = .ok e p rd) :
    ∀ f, e = some f → ∀ q, q ∈ f.wr → wk q.1 = true := by
  have hop : ∀ {orc : Option Bool}, opEff P G N sg wk orc o c s = .ok e p rd → ∀ f, e = some f → ∀ q, q ∈ f.wr → wk q.1 = true := by
    intro orc h f hf q hq
    unfold opEff at h
    simp only at h
    split at h
    · split at h
      · rename_i r hr hok
        simp only [St.ok.injEq] at h
        obtain ⟨rfl, _, _⟩ := h
        cases hf
        rw [assume_nw.2] at hq
        simp only [Bool.and_eq_true] at hok
        exact List.all_eq_true.1 hok.2 q hq
      · cases h
    · cases h
  have hsk : skipA N o = .ok e p rd → ∀ f, e = some f → ∀ q, q ∈ f.wr → wk q.1 = true := by
    intro h f hf q hq
    unfold skipA at h
    split at h
    · simp only [St.ok.injEq] at h
      obtain ⟨rfl, _, _⟩ := h
      cases hf; cases hq
    · cases h
  unfold stepA at h
  split at h
  · exact hop h
  · split at h
    · split at h
      · split at h
        · exact hop h
        · exact hsk h
      · cases h
      · exact hsk h
      · cases h
    · cases h

theorem rrun_keeps {ops : Array Oper} {orc : Nat → Option Bool} : ∀ {l : List Oper} {i c : Nat} {s : S} {L : List Item} {s' : S} {c' : Nat} {q : List Prop}, rrun P G N sg wk ops orc l i c s = .done L s' c' q →
    c ≤ c' ∧ (∀ t, (∀ o, o ∈ l → o.dst ≠ some t) → s'.tm t = s.tm t) ∧ (∀ m, m < c → wk m = false → s'.hp m = s.hp m) := by
  intro l
  induction l with
  | nil =>
    intro i c s L s' c' q h
    simp only [rrun, RR.done.injEq] at h
    obtain ⟨_, rfl, rfl, _⟩ := h
    exact ⟨Nat.le_refl _, fun _ _ => rfl, fun _ _ _ => rfl⟩
  | cons o l ih =>
    intro i c s L s' c' q h
    simp only [rrun] at h
    split at h
    · rename_i e p rd hst
      split at h
      · rename_i L2 s2 c2 q2 hr
        simp only [RR.done.injEq] at h
        obtain ⟨_, rfl, rfl, _⟩ := h
        obtain ⟨i1, i2, i3⟩ := ih hr
        refine ⟨by omega, fun t ht => ?_, fun m hm hw => ?_⟩
        · rw [i2 t fun o' ho' => ht o' (List.mem_cons_of_mem _ ho')]
          exact doit_tm_ne (o.dst, ⟨c, e, rd⟩) s t (ht o (List.mem_cons_self ..))
        · rw [i3 m (by omega) hw]
          refine doit_hp_ne (o.dst, ⟨c, e, rd⟩) s m ?_
          simp only [Rec.touch]
          cases e with
          | none => simp
          | some f =>
            simp only [List.mem_append, mem_names, not_or, List.mem_map, not_exists, not_and]
            refine ⟨fun q hq hqm => ?_, by omega⟩
            have := stepA_keeps hst f rfl q hq
            rw [hqm, hw] at this; cases this
      · rename_i hne
        exact absurd h (by intro hh; exact hne _ _ _ _ hh)
    · cases h
    · cases h

/-- In the text's order. -/
theorem region_seq (hsg : ∀ f σ, sg f = some σ → SumOK P G gw f σ) (hst : ∀ w w', gw w → Below w.heap.size w w' → gw w') (hgw0 : gw w0) {ops : Array Oper} {orc : Nat → Option Bool} {c c' : Nat} {s s' : S} {L : List Item} {q : List Prop}
    (hr : rrun P G N sg wk ops orc ops.toList 0 c s = .done L s' c' q) (hq : All q) (h : Rel w0 N ρ s a w) (hgl : Amb P G gw ρ)
    (hQ : ∀ a' w' ρ', Rel w0 N ρ' s' a' w' → ρ.le ρ' → Q .normal a' w') : wpOpsIn (Fd rr) 0 P ops Q (List.range ops.size) a w := by
  obtain ⟨hlen, hs', hall⟩ := rrun_spec hr hq
  have key : ∀ n, n ≤ ops.size → ∀ (a : Act) (w : World) (ρ1 : Ren), Rel w0 N ρ1 (runL (fun k => Nat.blt k (ops.size - n)) L 0 s) a w → ρ.le ρ1 →
      wpOpsIn (Fd rr) 0 P ops Q (List.range' (ops.size - n) n) a w := by
    intro n
    induction n with
    | zero =>
      intro _ a w ρ1 h1 hle
      simp only [List.range'_zero, wpOpsIn]
      refine hQ a w ρ1 ?_ hle
      rw [hs', ← runL_all (D := fun k => Nat.blt k (ops.size - 0)) L 0 s (fun k hk => by rw [Nat.blt_eq]; simp at hlen; omega)]
      exact h1
    | succ n ih =>
      intro hn a w ρ1 h1 hle
      rw [List.range'_succ, wpOpsIn_cons]
      have hj : ops.size - (n + 1) < ops.size := by omega
      have ho : ops[ops.size - (n + 1)]? = some ops[ops.size - (n + 1)] := Array.getElem?_eq_getElem hj
      have hjL : ops.size - (n + 1) < L.length := by rw [hlen]; simpa using hj
      obtain ⟨k1, p, k2, k3⟩ := hall (ops.size - (n + 1)) _ L[ops.size - (n + 1)] (by rw [Array.getElem?_toList]; exact ho) (List.getElem?_eq_getElem hjL)
      simp only [Nat.zero_add] at k2
      have st := stepA_sound (rr := rr) (Q := Q) hsg (hgl.mono hle) (hst _ _ hgw0 h1.bel) ho k2 k3 h1 (fun t _ => rfl) (fun m _ => rfl) (fun m _ => rfl)
      refine wpOpIn_mono ?_ st
      rintro a' w' ⟨ρ', hrel, hle'⟩
      have := ih (by omega) a' w' ρ' ?_ (Ren.le_trans hle hle')
      · rw [show ops.size - (n + 1) + 1 = ops.size - n by omega]; exact this
      · have e := runL_ins (D := fun k => Nat.blt k (ops.size - (n + 1))) (D' := fun k => Nat.blt k (ops.size - n)) L[ops.size - (n + 1)] L 0 (ops.size - (n + 1)) s (List.getElem?_eq_getElem hjL)
          (by rw [← Bool.not_eq_true, Nat.blt_eq]; omega) (by rw [Nat.blt_eq]; omega)
          (fun k hk => by
            have : (k < ops.size - n) ↔ (k < ops.size - (n + 1)) := by omega
            rw [Bool.eq_iff_iff, Nat.blt_eq, Nat.blt_eq]; exact this)
          (fun k y _ hjk hD => by rw [Nat.blt_eq] at hD; omega)
        rw [e, k1]
        exact hrel
  have := key ops.size (Nat.le_refl _) a w ρ (by
    have : ∀ (l : List Item) (i : Nat), runL (fun k => Nat.blt k (ops.size - ops.size)) l i s = s := by
      intro l
      induction l with
      | nil => intro i; rfl
      | cons x l ih =>
        intro i
        have : Nat.blt i (ops.size - ops.size) = false := by rw [← Bool.not_eq_true, Nat.blt_eq]; omega
        simp only [runL, this, Bool.false_eq_true, if_false]
        exact ih _
    rw [this]; exact h) (Ren.le_refl _)
  rw [Nat.sub_self, ← List.range_eq_range'] at this
  exact this

end
end Go.V
end

section
/- The second engine, part 10: a region in whatever order. -/
set_option linter.unusedVariables false
set_option linter.unusedSimpArgs false
namespace Go.V
open Go.RowKit (Below)

/-- All that must hold of a region's record if its order is drawn. -/
def anyOk (ops : Array Oper) (L : List Item) : Bool :=
  match masks ops.toList [] with
  | M => masksOk M ops.toList 0 && allPairsOk ops M L ops.toList L 0

theorem count_set : ∀ {l : List Bool} {j : Nat} (hj : j < l.length), l[j] = false → ((l.set j true).filter id).length = (l.filter id).length + 1
  | [], j, hj, _ => by simp at hj
  | x :: l, 0, _, h => by simp at h; subst h; simp
  | x :: l, j + 1, hj, h => by
    have := count_set (l := l) (j := j) (by simpa using hj) (by simpa using h)
    cases x <;> simp [this]

section
variable {P : Program} {G : GT} {N : Nat} {rr : Option Nat} {sg : FuncId → Option Sm} {wk : Nat → Bool} {gw : World → Prop} {w0 : World} {ρ : Ren} {a : Act} {w : World} {Q : Exit → Act → World → Prop}

theorem mem_ready' {ops : Array Oper} {listed : Array Bool} {j : Nat} (h : j ∈ Region.ready .any ops listed) :
    ∃ o, ops[j]? = some o ∧ j < ops.size ∧ listed.getD j true = false ∧ ∀ e ∈ o.after.toList, Region.binds .any e = true → listed.getD e.on false = true := by
  unfold Region.ready at h
  rw [List.mem_filter, List.mem_range] at h
  obtain ⟨hj, h2⟩ := h
  have ho : ops[j]? = some ops[j] := Array.getElem?_eq_getElem hj
  rw [ho] at h2
  simp only [Option.map_some, Option.getD_some, Bool.and_eq_true, Bool.not_eq_true'] at h2
  refine ⟨_, ho, hj, h2.1, fun e he hb => ?_⟩
  have := Array.all_eq_true_iff_forall_mem.1 h2.2 e (by simpa using he)
  rw [hb] at this
  simpa using this

theorem ready_nil {ops : Array Oper} {listed : Array Bool} (hs : listed.size = ops.size) {M : List Nat} (hM : masksOk M ops.toList 0 = true) (h : Region.ready .any ops listed = []) :
    ∀ i, i < ops.size → listed.getD i false = true := by
  intro i
  induction i using Nat.strongRecOn with
  | _ i ih =>
    intro hi
    cases hl : listed.getD i false with
    | true => rfl
    | false =>
      exfalso
      have ho : ops[i]? = some ops[i] := Array.getElem?_eq_getElem hi
      have hm := (masksOk_at hM (k := i) (o := ops[i]) (by rw [Array.getElem?_toList]; exact ho)).2
      have : i ∈ Region.ready .any ops listed := by
        unfold Region.ready
        rw [List.mem_filter, List.mem_range]
        refine ⟨hi, ?_⟩
        rw [ho]
        simp only [Option.map_some, Option.getD_some, Bool.and_eq_true, Bool.not_eq_true']
        constructor
        · have hi' : i < listed.size := by omega
          rw [Array.getD_eq_getD_getElem?, Array.getElem?_eq_getElem hi'] at hl ⊢
          simpa using hl
        · rw [Array.all_eq_true_iff_forall_mem]
          intro e he
          by_cases hb : Region.binds .any e = true
          · have h1 := hm e (by simpa using he) hb
            rw [hb, ih e.on (by omega) (by omega)]; rfl
          · simp [hb]
      rw [h] at this; simp at this

theorem region_any (hsg : ∀ f σ, sg f = some σ → SumOK P G gw f σ) (hst : ∀ w w', gw w → Below w.heap.size w w' → gw w') (hgw0 : gw w0) {ops : Array Oper} {orc : Nat → Option Bool} {c c' : Nat} {s s' : S} {L : List Item} {q : List Prop}
    (hr : rrun P G N sg wk ops orc ops.toList 0 c s = .done L s' c' q) (hq : All q) (hok : anyOk ops L = true) (h : Rel w0 N ρ s a w) (hgl : Amb P G gw ρ)
    (hQ : ∀ a' w' ρ', Rel w0 N ρ' s' a' w' → ρ.le ρ' → Q .normal a' w') : wpAnyIn (Fd rr) 0 P .any ops Q ops.size (Array.replicate ops.size false) a w := by
  obtain ⟨hlen, hs', hall⟩ := rrun_spec hr hq
  unfold anyOk at hok
  simp only [Bool.and_eq_true] at hok
  obtain ⟨hM, hP⟩ := hok
  generalize masks ops.toList [] = M at hM hP
  have key : ∀ fuel (listed : Array Bool) (a : Act) (w : World) (ρ1 : Ren), listed.size = ops.size → ops.size ≤ fuel + (listed.toList.filter id).length →
      (∀ j o, ops[j]? = some o → listed.getD j false = true → ∀ e ∈ o.after.toList, Region.binds .any e = true → listed.getD e.on false = true) →
      Rel w0 N ρ1 (runL (fun k => listed.getD k false) L 0 s) a w → ρ.le ρ1 → wpAnyIn (Fd rr) 0 P .any ops Q fuel listed a w := by
    have fin : ∀ (listed : Array Bool) (a : Act) (w : World) (ρ1 : Ren), listed.size = ops.size → Region.ready .any ops listed = [] →
        Rel w0 N ρ1 (runL (fun k => listed.getD k false) L 0 s) a w → ρ.le ρ1 → Q .normal a w := by
      intro listed a w ρ1 hs hnil h1 hle
      have hf := ready_nil hs hM hnil
      refine hQ a w ρ1 ?_ hle
      rw [hs', ← runL_all (D := fun k => listed.getD k false) L 0 s (fun k hk => by
        rw [Nat.zero_add]; exact hf k (by rw [hlen] at hk; simpa using hk))]
      exact h1
    intro fuel
    induction fuel with
    | zero =>
      intro listed a w ρ1 hs hcount hcl h1 hle
      have hfull : ∀ i, i < ops.size → listed.getD i false = true := by
        intro i hi
        have hl : (listed.toList.filter id).length = listed.toList.length := by
          have := List.length_filter_le id listed.toList
          simp at this hcount ⊢; omega
        rw [List.length_filter_eq_length_iff] at hl
        have hi' : i < listed.size := by omega
        have := hl listed[i] (by simp)
        rw [Array.getD_eq_getD_getElem?, Array.getElem?_eq_getElem hi']
        simpa using this
      have hnil : Region.ready .any ops listed = [] := by
        rw [List.eq_nil_iff_forall_not_mem]
        intro j hj
        obtain ⟨o, _, hlt, hn, _⟩ := mem_ready' hj
        have := hfull j hlt
        have hi' : j < listed.size := by omega
        rw [Array.getD_eq_getD_getElem?, Array.getElem?_eq_getElem hi'] at hn this
        simp at hn this
        rw [hn] at this; cases this
      exact ⟨hnil, fin listed a w ρ1 hs hnil h1 hle⟩
    | succ fuel ih =>
      intro listed a w ρ1 hs hcount hcl h1 hle
      refine ⟨fun hnil => fin listed a w ρ1 hs hnil h1 hle, ?_⟩
      intro j hj
      obtain ⟨o, ho, hjlt, hnot, hpre⟩ := mem_ready' hj
      have hjs : j < listed.size := by omega
      have hnot' : listed.getD j false = false := by
        rw [Array.getD_eq_getD_getElem?, Array.getElem?_eq_getElem hjs] at hnot ⊢
        simpa using hnot
      have hjL : j < L.length := by rw [hlen]; simpa using hjlt
      obtain ⟨k1, p, k2, k3⟩ := hall j o L[j] (by rw [Array.getElem?_toList]; exact ho) (List.getElem?_eq_getElem hjL)
      simp only [Nat.zero_add] at k2
      have hpairs := allPairsOk_at hP (k := j) (o := o) (y := L[j]) (by rw [Array.getElem?_toList]; exact ho) (List.getElem?_eq_getElem hjL)
      rw [Nat.zero_add] at hpairs
      -- what comes before one that has run has run
      have hdown : ∀ (i k : Nat), listed.getD i false = true → (M.getD i 0).testBit k = true → listed.getD k false = true := by
        intro i
        induction i using Nat.strongRecOn with
        | _ i ihd =>
          intro k hi hk
          have his : i < ops.size := by
            have : i < listed.size := by
              by_cases hlt : i < listed.size
              · exact hlt
              · rw [Array.getD_eq_getD_getElem?, Array.getElem?_eq_none (by omega)] at hi; simp at hi
            omega
          have hoi : ops[i]? = some ops[i] := Array.getElem?_eq_getElem his
          obtain ⟨m1, m2⟩ := masksOk_at hM (k := i) (o := ops[i]) (by rw [Array.getElem?_toList]; exact hoi)
          rw [Nat.zero_add] at m1 m2
          rw [m1] at hk
          obtain ⟨e, he, hb, hor⟩ := maskE_bit hk
          have h1 := hcl i _ hoi hi e he hb
          rcases hor with rfl | hor
          · exact h1
          · exact ihd e.on (m2 e he hb) k h1 hor
      have hbefore : ∀ k, (M.getD j 0).testBit k = true → listed.getD k false = true := by
        intro k hk
        obtain ⟨m1, m2⟩ := masksOk_at hM (k := j) (o := o) (by rw [Array.getElem?_toList]; exact ho)
        rw [Nat.zero_add] at m1 m2
        rw [m1] at hk
        obtain ⟨e, he, hb, hor⟩ := maskE_bit hk
        rcases hor with rfl | hor
        · exact hpre e he hb
        · exact hdown e.on k (hpre e he hb) hor
      -- an operation that j conflicts with has run just if it stands before j
      have hsame : ∀ k x, L[k]? = some x → k ≠ j → conf (uses ops o) x L[j] = true → listed.getD k false = Nat.blt k j := by
        intro k x hx hne hc
        have hp := pairsOk_at hpairs hx (by omega) hc
        rw [Nat.zero_add] at hp
        by_cases hlt : k < j
        · rw [hbefore k (hp.1 hlt)]; rw [eq_comm, Nat.blt_eq]; exact hlt
        · have hgt : j < k := by omega
          have : Nat.blt k j = false := by rw [← Bool.not_eq_true, Nat.blt_eq]; omega
          rw [this]
          cases hk : listed.getD k false with
          | false => rfl
          | true => have := hdown k j hk (hp.2 hgt); rw [hnot'] at this; cases this
      have hmem : ∀ {d : Nat} {l : List Nat}, d ∈ l → l.elem d = true := fun h => List.elem_eq_true_of_mem h
      have a1 : ∀ t, t ∈ uses ops o → (runL (fun k => listed.getD k false) L 0 s).tm t = (runL (fun k => Nat.blt k j) L 0 s).tm t := by
        intro t ht
        refine runL_tm L 0 s s rfl (fun k x hx hxt => ?_)
        rw [Nat.zero_add]
        by_cases e : k = j
        · subst e
          rw [hnot', eq_comm, ← Bool.not_eq_true, Nat.blt_eq]; omega
        · exact hsame k x hx e (by unfold conf; rw [hxt]; simp only [hmem ht, Bool.true_or])
      have a2 : ∀ m, (m ∈ L[j].2.rd ∨ m ∈ L[j].2.touch) → (runL (fun k => listed.getD k false) L 0 s).hp m = (runL (fun k => Nat.blt k j) L 0 s).hp m := by
        intro m hm
        refine runL_hp L 0 s s rfl (fun k x hx hxm => ?_)
        rw [Nat.zero_add]
        by_cases e : k = j
        · subst e
          rw [hnot', eq_comm, ← Bool.not_eq_true, Nat.blt_eq]; omega
        · refine hsame k x hx e ?_
          unfold conf
          rw [Bool.or_eq_true]; right
          rw [List.any_eq_true]
          refine ⟨m, hxm, ?_⟩
          rcases hm with hm | hm
          · rw [hmem hm]; rfl
          · rw [hmem hm]; simp
      have st := stepA_sound (rr := rr) (Q := Q) hsg (hgl.mono hle) (hst _ _ hgw0 h1.bel) ho k2 k3 h1 a1 (fun m hm => a2 m (.inl hm)) (fun m hm => a2 m (.inr hm))
      refine wpOpIn_mono ?_ st
      rintro a' w' ⟨ρ', hrel, hle'⟩
      refine ih (listed.setIfInBounds j true) a' w' ρ' (by simpa using hs) ?_ ?_ ?_ (Ren.le_trans hle hle')
      · have : ((listed.setIfInBounds j true).toList.filter id).length = (listed.toList.filter id).length + 1 := by
          rw [Array.toList_setIfInBounds]
          have hjl : j < listed.toList.length := by simpa using hjs
          have hval : listed.toList[j] = false := by
            rw [Array.getD_eq_getD_getElem?, Array.getElem?_eq_getElem hjs] at hnot'
            simpa using hnot'
          exact count_set hjl hval
        omega
      · intro i oi hoi hi e he hb
        by_cases hij : i = j
        · subst hij
          rw [ho] at hoi; cases hoi
          have := hpre e he hb
          by_cases hej : e.on = i
          · rw [hej] at this; rw [hnot'] at this; cases this
          · rw [getD_set_ne _ (fun h => hej h.symm)]; exact this
        · rw [getD_set_ne _ (fun h => hij h.symm)] at hi
          exact getD_set_true (hcl i oi hoi hi e he hb)
      · have e := runL_ins (D := fun k => listed.getD k false) (D' := fun k => (listed.setIfInBounds j true).getD k false) L[j] L 0 j s (List.getElem?_eq_getElem hjL)
          (by rw [Nat.zero_add]; exact hnot')
          (by rw [Nat.zero_add, Array.getD_eq_getD_getElem?, Array.getElem?_setIfInBounds]; simp [hjs])
          (fun k hk => by rw [Nat.zero_add] at hk; exact getD_set_ne _ (fun h => hk h.symm))
          (fun k y hy hjk hD t => by
            rw [Nat.zero_add] at hD
            have hnc : conf (uses ops o) y L[j] = false := by
              cases hc : conf (uses ops o) y L[j] with
              | false => rfl
              | true =>
                have := hsame k y hy (by omega) hc
                rw [hD, eq_comm, Nat.blt_eq] at this; omega
            unfold conf at hnc
            rw [Bool.or_eq_false_iff] at hnc
            refine doit_comm y L[j] t ?_ ?_
            · intro d hd hd'
              rw [hd] at hnc
              have : d ∈ uses ops o := by unfold uses; rw [k1] at hd'; rw [hd']; simp
              have := hmem this
              simp only at hnc
              rw [this] at hnc; cases hnc.1
            · intro m hm hm'
              have := hnc.2
              rw [List.any_eq_false] at this
              have := this m hm
              rw [hmem hm'] at this; simp at this)
        rw [e, k1]; exact hrel
  refine key ops.size _ a w ρ (by simp) (by omega) ?_ ?_ (Ren.le_refl _)
  · intro j o _ hj
    exfalso
    rw [Array.getD_eq_getD_getElem?, Array.getElem?_replicate] at hj
    split at hj <;> simp at hj
  · have : ∀ (l : List Item) (i : Nat), runL (fun k => (Array.replicate ops.size false).getD k false) l i s = s := by
      intro l
      induction l with
      | nil => intro i; rfl
      | cons x l ih =>
        intro i
        have : (Array.replicate ops.size false).getD i false = false := by
          rw [Array.getD_eq_getD_getElem?, Array.getElem?_replicate]; split <;> simp
        simp only [runL, this, Bool.false_eq_true, if_false]
        exact ih _
    rw [this]; exact h

end
end Go.V
end
