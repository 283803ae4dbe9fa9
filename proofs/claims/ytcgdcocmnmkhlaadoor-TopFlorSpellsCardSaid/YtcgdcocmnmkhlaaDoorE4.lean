/- The engine, part 4: what each operation does to the abstract state. -/
import Derived.Test.YtcgdcocmnmkhlaaDoorE3
namespace Go.Eng

/-- Cells of a block from a place on, so many. -/
def readN (k : Blk) (o : Nat) : Nat → Option (List C)
  | 0 => some []
  | n + 1 => match k.cell o, readN k (o + 1) n with | some c, some r => some (c :: r) | _, _ => none

theorem readN_sound {ρ : Ren} {b : Nat} {w : World} {k : Blk} (h : k.rel ρ b w) : ∀ {n o : Nat} {cs : List C}, readN k o n = some cs →
    ∃ xs : List Value, F2 (C.rel ρ) cs xs ∧ xs.length = n ∧ ∀ j v, xs[j]? = some v → w.cell? ((⟨b, o, none⟩ : Addr).add j) = some v := by
  intro n
  induction n with
  | zero => intro o cs e; simp [readN] at e; subst e; exact ⟨[], .nil, rfl, by simp⟩
  | succ n ih =>
    intro o cs e
    simp only [readN] at e
    split at e
    · rename_i c r hc hr
      simp at e; subst e
      obtain ⟨x, hx, hcell⟩ := Blk.rel_cell h hc
      obtain ⟨xs, hf, hl, hcs⟩ := ih hr
      refine ⟨x :: xs, .cons hx hf, by simp [hl], ?_⟩
      intro j v hj
      cases j with
      | zero => simp at hj; subst hj; simpa [Addr.add] using hcell
      | succ j =>
        have := hcs j v (by simpa using hj)
        have e1 : (⟨b, o, none⟩ : Addr).add (j + 1) = (⟨b, o + 1, none⟩ : Addr).add j := by
          simp only [Addr.add_lit]; congr 1; omega
        rw [e1]; exact this
    · cases e

def A.cells : A → List C
  | .c x => [x]
  | .agg cs => cs
theorem A.rel_cells {ρ : Ren} {p : A} {x : Value} (h : p.rel ρ x) : F2 (C.rel ρ) p.cells x.cells.toList := by
  cases p with
  | c y => rw [C.rel_cells h]; exact .cons h .nil
  | agg cs => obtain ⟨xs, hf, rfl⟩ := h; simpa [Value.cells, A.cells] using hf

theorem f2_oneCell {ρ : Ren} {cs : List C} {xs : List Value} (h : F2 (C.rel ρ) cs xs) : ∀ v ∈ xs, v.oneCell' = true := by
  induction h with
  | nil => simp
  | cons r _ ih =>
    intro v hv
    rcases List.mem_cons.1 hv with rfl | hv
    · have := C.rel_noAgg r
      cases v <;> first | rfl | exact absurd rfl (this.1 _) | exact absurd rfl (this.2 _)
    · exact ih v hv

/-- Parts of a literal laid into cells. -/
def setL (l : List C) (off : Nat) : List C → List C
  | [] => l
  | v :: vs => setL (l.set off v) (off + 1) vs
def fillA (place : Nat → Option (Nat × Nat)) (cells : List C) : List (Nat × A) → Option (List C)
  | [] => some cells
  | (i, v) :: rest =>
    match place i with
    | none => none
    | some (off, size) =>
      match Nat.beq v.cells.length size && Nat.ble (off + v.cells.length) cells.length with
      | true => fillA place (setL cells off v.cells) rest
      | false => none

theorem setL_sound {ρ : Ren} : ∀ {vs : List C} {us : List Value} {l : List C} {k : Array Value} {off j : Nat}, F2 (C.rel ρ) vs us → F2 (C.rel ρ) l k.toList →
    F2 (C.rel ρ) (setL l (off + j) vs) ((us.zipIdx j).foldl (fun cs (c, j) => cs.setIfInBounds (off + j) c) k).toList
  | _, _, l, k, off, j, .nil, h => h
  | _, _, l, k, off, j, .cons (a := a) (b := b) r rs, h => by
    simp only [setL, List.zipIdx_cons, List.foldl_cons]
    have := setL_sound (off := off) (j := j + 1) rs (l := l.set (off + j) a) (k := k.setIfInBounds (off + j) b) (by rw [Array.toList_setIfInBounds]; exact f2_set r h _)
    rw [show off + (j + 1) = off + j + 1 by omega] at this
    exact this

theorem setL_len {vs : List C} : ∀ {l : List C} {off : Nat}, (setL l off vs).length = l.length := by
  induction vs with
  | nil => intro l off; rfl
  | cons v vs ih => intro l off; simp [setL, ih]

inductive PartsRel (ρ : Ren) : List (Nat × A) → List (Nat × Value) → Prop where
  | nil : PartsRel ρ [] []
  | cons {i : Nat} {a : A} {v : Value} {l : List (Nat × A)} {k : List (Nat × Value)} : a.rel ρ v → PartsRel ρ l k → PartsRel ρ ((i, a) :: l) ((i, v) :: k)

theorem fillA_sound {ρ : Ren} {place : Nat → Option (Nat × Nat)} : ∀ {ps : List (Nat × A)} {qs : List (Nat × Value)} {l r : List C} {k : Array Value}, PartsRel ρ ps qs → F2 (C.rel ρ) l k.toList → fillA place l ps = some r →
    ∃ k', Instr.fill place k qs = some k' ∧ F2 (C.rel ρ) r k'.toList
  | _, _, l, r, k, .nil, h, e => by simp [fillA] at e; subst e; exact ⟨k, by simp [Instr.fill], h⟩
  | _, _, l, r, k, .cons (i := i) (a := a) (v := v) hv hs, h, e => by
    simp only [fillA] at e
    split at e
    · cases e
    · rename_i off size hp
      split at e
      · rename_i hok
        simp only [Bool.and_eq_true] at hok
        have h1 : a.cells.length = size := Nat.eq_of_beq_eq_true hok.1
        have h2 := Nat.le_of_ble_eq_true hok.2
        have hc := A.rel_cells hv
        have hl1 := f2_len hc
        have hl2 := f2_len h
        have := setL_sound (off := off) (j := 0) hc h
        obtain ⟨k', hk', hr⟩ := fillA_sound hs this (by simpa using e)
        refine ⟨k', ?_, hr⟩
        have hsz : v.cells.size = size := by rw [← h1, hl1]; simp
        simp only [Instr.fill, hp]
        rw [if_neg (by
          have hk2 : k.size = l.length := by rw [hl2]; simp
          rw [hl1] at h2
          simp only [Array.length_toList] at h2
          intro hor
          rcases Bool.or_eq_true_iff.1 hor with hor | hor
          · exact (of_decide_eq_true hor) hsz
          · have := of_decide_eq_true hor; omega)]
        rw [← Array.foldl_toList] 
        simpa using hk'
      · cases e

section
variable (P : Program) (G : Nat)

def placesOf (fs : List Field) : Option (List (Nat × Nat)) := fs.mapM fun f => (P.info? f.type).map fun i => (f.offset, i.size)
def looks (s : S) : List (Nat × Operand) → Option (List (Nat × A))
  | [] => some []
  | (i, x) :: l => match look G s x, looks s l with | some (.a a), some r => some ((i, a) :: r) | _, _ => none
def lookAll (s : S) : List Operand → Option (List A)
  | [] => some []
  | x :: l => match look G s x, lookAll s l with | some (.a a), some r => some (a :: r) | _, _ => none

def buildA (s : S) (t : TypeId) (parts : List (Nat × Operand)) : Option A :=
  match P.info? t, P.underlying t, looks G s parts with
  | some it, some (.struct fs), some ps =>
    match it.zero, placesOf P fs.toList with
    | some z, some places =>
      (match ofCells true z.cells.toList with
      | some zs => (match fillA (places.toArray[·]?) zs ps with | some r => some (.agg r) | none => none)
      | none => none)
    | _, _ => none
  | some it, some (.array _ elem), some ps =>
    match it.zero, P.info? elem with
    | some z, some ie =>
      (match ofCells true z.cells.toList with
      | some zs => (match fillA (fun i => some (i * ie.size, ie.size)) zs ps with | some r => some (.agg r) | none => none)
      | none => none)
    | _, _ => none
  | _, _, _ => none

theorem looks_rel {ρ : Ren} {s : S} {a : Act} {w : World} (h : View G ρ s a w) : ∀ {l : List (Nat × Operand)} {ps : List (Nat × A)}, looks G s l = some ps → PartsRel ρ ps (l.map fun (i, x) => (i, a.eval x)) := by
  intro l
  induction l with
  | nil => intro ps e; simp [looks] at e; subst e; exact .nil
  | cons y l ih =>
    intro ps e
    obtain ⟨i, x⟩ := y
    simp only [looks] at e
    split at e
    · rename_i c r hc hr
      simp at e; subst e
      exact .cons (look_rel h hc) (ih hr)
    · cases e

theorem lookAll_rel {ρ : Ren} {s : S} {a : Act} {w : World} (h : View G ρ s a w) : ∀ {l : List Operand} {ps : List A}, lookAll G s l = some ps → F2 (A.rel ρ) ps (l.map a.eval) := by
  intro l
  induction l with
  | nil => intro ps e; simp [lookAll] at e; subst e; exact .nil
  | cons x l ih =>
    intro ps e
    simp only [lookAll] at e
    split at e
    · rename_i c r hc hr
      simp at e; subst e
      exact .cons (look_rel h hc) (ih hr)
    · cases e

theorem run_zeroValue' {t : TypeId} {i : TypeInfo} {z : Value} (h : P.info? t = some i) (hz : i.zero = some z) (w : World) : (zeroValue t).run P w = .ok z w := by
  simp [zeroValue, typeInfo, h, hz]

theorem buildA_sound {ρ : Ren} {s : S} {a : Act} {w : World} (h : View G ρ s a w) {t : TypeId} {parts : Array (Nat × Operand)} {p : A} (e : buildA P G s t parts.toList = some p) :
    ∃ x, (Instr.build t (parts.map fun (i, x) => (i, a.eval x))).run P w = .ok x w ∧ p.rel ρ x := by
  unfold buildA at e
  split at e
  · rename_i it fs ps hit hu hps
    split at e
    · rename_i z places hz hpl
      split at e
      · rename_i zs hzs
        split at e
        · rename_i r hr
          simp at e; subst e
          obtain ⟨k', hk, hrel⟩ := fillA_sound (looks_rel G h hps) (ofCells_rel ρ hzs) hr
          refine ⟨.agg k', ?_, k'.toList, hrel, by simp⟩
          refine run_build w t _ k' ?_
          unfold Program.built
          simp only [hit, hu, hz]
          unfold placesOf at hpl
          rw [hpl]
          simpa using hk
        · cases e
      · cases e
    · cases e
  · rename_i it n elem ps hit hu hps
    split at e
    · rename_i z ie hz hie
      split at e
      · rename_i zs hzs
        split at e
        · rename_i r hr
          simp at e; subst e
          obtain ⟨k', hk, hrel⟩ := fillA_sound (looks_rel G h hps) (ofCells_rel ρ hzs) hr
          refine ⟨.agg k', ?_, k'.toList, hrel, by simp⟩
          have hk' : Instr.fill (fun i => some (i * ie.size, ie.size)) z.cells (parts.toList.map fun (i, x) => (i, a.eval x)) = some k' := by simpa using hk
          simp [Instr.build, run_zeroValue' P hit hz, run_underlying hu, run_sizeOf' P hie, hk']
        · cases e
      · cases e
    · cases e
  · cases e


/-- The names that an operation reads. -/
def A.names : A → List Nat
  | .c (.ptr m _) => [m]
  | .c (.sl m _ _ _) => [m]
  | .c (.gsl m _) => [m]
  | .c (.fn _ caps) => caps.map (·.1)
  | _ => []
def V.names : V → List Nat
  | .a y => y.names
  | .tup _ => []
def lookNames (s : S) : List Operand → List Nat
  | [] => []
  | x :: l => (match look G s x with | some v => v.names | none => []) ++ lookNames s l
def rdOf (o : Oper) (s : S) : List Nat :=
  match o.op with
  | .load _ x => lookNames G s [x]
  | .store _ x _ => lookNames G s [x]
  | .call c => (match c.callee with | .value f => lookNames G s (f :: c.args.toList) | _ => [])
  | _ => []

/-- Operations with their own law: the value. -/
def effV (o : Oper) (s : S) : Option (V × List Prop) :=
  match o.op with
  | .move x | .assign x => (match look G s x with | some v => some (v, []) | none => none)
  | .pick c a b => (match look G s c with
    | some (.a (.c (.lit true))) => (match look G s a with | some v => some (v, []) | none => none)
    | some (.a (.c (.lit false))) => (match look G s b with | some v => some (v, []) | none => none)
    | _ => none)
  | .extract t i => (match look G s t with
    | some (.tup xs) => (match xs[i]? with | some a => some (.a a, []) | none => none)
    | _ => none)
  | .field t x f => (match look G s x, P.underlying t with
    | some (.a (.agg cs)), some (.struct fs) => (match fs[f]? with
      | some fd => (match partA P fd.type cs fd.offset with | some p => some (.a p, []) | none => none)
      | none => none)
    | _, _ => none)
  | .fieldAddr t x f => (match look G s x, P.underlying t with
    | some (.a (.c (.ptr m off))), some (.struct fs) => (match fs[f]? with
      | some fd => (match P.info? fd.type with
        | some i => (match Nat.beq i.size 0 with | true => none | false => some (.a (.c (.ptr m (off + fd.offset))), []))
        | none => none)
      | none => none)
    | _, _ => none)
  | .indexAddr t x ix => (match look G s x, look G s ix, P.underlying t with
    | some (.a (.c (.ptr m off))), some (.a (.c (.num _ n))), some (.array len e) => (match P.info? e, decide (0 ≤ n ∧ n < len) with
      | some i, true => some (.a (.c (.ptr m (off + n.toNat * i.size))), [])
      | _, _ => none)
    | some (.a (.c (.sl m off len _))), some (.a (.c (.num _ n))), some (.slice e) => (match P.info? e, decide (0 ≤ n ∧ n < len) with
      | some i, true => some (.a (.c (.ptr m (off + n.toNat * i.size))), [])
      | _, _ => none)
    | _, _, _ => none)
  | .load t x => (match look G s x, P.underlying t, P.info? t with
    | some (.a (.c (.ptr m off))), some d, some i => (match s.hp m with
      | some k => (match isAggD d with
        | true => (match readN k off i.size with | some cs => some (.a (.agg cs), []) | none => none)
        | false => (match k.cell off with | some c => some (.a (.c c), []) | none => none))
      | none => none)
    | _, _, _ => none)
  | .build t parts => (match buildA P G s t parts.toList with | some p => some (.a p, []) | none => none)
  | .nilCheck x => (match look G s x with | some (.a (.c (.ptr m off))) => some (.a (.c (.ptr m off)), []) | _ => none)
  | .binOp op t x y _ => (match look G s x, look G s y with
    | some (.a (.agg xs)), some (.a (.agg ys)) =>
      (match P.eqGuardType P.depth t, eqT P 10000 t (.agg xs) (.agg ys), op with
      | false, some r, .eql => some (.a (.c (.bool r)), [])
      | false, some r, .neq => some (.a (.c (.bool (!r))), [])
      | _, _, _ => none)
    | some (.a (.c a)), some (.a (.c (.int k' n))) =>
      (match op, a.val with
      | .quo, some (.int k m) => (match decide (k = k') with | true => some (.a (.c (.int k (k.wrap (m.tdiv n)))), [n ≠ 0]) | false => none)
      | .rem, some (.int k m) => (match decide (k = k') with | true => some (.a (.c (.int k (m.tmod n))), [n ≠ 0]) | false => none)
      | .shl, some (.int k m) => some (.a (.c (.int k (k.wrap (m * 2 ^ (min n.toNat k.bits))))), [0 ≤ n])
      | .shr, some (.int k m) => some (.a (.c (.int k (m.fdiv (2 ^ (min n.toNat k.bits))))), [0 ≤ n])
      | _, _ => (match effPure P G o s with | some v => some (v, []) | none => none))
    | _, _ => (match effPure P G o s with | some v => some (v, []) | none => none))
  | .makeFunc (.func f) first caps => (match first.toList, lookAll G s caps.toList with
    | [], some ps => (match ptrs ps with | some l => some (.a (.c (.fn f l)), []) | none => none)
    | _, _ => none)
  | .call c => (match c.callee, c.args.toList with
    | .builtin .len, [x] => (match look G s x, c.argTypes.toList with
      | some (.a (.c (.sl _ _ len _))), [t] => (match P.underlying t with | some (.slice _) => some (.a (.c (.num .i64 len)), []) | _ => none)
      | some (.a (.c (.gsl _ len))), [t] => (match P.underlying t with | some (.slice _) => some (.a (.c (.num .i64 len)), []) | _ => none)
      | _, _ => (match effPure P G o s with | some v => some (v, []) | none => none))
    | .builtin _, _ => (match effPure P G o s with | some v => some (v, []) | none => none)
    | _, _ => none)
  | .unOp .. | .convert .. | .index .. | .makeInterface .. => (match effPure P G o s with | some v => some (v, []) | none => none)
  | _ => none
where
  ptrs : List A → Option (List (Nat × Nat))
    | [] => some []
    | .c (.ptr m off) :: l => (match ptrs l with | some r => some ((m, off) :: r) | none => none)
    | _ => none

theorem ptrs_rel {ρ : Ren} : ∀ {ps : List A} {l : List (Nat × Nat)} {xs : List Value}, effV.ptrs ps = some l → F2 (A.rel ρ) ps xs → F2 (PtrRel ρ) l xs := by
  intro ps
  induction ps with
  | nil => intro l xs h r; cases r; simp [effV.ptrs] at h; subst h; exact .nil
  | cons p ps ih =>
    intro l xs h r
    cases r with
    | cons r0 rs =>
      unfold effV.ptrs at h
      split at h
      · rename_i heq; cases heq
      · rename_i m off l' heq
        cases heq
        split at h
        · rename_i r' hr
          simp at h; subst h
          exact .cons r0 (ih hr rs)
        · cases h
      · cases h

end
end Go.Eng
