/- The engine, part 7: a region, in the text's order or in whatever order its edges allow. -/
import Derived.Test.YtcgdcocmnmkhlaaDoorE6
namespace Go.Eng
open Go.RowKit (Below)

def memN : List Nat → Nat → Bool
  | [], _ => false
  | x :: l, m => match Nat.beq x m with | true => true | false => memN l m
theorem memN_iff {m : Nat} : ∀ {l : List Nat}, memN l m = true ↔ m ∈ l := by
  intro l
  induction l with
  | nil => simp [memN]
  | cons x l ih =>
    simp only [memN]
    split
    · rename_i h; have := Nat.eq_of_beq_eq_true h; subst this; simp
    · rename_i h
      rw [ih, List.mem_cons]
      constructor
      · exact .inr
      · rintro (rfl | h')
        · simp at h
        · exact h'

def restr (s : S) (ts ms : List Nat) : S :=
  { tm := fun t => match memN ts t with | true => s.tm t | false => none
    hp := fun m => match memN ms m with | true => s.hp m | false => none }

theorem restr_congr {s s' : S} {ts ms : List Nat} (ht : ∀ t, t ∈ ts → s.tm t = s'.tm t) (hm : ∀ m, m ∈ ms → s.hp m = s'.hp m) : restr s ts ms = restr s' ts ms := by
  unfold restr
  congr 1
  · funext t; split
    · rename_i h; exact ht t (memN_iff.1 h)
    · rfl
  · funext m; split
    · rename_i h; exact hm m (memN_iff.1 h)
    · rfl

/-- What has been assumed of a bool that a guard asks. -/
def assume (orc : Option Bool) (r : Eff × List Prop) : Eff × List Prop :=
  match orc, r.1.val with
  | some b0, some (.a (.c (.bool b))) => ({ r.1 with val := some (.a (.c (.lit b0))) }, (b = b0) :: r.2)
  | _, _ => r

inductive St where
  | ok (e : Option Eff) (p : List Prop) (rd : List Nat)
  | ask (k : Nat) (b : Bool)
  | fail

def freshB (s : S) : List Nat → Bool
  | [] => true
  | m :: l => match s.hp m with | none => freshB s l | some _ => false
theorem freshB_at {s : S} : ∀ {l : List Nat} {m : Nat}, freshB s l = true → m ∈ l → s.hp m = none := by
  intro l
  induction l with
  | nil => intro m _ h; simp at h
  | cons x l ih =>
    intro m h hm
    simp only [freshB] at h
    split at h
    · rename_i hx
      rcases List.mem_cons.1 hm with rfl | hm
      · exact hx
      · exact ih h hm
    · cases h

section
variable (P : Program) (G n0 N : Nat) (sg : FuncId → Option Sm)

def opEff (orc : Option Bool) (o : Oper) (c : Nat) (s : S) : St :=
  match rdOf G o (restr s (opTmps o.op.operands.toList) []) with
  | rd =>
    match effM P G n0 sg o c (restr s (opTmps o.op.operands.toList) rd) with
    | some r =>
      match (match o.dst with | some d => Nat.blt d N | none => true) && Nat.ble n0 c && freshB s (names c r.1.nw.length) with
      | true => .ok (some (assume orc r).1) (assume orc r).2 rd
      | false => .fail
    | none => .fail

/-- An operation that its guard leaves out. -/
def skipA (N : Nat) (o : Oper) : St := match (match o.dst with | some d => Nat.blt d N | none => true) with | true => .ok (some ⟨some (.tup []), [], none⟩) [] [] | false => .fail

def stepA (ops : Array Oper) (orc : Nat → Option Bool) (i c : Nat) (o : Oper) (s : S) : St :=
  match o.guard with
  | none => opEff P G n0 N sg (orc i) o c s
  | some (k, want) =>
    match dstOf ops k with
    | some d =>
      match s.tm d with
      | some (.a (.c (.lit b))) => (match b == want with
        | true => opEff P G n0 N sg (orc i) o c s
        | false => skipA N o)
      | some (.a (.c (.bool b))) => .ask k b
      | some (.tup []) => skipA N o
      | _ => .fail
    | none => .fail

inductive RR where
  | done (L : List Item) (s : S) (c : Nat) (p : List Prop)
  | ask (k : Nat) (b : Bool)
  | fail

def newsOf : Option Eff → Nat
  | some e => e.nw.length
  | none => 0

def rrun (ops : Array Oper) (orc : Nat → Option Bool) : List Oper → Nat → Nat → S → RR
  | [], _, c, s => .done [] s c []
  | o :: l, i, c, s =>
    match stepA P G n0 N sg ops orc i c o s with
    | .ok e p rd =>
      (match rrun ops orc l (i + 1) (c + newsOf e) (doit o.dst ⟨c, e, rd⟩ s) with
      | .done L s' c' q => .done ((o.dst, ⟨c, e, rd⟩) :: L) s' c' (p ++ q)
      | r => r)
    | .ask k b => .ask k b
    | .fail => .fail

end

section
variable {P : Program} {G n0 N : Nat} {sg : FuncId → Option Sm} {gw : World → Prop} {w0 : World} {ρ : Ren} {a : Act} {w : World} {Q : Exit → Act → World → Prop}

theorem Rel.view {s : S} (h : Rel w0 n0 N ρ s a w) (hgl : ∀ g, g < G → ρ g = some (g, 0)) (ts ms : List Nat) : View G ρ (restr s ts ms) a w where
  tm := by
    intro t v ht
    simp only [restr] at ht
    split at ht
    · exact (h.tm t v ht).2
    · cases ht
  hp := by
    intro m k hk
    simp only [restr] at hk
    split at hk
    · obtain ⟨b, h1, h2, h3, _⟩ := h.hp m k hk; exact ⟨b, h1, h2, h3⟩
    · cases hk
  gl := hgl

/-- A weaker state. -/
theorem Rel.weaken {s s' : S} (h : Rel w0 n0 N ρ s a w) (ht : ∀ t v', s'.tm t = some v' → ∃ v, s.tm t = some v ∧ ∀ x, v.rel ρ x → v'.rel ρ x) (hm : ∀ m, s'.hp m = s.hp m) : Rel w0 n0 N ρ s' a w where
  sz := h.sz
  df := h.df
  bel := h.bel
  tm := by
    intro t v' hv
    obtain ⟨v, h1, h2⟩ := ht t v' hv
    obtain ⟨h3, h4⟩ := h.tm t v h1
    exact ⟨h3, h2 _ h4⟩
  dom := fun m hd => h.dom m (by rw [← hm]; exact hd)
  hp := fun m k hk => h.hp m k (by rw [← hm]; exact hk)
  inj := h.inj

theorem assume_rel {orc : Option Bool} {r : Eff × List Prop} {dst : Option Tmp} {c : Nat} {s : S} (hp : All (assume orc r).2) (h : Rel w0 n0 N ρ (act dst c r.1 s) a w) : Rel w0 n0 N ρ (act dst c (assume orc r).1 s) a w := by
  unfold assume at hp ⊢
  split at hp
  · rename_i b0 b hv
    simp only at hp
    obtain ⟨rfl, _⟩ := hp
    refine h.weaken ?_ (fun m => rfl)
    intro t v' ht
    cases dst with
    | none => simp only [act] at ht ⊢; exact ⟨v', ht, fun x hx => hx⟩
    | some d =>
      simp only [act] at ht ⊢
      by_cases e : t = d
      · subst e
        rw [upd_same] at ht; cases ht
        refine ⟨.a (.c (.bool _)), by rw [upd_same]; exact hv, fun x hx => hx⟩
      · rw [upd_ne _ _ e] at ht ⊢
        exact ⟨v', ht, fun x hx => hx⟩
  · exact h

theorem assume_p {orc : Option Bool} {r : Eff × List Prop} (hp : All (assume orc r).2) : All r.2 := by
  unfold assume at hp
  split at hp
  · exact hp.2
  · exact hp
theorem assume_nw {orc : Option Bool} {r : Eff × List Prop} : (assume orc r).1.nw = r.1.nw ∧ (assume orc r).1.wr = r.1.wr := by
  unfold assume; split <;> exact ⟨rfl, rfl⟩

theorem opEff_sound (hsg : ∀ f σ, sg f = some σ → SumOK P gw f σ) (hgl : ∀ g, g < G → ρ g = some (g, 0)) (hgw : gw w) {orc : Option Bool} {o : Oper} {c : Nat} {T T' : S} {e : Option Eff} {p : List Prop} {rd : List Nat}
    (he : opEff P G n0 N sg orc o c T' = .ok e p rd) (hp : All p) (h : Rel w0 n0 N ρ T a w)
    (h1 : ∀ t, t ∈ opTmps o.op.operands.toList → T.tm t = T'.tm t) (h2 : ∀ m, m ∈ rd → T.hp m = T'.hp m) (h3 : ∀ m, m ∈ (Rec.mk c e rd).touch → T.hp m = T'.hp m) :
    o.wp P a w (fun a' w' => ∃ ρ', Rel w0 n0 N ρ' (doit o.dst ⟨c, e, rd⟩ T) a' w' ∧ ρ.le ρ') Q := by
  unfold opEff at he
  simp only at he
  split at he
  · rename_i r hr
    split at he
    · rename_i hok
      simp only [St.ok.injEq] at he
      obtain ⟨rfl, rfl, rfl⟩ := he
      simp only [Bool.and_eq_true] at hok
      have hn := Nat.le_of_ble_eq_true hok.1.2
      have hd : ∀ d, o.dst = some d → d < N := by
        intro d hd
        have := hok.1.1
        rw [hd] at this
        simpa [Nat.blt_eq] using this
      have e1 : restr T (opTmps o.op.operands.toList) [] = restr T' (opTmps o.op.operands.toList) [] := restr_congr h1 (by simp)
      rw [← e1] at hr h2
      have e2 : restr T (opTmps o.op.operands.toList) (rdOf G o (restr T (opTmps o.op.operands.toList) [])) = restr T' (opTmps o.op.operands.toList) (rdOf G o (restr T (opTmps o.op.operands.toList) [])) := restr_congr h1 h2
      rw [← e2] at hr
      have hfr : ∀ i, i < r.1.nw.length → T.hp (c + i) = none := by
        intro i hi
        have hm : c + i ∈ names c r.1.nw.length := mem_names.2 ⟨by omega, by omega⟩
        rw [h3 (c + i) (by simp only [Rec.touch, assume_nw.1]; exact List.mem_append_right _ hm)]
        exact freshB_at hok.2 hm
      have key := effM_sound (Q := Q) hsg h hgl hgw (h.view hgl (opTmps o.op.operands.toList) (rdOf G o (restr T (opTmps o.op.operands.toList) []))) (fun m k hk => by
        simp only [restr] at hk
        split at hk
        · exact hk
        · cases hk) hr (assume_p hp) hd hn hfr
      refine Oper.wp_mono ?_ key
      rintro a' w' ⟨ρ', hrel, hle⟩
      exact ⟨ρ', assume_rel hp hrel, hle⟩
    · cases he
  · cases he

theorem skipA_sound {c : Nat} {o : Oper} {T : S} {e : Option Eff} {p : List Prop} {rd : List Nat} (he : skipA N o = .ok e p rd) (h : Rel w0 n0 N ρ T a w) :
    ∃ ρ', Rel w0 n0 N ρ' (doit o.dst ⟨c, e, rd⟩ T) (a.put o.dst undef) w ∧ ρ.le ρ' := by
  unfold skipA at he
  split at he
  · rename_i hdn
    simp only [St.ok.injEq] at he
    obtain ⟨rfl, rfl, rfl⟩ := he
    refine ⟨ρ, ?_, Ren.le_refl _⟩
    have hdn' : ∀ d, o.dst = some d → d < N := by
      intro d hd; rw [hd] at hdn; simpa [Nat.blt_eq] using hdn
    have := h.quiet (dst := o.dst) (c := n0) (val := some (.tup [])) (x := undef) hdn' (Nat.le_refl _) (fun v hv => by cases hv; exact ⟨[], .nil, rfl⟩)
    exact this
  · cases he

theorem stepA_sound (hsg : ∀ f σ, sg f = some σ → SumOK P gw f σ) (hgl : ∀ g, g < G → ρ g = some (g, 0)) (hgw : gw w) {ops : Array Oper} {orc : Nat → Option Bool} {i c : Nat} {o : Oper} {T T' : S} {e : Option Eff} {p : List Prop} {rd : List Nat}
    (ho : ops[i]? = some o) (he : stepA P G n0 N sg ops orc i c o T' = .ok e p rd) (hp : All p) (h : Rel w0 n0 N ρ T a w)
    (h1 : ∀ t, t ∈ uses ops o → T.tm t = T'.tm t) (h2 : ∀ m, m ∈ rd → T.hp m = T'.hp m) (h3 : ∀ m, m ∈ (Rec.mk c e rd).touch → T.hp m = T'.hp m) :
    wpOp P ops Q i (fun a' w' => ∃ ρ', Rel w0 n0 N ρ' (doit o.dst ⟨c, e, rd⟩ T) a' w' ∧ ρ.le ρ') a w := by
  have hu : ∀ t, t ∈ opTmps o.op.operands.toList → T.tm t = T'.tm t := fun t ht => h1 t (by unfold uses; exact List.mem_append_right _ ht)
  unfold wpOp
  rw [ho]
  simp only
  unfold stepA at he
  split at he
  · rename_i hg
    rw [if_pos (by simp [Region.wanted, hg])]
    exact .inl (opEff_sound hsg hgl hgw he hp h hu h2 h3)
  · rename_i k want hg
    split at he
    · rename_i d hd
      have hT : T.tm d = T'.tm d := h1 d (by unfold uses; rw [hg]; simp [hd])
      split at he
      · rename_i b hb
        rw [← hT] at hb
        obtain ⟨hlt, hv⟩ := h.tm d _ hb
        have hv' : a.tmps.getD d undef = .bool b := hv
        have hy : yielded ops a.tmps k = some b := by
          have hd' : (ops[k]?).bind (·.dst) = some d := hd
          have : a.tmps[d]? = some (.bool b) := by
            rw [Array.getD_eq_getD_getElem?] at hv'
            have hlt' : d < a.tmps.size := by rw [h.sz]; exact hlt
            rw [Array.getElem?_eq_getElem hlt'] at hv' ⊢
            simpa using hv'
          simp [yielded, hd', this]
        split at he
        · rename_i hw
          have : b = want := by simpa using hw
          subst this
          rw [if_pos (by simp [Region.wanted, hg, hy])]
          exact .inl (opEff_sound hsg hgl hgw he hp h hu h2 h3)
        · rename_i hw
          rw [if_neg (by simp [Region.wanted, hg, hy]; simpa using hw)]
          exact skipA_sound he h
      · cases he
      · rename_i hb
        rw [← hT] at hb
        obtain ⟨hlt, hv⟩ := h.tm d _ hb
        have hv' : a.tmps.getD d undef = .tuple #[] := by
          obtain ⟨ys, h1, h2⟩ := hv
          cases h1
          exact h2
        have hy : yielded ops a.tmps k = none := by
          have hd' : (ops[k]?).bind (·.dst) = some d := hd
          have : a.tmps[d]? = some (.tuple #[]) := by
            rw [Array.getD_eq_getD_getElem?] at hv'
            have hlt' : d < a.tmps.size := by rw [h.sz]; exact hlt
            rw [Array.getElem?_eq_getElem hlt'] at hv' ⊢
            simpa using hv'
          simp [yielded, hd', this]
        rw [if_neg (by simp [Region.wanted, hg, hy])]
        exact skipA_sound he h
      · cases he
    · cases he

theorem rrun_spec {ops : Array Oper} {orc : Nat → Option Bool} : ∀ {l : List Oper} {i c : Nat} {s : S} {L : List Item} {s' : S} {c' : Nat} {q : List Prop}, rrun P G n0 N sg ops orc l i c s = .done L s' c' q → All q →
    L.length = l.length ∧ s' = runL (fun _ => true) L i s ∧ ∀ j o x, l[j]? = some o → L[j]? = some x →
      x.1 = o.dst ∧ ∃ p, stepA P G n0 N sg ops orc (i + j) x.2.c o (runL (fun k => Nat.blt k (i + j)) L i s) = .ok x.2.e p x.2.rd ∧ All p := by
  intro l
  induction l with
  | nil =>
    intro i c s L s' c' q h hq
    simp only [rrun, RR.done.injEq] at h
    obtain ⟨rfl, rfl, rfl, rfl⟩ := h
    exact ⟨rfl, rfl, fun j o x h => by simp at h⟩
  | cons o l ih =>
    intro i c s L s' c' q h hq
    simp only [rrun] at h
    split at h
    · rename_i e p rd hst
      split at h
      · rename_i L2 s2 c2 q2 hr
        simp only [RR.done.injEq] at h
        obtain ⟨rfl, rfl, rfl, rfl⟩ := h
        obtain ⟨hp, hq2⟩ := All.append.1 hq
        obtain ⟨i1, i2, i3⟩ := ih hr hq2
        refine ⟨by simp [i1], by simp [runL, i2], ?_⟩
        intro j o' x ho hx
        cases j with
        | zero =>
          simp at ho hx; subst ho; subst hx
          refine ⟨rfl, p, ?_, hp⟩
          have : ∀ (l : List Item) (k : Nat), i ≤ k → ∀ s, runL (fun k => Nat.blt k (i + 0)) l k s = s := by
            intro l
            induction l with
            | nil => intro k _ s; rfl
            | cons x l ih =>
              intro k hk s
              have : Nat.blt k (i + 0) = false := by rw [← Bool.not_eq_true, Nat.blt_eq]; omega
              simp only [runL, this, Bool.false_eq_true, if_false]
              exact ih _ (by omega) _
          rw [this _ _ (Nat.le_refl _)]
          exact hst
        | succ j =>
          obtain ⟨k1, p', k2, k3⟩ := i3 j o' x (by simpa using ho) (by simpa using hx)
          refine ⟨k1, p', ?_, k3⟩
          have hlt : Nat.blt i (i + (j + 1)) = true := by rw [Nat.blt_eq]; omega
          simp only [runL, hlt, if_true]
          rw [show i + (j + 1) = i + 1 + j by omega]
          exact k2
      · rename_i hne
        exact absurd h (by intro hh; exact hne _ _ _ _ hh)
    · cases h
    · cases h

/-- In the text's order. -/
theorem region_seq (hsg : ∀ f σ, sg f = some σ → SumOK P gw f σ) (hst : ∀ w w', gw w → Below w.heap.size w w' → gw w') (hgw0 : gw w0) {ops : Array Oper} {orc : Nat → Option Bool} {c c' : Nat} {s s' : S} {L : List Item} {q : List Prop}
    (hr : rrun P G n0 N sg ops orc ops.toList 0 c s = .done L s' c' q) (hq : All q) (h : Rel w0 n0 N ρ s a w) (hgl : ∀ g, g < G → ρ g = some (g, 0))
    (hQ : ∀ a' w' ρ', Rel w0 n0 N ρ' s' a' w' → ρ.le ρ' → Q .normal a' w') : wpOps P ops Q (List.range ops.size) a w := by
  obtain ⟨hlen, hs', hall⟩ := rrun_spec hr hq
  have key : ∀ n, n ≤ ops.size → ∀ (a : Act) (w : World) (ρ1 : Ren), Rel w0 n0 N ρ1 (runL (fun k => Nat.blt k (ops.size - n)) L 0 s) a w → ρ.le ρ1 →
      wpOps P ops Q (List.range' (ops.size - n) n) a w := by
    intro n
    induction n with
    | zero =>
      intro _ a w ρ1 h1 hle
      simp only [List.range'_zero, wpOps]
      refine hQ a w ρ1 ?_ hle
      rw [hs', ← runL_all (D := fun k => Nat.blt k (ops.size - 0)) L 0 s (fun k hk => by rw [Nat.blt_eq]; simp at hlen; omega)]
      exact h1
    | succ n ih =>
      intro hn a w ρ1 h1 hle
      rw [List.range'_succ, wpOps_cons]
      have hj : ops.size - (n + 1) < ops.size := by omega
      have ho : ops[ops.size - (n + 1)]? = some ops[ops.size - (n + 1)] := Array.getElem?_eq_getElem hj
      have hjL : ops.size - (n + 1) < L.length := by rw [hlen]; simpa using hj
      obtain ⟨k1, p, k2, k3⟩ := hall (ops.size - (n + 1)) _ L[ops.size - (n + 1)] (by rw [Array.getElem?_toList]; exact ho) (List.getElem?_eq_getElem hjL)
      simp only [Nat.zero_add] at k2
      have st := stepA_sound (Q := Q) hsg (fun g hg => hle _ _ (hgl g hg)) (hst _ _ hgw0 h1.bel) ho k2 k3 h1 (fun t _ => rfl) (fun m _ => rfl) (fun m _ => rfl)
      refine wpOp_mono ?_ st
      rintro a' w' ⟨ρ', hrel, hle'⟩
      have := ih (by omega) a' w' ρ' ?_ (Ren.le_trans hle hle')
      · rw [show ops.size - (n + 1) + 1 = ops.size - n by omega]; exact this
      · have e := runL_ins (D := fun k => Nat.blt k (ops.size - (n + 1))) (D' := fun k => Nat.blt k (ops.size - n)) L[ops.size - (n + 1)] L 0 (ops.size - (n + 1)) s (List.getElem?_eq_getElem hjL)
          (by rw [← Bool.not_eq_true, Nat.blt_eq]; omega) (by rw [Nat.blt_eq]; omega)
          (fun k hk => by
            have : (k < ops.size - n) ↔ (k < ops.size - (n + 1)) := by omega
            rw [Bool.eq_iff_iff, Nat.blt_eq, Nat.blt_eq]; exact this)
          (fun k y _ hjk hD => by rw [Nat.blt_eq] at hD; omega)
        rw [e, k1]
        exact hrel
  have := key ops.size (Nat.le_refl _) a w ρ (by
    have : ∀ (l : List Item) (i : Nat), runL (fun k => Nat.blt k (ops.size - ops.size)) l i s = s := by
      intro l
      induction l with
      | nil => intro i; rfl
      | cons x l ih =>
        intro i
        have : Nat.blt i (ops.size - ops.size) = false := by rw [← Bool.not_eq_true, Nat.blt_eq]; omega
        simp only [runL, this, Bool.false_eq_true, if_false]
        exact ih _
    rw [this]; exact h) (Ren.le_refl _)
  rw [Nat.sub_self, ← List.range_eq_range'] at this
  exact this

end
end Go.Eng
