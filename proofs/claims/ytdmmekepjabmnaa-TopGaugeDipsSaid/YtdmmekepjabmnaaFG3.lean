/- The parts of the engines, of their contracts and of the plain laws that the claim rests on: ZU15, ZU16, ZU17, ZU20, ZU21, ZU22, ZU23, ZU24, ZU25, ZU26, ZU27, ZU28, ZU29, ZU291, ZU19, ZU30, Y0, B0. -/
import Derived.Test.YtdmmekepjabmnaaFG2
import Derived.RangeFuncLeaves
import Derived.Test.YtdmmekepjabmnaaProg
set_option linter.unusedVariables false
set_option linter.unusedSimpArgs false
section
set_option linter.unusedVariables false
set_option linter.unusedSimpArgs false
namespace Go.V
open Go.RowKit (Below)
section
variable {P : Program} {G : GT} {N : Nat} {sg : FuncId → Option Sm} {an : An} {lv cz : Nat} {gw : World → Prop} {w0 : World} {rr : Option Nat}
def CP (cz : Nat) (w0 : World) (N : Nat) (ρ : Ren) (R : St3 → Prop) : Exit → Act → World → Prop
  | .normal, a, w => ∃ c s ρ', R (.normal, c, s) ∧ Rel w0 N ρ' s a w ∧ ρ.up cz ρ'
  | .exit id, a, w => ∃ c s ρ', R (.exit id, c, s) ∧ Rel w0 N ρ' s a w ∧ ρ.up cz ρ'
  | .ret, a, w => ∃ c s ρ', R (.ret, c, s) ∧ Rel w0 N ρ' s a w ∧ ρ.up cz ρ'
  | _, _, _ => False
theorem CP.mono {ρ ρ1 : Ren} {R R' : St3 → Prop} (hle : ρ.up cz ρ1) (h : ∀ r, R r → R' r) : ∀ e a w, CP cz w0 N ρ1 R e a w → CP cz w0 N ρ R' e a w := by
  intro e a w hc
  cases e <;> simp only [CP] at hc ⊢
  all_goals (try exact hc)
  all_goals (obtain ⟨c, s, ρ', h1, h2, h3⟩ := hc; exact ⟨c, s, ρ', h _ h1, h2, Ren.up_trans hle h3⟩)
structure Env (P : Program) (G : GT) (sg : FuncId → Option Sm) (gw : World → Prop) : Prop where
  mixed : P.follows .mixedOrders = true
  sums : ∀ f σ, sg f = some σ → SumOK P G gw f σ
  stable : ∀ w w', gw w → Below w.heap.size w w' → gw w'
theorem Amb.up {ρ ρ' : Ren} (h : Amb P G gw ρ) (hle : ρ.up cz ρ') : Amb P G gw ρ' where
  gl := fun g n F e => by
    obtain ⟨a, h1, h2, h3⟩ := h.gl g n F e
    exact ⟨a, h1, h2, fun j hj => by obtain ⟨y, hy, hr⟩ := h3 j hj; exact ⟨y, hle.κ _ _ _ hy, D.rel_mono hle.κ _ _ hr⟩⟩
  cl := fun φ x hx => CloOK.mono hle.κ (h.cl φ x (by rw [← hle.cl]; exact hx))
theorem Rel.drew {ρ : Ren} {s : S} {a : Act} {w : World} (h : Rel w0 N ρ s a w) : Rel w0 N ρ s a { w with drawn := w.drawn + 1 } where
  sz := h.sz
  bel := h.bel.trans ⟨rfl, rfl, rfl, Nat.le_refl _, fun _ _ => rfl⟩
  df := h.df
  tm := h.tm
  dom := h.dom
  hp := by
    intro m k hk
    obtain ⟨b, h1, h2, h3, h4⟩ := h.hp m k hk
    exact ⟨b, h1, h2, Blk.rel_mono (w := w) (Ren.le_refl _) rfl h3, h4⟩
  inj := h.inj
  im := h.im
  dis := h.dis
  old := h.old
  fx := h.fx
  lp := h.lp
  dfx := h.dfx
theorem rtree_sound (E : Env P G sg gw) (hgw0 : gw w0) {fr : Bool} {id : Nat} {ops : Array Oper} {draw : Bool} {wk : Nat → Bool} {c : Nat} {s : S} {R : St3 → Prop} {ρ : Ren} {a : Act} {w : World} (hrel : Rel w0 N ρ s a w) (hgl : Amb P G gw ρ) :
    ∀ {fuel : Nat} {orc : Nat → Option Bool}, (rtree P G N sg fr ops draw wk c s fuel orc).wp R → (Code.region id ops draw).wpIn (Fd rr) 0 P (CP cz w0 N ρ R) a w := by
  intro fuel
  induction fuel with
  | zero => intro orc h; exact h.elim
  | succ fuel ih =>
    intro orc h
    simp only [rtree] at h
    split at h
    · rename_i L s' c' p hr
      split at h
      · rename_i hok
        obtain ⟨hp, hR⟩ := T.wp_needs h
        have hQ : ∀ a' w' ρ', Rel w0 N ρ' s' a' w' → ρ.le ρ' → CP cz w0 N ρ R .normal a' w' := fun a' w' ρ' h1 h2 => ⟨c', s', ρ', hR, h1, h2.up⟩
        cases draw with
        | false => exact wpIn_region (region_seq E.sums E.stable hgw0 hr hp hrel hgl hQ)
        | true => exact wpIn_region_any E.mixed (region_any E.sums E.stable hgw0 hr hp (by simpa using hok) hrel.drew hgl hQ)
      · exact h.elim
    · rename_i k b _
      have h := T.wp_brf h
      cases b with
      | true => exact ih (h.1 rfl)
      | false => exact ih (h.2 rfl)
    · exact h.elim
theorem again_sound {c n : Nat} {s : S} {W dead : List Nat} {its i2 : List It} {x : Tys (shapes its)} (hok : itsOk s c W its = true) (hok2 : itsOk s c W i2 = true) (hkT : keepT s c W N = true) (hkH : keepH s c c = true)
    (hdl : ∀ m, m ∈ dead → m < c) (hdt : ∀ m, m ∈ dead → m ∉ tblks s its) (hsame : ∀ m, m ∈ tblks s its ↔ m ∈ tblks s i2) {e : Ex} {c' : Nat} {s' : S} (hk : Keeps (c + n) (stOf s c W dead its x) (wkIn c s its) W (e, c', s'))
    {ρ : Ren} {a : Act} {w : World} (h : Rel w0 N ρ s' a w) {y : Tys (shapes i2)} {p : List Prop} (ha : again lv c s s' i2 = some (y, p)) (hlv : ∀ k l r, ρ.lp k = some (l, r) → k < lv) (hp : All p) : ∃ ρ', Rel w0 N ρ' (stOf s c W dead i2 y) a w ∧ ρ.up c ρ' := by
  unfold again at ha
  split at ha
  case h_2 => cases ha
  rename_i hst
  unfold again0 at ha
  split at ha
  · rename_i cs hg
    split at ha
    · rename_i y' p' q hr
      split at ha
      · rename_i hq
        simp only [Option.some.injEq, Prod.mk.injEq] at ha
        obtain ⟨rfl, rfl⟩ := ha
        simp only [Bool.and_eq_true] at hq
        obtain ⟨k1, k2, k3⟩ := hk
        have hwk : ∀ m, m < c → m ∉ tblks s its → wkIn c s its m = false := by
          intro m hm ht
          simp only [wkIn, Bool.or_eq_false_iff]
          exact ⟨by rw [← Bool.not_eq_true, Nat.ble_eq]; omega, by rw [← Bool.not_eq_true, memN_iff]; exact ht⟩
        refine reload h hok2 hkT hkH (fun m hm ht => hdt m hm ((hsame m).2 ht)) (fun t ht => (k2 t ht).trans (stOf_keepT hok ht)) ?_ ?_ hg hr hp hq.1 (fun k l r hk => stSame_at hst (hlv k l r hk)) ?_
        · intro m hm hd ht
          have ht' : m ∉ tblks s its := fun h => ht ((hsame m).1 h)
          exact (k3 m (by omega) (hwk m hm ht')).trans (stOf_keepH hm hd ht')
        · intro m hm hd
          have ht' := hdt m (memN_iff.1 hd)
          have := k3 m (by omega) (hwk m hm ht')
          simp only at this
          rw [this]; exact stOf_dead hm hd
        · intro r hr
          have := List.all_eq_true.1 hq.2 r hr
          exact .inl (by simpa [Nat.ble_eq] using this)
      · cases ha
    · cases ha
  · cases ha
theorem frz_keeps {c n : Nat} {s s1 : S} {its i2 : List It} {W : List Nat} {e : Ex} {c' : Nat} {s' : S} (h : Keeps (c + n) s1 (wkIn c s its) W (e, c', s')) : Keeps (c + n) s1 (wkIn c s its) W (e, c', frz c s i2 s') := by
  refine ⟨h.1, fun t ht => ?_, fun m hm hw => ?_⟩
  · show (frz c s i2 s').tm t = _
    rw [frz_tm]; exact h.2.1 t ht
  · have hlt : m < c := by
      simp only [wkIn, Bool.or_eq_false_iff] at hw
      have := hw.1
      rw [← Bool.not_eq_true, Nat.ble_eq] at this
      omega
    show (frz c s i2 s').hp m = _
    rw [frz_hp hlt]; exact h.2.2 m hm hw
theorem frz_sound {c : Nat} {s0 s : S} {its : List It} {ρ : Ren} {a : Act} {w : World} (h : Rel w0 N ρ s a w) : ∃ ρ', Rel w0 N ρ' (frz c s0 its s) a w ∧ ρ.le ρ' := by
  unfold frz
  split
  · rename_i cs _
    obtain ⟨ρ', h1, h2, _⟩ := h.settle (frzL c s (shapes its) cs) none (fun q hq => by
      obtain ⟨_, e, st, L, F, hm, hq2⟩ := frzL_mem hq
      exact ⟨by rw [hq2]; rfl, _, hm, rfl⟩) (fun ρ' hle hl q hq bb hbb => by
      obtain ⟨_, e, st, L, F, hm, hq2⟩ := frzL_mem hq
      obtain ⟨b', hb', _, hrel, _⟩ := h.hp _ _ hm
      obtain ⟨xs, hh, g1, g2, g3, g4⟩ := hrel
      rw [hbb] at hb'; cases hb'
      rw [hq2]
      refine ⟨g2, fun i j hi hj => ?_⟩
      obtain ⟨y, hy, hr⟩ := g4 i j hi hj
      exact ⟨y, hl.1 _ hq bb hbb _ _ (by simp [World.cell?, hh, hy]), D.rel_mono hle.κ _ _ hr⟩) (fun m k' he => by cases he)
    exact ⟨ρ', h1, h2⟩
  · exact ⟨ρ, h, Ren.le_refl _⟩
theorem first_sound {c : Nat} {s : S} {W : List Nat} {its i2 : List It} (hok2 : itsOk s c W i2 = true) (hkT : keepT s c W N = true) (hkH : keepH s c c = true)
    (hsame : ∀ m, m ∈ tblks s its ↔ m ∈ tblks s i2) {e : Ex} {c' : Nat} {s' : S} (hk : Keeps c s (wkIn c s its) W (e, c', s'))
    {ρ : Ren} {a : Act} {w : World} (h : Rel w0 N ρ s' a w) {y : Tys (shapes i2)} {p : List Prop} (ha : again lv c s s' i2 = some (y, p)) (hlv : ∀ k l r, ρ.lp k = some (l, r) → k < lv) (hp : All p) : ∃ ρ', Rel w0 N ρ' (stOf s c W [] i2 y) a w ∧ ρ.up c ρ' := by
  unfold again at ha
  split at ha
  case h_2 => cases ha
  rename_i hst
  unfold again0 at ha
  split at ha
  · rename_i cs hg
    split at ha
    · rename_i y' p' q hr
      split at ha
      · rename_i hq
        simp only [Option.some.injEq, Prod.mk.injEq] at ha
        obtain ⟨rfl, rfl⟩ := ha
        simp only [Bool.and_eq_true] at hq
        obtain ⟨k1, k2, k3⟩ := hk
        refine reload h hok2 hkT hkH (fun m hm => by cases hm) k2 ?_ ?_ hg hr hp hq.1 (fun k l r hk => stSame_at hst (hlv k l r hk)) ?_
        · intro m hm hd ht
          refine k3 m hm ?_
          simp only [wkIn, Bool.or_eq_false_iff]
          exact ⟨by rw [← Bool.not_eq_true, Nat.ble_eq]; omega, by rw [← Bool.not_eq_true, memN_iff]; exact fun h => ht ((hsame m).1 h)⟩
        · intro m hm hd; cases hd
        · intro r hr
          have := List.all_eq_true.1 hq.2 r hr
          exact .inl (by simpa [Nat.ble_eq] using this)
      · cases ha
    · cases ha
  · cases ha
theorem enter_sound {c : Nat} {s : S} {W : List Nat} {its : List It} {x : Tys (shapes its)} {p : List Prop} {dead : List Nat} (he : enter N c s W its = some (x, p, dead)) (hp : All p)
    {ρ : Ren} {a : Act} {w : World} (h : Rel w0 N ρ s a w) : itsOk s c W its = true ∧ keepT s c W N = true ∧ keepH s c c = true ∧ (∀ m, m ∈ dead → m < c) ∧ (∀ m, m ∈ dead → m ∉ tblks s its) ∧ ∃ ρ', Rel w0 N ρ' (stOf s c W dead its x) a w ∧ ρ.up c ρ' := by
  obtain ⟨cs, q, hg, hr, rfl, hok, hkT, hkH, hnd, hall⟩ := enter_spec he
  have h1 : ∀ m, m ∈ q.map (·.m) → m < c := by
    intro m hm
    obtain ⟨r, hr, rfl⟩ := List.mem_map.1 hm
    exact (hall r hr).1
  have h2 : ∀ m, m ∈ q.map (·.m) → m ∉ tblks s its := by
    intro m hm
    obtain ⟨r, hr, rfl⟩ := List.mem_map.1 hm
    exact (hall r hr).2
  refine ⟨hok, hkT, hkH, h1, h2, reload h hok hkT hkH h2 (fun _ _ => rfl) (fun _ _ _ _ => rfl) ?_ hg hr hp hnd (fun _ _ _ _ => rfl) ?_⟩
  · intro m hm hd
    obtain ⟨r, hrq, rfl⟩ := List.mem_map.1 (memN_iff.1 hd)
    obtain ⟨⟨k, hk, _⟩, _⟩ := rdL_blk (ρ' := ρ) h (fun _ _ _ h => h) hr hp r hrq
    rw [hk]; simp
  · intro r hr
    exact .inr (List.mem_map_of_mem hr)
theorem lv_up {ρ ρ' : Ren} (h : ∀ k l r, ρ.lp k = some (l, r) → k < lv) (hle : ρ.up cz ρ') : ∀ k l r, ρ'.lp k = some (l, r) → k < lv := by
  intro k l r hk
  rw [hle.lp] at hk
  exact h k l r hk
structure XOK (P : Program) (G : GT) (N : Nat) (gw : World → Prop) (lv cz : Nat) (w0 : World) (rr : Option Nat) (K : Ren → Prop) (rx : RX) (rf : RF) : Prop where
  kA : ∀ {ρ}, K ρ → Amb P G gw ρ
  kL : ∀ {ρ}, K ρ → ∀ k l r, ρ.lp k = some (l, r) → k < lv
  kU : ∀ {ρ ρ'}, K ρ → ρ.up cz ρ' → K ρ'
  xk : ∀ id ops draw wk c s, (rx ops draw wk c s).all (Keeps c s wk (dsts (.region id ops draw)))
  fk : ∀ g ps x y wk c s, (rf g ps x y wk c s).all (Keeps c s wk [])
  xs : ∀ {id ops draw wk c s R ρ a w}, Rel w0 N ρ s a w → K ρ → cz ≤ c → (rx ops draw wk c s).wp R → (Code.region id ops draw).wpIn (Fd rr) 0 P (CP cz w0 N ρ R) a w
  fs : ∀ {g ps x y wk c s R ρ a w}, Rel w0 N ρ s a w → K ρ → cz ≤ c → (rf g ps x y wk c s).wp R → (Code.rangeFunc g ps x y).wpIn (Fd rr) 0 P (CP cz w0 N ρ R) a w
def rf0 : RF := fun _ _ _ _ _ _ _ => .fail
theorem stepR_scope {P : Program} {b : Frame} {a : Act} {k : List Go.Item} {cs : List Frame} {w : World} {c : Code} : step P (lone (b.atR a (.code (.scope c) :: k)) cs w) = .next (lone (b.atR a (.code c :: .inScope c :: k)) cs w) :=
  step_lone_go (by simp [stepG, stepG.exec, Frame.atR])
theorem stepR_inScope {P : Program} {b : Frame} {a : Act} {k : List Go.Item} {cs : List Frame} {w : World} {c : Code} : step P (lone (b.atR a (.inScope c :: k)) cs w) = .next (lone (b.atR a k) cs w) :=
  step_lone_go (by simp [stepG, stepG.exec, Frame.atR])
theorem wpIn_scope {F : Fence} {n : Nat} {P : Program} {Q : Exit → Act → World → Prop} {a : Act} {w : World} {c : Code} (hQ : ∀ l a w, ¬ Q (.goto l) a w) (h : c.wpIn F n P Q a w) : (Code.scope c).wpIn F n P Q a w := by
  intro b k cs hro hb hr
  have h0 : (lone (b.atR a (.code (.scope c) :: k)) cs w).fenced P F := fenced_calm hb hr rfl
  obtain ⟨e, a₁, w₁, hq, harr⟩ := h b (.inScope c :: k) cs hro hb hr
  cases e with
  | normal => exact ⟨.normal, a₁, w₁, hq, .head h0 stepR_scope (StepsIn.trans harr (.one (fenced_calm hb hr rfl) stepR_inScope))⟩
  | exit id' =>
    have hx : exitTo id' (.inScope c :: k) = exitTo id' k := by simp [exitTo]
    exact ⟨.exit id', a₁, w₁, hq, fun k' hk => .head h0 stepR_scope (harr.1 k' (by rw [hx]; exact hk)),
      fun hr' hk => let ⟨k₁, h1, h2⟩ := harr.2 hr' (by rw [hx]; exact hk); ⟨k₁, h1, .head h0 stepR_scope h2⟩⟩
  | goto l => exact absurd hq (hQ l a₁ w₁)
  | ret => exact ⟨_, a₁, w₁, hq, .of_steps (.one h0 stepR_scope) harr⟩
  | panic ch => exact ⟨_, a₁, w₁, hq, .of_steps (.one h0 stepR_scope) harr⟩
  | outgrown => exact ⟨_, a₁, w₁, hq, .of_steps (.one h0 stepR_scope) harr⟩
theorem exec_sound {K : Ren → Prop} {rx : RX} {rf : RF} (E : XOK P G N gw lv cz w0 rr K rx rf) (fuel : Nat) : ∀ (code : Code) {wk : Nat → Bool} {c : Nat} {s : S} {R : St3 → Prop} {ρ : Ren} {a : Act} {w : World}, Rel w0 N ρ s a w → K ρ → cz ≤ c →
    (exec G N an lv rx rf fuel code wk c s).wp R → code.wpIn (Fd rr) 0 P (CP cz w0 N ρ R) a w := by
  intro code
  induction code with
  | skip => intro wk c s R ρ a w hrel hgl hcz h; exact wpIn_skip ⟨c, s, ρ, h, hrel, Ren.up_refl _⟩
  | region id ops draw => intro wk c s R ρ a w hrel hgl hcz h; exact E.xs hrel hgl hcz h
  | rangeFunc g ps x y => intro wk c s R ρ a w hrel hgl hcz h; exact E.fs hrel hgl hcz h
  | seq x y ihx ihy =>
    intro wk c s R ρ a w hrel hgl hcz h
    simp only [exec] at h
    have h1 := T.wp_all (T.wp_bind h) (exec_keeps E.xk E.fk fuel x _ _ _)
    refine wpIn_seq (wpIn_mono (ihx hrel hgl hcz h1) ?_)
    intro e a' w' hc
    cases e <;> simp only [CP, Exit.then] at hc ⊢
    case normal =>
      obtain ⟨c', s', ρ', ⟨hr, hk, _⟩, hrel', hle⟩ := hc
      exact wpIn_mono (ihy hrel' (E.kU hgl hle) (Nat.le_trans hcz hk) hr) (CP.mono hle (fun _ h => h))
    case exit id => obtain ⟨c', s', ρ', ⟨hr, _⟩, h2⟩ := hc; exact ⟨c', s', ρ', hr, h2⟩
    case ret => obtain ⟨c', s', ρ', ⟨hr, _⟩, h2⟩ := hc; exact ⟨c', s', ρ', hr, h2⟩
  | cond x y z ihy ihz =>
    intro wk c s R ρ a w hrel hgl hcz h
    simp only [exec] at h
    have hview : View G ρ s a w := ⟨fun t v ht => (hrel.tm t v ht).2, fun m k hk => by obtain ⟨b, h1, h2, h3, _⟩ := hrel.hp m k hk; exact ⟨b, h1, h2, h3⟩, hrel.im, (E.kA hgl).gl⟩
    split at h
    · rename_i hl; exact wpIn_cond_true (look_rel hview hl) (ihy hrel hgl hcz h)
    · rename_i hl; exact wpIn_cond_false (look_rel hview hl) (ihz hrel hgl hcz h)
    · rename_i b hl
      split at h
      · rename_i its _
        split at h
        · rename_i x0 p dead he
          split at h
          · rename_i hw
            obtain ⟨hp, h⟩ := T.wp_needs h
            obtain ⟨hok, hkT, hkH, hdl, hdt, ρ1, hrel1, hup1⟩ := enter_sound he hp hrel
            have h1 := T.wp_all (T.wp_bind h) (exec_keeps E.xk E.fk fuel y _ _ _)
            have hg1 := E.kU hgl (hup1.less hcz)
            cases b with
            | true =>
              refine wpIn_cond_true (look_rel hview hl) (wpIn_mono (ihy hrel1 hg1 (Nat.le_trans hcz (Nat.le_add_right _ _)) h1) ?_)
              intro e a' w' hc
              have fin : ∀ (ex : Ex) c' s' ρ', (((exec G N an lv rx rf fuel z (wkIn c s its) (c + nL (shapes its)) (stOf s c (dstsA an y ++ dstsA an z) dead its x0)).bind fun r2 => joinEnd lv c s (dstsA an y ++ dstsA an z) dead its true (ex, c', s') r2).wp R ∧ Keeps (c + nL (shapes its)) (stOf s c (dstsA an y ++ dstsA an z) dead its x0) (wkIn c s its) (dstsA an y) (ex, c', s')) →
                  Rel w0 N ρ' s' a' w' → ρ1.up cz ρ' → ex = .normal ∧ CP cz w0 N ρ R .normal a' w' := by
                intro ex c' s' ρ' ⟨hr, hkp⟩ hrel' hle
                obtain ⟨⟨e2, c2, s2⟩, h2⟩ := T.wp_ex (T.wp_bind hr)
                cases ex <;> cases e2 <;> first | exact h2.elim | skip
                simp only [joinEnd] at h2
                split at h2
                · rename_i y1 p1 y2 p2 ha1 ha2
                  obtain ⟨⟨hp1, _⟩, hR⟩ := joinN_wp h2
                  have hR : R _ := hR
                  rw [joinX_true] at hR
                  obtain ⟨ρ2, hrel2, hup2⟩ := again_sound hok hok hkT hkH hdl hdt (fun m => Iff.rfl) (hkp.wider fun t ht => (memN_append ht).1) hrel' ha1 (E.kL (E.kU hg1 hle)) (hp1 rfl)
                  exact ⟨rfl, _, _, ρ2, hR, hrel2, Ren.up_trans (hup1.less hcz) (Ren.up_trans hle (hup2.less hcz))⟩
                · exact h2.elim
              cases e <;> simp only [CP] at hc
              case normal => obtain ⟨c', s', ρ', h3, h4, h5⟩ := hc; exact (fin _ c' s' ρ' h3 h4 h5).2
              case exit id => obtain ⟨c', s', ρ', h3, h4, h5⟩ := hc; cases (fin _ c' s' ρ' h3 h4 h5).1
              case ret => obtain ⟨c', s', ρ', h3, h4, h5⟩ := hc; cases (fin _ c' s' ρ' h3 h4 h5).1
            | false =>
              obtain ⟨⟨e1, c1, s1⟩, h2, _⟩ := T.wp_ex h1
              have h2 := T.wp_all (T.wp_bind h2) (exec_keeps E.xk E.fk fuel z _ _ _)
              refine wpIn_cond_false (look_rel hview hl) (wpIn_mono (ihz hrel1 hg1 (Nat.le_trans hcz (Nat.le_add_right _ _)) h2) ?_)
              intro e a' w' hc
              have fin : ∀ (ex : Ex) c' s' ρ', ((joinEnd lv c s (dstsA an y ++ dstsA an z) dead its false (e1, c1, s1) (ex, c', s')).wp R ∧ Keeps (c + nL (shapes its)) (stOf s c (dstsA an y ++ dstsA an z) dead its x0) (wkIn c s its) (dstsA an z) (ex, c', s')) →
                  Rel w0 N ρ' s' a' w' → ρ1.up cz ρ' → ex = .normal ∧ CP cz w0 N ρ R .normal a' w' := by
                intro ex c' s' ρ' ⟨h2, hkp⟩ hrel' hle
                cases e1 <;> cases ex <;> first | exact h2.elim | skip
                simp only [joinEnd] at h2
                split at h2
                · rename_i y1 p1 y2 p2 ha1 ha2
                  obtain ⟨⟨_, hp2⟩, hR⟩ := joinN_wp h2
                  have hR : R _ := hR
                  rw [joinX_false] at hR
                  obtain ⟨ρ2, hrel2, hup2⟩ := again_sound hok hok hkT hkH hdl hdt (fun m => Iff.rfl) (hkp.wider fun t ht => (memN_append ht).2) hrel' ha2 (E.kL (E.kU hg1 hle)) (hp2 rfl)
                  exact ⟨rfl, _, _, ρ2, hR, hrel2, Ren.up_trans (hup1.less hcz) (Ren.up_trans hle (hup2.less hcz))⟩
                · exact h2.elim
              cases e <;> simp only [CP] at hc
              case normal => obtain ⟨c', s', ρ', h3, h4, h5⟩ := hc; exact (fin _ c' s' ρ' h3 h4 h5).2
              case exit id => obtain ⟨c', s', ρ', h3, h4, h5⟩ := hc; cases (fin _ c' s' ρ' h3 h4 h5).1
              case ret => obtain ⟨c', s', ρ', h3, h4, h5⟩ := hc; cases (fin _ c' s' ρ' h3 h4 h5).1
          · exact h.elim
        · exact h.elim
      · split at h
        · rename_i its _
          split at h
          · rename_i x0 p dead he
            split at h
            · rename_i hw
              obtain ⟨hp, h⟩ := T.wp_needs h
              obtain ⟨hok, hkT, hkH, hdl, hdt, ρ1, hrel1, hup1⟩ := enter_sound he hp hrel
              have hg1 := E.kU hgl (hup1.less hcz)
              unfold meetT at h
              split at h
              · rename_i p1 c1 s1 p2 c2 s2 hy hz
                split at h
                · rename_i y1 q1 y2 q2 ha1 ha2
                  obtain ⟨⟨hp1, hp2⟩, hR⟩ := h
                  have hR : R _ := hR
                  cases b with
                  | true =>
                    have hall := All.append.1 (hp1 rfl)
                    have h1 := T.wp_all (T.strip_wp hy hall.1) (exec_keeps E.xk E.fk fuel y _ _ _)
                    rw [joinX_true] at hR
                    refine wpIn_cond_true (look_rel hview hl) (wpIn_mono (ihy hrel1 hg1 (Nat.le_trans hcz (Nat.le_add_right _ _)) h1) ?_)
                    intro e a' w' hc
                    cases e <;> simp only [CP] at hc
                    case normal =>
                      obtain ⟨c', s', ρ', ⟨h3, hkp⟩, h4, h5⟩ := hc
                      simp only [Prod.mk.injEq, true_and] at h3
                      obtain ⟨rfl, rfl⟩ := h3
                      obtain ⟨ρ2, hrel2, hup2⟩ := again_sound hok hok hkT hkH hdl hdt (fun m => Iff.rfl) (hkp.wider fun t ht => (memN_append ht).1) h4 ha1 (E.kL (E.kU hg1 h5)) hall.2
                      exact ⟨_, _, ρ2, hR, hrel2, Ren.up_trans (hup1.less hcz) (Ren.up_trans h5 (hup2.less hcz))⟩
                    case exit id => obtain ⟨c', s', ρ', ⟨h3, _⟩, _⟩ := hc; cases h3
                    case ret => obtain ⟨c', s', ρ', ⟨h3, _⟩, _⟩ := hc; cases h3
                  | false =>
                    have hall := All.append.1 (hp2 rfl)
                    have h1 := T.wp_all (T.strip_wp hz hall.1) (exec_keeps E.xk E.fk fuel z _ _ _)
                    rw [joinX_false] at hR
                    refine wpIn_cond_false (look_rel hview hl) (wpIn_mono (ihz hrel1 hg1 (Nat.le_trans hcz (Nat.le_add_right _ _)) h1) ?_)
                    intro e a' w' hc
                    cases e <;> simp only [CP] at hc
                    case normal =>
                      obtain ⟨c', s', ρ', ⟨h3, hkp⟩, h4, h5⟩ := hc
                      simp only [Prod.mk.injEq, true_and] at h3
                      obtain ⟨rfl, rfl⟩ := h3
                      obtain ⟨ρ2, hrel2, hup2⟩ := again_sound hok hok hkT hkH hdl hdt (fun m => Iff.rfl) (hkp.wider fun t ht => (memN_append ht).2) h4 ha2 (E.kL (E.kU hg1 h5)) hall.2
                      exact ⟨_, _, ρ2, hR, hrel2, Ren.up_trans (hup1.less hcz) (Ren.up_trans h5 (hup2.less hcz))⟩
                    case exit id => obtain ⟨c', s', ρ', ⟨h3, _⟩, _⟩ := hc; cases h3
                    case ret => obtain ⟨c', s', ρ', ⟨h3, _⟩, _⟩ := hc; cases h3
                · exact h.elim
              · exact h.elim
            · exact h.elim
          · exact h.elim
        · split at h
          · cases b with
            | true => exact wpIn_cond_true (look_rel hview hl) (ihy hrel hgl hcz h)
            | false => exact wpIn_cond_false (look_rel hview hl) (ihz hrel hgl hcz h)
          · exact wpIn_cond_split (look_rel hview hl) (fun hb => ihy hrel hgl hcz (h.1 hb)) (fun hb => ihz hrel hgl hcz (h.2 hb))
    · exact h.elim
  | block id x ih =>
    intro wk c s R ρ a w hrel hgl hcz h
    simp only [exec] at h
    have h1 := T.wp_bind h
    refine wpIn_block (wpIn_mono (ih hrel hgl hcz h1) ?_)
    intro e a' w' hc
    cases e <;> simp only [CP, Exit.inBlock] at hc ⊢
    case normal => exact hc
    case ret => exact hc
    case exit i =>
      obtain ⟨c', s', ρ', hr, hrel', hle⟩ := hc
      split at hr
      · rename_i hb
        have := Nat.eq_of_beq_eq_true hb
        rw [if_pos this]
        exact ⟨c', s', ρ', hr, hrel', hle⟩
      · rename_i hb
        rw [if_neg (by intro e; subst e; simp at hb)]
        exact ⟨c', s', ρ', hr, hrel', hle⟩
  | loop x ih =>
    intro wk c s R ρ a w hrel hgl hcz h
    have loopW : ∀ t, memN (dstsA an (.loop x)) t = false → memN (dstsA an x) t = false := fun t ht => (memN_append ht).1
    have main : ∀ (dz : Bool) (o : Option (List It × Option (List It))) (c : Nat) (s : S) (ρ0 : Ren) (a : Act) (w : World), Rel w0 N ρ0 s a w → ρ.up cz ρ0 → cz ≤ c → (loopT dz N lv fuel (exec G N an lv rx rf fuel x) (dstsA an (.loop x)) wk c s o).wp R →
        ∃ m, Code.roundsIn (Fd rr) 0 P x (CP cz w0 N ρ R) m a w := by
      intro dz o c s ρ0 a w hrel hup0 hcz h
      unfold loopT at h
      split at h
      · have key : ∀ n c s, cz ≤ c → (loopN (exec G N an lv rx rf fuel x wk) n c s).wp R → ∀ ρ1 a w, Rel w0 N ρ1 s a w → ρ.up cz ρ1 → Code.roundsIn (Fd rr) 0 P x (CP cz w0 N ρ R) n a w := by
          intro n
          induction n with
          | zero => intro c s _ h; exact h.elim
          | succ n ihn =>
            intro c s hcz h ρ1 a w hrel1 hle1
            simp only [loopN] at h
            have h1 := T.wp_all (T.wp_bind h) (exec_keeps E.xk E.fk fuel x _ _ _)
            rw [roundsIn_succ]
            refine wpIn_mono (ih hrel1 (E.kU hgl hle1) hcz h1) ?_
            intro e a' w' hc
            cases e <;> simp only [CP, Exit.then] at hc ⊢
            case normal =>
              obtain ⟨c', s', ρ', ⟨hr, hkc, _⟩, hrel', hle⟩ := hc
              exact ihn c' s' (Nat.le_trans hcz hkc) hr ρ' a' w' hrel' (Ren.up_trans hle1 hle)
            case exit id => obtain ⟨c', s', ρ', ⟨hr, _⟩, hrel', hle⟩ := hc; exact ⟨c', s', ρ', hr, hrel', Ren.up_trans hle1 hle⟩
            case ret => obtain ⟨c', s', ρ', ⟨hr, _⟩, hrel', hle⟩ := hc; exact ⟨c', s', ρ', hr, hrel', Ren.up_trans hle1 hle⟩
        exact ⟨fuel, key fuel c s hcz h ρ0 a w hrel hup0⟩
      · rename_i i1
        split at h
        · rename_i x0 p dead he
          split at h
          · rename_i hw
            obtain ⟨hp, I, μ, hI0, hI⟩ := T.wp_needs h
            obtain ⟨hok, hkT, hkH, hdl, hdt, ρ1, hrel1, hup1⟩ := enter_sound he hp hrel
            have key : ∀ n y, I y → μ y < n → ∀ ρ1 a w, Rel w0 N ρ1 (stOf s c (dstsA an (.loop x)) dead i1 y) a w → ρ.up cz ρ1 → Code.roundsIn (Fd rr) 0 P x (CP cz w0 N ρ R) n a w := by
              intro n
              induction n with
              | zero => intro y _ h; omega
              | succ n ihn =>
                intro y hIy hlt ρ1 a w hrel1 hle1
                have h1 := T.wp_all (T.wp_bind (hI y hIy)) (exec_keeps E.xk E.fk fuel x _ _ _)
                rw [roundsIn_succ]
                refine wpIn_mono (ih hrel1 (E.kU hgl hle1) (Nat.le_trans hcz (Nat.le_add_right _ _)) h1) ?_
                intro e a' w' hc
                cases e <;> simp only [CP, Exit.then] at hc ⊢
                case normal =>
                  obtain ⟨c', s', ρ', ⟨hr, hkp⟩, hrel', hle⟩ := hc
                  simp only [roundEnd] at hr
                  split at hr
                  · rename_i y2 p2 ha
                    obtain ⟨hp2, hI2, hμ2⟩ := T.wp_needs hr
                    obtain ⟨ρf, hrelf, hlef⟩ := frz_sound (c := c) (s0 := s) (its := i1) hrel'
                    obtain ⟨ρ2, hrel2, hup2⟩ := again_sound hok hok hkT hkH hdl hdt (fun m => Iff.rfl) ((frz_keeps hkp).wider loopW) hrelf ha (E.kL (E.kU (E.kU (E.kU hgl hle1) hle) hlef.up)) hp2
                    exact ihn y2 hI2 (by omega) ρ2 a' w' hrel2 (Ren.up_trans hle1 (Ren.up_trans hle (Ren.up_trans hlef.up (hup2.less hcz))))
                  · exact hr.elim
                case exit id => obtain ⟨c', s', ρ', ⟨hr, _⟩, hrel', hle⟩ := hc; exact ⟨c', s', ρ', hr, hrel', Ren.up_trans hle1 hle⟩
                case ret => obtain ⟨c', s', ρ', ⟨hr, _⟩, hrel', hle⟩ := hc; exact ⟨c', s', ρ', hr, hrel', Ren.up_trans hle1 hle⟩
            exact ⟨_, key (μ x0 + 1) x0 hI0 (by omega) ρ1 a w hrel1 (Ren.up_trans hup0 (hup1.less hcz))⟩
          · exact h.elim
        · exact h.elim
      · rename_i i1 i2
        split at h
        · rename_i x0 p dead he
          split at h
          · rename_i hw
            simp only [Bool.and_eq_true] at hw
            obtain ⟨⟨hw, hok2⟩, hs1, hs2⟩ := hw
            obtain ⟨hp, I, μ, hI0, hI1, hI2⟩ := T.wp_needs h
            obtain ⟨hok, hkT, hkH, hdl, hdt, ρ1, hrel1, hup1⟩ := enter_sound he hp hrel
            have hsame : ∀ m, m ∈ tblks s i1 ↔ m ∈ tblks s i2 := fun m => ⟨fun h => memN_iff.1 (List.all_eq_true.1 hs2 m h), fun h => memN_iff.1 (List.all_eq_true.1 hs1 m h)⟩
            have hdt2 : ∀ m, m ∈ dead → m ∉ tblks s i2 := fun m hm ht => hdt m hm ((hsame m).2 ht)
            have hwk2 := wkIn_congr (c := c) hs1 hs2
            have key : ∀ n y, I y → μ y < n → ∀ ρ1 a w, Rel w0 N ρ1 (match y with | .inl y => stOf s c (dstsA an (.loop x)) dead i1 y | .inr y => stOf s c (dstsA an (.loop x)) dead i2 y) a w → ρ.up cz ρ1 → Code.roundsIn (Fd rr) 0 P x (CP cz w0 N ρ R) n a w := by
              intro n
              induction n with
              | zero => intro y _ h; omega
              | succ n ihn =>
                -- what a round's end leads to
                have fin : ∀ (its : List It) (y : Tys (shapes its)) (m : Nat), itsOk s c (dstsA an (.loop x)) its = true → (∀ m, m ∈ dead → m ∉ tblks s its) → (∀ m, m ∈ tblks s its ↔ m ∈ tblks s i1) → (∀ m, m ∈ tblks s its ↔ m ∈ tblks s i2) → ∀ (μy : Nat), μy < n + 1 → ∀ ρ1 : Ren, ρ.up cz ρ1 →
                    ∀ e a' w', CP cz w0 N ρ1 (fun r => ((roundEnd2 lv c s i1 i2 r).wp (LoopP I μ μy R)) ∧ Keeps (c + m) (stOf s c (dstsA an (.loop x)) dead its y) (wkIn c s its) (dstsA an x) r) e a' w' →
                    Exit.then (Code.roundsIn (Fd rr) 0 P x (CP cz w0 N ρ R) n) (CP cz w0 N ρ R) e a' w' := by
                  intro its y m hoki hdti hsi1 hsi2 μy hlt ρ1 hle1 e a' w' hc
                  cases e <;> simp only [CP, Exit.then] at hc ⊢
                  case normal =>
                    obtain ⟨c', s', ρ', ⟨hr, hkp⟩, hrel', hle⟩ := hc
                    simp only [roundEnd2] at hr
                    split at hr
                    · rename_i y2 p2 ha
                      obtain ⟨hp2, hI2, hμ2⟩ := T.wp_needs hr
                      obtain ⟨ρ2, hrel2, hup2⟩ := again_sound hoki hok hkT hkH hdl hdti hsi1 (hkp.wider loopW) hrel' ha (E.kL (E.kU (E.kU hgl hle1) hle)) hp2
                      exact ihn (.inl y2) hI2 (by omega) ρ2 a' w' hrel2 (Ren.up_trans hle1 (Ren.up_trans hle (hup2.less hcz)))
                    · split at hr
                      · rename_i y2 p2 ha
                        obtain ⟨hp2, hI2, hμ2⟩ := T.wp_needs hr
                        obtain ⟨ρ2, hrel2, hup2⟩ := again_sound hoki hok2 hkT hkH hdl hdti hsi2 (hkp.wider loopW) hrel' ha (E.kL (E.kU (E.kU hgl hle1) hle)) hp2
                        exact ihn (.inr y2) hI2 (by omega) ρ2 a' w' hrel2 (Ren.up_trans hle1 (Ren.up_trans hle (hup2.less hcz)))
                      · exact hr.elim
                  case exit id => obtain ⟨c', s', ρ', ⟨hr, _⟩, hrel', hle⟩ := hc; exact ⟨c', s', ρ', hr, hrel', Ren.up_trans hle1 hle⟩
                  case ret => obtain ⟨c', s', ρ', ⟨hr, _⟩, hrel', hle⟩ := hc; exact ⟨c', s', ρ', hr, hrel', Ren.up_trans hle1 hle⟩
                intro y hIy hlt ρ1 a w hrel1 hle1
                rw [roundsIn_succ]
                cases y with
                | inl y =>
                  have h1 := T.wp_all (T.wp_mono (fun _ hr => deadE_wp hr) (T.wp_bind (hI1 y hIy))) (exec_keeps E.xk E.fk fuel x _ _ _)
                  exact wpIn_mono (ih hrel1 (E.kU hgl hle1) (Nat.le_trans hcz (Nat.le_add_right _ _)) h1) (fin i1 y _ hok hdt (fun m => Iff.rfl) hsame _ hlt ρ1 hle1)
                | inr y =>
                  have h1 := T.wp_all (T.wp_bind (hI2 y hIy)) (exec_keeps E.xk E.fk fuel x _ _ _)
                  rw [hwk2] at h1
                  exact wpIn_mono (ih hrel1 (E.kU hgl hle1) (Nat.le_trans hcz (Nat.le_add_right _ _)) h1) (fin i2 y _ hok2 hdt2 (fun m => (hsame m).symm) (fun m => Iff.rfl) _ hlt ρ1 hle1)
            exact ⟨_, key (μ (.inl x0) + 1) (.inl x0) hI0 (by omega) ρ1 a w hrel1 (Ren.up_trans hup0 (hup1.less hcz))⟩
          · exact h.elim
        · exact h.elim
    simp only [exec] at h
    unfold loopX at h
    split at h
    · obtain ⟨m, hm⟩ := main _ _ c s ρ a w hrel (Ren.up_refl _) hcz h
      exact wpIn_loop_rounds m hm
    · split at h
      · obtain ⟨m, hm⟩ := main _ _ c s ρ a w hrel (Ren.up_refl _) hcz h
        exact wpIn_loop_rounds m hm
      · unfold loopP at h
        split at h
        · exact h.elim
        · rename_i i1 _
          split at h
          · rename_i hw
            simp only [Bool.and_eq_true] at hw
            obtain ⟨⟨hkT, hkH⟩, hok, hw⟩ := hw
            obtain ⟨I, μ, hI0, hI1, hI2⟩ := h
            have nd : ∀ m, m ∈ ([] : List Nat) → m < c := fun m hm => by cases hm
            have nt : ∀ m, m ∈ ([] : List Nat) → m ∉ tblks s i1 := fun m hm => by cases hm
            have key : ∀ n y, I y → μ y < n → ∀ ρ1 a w, Rel w0 N ρ1 (match y with | .inl _ => s | .inr y => stOf s c (dstsA an (.loop x)) [] i1 y) a w → ρ.up cz ρ1 → Code.roundsIn (Fd rr) 0 P x (CP cz w0 N ρ R) n a w := by
              intro n
              induction n with
              | zero => intro y _ h; omega
              | succ n ihn =>
                intro y hIy hlt ρ1 a w hrel1 hle1
                rw [roundsIn_succ]
                cases y with
                | inl y =>
                  have h1 := T.wp_all (T.wp_bind (hI1 y hIy)) (exec_keeps E.xk E.fk fuel x _ _ _)
                  refine wpIn_mono (ih hrel1 (E.kU hgl hle1) hcz h1) ?_
                  intro e a' w' hc
                  cases e <;> simp only [CP, Exit.then] at hc ⊢
                  case normal =>
                    obtain ⟨c', s', ρ', ⟨hr, hkp⟩, hrel', hle⟩ := hc
                    simp only [roundEndP] at hr
                    split at hr
                    · rename_i y2 p2 ha
                      obtain ⟨hp2, hI2', hμ2⟩ := T.wp_needs hr
                      obtain ⟨ρf, hrelf, hlef⟩ := frz_sound (c := c) (s0 := s) (its := i1) hrel'
                      obtain ⟨ρ2, hrel2, hup2⟩ := first_sound hok hkT hkH (fun m => Iff.rfl) ((frz_keeps (n := 0) hkp).wider loopW) hrelf ha (E.kL (E.kU (E.kU (E.kU hgl hle1) hle) hlef.up)) hp2
                      exact ihn (.inr y2) hI2' (by omega) ρ2 a' w' hrel2 (Ren.up_trans hle1 (Ren.up_trans hle (Ren.up_trans hlef.up (hup2.less hcz))))
                    · exact hr.elim
                  case exit id => obtain ⟨c', s', ρ', ⟨hr, _⟩, hrel', hle⟩ := hc; exact ⟨c', s', ρ', hr, hrel', Ren.up_trans hle1 hle⟩
                  case ret => obtain ⟨c', s', ρ', ⟨hr, _⟩, hrel', hle⟩ := hc; exact ⟨c', s', ρ', hr, hrel', Ren.up_trans hle1 hle⟩
                | inr y =>
                  have h1 := T.wp_all (T.wp_bind (hI2 y hIy)) (exec_keeps E.xk E.fk fuel x _ _ _)
                  refine wpIn_mono (ih hrel1 (E.kU hgl hle1) (Nat.le_trans hcz (Nat.le_add_right _ _)) h1) ?_
                  intro e a' w' hc
                  cases e <;> simp only [CP, Exit.then] at hc ⊢
                  case normal =>
                    obtain ⟨c', s', ρ', ⟨hr, hkp⟩, hrel', hle⟩ := hc
                    simp only [roundEndP] at hr
                    split at hr
                    · rename_i y2 p2 ha
                      obtain ⟨hp2, hI2', hμ2⟩ := T.wp_needs hr
                      obtain ⟨ρf, hrelf, hlef⟩ := frz_sound (c := c) (s0 := s) (its := i1) hrel'
                      obtain ⟨ρ2, hrel2, hup2⟩ := again_sound hok hok hkT hkH nd nt (fun m => Iff.rfl) ((frz_keeps hkp).wider loopW) hrelf ha (E.kL (E.kU (E.kU (E.kU hgl hle1) hle) hlef.up)) hp2
                      exact ihn (.inr y2) hI2' (by omega) ρ2 a' w' hrel2 (Ren.up_trans hle1 (Ren.up_trans hle (Ren.up_trans hlef.up (hup2.less hcz))))
                    · exact hr.elim
                  case exit id => obtain ⟨c', s', ρ', ⟨hr, _⟩, hrel', hle⟩ := hc; exact ⟨c', s', ρ', hr, hrel', Ren.up_trans hle1 hle⟩
                  case ret => obtain ⟨c', s', ρ', ⟨hr, _⟩, hrel', hle⟩ := hc; exact ⟨c', s', ρ', hr, hrel', Ren.up_trans hle1 hle⟩
            exact wpIn_loop_rounds _ (key (μ (.inl ⟨⟩) + 1) (.inl ⟨⟩) hI0 (by omega) ρ a w hrel (Ren.up_refl _))
          · exact h.elim
        · rename_i i1 i2 _
          split at h
          · rename_i hw
            simp only [Bool.and_eq_true] at hw
            obtain ⟨⟨hkT, hkH⟩, ⟨hok, hw⟩, hok2, hs1, hs2⟩ := hw
            obtain ⟨I, μ, hI0, hI1, hI2, hI3⟩ := h
            have nd : ∀ m, m ∈ ([] : List Nat) → m < c := fun m hm => by cases hm
            have nt : ∀ (its : List It), ∀ m, m ∈ ([] : List Nat) → m ∉ tblks s its := fun _ m hm => by cases hm
            have hsame : ∀ m, m ∈ tblks s i1 ↔ m ∈ tblks s i2 := fun m => ⟨fun h => memN_iff.1 (List.all_eq_true.1 hs2 m h), fun h => memN_iff.1 (List.all_eq_true.1 hs1 m h)⟩
            have hwk2 := wkIn_congr (c := c) hs1 hs2
            have key : ∀ n y, I y → μ y < n → ∀ ρ1 a w, Rel w0 N ρ1 (match y with | .inl _ => s | .inr (.inl y) => stOf s c (dstsA an (.loop x)) [] i1 y | .inr (.inr y) => stOf s c (dstsA an (.loop x)) [] i2 y) a w → ρ.up cz ρ1 → Code.roundsIn (Fd rr) 0 P x (CP cz w0 N ρ R) n a w := by
              intro n
              induction n with
              | zero => intro y _ h; omega
              | succ n ihn =>
                have fin : ∀ (μy : Nat), μy < n + 1 → ∀ ρ1 : Ren, ρ.up cz ρ1 → ∀ (KP : St3 → Prop),
                    (∀ (i : List It), itsOk s c (dstsA an (.loop x)) i = true → (∀ m, m ∈ tblks s i1 ↔ m ∈ tblks s i) → ∀ {c' : Nat} {s' : S} {ρ : Ren} {a : Act} {w : World}, KP (.normal, c', s') → Rel w0 N ρ s' a w → ∀ {y : Tys (shapes i)} {p : List Prop}, again lv c s s' i = some (y, p) → (∀ k l r, ρ.lp k = some (l, r) → k < lv) → All p → ∃ ρ', Rel w0 N ρ' (stOf s c (dstsA an (.loop x)) [] i y) a w ∧ ρ.up c ρ') →
                    ∀ e a' w', CP cz w0 N ρ1 (fun r => ((roundEndQ lv c s i1 i2 r).wp (LoopP I μ μy R)) ∧ KP r) e a' w' →
                    Exit.then (Code.roundsIn (Fd rr) 0 P x (CP cz w0 N ρ R) n) (CP cz w0 N ρ R) e a' w' := by
                  intro μy hlt ρ1 hle1 KP next e a' w' hc
                  cases e <;> simp only [CP, Exit.then] at hc ⊢
                  case normal =>
                    obtain ⟨c', s', ρ', ⟨hr, hkp⟩, hrel', hle⟩ := hc
                    simp only [roundEndQ] at hr
                    split at hr
                    · rename_i y2 p2 ha
                      obtain ⟨hp2, hI2', hμ2⟩ := T.wp_needs hr
                      obtain ⟨ρ2, hrel2, hup2⟩ := next i1 hok (fun m => Iff.rfl) hkp hrel' ha (E.kL (E.kU (E.kU hgl hle1) hle)) hp2
                      exact ihn (.inr (.inl y2)) hI2' (by omega) ρ2 a' w' hrel2 (Ren.up_trans hle1 (Ren.up_trans hle (hup2.less hcz)))
                    · split at hr
                      · rename_i y2 p2 ha
                        obtain ⟨hp2, hI2', hμ2⟩ := T.wp_needs hr
                        obtain ⟨ρ2, hrel2, hup2⟩ := next i2 hok2 hsame hkp hrel' ha (E.kL (E.kU (E.kU hgl hle1) hle)) hp2
                        exact ihn (.inr (.inr y2)) hI2' (by omega) ρ2 a' w' hrel2 (Ren.up_trans hle1 (Ren.up_trans hle (hup2.less hcz)))
                      · exact hr.elim
                  case exit id => obtain ⟨c', s', ρ', ⟨hr, _⟩, hrel', hle⟩ := hc; exact ⟨c', s', ρ', hr, hrel', Ren.up_trans hle1 hle⟩
                  case ret => obtain ⟨c', s', ρ', ⟨hr, _⟩, hrel', hle⟩ := hc; exact ⟨c', s', ρ', hr, hrel', Ren.up_trans hle1 hle⟩
                intro y hIy hlt ρ1 a w hrel1 hle1
                rw [roundsIn_succ]
                rcases y with y | y | y
                · have h1 := T.wp_all (T.wp_bind (hI1 y hIy)) (exec_keeps E.xk E.fk fuel x _ _ _)
                  exact wpIn_mono (ih hrel1 (E.kU hgl hle1) hcz h1) (fin _ hlt ρ1 hle1 _ fun i hoki hsi {_ _ _ _ _} hkp hr {_ _} ha hl hp => first_sound (its := i1) hoki hkT hkH hsi (hkp.wider loopW) hr ha hl hp)
                · have h1 := T.wp_all (T.wp_bind (hI2 y hIy)) (exec_keeps E.xk E.fk fuel x _ _ _)
                  exact wpIn_mono (ih hrel1 (E.kU hgl hle1) (Nat.le_trans hcz (Nat.le_add_right _ _)) h1) (fin _ hlt ρ1 hle1 _ fun i hoki hsi {_ _ _ _ _} hkp hr {_ _} ha hl hp => again_sound hok hoki hkT hkH nd (nt _) hsi (hkp.wider loopW) hr ha hl hp)
                · have h1 := T.wp_all (T.wp_bind (hI3 y hIy)) (exec_keeps E.xk E.fk fuel x _ _ _)
                  rw [hwk2] at h1
                  exact wpIn_mono (ih hrel1 (E.kU hgl hle1) (Nat.le_trans hcz (Nat.le_add_right _ _)) h1) (fin _ hlt ρ1 hle1 _ fun i hoki hsi {_ _ _ _ _} hkp hr {_ _} ha hl hp => again_sound hok2 hoki hkT hkH nd (nt _) (fun m => ((hsame m).symm).trans (hsi m)) (hkp.wider loopW) hr ha hl hp)
            exact wpIn_loop_rounds _ (key (μ (.inl ⟨⟩) + 1) (.inl ⟨⟩) hI0 (by omega) ρ a w hrel (Ren.up_refl _))
          · exact h.elim
  | scope x ih => intro wk c s R ρ a w hrel hgl hcz h; exact wpIn_scope (fun l a w h => h) (ih hrel hgl hcz h)
  | label l => intro wk c s R ρ a w hrel hgl hcz h; exact wpIn_label ⟨c, s, ρ, h, hrel, Ren.up_refl _⟩
  | exit id => intro wk c s R ρ a w hrel hgl hcz h; exact wpIn_exit ⟨c, s, ρ, h, hrel, Ren.up_refl _⟩
  | ret => intro wk c s R ρ a w hrel hgl hcz h; exact wpIn_ret ⟨c, s, ρ, h, hrel, Ren.up_refl _⟩
  | _ => intro wk c s R ρ a w hrel hgl hcz h; exact h.elim
end
end Go.V
end

section
set_option linter.unusedVariables false
set_option linter.unusedSimpArgs false
namespace Go.V
open Go.RowKit (Below)
inductive Ag where
  | c (d : D)
  | agg (ds : List D)
  | ptr (n : Nat) (F : Nat → D)
  | clo (φ : Clo)
def Ag.rel (P : Program) (gw : World → Prop) (κ : Still) : Ag → Value → Prop
  | .c d, x => d.rel κ x
  | .agg ds, x => ∃ xs : List Value, F2 (D.rel κ) ds xs ∧ x = .agg xs.toArray
  | .ptr n F, x => ∃ a : Addr, x = .pointer (some a) ∧ a.spot = none ∧ ∀ j, j < n → ∃ y, κ a.block (a.off + j) = some y ∧ (F j).rel κ y
  | .clo φ, x => CloOK P gw κ φ x
def GIn (G : GT) (κ : Still) : Prop := ∀ g n F, G g = some (n, F) → ∀ j, j < n → ∃ y, κ g (0 + j) = some y ∧ (F j).rel κ y
theorem GIn.mono {G : GT} {κ κ' : Still} (h : κ.le κ') (hg : GIn G κ) : GIn G κ' := by
  intro g n F e j hj
  obtain ⟨y, hy, hr⟩ := hg g n F e j hj
  exact ⟨y, h _ _ _ hy, D.rel_mono h _ _ hr⟩
def resRel (κ : Still) : List Ar → Value → Prop
  | [r], x => r.rel κ x
  | rs, x => ∃ ys : List Value, F2 (Ar.rel κ) rs ys ∧ x = .tuple ys.toArray
abbrev DomF := List Ag → Option (List Prop × List Ar)
def Back (κ : Still) (r : List Ar) (w : World) (e : Ending) (w' : World) : Prop :=
  ∃ x κ', e = .returned x ∧ κ.le κ' ∧ Lies κ' w' ∧ (∀ b o v, κ' b o = some v → κ b o = some v ∨ w.heap.size ≤ b) ∧ resRel κ' r x ∧ Below w.heap.size w w'
def FOK (P : Program) (G : GT) (gw : World → Prop) (f : FuncId) (dom : DomF) : Prop :=
  ∀ ags p r, dom ags = some (p, r) → All p → ∀ κ w xs, gw w → Lies κ w → GIn G κ → F2 (Ag.rel P gw κ) ags xs → Calls P f xs.toArray w (Back κ r w)
def agOf (hp : Nat → Option Blk) : A → Option (Ag × Lent × List Prop)
  | .agg cs => (match lends hp cs with | some (ds, b, p) => some (.agg ds, b, p) | none => none)
  | .c (.ptr m 0) => (match hp m with
    | some (.known _ cs) => (match toDs cs with | some ds => some (.ptr ds.length (fun j => ds.getD j .nilp), ([], true), []) | none => none)
    | _ => none)
  | .c (.ip n F) => some (.ptr n F, ([], false), [])
  | .c (.clo φ) => some (.clo φ, ([], false), [])
  | .c x => (match lend hp x with | some (d, b, p) => some (.c d, b, p) | none => none)
def agsOf (hp : Nat → Option Blk) : List A → Option (List Ag × Lent × List Prop)
  | [] => some ([], ([], false), [])
  | a :: l => match agOf hp a, agsOf hp l with | some (d, b, p), some (ds, b', p') => some (d :: ds, b.join b', p ++ p') | _, _ => none
def D.plain : D → Bool
  | .sl .. => false
  | .fv .. => false
  | .fc .. => false
  | .ifd .. => false
  | _ => true
def Ar.plain : Ar → Bool
  | .c d => d.plain
  | .agg ds => ds.all D.plain
theorem D.plain_rel {κ κ' : Still} {d : D} (h : d.plain = true) {x : Value} (r : d.rel κ x) : d.rel κ' x := by
  cases d with
  | sl => cases h
  | fv => cases h
  | fc => cases h
  | ifd => cases h
  | _ => exact r
theorem ds_plain {κ κ' : Still} : ∀ {ds : List D} {xs : List Value}, ds.all D.plain = true → F2 (D.rel κ) ds xs → F2 (D.rel κ') ds xs
  | _, _, _, .nil => .nil
  | _, _, h, .cons r rs => by
    simp only [List.all_cons, Bool.and_eq_true] at h
    exact .cons (D.plain_rel h.1 r) (ds_plain h.2 rs)
theorem Ar.plain_rel {κ κ' : Still} {d : Ar} (h : d.plain = true) {x : Value} (r : d.rel κ x) : d.rel κ' x := by
  cases d with
  | c d => exact D.plain_rel h r
  | agg ds => obtain ⟨xs, hf, e⟩ := r; exact ⟨xs, ds_plain h hf, e⟩
theorem ars_plain {κ κ' : Still} : ∀ {ds : List Ar} {xs : List Value}, ds.all Ar.plain = true → F2 (Ar.rel κ) ds xs → F2 (Ar.rel κ') ds xs
  | _, _, _, .nil => .nil
  | _, _, h, .cons r rs => by
    simp only [List.all_cons, Bool.and_eq_true] at h
    exact .cons (Ar.plain_rel h.1 r) (ars_plain h.2 rs)
theorem res_plain {κ κ' : Still} {rs : List Ar} (h : rs.all Ar.plain = true) {x : Value} (r : resRel κ rs x) : resRel κ' rs x := by
  match rs, h, r with
  | [r0], h, r => simp only [List.all_cons, List.all_nil, Bool.and_true] at h; exact Ar.plain_rel h r
  | [], h, ⟨ys, hf, e⟩ => cases hf; exact ⟨[], .nil, e⟩
  | a :: b :: l, h, ⟨ys, hf, e⟩ => exact ⟨ys, ars_plain h hf, e⟩
def vOf : List Ar → V
  | [r] => .a (ofAr r)
  | rs => .tup (rs.map ofAr)
theorem f2_ofAr {ρ : Ren} : ∀ {rs : List Ar} {xs : List Value}, F2 (Ar.rel ρ.κ) rs xs → F2 (A.rel ρ) (rs.map ofAr) xs
  | _, _, .nil => .nil
  | _, _, .cons r rs => .cons (ofAr_rel r) (f2_ofAr rs)
theorem vOf_rel {ρ : Ren} {rs : List Ar} {x : Value} (h : resRel ρ.κ rs x) : (vOf rs).rel ρ x := by
  match rs, h with
  | [r], h => exact ofAr_rel h
  | [], ⟨ys, hf, e⟩ => exact ⟨ys, f2_ofAr hf, e⟩
  | a :: b :: l, ⟨ys, hf, e⟩ => exact ⟨ys, f2_ofAr hf, e⟩
def fokSm (dom : DomF) : Sm := fun args hp _ =>
  match agsOf hp args with
  | some (ags, bw, p0) => (match dom ags with
    | some (p, r) => (match r.all Ar.plain, bw.2 with
      | true, _ => some (p0 ++ p, vOf r, [], [])
      | false, false => some (p0 ++ p, vOf r, [], bw.1)
      | false, true => none)
    | none => none)
  | none => none
section
variable {P : Program} {G : GT} {gw : World → Prop}
theorem agOf_own {hp : Nat → Option Blk} {a : A} {g : Ag} {b : Lent} {p : List Prop} (h : agOf hp a = some (g, b, p)) : ∀ q, q ∈ b.1 → q.2.own = false ∧ ∃ k, hp q.1 = some k ∧ k.own = true := by
  intro q hq
  unfold agOf at h
  split at h
  · split at h
    · rename_i hd
      simp only [Option.some.injEq, Prod.mk.injEq] at h
      obtain ⟨_, rfl, _⟩ := h
      exact lendL_own (lend_ok hp) hd q hq
    · cases h
  · split at h
    · split at h
      · simp only [Option.some.injEq, Prod.mk.injEq] at h
        obtain ⟨_, rfl, _⟩ := h
        cases hq
      · cases h
    · cases h
  · simp only [Option.some.injEq, Prod.mk.injEq] at h
    obtain ⟨_, rfl, _⟩ := h
    cases hq
  · simp only [Option.some.injEq, Prod.mk.injEq] at h
    obtain ⟨_, rfl, _⟩ := h
    cases hq
  · split at h
    · rename_i hd
      simp only [Option.some.injEq, Prod.mk.injEq] at h
      obtain ⟨_, rfl, _⟩ := h
      exact (lend_ok hp).own hd q hq
    · cases h
theorem agsOf_own {hp : Nat → Option Blk} : ∀ {cs : List A} {ds : List Ag} {b : Lent} {p : List Prop}, agsOf hp cs = some (ds, b, p) → ∀ q, q ∈ b.1 → q.2.own = false ∧ ∃ k, hp q.1 = some k ∧ k.own = true := by
  intro cs
  induction cs with
  | nil => intro ds b p h q hq; simp [agsOf] at h; obtain ⟨_, rfl, _⟩ := h; cases hq
  | cons c cs ih =>
    intro ds b p h q hq
    simp only [agsOf] at h
    split at h
    · rename_i d b1 p1 ds2 b2 p2 h1 h2
      simp only [Option.some.injEq, Prod.mk.injEq] at h
      obtain ⟨_, rfl, _⟩ := h
      rcases List.mem_append.1 hq with hq | hq
      · exact agOf_own h1 q hq
      · exact ih h2 q hq
    · cases h
end
end Go.V
end

section
set_option linter.unusedVariables false
set_option linter.unusedSimpArgs false
namespace Go.V
open Go.RowKit (Below)
section
variable {P : Program} {G : GT} {gw : World → Prop}
theorem agOf_rel {ρ : Ren} {hp : Nat → Option Blk} {w : World} (hl : Lies ρ.κ w) (hcl : ∀ φ x, ρ.cl φ x → CloOK P gw ρ.κ φ x) (hhp : ∀ m k, hp m = some k → ∃ b, ρ m = some b ∧ b.1 < w.heap.size ∧ k.rel ρ b w) {κ : Still} (hle : ρ.κ.le κ)
    {a : A} {g : Ag} {b : Lent} {p : List Prop} (h : agOf hp a = some (g, b, p)) (hb : LentOK ρ w κ b) (hpp : All p) {x : Value} (r : a.rel ρ x) : g.rel P gw κ x := by
  unfold agOf at h
  split at h
  · rename_i cs
    split at h
    · rename_i ds b' p' hd
      simp only [Option.some.injEq, Prod.mk.injEq] at h
      obtain ⟨rfl, rfl, rfl⟩ := h
      obtain ⟨xs, hf, e⟩ := r
      exact ⟨xs, lendL_rel (lend_ok hp) hl hhp hle hd hb hpp hf, e⟩
    · cases h
  · rename_i m
    split at h
    · rename_i e cs hm
      split at h
      · rename_i ds hd
        simp only [Option.some.injEq, Prod.mk.injEq] at h
        obtain ⟨rfl, rfl, rfl⟩ := h
        have hκ := hb.2 rfl
        subst hκ
        obtain ⟨bb, hbb, rfl⟩ := r
        obtain ⟨b', hb', hlt, xs, hf, hh⟩ := hhp m _ hm
        simp only at hbb
        rw [hbb] at hb'; cases hb'
        have hf' := toDs_rel hd hf
        have hln := f2_len hf'
        refine ⟨⟨bb.1, 0, none⟩, rfl, rfl, fun j hj => ?_⟩
        obtain ⟨y, hy, hr⟩ := getD_rel hf' (k := j) (by omega)
        exact ⟨y, by rw [Nat.zero_add]; exact fullK_cell (by simp [World.cell?, hh, hy]), D.rel_mono hle _ _ hr⟩
      · cases h
    · cases h
  · simp only [Option.some.injEq, Prod.mk.injEq] at h
    obtain ⟨rfl, _, _⟩ := h
    obtain ⟨ad, h1, h2, h3⟩ := r
    exact ⟨ad, h1, h2, fun j hj => by obtain ⟨y, hy, hr⟩ := h3 j hj; exact ⟨y, hle _ _ _ hy, D.rel_mono hle _ _ hr⟩⟩
  · simp only [Option.some.injEq, Prod.mk.injEq] at h
    obtain ⟨rfl, _, _⟩ := h
    exact CloOK.mono hle (hcl _ _ r.1)
  · split at h
    · rename_i d b' p' hd
      simp only [Option.some.injEq, Prod.mk.injEq] at h
      obtain ⟨rfl, rfl, rfl⟩ := h
      exact (lend_ok hp).rel hl hhp hle hd hb hpp r
    · cases h
theorem agsOf_rel {ρ : Ren} {hp : Nat → Option Blk} {w : World} (hl : Lies ρ.κ w) (hcl : ∀ φ x, ρ.cl φ x → CloOK P gw ρ.κ φ x) (hhp : ∀ m k, hp m = some k → ∃ b, ρ m = some b ∧ b.1 < w.heap.size ∧ k.rel ρ b w) {κ : Still} (hle : ρ.κ.le κ) : ∀ {az : List A} {gs : List Ag} {b : Lent} {p : List Prop} {xs : List Value},
    agsOf hp az = some (gs, b, p) → LentOK ρ w κ b → All p → F2 (A.rel ρ) az xs → F2 (Ag.rel P gw κ) gs xs := by
  intro az
  induction az with
  | nil => intro ds b p xs h _ _ r; cases r; simp [agsOf] at h; obtain ⟨rfl, _⟩ := h; exact .nil
  | cons c cs ih =>
    intro ds b p xs h hb hp r
    cases r with
    | cons r0 rs =>
      simp only [agsOf] at h
      split at h
      · rename_i d b1 p1 ds2 b2 p2 h1 h2
        simp only [Option.some.injEq, Prod.mk.injEq] at h
        obtain ⟨rfl, rfl, rfl⟩ := h
        obtain ⟨hp1, hp2⟩ := All.append.1 hp
        exact .cons (agOf_rel hl hcl hhp hle h1 hb.join.1 hp1 r0) (ih h2 hb.join.2 hp2 rs)
      · cases h
theorem lies_back {κ κ' : Still} {w w' : World} (hl : Lies κ w) (hb : Below w.heap.size w w') : Lies κ w' := by
  intro b o v h
  obtain ⟨h1, h2⟩ := hl b o v h
  exact ⟨Nat.lt_of_lt_of_le h1 hb.size, by rw [World.cell?_of_block (w := w) (hb.block b h1)]; exact h2⟩
theorem agOf_fz {ρ ρ' : Ren} {hp : Nat → Option Blk} {w w' : World} (hl : Lies ρ.κ w) (hhp : ∀ m k, hp m = some k → ∃ b, ρ m = some b ∧ b.1 < w.heap.size ∧ k.rel ρ b w) {a : A} {g : Ag} {b : Lent} {p : List Prop} (h : agOf hp a = some (g, b, p)) (hlb : LentOK ρ w ρ'.κ b) (hpp : All p) :
    ∀ q, q ∈ b.1 → ∀ bb, ρ q.1 = some bb → ρ.le ρ' → (∀ o v, w.cell? ⟨bb.1, o, none⟩ = some v → ρ'.κ bb.1 o = some v) → q.2.rel ρ' bb w' := by
  intro q hq
  unfold agOf at h
  split at h
  · split at h
    · rename_i hd
      simp only [Option.some.injEq, Prod.mk.injEq] at h
      obtain ⟨_, rfl, rfl⟩ := h
      exact lendL_fz (lend_ok hp) hl hhp hd hlb hpp q hq
    · cases h
  · split at h
    · split at h
      · simp only [Option.some.injEq, Prod.mk.injEq] at h
        obtain ⟨_, rfl, _⟩ := h
        cases hq
      · cases h
    · cases h
  · simp only [Option.some.injEq, Prod.mk.injEq] at h
    obtain ⟨_, rfl, _⟩ := h
    cases hq
  · simp only [Option.some.injEq, Prod.mk.injEq] at h
    obtain ⟨_, rfl, _⟩ := h
    cases hq
  · split at h
    · rename_i hd
      simp only [Option.some.injEq, Prod.mk.injEq] at h
      obtain ⟨_, rfl, rfl⟩ := h
      exact (lend_ok hp).fz hl hhp hd hlb hpp q hq
    · cases h
theorem agsOf_fz' {ρ ρ' : Ren} {hp : Nat → Option Blk} {w w' : World} (hl : Lies ρ.κ w) (hhp : ∀ m k, hp m = some k → ∃ b, ρ m = some b ∧ b.1 < w.heap.size ∧ k.rel ρ b w) : ∀ {cs : List A} {ds : List Ag} {b : Lent} {p : List Prop}, agsOf hp cs = some (ds, b, p) → LentOK ρ w ρ'.κ b → All p →
    ∀ q, q ∈ b.1 → ∀ bb, ρ q.1 = some bb → ρ.le ρ' → (∀ o v, w.cell? ⟨bb.1, o, none⟩ = some v → ρ'.κ bb.1 o = some v) → q.2.rel ρ' bb w' := by
  intro cs
  induction cs with
  | nil => intro ds b p h _ _ q hq; simp [agsOf] at h; obtain ⟨_, rfl, _⟩ := h; cases hq
  | cons c cs ih =>
    intro ds b p h hlb hpp q hq
    simp only [agsOf] at h
    split at h
    · rename_i d b1 p1 ds2 b2 p2 h1 h2
      simp only [Option.some.injEq, Prod.mk.injEq] at h
      obtain ⟨_, rfl, rfl⟩ := h
      obtain ⟨hp1, hp2⟩ := All.append.1 hpp
      rcases List.mem_append.1 hq with hq | hq
      · exact agOf_fz hl hhp h1 hlb.join.1 hp1 q hq
      · exact ih h2 hlb.join.2 hp2 q hq
    · cases h
def isGo (fn : Func) : Bool := !(fn.name == "runtime.NumGoroutine") && !fn.body.isNone
theorem enter_of {f : FuncId} {fn : Func} (h : P.funcs[f]? = some fn) (hg : isGo fn = true) (args : Array Value) (w : World) : (callFunc f args).run P w = .ok (.enter f args) w := by
  unfold isGo at hg
  simp only [Bool.and_eq_true, Bool.not_eq_true'] at hg
  exact run_callFunc h hg.1 hg.2 args w
theorem fok_sum {f : FuncId} {fn : Func} {dom : DomF} (hf : P.funcs[f]? = some fn) (hg : isGo fn = true) (h : FOK P G gw f dom) : SumOK P G gw f (fokSm dom) where
  enter := enter_of hf hg
  frz := by
    intro args c hp p v N Z hs q hq
    unfold fokSm at hs
    split at hs
    · rename_i ags bw p0 hags
      split at hs
      · split at hs
        · simp only [Option.some.injEq, Prod.mk.injEq] at hs
          obtain ⟨_, _, _, rfl⟩ := hs
          cases hq
        · simp only [Option.some.injEq, Prod.mk.injEq] at hs
          obtain ⟨_, _, _, rfl⟩ := hs
          exact agsOf_own hags q hq
        · cases hs
      · cases hs
    · cases hs
  ok := by
    intro args c hp p v N Z hs hpr ρ xs w hgw hl hcl hgl hx hhp hfr
    unfold fokSm at hs
    split at hs
    · rename_i ags bw p0 hags
      split at hs
      · rename_i p1 r hd
        have hG : GIn G ρ.κ := by
          intro g n F e j hj
          obtain ⟨a, h1, h2, h3⟩ := hgl g n F e
          cases h1
          exact h3 j hj
        split at hs
        · rename_i hpl
          simp only [Option.some.injEq, Prod.mk.injEq] at hs
          obtain ⟨rfl, rfl, rfl, rfl⟩ := hs
          obtain ⟨hp0, hp1⟩ := All.append.1 hpr
          have hle := le_fullK hl
          have hrel := agsOf_rel hl hcl hhp hle hags (lentFull ρ w bw) hp0 hx
          refine (h ags _ _ hd hp1 (fullK w) w xs hgw (fullK_lies w) (hG.mono hle) hrel).mono ?_
          rintro e w' ⟨x, κ', rfl, hle', hl', hn, hr, hb⟩
          exact ⟨ρ, x, rfl, Ren.le_refl _, fun m hm _ => hm, vOf_rel (res_plain hpl hr), hb, fun i k hi => by simp at hi, fun i j b b' hi => by simp at hi, fun q hq => by (cases hq), fun b o v hv => .inl hv⟩
        · rename_i hbw
          simp only [Option.some.injEq, Prod.mk.injEq] at hs
          obtain ⟨rfl, rfl, rfl, rfl⟩ := hs
          obtain ⟨hp0, hp1⟩ := All.append.1 hpr
          -- what lies still, and what is laid to rest for it
          obtain ⟨κz, hκz⟩ : ∃ κz : Still, ∀ b o v, κz b o = some v ↔ ρ.κ b o = some v ∨ ((∃ q b0, q ∈ bw.1 ∧ ρ q.1 = some b0 ∧ b = b0.1) ∧ b < w.heap.size ∧ w.cell? ⟨b, o, none⟩ = some v) := by
            refine ⟨fun b o => @ite _ (∃ q b0, q ∈ bw.1 ∧ ρ q.1 = some b0 ∧ b = b0.1) (Classical.propDecidable _) (fullK w b o) (ρ.κ b o), fun b o v => ?_⟩
            dsimp only
            by_cases hz : ∃ q b0, q ∈ bw.1 ∧ ρ q.1 = some b0 ∧ b = b0.1
            · rw [if_pos hz]
              constructor
              · intro hv
                obtain ⟨g1, g2⟩ := fullK_lies w b o v hv
                exact .inr ⟨hz, g1, g2⟩
              · rintro (hv | ⟨_, _, hv⟩)
                · exact le_fullK hl b o v hv
                · exact fullK_cell hv
            · rw [if_neg hz]
              constructor
              · exact .inl
              · rintro (hv | ⟨hv, _⟩)
                · exact hv
                · exact absurd hv hz
          have hle : ρ.κ.le κz := fun b o v hv => (hκz b o v).2 (.inl hv)
          have hlz : Lies κz w := by
            intro b o v hv
            rcases (hκz b o v).1 hv with hv | ⟨_, h1, h2⟩
            · exact hl b o v hv
            · exact ⟨h1, h2⟩
          have hlent : LentOK ρ w κz bw := by
            refine ⟨fun q hq b hb o v hv => (hκz _ _ _).2 (.inr ⟨⟨q, b, hq, hb, rfl⟩, ?_, hv⟩), fun e => by rw [hbw] at e; cases e⟩
            obtain ⟨_, k, hk, _⟩ := agsOf_own hags q hq
            obtain ⟨b', hb', hlt, _⟩ := hhp _ _ hk
            rw [hb] at hb'; cases hb'; exact hlt
          have hrel := agsOf_rel hl hcl hhp hle hags hlent hp0 hx
          refine (h ags _ _ hd hp1 κz w xs hgw hlz (hG.mono hle) hrel).mono ?_
          rintro e w' ⟨x, κ', rfl, hle', hl', hn, hr, hb⟩
          have hup : ρ.κ.le κ' := fun b o v hv => hle' _ _ _ (hle _ _ _ hv)
          refine ⟨{ ρ with κ := κ' }, x, rfl, ⟨fun _ _ h => h, hup, rfl, rfl, rfl, rfl⟩, fun m hm _ => hm, vOf_rel (ρ := { ρ with κ := κ' }) hr, hb, fun i k hi => by simp at hi, fun i j b b' hi => by simp at hi, ?_, ?_⟩
          · intro q hq b hb0
            obtain ⟨hown, k, hk, _⟩ := agsOf_own hags q hq
            obtain ⟨b', hb', hlt, hkr⟩ := hhp _ _ hk
            rw [hb0] at hb'; cases hb'
            exact agsOf_fz' (ρ' := { ρ with κ := κ' }) hl hhp hags ⟨fun q hq b hb o v hv => hle' _ _ _ (hlent.1 q hq b hb o v hv), fun e => (by rw [hbw] at e; cases e)⟩ hp0 q hq b hb0 ⟨fun _ _ h => h, hup, rfl, rfl, rfl, rfl⟩ (fun o v hv => hle' _ _ _ (hlent.1 q hq b hb0 o v hv))
          · intro b o v hv
            rcases hn b o v hv with h1 | h1
            · rcases (hκz b o v).1 h1 with h2 | ⟨⟨q, b0, g1, g2, g3⟩, g4, g5⟩
              · exact .inl h2
              · obtain ⟨j1, j2⟩ := hl' b o v hv
                exact .inr ⟨.inr ⟨q, b0, g1, g2, g3⟩, j1, j2, fun i k b' hi => by simp at hi⟩
            · obtain ⟨j1, j2⟩ := hl' b o v hv
              exact .inr ⟨.inl h1, j1, j2, fun i k b' hi => by simp at hi⟩
        · cases hs
      · cases hs
    · cases hs
def AllS (P : Program) (G : GT) (gw : World → Prop) : List (Nat × Sm) → Prop
  | [] => True
  | (f, σ) :: l => SumOK P G gw f σ ∧ AllS P G gw l
def lookS : List (Nat × Sm) → FuncId → Option Sm
  | [], _ => none
  | (g, σ) :: l, f => match Nat.beq g f with | true => some σ | false => lookS l f
theorem lookS_ok : ∀ {l : List (Nat × Sm)}, AllS P G gw l → ∀ f σ, lookS l f = some σ → SumOK P G gw f σ := by
  intro l
  induction l with
  | nil => intro _ f σ h; simp [lookS] at h
  | cons x l ih =>
    intro hl f σ h
    obtain ⟨g, τ⟩ := x
    simp only [lookS] at h
    split at h
    · rename_i hb
      have := Nat.eq_of_beq_eq_true hb
      subst this
      simp only [Option.some.injEq] at h; subst h
      exact hl.1
    · exact ih hl.2 f σ h
end
section
variable (P : Program)
def finL (g : C → Option (D × List Prop)) : List C → Option (List D × List Prop)
  | [] => some ([], [])
  | c :: l => match g c, finL g l with | some (d, p), some (ds, q) => some (d :: ds, p ++ q) | _, _ => none
def finW (s : S) (g : C → Option (D × List Prop)) : C → Option (D × List Prop)
  | .gsl m len => (match s.hp m with
    | some k => (match rowOf k with | some (st, L, F) => some (.sl true len st F, [len ≤ L]) | none => none)
    | none => none)
  | .sl m 0 len cap => (match s.hp m with
    | some (.known e cs) => (match finL g cs, P.info? e with
      | some (ds, p), some i => (match Nat.ble (len * i.size) cs.length && Nat.ble len cap with
        | true => some (.sl true len i.size (fun i' j => ds.getD (i' * i.size + j) .nilp), p)
        | false => none)
      | _, _ => none)
    | _ => none)
  | x => (match toD x with | some d => some (d, []) | none => none)
def finC (s : S) : Nat → C → Option (D × List Prop)
  | 0 => fun x => (match toD x with | some d => some (d, []) | none => none)
  | n + 1 => finW P s (finC s n)
def finA (s : S) : A → Option (Ar × List Prop)
  | .c x => (match finC P s 3 x with | some (d, p) => some (.c d, p) | none => none)
  | .agg cs => (match finL (finC P s 3) cs with | some (ds, p) => some (.agg ds, p) | none => none)
def finAs (s : S) : List A → Option (List Ar × List Prop)
  | [] => some ([], [])
  | a :: l => match finA P s a, finAs s l with | some (r, p), some (rs, q) => some (r :: rs, p ++ q) | _, _ => none
def resA (s : S) : ResultVar → Option A
  | .tmp t => (match s.tm t with | some (.a y) => some y | _ => none)
  | .cell t ty => (match s.tm t, P.underlying ty, P.info? ty with
    | some (.a (.c (.ptr m off))), some d, some i => (match s.hp m with
      | some k => (match isAggD d with
        | true => (match readN k off i.size with | some cs => some (.agg cs) | none => none)
        | false => (match k.cell off with | some c => some (.c c) | none => none))
      | none => none)
    | _, _, _ => none)
def resL (s : S) : List ResultVar → Option (List A)
  | [] => some []
  | r :: l => match resA P s r, resL s l with | some a, some k => some (a :: k) | _, _ => none
end
def endK (κ0 : Still) (B : Nat) (w' : World) : Still := fun b o => if B ≤ b then (if b < w'.heap.size then w'.cell? ⟨b, o, none⟩ else none) else κ0 b o
section
variable {P : Program} {G : GT} {gw : World → Prop} {N : Nat} {w0 : World} {ρ : Ren} {s : S} {a : Act} {w : World}
theorem endK_le (h : Rel w0 N ρ s a w) : ρ.κ.le (endK ρ.k0 w0.heap.size w) := by
  intro b o v hv
  obtain ⟨h1, h2⟩ := h.im b o v hv
  unfold endK
  by_cases hb : w0.heap.size ≤ b
  · rw [if_pos hb, if_pos h1]; exact h2
  · rw [if_neg hb]; exact h.old b o v hv (by omega)
theorem endK_cell {κ0 : Still} {B b o : Nat} {v : Value} (hb : B ≤ b) (hlt : b < w.heap.size) (h : w.cell? ⟨b, o, none⟩ = some v) : endK κ0 B w b o = some v := by
  unfold endK; rw [if_pos hb, if_pos hlt]; exact h
theorem finL_rel {κ' : Still} {g : C → Option (D × List Prop)} (hg : ∀ c d p x, g c = some (d, p) → All p → c.rel ρ x → d.rel κ' x) : ∀ {cs : List C} {ds : List D} {p : List Prop} {xs : List Value}, finL g cs = some (ds, p) → All p → F2 (C.rel ρ) cs xs → F2 (D.rel κ') ds xs := by
  intro cs
  induction cs with
  | nil => intro ds p xs h _ r; cases r; simp [finL] at h; obtain ⟨rfl, _⟩ := h; exact .nil
  | cons c cs ih =>
    intro ds p xs h hp r
    cases r with
    | cons r0 rs =>
      simp only [finL] at h
      split at h
      · rename_i d p1 ds2 p2 h1 h2
        simp only [Option.some.injEq, Prod.mk.injEq] at h
        obtain ⟨rfl, rfl⟩ := h
        obtain ⟨hp1, hp2⟩ := All.append.1 hp
        exact .cons (hg _ _ _ _ h1 hp1 r0) (ih h2 hp2 rs)
      · cases h
theorem finW_rel (h : Rel w0 N ρ s a w) {g : C → Option (D × List Prop)} (hg : ∀ c d p x, g c = some (d, p) → All p → c.rel ρ x → d.rel (endK ρ.k0 w0.heap.size w) x) : ∀ c d p x, finW P s g c = some (d, p) → All p → c.rel ρ x → d.rel (endK ρ.k0 w0.heap.size w) x := by
  intro c d p x hc hp r
  have hle := endK_le h
  unfold finW at hc
  split at hc
  · rename_i m len
    split at hc
    · rename_i k hm
      split at hc
      · rename_i st L F hrow
        simp only [Option.some.injEq, Prod.mk.injEq] at hc
        obtain ⟨rfl, rfl⟩ := hc
        obtain ⟨bb, hbb, rfl⟩ := r
        obtain ⟨b', hb', hlt, hrel, hge⟩ := h.hp m k hm
        rw [hbb] at hb'; cases hb'
        have hcap := rowOf_cap hrel hrow
        have hL := hp.1
        refine .inr ⟨⟨bb.1, 0, none⟩, bb.2, rfl, by omega, fun _ => rfl, fun i j hi hj => ?_⟩
        obtain ⟨xs, hf, hlen, hcl⟩ := rCells_sound h.im hrel hrow (show i < L by omega) (n := 1) (o := j) (by omega)
        simp only [dCells] at hf
        cases hf with
        | cons r0 rs =>
          rename_i y ys
          have hcy := hcl 0 y (by simp)
          refine ⟨y, ?_, D.rel_mono hle _ _ ?_⟩
          · rw [Nat.zero_add]; exact endK_cell hge hlt (by simpa [Addr.add] using hcy)
          · have : ∀ (d : D), (toC d).rel ρ y → d.rel ρ.κ y := by intro d hd; cases d <;> exact hd
            exact this _ r0
      · cases hc
    · cases hc
  · rename_i m len cap
    split at hc
    · rename_i e cs hm
      split at hc
      · rename_i ds p' i hds hi
        split at hc
        · rename_i hok
          simp only [Bool.and_eq_true] at hok
          have h1 := Nat.le_of_ble_eq_true hok.1
          have h2 := Nat.le_of_ble_eq_true hok.2
          simp only [Option.some.injEq, Prod.mk.injEq] at hc
          obtain ⟨rfl, rfl⟩ := hc
          obtain ⟨bb, hbb, rfl⟩ := r
          obtain ⟨b', hb', hlt, ⟨xs, hf, hh⟩, hge⟩ := h.hp m _ hm
          rw [hbb] at hb'; cases hb'
          have hlc := f2_len hf
          have hf' := finL_rel hg hds hp hf
          refine .inr ⟨⟨bb.1, 0, none⟩, cap, rfl, h2, fun _ => rfl, fun i' j hi' hj => ?_⟩
          have hlt2 := el_lt hi' hj
          obtain ⟨y, hy, hr⟩ := getD_rel hf' (k := i' * i.size + j) (by omega)
          exact ⟨y, by rw [Nat.zero_add]; exact endK_cell hge hlt (by simp [World.cell?, hh, hy]), hr⟩
        · cases hc
      · cases hc
    · cases hc
  · split at hc
    · rename_i d' hd
      simp only [Option.some.injEq, Prod.mk.injEq] at hc
      obtain ⟨rfl, _⟩ := hc
      exact D.rel_mono hle _ _ (toD_rel hd r)
    · cases hc
theorem finC_rel (h : Rel w0 N ρ s a w) : ∀ n c d p x, finC P s n c = some (d, p) → All p → c.rel ρ x → d.rel (endK ρ.k0 w0.heap.size w) x := by
  intro n
  induction n with
  | zero =>
    intro c d p x hc hp r
    simp only [finC] at hc
    split at hc
    · rename_i d' hd
      simp only [Option.some.injEq, Prod.mk.injEq] at hc
      obtain ⟨rfl, _⟩ := hc
      exact D.rel_mono (endK_le h) _ _ (toD_rel hd r)
    · cases hc
  | succ n ih => exact finW_rel h ih
theorem finA_rel (h : Rel w0 N ρ s a w) {y : A} {r : Ar} {p : List Prop} (hr : finA P s y = some (r, p)) (hp : All p) {x : Value} (hy : y.rel ρ x) : r.rel (endK ρ.k0 w0.heap.size w) x := by
  unfold finA at hr
  split at hr
  · split at hr
    · rename_i d p' hd
      simp only [Option.some.injEq, Prod.mk.injEq] at hr
      obtain ⟨rfl, rfl⟩ := hr
      exact finC_rel h 3 _ _ _ _ hd hp hy
    · cases hr
  · split at hr
    · rename_i ds p' hd
      simp only [Option.some.injEq, Prod.mk.injEq] at hr
      obtain ⟨rfl, rfl⟩ := hr
      obtain ⟨xs, hf, e⟩ := hy
      exact ⟨xs, finL_rel (finC_rel h 3) hd hp hf, e⟩
    · cases hr
theorem finAs_rel (h : Rel w0 N ρ s a w) : ∀ {ys : List A} {rs : List Ar} {p : List Prop} {xs : List Value}, finAs P s ys = some (rs, p) → All p → F2 (A.rel ρ) ys xs → F2 (Ar.rel (endK ρ.k0 w0.heap.size w)) rs xs := by
  intro ys
  induction ys with
  | nil => intro rs p xs h _ r; cases r; simp [finAs] at h; obtain ⟨rfl, _⟩ := h; exact .nil
  | cons y ys ih =>
    intro rs p xs hr hp r
    cases r with
    | cons r0 rs0 =>
      simp only [finAs] at hr
      split at hr
      · rename_i d p1 ds2 p2 h1 h2
        simp only [Option.some.injEq, Prod.mk.injEq] at hr
        obtain ⟨rfl, rfl⟩ := hr
        obtain ⟨hp1, hp2⟩ := All.append.1 hp
        exact .cons (finA_rel h h1 hp1 r0) (ih h2 hp2 rs0)
      · cases hr
def resOne (a : Act) (r : ResultVar) : Sem Value :=
  match r with
  | .tmp t => pure (a.tmps.getD t undef)
  | .cell c t => do loadVar t (← asAddr (a.tmps.getD c undef))
theorem results_eq (fn : Func) (a : Act) : results fn a.tmps = (do let vs ← fn.results.mapM (resOne a); pure (if h : vs.size = 1 then vs[0] else .tuple vs)) := by
  unfold results resOne
  rfl
theorem resA_sound (h : View G ρ s a w) {r : ResultVar} {p : A} (e : resA P s r = some p) : ∃ x, (resOne a r).run P w = .ok x w ∧ p.rel ρ x := by
  unfold resOne
  cases r with
  | tmp t =>
    simp only [resA] at e
    split at e
    · rename_i y hy
      simp only [Option.some.injEq] at e; subst e
      exact ⟨_, rfl, h.tm t _ hy⟩
    · cases e
  | cell t ty =>
    simp only [resA] at e
    split at e
    · rename_i m off d i hx hd hi
      obtain ⟨b, hb, hv⟩ := h.tm t _ hx
      split at e
      · rename_i k hk
        obtain ⟨b', hb', hlt, hrel⟩ := h.hp m k hk
        simp only at hb
        rw [hb] at hb'; cases hb'
        split at e
        · rename_i hg
          split at e
          · rename_i cs hcs
            simp only [Option.some.injEq] at e; subst e
            obtain ⟨xs, hf, hl, hc⟩ := readN_sound hrel hcs
            refine ⟨.agg xs.toArray, ?_, xs, hf, rfl⟩
            simp only [hv, asAddr, Sem.run_bind, Sem.run_pure, Result.andThen_ok, run_loadVar_agg hd hi hg hl hc]
          · cases e
        · rename_i hg
          split at e
          · rename_i c hc
            simp only [Option.some.injEq] at e; subst e
            obtain ⟨z, hz, hcell⟩ := Blk.rel_cell hrel hc
            refine ⟨z, ?_, hz⟩
            simp only [hv, asAddr, Sem.run_bind, Sem.run_pure, Result.andThen_ok, run_loadVar_one hd hg hcell]
          · cases e
      · cases e
    · cases e
theorem resL_sound (h : View G ρ s a w) : ∀ {l : List ResultVar} {ps : List A}, resL P s l = some ps → ∃ xs : List Value, (l.mapM (resOne a)).run P w = .ok xs w ∧ F2 (A.rel ρ) ps xs := by
  intro l
  induction l with
  | nil => intro ps e; simp [resL] at e; subst e; exact ⟨[], rfl, .nil⟩
  | cons r l ih =>
    intro ps e
    simp only [resL] at e
    split at e
    · rename_i p k hp hk
      simp only [Option.some.injEq] at e; subst e
      obtain ⟨x, hx, hr⟩ := resA_sound h hp
      obtain ⟨xs, hxs, hrs⟩ := ih hk
      refine ⟨x :: xs, ?_, .cons hr hrs⟩
      rw [List.mapM_cons, Sem.run_bind, hx, Result.andThen_ok, Sem.run_bind, hxs]
      rfl
    · cases e
theorem results_sound (h : Rel w0 N ρ s a w) (hv : View G ρ s a w) {fn : Func} {ps : List A} (e : resL P s fn.results.toList = some ps) {rs : List Ar} {p : List Prop} (hf : finAs P s ps = some (rs, p)) (hp : All p) :
    ∃ x, (results fn a.tmps).run P w = .ok x w ∧ resRel (endK ρ.k0 w0.heap.size w) rs x := by
  obtain ⟨xs, hx, hr⟩ := resL_sound hv e
  have hr' := finAs_rel h hf hp hr
  rw [results_eq, Array.mapM_eq_mapM_toList]
  simp only [Sem.run_bind, Sem.run_map, hx, Result.andThen_ok, Sem.run_pure]
  cases hr' with
  | nil => exact ⟨_, rfl, [], .nil, by simp⟩
  | cons r0 rs0 =>
    cases rs0 with
    | nil => exact ⟨_, rfl, r0⟩
    | cons r1 rs1 => exact ⟨_, rfl, _, .cons r0 (.cons r1 rs1), by simp⟩
end
section
variable (P : Program) (G : GT) (sg : FuncId → Option Sm) (an : An)
def agA : Ag → A
  | .c d => .c (toC d)
  | .agg ds => .agg (ds.map toC)
  | .ptr n F => .c (.ip n F)
  | .clo φ => .c (.clo φ)
def args0 (ags : List Ag) : S := ⟨fun t => match ags[t]? with | some g => some (.a (agA g)) | none => none, fun _ => none, fun _ => none⟩
end
def dsEqv : List D → List D → Prop
  | [], [] => True
  | a :: l, b :: k => a.eqv b ∧ dsEqv l k
  | _, _ => False
theorem dsEqv_rel {κ : Still} : ∀ {ds ds' : List D} {xs : List Value}, dsEqv ds ds' → F2 (D.rel κ) ds xs → F2 (D.rel κ) ds' xs
  | [], [], _, _, r => r
  | a :: l, b :: k, _, h, .cons r rs => .cons (D.eqv_rel h.1 r) (dsEqv_rel h.2 rs)
  | [], _ :: _, _, h, _ => h.elim
  | _ :: _, [], _, h, _ => h.elim
def Ar.eqv : Ar → Ar → Prop
  | .c d, .c d' => d.eqv d'
  | .agg ds, .agg ds' => dsEqv ds ds'
  | _, _ => False
theorem Ar.eqv_rel {κ : Still} {d d' : Ar} {x : Value} (h : d.eqv d') (r : d.rel κ x) : d'.rel κ x := by
  cases d <;> cases d' <;> first | exact h.elim | skip
  · exact D.eqv_rel h r
  · obtain ⟨xs, hf, e⟩ := r; exact ⟨xs, dsEqv_rel h hf, e⟩
def rsEqv : List Ar → List Ar → Prop
  | [], [] => True
  | a :: l, b :: k => a.eqv b ∧ rsEqv l k
  | _, _ => False
theorem rsEqv_f2 {κ : Still} : ∀ {ds ds' : List Ar} {xs : List Value}, rsEqv ds ds' → F2 (Ar.rel κ) ds xs → F2 (Ar.rel κ) ds' xs
  | [], [], _, _, r => r
  | a :: l, b :: k, _, h, .cons r rs => .cons (Ar.eqv_rel h.1 r) (rsEqv_f2 h.2 rs)
  | [], _ :: _, _, h, _ => h.elim
  | _ :: _, [], _, h, _ => h.elim
theorem rsEqv_rel {κ : Still} {rs rs' : List Ar} {x : Value} (h : rsEqv rs rs') (r : resRel κ rs x) : resRel κ rs' x := by
  match rs, rs', h, r with
  | [], [], _, r => exact r
  | [a], [b], h, r => exact Ar.eqv_rel h.1 r
  | a :: b :: l, a' :: b' :: l', h, ⟨ys, hf, e⟩ => exact ⟨ys, rsEqv_f2 h hf, e⟩
section
variable {P : Program} {G : GT} {gw : World → Prop} {sg : FuncId → Option Sm} {an : An}
theorem agA_rel {ρ : Ren} (hcl : ∀ φ x, CloOK P gw ρ.κ φ x → ρ.cl φ x) {g : Ag} {x : Value} (h : g.rel P gw ρ.κ x) : (agA g).rel ρ x := by
  cases g with
  | c d => exact toC_rel h
  | agg ds => obtain ⟨xs, hf, e⟩ := h; exact ⟨xs, f2_toC hf, e⟩
  | ptr n F => exact h
  | clo φ => exact ⟨hcl φ x h, by obtain ⟨f, caps, e, _⟩ := h; exact ⟨f, caps, e⟩⟩
theorem agA_f2 {ρ : Ren} (hcl : ∀ φ x, CloOK P gw ρ.κ φ x → ρ.cl φ x) : ∀ {gs : List Ag} {xs : List Value}, F2 (Ag.rel P gw ρ.κ) gs xs → F2 (A.rel ρ) (gs.map agA) xs
  | _, _, .nil => .nil
  | _, _, .cons r rs => .cons (agA_rel hcl r) (agA_f2 hcl rs)
theorem taken {N : Nat} {w0 : World} {ρ : Ren} {s : S} {a : Act} {w : World} (h : Rel w0 N ρ s a w) {D : Nat} {Ds : List Nat} (hd : a.defers = (D :: Ds).map (fun D => ({ target := .collected D, args := #[] } : Deferred))) :
    ∃ w', (Instr.takeDeferred D).run P w = .ok [] w' ∧ Rel w0 N ρ s { a with defers := Ds.map (fun D => { target := .collected D, args := #[] }) } w' := by
  obtain ⟨Es, h1, h2, h3⟩ := h.df
  have hinj : ∀ {l k : List Nat}, l.map (fun D => ({ target := .collected D, args := #[] } : Deferred)) = k.map (fun D => { target := .collected D, args := #[] }) → l = k := by
    intro l
    induction l with
    | nil => intro k h; cases k with | nil => rfl | cons x k => cases h
    | cons y l ih =>
      intro k h
      cases k with
      | nil => cases h
      | cons x k =>
        simp only [List.map_cons, List.cons.injEq, Deferred.mk.injEq, Target.collected.injEq, and_true] at h
        rw [h.1, ih h.2]
  have he : Es = D :: Ds := hinj (h1.symm.trans hd)
  subst he
  obtain ⟨g1, g2⟩ := h3 D (List.mem_cons_self ..)
  have hlt : D < w.heap.size := (Array.getElem?_eq_some_iff.1 g2).1
  refine ⟨{ w with heap := w.heap.setIfInBounds D (.deferred none) }, ?_, ?_⟩
  · simp [Instr.takeDeferred, getObj, setObj, Sem.run, g2]
  have hother : ∀ i, i ≠ D → (w.heap.setIfInBounds D (.deferred none))[i]? = w.heap[i]? := fun i hi => by simp [Array.getElem?_setIfInBounds, Ne.symm hi]
  have hcell : ∀ b o v, w.cell? ⟨b, o, none⟩ = some v → World.cell? { w with heap := w.heap.setIfInBounds D (.deferred none) } ⟨b, o, none⟩ = some v := by
    intro b o v hv
    have hb : b ≠ D := by
      intro e
      subst e
      simp [World.cell?, g2] at hv
    rw [World.cell?_of_block (w := w) (by exact hother b hb)]; exact hv
  refine ⟨h.sz, h.bel.trans ⟨rfl, rfl, rfl, by simp, fun i hi => hother i (by omega)⟩, ⟨Ds, rfl, (List.nodup_cons.1 h2).2, fun E hE => ?_⟩, h.tm, h.dom, ?_, h.inj, ?_, h.dis, h.old, fun b o hb => ?_, fun k l r hk => ?_, fun d E hd2 ht => ?_⟩
  · have hne : E ≠ D := fun e => (List.nodup_cons.1 h2).1 (e ▸ hE)
    exact ⟨(h3 E (List.mem_cons_of_mem _ hE)).1, (hother E hne).trans (h3 E (List.mem_cons_of_mem _ hE)).2⟩
  · intro m k hm
    obtain ⟨b, i1, i2, i3, i4⟩ := h.hp m k hm
    refine ⟨b, i1, by simpa using i2, ?_, i4⟩
    cases hk : k.own with
    | false => exact Blk.rel_mono' (Ren.le_refl _) hk i3
    | true =>
      obtain ⟨xs, e, hx⟩ := Blk.own_cells hk i3
      have hne : b.1 ≠ D := by intro e; rw [e, g2] at hx; cases hx
      exact Blk.rel_mono (Ren.le_refl _) (hother _ hne) i3
  · intro b o v hv
    obtain ⟨j1, j2⟩ := h.im b o v hv
    exact ⟨by simpa using j1, hcell b o v j2⟩
  · obtain ⟨j1, j2⟩ := h.fx b o hb
    have hne : b ≠ D := by
      intro e
      have := h.dfx { target := .collected D, args := #[] } D (by rw [hd]; exact List.mem_cons_self ..) rfl
      rw [e, this] at hb; cases hb
    exact ⟨j1, (hother b hne).trans j2⟩
  · have j := h.lp k l r hk
    have hne : l ≠ D := by
      intro e
      rw [e, g2] at j
      have := lpObj_loop r (s.st k)
      obtain ⟨q, hq⟩ := this
      rw [hq] at j; cases j
    exact (hother l hne).trans j
  · exact h.dfx d E (by rw [hd]; exact List.mem_cons_of_mem _ hd2) ht
end
end Go.V
end

section
set_option linter.unusedVariables false
set_option linter.unusedSimpArgs false
namespace Go.V
open Go.RowKit (Below)
section
variable {ρ : Ren} {f : Nat → Option Obj}
theorem crel_fx : C.rel { ρ with fx := f } = C.rel ρ := by
  funext c x
  cases c <;> rfl
theorem arel_fx : A.rel { ρ with fx := f } = A.rel ρ := by
  funext c x
  cases c with
  | c y => exact congrFun (congrFun crel_fx y) x
  | agg cs => simp only [A.rel, crel_fx]
theorem vrel_fx : V.rel { ρ with fx := f } = V.rel ρ := by
  funext c x
  cases c with
  | a y => exact congrFun (congrFun arel_fx y) x
  | tup cs => simp only [V.rel, arel_fx]
theorem brel_fx {b : Nat × Nat} {w : World} {k : Blk} : Blk.rel { ρ with fx := f } b w k = Blk.rel ρ b w k := by
  cases k <;> simp only [Blk.rel, crel_fx]
end
def vOfA : List A → V
  | [a] => .a a
  | l => .tup l
def argsS (args : List A) (s : S) : S := { s with tm := fun t => match args[t]? with | some g => some (.a g) | none => none }
def callT (P : Program) (N : Nat) (ex : Code → (Nat → Bool) → Nat → S → T St3) (fn : Func) (args : List A) (wk : Nat → Bool) (c : Nat) (s : S) : T (V × Nat × S) :=
  match fn.body, keepT s c [] N && Nat.ble args.length fn.ntmps with
  | some code, true => (ex code wk c (argsS args s)).bind fun r => match r with
    | (.exit _, _, _) => .fail
    | (_, c', s') => (match resL P s' fn.results.toList with
      | some ps => .ret (vOfA ps, c', { s' with tm := s.tm })
      | none => .fail)
  | _, _ => .fail
section
variable {P : Program} {G : GT} {N : Nat} {gw : World → Prop} {w0 : World} {lv : Nat}
end
end Go.V
end

section
set_option linter.unusedVariables false
set_option linter.unusedSimpArgs false
namespace Go.V
open Go.RowKit (Below)
def Ren.lps (ρ : Ren) (f : Nat → Option Obj) (l : Nat → Option (Nat × Loop)) : Ren := { ρ with fx := f, lp := l }
section
variable {ρ : Ren} {f : Nat → Option Obj} {lp' : Nat → Option (Nat × Loop)} {w : World}
def C.noYl (k : Nat) : C → Bool
  | .yl j => !Nat.beq j k
  | _ => true
theorem crel_lps {k : Nat} (h : ∀ j p, j ≠ k → ρ.lp j = some p → lp' j = some p) {c : C} {x : Value} (hc : c.noYl k = true) (r : c.rel ρ x) : c.rel (ρ.lps f lp') x := by
  cases c with
  | yl j =>
    obtain ⟨l, q, e, hx⟩ := r
    refine ⟨l, q, h j _ ?_ e, hx⟩
    intro e; subst e
    simp [C.noYl] at hc
  | _ => exact r
theorem f2_lps {k : Nat} (h : ∀ j p, j ≠ k → ρ.lp j = some p → lp' j = some p) : ∀ {cs : List C} {xs : List Value}, cs.all (C.noYl k) = true → F2 (C.rel ρ) cs xs → F2 (C.rel (ρ.lps f lp')) cs xs
  | _, _, _, .nil => .nil
  | _, _, hc, .cons r rs => by
    simp only [List.all_cons, Bool.and_eq_true] at hc
    exact .cons (crel_lps h hc.1 r) (f2_lps h hc.2 rs)
theorem brel_lps {k : Nat} (h : ∀ j p, j ≠ k → ρ.lp j = some p → lp' j = some p) {b : Nat × Nat} {y : Blk} (hc : ∀ e cs, y = .known e cs → cs.all (C.noYl k) = true) (r : y.rel ρ b w) : y.rel (ρ.lps f lp') b w := by
  cases y with
  | known e cs => obtain ⟨xs, h1, h2⟩ := r; exact ⟨xs, f2_lps h (hc e cs rfl) h1, h2⟩
  | row => exact r
  | fz => exact r
  | fk => exact r
  | dead => trivial
theorem crel_more (h : ∀ j p, ρ.lp j = some p → lp' j = some p) {c : C} {x : Value} (r : c.rel ρ x) : c.rel (ρ.lps f lp') x := by
  cases c with
  | yl j => obtain ⟨l, q, e, hx⟩ := r; exact ⟨l, q, h j _ e, hx⟩
  | _ => exact r
theorem f2_more (h : ∀ j p, ρ.lp j = some p → lp' j = some p) : ∀ {cs : List C} {xs : List Value}, F2 (C.rel ρ) cs xs → F2 (C.rel (ρ.lps f lp')) cs xs
  | _, _, .nil => .nil
  | _, _, .cons r rs => .cons (crel_more h r) (f2_more h rs)
theorem arel_more (h : ∀ j p, ρ.lp j = some p → lp' j = some p) {y : A} {x : Value} (r : y.rel ρ x) : y.rel (ρ.lps f lp') x := by
  cases y with
  | c c => exact crel_more h r
  | agg cs => obtain ⟨xs, h1, h2⟩ := r; exact ⟨xs, f2_more h h1, h2⟩
theorem af2_more (h : ∀ j p, ρ.lp j = some p → lp' j = some p) : ∀ {cs : List A} {xs : List Value}, F2 (A.rel ρ) cs xs → F2 (A.rel (ρ.lps f lp')) cs xs
  | _, _, .nil => .nil
  | _, _, .cons r rs => .cons (arel_more h r) (af2_more h rs)
theorem vrel_more (h : ∀ j p, ρ.lp j = some p → lp' j = some p) {y : V} {x : Value} (r : y.rel ρ x) : y.rel (ρ.lps f lp') x := by
  cases y with
  | a y => exact arel_more h r
  | tup cs => obtain ⟨xs, h1, h2⟩ := r; exact ⟨xs, af2_more h h1, h2⟩
theorem brel_more (h : ∀ j p, ρ.lp j = some p → lp' j = some p) {b : Nat × Nat} {y : Blk} (r : y.rel ρ b w) : y.rel (ρ.lps f lp') b w := by
  cases y with
  | known e cs => obtain ⟨xs, h1, h2⟩ := r; exact ⟨xs, f2_more h h1, h2⟩
  | row => exact r
  | fz => exact r
  | fk => exact r
  | dead => trivial
end
def cleanH (k : Nat) (hp : Nat → Option Blk) : Nat → Option Blk := fun m => match hp m with
  | some (.known e cs) => (match cs.all (C.noYl k) with | true => some (.known e cs) | false => some .dead)
  | x => x
def cleanOk (k c : Nat) (hp : Nat → Option Blk) : Bool := (List.range c).all fun m => match hp m with
  | some (.known _ cs) => cs.all (C.noYl k)
  | _ => true
theorem cleanH_of {k m : Nat} {hp : Nat → Option Blk} {y : Blk} (h : cleanH k hp m = some y) : ∃ y0, hp m = some y0 ∧ (y = .dead ∨ (y = y0 ∧ ∀ e cs, y0 = .known e cs → cs.all (C.noYl k) = true)) := by
  unfold cleanH at h
  split at h
  · rename_i e cs hm
    split at h
    · rename_i hc
      cases h
      exact ⟨_, hm, .inr ⟨rfl, fun e' cs' he => by cases he; exact hc⟩⟩
    · cases h; exact ⟨_, hm, .inl rfl⟩
  · rename_i x hn
    exact ⟨y, h, .inr ⟨rfl, fun e cs he => absurd (h.trans (by rw [he])) (hn e cs)⟩⟩
theorem cleanH_none {k m : Nat} {hp : Nat → Option Blk} (h : cleanH k hp m = none) : hp m = none := by
  unfold cleanH at h
  split at h
  · split at h <;> cases h
  · exact h
theorem cleanH_low {k c m : Nat} {hp : Nat → Option Blk} (h : cleanOk k c hp = true) (hm : m < c) : cleanH k hp m = hp m := by
  have := List.all_eq_true.1 h m (List.mem_range.2 hm)
  unfold cleanH
  split
  · rename_i e cs he
    rw [he] at this
    simp only at this
    rw [this, he]
  · rfl
section
variable {N : Nat} {w0 : World} {ρ : Ren} {s : S} {a : Act} {w : World}
theorem Rel.begin (h : Rel w0 N ρ s a w) {k : Nat} (hk : ρ.lp k = none) (hs : s.st k = none) (r : Loop) :
    Rel w0 N (ρ.lps ρ.fx (upd ρ.lp k (some (w.heap.size + 1, r)))) s { a with defers := { target := .collected w.heap.size, args := #[] } :: a.defers } ((w.alloc (.deferred (some []))).alloc (lpObj r none)) := by
  obtain ⟨W, hW⟩ : ∃ W, W = (w.alloc (.deferred (some []))).alloc (lpObj r none) := ⟨_, rfl⟩
  rw [← hW]
  have hsz : W.heap.size = w.heap.size + 2 := by rw [hW, World.size_alloc, World.size_alloc]
  have hold : ∀ i, i < w.heap.size → W.heap[i]? = w.heap[i]? := by
    intro i hi
    rw [hW]
    exact (Below.heap_alloc _ _ _ (by rw [World.size_alloc]; omega)).trans (Below.heap_alloc _ _ _ hi)
  have hD : W.heap[w.heap.size]? = some (.deferred (some [])) := by rw [hW]; exact (Below.heap_alloc _ _ _ (by rw [World.size_alloc]; omega)).trans (World.alloc_heap_new w _)
  have hl : W.heap[w.heap.size + 1]? = some (lpObj r none) := by rw [hW]; have := World.alloc_heap_new (w.alloc (.deferred (some []))) (lpObj r none); rwa [World.size_alloc] at this
  have hstay : ∀ (i : Nat) (o : Obj), w.heap[i]? = some o → W.heap[i]? = some o := fun i o hi => (hold i (Array.getElem?_eq_some_iff.1 hi).1).trans hi
  have more : ∀ j p, ρ.lp j = some p → upd ρ.lp k (some (w.heap.size + 1, r)) j = some p := by
    intro j p hj
    have : j ≠ k := fun e => by rw [e, hk] at hj; cases hj
    rw [upd_ne _ _ this]; exact hj
  refine ⟨h.sz, h.bel.trans ⟨by rw [hW]; rfl, by rw [hW]; rfl, by rw [hW]; rfl, by omega, fun i hi => hold i (Nat.lt_of_lt_of_le hi h.bel.size)⟩, ?_, ?_, h.dom, ?_, h.inj, ?_, h.dis, h.old, ?_, ?_, ?_⟩
  · obtain ⟨Ds, e1, e2, e3⟩ := h.df
    refine ⟨w.heap.size :: Ds, by simp [e1], List.nodup_cons.2 ⟨fun hm => ?_, e2⟩, fun D hDm => ?_⟩
    · have := (Array.getElem?_eq_some_iff.1 (e3 _ hm).2).1
      omega
    · rcases List.mem_cons.1 hDm with rfl | hDm
      · exact ⟨h.bel.size, hD⟩
      · exact ⟨(e3 D hDm).1, hstay D _ (e3 D hDm).2⟩
  · intro t v ht
    obtain ⟨g1, g2⟩ := h.tm t v ht
    exact ⟨g1, vrel_more more g2⟩
  · intro m y hm
    obtain ⟨b, g1, g2, g3, g4⟩ := h.hp m y hm
    exact ⟨b, g1, by omega, brel_more more (Blk.rel_mono (Ren.le_refl _) (hold _ g2) g3), g4⟩
  · intro b o v hv
    obtain ⟨g1, g2⟩ := h.im b o v hv
    exact ⟨by omega, (World.cell?_of_block (w := w) (hold b g1)).trans g2⟩
  · intro b o hb
    obtain ⟨g1, g2⟩ := h.fx b o hb
    exact ⟨g1, hstay b o g2⟩
  · intro j l q hj
    by_cases e : j = k
    · subst e
      have hj : upd ρ.lp j (some (w.heap.size + 1, r)) j = some (l, q) := hj
      rw [upd_same] at hj
      cases hj
      rw [hs]; exact hl
    · have hj : upd ρ.lp k (some (w.heap.size + 1, r)) j = some (l, q) := hj
      rw [upd_ne _ _ e] at hj
      exact hstay l _ (h.lp j l q hj)
  · intro d D hd ht
    rcases List.mem_cons.1 hd with rfl | hd
    · simp only [Target.collected.injEq] at ht
      subst ht
      cases hf : ρ.fx w.heap.size with
      | none => exact hf
      | some o =>
        have := (Array.getElem?_eq_some_iff.1 (h.fx _ o hf).2).1
        omega
    · exact h.dfx d D hd ht
structure LpOK (w0 : World) (ρ : Ren) : Prop where
  fx : ∀ k l r, ρ.lp k = some (l, r) → ρ.fx l = none
  base : ∀ k l r, ρ.lp k = some (l, r) → w0.heap.size ≤ l
  inj : ∀ k j l r q, ρ.lp k = some (l, r) → ρ.lp j = some (l, q) → j = k
theorem Rel.turn (h : Rel w0 N ρ s a w) (hL : LpOK w0 ρ) {k l : Nat} {r : Loop} (hk : ρ.lp k = some (l, r)) (e : Option Ex) : Rel w0 N ρ { s with st := upd s.st k e } a (w.putObj l (lpObj r e)) := by
  have h0 := h.lp k l r hk
  have hlt : l < w.heap.size := (Array.getElem?_eq_some_iff.1 h0).1
  obtain ⟨q0, hq0⟩ := lpObj_loop r (s.st k)
  rw [hq0] at h0
  obtain ⟨W, hW⟩ : ∃ W, W = w.putObj l (lpObj r e) := ⟨_, rfl⟩
  rw [← hW]
  have hother : ∀ i, i ≠ l → W.heap[i]? = w.heap[i]? := fun i hi => by rw [hW]; exact World.putObj_heap_other hi
  have hsame : W.heap[l]? = some (lpObj r e) := by rw [hW]; exact World.putObj_heap_same hlt
  have hsz : W.heap.size = w.heap.size := by rw [hW]; simp [World.putObj]
  refine ⟨h.sz, h.bel.trans ⟨by rw [hW]; rfl, by rw [hW]; rfl, by rw [hW]; rfl, by omega, fun i hi => hother i (fun he => by have := hL.base k l r hk; omega)⟩, ?_, h.tm, h.dom, ?_, h.inj, ?_, h.dis, h.old, ?_, ?_, h.dfx⟩
  · obtain ⟨Ds, e1, e2, e3⟩ := h.df
    refine ⟨Ds, e1, e2, fun D hD => ⟨(e3 D hD).1, (hother D fun he => ?_).trans (e3 D hD).2⟩⟩
    have := (e3 D hD).2
    rw [he, h0] at this; cases this
  · intro m y hm
    obtain ⟨b, g1, g2, g3, g4⟩ := h.hp m y hm
    refine ⟨b, g1, by omega, ?_, g4⟩
    cases hy : y.own with
    | false => exact Blk.rel_mono' (Ren.le_refl _) hy g3
    | true =>
      obtain ⟨xs, t, hx⟩ := Blk.own_cells hy g3
      exact Blk.rel_mono (Ren.le_refl _) (hother _ fun he => by rw [he, h0] at hx; cases hx) g3
  · intro b o v hv
    obtain ⟨g1, g2⟩ := h.im b o v hv
    refine ⟨by omega, ?_⟩
    have hne : b ≠ l := by
      intro he; subst he
      simp [World.cell?, h0] at g2
    exact (World.cell?_of_block (w := w) (hother b hne)).trans g2
  · intro b o hb
    obtain ⟨g1, g2⟩ := h.fx b o hb
    refine ⟨g1, (hother b fun he => ?_).trans g2⟩
    rw [he, hL.fx k l r hk] at hb; cases hb
  · intro j l' q hj
    by_cases hjk : j = k
    · subst hjk
      rw [hk] at hj; cases hj
      show W.heap[l]? = some (lpObj r (upd s.st j e j))
      rw [upd_same]; exact hsame
    · have hne : l' ≠ l := by
        intro he; subst he
        exact hjk (hL.inj k j l' r q hk hj)
      show W.heap[l']? = some (lpObj q (upd s.st k e j))
      rw [upd_ne _ _ hjk]
      exact (hother l' hne).trans (h.lp j l' q hj)
end
end Go.V
end

section
set_option linter.unusedVariables false
set_option linter.unusedSimpArgs false
namespace Go.V
open Go.RowKit (Below)
section
variable {N : Nat} {w0 : World} {ρ : Ren} {s : S} {a : Act} {w : World}
theorem Rel.rest (h : Rel w0 N ρ s a w) : ∃ fx' : Nat → Option Obj,
    (∀ N1 (tm1 : Nat → Option V) (tmps1 : Array Value), tmps1.size = N1 → (∀ t v, tm1 t = some v → t < N1 ∧ v.rel ρ (tmps1.getD t undef)) → Rel w0 N1 { ρ with fx := fx' } { s with tm := tm1 } { tmps := tmps1, defers := [] } w) ∧
    (LpOK w0 ρ → LpOK w0 { ρ with fx := fx' }) ∧
    (∀ c ρ2 s2 N1 a2 w2, Rel w0 N1 ρ2 s2 a2 w2 → Ren.up c { ρ with fx := fx' } ρ2 → keepT s c [] N = true → Rel w0 N { ρ2 with fx := ρ.fx } { s2 with tm := s.tm } a w2 ∧ ρ.up c { ρ2 with fx := ρ.fx }) := by
  obtain ⟨fx', hfx⟩ : ∃ fx' : Nat → Option Obj, ∀ D, ((∃ d, d ∈ a.defers ∧ d.target = .collected D) → fx' D = some (.deferred (some []))) ∧ (¬ (∃ d, d ∈ a.defers ∧ d.target = .collected D) → fx' D = ρ.fx D) :=
    ⟨fun D => @ite _ (∃ d, d ∈ a.defers ∧ d.target = .collected D) (Classical.propDecidable _) (some (.deferred (some []))) (ρ.fx D), fun D => ⟨fun h => if_pos h, fun h => if_neg h⟩⟩
  have hmark : ∀ D, (∃ d, d ∈ a.defers ∧ d.target = .collected D) → w.heap[D]? = some (.deferred (some [])) := by
    rintro D ⟨d, hd, ht⟩
    obtain ⟨Ds, e, _, h3⟩ := h.df
    rw [e] at hd
    obtain ⟨D', hD', rfl⟩ := List.mem_map.1 hd
    simp only [Target.collected.injEq] at ht
    subst ht
    exact (h3 D' hD').2
  refine ⟨fx', ?_, ?_, ?_⟩
  · intro N1 tm1 tmps1 hsz htm
    refine ⟨hsz, h.bel, ⟨[], rfl, List.nodup_nil, fun D hD => by cases hD⟩, ?_, h.dom, ?_, h.inj, h.im, h.dis, h.old, ?_, h.lp, fun d D hd => by cases hd⟩
    · intro t v ht
      rw [vrel_fx]
      exact htm t v ht
    · intro m k hm
      obtain ⟨b, h1, h2, h3, h4⟩ := h.hp m k hm
      exact ⟨b, h1, h2, by rw [brel_fx]; exact h3, h4⟩
    · intro b o hb2
      have hb2 : fx' b = some o := hb2
      by_cases hm : ∃ d, d ∈ a.defers ∧ d.target = .collected b
      · rw [show fx' b = _ from (hfx b).1 hm] at hb2
        cases hb2
        exact ⟨rfl, hmark b hm⟩
      · rw [show fx' b = _ from (hfx b).2 hm] at hb2
        exact h.fx b o hb2
  · intro hL
    refine ⟨fun k l r hk => ?_, hL.base, hL.inj⟩
    show fx' l = none
    have hno : ¬ ∃ d, d ∈ a.defers ∧ d.target = .collected l := by
      intro hm
      have h1 := hmark l hm
      obtain ⟨q, hq⟩ := lpObj_loop r (s.st k)
      have h2 := h.lp k l r hk
      rw [h1, hq] at h2
      cases h2
    rw [(hfx l).2 hno]
    exact hL.fx k l r hk
  · intro c ρ2 s2 N1 a2 w2 h2 hle hck
    refine ⟨?_, ⟨hle.κ, hle.cl, hle.k0, rfl, hle.lp, hle.nm⟩⟩
    refine ⟨h.sz, h2.bel, ?_, ?_, h2.dom, ?_, h2.inj, h2.im, h2.dis, h2.old, ?_, h2.lp, h.dfx⟩
    · obtain ⟨Es, e1, e2, e3⟩ := h.df
      refine ⟨Es, e1, e2, fun D hD => ⟨(e3 D hD).1, ?_⟩⟩
      refine (h2.fx D (.deferred (some [])) ?_).2
      rw [hle.fx]
      exact (hfx D).1 ⟨_, by rw [e1]; exact List.mem_map_of_mem hD, rfl⟩
    · intro t v ht
      obtain ⟨g1, g2⟩ := h.tm t v ht
      refine ⟨g1, ?_⟩
      rw [vrel_fx]
      exact V.rel_ren hle.κ ⟨hle.cl, fun k p e => by rw [hle.lp]; exact e⟩ (fun m hm b e => hle.nm m b (keepT_at hck g1 rfl ht m hm) e) g2
    · intro m k hm
      obtain ⟨b, g1, g2, g3, g4⟩ := h2.hp m k hm
      exact ⟨b, g1, g2, by rw [brel_fx]; exact g3, g4⟩
    · intro b o hb2
      have hb2 : ρ.fx b = some o := hb2
      by_cases hm : ∃ d, d ∈ a.defers ∧ d.target = .collected b
      · obtain ⟨d, hd2, ht⟩ := hm
        rw [show ρ.fx b = none from h.dfx d b hd2 ht] at hb2
        cases hb2
      · refine h2.fx b o ?_
        rw [hle.fx]
        exact ((hfx b).2 hm).trans hb2
end
end Go.V
end

section
set_option linter.unusedVariables false
set_option linter.unusedSimpArgs false
namespace Go.V
open Go.RowKit (Below)
def setPs (tm : Nat → Option V) : List Nat → List A → Nat → Option V
  | p :: ps, x :: xs => setPs (upd tm p (some (.a x))) ps xs
  | _, _ => tm
theorem setPs_rel {ρ : Ren} {N0 : Nat} : ∀ {ps : List Nat} {args : List A} {xs : List Value} {tm : Nat → Option V} {tmps : Array Value}, F2 (A.rel ρ) args xs → tmps.size = N0 → (∀ p, p ∈ ps → p < N0) →
    (∀ t v, tm t = some v → t < N0 ∧ v.rel ρ (tmps.getD t undef)) →
    ((ps.zip xs).foldl (fun tmps (q : Nat × Value) => tmps.setIfInBounds q.1 q.2) tmps).size = N0 ∧
    ∀ t v, setPs tm ps args t = some v → t < N0 ∧ v.rel ρ (((ps.zip xs).foldl (fun tmps (q : Nat × Value) => tmps.setIfInBounds q.1 q.2) tmps).getD t undef)
  | [], _, _, tm, tmps, _, hs, _, ht => by simp only [List.zip_nil_left, List.foldl_nil, setPs]; exact ⟨hs, ht⟩
  | p :: ps, _, _, tm, tmps, .nil, hs, _, ht => by simp only [List.zip_nil_right, List.foldl_nil, setPs]; exact ⟨hs, ht⟩
  | p :: ps, _, _, tm, tmps, .cons (a := x) (b := y) r rs, hs, hp, ht => by
    simp only [List.zip_cons_cons, List.foldl_cons, setPs]
    refine setPs_rel rs (by simpa using hs) (fun q hq => hp q (List.mem_cons_of_mem _ hq)) ?_
    intro t v hv
    have hpl := hp p (List.mem_cons_self ..)
    by_cases e : t = p
    · subst e
      rw [upd_same] at hv; cases hv
      refine ⟨hpl, ?_⟩
      rw [Array.getD_eq_getD_getElem?, Array.getElem?_setIfInBounds]
      simp [hs, hpl]
      exact r
    · rw [upd_ne _ _ e] at hv
      obtain ⟨g1, g2⟩ := ht t v hv
      refine ⟨g1, ?_⟩
      rw [Array.getD_eq_getD_getElem?, Array.getElem?_setIfInBounds, if_neg (Ne.symm e), ← Array.getD_eq_getD_getElem?]
      exact g2
abbrev Run := Code → (Nat → Bool) → Nat → S → T St3
def roundT (k : Nat) (exB : Run) (ps : List Nat) (x y : Code) (tm0 : Nat → Option V) (args : List A) (wk : Nat → Bool) (c : Nat) (s : S) : T (Bool × Nat × S) :=
  match s.st k with
  | none => (exB x wk c { s with tm := setPs tm0 ps args }).bind fun r => match r with
    | (.normal, c1, s1) => (match s1.st k with
      | none => (exB y wk c1 { s1 with st := upd s1.st k (some .normal) }).bind fun r => match r with
        | (.normal, c2, s2) => .ret (true, c2, { s2 with tm := s.tm, st := upd s2.st k none })
        | (.exit i, c2, s2) => .ret (false, c2, { s2 with tm := s.tm, st := upd s2.st k (some (.exit i)) })
        | (.ret, c2, s2) => .ret (false, c2, { s2 with tm := s.tm, st := upd s2.st k (some .ret) })
      | _ => .fail)
    | _ => .fail
  | _ => .fail
end Go.V
end

section
set_option linter.unusedVariables false
set_option linter.unusedSimpArgs false
namespace Go.V
open Go.RowKit (Below)
section
variable {P : Program} {G : GT} {N N0 : Nat} {gw : World → Prop} {w0 : World} {lv : Nat}
theorem LpOK.up {c : Nat} {ρ ρ' : Ren} (h : LpOK w0 ρ) (hle : ρ.up c ρ') : LpOK w0 ρ' where
  fx := fun k l r hk => by rw [hle.fx]; exact h.fx k l r (by rw [← hle.lp]; exact hk)
  base := fun k l r hk => h.base k l r (by rw [← hle.lp]; exact hk)
  inj := fun k j l r q hk hj => h.inj k j l r q (by rw [← hle.lp]; exact hk) (by rw [← hle.lp]; exact hj)
theorem Amb.fxs {ρ : Ren} {f : Nat → Option Obj} (h : Amb P G gw ρ) : Amb P G gw { ρ with fx := f } := ⟨fun g n F e => by rw [crel_fx]; exact h.gl g n F e, h.cl⟩
structure KOK (P : Program) (G : GT) (gw : World → Prop) (w0 : World) (lv cz : Nat) (K : Ren → Prop) : Prop where
  amb : ∀ {ρ}, K ρ → Amb P G gw ρ
  lpk : ∀ {ρ}, K ρ → LpOK w0 ρ
  lvl : ∀ {ρ}, K ρ → ∀ k l r, ρ.lp k = some (l, r) → k < lv
  up : ∀ {ρ ρ'}, K ρ → ρ.up cz ρ' → K ρ'
  fxs : ∀ {ρ : Ren} fx', K ρ → LpOK w0 { ρ with fx := fx' } → K { ρ with fx := fx' }
  more : ∀ {ρ : Ren} k p, K ρ → ρ.lp k = none → k < lv → LpOK w0 (ρ.lps ρ.fx (upd ρ.lp k (some p))) → K (ρ.lps ρ.fx (upd ρ.lp k (some p)))
theorem round_sound {k l cz : Nat} {r : Loop} {exB : Run} {ps : List Nat} {x y : Code} {tm0 : Nat → Option V} {K : Ren → Prop} (hK : KOK P G gw w0 lv cz K)
    (E : ∀ (code : Code) {wk : Nat → Bool} {c : Nat} {s : S} {R : St3 → Prop} {ρ : Ren} {a : Act} {w : World}, Rel w0 N0 ρ s a w → K ρ → cz ≤ c → (exB code wk c s).wp R → code.wpIn (Fd (some l)) 0 P (CP c w0 N0 ρ R) a w)
    (EK : ∀ (code : Code) wk c s, (exB code wk c s).all fun r => c ≤ r.2.1)
    (hps : ∀ p, p ∈ ps → p < N0) (hrp : r.params.toList = ps) (hrx : r.assign = x) (hry : r.body = y) (hrt : r.tmps.size = N0)
    {args : List A} {xs : List Value} {wk : Nat → Bool} {c : Nat} {s : S} {R : Bool × Nat × S → Prop} {ρ : Ren} {a : Act} {w : World}
    (hrel : Rel w0 N ρ s a w) (hKρ : K ρ) (hcz : cz ≤ c) (hk : ρ.lp k = some (l, r)) (hck : keepT s c [] N = true)
    (htm : ∀ t v, tm0 t = some v → t < N0 ∧ v.rel ρ (r.tmps.getD t undef)) (hx : F2 (A.rel ρ) args xs) (hlen : args.length = ps.length)
    (h : (roundT k exB ps x y tm0 args wk c s).wp R) :
    YieldAt (Fd none) 0 P l xs.toArray w fun e w' => ∃ b c' s' ρ', e = .returned (.bool b) ∧ R (b, c', s') ∧ s'.tm = s.tm ∧ Rel w0 N ρ' s' a w' ∧ ρ.up c ρ' := by
  unfold roundT at h
  split at h
  · rename_i hst
    obtain ⟨fx', hrest, hLx, hback⟩ := hrel.rest
    have hL := hK.lpk hKρ
    have hKx := hK.fxs fx' hKρ (hLx hL)
    have h0 := hrel.lp k l r hk
    rw [hst] at h0
    have hxl := f2_len hx
    have hsz : xs.toArray.size = r.params.size := by
      have : r.params.size = ps.length := by rw [← hrp]; simp
      simp; omega
    refine ⟨_, _, _, _, run_yield h0 hsz, ?_⟩
    refine roundIn_of_wpIn trivial ?_
    simp only [hrx, hry]
    have hset := setPs_rel (ps := ps) (args := args) (xs := xs) (tm := tm0) (tmps := r.tmps) hx hrt hps htm
    have hfold : (r.params.zip xs.toArray).foldl (fun tmps (t, a) => tmps.setIfInBounds t a) r.tmps = (ps.zip xs).foldl (fun tmps (q : Nat × Value) => tmps.setIfInBounds q.1 q.2) r.tmps := by
      rw [← Array.foldl_toList, Array.toList_zip, hrp]
    rw [hfold]
    have hrel1 := hrest N0 _ _ hset.1 hset.2
    have h1 := T.wp_all (T.wp_bind h) (EK x _ _ _)
    refine wpIn_mono (E x hrel1 hKx hcz h1) ?_
    intro e a1 w1 hc
    cases e <;> simp only [CP, Exit.then] at hc ⊢
    case exit i => obtain ⟨c1, s1, ρ1, ⟨hr, _⟩, _⟩ := hc; exact hr.elim
    case ret => obtain ⟨c1, s1, ρ1, ⟨hr, _⟩, _⟩ := hc; exact hr.elim
    obtain ⟨c1, s1, ρ1, ⟨hr, hc1⟩, hrel1', hle1⟩ := hc
    have hL1 : LpOK w0 ρ1 := (hLx hL).up hle1
    have hk1 : ρ1.lp k = some (l, r) := by rw [hle1.lp]; exact hk
    split at hr
    · rename_i hst1
      have hb := hrel1'.lp k l r hk1
      rw [hst1] at hb
      refine ⟨_, run_beginRound hb rfl, ?_⟩
      have hrel2 := hrel1'.turn hL1 hk1 (some .normal)
      have h2 := T.wp_all (T.wp_bind hr) (EK y _ _ _)
      have hK1 := hK.up hKx (hle1.less hcz)
      refine wpIn_mono (E y hrel2 hK1 (Nat.le_trans hcz hc1) h2) ?_
      have fin : ∀ (e : Option Ex) (j : Option Code) (c2 : Nat) (s2 : S) (ρ2 : Ren) (a2 : Act) (w2 : World), (∀ q : Loop, (∃ z, lpObj r z = .loop q) → Obj.loop { q with state := if j.isNone then .ready else .done, pending := j } = lpObj r e) →
          Rel w0 N0 ρ2 s2 a2 w2 → Ren.up c1 ρ1 ρ2 → R (j.isNone, c2, { s2 with tm := s.tm, st := upd s2.st k e }) →
          ∃ v w', (Instr.endRound l j).run P w2 = .ok v w' ∧ ∃ b c' s' ρ', (Ending.returned v) = .returned (.bool b) ∧ R (b, c', s') ∧ s'.tm = s.tm ∧ Rel w0 N ρ' s' a w' ∧ ρ.up c ρ' := by
        intro e j c2 s2 ρ2 a2 w2 hq hrel3 hle2 hR
        have hk2 : ρ2.lp k = some (l, r) := by rw [hle2.lp]; exact hk1
        have h3 := hrel3.lp k l r hk2
        obtain ⟨q, hq0⟩ := lpObj_loop r (s2.st k)
        rw [hq0] at h3
        have hrun := run_endRound (P := P) j h3
        rw [hq q ⟨_, hq0⟩] at hrun
        have hrel4 := hrel3.turn (hL1.up hle2) hk2 e
        obtain ⟨g1, g2⟩ := hback c _ _ _ _ _ hrel4 (Ren.up_trans hle1 (hle2.less hc1)) hck
        exact ⟨_, _, hrun, _, c2, _, _, rfl, hR, rfl, g1, g2⟩
      intro e a2 w2 hc2
      cases e <;> simp only [CP, roundPost] at hc2 ⊢
      case normal =>
        obtain ⟨c2, s2, ρ2, ⟨hr2, _⟩, hrel3, hle2⟩ := hc2
        refine fin none none c2 s2 ρ2 a2 w2 ?_ hrel3 hle2 hr2
        rintro q ⟨z, hz⟩
        cases z with
        | none => cases hz; rfl
        | some z => cases z <;> (cases hz; rfl)
      case exit i =>
        obtain ⟨c2, s2, ρ2, ⟨hr2, _⟩, hrel3, hle2⟩ := hc2
        refine fin (some (.exit i)) (some (.exit i)) c2 s2 ρ2 a2 w2 ?_ hrel3 hle2 hr2
        rintro q ⟨z, hz⟩
        cases z with
        | none => cases hz; rfl
        | some z => cases z <;> (cases hz; rfl)
      case ret =>
        obtain ⟨c2, s2, ρ2, ⟨hr2, _⟩, hrel3, hle2⟩ := hc2
        refine fin (some .ret) (some .ret) c2 s2 ρ2 a2 w2 ?_ hrel3 hle2 hr2
        rintro q ⟨z, hz⟩
        cases z with
        | none => cases hz; rfl
        | some z => cases z <;> (cases hz; rfl)
    · exact hr.elim
  · exact h.elim
end
end Go.V
end

section
set_option linter.unusedVariables false
set_option linter.unusedSimpArgs false
namespace Go.V
open Go.RowKit (Below)
section
variable {P : Program} {G : GT} {N : Nat} {gw : World → Prop} {w0 : World}
theorem callK_sound {K : Ren → Prop} {ex : Run} {f : FuncId} {fn : Func} (hf : P.funcs[f]? = some fn)
    {args : List A} {xs : List Value} {wk : Nat → Bool} {c : Nat} {s : S} {R : V × Nat × S → Prop}
    (E : ∀ (code : Code), fn.body = some code → ∀ {s : S} {R : St3 → Prop} {ρ : Ren} {a : Act} {w : World}, Rel w0 fn.ntmps ρ s a w → K ρ → (ex code wk c s).wp R → code.wpIn (Fd none) 0 P (CP c w0 fn.ntmps ρ R) a w)
    {ρ : Ren} {a : Act} {w : World} (hrel : Rel w0 N ρ s a w) (hgl : Amb P G gw ρ) (hK : ∀ fx', (LpOK w0 ρ → LpOK w0 { ρ with fx := fx' }) → K { ρ with fx := fx' }) (hx : F2 (A.rel ρ) args xs) (h : (callT P N ex fn args wk c s).wp R) :
    CallsIn (Fd none) 0 P f xs.toArray w fun e w' => ∃ x v c' s' ρ', e = .returned x ∧ v.rel ρ' x ∧ R (v, c', s') ∧ s'.tm = s.tm ∧ Rel w0 N ρ' s' a w' ∧ ρ.up c ρ' := by
  unfold callT at h
  split at h
  · rename_i code hb hck
    simp only [Bool.and_eq_true] at hck
    have hlen := Nat.le_of_ble_eq_true hck.2
    have hxl := f2_len hx
    obtain ⟨fx', hrest, hLx, hback⟩ := hrel.rest
    have hrel1 := hrest fn.ntmps (argsS args s).tm (xs.toArray ++ Array.replicate (fn.ntmps - xs.toArray.size) undef) (by simp; omega) (by
      intro t v ht
      simp only [argsS] at ht
      split at ht
      · rename_i g hg
        simp only [Option.some.injEq] at ht; subst ht
        obtain ⟨x, hxt, hr⟩ := f2_get hx hg
        have hlt : t < xs.length := (List.getElem?_eq_some_iff.1 hxt).1
        refine ⟨by omega, ?_⟩
        rw [Array.getD_eq_getD_getElem?, Array.getElem?_append, if_pos (by simpa using hlt)]
        simp only [List.getElem?_toArray, hxt, Option.getD_some]
        exact hr
      · cases ht)
    have hamb1 : Amb P G gw { ρ with fx := fx' } := hgl.fxs
    refine callsIn_of_wp_marks (F := Fd none) hf hb trivial ?_
    refine wpIn_mono (E code hb hrel1 (hK fx' hLx) (T.wp_bind h)) ?_
    have fin : ∀ (c' : Nat) (s' : S) (ρ' : Ren), Ren.up c { ρ with fx := fx' } ρ' → (match resL P s' fn.results.toList with | some ps => T.ret (vOfA ps, c', ({ s' with tm := s.tm } : S)) | none => T.fail).wp R →
        ∀ (Ds : List Nat) (a' : Act) (w' : World), a'.defers = Ds.map (fun D => { target := .collected D, args := #[] }) → Rel w0 fn.ntmps ρ' s' a' w' →
        LeavesInM (Fd none) 0 P fn a'.tmps (fun e w' => ∃ x v c' s' ρ', e = .returned x ∧ v.rel ρ' x ∧ R (v, c', s') ∧ s'.tm = s.tm ∧ Rel w0 N ρ' s' a w' ∧ ρ.up c ρ') a'.defers .returning w' := by
      intro c' s' ρ' hle hr Ds
      induction Ds with
      | nil =>
        intro a' w' hd hrel'
        rw [hd]
        split at hr
        · rename_i ps hps
          have hview : View G ρ' s' a' w' := ⟨fun t v ht => (hrel'.tm t v ht).2, fun m k hk => by obtain ⟨b, h1, h2, h3, _⟩ := hrel'.hp m k hk; exact ⟨b, h1, h2, h3⟩, hrel'.im, (hamb1.up hle).gl⟩
          obtain ⟨ys, hy, hyr⟩ := resL_sound hview hps
          have hres : ∃ x, (results fn a'.tmps).run P w' = .ok x w' ∧ (vOfA ps).rel ρ' x := by
            rw [results_eq, Array.mapM_eq_mapM_toList]
            simp only [Sem.run_bind, Sem.run_map, hy, Result.andThen_ok, Sem.run_pure]
            cases hyr with
            | nil => exact ⟨_, rfl, [], .nil, by simp⟩
            | cons r0 rs0 =>
              cases rs0 with
              | nil => exact ⟨_, rfl, r0⟩
              | cons r1 rs1 => exact ⟨_, rfl, _, .cons r0 (.cons r1 rs1), by simp⟩
          obtain ⟨x, hx1, hx2⟩ := hres
          obtain ⟨g1, g2⟩ := hback c _ _ _ _ _ hrel' hle hck.1
          exact ⟨x, hx1, x, vOfA ps, c', { s' with tm := s.tm }, { ρ' with fx := ρ.fx }, rfl, by rw [vrel_fx]; exact hx2, hr, rfl, g1, g2⟩
        · exact hr.elim
      | cons D Ds ih =>
        intro a' w' hd hrel'
        rw [hd]
        obtain ⟨w2, htake, hrel2⟩ := taken (P := P) hrel' hd
        refine ⟨by simp, .inl ⟨D, w2, rfl, htake, ?_⟩⟩
        exact ih { a' with defers := Ds.map (fun D => { target := .collected D, args := #[] }) } w2 rfl hrel2
    intro e a' w' hc
    cases e <;> simp only [CP, bodyPostM] at hc ⊢
    case normal =>
      obtain ⟨c', s', ρ', hr, hrel', hle⟩ := hc
      obtain ⟨Ds, hDs, _⟩ := hrel'.df
      exact fin c' s' ρ' hle hr Ds a' w' hDs hrel'
    case ret =>
      obtain ⟨c', s', ρ', hr, hrel', hle⟩ := hc
      obtain ⟨Ds, hDs, _⟩ := hrel'.df
      exact fin c' s' ρ' hle hr Ds a' w' hDs hrel'
    case exit id => obtain ⟨c', s', ρ', hr, hrel', hle⟩ := hc; exact hr.elim
  · exact h.elim
end
end Go.V
end

section
set_option linter.unusedVariables false
set_option linter.unusedSimpArgs false
namespace Go.V
open Go.RowKit (Below)
abbrev YH := List A → (Nat → Bool) → Nat → S → T (Bool × Nat × S)
def yhOf (k : Nat) (exB : Run) (ps : Array Tmp) (x y : Code) (tm0 : Nat → Option V) : YH := fun args wk c s =>
  match Nat.beq args.length ps.size with
  | true => roundT k exB ps.toList x y tm0 args wk c s
  | false => .fail
def rfArgs : V → Option (FuncId × List A × List A)
  | .a (.c (.fn gf caps)) => some (gf, [], caps.map fun q => .c (.ptr q.1 q.2))
  | .a (.c (.im (.fv gf n F))) => some (gf, [.agg ((List.range n).map fun j => toC (F j))], [])
  | _ => none
theorem f2_range {ρ : Ren} {F : Nat → D} : ∀ (n : Nat) {xs : List Value}, xs.length = n → (∀ j, j < n → ∃ y, xs[j]? = some y ∧ (F j).rel ρ.κ y) → F2 (C.rel ρ) ((List.range n).map fun j => toC (F j)) xs := by
  intro n
  induction n generalizing F with
  | zero => intro xs h _; obtain rfl := List.length_eq_zero_iff.1 h; exact .nil
  | succ n ih =>
    intro xs h hf
    cases xs with
    | nil => simp at h
    | cons x xs =>
      rw [List.range_succ_eq_map, List.map_cons, List.map_map]
      obtain ⟨y, hy, hr⟩ := hf 0 (by omega)
      simp only [List.getElem?_cons_zero, Option.some.injEq] at hy
      subst hy
      exact .cons (toC_rel hr) (ih (F := fun j => F (j + 1)) (by simpa using h) fun j hj => by have := hf (j + 1) (by omega); simpa using this)
theorem rfArgs_rel {ρ : Ren} {v : V} {x : Value} {gf : FuncId} {pre post : List A} (h : rfArgs v = some (gf, pre, post)) (r : v.rel ρ x) :
    ∃ fx cx : List Value, F2 (A.rel ρ) pre fx ∧ F2 (A.rel ρ) post cx ∧ x = .func (.func gf) fx.toArray cx.toArray := by
  unfold rfArgs at h
  split at h
  · simp only [Option.some.injEq, Prod.mk.injEq] at h
    obtain ⟨rfl, rfl, rfl⟩ := h
    obtain ⟨cx, hcx, e⟩ := r
    exact ⟨[], cx, .nil, ptr_names hcx, e⟩
  · simp only [Option.some.injEq, Prod.mk.injEq] at h
    obtain ⟨rfl, rfl, rfl⟩ := h
    obtain ⟨xs, h1, h2, h3⟩ := r
    exact ⟨[.agg xs.toArray], [], .cons ⟨xs, f2_range _ h1 h3, rfl⟩ .nil, .nil, h2⟩
  · cases h
def rfX (P : Program) (G : GT) (N k LV : Nat) (exB : Run) (exI : YH → FuncId → Func → Run) : RF := fun g ps x y wk c s =>
  match Nat.blt k LV && keepT s c [] N && (ps.toList.all fun p => Nat.blt p N), ((look G s g).map fnV).bind rfArgs with
  | true, some (gf, pre, post) => (match P.funcs[gf]?, s.st k with
    | some fn, none => (match isGo fn with
      | true => (callT P N (exI (yhOf k exB ps x y s.tm) gf fn) fn (pre ++ .c (.yl k) :: post) wk c s).bind fun r =>
        (match cleanOk k c r.2.2.hp with
        | true => (match r.2.2.st k with
          | none => .ret (.normal, r.2.1, { r.2.2 with hp := cleanH k r.2.2.hp })
          | some .normal => .fail
          | some e => .ret (e, r.2.1, { r.2.2 with hp := cleanH k r.2.2.hp, st := upd r.2.2.st k none }))
        | false => .fail)
      | false => .fail)
    | _, _ => .fail)
  | _, _ => .fail
section
variable {P : Program} {G : GT} {N : Nat} {gw : World → Prop} {w0 : World} {LV : Nat}
structure HOK (P : Program) (w0 : World) (K : Ren → Prop) (cz j : Nat) (h : YH) : Prop where
  run : ∀ {N' : Nat} {args : List A} {xs : List Value} {wk : Nat → Bool} {c : Nat} {s : S} {R : Bool × Nat × S → Prop} {ρ : Ren} {a : Act} {w : World}, Rel w0 N' ρ s a w → K ρ → cz ≤ c → keepT s c [] N' = true →
    F2 (A.rel ρ) args xs → (h args wk c s).wp R → ∀ l r, ρ.lp j = some (l, r) →
    YieldAt (Fd none) 0 P l xs.toArray w fun e w' => ∃ b c' s' ρ', e = .returned (.bool b) ∧ R (b, c', s') ∧ s'.tm = s.tm ∧ Rel w0 N' ρ' s' a w' ∧ ρ.up c ρ'
theorem HOK.less {K K' : Ren → Prop} {cz cy j : Nat} {h : YH} (hh : HOK P w0 K cz j h) (hK : ∀ ρ, K' ρ → K ρ) (hc : cz ≤ cy) : HOK P w0 K' cy j h :=
  ⟨fun hrel hk hcz => hh.run hrel (hK _ hk) (Nat.le_trans hc hcz)⟩
def HKeep (h : YH) : Prop := (∀ args wk c s, (h args wk c s).all fun r => c ≤ r.2.1 ∧ r.2.2.tm = s.tm ∧ ∀ m, m < c → wk m = false → r.2.2.hp m = s.hp m) ∧
  (∀ args wk c s tm' (R : Bool × Nat × S → Prop), (h args wk c s).wp R → (h args wk c { s with tm := tm' }).wp fun r => ∃ s2, R (r.1, r.2.1, s2) ∧ s2.tm = s.tm ∧ r.2.2 = { s2 with tm := tm' })
def RKeep (ex : Run) : Prop := ∀ code wk c s, (ex code wk c s).all fun r => c ≤ r.2.1 ∧ ∀ m, m < c → wk m = false → r.2.2.hp m = s.hp m
theorem yhOf_keep {k : Nat} {exB : Run} (hB : RKeep exB) {ps : Array Tmp} {x y : Code} {tm0 : Nat → Option V} : HKeep (yhOf k exB ps x y tm0) := by
  refine ⟨?_, fun args wk c s tm' R h => ?_⟩
  case refine_2 =>
    unfold yhOf at h ⊢
    split at h
    · unfold roundT at h ⊢
      show (match s.st k with | none => _ | _ => _ : T (Bool × Nat × S)).wp _
      split at h
      · rename_i hst
        try rw [hst]
        refine T.bind_wp (T.wp_mono ?_ (T.wp_bind h))
        rintro ⟨e, c1, s1⟩ hr
        cases e with
        | exit i => exact hr
        | ret => exact hr
        | normal =>
          simp only at hr ⊢
          split at hr
          · refine T.bind_wp (T.wp_mono ?_ (T.wp_bind hr))
            rintro ⟨e, c2, s2⟩ hr2
            cases e with
            | normal => exact ⟨_, hr2, rfl, rfl⟩
            | exit i => exact ⟨_, hr2, rfl, rfl⟩
            | ret => exact ⟨_, hr2, rfl, rfl⟩
          · exact hr.elim
      · exact h.elim
    · exact h.elim
  intro args wk c s
  unfold yhOf
  split
  · unfold roundT
    split
    · refine T.all_bind (T.all_mono ?_ (hB x wk c { s with tm := setPs tm0 ps.toList args }))
      rintro ⟨e, c1, s1⟩ ⟨h1, h2⟩
      cases e with
      | exit i => trivial
      | ret => trivial
      | normal =>
        simp only
        split
        · refine T.all_bind (T.all_mono ?_ (hB y wk c1 { s1 with st := upd s1.st k (some .normal) }))
          rintro ⟨e, c2, s2⟩ ⟨g1, g2⟩
          have hkeep : c ≤ c2 ∧ ∀ m, m < c → wk m = false → s2.hp m = s.hp m := ⟨Nat.le_trans h1 g1, fun m hm hw => (g2 m (Nat.lt_of_lt_of_le hm h1) hw).trans (h2 m hm hw)⟩
          cases e with
          | normal => exact ⟨hkeep.1, rfl, hkeep.2⟩
          | exit i => exact ⟨hkeep.1, rfl, hkeep.2⟩
          | ret => exact ⟨hkeep.1, rfl, hkeep.2⟩
        · trivial
    · trivial
  · trivial
theorem callT_keep {ex : Run} (hx : RKeep ex) {fn : Func} {args : List A} {wk : Nat → Bool} {c : Nat} {s : S} :
    (callT P N ex fn args wk c s).all fun r => c ≤ r.2.1 ∧ r.2.2.tm = s.tm ∧ ∀ m, m < c → wk m = false → r.2.2.hp m = s.hp m := by
  unfold callT
  split
  · rename_i code _ _
    refine T.all_bind (T.all_mono ?_ (hx code wk c (argsS args s)))
    rintro ⟨e, c1, s1⟩ ⟨h1, h2⟩
    cases e with
    | exit i => trivial
    | normal =>
      simp only
      split
      · exact ⟨h1, rfl, h2⟩
      · trivial
    | ret =>
      simp only
      split
      · exact ⟨h1, rfl, h2⟩
      · trivial
  · trivial
theorem rfX_keep {k : Nat} {exB : Run} {exI : YH → FuncId → Func → Run} (hB : RKeep exB) (hI : ∀ h gf fn, HKeep h → RKeep (exI h gf fn)) (g : Operand) (ps : Array Tmp) (x y : Code) (wk : Nat → Bool) (c : Nat) (s : S) :
    (rfX P G N k LV exB exI g ps x y wk c s).all (Keeps c s wk []) := by
  unfold rfX
  split
  · split
    · split
      · refine T.all_bind (T.all_mono ?_ (callT_keep (hI _ _ _ (yhOf_keep hB))))
        rintro ⟨v, c1, s1⟩ ⟨h1, h2, h3⟩
        simp only
        split
        · rename_i hcl
          have hk : ∀ m, m < c → wk m = false → cleanH k s1.hp m = s.hp m := fun m hm hw => (cleanH_low hcl hm).trans (h3 m hm hw)
          split
          · exact ⟨h1, fun t _ => congrFun (show s1.tm = s.tm from h2) t, hk⟩
          · trivial
          · exact ⟨h1, fun t _ => congrFun (show s1.tm = s.tm from h2) t, hk⟩
        · trivial
      · trivial
    · trivial
  · trivial
end
end Go.V
end

section
set_option linter.unusedVariables false
set_option linter.unusedSimpArgs false
namespace Go.V
open Go.RowKit (Below)
section
variable {N : Nat} {w0 : World} {ρ : Ren} {s : S} {a : Act} {w : World}
theorem Rel.leave (h : Rel w0 N ρ s a w) (hL : LpOK w0 ρ) {k l : Nat} {r : Loop} (hk : ρ.lp k = some (l, r)) {lp' : Nat → Option (Nat × Loop)} (h1 : ∀ j p, j ≠ k → ρ.lp j = some p → lp' j = some p)
    (h2 : ∀ j p, lp' j = some p → j ≠ k ∧ ρ.lp j = some p) (q : Loop) {st' : Nat → Option Ex} (hst : ∀ j, j ≠ k → st' j = s.st j)
    (htm : ∀ t v, s.tm t = some v → t < N ∧ v.rel (ρ.lps ρ.fx lp') (a.tmps.getD t undef)) :
    Rel w0 N (ρ.lps ρ.fx lp') { s with hp := cleanH k s.hp, st := st' } a (w.putObj l (.loop q)) := by
  have h0 := h.lp k l r hk
  have hlt : l < w.heap.size := (Array.getElem?_eq_some_iff.1 h0).1
  obtain ⟨q0, hq0⟩ := lpObj_loop r (s.st k)
  rw [hq0] at h0
  obtain ⟨W, hW⟩ : ∃ W, W = w.putObj l (.loop q) := ⟨_, rfl⟩
  rw [← hW]
  have hother : ∀ i, i ≠ l → W.heap[i]? = w.heap[i]? := fun i hi => by rw [hW]; exact World.putObj_heap_other hi
  have hsz : W.heap.size = w.heap.size := by rw [hW]; simp [World.putObj]
  have own_of : ∀ m y y0, cleanH k s.hp m = some y → y.own = true → s.hp m = some y0 → y0 = y := by
    intro m y y0 hy ho hy0
    obtain ⟨y1, g1, g2⟩ := cleanH_of hy
    rw [hy0] at g1; cases g1
    rcases g2 with rfl | ⟨rfl, _⟩
    · cases ho
    · rfl
  refine ⟨h.sz, h.bel.trans ⟨by rw [hW]; rfl, by rw [hW]; rfl, by rw [hW]; rfl, by omega, fun i hi => hother i (fun he => by have := hL.base k l r hk; omega)⟩, ?_, htm, fun m hm => h.dom m (cleanH_none hm), ?_, ?_, ?_, ?_, h.old, ?_, ?_, h.dfx⟩
  · obtain ⟨Ds, e1, e2, e3⟩ := h.df
    refine ⟨Ds, e1, e2, fun D hD => ⟨(e3 D hD).1, (hother D fun he => ?_).trans (e3 D hD).2⟩⟩
    have := (e3 D hD).2
    rw [he, h0] at this; cases this
  · intro m y hm
    obtain ⟨y0, g0, gy⟩ := cleanH_of hm
    obtain ⟨b, g1, g2, g3, g4⟩ := h.hp m y0 g0
    refine ⟨b, g1, by omega, ?_, g4⟩
    rcases gy with rfl | ⟨rfl, hcl⟩
    · trivial
    · refine brel_lps h1 hcl ?_
      cases hy : y.own with
      | false => exact Blk.rel_mono' (Ren.le_refl _) hy g3
      | true =>
        obtain ⟨xs, t, hx⟩ := Blk.own_cells hy g3
        exact Blk.rel_mono (Ren.le_refl _) (hother _ fun he => by rw [he, h0] at hx; cases hx) g3
  · intro m m' y y' b b' hm hm' ho ho' hb hb' hne
    obtain ⟨y0, g0, _⟩ := cleanH_of hm
    obtain ⟨y1, g1, _⟩ := cleanH_of hm'
    have e0 := own_of m y y0 hm ho g0
    have e1 := own_of m' y' y1 hm' ho' g1
    subst e0 e1
    exact h.inj m m' _ _ b b' g0 g1 ho ho' hb hb' hne
  · intro b o v hv
    obtain ⟨g1, g2⟩ := h.im b o v hv
    refine ⟨by omega, ?_⟩
    have hne : b ≠ l := by
      intro he; subst he
      simp [World.cell?, h0] at g2
    exact (World.cell?_of_block (w := w) (hother b hne)).trans g2
  · intro m y b o hm ho hb
    obtain ⟨y0, g0, _⟩ := cleanH_of hm
    have e0 := own_of m y y0 hm ho g0
    subst e0
    exact h.dis m _ b o g0 ho hb
  · intro b o hb
    obtain ⟨g1, g2⟩ := h.fx b o hb
    refine ⟨g1, (hother b fun he => ?_).trans g2⟩
    have hb : ρ.fx b = some o := hb
    rw [he, hL.fx k l r hk] at hb; cases hb
  · intro j l' q' hj
    obtain ⟨hjk, hj'⟩ := h2 j _ hj
    have hne : l' ≠ l := by
      intro he; subst he
      exact hjk (hL.inj k j l' r q' hk hj')
    show W.heap[l']? = some (lpObj q' (st' j))
    rw [hst j hjk]
    exact (hother l' hne).trans (h.lp j l' q' hj')
end
end Go.V
end

section
set_option linter.unusedVariables false
set_option linter.unusedSimpArgs false
namespace Go.V
open Go.RowKit (Below)
section
variable {P : Program} {G : GT} {N : Nat} {gw : World → Prop} {w0 : World} {LV : Nat}
theorem LpOK.begin {ρ : Ren} (hL : LpOK w0 ρ) {s : S} {a : Act} {w : World} (hrel : Rel w0 N ρ s a w) {k : Nat} (r : Loop) : LpOK w0 (ρ.lps ρ.fx (upd ρ.lp k (some (w.heap.size + 1, r)))) := by
  have hfree : ∀ j l q, ρ.lp j = some (l, q) → l < w.heap.size := fun j l q hj => (Array.getElem?_eq_some_iff.1 (hrel.lp j l q hj)).1
  have cases' : ∀ j l q, upd ρ.lp k (some (w.heap.size + 1, r)) j = some (l, q) → (j = k ∧ l = w.heap.size + 1) ∨ (j ≠ k ∧ ρ.lp j = some (l, q)) := by
    intro j l q hj
    by_cases e : j = k
    · subst e; rw [upd_same] at hj; cases hj; exact .inl ⟨rfl, rfl⟩
    · rw [upd_ne _ _ e] at hj; exact .inr ⟨e, hj⟩
  refine ⟨fun j l q hj => ?_, fun j l q hj => ?_, fun j i l q q' hj hi => ?_⟩
  · show ρ.fx l = none
    rcases cases' j l q hj with ⟨_, rfl⟩ | ⟨_, hj⟩
    · cases hf : ρ.fx (w.heap.size + 1) with
      | none => rfl
      | some o =>
        have := (Array.getElem?_eq_some_iff.1 (hrel.fx _ o hf).2).1
        omega
    · exact hL.fx j l q hj
  · rcases cases' j l q hj with ⟨_, rfl⟩ | ⟨_, hj⟩
    · have := hrel.bel.size; omega
    · exact hL.base j l q hj
  · rcases cases' j l q hj with ⟨e1, e2⟩ | ⟨e1, hj⟩ <;> rcases cases' i l q' hi with ⟨f1, f2⟩ | ⟨f1, hi⟩
    · rw [e1, f1]
    · have := hfree i l q' hi; omega
    · have := hfree j l q hj; omega
    · exact hL.inj j i l q q' hj hi
theorem rfX_sound {k cz : Nat} {K : Ren → Prop} (hK : KOK P G gw w0 LV cz K) {exB : Run} {exI : YH → FuncId → Func → Run}
    (EB : ∀ (l : Nat) (code : Code) {wk : Nat → Bool} {c : Nat} {s : S} {R : St3 → Prop} {ρ : Ren} {a : Act} {w : World}, Rel w0 N ρ s a w → K ρ → cz ≤ c → (exB code wk c s).wp R → code.wpIn (Fd (some l)) 0 P (CP c w0 N ρ R) a w)
    (EBK : RKeep exB)
    (EI : ∀ (h : YH) (gf : FuncId) (gfn : Func) (K' : Ren → Prop) (c' : Nat), KOK P G gw w0 LV c' K' → (∀ ρ, K' ρ → K ρ) → cz ≤ c' → HOK P w0 K' c' k h → HKeep h →
      ∀ (code : Code) {wk : Nat → Bool} {c : Nat} {s : S} {R : St3 → Prop} {ρ : Ren} {a : Act} {w : World}, Rel w0 gfn.ntmps ρ s a w → K' ρ → (∀ j l r, ρ.lp j = some (l, r) → j < k + 1) → c' ≤ c → (exI h gf gfn code wk c s).wp R → code.wpIn (Fd none) 0 P (CP c w0 gfn.ntmps ρ R) a w)
    {g : Operand} {ps : Array Tmp} {x y : Code} {wk : Nat → Bool} {c : Nat} {s : S} {R : St3 → Prop} {ρ : Ren} {a : Act} {w : World}
    (hrel : Rel w0 N ρ s a w) (hKρ : K ρ) (hlv : ∀ j l r, ρ.lp j = some (l, r) → j < k) (hcz : cz ≤ c) (h : (rfX P G N k LV exB exI g ps x y wk c s).wp R) :
    (Code.rangeFunc g ps x y).wpIn (Fd none) 0 P (CP c w0 N ρ R) a w := by
  unfold rfX at h
  split at h
  · rename_i gf pre post hchk hg
    simp only [Bool.and_eq_true] at hchk
    obtain ⟨⟨hkLV, hck⟩, hps⟩ := hchk
    have hkLV : k < LV := by simpa [Nat.blt_eq] using hkLV
    have hps : ∀ p, p ∈ ps.toList → p < N := fun p hp => by have := List.all_eq_true.1 hps p hp; simpa [Nat.blt_eq] using this
    split at h
    · rename_i fn hfn hst
      split at h
      · rename_i hgo
        obtain ⟨v2, hv2, hv3⟩ := Option.bind_eq_some_iff.1 hg
        obtain ⟨v0, hv0, hv1⟩ := Option.map_eq_some_iff.1 hv2
        have hview : View G ρ s a w := ⟨fun t v ht => (hrel.tm t v ht).2, fun m k hk => by obtain ⟨b, h1, h2, h3, _⟩ := hrel.hp m k hk; exact ⟨b, h1, h2, h3⟩, hrel.im, (hK.amb hKρ).gl⟩
        obtain ⟨fx, cx, hfx0, hcx, hgv⟩ := rfArgs_rel hv3 (hv1 ▸ fnV_rel (look_rel hview hv0))
        refine wpIn_rangeFunc ?_
        intro fn0 _
        obtain ⟨r0, hr0⟩ : ∃ r0 : Loop, r0 = { state := .ready, pending := none, fn := fn0, tmps := a.tmps, params := ps, assign := x, body := y, defers := w.heap.size } := ⟨_, rfl⟩
        obtain ⟨l, hl⟩ : ∃ l, l = w.heap.size + 1 := ⟨_, rfl⟩
        have hklp : ρ.lp k = none := by
          cases hq : ρ.lp k with
          | none => rfl
          | some q => obtain ⟨l', r'⟩ := q; have := hlv k l' r' hq; omega
        have hbegin := hrel.begin hklp hst r0
        have hLp1 := (hK.lpk hKρ).begin hrel (k := k) r0
        have hready : lpObj r0 none = .loop r0 := by rw [hr0]; rfl
        rw [hready] at hbegin
        rw [← hl] at hbegin hLp1
        obtain ⟨W1, hW1⟩ : ∃ W1, W1 = (w.alloc (.deferred (some []))).alloc (.loop r0) := ⟨_, rfl⟩
        rw [← hW1] at hbegin
        obtain ⟨ρ1, hρ1⟩ : ∃ ρ1, ρ1 = ρ.lps ρ.fx (upd ρ.lp k (some (l, r0))) := ⟨_, rfl⟩
        rw [← hρ1] at hbegin hLp1
        have hK1 : K ρ1 := by rw [hρ1]; exact hK.more k (l, r0) hKρ hklp hkLV (by rw [← hρ1]; exact hLp1)
        have hmore : ∀ j p, ρ.lp j = some p → ρ1.lp j = some p := by
          intro j p hj
          have : j ≠ k := fun e => by rw [e, hklp] at hj; cases hj
          rw [hρ1]; show upd ρ.lp k (some (l, r0)) j = some p
          rw [upd_ne _ _ this]; exact hj
        have hlpk : ρ1.lp k = some (l, r0) := by rw [hρ1]; exact upd_same _ _ _
        obtain ⟨K', hK'⟩ : ∃ K' : Ren → Prop, K' = fun ρ' => K ρ' ∧ ρ'.lp k = some (l, r0) ∧ ∀ t v, s.tm t = some v → t < N ∧ v.rel ρ' (a.tmps.getD t undef) := ⟨_, rfl⟩
        have KK : KOK P G gw w0 LV c K' := by
          rw [hK']
          refine ⟨fun h => hK.amb h.1, fun h => hK.lpk h.1, fun h => hK.lvl h.1, ?_, ?_, ?_⟩
          · rintro ρa ρb ⟨q1, q2, q3⟩ hup
            refine ⟨hK.up q1 (hup.less hcz), by rw [hup.lp]; exact q2, fun t v ht => ?_⟩
            obtain ⟨g1, g2⟩ := q3 t v ht
            exact ⟨g1, V.rel_ren hup.κ ⟨hup.cl, fun k p e => by rw [hup.lp]; exact e⟩ (fun m hm b e => hup.nm m b (keepT_at hck g1 rfl ht m hm) e) g2⟩
          · rintro ρa fx' ⟨q1, q2, q3⟩ hLx
            refine ⟨hK.fxs fx' q1 hLx, q2, fun t v ht => ?_⟩
            obtain ⟨g1, g2⟩ := q3 t v ht
            exact ⟨g1, by rw [vrel_fx]; exact g2⟩
          · rintro ρa k2 p ⟨q1, q2, q3⟩ hn hk2 hLx
            have hne : k ≠ k2 := fun e => by rw [e, hn] at q2; cases q2
            refine ⟨hK.more k2 p q1 hn hk2 hLx, ?_, fun t v ht => ?_⟩
            · show upd ρa.lp k2 (some p) k = some (l, r0)
              rw [upd_ne _ _ hne]; exact q2
            · obtain ⟨g1, g2⟩ := q3 t v ht
              refine ⟨g1, vrel_more ?_ g2⟩
              intro j p' hj
              have : j ≠ k2 := fun e => by rw [e, hn] at hj; cases hj
              rw [upd_ne _ _ this]; exact hj
        have hH : HOK P w0 K' c k (yhOf k exB ps x y s.tm) := by
          constructor
          intro N' args xs wk' c1 s1 R1 ρa a1 w1 hrel1 hk1 hc1 hck1 hx1 hw1 l1 r1 hlp1
          rw [hK'] at hk1
          obtain ⟨q1, q2, q3⟩ := hk1
          rw [q2] at hlp1
          cases hlp1
          unfold yhOf at hw1
          split at hw1
          · rename_i hlen
            have hlen := Nat.eq_of_beq_eq_true hlen
            refine round_sound (K := K') KK (r := r0) (exB := exB) (ps := ps.toList) (x := x) (y := y) (tm0 := s.tm) ?_ (fun code wk c s => T.all_mono (fun r hr => hr.1) (EBK code wk c s)) hps (by rw [hr0]) (by rw [hr0]) (by rw [hr0]) (by rw [hr0]; exact hrel.sz)
              hrel1 (by rw [hK']; exact ⟨q1, q2, q3⟩) hc1 q2 hck1 (by rw [hr0]; exact q3) hx1 (by simpa using hlen) hw1
            intro code wk2 c2 s2 R2 ρb a2 w2 g1 g2 g3 g4
            rw [hK'] at g2
            exact EB l code g1 g2.1 (Nat.le_trans hcz g3) g4
          · exact hw1.elim
        have hargs : F2 (A.rel ρ1) (pre ++ A.c (.yl k) :: post) (fx ++ (.func (.yield l) #[] #[]) :: cx) := by
          refine f2_append (f2_imp (fun a b hab => by rw [hρ1]; exact arel_more (by rw [hρ1] at hmore; exact hmore) hab) hfx0) ?_
          refine .cons ⟨l, r0, hlpk, rfl⟩ ?_
          exact f2_imp (fun a b hab => by rw [hρ1]; exact arel_more (by rw [hρ1] at hmore; exact hmore) hab) hcx
        have hcall := callK_sound (N := N) (K := fun ρ' => K' ρ' ∧ ∀ j l r, ρ'.lp j = some (l, r) → j < k + 1) (ex := exI (yhOf k exB ps x y s.tm) gf fn) hfn
          (fun code _ {s R ρ a w} g1 g2 g3 => EI _ gf fn K' c KK (fun ρ hq => by rw [hK'] at hq; exact hq.1) hcz hH (yhOf_keep EBK) code g1 g2.1 g2.2 (Nat.le_refl _) g3)
          hbegin (hK.amb hK1) (fun fx' hfx => ⟨KK.fxs fx' (by
            rw [hK']
            refine ⟨hK1, hlpk, fun t v ht => ?_⟩
            obtain ⟨g1, g2⟩ := hrel.tm t v ht
            exact ⟨g1, by rw [hρ1]; exact vrel_more (by rw [hρ1] at hmore; exact hmore) g2⟩) (hfx hLp1), fun j l' r' hj => by
              by_cases e : j = k
              · omega
              · have hj : ρ1.lp j = some (l', r') := hj
                rw [hρ1] at hj
                have hj : upd ρ.lp k (some (l, r0)) j = some (l', r') := hj
                rw [upd_ne _ _ e] at hj
                have := hlv j l' r' hj; omega⟩) hargs (T.wp_bind h)
        have eargs : (fx ++ (Value.func (.yield l) #[] #[]) :: cx).toArray = (fx.toArray ++ #[Value.func (.yield l) #[] #[]]) ++ cx.toArray := by apply Array.ext'; simp
        rw [eargs] at hcall
        have hgv : a.eval g = .func (.func gf) fx.toArray cx.toArray := hgv
        refine ⟨l, [{ target := .collected w.heap.size, args := #[] }], W1, { target := .fn (.func gf) cx.toArray, args := fx.toArray ++ #[.func (.yield l) #[] #[]] }, W1, gf, (fx.toArray ++ #[.func (.yield l) #[] #[]]) ++ cx.toArray, W1, ?_, ?_, ?_, ?_, fun h => (by cases h), ?_⟩
        · rw [hW1, hr0, hl]; exact run_enterLoop_outer _ _ _ _ _
        · simp only [resolve, hgv]
          simp [go_sem]
        · intro f' _; trivial
        · simp [invoke, go_sem, enter_of hfn hgo]
        · refine hcall.mono ?_
          rintro e w2 ⟨xv, v, c2, s2, ρ2, rfl, hvr, hr, htm, hrel2, hup⟩
          have hlp2 : ρ2.lp k = some (l, r0) := by rw [hup.lp]; exact hlpk
          have hobj := hrel2.lp k l r0 hlp2
          have hL2 : LpOK w0 ρ2 := hLp1.up hup
          have h1 : ∀ j p, j ≠ k → ρ2.lp j = some p → ρ.lp j = some p := by
            intro j p hj hjp
            rw [hup.lp, hρ1] at hjp
            have hjp : upd ρ.lp k (some (l, r0)) j = some p := hjp
            rw [upd_ne _ _ hj] at hjp; exact hjp
          have h2 : ∀ j p, ρ.lp j = some p → j ≠ k ∧ ρ2.lp j = some p := by
            intro j p hj
            exact ⟨fun e => (by rw [e, hklp] at hj; cases hj), by rw [hup.lp]; exact hmore j p hj⟩
          have hfx2 : ρ2.fx = ρ.fx := by rw [hup.fx, hρ1]; rfl
          have hup2 : ρ.up c (ρ2.lps ρ2.fx ρ.lp) := by
            have q1 := hup.κ
            have q2 := hup.cl
            have q3 := hup.k0
            have q4 := hup.nm
            rw [hρ1] at q1 q2 q3 q4
            exact ⟨q1, q2, q3, hfx2, rfl, q4⟩
          have hslots : ∀ t v, s2.tm t = some v → t < N ∧ v.rel (ρ2.lps ρ2.fx ρ.lp) (a.tmps.getD t undef) := by
            intro t v ht
            rw [htm] at ht
            obtain ⟨g1, g2⟩ := hrel.tm t v ht
            exact ⟨g1, V.rel_ren hup2.κ ⟨hup2.cl, fun k p e => e⟩ (fun m hm b e => hup2.nm m b (keepT_at hck g1 rfl ht m hm) e) g2⟩
          have leave : ∀ (q : Loop) {st' : Nat → Option Ex}, (∀ j, j ≠ k → st' j = s2.st j) → Rel w0 N (ρ2.lps ρ2.fx ρ.lp) { s2 with hp := cleanH k s2.hp, st := st' } { a with defers := { target := .collected w.heap.size, args := #[] } :: a.defers } (w2.putObj l (.loop q)) :=
            fun q {st'} hst' => hrel2.leave hL2 hlp2 h1 h2 q hst' hslots
          simp only at hr
          split at hr
          · split at hr
            · rename_i hs
              rw [hs, hready] at hobj
              have hend := run_endLoop (P := P) hobj (by rw [hr0]; simp)
              have hpend : r0.pending = none := by rw [hr0]
              rw [hpend] at hend
              refine ⟨none, _, hend, ?_⟩
              exact ⟨_, _, _, hr, leave _ (fun j _ => rfl), hup2⟩
            · exact hr.elim
            · rename_i e hne hs
              rw [hs] at hobj
              cases e with
              | normal => exact absurd rfl hne
              | exit i =>
                have hend := run_endLoop (P := P) hobj (by simp)
                refine ⟨some (.exit i), _, hend, ?_⟩
                exact wpIn_exit ⟨_, _, _, hr, leave _ (fun j hj => upd_ne _ _ hj), hup2⟩
              | ret =>
                have hend := run_endLoop (P := P) hobj (by simp)
                refine ⟨some .ret, _, hend, ?_⟩
                exact wpIn_ret ⟨_, _, _, hr, leave _ (fun j hj => upd_ne _ _ hj), hup2⟩
          · exact hr.elim
      · exact h.elim
    · exact h.elim
  · exact h.elim
end
end Go.V
end

section
set_option linter.unusedVariables false
set_option linter.unusedSimpArgs false
namespace Go.V
open Go.RowKit (Below)
inductive Sp where
  | yl (k : Nat) (h : YH) (args : List A)
  | inl (fn : Func) (ex : Run) (args : List A)
def spOf (G : GT) (yh : Nat → Option YH) (inl : FuncId → Option (Func × Run)) (o : Oper) (s : S) : Option Sp :=
  match o.op with
  | .call cl => (match cl.callee with
    | .value f => (match (look G s f).map fnV, lookAll G s cl.args.toList with
      | some (.a (.c (.yl k))), some args => (match yh k with | some h => some (.yl k h args) | none => none)
      | some (.a (.c (.fn g caps))), some args => (match inl g with | some (fn, ex) => some (.inl fn ex (args ++ caps.map fun q => .c (.ptr q.1 q.2))) | none => none)
      | _, _ => none)
    | _ => none)
  | _ => none
def putS (dst : Option Tmp) (v : V) (s : S) : S := act dst 0 ⟨some v, [], []⟩ s
def frOf (an : An) : Bool := (anOf an (some 999999)).isSome
def numOf (an : An) (t : Nat) : Bool := (anOf an (some (3000000 + t))).isSome || (frOf an && (anOf an (some (4000000 + t))).isNone)
def numV : V → V
  | .a (.c (.int k n)) => .a (.c (.num k n))
  | .a (.c (.bool b)) => .a (.c (.lit b))
  | v => v
def numS (an : An) (dst : Option Tmp) (s : S) : S :=
  match dst with
  | some d => (match numOf an d with | true => { s with tm := upd s.tm d ((s.tm d).map numV) } | false => s)
  | none => s
def dstOk (N : Nat) (o : Oper) : Bool := match o.dst with | some d => Nat.blt d N | none => true
section
variable (P : Program) (G : GT) (N : Nat) (sg : FuncId → Option Sm) (yh : Nat → Option YH) (inl : FuncId → Option (Func × Run)) (wk : Nat → Bool)
def opX (o : Oper) (c : Nat) (s : S) : T (Nat × S) :=
  match spOf G yh inl o s with
  | some (.yl k h args) => (match dstOk N o && keepT s c [] N with
    | true => (h args wk c s).bind fun r => .ret (r.2.1, putS o.dst (.a (.c (.lit r.1))) r.2.2)
    | false => .fail)
  | some (.inl fn ex args) => (match dstOk N o with
    | true => (callT P N ex fn args wk c s).bind fun r => .ret (r.2.1, putS o.dst r.1 r.2.2)
    | false => .fail)
  | none => (match opEff P G N sg wk none o c s with
    | .ok e p rd => T.needs p (.ret (c + newsOf e, doit o.dst ⟨c, e, rd⟩ s))
    | _ => .fail)
def guardX (fr : Bool) (ops : Array Oper) (o : Oper) (s : S) (yes no : S → T St3) : T St3 :=
  match o.guard with
  | none => yes s
  | some (k, want) => (match dstOf ops k with
    | some d => (match s.tm d with
      | some (.a (.c (.lit b))) => (match b == want with | true => yes s | false => no s)
      | some (.a (.c (.bool b))) => T.brf fr b
          (match true == want with | true => yes (putS (some d) (.a (.c (.lit true))) s) | false => no (putS (some d) (.a (.c (.lit true))) s))
          (match false == want with | true => yes (putS (some d) (.a (.c (.lit false))) s) | false => no (putS (some d) (.a (.c (.lit false))) s))
      | some (.tup []) => no s
      | _ => .fail)
    | none => .fail)
def goX (an : An) (ops : Array Oper) : List Oper → Nat → S → T St3
  | [], c, s => .ret (.normal, c, s)
  | o :: l, c, s => guardX (frOf an) ops o s (fun s => (opX P G N sg yh inl wk o c s).bind fun r => goX an ops l r.1 (numS an o.dst r.2))
      (fun s => match dstOk N o with | true => goX an ops l c (putS o.dst (.tup []) s) | false => .fail)
end
section
variable {P : Program} {G : GT} {N : Nat} {rr : Option Nat} {sg : FuncId → Option Sm} {yh : Nat → Option YH} {inl : FuncId → Option (Func × Run)} {gw : World → Prop} {w0 : World} {LV : Nat} {a : Act} {w : World} {Q : Exit → Act → World → Prop}
theorem ow_round {o : Oper} {K : Act → World → Prop} {l : Nat} {f : FuncId} {tmps : Array Value} {x y : Code} (h : (execOp a.eval o).run P w = .ok (.round l f tmps x y) w) (hd : ∀ c, o.op ≠ .defer c)
    (hk : RoundIn (Fd none) 0 P l f tmps x y w (fun e w' => ∃ v, e = .returned v ∧ K (a.put o.dst v) w')) : o.wpIn (Fd rr) 0 P a w K Q := by
  refine ⟨fun _ _ => trivial, ?_⟩
  rw [Oper.semAt_eq _ _ _ hd, h, Oper.uponIn_round]
  refine ⟨fun h => (by cases h), ?_⟩
  have h1 : RoundIn (Fd rr) 0 P l f tmps x y w (fun e w' => ∃ v, e = .returned v ∧ K (a.put o.dst v) w') := hk
  refine h1.mono ?_
  rintro e w' ⟨v, rfl, hv⟩
  exact hv
theorem ow_enterIn {o : Oper} {K : Act → World → Prop} {f : FuncId} {args : Array Value} (h : (execOp a.eval o).run P w = .ok (.enter f args) w) (hd : ∀ c, o.op ≠ .defer c)
    (hk : CallsIn (Fd none) 0 P f args w (fun e w' => ∃ x, e = .returned x ∧ K (a.put o.dst x) w')) : o.wpIn (Fd rr) 0 P a w K Q := by
  refine ⟨fun _ _ => trivial, ?_⟩
  rw [Oper.semAt_eq _ _ _ hd, h, Oper.uponIn_enter]
  refine ⟨fun h => (by cases h), ?_⟩
  have h1 : CallsIn (Fd rr) 0 P f args w (fun e w' => ∃ x, e = .returned x ∧ K (a.put o.dst x) w') := hk
  refine CallsIn.mono h1 ?_
  rintro e w' ⟨x, rfl, hx⟩
  exact hx
theorem putS_rel {ρ : Ren} {s : S} (h : Rel w0 N ρ s a w) {dst : Option Tmp} (hd : ∀ d, dst = some d → d < N) {v : V} {x : Value} (hv : v.rel ρ x) : Rel w0 N ρ (putS dst v s) (a.put dst x) w :=
  h.quiet hd (fun v' hv' => by cases hv'; exact hv)
theorem numV_rel {ρ : Ren} {v : V} {x : Value} (h : v.rel ρ x) : (numV v).rel ρ x := by
  unfold numV
  split <;> exact h
theorem numS_rel {ρ : Ren} {an : An} {dst : Option Tmp} {s : S} (h : Rel w0 N ρ s a w) : Rel w0 N ρ (numS an dst s) a w := by
  unfold numS
  split
  · rename_i d
    split
    · refine h.weaken ?_ (fun m => rfl) rfl
      intro t v' ht
      by_cases e : t = d
      · subst e
        have ht : upd s.tm t ((s.tm t).map numV) t = some v' := ht
        rw [upd_same] at ht
        obtain ⟨v, hv, rfl⟩ := Option.map_eq_some_iff.1 ht
        exact ⟨v, hv, fun x hx => numV_rel hx⟩
      · have ht : upd s.tm d ((s.tm d).map numV) t = some v' := ht
        rw [upd_ne _ _ e] at ht
        exact ⟨v', ht, fun x hx => hx⟩
    · exact h
  · exact h
theorem numS_tm {an : An} {dst : Option Tmp} {s : S} {t : Nat} (h : dst ≠ some t) : (numS an dst s).tm t = s.tm t := by
  unfold numS
  split
  · rename_i d
    split
    · exact upd_ne _ _ (fun e => h (by rw [e]))
    · rfl
  · rfl
theorem numS_hp {an : An} {dst : Option Tmp} {s : S} : (numS an dst s).hp = s.hp := by
  unfold numS
  split
  · split <;> rfl
  · rfl
theorem dstOk_at {o : Oper} (h : dstOk N o = true) : ∀ d, o.dst = some d → d < N := by
  intro d hd
  unfold dstOk at h
  rw [hd] at h
  simpa [Nat.blt_eq] using h
theorem lit_rel {ρ : Ren} {s : S} (h : Rel w0 N ρ s a w) {d : Nat} {b : Bool} (hd : s.tm d = some (.a (.c (.bool b)))) : Rel w0 N ρ (putS (some d) (.a (.c (.lit b))) s) a w := by
  refine h.weaken ?_ (fun m => rfl) rfl
  intro t v' ht
  by_cases e : t = d
  · subst e
    have ht : upd s.tm t (some (.a (.c (.lit b)))) t = some v' := ht
    rw [upd_same] at ht
    cases ht
    exact ⟨_, hd, fun x hx => hx⟩
  · have ht : upd s.tm d (some (.a (.c (.lit b)))) t = some v' := ht
    rw [upd_ne _ _ e] at ht
    exact ⟨v', ht, fun x hx => hx⟩
def InlOK (P : Program) (w0 : World) (LV : Nat) (K : Ren → Prop) (cz : Nat) (inl : FuncId → Option (Func × Run)) : Prop :=
  ∀ g fn ex, inl g = some (fn, ex) → P.funcs[g]? = some fn ∧ isGo fn = true ∧
    ∀ (code : Code), fn.body = some code → ∀ {wk : Nat → Bool} {c : Nat} {s : S} {R : St3 → Prop} {ρ : Ren} {a : Act} {w : World}, Rel w0 fn.ntmps ρ s a w → K ρ → cz ≤ c → (ex code wk c s).wp R → code.wpIn (Fd none) 0 P (CP c w0 fn.ntmps ρ R) a w
theorem opX_sound {K : Ren → Prop} {cz : Nat} (hst : ∀ w w', gw w → Below w.heap.size w w' → gw w') (hgw0 : gw w0) (hsg : ∀ f σ, sg f = some σ → SumOK P G gw f σ)
    (kA : ∀ {ρ}, K ρ → Amb P G gw ρ) (kL : ∀ {ρ}, K ρ → LpOK w0 ρ) (kF : ∀ {ρ : Ren} fx', K ρ → LpOK w0 { ρ with fx := fx' } → K { ρ with fx := fx' })
    (hy : ∀ k h, yh k = some h → HOK P w0 K cz k h) (hi : InlOK P w0 LV K cz inl)
    {wk : Nat → Bool} {o : Oper} {c : Nat} {s : S} {R : Nat × S → Prop} {ρ : Ren} (hrel : Rel w0 N ρ s a w) (hKρ : K ρ) (hcz : cz ≤ c) (h : (opX P G N sg yh inl wk o c s).wp R) :
    o.wpIn (Fd rr) 0 P a w (fun a' w' => ∃ c' s' ρ', R (c', s') ∧ Rel w0 N ρ' s' a' w' ∧ ρ.up c ρ') Q := by
  have hview : View G ρ s a w := ⟨fun t v ht => (hrel.tm t v ht).2, fun m k hk => by obtain ⟨b, h1, h2, h3, _⟩ := hrel.hp m k hk; exact ⟨b, h1, h2, h3⟩, hrel.im, (kA hKρ).gl⟩
  unfold opX at h
  split at h
  · -- yield
    rename_i k hd args hsp
    split at h
    · rename_i hok
      simp only [Bool.and_eq_true] at hok
      unfold spOf at hsp
      split at hsp
      · rename_i cl ho
        split at hsp
        · rename_i f hcal
          split at hsp
          · rename_i k' args' hf hargs
            split at hsp
            · rename_i h' hyk
              simp only [Option.some.injEq, Sp.yl.injEq] at hsp
              obtain ⟨rfl, rfl, rfl⟩ := hsp
              obtain ⟨v0, hf0, hf1⟩ := Option.map_eq_some_iff.1 hf
              obtain ⟨l, r, hlp, hfv⟩ := hf1 ▸ fnV_rel (look_rel hview hf0)
              have hax := lookAll_rel G hview hargs
              have hyield := (hy k' h' hyk).run hrel hKρ hcz hok.2 hax (T.wp_bind h) l r hlp
              have hfv : a.eval f = .func (.yield l) #[] #[] := hfv
              have earr : (cl.args.toList.map a.eval).toArray = cl.args.map a.eval := by apply Array.ext'; simp
              rw [earr] at hyield
              obtain ⟨fn, tmps, x, y, hrun, hround⟩ := hyield
              have hop : (execOp a.eval o).run P w = .ok (.round l fn tmps x y) w := by
                simp only [execOp, ho, resolve, hcal, hfv, Deferred.ofValue, Sem.run_bind, Sem.run_pure, Result.andThen_ok, invoke, Array.empty_append, Array.append_empty, hrun]
              refine ow_round hop (fun c hc => by rw [ho] at hc; cases hc) (hround.mono ?_)
              rintro e w' ⟨b, c', s', ρ', rfl, hr, htm, hrel', hup⟩
              exact ⟨_, rfl, c', _, ρ', hr, putS_rel hrel' (dstOk_at hok.1) rfl, hup⟩
            · cases hsp
          · split at hsp <;> cases hsp
          · cases hsp
        · cases hsp
      · cases hsp
    · exact h.elim
  · -- inlined
    rename_i fn ex args hsp
    split at h
    · rename_i hok
      unfold spOf at hsp
      split at hsp
      · rename_i cl ho
        split at hsp
        · rename_i f hcal
          split at hsp
          · split at hsp <;> cases hsp
          · rename_i g caps args' hf hargs
            split at hsp
            · rename_i fn' ex' hig
              simp only [Option.some.injEq, Sp.inl.injEq] at hsp
              obtain ⟨rfl, rfl, rfl⟩ := hsp
              obtain ⟨hfn, hgo, hex⟩ := hi g _ _ hig
              obtain ⟨v0, hf0, hf1⟩ := Option.map_eq_some_iff.1 hf
              obtain ⟨cx, hcx, hfv⟩ := hf1 ▸ fnV_rel (look_rel hview hf0)
              have hfv : a.eval f = .func (.func g) #[] cx.toArray := hfv
              have hax := lookAll_rel G hview hargs
              have hall : F2 (A.rel ρ) (args' ++ caps.map fun q => .c (.ptr q.1 q.2)) (cl.args.toList.map a.eval ++ cx) := f2_append hax (ptr_names hcx)
              have hcall := callK_sound (N := N) (K := K) (ex := ex') hfn (fun code hbb {s R ρ a w} g1 g2 g3 => hex code hbb g1 g2 hcz g3) hrel (kA hKρ) (fun fx' hfx => kF fx' hKρ (hfx (kL hKρ))) hall (T.wp_bind h)
              have earr : (cl.args.toList.map a.eval ++ cx).toArray = cl.args.map a.eval ++ cx.toArray := by apply Array.ext'; simp
              rw [earr] at hcall
              have hop : (execOp a.eval o).run P w = .ok (.enter g (cl.args.map a.eval ++ cx.toArray)) w := by
                simp only [execOp, ho, resolve, hcal, hfv, Deferred.ofValue, Sem.run_bind, Sem.run_pure, Result.andThen_ok, invoke, Array.empty_append, enter_of hfn hgo]
              refine ow_enterIn hop (fun c hc => by rw [ho] at hc; cases hc) (hcall.mono ?_)
              rintro e w' ⟨x, v, c', s', ρ', rfl, hv, hr, htm, hrel', hup⟩
              exact ⟨_, rfl, c', _, ρ', hr, putS_rel hrel' (dstOk_at hok) hv, hup⟩
            · cases hsp
          · cases hsp
        · cases hsp
      · cases hsp
    · exact h.elim
  · split at h
    · rename_i e p rd he
      obtain ⟨hp, hR⟩ := T.wp_needs h
      have := opEff_sound (rr := rr) (Q := Q) hsg (kA hKρ) (hst _ _ hgw0 hrel.bel) he hp hrel (fun t _ => rfl) (fun m _ => rfl) (fun m _ => rfl)
      refine Oper.wpIn_mono ?_ this
      rintro a' w' ⟨ρ', h1, h2⟩
      exact ⟨_, _, ρ', hR, h1, h2.up⟩
    · exact h.elim
theorem goX_sound {K : Ren → Prop} {cz : Nat} (hst : ∀ w w', gw w → Below w.heap.size w w' → gw w') (hgw0 : gw w0) (hsg : ∀ f σ, sg f = some σ → SumOK P G gw f σ)
    (kA : ∀ {ρ}, K ρ → Amb P G gw ρ) (kL : ∀ {ρ}, K ρ → LpOK w0 ρ) (kF : ∀ {ρ : Ren} fx', K ρ → LpOK w0 { ρ with fx := fx' } → K { ρ with fx := fx' }) (kU : ∀ {ρ ρ'}, K ρ → ρ.up cz ρ' → K ρ')
    (hy : ∀ k h, yh k = some h → HOK P w0 K cz k h) (hi : InlOK P w0 LV K cz inl) (hyk : ∀ k h, yh k = some h → HKeep h) (hik : ∀ g fn ex, inl g = some (fn, ex) → RKeep ex)
    {wk : Nat → Bool} {an : An} {ops : Array Oper} {ρ0 : Ren} {R : St3 → Prop} : ∀ (l : List Oper) (i : Nat) {c : Nat} {s : S} {ρ : Ren} {a : Act} {w : World}, ops.toList.drop i = l → Rel w0 N ρ s a w → K ρ → cz ≤ c → ρ0.up cz ρ →
      (goX P G N sg yh inl wk an ops l c s).wp R → wpOpsIn (Fd rr) 0 P ops (CP cz w0 N ρ0 R) (List.range' i (ops.size - i)) a w := by
  intro l
  induction l with
  | nil =>
    intro i c s ρ a w hl hrel hKρ hcz hup h
    have : ops.size ≤ i := by
      have := List.drop_eq_nil_iff.1 hl
      simpa using this
    rw [show ops.size - i = 0 by omega]
    exact ⟨c, s, ρ, h, hrel, hup⟩
  | cons o l ih =>
    intro i c s ρ a w hl hrel hKρ hcz hup h
    have hi' : i < ops.size := by
      have h1 : (ops.toList.drop i).length = (o :: l).length := by rw [hl]
      simp at h1; omega
    have ho : ops[i]? = some o := by
      have h1 : (ops.toList.drop i)[0]? = some o := by rw [hl]; rfl
      rw [List.getElem?_drop] at h1
      simpa using h1
    have hl' : ops.toList.drop (i + 1) = l := by
      have h1 : (ops.toList.drop i).drop 1 = l := by rw [hl]; rfl
      rw [List.drop_drop] at h1
      exact h1
    rw [show ops.size - i = (ops.size - (i + 1)) + 1 by omega, List.range'_succ, wpOpsIn_cons]
    have yes : ∀ s', Rel w0 N ρ s' a w → ((opX P G N sg yh inl wk o c s').bind fun r => goX P G N sg yh inl wk an ops l r.1 (numS an o.dst r.2)).wp R →
        o.wpIn (Fd rr) 0 P a w (wpOpsIn (Fd rr) 0 P ops (CP cz w0 N ρ0 R) (List.range' (i + 1) (ops.size - (i + 1)))) (CP cz w0 N ρ0 R) := by
      intro s' hrel' h'
      have hkc : (opX P G N sg yh inl wk o c s').all fun r => c ≤ r.1 := by
        unfold opX
        split
        · rename_i k hd args hsp
          split
          · have : yh k = some hd := by
              unfold spOf at hsp
              split at hsp
              · split at hsp
                · split at hsp
                  · split at hsp
                    · rename_i hyk'
                      simp only [Option.some.injEq, Sp.yl.injEq] at hsp
                      obtain ⟨rfl, rfl, rfl⟩ := hsp
                      exact hyk'
                    · cases hsp
                  · split at hsp <;> cases hsp
                  · cases hsp
                · cases hsp
              · cases hsp
            exact T.all_bind (T.all_mono (fun r hr => hr.1) ((hyk k hd this).1 args wk c s'))
          · trivial
        · rename_i fn ex args hsp
          split
          · have : ∃ g, inl g = some (fn, ex) := by
              unfold spOf at hsp
              split at hsp
              · split at hsp
                · split at hsp
                  · split at hsp <;> cases hsp
                  · split at hsp
                    · rename_i hig
                      simp only [Option.some.injEq, Sp.inl.injEq] at hsp
                      obtain ⟨rfl, rfl, rfl⟩ := hsp
                      exact ⟨_, hig⟩
                    · cases hsp
                  · cases hsp
                · cases hsp
              · cases hsp
            obtain ⟨g, hg⟩ := this
            exact T.all_bind (T.all_mono (fun r hr => hr.1) (callT_keep (hik g fn ex hg)))
          · trivial
        · split
          · refine T.all_needs ?_
            show c ≤ c + _
            omega
          · trivial
      have h1 := T.wp_all (T.wp_bind h') hkc
      refine Oper.wpIn_mono ?_ (opX_sound (rr := rr) hst hgw0 hsg kA kL kF hy hi hrel' hKρ hcz h1)
      rintro a' w' ⟨c', s2, ρ', ⟨hr, hc'⟩, hrel2, hup2⟩
      exact ih (i + 1) hl' (numS_rel hrel2) (kU hKρ (hup2.less hcz)) (Nat.le_trans hcz hc') (Ren.up_trans hup (hup2.less hcz)) hr
    have no : ∀ s', Rel w0 N ρ s' a w → (match dstOk N o with | true => goX P G N sg yh inl wk an ops l c (putS o.dst (.tup []) s') | false => T.fail).wp R →
        wpOpsIn (Fd rr) 0 P ops (CP cz w0 N ρ0 R) (List.range' (i + 1) (ops.size - (i + 1))) (a.put o.dst undef) w := by
      intro s' hrel' h'
      split at h'
      · rename_i hok
        exact ih (i + 1) hl' (putS_rel hrel' (dstOk_at hok) (v := .tup []) (x := undef) ⟨[], .nil, rfl⟩) hKρ hcz hup h'
      · exact h'.elim
    unfold wpOpIn
    rw [ho]
    simp only
    simp only [goX, guardX] at h
    split at h
    · rename_i hg
      rw [if_pos (by simp [Region.wanted, hg])]
      exact yes s hrel h
    · rename_i k want hg
      split at h
      · rename_i d hd
        have hd' : (ops[k]?).bind (·.dst) = some d := hd
        have hyb : ∀ b, s.tm d = some (.a (.c (.lit b))) ∨ s.tm d = some (.a (.c (.bool b))) → yielded ops a.tmps k = some b := by
          intro b hb
          have : d < N ∧ a.tmps.getD d undef = .bool b := by
            rcases hb with hb | hb
            · exact hrel.tm d _ hb
            · exact hrel.tm d _ hb
          obtain ⟨hlt, hv'⟩ := this
          have : a.tmps[d]? = some (.bool b) := by
            rw [Array.getD_eq_getD_getElem?] at hv'
            have hlt' : d < a.tmps.size := by rw [hrel.sz]; exact hlt
            rw [Array.getElem?_eq_getElem hlt'] at hv' ⊢
            simpa using hv'
          simp [yielded, hd', this]
        split at h
        · rename_i b hb
          have hy := hyb b (.inl hb)
          split at h
          · rename_i hw
            have : b = want := by simpa using hw
            subst this
            rw [if_pos (by simp [Region.wanted, hg, hy])]
            exact yes s hrel h
          · rename_i hw
            rw [if_neg (by simp [Region.wanted, hg, hy]; simpa using hw)]
            exact ⟨fun _ _ => trivial, no s hrel h⟩
        · rename_i b hb
          have hy := hyb b (.inr hb)
          have hl := lit_rel hrel hb
          have h := T.wp_brf h
          cases b with
          | true =>
            have g := h.1 rfl
            split at g
            · rename_i hw
              have : true = want := by simpa using hw
              subst this
              rw [if_pos (by simp [Region.wanted, hg, hy])]
              exact yes _ hl g
            · rename_i hw
              rw [if_neg (by simp [Region.wanted, hg, hy]; simpa using hw)]
              exact ⟨fun _ _ => trivial, no _ hl g⟩
          | false =>
            have g := h.2 rfl
            split at g
            · rename_i hw
              have : false = want := by simpa using hw
              subst this
              rw [if_pos (by simp [Region.wanted, hg, hy])]
              exact yes _ hl g
            · rename_i hw
              rw [if_neg (by simp [Region.wanted, hg, hy]; simpa using hw)]
              exact ⟨fun _ _ => trivial, no _ hl g⟩
        · rename_i hb
          obtain ⟨hlt, hv⟩ := hrel.tm d _ hb
          have hv' : a.tmps.getD d undef = .tuple #[] := by
            obtain ⟨ys, h1, h2⟩ := hv
            cases h1
            exact h2
          have hy : yielded ops a.tmps k = none := by
            have : a.tmps[d]? = some (.tuple #[]) := by
              rw [Array.getD_eq_getD_getElem?] at hv'
              have hlt' : d < a.tmps.size := by rw [hrel.sz]; exact hlt
              rw [Array.getElem?_eq_getElem hlt'] at hv' ⊢
              simpa using hv'
            simp [yielded, hd', this]
          rw [if_neg (by simp [Region.wanted, hg, hy])]
          exact ⟨fun _ _ => trivial, no s hrel h⟩
        · exact h.elim
      · exact h.elim
end
end Go.V
end

section
set_option linter.unusedVariables false
set_option linter.unusedSimpArgs false
namespace Go.V
open Go.RowKit (Below)
def nullI : Item := (none, ⟨0, none, []⟩)
section
variable (P : Program) (G : GT) (N : Nat) (sg : FuncId → Option Sm) (yh : Nat → Option YH) (inl : FuncId → Option (Func × Run)) (wk : Nat → Bool)
def rrunM (ops : Array Oper) (inc : Nat → Bool) : List Oper → Nat → Nat → S → RR
  | [], _, c, s => .done [] s c []
  | o :: l, i, c, s =>
    match inc i with
    | false => (match rrunM ops inc l (i + 1) c s with
      | .done L s' c' q => .done (nullI :: L) s' c' q
      | r => r)
    | true => (match stepA P G N sg wk ops (fun _ => none) i c o s with
      | .ok e p rd => (match rrunM ops inc l (i + 1) (c + newsOf e) (doit o.dst ⟨c, e, rd⟩ s) with
        | .done L s' c' q => .done ((o.dst, ⟨c, e, rd⟩) :: L) s' c' (p ++ q)
        | r => r)
      | .ask k b => .ask k b
      | .fail => .fail)
def firstSp (ops : Array Oper) (inc : Nat → Bool) : List Oper → Nat → Nat → S → Option Nat
  | [], _, _, _ => none
  | o :: l, i, c, s =>
    match inc i with
    | false => firstSp ops inc l (i + 1) c s
    | true => (match spOf G yh inl o s with
      | some _ => some i
      | none => (match stepA P G N sg wk ops (fun _ => none) i c o s with
        | .ok e p rd => firstSp ops inc l (i + 1) (c + newsOf e) (doit o.dst ⟨c, e, rd⟩ s)
        | _ => none))
def lateOk (ops : Array Oper) (M : List Nat) (inc : Nat → Bool) (j : Nat) (oj : Oper) (c1 : Nat) : List Item → Nat → Bool
  | [], _ => true
  | x :: l, k => (match inc k && !(M.getD j 0).testBit k with
    | false => true
    | true => (match ops[k]?, x.2.e, x.1 with
      | some o, some e, some d => e.nw.isEmpty && e.wr.isEmpty && !((uses ops oj).elem d) && (match oj.dst with | some dj => !((uses ops o).elem dj) | none => true) && allLt c1 x.2.rd
      | _, _, _ => false)) && lateOk ops M inc j oj c1 l (k + 1)
def lateRd (M : List Nat) (inc : Nat → Bool) (j : Nat) : List Item → Nat → List Nat
  | [], _ => []
  | x :: l, k => (match inc k && !(M.getD j 0).testBit k with | true => x.2.rd | false => []) ++ lateRd M inc j l (k + 1)
def valsLt (c : Nat) : List Item → Bool
  | [] => true
  | x :: l => (match x.2.e with | some e => (match e.val with | some v => allLt c v.all | none => true) | none => true) && valsLt c l
def behindB (M : List Nat) (n : Nat) (inc1 inc2 : Nat → Bool) : Bool :=
  (List.range n).all fun k => !inc2 k || (List.range n).all fun i => !inc1 i || (M.getD k 0).testBit i
def sideB (ops : Array Oper) (M : List Nat) (n : Nat) (inc1 inc2 : Nat → Bool) : Bool :=
  (List.range n).all fun b => !inc2 b || (List.range n).all fun k => !inc1 k || (M.getD b 0).testBit k || (match ops[k]?, ops[b]? with
    | some ok, some ob => (match ok.dst with | some d => !((uses ops ob).elem d) | none => true) && (match ob.dst with | some d => !((uses ops ok).elem d) | none => true)
    | _, _ => false)
def pureL : List Item → Bool
  | [] => true
  | x :: l => (match x.2.e with | some e => e.nw.isEmpty && e.wr.isEmpty | none => true) && pureL l
def restT (ops : Array Oper) (M : List Nat) (inc1 inc2 : Nat → Bool) (c : Nat) (s : S) : T St3 :=
  match sideB ops M ops.size inc1 inc2 with
  | true => (match rrunM P G N sg wk ops inc2 ops.toList 0 c s with
    | .done L s' c' p => (match allPairsOk ops M L ops.toList L 0 && pureL L with | true => T.needs p (.ret (.normal, c', s')) | false => .fail)
    | _ => .fail)
  | false => .fail
def spT (P : Program) (N : Nat) (sp : Sp) (wk : Nat → Bool) (c : Nat) (s : S) : T (V × Nat × S) :=
  match sp with
  | .yl _ h args => (h args wk c s).bind fun r => .ret (.a (.c (.lit r.1)), r.2.1, r.2.2)
  | .inl fn ex args => callT P N ex fn args wk c s
def segT (ops : Array Oper) (M : List Nat) : Nat → (Nat → Bool) → Nat → S → T St3
  | 0, _, _, _ => .fail
  | n + 1, inc, c, s =>
    match firstSp P G N sg yh inl wk ops inc ops.toList 0 c s with
    | none => (match rrunM P G N sg wk ops inc ops.toList 0 c s with
      | .done L s' c' p => (match allPairsOk ops M L ops.toList L 0 with | true => T.needs p (.ret (.normal, c', s')) | false => .fail)
      | _ => .fail)
    | some j => (match ops[j]?, rrunM P G N sg wk ops (fun k => inc k && !Nat.beq k j && !(M.getD k 0).testBit j) ops.toList 0 c s with
      | some o, .done L s1 c1 p =>
        (match inc j && o.guard.isNone && dstOk N o && keepT s c1 [] N && valsLt c1 L && allPairsOk ops M L ops.toList L 0 && Nat.ble c c1 &&
            lateOk ops M (fun k => inc k && !Nat.beq k j && !(M.getD k 0).testBit j) j o c1 L 0, spOf G yh inl o s1 with
        | true, some sp => T.needs p ((spT P N sp (fun m => wk m && !memN (lateRd M (fun k => inc k && !Nat.beq k j && !(M.getD k 0).testBit j) j L 0) m) c1 s1).bind fun r =>
            match behindB M ops.size (fun k => inc k && !Nat.beq k j && !(M.getD k 0).testBit j) (fun k => inc k && (M.getD k 0).testBit j) with
            | true => segT ops M n (fun k => inc k && (M.getD k 0).testBit j) r.2.1 (putS o.dst r.1 r.2.2)
            | false => restT P G N sg wk ops M (fun k => inc k && !Nat.beq k j && !(M.getD k 0).testBit j) (fun k => inc k && (M.getD k 0).testBit j) r.2.1 (putS o.dst r.1 r.2.2))
        | _, _ => .fail)
      | _, _ => .fail)
end
section
variable {P : Program} {G : GT} {N : Nat} {rr : Option Nat} {sg : FuncId → Option Sm} {yh : Nat → Option YH} {inl : FuncId → Option (Func × Run)} {wk : Nat → Bool} {gw : World → Prop} {w0 : World} {ρ : Ren} {a : Act} {w : World} {Q : Exit → Act → World → Prop}
theorem rrunM_spec {ops : Array Oper} {inc : Nat → Bool} : ∀ {l : List Oper} {i c : Nat} {s : S} {L : List Item} {s' : S} {c' : Nat} {q : List Prop}, rrunM P G N sg wk ops inc l i c s = .done L s' c' q → All q →
    L.length = l.length ∧ c ≤ c' ∧ s' = runL (fun _ => true) L i s ∧ ∀ j o x, l[j]? = some o → L[j]? = some x →
      (inc (i + j) = false ∧ x = nullI) ∨ (inc (i + j) = true ∧ x.1 = o.dst ∧ ∃ p, stepA P G N sg wk ops (fun _ => none) (i + j) x.2.c o (runL (fun k => Nat.blt k (i + j)) L i s) = .ok x.2.e p x.2.rd ∧ All p) := by
  have skipL : ∀ (l : List Item) (i k : Nat), i ≤ k → ∀ s, runL (fun k => Nat.blt k i) l k s = s := by
    intro l
    induction l with
    | nil => intro i k _ s; rfl
    | cons x l ih =>
      intro i k hk s
      have : Nat.blt k i = false := by rw [← Bool.not_eq_true, Nat.blt_eq]; omega
      simp only [runL, this, Bool.false_eq_true, if_false]
      exact ih _ _ (by omega) _
  intro l
  induction l with
  | nil =>
    intro i c s L s' c' q h hq
    simp only [rrunM, RR.done.injEq] at h
    obtain ⟨rfl, rfl, rfl, rfl⟩ := h
    exact ⟨rfl, Nat.le_refl _, rfl, fun j o x h => by simp at h⟩
  | cons o l ih =>
    intro i c s L s' c' q h hq
    simp only [rrunM] at h
    split at h
    · rename_i hinc
      split at h
      · rename_i L2 s2 c2 q2 hr
        simp only [RR.done.injEq] at h
        obtain ⟨rfl, rfl, rfl, rfl⟩ := h
        obtain ⟨i1, i0, i2, i3⟩ := ih hr hq
        refine ⟨by simp [i1], i0, by simp only [runL]; rw [i2]; rfl, ?_⟩
        intro j o' x ho hx
        cases j with
        | zero => simp at ho hx; subst hx; exact .inl ⟨hinc, rfl⟩
        | succ j =>
          have := i3 j o' x (by simpa using ho) (by simpa using hx)
          rw [show i + (j + 1) = i + 1 + j by omega]
          rcases this with h1 | ⟨k1, k2, p', k3, k4⟩
          · exact .inl h1
          · refine .inr ⟨k1, k2, p', ?_, k4⟩
            have hlt : Nat.blt i (i + 1 + j) = true := by rw [Nat.blt_eq]; omega
            simp only [runL, hlt, if_true]
            exact k3
      · rename_i hne
        exact absurd h (by intro hh; exact hne _ _ _ _ hh)
    · rename_i hinc
      split at h
      · rename_i e p rd hst
        split at h
        · rename_i L2 s2 c2 q2 hr
          simp only [RR.done.injEq] at h
          obtain ⟨rfl, rfl, rfl, rfl⟩ := h
          obtain ⟨hp, hq2⟩ := All.append.1 hq
          obtain ⟨i1, i0, i2, i3⟩ := ih hr hq2
          refine ⟨by simp [i1], by omega, by simp [runL, i2], ?_⟩
          intro j o' x ho hx
          cases j with
          | zero =>
            simp at ho hx; subst ho; subst hx
            refine .inr ⟨hinc, rfl, p, ?_, hp⟩
            rw [Nat.add_zero, skipL _ _ _ (Nat.le_refl _)]
            exact hst
          | succ j =>
            have := i3 j o' x (by simpa using ho) (by simpa using hx)
            rw [show i + (j + 1) = i + 1 + j by omega]
            rcases this with h1 | ⟨k1, k2, p', k3, k4⟩
            · exact .inl h1
            · refine .inr ⟨k1, k2, p', ?_, k4⟩
              have hlt : Nat.blt i (i + 1 + j) = true := by rw [Nat.blt_eq]; omega
              simp only [runL, hlt, if_true]
              exact k3
        · rename_i hne
          exact absurd h (by intro hh; exact hne _ _ _ _ hh)
      · cases h
      · cases h
structure Lst (ops : Array Oper) (M : List Nat) (inc : Nat → Bool) (fuel : Nat) (listed : Array Bool) : Prop where
  size : listed.size = ops.size
  count : ops.size ≤ fuel + (listed.toList.filter id).length
  closed : ∀ j o, ops[j]? = some o → listed.getD j false = true → ∀ e ∈ o.after.toList, Region.binds .any e = true → listed.getD e.on false = true
  base : ∀ i, i < ops.size → listed.getD i false = false → inc i = true
theorem Lst.set {ops : Array Oper} {M : List Nat} {inc inc' : Nat → Bool} {fuel : Nat} {listed : Array Bool} (h : Lst ops M inc (fuel + 1) listed) {j : Nat} (hj : j ∈ Region.ready .any ops listed) (hi : ∀ i, i ≠ j → inc i = true → inc' i = true) :
    Lst ops M inc' fuel (listed.setIfInBounds j true) := by
  obtain ⟨o, ho, hjlt, hnot, hpre⟩ := mem_ready' hj
  have hjs : j < listed.size := by rw [h.size]; exact hjlt
  have hnot' : listed.getD j false = false := by
    rw [Array.getD_eq_getD_getElem?, Array.getElem?_eq_getElem hjs] at hnot ⊢
    simpa using hnot
  refine ⟨by simpa using h.size, ?_, ?_, ?_⟩
  · have : ((listed.setIfInBounds j true).toList.filter id).length = (listed.toList.filter id).length + 1 := by
      rw [Array.toList_setIfInBounds]
      have hjl : j < listed.toList.length := by simpa using hjs
      have hval : listed.toList[j] = false := by
        rw [Array.getD_eq_getD_getElem?, Array.getElem?_eq_getElem hjs] at hnot'
        simpa using hnot'
      exact count_set hjl hval
    have := h.count
    omega
  · intro i oi hoi hi e he hb
    by_cases hij : i = j
    · subst hij
      rw [ho] at hoi; cases hoi
      have := hpre e he hb
      by_cases hej : e.on = i
      · rw [hej] at this; rw [hnot'] at this; cases this
      · rw [getD_set_ne _ (fun h => hej h.symm)]; exact this
    · rw [getD_set_ne _ (fun h => hij h.symm)] at hi
      exact getD_set_true (h.closed i oi hoi hi e he hb)
  · intro i hlt hf
    by_cases hij : i = j
    · subst hij
      rw [Array.getD_eq_getD_getElem?, Array.getElem?_setIfInBounds] at hf
      simp [hjs] at hf
    · rw [getD_set_ne _ (fun h => hij h.symm)] at hf
      exact hi i hij (h.base i hlt hf)
theorem Lst.down {ops : Array Oper} {M : List Nat} (hM : masksOk M ops.toList 0 = true) {inc : Nat → Bool} {fuel : Nat} {listed : Array Bool} (h : Lst ops M inc fuel listed) : ∀ (i k : Nat), listed.getD i false = true → (M.getD i 0).testBit k = true → listed.getD k false = true := by
  intro i
  induction i using Nat.strongRecOn with
  | _ i ihd =>
    intro k hi hk
    have his : i < ops.size := by
      have : i < listed.size := by
        by_cases hlt : i < listed.size
        · exact hlt
        · rw [Array.getD_eq_getD_getElem?, Array.getElem?_eq_none (by omega)] at hi; simp at hi
      rw [h.size] at this; exact this
    have hoi : ops[i]? = some ops[i] := Array.getElem?_eq_getElem his
    obtain ⟨m1, m2⟩ := masksOk_at hM (k := i) (o := ops[i]) (by rw [Array.getElem?_toList]; exact hoi)
    rw [Nat.zero_add] at m1 m2
    rw [m1] at hk
    obtain ⟨e, he, hb, hor⟩ := maskE_bit hk
    have h1 := h.closed i _ hoi hi e he hb
    rcases hor with rfl | hor
    · exact h1
    · exact ihd e.on (m2 e he hb) k h1 hor
theorem Lst.before {ops : Array Oper} {M : List Nat} (hM : masksOk M ops.toList 0 = true) {inc : Nat → Bool} {fuel : Nat} {listed : Array Bool} (h : Lst ops M inc fuel listed) {j : Nat} (hj : j ∈ Region.ready .any ops listed) {k : Nat} (hk : (M.getD j 0).testBit k = true) : listed.getD k false = true := by
  obtain ⟨o, ho, hjlt, hnot, hpre⟩ := mem_ready' hj
  obtain ⟨m1, m2⟩ := masksOk_at hM (k := j) (o := o) (by rw [Array.getElem?_toList]; exact ho)
  rw [Nat.zero_add] at m1 m2
  rw [m1] at hk
  obtain ⟨e, he, hb, hor⟩ := maskE_bit hk
  rcases hor with rfl | hor
  · exact hpre e he hb
  · exact h.down hM e.on k (hpre e he hb) hor
theorem ready_not {ops : Array Oper} {listed : Array Bool} (hs : listed.size = ops.size) {j : Nat} (hj : j ∈ Region.ready .any ops listed) : listed.getD j false = false := by
  obtain ⟨o, ho, hjlt, hnot, hpre⟩ := mem_ready' hj
  have hjs : j < listed.size := by rw [hs]; exact hjlt
  rw [Array.getD_eq_getD_getElem?, Array.getElem?_eq_getElem hjs] at hnot ⊢
  simpa using hnot
theorem any_set {ops : Array Oper} {M : List Nat} (hM : masksOk M ops.toList 0 = true) {inc : Nat → Bool} {cz : Nat} {ρ0 : Ren} (St : Array Bool → S) (Iv : Array Bool → Prop)
    (full : ∀ fuel listed a w ρ1, Lst ops M inc fuel listed → Iv listed → (∀ i, i < ops.size → listed.getD i false = true) → Rel w0 N ρ1 (St listed) a w → ρ0.up cz ρ1 → Q .normal a w)
    (step : ∀ fuel j listed a w ρ1, Lst ops M inc (fuel + 1) listed → Iv listed → j ∈ Region.ready .any ops listed → Rel w0 N ρ1 (St listed) a w → ρ0.up cz ρ1 →
      wpOpIn (Fd rr) 0 P ops Q j (wpAnyIn (Fd rr) 0 P .any ops Q fuel (listed.setIfInBounds j true)) a w ∨
      (Iv (listed.setIfInBounds j true) ∧ wpOpIn (Fd rr) 0 P ops Q j (fun a' w' => ∃ ρ', Rel w0 N ρ' (St (listed.setIfInBounds j true)) a' w' ∧ ρ0.up cz ρ') a w)) :
    ∀ fuel listed a w ρ1, Lst ops M inc fuel listed → Iv listed → Rel w0 N ρ1 (St listed) a w → ρ0.up cz ρ1 → wpAnyIn (Fd rr) 0 P .any ops Q fuel listed a w := by
  intro fuel
  induction fuel with
  | zero =>
    intro listed a w ρ1 hL hI h1 hle
    have hfull : ∀ i, i < ops.size → listed.getD i false = true := by
      intro i hi
      have hs := hL.size
      have hcount := hL.count
      have hl : (listed.toList.filter id).length = listed.toList.length := by
        have := List.length_filter_le id listed.toList
        simp at this hcount ⊢; omega
      rw [List.length_filter_eq_length_iff] at hl
      have hi' : i < listed.size := by omega
      have := hl listed[i] (by simp)
      rw [Array.getD_eq_getD_getElem?, Array.getElem?_eq_getElem hi']
      simpa using this
    have hnil : Region.ready .any ops listed = [] := by
      rw [List.eq_nil_iff_forall_not_mem]
      intro j hj
      have := ready_not hL.size hj
      obtain ⟨o, ho, hjlt, _⟩ := mem_ready' hj
      rw [hfull j hjlt] at this; cases this
    exact ⟨hnil, full 0 listed a w ρ1 hL hI hfull h1 hle⟩
  | succ fuel ih =>
    intro listed a w ρ1 hL hI h1 hle
    refine ⟨fun hnil => full _ listed a w ρ1 hL hI (ready_nil hL.size hM hnil) h1 hle, ?_⟩
    intro j hj
    rcases step fuel j listed a w ρ1 hL hI hj h1 hle with h | ⟨hI', h⟩
    · exact h
    · refine wpOpIn_mono ?_ h
      rintro a' w' ⟨ρ', hrel, hle'⟩
      exact ih _ a' w' ρ' (hL.set hj fun i _ hi => hi) hI' hrel hle'
theorem canon {ops : Array Oper} {M : List Nat} (hM : masksOk M ops.toList 0 = true) {inc : Nat → Bool} {fuel : Nat} {listed : Array Bool} (hL : Lst ops M inc fuel listed) {j : Nat} (hj : j ∈ Region.ready .any ops listed)
    {L : List Item} (hlen : L.length = ops.toList.length) (hP : allPairsOk ops M L ops.toList L 0 = true) {o : Oper} (ho : ops[j]? = some o) {y : Item} (hy : L[j]? = some y) (hd : ∀ d, y.1 = some d → o.dst = some d) (s : S) :
    (∀ t, t ∈ uses ops o → (runL (fun k => listed.getD k false) L 0 s).tm t = (runL (fun k => Nat.blt k j) L 0 s).tm t) ∧
    (∀ m, (m ∈ y.2.rd ∨ m ∈ y.2.touch) → (runL (fun k => listed.getD k false) L 0 s).hp m = (runL (fun k => Nat.blt k j) L 0 s).hp m) ∧
    runL (fun k => (listed.setIfInBounds j true).getD k false) L 0 s = doit y.1 y.2 (runL (fun k => listed.getD k false) L 0 s) := by
  have hnot' := ready_not hL.size hj
  obtain ⟨_, _, hjlt, _⟩ := mem_ready' hj
  have hjs : j < listed.size := by rw [hL.size]; exact hjlt
  have hpairs := allPairsOk_at hP (k := j) (o := o) (y := y) (by rw [Array.getElem?_toList]; exact ho) hy
  rw [Nat.zero_add] at hpairs
  have hsame : ∀ k x, L[k]? = some x → k ≠ j → conf (uses ops o) x y = true → listed.getD k false = Nat.blt k j := by
    intro k x hx hne hc
    have hp := pairsOk_at hpairs hx (by omega) hc
    rw [Nat.zero_add] at hp
    by_cases hlt : k < j
    · rw [hL.before hM hj (hp.1 hlt)]; rw [eq_comm, Nat.blt_eq]; exact hlt
    · have hgt : j < k := by omega
      have : Nat.blt k j = false := by rw [← Bool.not_eq_true, Nat.blt_eq]; omega
      rw [this]
      cases hk : listed.getD k false with
      | false => rfl
      | true => have := hL.down hM k j hk (hp.2 hgt); rw [hnot'] at this; cases this
  have hmem : ∀ {d : Nat} {l : List Nat}, d ∈ l → l.elem d = true := fun h => List.elem_eq_true_of_mem h
  refine ⟨?_, ?_, ?_⟩
  · intro t ht
    refine runL_tm L 0 s s rfl (fun k x hx hxt => ?_)
    rw [Nat.zero_add]
    by_cases e : k = j
    · subst e
      rw [hnot', eq_comm, ← Bool.not_eq_true, Nat.blt_eq]; omega
    · exact hsame k x hx e (by unfold conf; rw [hxt]; simp only [hmem ht, Bool.true_or])
  · intro m hm
    refine runL_hp L 0 s s rfl (fun k x hx hxm => ?_)
    rw [Nat.zero_add]
    by_cases e : k = j
    · subst e
      rw [hnot', eq_comm, ← Bool.not_eq_true, Nat.blt_eq]; omega
    · refine hsame k x hx e ?_
      unfold conf
      rw [Bool.or_eq_true]; right
      rw [List.any_eq_true]
      refine ⟨m, hxm, ?_⟩
      rcases hm with hm | hm
      · rw [hmem hm]; rfl
      · rw [hmem hm]; simp
  · exact runL_ins (D := fun k => listed.getD k false) (D' := fun k => (listed.setIfInBounds j true).getD k false) y L 0 j s hy
      (by rw [Nat.zero_add]; exact hnot')
      (by rw [Nat.zero_add, Array.getD_eq_getD_getElem?, Array.getElem?_setIfInBounds]; simp [hjs])
      (fun k hk => by rw [Nat.zero_add] at hk; exact getD_set_ne _ (fun h => hk h.symm))
      (fun k z hz hjk hD t => by
        rw [Nat.zero_add] at hD
        have hnc : conf (uses ops o) z y = false := by
          cases hc : conf (uses ops o) z y with
          | false => rfl
          | true =>
            have := hsame k z hz (by omega) hc
            rw [hD, eq_comm, Nat.blt_eq] at this; omega
        unfold conf at hnc
        rw [Bool.or_eq_false_iff] at hnc
        refine doit_comm z y t ?_ ?_
        · intro d hd1 hd'
          rw [hd1] at hnc
          have : d ∈ uses ops o := by unfold uses; rw [hd d hd']; simp
          have := hmem this
          simp only at hnc
          rw [this] at hnc; cases hnc.1
        · intro m hm hm'
          have := hnc.2
          rw [List.any_eq_false] at this
          have := this m hm
          rw [hmem hm'] at this; simp at this)
theorem runL_id {D : Nat → Bool} : ∀ (L : List Item) (i : Nat) (s : S), (∀ k x, L[k]? = some x → D (i + k) = true → x = nullI) → runL D L i s = s := by
  intro L
  induction L with
  | nil => intro i s _; rfl
  | cons x L ih =>
    intro i s h
    simp only [runL]
    have e : (if D i = true then doit x.1 x.2 s else s) = s := by
      split
      · rename_i hd
        have := h 0 x rfl (by simpa using hd)
        subst this; rfl
      · rfl
    rw [e]
    exact ih _ _ fun k y hk hy => h (k + 1) y (by simpa using hk) (by rw [show i + (k + 1) = i + 1 + k by omega]; exact hy)
theorem S.ext' {a b : S} (h1 : ∀ t, a.tm t = b.tm t) (h2 : ∀ m, a.hp m = b.hp m) (h3 : a.st = b.st) : a = b := by
  obtain ⟨t1, p1, s1⟩ := a
  obtain ⟨t2, p2, s2⟩ := b
  simp only at h1 h2 h3
  obtain rfl : t1 = t2 := funext h1
  obtain rfl : p1 = p2 := funext h2
  subst h3; rfl
theorem look_tm {s s' : S} {x : Operand} (h : ∀ t, x = .tmp t → s.tm t = s'.tm t) : look G s x = look G s' x := by
  cases x with
  | tmp t => exact h t rfl
  | _ => rfl
theorem lookAll_tm {s s' : S} : ∀ {l : List Operand}, (∀ t, Operand.tmp t ∈ l → s.tm t = s'.tm t) → lookAll G s l = lookAll G s' l := by
  intro l
  induction l with
  | nil => intro _; rfl
  | cons x l ih =>
    intro h
    simp only [lookAll]
    rw [look_tm (x := x) (fun t e => h t (by rw [e]; exact List.mem_cons_self ..)), ih fun t ht => h t (List.mem_cons_of_mem _ ht)]
theorem spOf_tm {s s' : S} {o : Oper} (h : ∀ t, t ∈ opTmps o.op.operands.toList → s.tm t = s'.tm t) : spOf G yh inl o s = spOf G yh inl o s' := by
  unfold spOf
  split
  · rename_i cl ho
    split
    · rename_i f hcal
      have hin : ∀ x, x = f ∨ x ∈ cl.args.toList → x ∈ o.op.operands.toList := by
        intro x hx
        rw [ho]
        rcases hx with rfl | hx
        · simp [Op.operands, Call.operands, hcal]
        · have hx' : x ∈ cl.args := by simpa using hx
          simp [Op.operands, Call.operands, hcal, hx']
      rw [look_tm (x := f) (fun t e => h t (mem_opTmps (hin _ (.inl e.symm)))), lookAll_tm fun t ht => h t (mem_opTmps (hin _ (.inr ht)))]
    · rfl
  · rfl
theorem callT_tm {ex : Run} {fn : Func} {args : List A} {c : Nat} {s : S} {tm' : Nat → Option V} {R : V × Nat × S → Prop} (hk : keepT { s with tm := tm' } c [] N = true) (h : (callT P N ex fn args wk c s).wp R) :
    (callT P N ex fn args wk c { s with tm := tm' }).wp fun r => ∃ s2, R (r.1, r.2.1, s2) ∧ s2.tm = s.tm ∧ r.2.2 = { s2 with tm := tm' } := by
  unfold callT at h ⊢
  split at h
  · rename_i code hb hck
    simp only [Bool.and_eq_true] at hck
    rw [hb, hk, hck.2]
    refine T.bind_wp (T.wp_mono ?_ (T.wp_bind h))
    rintro ⟨e, c', s'⟩ hr
    cases e with
    | exit i => exact hr
    | normal =>
      simp only at hr ⊢
      split at hr
      · rename_i ps hps
        exact ⟨{ s' with tm := s.tm }, hr, rfl, rfl⟩
      · exact hr.elim
    | ret =>
      simp only at hr ⊢
      split at hr
      · rename_i ps hps
        exact ⟨{ s' with tm := s.tm }, hr, rfl, rfl⟩
      · exact hr.elim
  · exact h.elim
theorem keepT_of {s : S} {c : Nat} : ∀ {N : Nat}, (∀ t v, t < N → s.tm t = some v → allLt c v.all = true) → keepT s c [] N = true := by
  intro N
  induction N with
  | zero => intro _; rfl
  | succ N ih =>
    intro h
    simp only [keepT, Bool.and_eq_true, Bool.or_eq_true]
    refine ⟨.inr ?_, ih fun t v ht hv => h t v (by omega) hv⟩
    split
    · rename_i v hv; exact h N v (by omega) hv
    · rfl
theorem keepT_lt {s : S} {c : Nat} {t : Nat} {v : V} (h : keepT s c [] N = true) (ht : t < N) (hv : s.tm t = some v) : allLt c v.all = true := by
  unfold allLt
  rw [List.all_eq_true]
  intro m hm
  rw [Nat.blt_eq]
  exact keepT_at h ht rfl hv m hm
theorem runL_keepT {D : Nat → Bool} {c : Nat} : ∀ {L : List Item} {i : Nat} {s : S}, valsLt c L = true → keepT s c [] N = true → keepT (runL D L i s) c [] N = true := by
  intro L
  induction L with
  | nil => intro i s _ h; exact h
  | cons x L ih =>
    intro i s hv h
    simp only [valsLt, Bool.and_eq_true] at hv
    simp only [runL]
    refine ih hv.2 ?_
    split
    · refine keepT_of fun t v ht hvt => ?_
      obtain ⟨d, r⟩ := x
      by_cases hd : d = some t
      · subst hd
        unfold doit at hvt
        simp only at hvt
        split at hvt
        · rename_i e he
          simp only [act, upd_same] at hvt
          have := hv.1
          simp only at this
          rw [he] at this
          simp only at this
          rw [hvt] at this
          exact this
        · simp only [skip, upd_same] at hvt
          cases hvt
      · rw [doit_tm_ne (d, r) s t hd] at hvt
        exact keepT_lt h ht hvt
    · exact h
theorem lateOk_at {ops : Array Oper} {M : List Nat} {inc : Nat → Bool} {j : Nat} {oj : Oper} {c1 : Nat} : ∀ {L : List Item} {i k : Nat} {x : Item}, lateOk ops M inc j oj c1 L i = true → L[k]? = some x → inc (i + k) = true → (M.getD j 0).testBit (i + k) = false →
    ∃ o e d, ops[i + k]? = some o ∧ x.2.e = some e ∧ x.1 = some d ∧ e.nw = [] ∧ e.wr = [] ∧ d ∉ uses ops oj ∧ (∀ dj, oj.dst = some dj → dj ∉ uses ops o) ∧ allLt c1 x.2.rd = true := by
  intro L
  induction L with
  | nil => intro i k x _ h; simp at h
  | cons y L ih =>
    intro i k x h hk hinc hbit
    simp only [lateOk, Bool.and_eq_true] at h
    cases k with
    | zero =>
      simp at hk; subst hk
      simp only [Nat.add_zero] at hinc hbit ⊢
      have h1 := h.1
      rw [hinc, hbit] at h1
      simp only [Bool.not_false, Bool.and_self] at h1
      split at h1
      · rename_i o e d ho he hd
        simp only [Bool.and_eq_true, List.isEmpty_iff, Bool.not_eq_true'] at h1
        obtain ⟨⟨⟨⟨g1, g2⟩, g3⟩, g4⟩, g5⟩ := h1
        refine ⟨o, e, d, ho, he, hd, g1, g2, (fun hm => by rw [List.elem_eq_true_of_mem hm] at g3; cases g3), fun dj hdj hm => ?_, g5⟩
        rw [hdj] at g4
        simp only [Bool.not_eq_true'] at g4
        rw [List.elem_eq_true_of_mem hm] at g4; cases g4
      · cases h1
    | succ k =>
      have := ih (i := i + 1) (k := k) h.2 (by simpa using hk) (by rw [show i + 1 + k = i + (k + 1) by omega]; exact hinc) (by rw [show i + 1 + k = i + (k + 1) by omega]; exact hbit)
      rw [show i + 1 + k = i + (k + 1) by omega] at this
      exact this
theorem lateRd_at {M : List Nat} {inc : Nat → Bool} {j : Nat} {m : Nat} : ∀ {L : List Item} {i k : Nat} {x : Item}, L[k]? = some x → inc (i + k) = true → (M.getD j 0).testBit (i + k) = false → m ∈ x.2.rd → m ∈ lateRd M inc j L i := by
  intro L
  induction L with
  | nil => intro i k x h; simp at h
  | cons y L ih =>
    intro i k x hk hinc hbit hm
    simp only [lateRd]
    cases k with
    | zero =>
      simp at hk; subst hk
      simp only [Nat.add_zero] at hinc hbit
      rw [hinc, hbit]
      simp only [Bool.not_false, Bool.and_self]
      exact List.mem_append_left _ hm
    | succ k =>
      refine List.mem_append_right _ (ih (k := k) (by simpa using hk) ?_ ?_ hm)
      · rw [show i + 1 + k = i + (k + 1) by omega]; exact hinc
      · rw [show i + 1 + k = i + (k + 1) by omega]; exact hbit
theorem behindB_at {M : List Nat} {n : Nat} {inc1 inc2 : Nat → Bool} (h : behindB M n inc1 inc2 = true) {k i : Nat} (hk : k < n) (hi : i < n) (h2 : inc2 k = true) (h1 : inc1 i = true) : (M.getD k 0).testBit i = true := by
  unfold behindB at h
  have := List.all_eq_true.1 h k (List.mem_range.2 hk)
  rw [h2] at this
  have := List.all_eq_true.1 this i (List.mem_range.2 hi)
  rw [h1] at this
  simpa using this
theorem sideB_at {ops : Array Oper} {M : List Nat} {n : Nat} {inc1 inc2 : Nat → Bool} (h : sideB ops M n inc1 inc2 = true) {k b : Nat} (hk : k < n) (hb : b < n) (h1 : inc1 k = true) (h2 : inc2 b = true) {ok ob : Oper} (hok : ops[k]? = some ok) (hob : ops[b]? = some ob) :
    (M.getD b 0).testBit k = true ∨ ((∀ d, ok.dst = some d → d ∉ uses ops ob) ∧ (∀ d, ob.dst = some d → d ∉ uses ops ok)) := by
  unfold sideB at h
  have := List.all_eq_true.1 h b (List.mem_range.2 hb)
  rw [h2] at this
  have := List.all_eq_true.1 this k (List.mem_range.2 hk)
  rw [h1, hok, hob] at this
  simp only [Bool.not_true, Bool.false_or, Bool.or_eq_true, Bool.and_eq_true] at this
  rcases this with h3 | ⟨h3, h4⟩
  · exact .inl h3
  · refine .inr ⟨fun d hd hm => ?_, fun d hd hm => ?_⟩
    · rw [hd] at h3
      simp only [Bool.not_eq_true'] at h3
      rw [List.elem_eq_true_of_mem hm] at h3; cases h3
    · rw [hd] at h4
      simp only [Bool.not_eq_true'] at h4
      rw [List.elem_eq_true_of_mem hm] at h4; cases h4
theorem pureL_at : ∀ {L : List Item}, pureL L = true → ∀ (k : Nat) (x : Item), L[k]? = some x → ∀ e, x.2.e = some e → e.nw = [] ∧ e.wr = [] := by
  intro L
  induction L with
  | nil => intro _ k x h; simp at h
  | cons y L ih =>
    intro h k x hk e he
    simp only [pureL, Bool.and_eq_true] at h
    cases k with
    | zero =>
      simp at hk; subst hk
      have h1 := h.1
      rw [he] at h1
      simpa using h1
    | succ k => exact ih h.2 k x (by simpa using hk) e he
theorem spOf_inlX {o : Oper} {s : S} {fn : Func} {ex : Run} {args : List A} (e : spOf G yh inl o s = some (.inl fn ex args)) : ∃ g, inl g = some (fn, ex) := by
  unfold spOf at e
  split at e
  · split at e
    · split at e
      · split at e <;> cases e
      · split at e
        · rename_i hig
          simp only [Option.some.injEq, Sp.inl.injEq] at e
          obtain ⟨rfl, rfl, rfl⟩ := e
          exact ⟨_, hig⟩
        · cases e
      · cases e
    · cases e
  · cases e
theorem wpAny_nil {ops : Array Oper} {fuel : Nat} {listed : Array Bool} (h : wpAnyIn (Fd rr) 0 P .any ops Q fuel listed a w) (hn : Region.ready .any ops listed = []) : Q .normal a w := by
  cases fuel with
  | zero => exact h.2
  | succ fuel => exact h.1 hn
theorem pure_doit {d : Tmp} {r : Rec} {e : Eff} (he : r.e = some e) (hn : e.nw = []) (hw : e.wr = []) (s : S) : doit (some d) r s = { s with tm := upd s.tm d e.val } := by
  unfold doit act
  rw [he]
  simp only [hn, hw]
  rfl
section
variable {LV : Nat}
theorem spOf_ylX {o : Oper} {s : S} {k : Nat} {h : YH} {args : List A} (e : spOf G yh inl o s = some (.yl k h args)) : yh k = some h := by
  unfold spOf at e
  split at e
  · split at e
    · split at e
      · split at e
        · rename_i h' hh
          simp only [Option.some.injEq, Sp.yl.injEq] at e
          obtain ⟨rfl, rfl, _⟩ := e
          exact hh
        · cases e
      · split at e
        · cases e
        · cases e
      · cases e
    · cases e
  · cases e
theorem spT_keep {wk' : Nat → Bool} (hyk : ∀ k h, yh k = some h → HKeep h) (hik : ∀ g fn ex, inl g = some (fn, ex) → RKeep ex) {o : Oper} {s0 : S} {sp : Sp} (hsp : spOf G yh inl o s0 = some sp) {c : Nat} {s : S} :
    (spT P N sp wk' c s).all fun r => c ≤ r.2.1 ∧ r.2.2.tm = s.tm ∧ ∀ m, m < c → wk' m = false → r.2.2.hp m = s.hp m := by
  cases sp with
  | yl k h args => exact T.all_bind (T.all_mono (fun r hr => hr) ((hyk k h (spOf_ylX hsp)).1 args wk' c s))
  | inl fn ex args =>
    obtain ⟨g0, hg0⟩ := spOf_inlX hsp
    exact callT_keep (hik g0 fn ex hg0)
theorem spT_tm {wk' : Nat → Bool} (hyk : ∀ k h, yh k = some h → HKeep h) {o : Oper} {s0 : S} {sp : Sp} (hsp : spOf G yh inl o s0 = some sp) {c : Nat} {s : S} {tm' : Nat → Option V} {R : V × Nat × S → Prop} (hk : keepT { s with tm := tm' } c [] N = true) (h : (spT P N sp wk' c s).wp R) :
    (spT P N sp wk' c { s with tm := tm' }).wp fun r => ∃ s2, R (r.1, r.2.1, s2) ∧ s2.tm = s.tm ∧ r.2.2 = { s2 with tm := tm' } := by
  cases sp with
  | yl k hd args =>
    refine T.bind_wp (T.wp_mono ?_ ((hyk k hd (spOf_ylX hsp)).2 args wk' c s tm' _ (T.wp_bind h)))
    rintro ⟨b, c', s'⟩ ⟨s2, q1, q2, q3⟩
    exact ⟨s2, q1, q2, q3⟩
  | inl fn ex args => exact callT_tm hk h
theorem segT_sound {K : Ren → Prop} {cz : Nat} (hst : ∀ w w', gw w → Below w.heap.size w w' → gw w') (hgw0 : gw w0) (hsg : ∀ f σ, sg f = some σ → SumOK P G gw f σ)
    (kA : ∀ {ρ}, K ρ → Amb P G gw ρ) (kL : ∀ {ρ}, K ρ → LpOK w0 ρ) (kF : ∀ {ρ : Ren} fx', K ρ → LpOK w0 { ρ with fx := fx' } → K { ρ with fx := fx' }) (kU : ∀ {ρ ρ'}, K ρ → ρ.up cz ρ' → K ρ')
    (hy : ∀ k h, yh k = some h → HOK P w0 K cz k h) (hi : InlOK P w0 LV K cz inl) (hyk : ∀ k h, yh k = some h → HKeep h) (hik : ∀ g fn ex, inl g = some (fn, ex) → RKeep ex)
    {ops : Array Oper} {M : List Nat} (hM : masksOk M ops.toList 0 = true) {R : St3 → Prop} {ρ0 : Ren} (hK0 : K ρ0) :
    ∀ (n : Nat) (inc : Nat → Bool) (c : Nat) (s : S) (fuel : Nat) (listed : Array Bool) (a : Act) (w : World) (ρ1 : Ren), Lst ops M inc fuel listed → (∀ i, i < ops.size → inc i = true → listed.getD i false = false) →
      Rel w0 N ρ1 s a w → cz ≤ c → ρ0.up cz ρ1 → (segT P G N sg yh inl wk ops M n inc c s).wp R → wpAnyIn (Fd rr) 0 P .any ops (CP cz w0 N ρ0 R) fuel listed a w := by
  intro n
  induction n with
  | zero => intro inc c s fuel listed a w ρ1 _ _ _ _ _ h; exact h.elim
  | succ n ihn =>
    intro inc c s fuel listed a w ρ1 hL hinc hrel hcz hup h
    simp only [segT] at h
    split at h
    · -- no call to be carried out
      split at h
      · rename_i L s' c' p hr
        split at h
        · rename_i hP
          obtain ⟨hp, hR⟩ := T.wp_needs h
          obtain ⟨hlen, hcc, hs', hall⟩ := rrunM_spec hr hp
          have hrun0 : runL (fun k => listed.getD k false) L 0 s = s := by
            refine runL_id L 0 s fun k x hk hd => ?_
            have hlt : k < ops.size := by have := (List.getElem?_eq_some_iff.1 hk).1; rw [hlen] at this; simpa using this
            rcases hall k ops[k] x (by rw [Array.getElem?_toList]; exact Array.getElem?_eq_getElem hlt) hk with ⟨_, h2⟩ | ⟨h2, _⟩
            · exact h2
            · rw [Nat.zero_add] at h2 hd
              rw [hinc k hlt h2] at hd; cases hd
          refine any_set (rr := rr) (Q := CP cz w0 N ρ0 R) hM (inc := inc) (cz := cz) (ρ0 := ρ0) (fun listed => runL (fun k => listed.getD k false) L 0 s) (fun _ => True) ?_ ?_ fuel listed a w ρ1 hL trivial (by rw [hrun0]; exact hrel) hup
          · intro fuel listed a w ρ2 hL2 _ hfull h2 hle
            refine ⟨c', s', ρ2, hR, ?_, hle⟩
            rw [hs', ← runL_all (D := fun k => listed.getD k false) L 0 s (fun k hk => by
              rw [Nat.zero_add]; exact hfull k (by rw [hlen] at hk; simpa using hk))]
            exact h2
          · intro fuel j listed a w ρ2 hL2 _ hj h2 hle
            refine .inr ⟨trivial, ?_⟩
            obtain ⟨o, ho, hjlt, _⟩ := mem_ready' hj
            have hjL : j < L.length := by rw [hlen]; simpa using hjlt
            have hy' : L[j]? = some L[j] := List.getElem?_eq_getElem hjL
            have hij := hL2.base j hjlt (ready_not hL2.size hj)
            rcases hall j o L[j] (by rw [Array.getElem?_toList]; exact ho) hy' with ⟨h3, _⟩ | ⟨_, k1, p', k2, k3⟩
            · rw [Nat.zero_add] at h3; rw [hij] at h3; cases h3
            · rw [Nat.zero_add] at k2
              obtain ⟨a1, a2, a3⟩ := canon hM hL2 hj hlen hP ho hy' (fun d hd => by rw [← k1]; exact hd) s
              have st := stepA_sound (rr := rr) (Q := CP cz w0 N ρ0 R) hsg (kA (kU hK0 hle)) (hst _ _ hgw0 h2.bel) ho k2 k3 h2 a1 (fun m hm => a2 m (.inl hm)) (fun m hm => a2 m (.inr hm))
              refine wpOpIn_mono ?_ st
              rintro a' w' ⟨ρ', hrel', hle'⟩
              refine ⟨ρ', ?_, Ren.up_trans hle hle'.up⟩
              rw [a3, k1]; exact hrel'
        · exact h.elim
      · exact h.elim
    · rename_i j hfs
      split at h
      · rename_i o L s1 c1 p ho hr
        split at h
        · rename_i sp hok hsp
          simp only [Bool.and_eq_true] at hok
          obtain ⟨⟨⟨⟨⟨⟨⟨hincj, hg⟩, hdst⟩, hkT⟩, hvals⟩, hP⟩, hcc'⟩, hlate⟩ := hok
          obtain ⟨hp, hR⟩ := T.wp_needs h
          obtain ⟨inc1, hinc1⟩ : ∃ inc1 : Nat → Bool, inc1 = fun k => inc k && !Nat.beq k j && !(M.getD k 0).testBit j := ⟨_, rfl⟩
          obtain ⟨inc2, hinc2⟩ : ∃ inc2 : Nat → Bool, inc2 = fun k => inc k && (M.getD k 0).testBit j := ⟨_, rfl⟩
          rw [← hinc1] at hr hlate hR
          rw [← hinc2] at hR
          obtain ⟨hlen, hcc, hs1, hall⟩ := rrunM_spec hr hp
          have hlen' : L.length = ops.size := by rw [hlen]; simp
          have hjlt : j < ops.size := by
            have := (Array.getElem?_eq_some_iff.1 ho).1; exact this
          have hcases : ∀ i, inc i = true → i ≠ j → inc1 i = true ∨ inc2 i = true := by
            intro i hi hne
            rw [hinc1, hinc2]
            simp only [hi, Bool.true_and]
            have hb : Nat.beq i j = false := by
              cases hb : Nat.beq i j with
              | false => rfl
              | true => exact absurd (Nat.eq_of_beq_eq_true hb) hne
            rw [hb]
            cases (M.getD i 0).testBit j <;> simp
          have h1inc : ∀ i, inc1 i = true → inc i = true ∧ i ≠ j ∧ (M.getD i 0).testBit j = false := by
            intro i hi
            rw [hinc1] at hi
            simp only [Bool.and_eq_true, Bool.not_eq_true'] at hi
            exact ⟨hi.1.1, fun e => by rw [e] at hi; simp at hi, hi.2⟩
          have hnull : ∀ k x, L[k]? = some x → inc1 k = false → x = nullI := by
            intro k x hk hf
            have hlt : k < ops.size := by have := (List.getElem?_eq_some_iff.1 hk).1; omega
            rcases hall k ops[k] x (by rw [Array.getElem?_toList]; exact Array.getElem?_eq_getElem hlt) hk with ⟨_, h2⟩ | ⟨h2, _⟩
            · exact h2
            · rw [Nat.zero_add, hf] at h2; cases h2
          have hlateAt : ∀ k x, L[k]? = some x → inc1 k = true → (M.getD j 0).testBit k = false → ∃ o' e d, ops[k]? = some o' ∧ x.2.e = some e ∧ x.1 = some d ∧ e.nw = [] ∧ e.wr = [] ∧ d ∉ uses ops o ∧ (∀ dj, o.dst = some dj → dj ∉ uses ops o') ∧ allLt c1 x.2.rd = true := by
            intro k x hk hi1 hb
            have := lateOk_at (i := 0) hlate hk (by rw [Nat.zero_add]; exact hi1) (by rw [Nat.zero_add]; exact hb)
            rw [Nat.zero_add] at this
            exact this
          have hbj : (M.getD j 0).testBit j = false := by
            cases hb : (M.getD j 0).testBit j with
            | false => rfl
            | true =>
              exfalso
              -- no operation stands before itself
              have key : ∀ i, ∀ k, i ≤ k → i < ops.size → (M.getD i 0).testBit k = true → False := by
                intro i
                induction i using Nat.strongRecOn with
                | _ i ihi =>
                  intro k hk hlt hb
                  obtain ⟨m1, m2⟩ := masksOk_at hM (k := i) (o := ops[i]) (by rw [Array.getElem?_toList]; exact Array.getElem?_eq_getElem hlt)
                  rw [Nat.zero_add] at m1 m2
                  rw [m1] at hb
                  obtain ⟨e, he, hbi, hor⟩ := maskE_bit hb
                  have h1 := m2 e he hbi
                  rcases hor with rfl | hor
                  · omega
                  · exact ihi e.on h1 k (by omega) (by omega) hor
              exact key j j (Nat.le_refl _) hjlt hb
          have hrun0 : runL (fun k => listed.getD k false) L 0 s = s := by
            refine runL_id L 0 s fun k x hk hd => ?_
            have hlt : k < ops.size := by have := (List.getElem?_eq_some_iff.1 hk).1; omega
            cases hk1 : inc1 k with
            | false => exact hnull k x hk hk1
            | true =>
              rw [Nat.zero_add, hinc k hlt (h1inc k hk1).1] at hd; cases hd
          refine any_set (rr := rr) (Q := CP cz w0 N ρ0 R) hM (inc := inc) (cz := cz) (ρ0 := ρ0) (fun listed => runL (fun k => listed.getD k false) L 0 s) (fun listed => ∀ i, i < ops.size → inc i = true → inc1 i = false → listed.getD i false = false) ?_ ?_ fuel listed a w ρ1 hL (fun i hi h1 _ => hinc i hi h1) (by rw [hrun0]; exact hrel) hup
          · intro fuel listed a w ρ2 hL2 hI hfull h2 hle
            have := hI j hjlt hincj (by rw [hinc1]; simp [hincj])
            rw [hfull j hjlt] at this; cases this
          · intro fuel k listed a w ρ2 hL2 hI hk h2 hle
            obtain ⟨ok, hok', hklt, _⟩ := mem_ready' hk
            have hkn := ready_not hL2.size hk
            have hki := hL2.base k hklt hkn
            have hkL : k < L.length := by omega
            have hy' : L[k]? = some L[k] := List.getElem?_eq_getElem hkL
            by_cases hkj : k = j
            · -- the call
              subst hkj
              rw [ho] at hok'; cases hok'
              refine .inl ?_
              obtain ⟨sD, hsD⟩ : ∃ sD, sD = runL (fun i => listed.getD i false) L 0 s := ⟨_, rfl⟩
              try simp only at h2
              rw [← hsD] at h2
              have hunl : ∀ i x, L[i]? = some x → listed.getD i false = false → x = nullI ∨ (inc1 i = true ∧ (M.getD k 0).testBit i = false) := by
                intro i x hx hf
                cases h1 : inc1 i with
                | false => exact .inl (hnull i x hx h1)
                | true =>
                  refine .inr ⟨rfl, ?_⟩
                  cases hb : (M.getD k 0).testBit i with
                  | false => rfl
                  | true => rw [hL2.before hM hk hb] at hf; cases hf
              have hhp : ∀ m, sD.hp m = s1.hp m := by
                intro m
                rw [hsD, hs1]
                refine runL_hp L 0 s s rfl fun i x hx hm => ?_
                rw [Nat.zero_add]
                cases hf : listed.getD i false with
                | true => rfl
                | false =>
                  exfalso
                  rcases hunl i x hx hf with rfl | ⟨g1, g2⟩
                  · cases hm
                  · obtain ⟨o', e, d, _, he, _, hn, hw, _⟩ := hlateAt i x hx g1 g2
                    unfold Rec.touch at hm
                    rw [he] at hm
                    simp only [hn, hw] at hm
                    cases hm
              have hstq : sD.st = s1.st := by rw [hsD, hs1, runL_st, runL_st]
              have htm : ∀ t, t ∈ uses ops o → sD.tm t = s1.tm t := by
                intro t ht
                rw [hsD, hs1]
                refine runL_tm L 0 s s rfl fun i x hx hxt => ?_
                rw [Nat.zero_add]
                cases hf : listed.getD i false with
                | true => rfl
                | false =>
                  exfalso
                  rcases hunl i x hx hf with rfl | ⟨g1, g2⟩
                  · cases hxt
                  · obtain ⟨o', e, d, _, he, hd, hn, hw, hnu, _⟩ := hlateAt i x hx g1 g2
                    rw [hd] at hxt; cases hxt
                    exact hnu ht
              have hsDe : sD = { s1 with tm := sD.tm } := S.ext' (fun _ => rfl) hhp hstq
              have hkT' : keepT { s1 with tm := sD.tm } c1 [] N = true := by
                rw [← hsDe, hsD]
                exact runL_keepT hvals hkT
              have hspD : spOf G yh inl o sD = some sp := (spOf_tm fun t ht => htm t (by unfold uses; exact List.mem_append_right _ ht)).trans hsp
              have h1 := T.wp_all (T.wp_bind hR) (spT_keep hyk hik hsp)
              have h3 := spT_tm hyk hsp (tm' := sD.tm) hkT' h1
              rw [← hsDe] at h3
              have hkD : keepT sD c1 [] N = true := by rw [hsDe]; exact hkT'
              have hop : (opX P G N sg yh inl (fun m => wk m && !memN (lateRd M inc1 k L 0) m) o c1 sD).wp (fun r => ∃ v s2, ((match behindB M ops.size inc1 inc2 with | true => segT P G N sg yh inl wk ops M n inc2 r.1 (putS o.dst v s2) | false => restT P G N sg wk ops M inc1 inc2 r.1 (putS o.dst v s2)).wp R ∧ c1 ≤ r.1 ∧ s2.tm = s1.tm ∧ ∀ m, m < c1 → (wk m && !memN (lateRd M inc1 k L 0) m) = false → s2.hp m = s1.hp m) ∧ r.2 = putS o.dst v { s2 with tm := sD.tm }) := by
                unfold opX
                rw [hspD]
                cases sp with
                | yl k0 hd args =>
                  simp only [hdst, hkD, Bool.and_self]
                  refine T.bind_wp (T.wp_mono ?_ (T.wp_bind h3))
                  rintro ⟨b, c', s'⟩ ⟨s2, ⟨q1, q2, q3, q4⟩, q5, q6⟩
                  simp only at q1 q2 q3 q4 q5 q6
                  subst q6
                  exact ⟨_, s2, ⟨q1, q2, q3, q4⟩, rfl⟩
                | inl fn ex args =>
                  simp only [hdst]
                  refine T.bind_wp (T.wp_mono ?_ h3)
                  rintro ⟨v, c', s'⟩ ⟨s2, ⟨q1, q2, q3, q4⟩, q5, q6⟩
                  simp only at q1 q2 q3 q4 q5 q6
                  subst q6
                  exact ⟨v, s2, ⟨q1, q2, q3, q4⟩, rfl⟩
              have hw := opX_sound (rr := rr) (Q := CP cz w0 N ρ0 R) hst hgw0 hsg kA kL kF hy hi h2 (kU hK0 hle) (Nat.le_trans hcz hcc) hop
              unfold wpOpIn
              rw [ho]
              simp only
              rw [if_pos (by
                cases hgo : o.guard with
                | none => simp [Region.wanted, hgo]
                | some q => rw [hgo] at hg; cases hg)]
              refine Oper.wpIn_mono ?_ hw
              rintro a' w' ⟨c', s', ρ', ⟨v, s2, ⟨hseg, hc2, htm2, hkp⟩, rfl⟩, hrel', hup'⟩
              -- behind the call
              obtain ⟨incB, hincB⟩ : ∃ incB : Nat → Bool, incB = fun i => inc1 i || inc2 i := ⟨_, rfl⟩
              have hLB : Lst ops M incB fuel (listed.setIfInBounds k true) := hL2.set hk fun i hne hi => by
                rw [hincB]
                rcases hcases i hi hne with h | h <;> simp [h]
              have hBk : incB k = false := by
                have g1 : inc1 k = false := by
                  rw [hinc1]
                  have : Nat.beq k k = true := Nat.beq_refl k
                  simp only [this, Bool.not_true, Bool.and_false, Bool.false_and]
                have g2 : inc2 k = false := by
                  rw [hinc2]
                  simp only [hbj, Bool.and_false]
                rw [hincB]
                simp only [g1, g2, Bool.or_self]
              have hdis : ∀ i, inc1 i = true → inc2 i = true → False := by
                intro i g1 g2
                rw [hinc2] at g2
                simp only [Bool.and_eq_true] at g2
                rw [(h1inc i g1).2.2] at g2
                cases g2.2
              have hunlB : ∀ (fuel : Nat) (listed : Array Bool), Lst ops M incB fuel listed → ∀ i x, L[i]? = some x → listed.getD i false = false → x = nullI ∨ (inc1 i = true ∧ (M.getD k 0).testBit i = false) := by
                intro fuel listed hL3 i x hx hf
                cases h1 : inc1 i with
                | false => exact .inl (hnull i x hx h1)
                | true =>
                  refine .inr ⟨rfl, ?_⟩
                  cases hb : (M.getD k 0).testBit i with
                  | false => rfl
                  | true =>
                    have hkl : listed.getD k false = true := by
                      cases hkl : listed.getD k false with
                      | true => rfl
                      | false => have := hL3.base k hklt hkl; rw [hBk] at this; cases this
                    rw [hL3.down hM k i hkl hb] at hf; cases hf
              have hallSt : ∀ (listed : Array Bool), (∀ i, i < ops.size → inc1 i = true → listed.getD i false = true) → putS o.dst v { s2 with tm := (runL (fun i => listed.getD i false) L 0 s).tm } = putS o.dst v s2 := by
                intro listed hl
                have : (runL (fun i => listed.getD i false) L 0 s).tm = s2.tm := by
                  rw [htm2, hs1]
                  funext t
                  refine runL_tm L 0 s s rfl fun i x hx hxt => ?_
                  rw [Nat.zero_add]
                  have hlt : i < ops.size := by have := (List.getElem?_eq_some_iff.1 hx).1; omega
                  cases h1 : inc1 i with
                  | true => exact hl i hlt h1
                  | false => rw [hnull i x hx h1] at hxt; cases hxt
                rw [this]
              cases hbeh : behindB M ops.size inc1 inc2 with
              | true =>
                rw [hbeh] at hseg
                simp only at hseg
                refine any_set (rr := rr) (N := N) (w0 := w0) (Q := CP cz w0 N ρ0 R) hM (inc := incB) (cz := cz) (ρ0 := ρ0) (fun listed => putS o.dst v { s2 with tm := (runL (fun i => listed.getD i false) L 0 s).tm }) (fun listed => ∀ i, i < ops.size → inc2 i = true → listed.getD i false = false) ?_ ?_ fuel _ a' w' ρ' hLB ?_ ?_ (Ren.up_trans hle (hup'.less (Nat.le_trans hcz hcc)))
                · intro fuel listed a w ρ3 hL3 hI3 hfull h4 hle3
                  skip
                  rw [hallSt listed fun i hi _ => hfull i hi] at h4
                  have hnil : Region.ready .any ops listed = [] := by
                    rw [List.eq_nil_iff_forall_not_mem]
                    intro i hi
                    have := ready_not hL3.size hi
                    obtain ⟨_, _, hlt, _⟩ := mem_ready' hi
                    rw [hfull i hlt] at this; cases this
                  exact wpAny_nil (ihn inc2 c' _ fuel listed a w ρ3 ⟨hL3.size, hL3.count, hL3.closed, fun i hi hf => by rw [hfull i hi] at hf; cases hf⟩ hI3 h4 (Nat.le_trans (Nat.le_trans hcz hcc) hc2) hle3 hseg) hnil
                · intro fuel k' listed a w ρ3 hL3 hI3 hk' h4 hle3
                  obtain ⟨ok, hok', hklt', _⟩ := mem_ready' hk'
                  have hkn' := ready_not hL3.size hk'
                  have hkB := hL3.base k' hklt' hkn'
                  have hkL' : k' < L.length := by omega
                  have hy' : L[k']? = some L[k'] := List.getElem?_eq_getElem hkL'
                  cases hk1 : inc1 k' with
                  | true =>
                    refine .inr ⟨fun i hi h2i => ?_, ?_⟩
                    · rw [getD_set_ne _ (fun e => hdis i (by rw [← e]; exact hk1) h2i)]
                      exact hI3 i hi h2i
                    · have hlt' : (M.getD k 0).testBit k' = false := by
                        rcases hunlB _ listed hL3 k' _ hy' hkn' with hnl | ⟨_, h⟩
                        · rcases hall k' ok L[k'] (by rw [Array.getElem?_toList]; exact hok') hy' with ⟨h5, _⟩ | ⟨_, _, p', k2, _⟩
                          · rw [Nat.zero_add, hk1] at h5; cases h5
                          · cases hb : (M.getD k 0).testBit k' with
                            | false => rfl
                            | true =>
                              have hkl : listed.getD k false = true := by
                                cases hkl : listed.getD k false with
                                | true => rfl
                                | false => have := hL3.base k hklt hkl; rw [hBk] at this; cases this
                              rw [hL3.down hM k k' hkl hb] at hkn'; cases hkn'
                        · exact h
                      obtain ⟨o', e, d, ho', he, hd, hn, hw', hnu, hdj, hrd⟩ := hlateAt k' _ hy' hk1 hlt'
                      rw [hok'] at ho'; cases ho'
                      rcases hall k' ok L[k'] (by rw [Array.getElem?_toList]; exact hok') hy' with ⟨h5, _⟩ | ⟨_, k1, p', k2, k3⟩
                      · rw [Nat.zero_add, hk1] at h5; cases h5
                      · rw [Nat.zero_add] at k2
                        obtain ⟨a1, a2, a3⟩ := canon hM hL3 hk' hlen hP hok' hy' (fun d hd => by rw [← k1]; exact hd) s
                        have hdu : d ∈ uses ops ok := by
                          unfold uses
                          rw [← k1, hd]; simp
                        have hTtm : ∀ t, (∀ dj, o.dst = some dj → dj ≠ t) → (putS o.dst v { s2 with tm := (runL (fun i => listed.getD i false) L 0 s).tm }).tm t = (runL (fun i => listed.getD i false) L 0 s).tm t := by
                          intro t ht
                          cases hod : o.dst with
                          | none => rfl
                          | some dj => exact upd_ne _ _ (fun e => ht dj hod e.symm)
                        have hThp : ∀ m, m ∈ (L[k']).2.rd → (putS o.dst v { s2 with tm := (runL (fun i => listed.getD i false) L 0 s).tm }).hp m = (runL (fun i => Nat.blt i k') L 0 s).hp m := by
                          intro m hm
                          rw [← a2 m (.inl hm)]
                          show s2.hp m = _
                          have hmlt : m < c1 := by
                            have := List.all_eq_true.1 hrd m hm
                            rwa [Nat.blt_eq] at this
                          rw [hkp m hmlt (by
                            have : memN (lateRd M inc1 k L 0) m = true := memN_iff.2 (lateRd_at hy' (by rw [Nat.zero_add]; exact hk1) (by rw [Nat.zero_add]; exact hlt') hm)
                            rw [this]; simp), hs1]
                          refine runL_hp L 0 s s rfl fun i x hx hxm => ?_
                          rw [Nat.zero_add]
                          cases hf : listed.getD i false with
                          | true => rfl
                          | false =>
                            exfalso
                            rcases hunlB _ listed hL3 i x hx hf with rfl | ⟨g1, g2⟩
                            · cases hxm
                            · obtain ⟨_, e2, _, _, he2, _, hn2, hw2, _⟩ := hlateAt i x hx g1 g2
                              unfold Rec.touch at hxm
                              rw [he2] at hxm
                              simp only [hn2, hw2] at hxm
                              cases hxm
                        have hTtouch : ∀ m, m ∈ (L[k']).2.touch → (putS o.dst v { s2 with tm := (runL (fun i => listed.getD i false) L 0 s).tm }).hp m = (runL (fun i => Nat.blt i k') L 0 s).hp m := by
                          intro m hm
                          exfalso
                          unfold Rec.touch at hm
                          rw [he] at hm
                          simp only [hn, hw'] at hm
                          cases hm
                        have st := stepA_sound (rr := rr) (Q := CP cz w0 N ρ0 R) hsg (kA (kU hK0 hle3)) (hst _ _ hgw0 h4.bel) hok' k2 k3 h4 (fun t ht => (hTtm t fun dj hdj' e => hdj dj hdj' (e ▸ ht)).trans (a1 t ht)) hThp hTtouch
                        refine wpOpIn_mono ?_ st
                        rintro a2' w2' ⟨ρ4, hrel4, hle4⟩
                        refine ⟨ρ4, ?_, Ren.up_trans hle3 hle4.up⟩
                        rw [← k1, hd, pure_doit (by exact he) hn hw'] at hrel4
                        refine cast ?_ hrel4
                        congr 1
                        refine S.ext' (fun t => ?_) (fun m => rfl) rfl
                        show upd (putS o.dst v _).tm d e.val t = _
                        have hrun : (runL (fun i => (listed.setIfInBounds k' true).getD i false) L 0 s).tm = upd (runL (fun i => listed.getD i false) L 0 s).tm d e.val := by
                          rw [a3]
                          have : doit (L[k']).1 (L[k']).2 (runL (fun i => listed.getD i false) L 0 s) = doit (some d) (L[k']).2 (runL (fun i => listed.getD i false) L 0 s) := by rw [hd]
                          rw [this, pure_doit he hn hw']
                        rw [hrun]
                        cases hod : o.dst with
                        | none => rfl
                        | some dj =>
                          have hne : dj ≠ d := fun e => hdj dj hod (e ▸ hdu)
                          show upd (upd _ dj (some v)) d e.val t = upd (upd _ d e.val) dj (some v) t
                          by_cases e1 : t = d
                          · subst e1; rw [upd_same, upd_ne _ _ (fun e => hne e.symm), upd_same]
                          · rw [upd_ne _ _ e1]
                            by_cases e2 : t = dj
                            · subst e2; rw [upd_same, upd_same]
                            · rw [upd_ne _ _ e2, upd_ne _ _ e2, upd_ne _ _ e1]
                  | false =>
                    have hk2 : inc2 k' = true := by
                      rw [hincB] at hkB
                      simp only [hk1, Bool.false_or] at hkB
                      exact hkB
                    have hl1 : ∀ i, i < ops.size → inc1 i = true → listed.getD i false = true := fun i hi g1 => hL3.before hM hk' (behindB_at hbeh hklt' hi hk2 g1)
                    refine .inl ?_
                    skip
                    rw [hallSt listed hl1] at h4
                    exact (ihn inc2 c' _ (fuel + 1) listed a w ρ3 ⟨hL3.size, hL3.count, hL3.closed, fun i hi' hf => by
                      have := hL3.base i hi' hf
                      rw [hincB] at this
                      simp only [Bool.or_eq_true] at this
                      rcases this with g | g
                      · rw [hl1 i hi' g] at hf; cases hf
                      · exact g⟩ hI3 h4 (Nat.le_trans (Nat.le_trans hcz hcc) hc2) hle3 hseg).2 k' hk'
                · intro i hi' g2
                  have hne : i ≠ k := by
                    intro e
                    rw [e, hinc2] at g2
                    simp only [Bool.and_eq_true] at g2
                    rw [hbj] at g2; cases g2.2
                  rw [getD_set_ne _ (fun e => hne e.symm)]
                  have g3 : inc i = true := by rw [hinc2] at g2; simp only [Bool.and_eq_true] at g2; exact g2.1
                  refine hI i hi' g3 ?_
                  cases g4 : inc1 i with
                  | false => rfl
                  | true => exact (hdis i g4 g2).elim
                · refine cast ?_ hrel'
                  congr 1
                  have : sD.tm = (runL (fun i => (listed.setIfInBounds k true).getD i false) L 0 s).tm := by
                    rw [hsD]
                    funext t
                    refine runL_tm L 0 s s rfl fun i x hx hxt => ?_
                    rw [Nat.zero_add]
                    have hne : i ≠ k := by
                      intro e
                      rw [e] at hx
                      have : inc1 k = false := by rw [hinc1]; simp
                      rw [hnull k x hx this] at hxt; cases hxt
                    rw [getD_set_ne _ (fun e => hne e.symm)]
                  rw [this]
              | false =>
                rw [hbeh] at hseg
                simp only [restT] at hseg
                split at hseg
                · rename_i hside
                  split at hseg
                  · rename_i LB sE cE pE hrB
                    split at hseg
                    · rename_i hPB
                      simp only [Bool.and_eq_true] at hPB
                      obtain ⟨hPB, hpureB⟩ := hPB
                      obtain ⟨hp3, hR3⟩ := T.wp_needs hseg
                      obtain ⟨hlenB, hccB, hsE, hallB⟩ := rrunM_spec hrB hp3
                      have hlenB' : LB.length = ops.size := by rw [hlenB]; simp
                      have hpB := pureL_at hpureB
                      have hopAt : ∀ (i : Nat) (x : Item), LB[i]? = some x → i < ops.size := fun i x hx => by have := (List.getElem?_eq_some_iff.1 hx).1; omega
                      have hitem : ∀ (i : Nat) (x : Item), LB[i]? = some x → inc2 i = true → ∃ oi, ops[i]? = some oi ∧ x.1 = oi.dst ∧ ∃ p, stepA P G N sg wk ops (fun _ => none) i x.2.c oi (runL (fun k => Nat.blt k i) LB 0 (putS o.dst v s2)) = .ok x.2.e p x.2.rd ∧ All p := by
                        intro i x hx h2i
                        have hlt := hopAt i x hx
                        rcases hallB i ops[i] x (by rw [Array.getElem?_toList]; exact Array.getElem?_eq_getElem hlt) hx with ⟨h5, _⟩ | ⟨_, k1, p', k2, k3⟩
                        · rw [Nat.zero_add, h2i] at h5; cases h5
                        · rw [Nat.zero_add] at k2
                          exact ⟨ops[i], Array.getElem?_eq_getElem hlt, k1, p', k2, k3⟩
                      have hnullB : ∀ (i : Nat) (x : Item), LB[i]? = some x → inc2 i = false → x = nullI := by
                        intro i x hx hf
                        have hlt := hopAt i x hx
                        rcases hallB i ops[i] x (by rw [Array.getElem?_toList]; exact Array.getElem?_eq_getElem hlt) hx with ⟨_, h2⟩ | ⟨h2, _⟩
                        · exact h2
                        · rw [Nat.zero_add, hf] at h2; cases h2
                      have htouchB : ∀ (i : Nat) (x : Item), LB[i]? = some x → x.2.touch = [] := by
                        intro i x hx
                        unfold Rec.touch
                        cases he : x.2.e with
                        | none => rfl
                        | some e =>
                          obtain ⟨g1, g2⟩ := hpB i x hx e he
                          simp only [g1, g2]; rfl
                      have hpLB : ∀ (D : Nat → Bool) (X : S) m, (runL D LB 0 X).hp m = X.hp m := by
                        intro D X m
                        have := runL_hp (D := D) (D' := fun _ => false) (m := m) LB 0 X X rfl (fun i x hx hm => by rw [htouchB i x hx] at hm; cases hm)
                        rw [this, runL_id LB 0 X (fun k x _ h => by cases h)]
                      obtain ⟨S0, hS0⟩ : ∃ S0 : Array Bool → S, S0 = fun listed => putS o.dst v { s2 with tm := (runL (fun i => listed.getD i false) L 0 s).tm } := ⟨_, rfl⟩
                      have hS0hp : ∀ listed m, (S0 listed).hp m = s2.hp m := by
                        intro listed m; rw [hS0]; rfl
                      have hnoL : ∀ listed : Array Bool, (∀ i, i < ops.size → inc2 i = true → listed.getD i false = false) → runL (fun i => listed.getD i false) LB 0 (S0 listed) = S0 listed := by
                        intro listed hf
                        refine runL_id LB 0 _ fun i x hx hd => ?_
                        rw [Nat.zero_add] at hd
                        cases h2i : inc2 i with
                        | false => exact hnullB i x hx h2i
                        | true => rw [hf i (hopAt i x hx) h2i] at hd; cases hd
                      refine any_set (rr := rr) (N := N) (w0 := w0) (Q := CP cz w0 N ρ0 R) hM (inc := incB) (cz := cz) (ρ0 := ρ0) (fun listed => runL (fun i => listed.getD i false) LB 0 (S0 listed)) (fun _ => True) ?_ ?_ fuel _ a' w' ρ' hLB trivial ?_ (Ren.up_trans hle (hup'.less (Nat.le_trans hcz hcc)))
                      · intro fuel listed a w ρ3 hL3 _ hfull h4 hle3
                        refine ⟨cE, sE, ρ3, hR3, ?_, hle3⟩
                        rw [hS0] at h4
                        simp only at h4
                        rw [hallSt listed fun i hi _ => hfull i hi] at h4
                        rw [hsE, ← runL_all (D := fun k => listed.getD k false) LB 0 _ (fun k hk => by
                          rw [Nat.zero_add]; exact hfull k (by omega))]
                        exact h4
                      · intro fuel k' listed a w ρ3 hL3 _ hk' h4 hle3
                        obtain ⟨ok, hok', hklt', _⟩ := mem_ready' hk'
                        have hkn' := ready_not hL3.size hk'
                        have hkB := hL3.base k' hklt' hkn'
                        have hkL' : k' < L.length := by omega
                        have hy' : L[k']? = some L[k'] := List.getElem?_eq_getElem hkL'
                        refine .inr ⟨trivial, ?_⟩
                        cases hk1 : inc1 k' with
                        | true =>
                          have hk2f : inc2 k' = false := by
                            cases h2k : inc2 k' with
                            | false => rfl
                            | true => exact (hdis k' hk1 h2k).elim
                          have hlt' : (M.getD k 0).testBit k' = false := by
                            cases hb : (M.getD k 0).testBit k' with
                            | false => rfl
                            | true =>
                              have hkl : listed.getD k false = true := by
                                cases hkl : listed.getD k false with
                                | true => rfl
                                | false => have := hL3.base k hklt hkl; rw [hBk] at this; cases this
                              rw [hL3.down hM k k' hkl hb] at hkn'; cases hkn'
                          obtain ⟨o', e, d, ho', he, hd, hn, hw', hnu, hdj, hrd⟩ := hlateAt k' _ hy' hk1 hlt'
                          rw [hok'] at ho'; cases ho'
                          rcases hall k' ok L[k'] (by rw [Array.getElem?_toList]; exact hok') hy' with ⟨h5, _⟩ | ⟨_, k1, p', k2, k3⟩
                          · rw [Nat.zero_add, hk1] at h5; cases h5
                          · rw [Nat.zero_add] at k2
                            obtain ⟨a1, a2, a3⟩ := canon hM hL3 hk' hlen hP hok' hy' (fun d hd => by rw [← k1]; exact hd) s
                            have hdu : d ∈ uses ops ok := by
                              unfold uses
                              rw [← k1, hd]; simp
                            have htmLB : ∀ (D : Nat → Bool) (X : S), (∀ i, i ≠ k' → D i = listed.getD i false) → ∀ t, t ∈ uses ops ok → (runL D LB 0 X).tm t = X.tm t := by
                              intro D X hD t ht
                              have := runL_tm (D := D) (D' := fun _ => false) (t := t) LB 0 X X rfl (fun i x hx hxt => by
                                rw [Nat.zero_add]
                                cases h2i : inc2 i with
                                | false => rw [hnullB i x hx h2i] at hxt; cases hxt
                                | true =>
                                  have hne : i ≠ k' := fun e => by rw [e, hk2f] at h2i; cases h2i
                                  rw [hD i hne]
                                  cases hli : listed.getD i false with
                                  | false => rfl
                                  | true =>
                                    exfalso
                                    obtain ⟨oi, hoi, hxi, _⟩ := hitem i x hx h2i
                                    rcases sideB_at hside hklt' (hopAt i x hx) hk1 h2i hok' hoi with hb | ⟨_, g2⟩
                                    · rw [hL3.down hM i k' hli hb] at hkn'; cases hkn'
                                    · exact g2 t (by rw [← hxi]; exact hxt) ht)
                              rw [this, runL_id LB 0 X (fun k x _ h => by cases h)]
                            have hTtm : ∀ t, (∀ dj, o.dst = some dj → dj ≠ t) → (S0 listed).tm t = (runL (fun i => listed.getD i false) L 0 s).tm t := by
                              intro t ht
                              rw [hS0]
                              cases hod : o.dst with
                              | none => rfl
                              | some dj => exact upd_ne _ _ (fun e => ht dj hod e.symm)
                            have hThp : ∀ m, m ∈ (L[k']).2.rd → (S0 listed).hp m = (runL (fun i => Nat.blt i k') L 0 s).hp m := by
                              intro m hm
                              rw [← a2 m (.inl hm), hS0hp]
                              have hmlt : m < c1 := by
                                have := List.all_eq_true.1 hrd m hm
                                rwa [Nat.blt_eq] at this
                              rw [hkp m hmlt (by
                                have : memN (lateRd M inc1 k L 0) m = true := memN_iff.2 (lateRd_at hy' (by rw [Nat.zero_add]; exact hk1) (by rw [Nat.zero_add]; exact hlt') hm)
                                rw [this]; simp), hs1]
                              refine runL_hp L 0 s s rfl fun i x hx hxm => ?_
                              rw [Nat.zero_add]
                              cases hf : listed.getD i false with
                              | true => rfl
                              | false =>
                                exfalso
                                rcases hunlB _ listed hL3 i x hx hf with rfl | ⟨g1, g2⟩
                                · cases hxm
                                · obtain ⟨_, e2, _, _, he2, _, hn2, hw2, _⟩ := hlateAt i x hx g1 g2
                                  unfold Rec.touch at hxm
                                  rw [he2] at hxm
                                  simp only [hn2, hw2] at hxm
                                  cases hxm
                            have hTtouch : ∀ m, m ∈ (L[k']).2.touch → (runL (fun i => listed.getD i false) LB 0 (S0 listed)).hp m = (runL (fun i => Nat.blt i k') L 0 s).hp m := by
                              intro m hm
                              exfalso
                              unfold Rec.touch at hm
                              rw [he] at hm
                              simp only [hn, hw'] at hm
                              cases hm
                            have st := stepA_sound (rr := rr) (Q := CP cz w0 N ρ0 R) hsg (kA (kU hK0 hle3)) (hst _ _ hgw0 h4.bel) hok' k2 k3 h4 (fun t ht => (htmLB _ _ (fun _ _ => rfl) t ht).trans ((hTtm t fun dj hdj' e => hdj dj hdj' (e ▸ ht)).trans (a1 t ht))) (fun m hm => (hpLB _ _ m).trans (hThp m hm)) hTtouch
                            refine wpOpIn_mono ?_ st
                            rintro a2' w2' ⟨ρ4, hrel4, hle4⟩
                            refine ⟨ρ4, ?_, Ren.up_trans hle3 hle4.up⟩
                            rw [← k1, hd, pure_doit (by exact he) hn hw'] at hrel4
                            refine cast ?_ hrel4
                            have hS0t : ∀ t, (S0 (listed.setIfInBounds k' true)).tm t = upd (S0 listed).tm d e.val t := by
                              intro t
                              have hrun : (runL (fun i => (listed.setIfInBounds k' true).getD i false) L 0 s).tm = upd (runL (fun i => listed.getD i false) L 0 s).tm d e.val := by
                                rw [a3]
                                have : doit (L[k']).1 (L[k']).2 (runL (fun i => listed.getD i false) L 0 s) = doit (some d) (L[k']).2 (runL (fun i => listed.getD i false) L 0 s) := by rw [hd]
                                rw [this, pure_doit he hn hw']
                              rw [hS0]
                              simp only
                              rw [hrun]
                              cases hod : o.dst with
                              | none => rfl
                              | some dj =>
                                have hne : dj ≠ d := fun e => hdj dj hod (e ▸ hdu)
                                show upd (upd _ d e.val) dj (some v) t = upd (upd _ dj (some v)) d e.val t
                                by_cases e1 : t = d
                                · subst e1; rw [upd_same, upd_ne _ _ (fun e => hne e.symm), upd_same]
                                · rw [upd_ne _ _ e1]
                                  by_cases e2 : t = dj
                                  · subst e2; rw [upd_same, upd_same]
                                  · rw [upd_ne _ _ e2, upd_ne _ _ e2, upd_ne _ _ e1]
                            congr 1
                            refine S.ext' (fun t => ?_) (fun m => ?_) ?_
                            · show upd (runL (fun i => listed.getD i false) LB 0 (S0 listed)).tm d e.val t = _
                              by_cases e1 : t = d
                              · subst e1
                                rw [upd_same, htmLB _ _ (fun i hi => getD_set_ne _ (fun e => hi e.symm)) t hdu, hS0t, upd_same]
                              · rw [upd_ne _ _ e1]
                                refine runL_tm LB 0 _ _ (by rw [hS0t, upd_ne _ _ e1]) fun i x hx hxt => ?_
                                rw [Nat.zero_add]
                                by_cases hi : i = k'
                                · rw [hi] at hx; rw [hnullB k' x hx hk2f] at hxt; cases hxt
                                · exact (getD_set_ne _ (fun e => hi e.symm)).symm
                            · rw [hpLB, hS0hp]
                              exact ((hpLB _ _ m).trans (hS0hp _ m)).symm
                            · refine Eq.trans (b := (S0 listed).st) (runL_st _ _ _) ?_
                              rw [runL_st, hS0]; rfl
                        | false =>
                          have hk2 : inc2 k' = true := by
                            rw [hincB] at hkB
                            simp only [hk1, Bool.false_or] at hkB
                            exact hkB
                          have hyB : LB[k']? = some LB[k'] := List.getElem?_eq_getElem (by omega)
                          obtain ⟨oi, hoi, k1, p', k2, k3⟩ := hitem k' _ hyB hk2
                          rw [hok'] at hoi; cases hoi
                          obtain ⟨a1, a2, a3⟩ := canon hM hL3 hk' hlenB hPB hok' hyB (fun d hd => by rw [← k1]; exact hd) (S0 listed)
                          have hbase : ∀ t, t ∈ uses ops ok → (S0 listed).tm t = (putS o.dst v s2).tm t := by
                            intro t ht
                            have hr : (runL (fun i => listed.getD i false) L 0 s).tm t = s2.tm t := by
                              rw [htm2, hs1]
                              refine runL_tm L 0 s s rfl fun i x hx hxt => ?_
                              rw [Nat.zero_add]
                              have hlt : i < ops.size := by have := (List.getElem?_eq_some_iff.1 hx).1; omega
                              cases h1 : inc1 i with
                              | false => rw [hnull i x hx h1] at hxt; cases hxt
                              | true =>
                                cases hli : listed.getD i false with
                                | true => rfl
                                | false =>
                                  exfalso
                                  have hoi : ops[i]? = some ops[i] := Array.getElem?_eq_getElem hlt
                                  have hxd : x.1 = ops[i].dst := by
                                    rcases hall i ops[i] x (by rw [Array.getElem?_toList]; exact hoi) hx with ⟨h5, _⟩ | ⟨_, k1, _⟩
                                    · rw [Nat.zero_add, h1] at h5; cases h5
                                    · exact k1
                                  rcases sideB_at hside hlt hklt' h1 hk2 hoi hok' with hb | ⟨g1, _⟩
                                  · rw [hL3.before hM hk' hb] at hli; cases hli
                                  · exact g1 t (by rw [← hxd]; exact hxt) ht
                            rw [hS0]
                            cases hod : o.dst with
                            | none => exact hr
                            | some dj =>
                              show upd _ dj (some v) t = upd s2.tm dj (some v) t
                              by_cases e2 : t = dj
                              · subst e2; rw [upd_same, upd_same]
                              · rw [upd_ne _ _ e2, upd_ne _ _ e2]; exact hr
                          have hhpb : ∀ m, (runL (fun i => listed.getD i false) LB 0 (S0 listed)).hp m = (runL (fun i => Nat.blt i k') LB 0 (putS o.dst v s2)).hp m := by
                            intro m
                            rw [hpLB, hpLB, hS0hp]; rfl
                          have st := stepA_sound (rr := rr) (Q := CP cz w0 N ρ0 R) hsg (kA (kU hK0 hle3)) (hst _ _ hgw0 h4.bel) hok' k2 k3 h4 (fun t ht => (a1 t ht).trans (runL_tm LB 0 _ _ (hbase t ht) (fun _ _ _ _ => rfl))) (fun m _ => hhpb m) (fun m _ => hhpb m)
                          refine wpOpIn_mono ?_ st
                          rintro a2' w2' ⟨ρ4, hrel4, hle4⟩
                          refine ⟨ρ4, ?_, Ren.up_trans hle3 hle4.up⟩
                          have hsame : S0 (listed.setIfInBounds k' true) = S0 listed := by
                            rw [hS0]
                            simp only
                            have : (runL (fun i => (listed.setIfInBounds k' true).getD i false) L 0 s).tm = (runL (fun i => listed.getD i false) L 0 s).tm := by
                              funext t
                              refine runL_tm L 0 s s rfl fun i x hx hxt => ?_
                              rw [Nat.zero_add]
                              by_cases hi : i = k'
                              · rw [hi] at hx; rw [hnull k' x hx hk1] at hxt; cases hxt
                              · exact getD_set_ne _ (fun e => hi e.symm)
                            rw [this]
                          rw [hsame, a3, k1]; exact hrel4
                      · refine cast ?_ hrel'
                        congr 1
                        have hz : ∀ i, i < ops.size → inc2 i = true → (listed.setIfInBounds k true).getD i false = false := by
                          intro i hi' g2
                          have hne : i ≠ k := by
                            intro e
                            rw [e, hinc2] at g2
                            simp only [Bool.and_eq_true] at g2
                            rw [hbj] at g2; cases g2.2
                          rw [getD_set_ne _ (fun e => hne e.symm)]
                          have g3 : inc i = true := by rw [hinc2] at g2; simp only [Bool.and_eq_true] at g2; exact g2.1
                          refine hI i hi' g3 ?_
                          cases g4 : inc1 i with
                          | false => rfl
                          | true => exact (hdis i g4 g2).elim
                        rw [hnoL _ hz, hS0]
                        have : sD.tm = (runL (fun i => (listed.setIfInBounds k true).getD i false) L 0 s).tm := by
                          rw [hsD]
                          funext t
                          refine runL_tm L 0 s s rfl fun i x hx hxt => ?_
                          rw [Nat.zero_add]
                          have hne : i ≠ k := by
                            intro e
                            rw [e] at hx
                            have : inc1 k = false := by rw [hinc1]; simp
                            rw [hnull k x hx this] at hxt; cases hxt
                          rw [getD_set_ne _ (fun e => hne e.symm)]
                        rw [this]
                    · exact hseg.elim
                  · exact hseg.elim
                · exact hseg.elim
            · -- ahead of the call
              have hk1 : inc1 k = true := by
                rcases hcases k hki hkj with h | h
                · exact h
                · exfalso
                  have hb : (M.getD k 0).testBit j = true := by
                    rw [hinc2] at h
                    simp only [Bool.and_eq_true] at h
                    exact h.2
                  have := hI j hjlt hincj (by rw [hinc1]; simp)
                  rw [hL2.before hM hk hb] at this; cases this
              refine .inr ⟨fun i hi' g1 g2 => ?_, ?_⟩
              · rw [getD_set_ne _ (fun e => by rw [← e, hk1] at g2; cases g2)]
                exact hI i hi' g1 g2
              · rcases hall k ok L[k] (by rw [Array.getElem?_toList]; exact hok') hy' with ⟨h3, _⟩ | ⟨_, k1, p', k2, k3⟩
                · rw [Nat.zero_add] at h3; rw [hk1] at h3; cases h3
                · rw [Nat.zero_add] at k2
                  obtain ⟨a1, a2, a3⟩ := canon hM hL2 hk hlen hP hok' hy' (fun d hd => by rw [← k1]; exact hd) s
                  have st := stepA_sound (rr := rr) (Q := CP cz w0 N ρ0 R) hsg (kA (kU hK0 hle)) (hst _ _ hgw0 h2.bel) hok' k2 k3 h2 a1 (fun m hm => a2 m (.inl hm)) (fun m hm => a2 m (.inr hm))
                  refine wpOpIn_mono ?_ st
                  rintro a' w' ⟨ρ', hrel', hle'⟩
                  refine ⟨ρ', ?_, Ren.up_trans hle hle'.up⟩
                  try simp only
                  rw [a3, k1]; exact hrel'
        · exact h.elim
      · exact h.elim
theorem Lst.start (ops : Array Oper) (M : List Nat) : Lst ops M (fun _ => true) ops.size (Array.replicate ops.size false) where
  size := by simp
  count := by omega
  closed := by
    intro j o _ hj
    exfalso
    rw [Array.getD_eq_getD_getElem?, Array.getElem?_replicate] at hj
    split at hj <;> simp at hj
  base := fun _ _ _ => rfl
theorem start_not (n i : Nat) : (Array.replicate n false).getD i false = false := by
  rw [Array.getD_eq_getD_getElem?, Array.getElem?_replicate]; split <;> simp
theorem rrunM_keeps {ops : Array Oper} {inc : Nat → Bool} : ∀ {l : List Oper} {i c : Nat} {s : S} {L : List Item} {s' : S} {c' : Nat} {q : List Prop}, rrunM P G N sg wk ops inc l i c s = .done L s' c' q →
    c ≤ c' ∧ (∀ t, (∀ o, o ∈ l → o.dst ≠ some t) → s'.tm t = s.tm t) ∧ (∀ m, m < c → wk m = false → s'.hp m = s.hp m) := by
  intro l
  induction l with
  | nil =>
    intro i c s L s' c' q h
    simp only [rrunM, RR.done.injEq] at h
    obtain ⟨_, rfl, rfl, _⟩ := h
    exact ⟨Nat.le_refl _, fun _ _ => rfl, fun _ _ _ => rfl⟩
  | cons o l ih =>
    intro i c s L s' c' q h
    simp only [rrunM] at h
    split at h
    · split at h
      · rename_i L2 s2 c2 q2 hr
        simp only [RR.done.injEq] at h
        obtain ⟨_, rfl, rfl, _⟩ := h
        obtain ⟨h1, h2, h3⟩ := ih hr
        exact ⟨h1, fun t ht => h2 t fun o ho => ht o (List.mem_cons_of_mem _ ho), h3⟩
      · rename_i hne
        exact absurd h (by intro hh; exact hne _ _ _ _ hh)
    · split at h
      · rename_i e p rd hst
        split at h
        · rename_i L2 s2 c2 q2 hr
          simp only [RR.done.injEq] at h
          obtain ⟨_, rfl, rfl, _⟩ := h
          obtain ⟨h1, h2, h3⟩ := ih hr
          refine ⟨by omega, fun t ht => ?_, fun m hm hw => ?_⟩
          · rw [h2 t fun o ho => ht o (List.mem_cons_of_mem _ ho)]
            exact doit_tm_ne (o.dst, ⟨c, e, rd⟩) s t (ht o (List.mem_cons_self ..))
          · rw [h3 m (by omega) hw]
            refine doit_hp_ne (o.dst, ⟨c, e, rd⟩) s m ?_
            intro hmem
            unfold Rec.touch at hmem
            cases e with
            | none => cases hmem
            | some f =>
              simp only [List.mem_append, mem_names] at hmem
              rcases hmem with hmem | hmem
              · obtain ⟨q, hq, rfl⟩ := List.mem_map.1 hmem
                have := stepA_keeps hst f rfl q hq
                rw [hw] at this; cases this
              · omega
        · rename_i hne
          exact absurd h (by intro hh; exact hne _ _ _ _ hh)
      · cases h
      · cases h
theorem segT_keep (hyk : ∀ k h, yh k = some h → HKeep h) (hik : ∀ g fn ex, inl g = some (fn, ex) → RKeep ex) {ops : Array Oper} {M : List Nat} {id : Nat} {draw : Bool} : ∀ (n : Nat) (inc : Nat → Bool) (c : Nat) (s : S),
    (segT P G N sg yh inl wk ops M n inc c s).all (Keeps c s wk (dsts (.region id ops draw))) := by
  have hdst : ∀ {t : Nat}, memN (dsts (.region id ops draw)) t = false → ∀ o, o ∈ ops.toList → o.dst ≠ some t := by
    intro t ht o ho hd
    have : memN (dsts (.region id ops draw)) t = true := memN_iff.2 (by simp only [dsts, List.mem_filterMap]; exact ⟨o, ho, hd⟩)
    rw [ht] at this; cases this
  intro n
  induction n with
  | zero => intro inc c s; trivial
  | succ n ih =>
    intro inc c s
    simp only [segT]
    split
    · split
      · rename_i L s' c' p hr
        split
        · refine T.all_needs ?_
          obtain ⟨h1, h2, h3⟩ := rrunM_keeps hr
          exact ⟨h1, fun t ht => h2 t (hdst ht), h3⟩
        · trivial
      · trivial
    · rename_i j _
      split
      · rename_i o L s1 c1 p ho hr
        split
        · rename_i sp hok hsp
          obtain ⟨h1, h2, h3⟩ := rrunM_keeps hr
          have hoin : o ∈ ops.toList := by
            have := Array.mem_of_getElem? ho
            exact this.1
          refine T.all_needs (T.all_bind (T.all_mono ?_ (spT_keep hyk hik hsp)))
          rintro ⟨v, c2, s2⟩ ⟨g1, g2, g3⟩
          have hcont : ((match behindB M ops.size (fun k => inc k && !Nat.beq k j && !(M.getD k 0).testBit j) (fun k => inc k && (M.getD k 0).testBit j) with
            | true => segT P G N sg yh inl wk ops M n (fun k => inc k && (M.getD k 0).testBit j) c2 (putS o.dst v s2)
            | false => restT P G N sg wk ops M (fun k => inc k && !Nat.beq k j && !(M.getD k 0).testBit j) (fun k => inc k && (M.getD k 0).testBit j) c2 (putS o.dst v s2))).all (Keeps c2 (putS o.dst v s2) wk (dsts (.region id ops draw))) := by
            split
            · exact ih _ c2 (putS o.dst v s2)
            · unfold restT
              split
              · split
                · rename_i L s' c' p hr
                  split
                  · refine T.all_needs ?_
                    obtain ⟨h1, h2, h3⟩ := rrunM_keeps hr
                    exact ⟨h1, fun t ht => h2 t (hdst ht), h3⟩
                  · trivial
                · trivial
              · trivial
          refine T.all_mono ?_ hcont
          rintro r ⟨k1, k2, k3⟩
          simp only at g1 g2 g3 k1 k2 k3
          refine ⟨by omega, fun t ht => ?_, fun m hm hw => ?_⟩
          · rw [k2 t ht]
            have : (putS o.dst v s2).tm t = s2.tm t := by
              have hne := hdst ht o hoin
              cases hd : o.dst with
              | none => rfl
              | some d => exact upd_ne _ _ (fun e => hne (by rw [hd, e]))
            rw [this, g2, h2 t (hdst ht)]
          · rw [k3 m (by omega) hw]
            show s2.hp m = s.hp m
            rw [g3 m (by omega) (by rw [hw]; rfl), h3 m hm hw]
        · trivial
      · trivial
end
end
end Go.V
end

section
set_option linter.unusedVariables false
set_option linter.unusedSimpArgs false
namespace Go.V
open Go.RowKit (Below)
theorem dsEqv_refl : ∀ (ds : List D), dsEqv ds ds
  | [] => trivial
  | d :: l => ⟨d.eqv_refl, dsEqv_refl l⟩
theorem Ar.eqv_refl (r : Ar) : r.eqv r := by
  cases r with
  | c d => exact d.eqv_refl
  | agg ds => exact dsEqv_refl ds
theorem rsEqv_refl : ∀ (rs : List Ar), rsEqv rs rs
  | [] => trivial
  | r :: l => ⟨r.eqv_refl, rsEqv_refl l⟩
variable {α : Type}
theorem Enc.list_F (E : Enc α) (l : List α) : E.list l.length (E.F l) = l := by
  apply List.ext_getElem
  · simp [Enc.list]
  · intro i h1 h2
    simp [Enc.list, Enc.F, E.law, h2]
theorem Enc.is_F (E : Enc α) (l : List α) (len : Nat) : E.Is len (E.F l) := by
  intro i j _ _
  simp only [Enc.F, E.law]
  exact D.eqv_refl _
theorem Enc.push (E : Enc α) {l : List α} {a : α} {G : Nat → Nat → D} (hj : ∀ j, j < E.st → (G 0 j).eqv (E.enc a j)) (hr : E.rd (G 0) = a) : E.Is (l.length + 1) (joinF l.length (E.F l) G) ∧ E.list (l.length + 1) (joinF l.length (E.F l) G) = l ++ [a] := by
  have hlt : ∀ i, i < l.length → joinF l.length (E.F l) G i = E.F l i := by
    intro i hi
    funext j
    have hb : Nat.blt i l.length = true := by rw [Nat.blt_eq]; exact hi
    simp only [joinF, hb]
  have heq : joinF l.length (E.F l) G l.length = G 0 := by
    funext j
    have hb : Nat.blt l.length l.length = false := by rw [← Bool.not_eq_true, Nat.blt_eq]; omega
    simp only [joinF, hb, Nat.sub_self]
  constructor
  · intro i j hi hj'
    rcases Nat.lt_or_ge i l.length with h | h
    · rw [hlt i h]; exact E.is_F l (l.length) i j h hj'
    · obtain rfl : i = l.length := by omega
      rw [heq, hr]; exact hj j hj'
  · apply List.ext_getElem
    · simp [Enc.list]
    · intro i h1 h2
      have hi : i < l.length + 1 := by simpa [Enc.list] using h1
      simp only [Enc.list, List.getElem_map, List.getElem_range]
      rcases Nat.lt_or_ge i l.length with h | h
      · rw [hlt i h]; simp only [Enc.F, E.law, List.getElem_append_left h]; simp [h]
      · obtain rfl : i = l.length := by omega
        rw [heq, hr]; simp
def Ag.eqv : Ag → Ag → Prop
  | .c d, .c d' => d.eqv d'
  | .agg ds, .agg ds' => dsEqv ds ds'
  | .ptr n F, .ptr n' F' => n = n' ∧ ∀ j, j < n → (F j).eqv (F' j)
  | .clo φ, .clo φ' => φ = φ'
  | _, _ => False
def agsEqv : List Ag → List Ag → Prop
  | [], [] => True
  | a :: l, b :: k => a.eqv b ∧ agsEqv l k
  | _, _ => False
section
variable {P : Program} {G : GT} {gw : World → Prop}
theorem Ag.eqv_rel {κ : Still} {a b : Ag} {x : Value} (h : a.eqv b) (r : a.rel P gw κ x) : b.rel P gw κ x := by
  cases a <;> cases b <;> first | exact h.elim | skip
  · exact D.eqv_rel h r
  · obtain ⟨xs, hf, e⟩ := r; exact ⟨xs, dsEqv_rel h hf, e⟩
  · obtain ⟨rfl, h⟩ := h
    obtain ⟨ad, h1, h2, h3⟩ := r
    exact ⟨ad, h1, h2, fun j hj => by obtain ⟨y, hy, hr⟩ := h3 j hj; exact ⟨y, hy, D.eqv_rel (h j hj) hr⟩⟩
  · simp only [Ag.eqv] at h; subst h; exact r
theorem agsEqv_rel {κ : Still} : ∀ {az bs : List Ag} {xs : List Value}, agsEqv az bs → F2 (Ag.rel P gw κ) az xs → F2 (Ag.rel P gw κ) bs xs
  | [], [], _, _, r => r
  | a :: l, b :: k, _, h, .cons r rs => .cons (Ag.eqv_rel h.1 r) (agsEqv_rel h.2 rs)
  | [], _ :: _, _, h, _ => h.elim
  | _ :: _, [], _, h, _ => h.elim
theorem Ag.eqv_refl (a : Ag) : a.eqv a := by
  cases a with
  | c d => exact d.eqv_refl
  | agg ds => exact dsEqv_refl ds
  | ptr n F => exact ⟨rfl, fun j _ => D.eqv_refl _⟩
  | clo φ => rfl
theorem agsEqv_refl : ∀ (l : List Ag), agsEqv l l
  | [] => trivial
  | a :: l => ⟨a.eqv_refl, agsEqv_refl l⟩
end
end Go.V
end

section
set_option linter.unusedVariables false
set_option linter.unusedSimpArgs false
namespace Go.V
open Go.RowKit (Below)
def rxD (an : An) (P : Program) (G : GT) (N : Nat) (sg : FuncId → Option Sm) (fuel : Nat) (yh : Nat → Option YH) (inl : FuncId → Option (Func × Run)) : RX := fun ops draw wk c s =>
  match draw with
  | true => (match firstSp P G N sg yh inl wk ops (fun _ => true) ops.toList 0 c s, masks ops.toList [] with
    | none, _ => rtree P G N sg (frOf an) ops true wk c s fuel (fun _ => none)
    | some _, M => (match masksOk M ops.toList 0 with | true => segT P G N sg yh inl wk ops M (ops.size + 1) (fun _ => true) c s | false => .fail))
  | false => goX P G N sg yh inl wk an ops ops.toList c s
def inlOf (P : Program) (inS : List Nat) (ex : FuncId → Func → Run) : FuncId → Option (Func × Run) := fun g =>
  match memN inS g, P.funcs[g]? with
  | true, some fn => (match isGo fn with | true => some (fn, ex g fn) | false => none)
  | _, _ => none
def execD (P : Program) (G : GT) (sg : FuncId → Option Sm) (an : Nat → An) (inS : List Nat) (LV fuel : Nat) : Nat → Nat → (Nat → Option YH) → FuncId → Func → Run
  | 0, _, _, _, _ => fun _ _ _ _ => .fail
  | d + 1, k, yh, f, fn => exec G fn.ntmps (an f) LV (rxD (an f) P G fn.ntmps sg fuel yh (inlOf P inS (execD P G sg an inS LV fuel d k yh)))
      (rfX P G fn.ntmps k LV (exec G fn.ntmps (an f) LV (rxD (an f) P G fn.ntmps sg fuel yh (inlOf P inS (execD P G sg an inS LV fuel d LV yh))) rf0 fuel)
        (fun h gf gfn => execD P G sg an inS LV fuel d (k + 1) (upd yh k (some h)) gf gfn)) fuel
section
variable {P : Program} {G : GT} {N : Nat} {rr : Option Nat} {sg : FuncId → Option Sm} {yh : Nat → Option YH} {inl : FuncId → Option (Func × Run)} {gw : World → Prop} {w0 : World} {LV : Nat} {a : Act} {w : World} {Q : Exit → Act → World → Prop}
theorem putS_tm {dst : Option Tmp} {v : V} {s : S} {t : Nat} (h : dst ≠ some t) : (putS dst v s).tm t = s.tm t := by
  cases dst with
  | none => rfl
  | some d => exact upd_ne _ _ (fun e => h (by rw [e]))
theorem spOf_yl {o : Oper} {s : S} {k : Nat} {h : YH} {args : List A} (e : spOf G yh inl o s = some (.yl k h args)) : yh k = some h := by
  unfold spOf at e
  split at e
  · split at e
    · split at e
      · split at e
        · rename_i hyk'
          simp only [Option.some.injEq, Sp.yl.injEq] at e
          obtain ⟨rfl, rfl, rfl⟩ := e
          exact hyk'
        · cases e
      · split at e <;> cases e
      · cases e
    · cases e
  · cases e
theorem spOf_inl {o : Oper} {s : S} {fn : Func} {ex : Run} {args : List A} (e : spOf G yh inl o s = some (.inl fn ex args)) : ∃ g, inl g = some (fn, ex) := by
  unfold spOf at e
  split at e
  · split at e
    · split at e
      · split at e <;> cases e
      · split at e
        · rename_i hig
          simp only [Option.some.injEq, Sp.inl.injEq] at e
          obtain ⟨rfl, rfl, rfl⟩ := e
          exact ⟨_, hig⟩
        · cases e
      · cases e
    · cases e
  · cases e
theorem opX_keep {wk : Nat → Bool} (hyk : ∀ k h, yh k = some h → HKeep h) (hik : ∀ g fn ex, inl g = some (fn, ex) → RKeep ex) {o : Oper} {c : Nat} {s : S} :
    (opX P G N sg yh inl wk o c s).all fun r => c ≤ r.1 ∧ (∀ t, o.dst ≠ some t → r.2.tm t = s.tm t) ∧ ∀ m, m < c → wk m = false → r.2.hp m = s.hp m := by
  unfold opX
  split
  · rename_i k hd args hsp
    split
    · refine T.all_bind (T.all_mono ?_ ((hyk k hd (spOf_yl hsp)).1 args wk c s))
      rintro ⟨b, c1, s1⟩ ⟨h1, h2, h3⟩
      exact ⟨h1, fun t ht => (putS_tm ht).trans (congrFun h2 t), h3⟩
    · trivial
  · rename_i fn ex args hsp
    split
    · obtain ⟨g, hg⟩ := spOf_inl hsp
      refine T.all_bind (T.all_mono ?_ (callT_keep (hik g fn ex hg)))
      rintro ⟨v, c1, s1⟩ ⟨h1, h2, h3⟩
      exact ⟨h1, fun t ht => (putS_tm ht).trans (congrFun h2 t), h3⟩
    · trivial
  · split
    · rename_i e p rd hop
      refine T.all_needs ?_
      refine ⟨Nat.le_add_right _ _, fun t ht => doit_tm_ne (o.dst, ⟨c, e, rd⟩) s t ht, fun m hm hw => doit_hp_ne (o.dst, ⟨c, e, rd⟩) s m ?_⟩
      simp only [Rec.touch]
      cases e with
      | none => simp
      | some f =>
        simp only [List.mem_append, mem_names, not_or, List.mem_map, not_exists, not_and]
        refine ⟨fun q hq hqm => ?_, by omega⟩
        have hst : stepA P G N sg wk #[{ o with guard := none }] (fun _ => none) 0 c { o with guard := none } s = .ok (some f) p rd := hop
        have := stepA_keeps hst f rfl q hq
        rw [hqm, hw] at this; cases this
    · trivial
theorem goX_keep {an : An} {wk : Nat → Bool} (hyk : ∀ k h, yh k = some h → HKeep h) (hik : ∀ g fn ex, inl g = some (fn, ex) → RKeep ex) {id : Nat} {ops : Array Oper} {draw : Bool} :
    ∀ (l : List Oper) {c : Nat} {s : S}, (∀ o, o ∈ l → o ∈ ops.toList) → (goX P G N sg yh inl wk an ops l c s).all (Keeps c s wk (dsts (.region id ops draw))) := by
  have hdst : ∀ {o : Oper} {t : Nat}, o ∈ ops.toList → memN (dsts (.region id ops draw)) t = false → o.dst ≠ some t := by
    intro o t ho ht hd
    have : memN (dsts (.region id ops draw)) t = true := memN_iff.2 (by simp only [dsts, List.mem_filterMap]; exact ⟨o, ho, hd⟩)
    rw [ht] at this; cases this
  intro l
  induction l with
  | nil => intro c s _; exact Keeps.refl _ _ _ _ _
  | cons o l ih =>
    intro c s hmem
    have hin := hmem o (List.mem_cons_self ..)
    have ih' := fun {c : Nat} {s : S} => ih (c := c) (s := s) (fun o' ho' => hmem o' (List.mem_cons_of_mem _ ho'))
    have yes : ∀ s', (∀ t, memN (dsts (.region id ops draw)) t = false → s'.tm t = s.tm t) → s'.hp = s.hp →
        ((opX P G N sg yh inl wk o c s').bind fun r => goX P G N sg yh inl wk an ops l r.1 (numS an o.dst r.2)).all (Keeps c s wk (dsts (.region id ops draw))) := by
      intro s' h1 h2
      refine T.all_bind (T.all_mono ?_ (opX_keep hyk hik))
      rintro ⟨c1, s1⟩ ⟨g1, g2, g3⟩
      refine T.all_mono ?_ (ih' (c := c1) (s := numS an o.dst s1))
      rintro r ⟨k1, k2, k3⟩
      exact ⟨Nat.le_trans g1 k1, fun t ht => (((k2 t ht).trans (numS_tm (hdst hin ht))).trans (g2 t (hdst hin ht))).trans (h1 t ht), fun m hm hw => (((k3 m (Nat.lt_of_lt_of_le hm g1) hw).trans (by rw [numS_hp])).trans (g3 m hm hw)).trans (by rw [h2])⟩
    have no : ∀ s', (∀ t, memN (dsts (.region id ops draw)) t = false → s'.tm t = s.tm t) → s'.hp = s.hp →
        (match dstOk N o with | true => goX P G N sg yh inl wk an ops l c (putS o.dst (.tup []) s') | false => T.fail).all (Keeps c s wk (dsts (.region id ops draw))) := by
      intro s' h1 h2
      split
      · refine T.all_mono ?_ (ih' (c := c) (s := putS o.dst (.tup []) s'))
        rintro r ⟨k1, k2, k3⟩
        exact ⟨k1, fun t ht => ((k2 t ht).trans (putS_tm (hdst hin ht))).trans (h1 t ht), fun m hm hw => (k3 m hm hw).trans (by show s'.hp m = s.hp m; rw [h2])⟩
      · trivial
    simp only [goX, guardX]
    split
    · exact yes s (fun _ _ => rfl) rfl
    · rename_i k want hg
      split
      · rename_i d hd
        split
        · split
          · exact yes s (fun _ _ => rfl) rfl
          · exact no s (fun _ _ => rfl) rfl
        · rename_i b hb
          have hput : ∀ v, ∀ t, memN (dsts (.region id ops draw)) t = false → (putS (some d) v s).tm t = s.tm t := by
            intro v t ht
            refine putS_tm ?_
            intro e
            unfold dstOf at hd
            obtain ⟨o', ho', hdo⟩ := Option.bind_eq_some_iff.1 hd
            have hm : o' ∈ ops.toList := by
              have := Array.mem_of_getElem? ho'
              exact this.1
            exact hdst hm ht (by rw [hdo, e])
          refine T.all_brf ?_ ?_
          · split
            · exact yes _ (hput _) rfl
            · exact no _ (hput _) rfl
          · split
            · exact yes _ (hput _) rfl
            · exact no _ (hput _) rfl
        · exact no s (fun _ _ => rfl) rfl
        · trivial
      · trivial
theorem rxD_keep {an : An} {fuel : Nat} (hyk : ∀ k h, yh k = some h → HKeep h) (hik : ∀ g fn ex, inl g = some (fn, ex) → RKeep ex) (id : Nat) (ops : Array Oper) (draw : Bool) (wk : Nat → Bool) (c : Nat) (s : S) :
    (rxD an P G N sg fuel yh inl ops draw wk c s).all (Keeps c s wk (dsts (.region id ops draw))) := by
  unfold rxD
  split
  · split
    · exact rtree_keeps
    · split
      · exact segT_keep hyk hik _ _ _ _
      · trivial
  · exact goX_keep hyk hik _ (fun _ h => h)
theorem exec_rkeep {an : An} {rx : RX} {rf : RF} (hxk : ∀ id ops draw wk c s, (rx ops draw wk c s).all (Keeps c s wk (dsts (.region id ops draw)))) (hfk : ∀ g ps x y wk c s, (rf g ps x y wk c s).all (Keeps c s wk [])) (fuel : Nat) :
    RKeep (exec G N an LV rx rf fuel) := fun code wk c s => T.all_mono (fun r hr => ⟨hr.1, hr.2.2⟩) (exec_keeps hxk hfk fuel code wk c s)
theorem rf0_keep (g : Operand) (ps : Array Tmp) (x y : Code) (wk : Nat → Bool) (c : Nat) (s : S) : (rf0 g ps x y wk c s).all (Keeps c s wk []) := trivial
theorem inlOf_spec {inS : List Nat} {ex : FuncId → Func → Run} {g : FuncId} {fn : Func} {e : Run} (h : inlOf P inS ex g = some (fn, e)) : P.funcs[g]? = some fn ∧ isGo fn = true ∧ e = ex g fn := by
  unfold inlOf at h
  split at h
  · rename_i fn' _ hf
    split at h
    · rename_i hg
      simp only [Option.some.injEq, Prod.mk.injEq] at h
      obtain ⟨rfl, rfl⟩ := h
      exact ⟨hf, hg, rfl⟩
    · cases h
  · cases h
theorem upd_yh {yh : Nat → Option YH} {p : YH → Prop} (h0 : ∀ j h, yh j = some h → p h) {k : Nat} {h : YH} (hh : p h) : ∀ j h', upd yh k (some h) j = some h' → p h' := by
  intro j h' hj
  by_cases e : j = k
  · subst e; rw [upd_same] at hj; cases hj; exact hh
  · rw [upd_ne _ _ e] at hj; exact h0 j h' hj
variable {an : Nat → An} {inS : List Nat} {fuel : Nat}
theorem execD_keep : ∀ (d k : Nat) (yh : Nat → Option YH) (f : FuncId) (fn : Func), (∀ j h, yh j = some h → HKeep h) → RKeep (execD P G sg an inS LV fuel d k yh f fn) := by
  intro d
  induction d with
  | zero => intro k yh f fn _ code wk c s; simp only [execD]; trivial
  | succ d ih =>
    intro k yh f fn hy
    simp only [execD]
    refine exec_rkeep (rxD_keep hy ?_) (rfX_keep (exec_rkeep (rxD_keep hy ?_) rf0_keep fuel) ?_) fuel
    · intro g fn' e he
      obtain ⟨_, _, rfl⟩ := inlOf_spec he
      exact ih k yh g fn' hy
    · intro g fn' e he
      obtain ⟨_, _, rfl⟩ := inlOf_spec he
      exact ih LV yh g fn' hy
    · intro h gf gfn hh
      exact ih (k + 1) _ gf gfn (upd_yh hy hh)
theorem CP.less {cz c : Nat} {ρ : Ren} {R : St3 → Prop} (hc : cz ≤ c) : ∀ e a w, CP c w0 N ρ R e a w → CP cz w0 N ρ R e a w := by
  intro e a w h
  cases e <;> simp only [CP] at h ⊢
  all_goals (try exact h)
  all_goals (obtain ⟨c', s, ρ', h1, h2, h3⟩ := h; exact ⟨c', s, ρ', h1, h2, h3.less hc⟩)
theorem execD_sound (E : Env P G sg gw) (hgw0 : gw w0) : ∀ (d k : Nat) (yh : Nat → Option YH) (f : FuncId) (fn : Func) {K : Ren → Prop} {cz : Nat}, KOK P G gw w0 LV cz K → (∀ j h, yh j = some h → HOK P w0 K cz j h) → (∀ j h, yh j = some h → HKeep h) →
    ∀ (code : Code) {wk : Nat → Bool} {c : Nat} {s : S} {R : St3 → Prop} {ρ : Ren} {a : Act} {w : World}, Rel w0 fn.ntmps ρ s a w → K ρ → (∀ j l r, ρ.lp j = some (l, r) → j < k) → cz ≤ c → (execD P G sg an inS LV fuel d k yh f fn code wk c s).wp R →
      code.wpIn (Fd none) 0 P (CP c w0 fn.ntmps ρ R) a w := by
  intro d
  induction d with
  | zero => intro k yh f fn K cz _ _ _ code wk c s R ρ a w _ _ _ _ h; simp only [execD] at h; exact h.elim
  | succ d ih =>
    intro k yh f fn K cz hK hH hY code wk c s R ρ a w hrel hKρ hlv hcz h
    simp only [execD] at h
    have keepI : ∀ k, ∀ g fn' e, inlOf P inS (execD P G sg an inS LV fuel d k yh) g = some (fn', e) → RKeep e := by
      intro k g fn' e he
      obtain ⟨_, _, rfl⟩ := inlOf_spec he
      exact execD_keep d k yh g fn' hY
    -- regions, at any level
    have regions : ∀ (rr : Option Nat) (k : Nat) (K1 : Ren → Prop) (cz1 : Nat), (∀ ρ, K1 ρ → K ρ ∧ ∀ j l r, ρ.lp j = some (l, r) → j < k) → (∀ {ρ : Ren} fx', K1 ρ → LpOK w0 { ρ with fx := fx' } → K1 { ρ with fx := fx' }) → (∀ {ρ ρ'}, K1 ρ → ρ.up cz1 ρ' → K1 ρ') → cz ≤ cz1 →
        ∀ {id : Nat} {ops : Array Oper} {draw : Bool} {wk : Nat → Bool} {c : Nat} {s : S} {R : St3 → Prop} {ρ : Ren} {a : Act} {w : World}, Rel w0 fn.ntmps ρ s a w → K1 ρ → cz1 ≤ c →
          (rxD (an f) P G fn.ntmps sg fuel yh (inlOf P inS (execD P G sg an inS LV fuel d k yh)) ops draw wk c s).wp R → (Code.region id ops draw).wpIn (Fd rr) 0 P (CP cz1 w0 fn.ntmps ρ R) a w := by
      intro rr k K1 cz1 hK1 hF hU hc1 id ops draw wk c s R ρ a w hrel hKρ hcz h
      unfold rxD at h
      have hinl : InlOK P w0 LV K1 cz1 (inlOf P inS (execD P G sg an inS LV fuel d k yh)) := fun g fn' e he => by
        obtain ⟨h1, h2, rfl⟩ := inlOf_spec he
        exact ⟨h1, h2, fun code _ {wk c s R ρ a w} g1 g2 g3 g4 => ih k yh g fn' hK hH hY code g1 (hK1 _ g2).1 (hK1 _ g2).2 (Nat.le_trans hc1 g3) g4⟩
      split at h
      · split at h
        · exact rtree_sound E hgw0 hrel (hK.amb (hK1 _ hKρ).1) h
        · split at h
          · rename_i hM
            refine wpIn_region_any E.mixed ?_
            exact segT_sound (rr := rr) (LV := LV) (K := K1) (cz := cz1) E.stable hgw0 E.sums (fun h => hK.amb (hK1 _ h).1) (fun h => hK.lpk (hK1 _ h).1) hF hU (fun k h e => (hH k h e).less (fun ρ hρ => (hK1 ρ hρ).1) hc1)
              hinl hY (keepI k) hM hKρ _ _ _ _ _ _ _ _ ρ (Lst.start _ _) (fun i _ _ => start_not _ _) hrel.drew hcz (Ren.up_refl _) h
          · exact h.elim
      · refine wpIn_region ?_
        have := goX_sound (rr := rr) (LV := LV) (K := K1) (cz := cz1) E.stable hgw0 E.sums (fun h => hK.amb (hK1 _ h).1) (fun h => hK.lpk (hK1 _ h).1) hF hU (fun k h e => (hH k h e).less (fun ρ hρ => (hK1 ρ hρ).1) hc1)
          (inl := inlOf P inS (execD P G sg an inS LV fuel d k yh)) (fun g fn' e he => by
            obtain ⟨h1, h2, rfl⟩ := inlOf_spec he
            exact ⟨h1, h2, fun code _ {wk c s R ρ a w} g1 g2 g3 g4 => ih k yh g fn' hK hH hY code g1 (hK1 _ g2).1 (hK1 _ g2).2 (Nat.le_trans hc1 g3) g4⟩) hY (keepI k) (ρ0 := ρ) (R := R) ops.toList 0 rfl hrel hKρ hcz (Ren.up_refl _) h
        rw [List.range_eq_range']
        exact this
    refine exec_sound (gw := gw) (rr := none) (cz := c) (K := fun ρ => K ρ ∧ ∀ j l r, ρ.lp j = some (l, r) → j < k) ?_ fuel code hrel ⟨hKρ, hlv⟩ (Nat.le_refl _) h
    refine ⟨fun h => hK.amb h.1, fun h => hK.lvl h.1, fun h hle => ⟨hK.up h.1 (hle.less hcz), lv_up h.2 hle⟩, rxD_keep hY (keepI k), ?_, ?_, ?_⟩
    · refine rfX_keep (exec_rkeep (rxD_keep hY (keepI LV)) rf0_keep fuel) ?_
      intro h gf gfn hh
      exact execD_keep d (k + 1) _ gf gfn (upd_yh hY hh)
    · intro id ops draw wk c1 s R ρ a w g1 g2 g3 g4
      exact regions none k _ c (fun ρ h => h) (fun fx' h hL => ⟨hK.fxs fx' h.1 hL, h.2⟩) (fun h hle => ⟨hK.up h.1 (hle.less hcz), lv_up h.2 hle⟩) hcz g1 g2 g3 g4
    · intro g ps x y wk c1 s R ρ a w g1 g2 g3 g4
      refine wpIn_mono (rfX_sound hK ?_ (exec_rkeep (rxD_keep hY (keepI LV)) rf0_keep fuel) ?_ g1 g2.1 g2.2 (Nat.le_trans hcz g3) g4) (CP.less g3)
      · intro l code wk c s R ρ a w q1 q2 q3 q4
        refine exec_sound (gw := gw) (rr := some l) (cz := c) (K := K) ?_ fuel code q1 q2 (Nat.le_refl _) q4
        refine ⟨hK.amb, hK.lvl, fun h hle => hK.up h (hle.less q3), rxD_keep hY (keepI LV), rf0_keep, ?_, fun _ _ _ h => h.elim⟩
        intro id ops draw wk c1 s R ρ a w r1 r2 r3 r4
        exact regions (some l) LV K c (fun ρ h => ⟨h, hK.lvl h⟩) hK.fxs (fun h hle => hK.up h (hle.less q3)) q3 r1 r2 r3 r4
      · intro h gf gfn K' c' hK' hKK hcc hHh hHk code wk c s R ρ a w q1 q2 q3 q4 q5
        refine ih (k + 1) (upd yh k (some h)) gf gfn hK' ?_ (upd_yh hY hHk) code q1 q2 q3 q4 q5
        intro j h' hj
        by_cases e : j = k
        · subst e; rw [upd_same] at hj; cases hj; exact hHh
        · rw [upd_ne _ _ e] at hj; exact (hH j h' hj).less hKK hcc
end
section
variable (P : Program) (G : GT) (sg : FuncId → Option Sm) (an : Nat → An) (inS : List Nat)
def runFnX (LV fuel d : Nat) (f : FuncId) (fn : Func) (ags : List Ag) : T (List Ar) :=
  match fn.body with
  | some code => (execD P G sg an inS LV fuel d 0 (fun _ => none) f fn code (fun _ => true) 0 (args0 ags)).bind fun r => match r with
    | (.exit _, _, _) => .fail
    | (_, _, s) => (match resL P s fn.results.toList with
      | some ps => (match finAs P s ps with | some (rs, p) => T.needs p (.ret rs) | none => .fail)
      | none => .fail)
  | none => .fail
end
section
variable {P : Program} {G : GT} {gw : World → Prop} {sg : FuncId → Option Sm} {an : Nat → An} {inS : List Nat}
theorem fnE_sound {f : FuncId} {fn : Func} (hf : P.funcs[f]? = some fn) {ags : List Ag} {xs : List Value} {w : World} {κ : Still} {r : List Ar} {code : Code} (hb : fn.body = some code) {ex : T St3}
    (hl : Lies κ w) (hG : GIn G κ) (hx : F2 (Ag.rel P gw κ) ags xs) (hlen : Nat.ble ags.length fn.ntmps = true)
    (hex : ∀ {R : St3 → Prop} {ρ : Ren} {a : Act}, Rel w fn.ntmps ρ (args0 ags) a w → Amb P G gw ρ → (ρ.lp = fun _ => none) → ex.wp R → code.wpIn (Fd none) 0 P (CP 0 w fn.ntmps ρ R) a w)
    (h : (ex.bind fun r => match r with
      | (.exit _, _, _) => .fail
      | (_, _, s) => (match resL P s fn.results.toList with
        | some ps => (match finAs P s ps with | some (rs, p) => T.needs p (.ret rs) | none => .fail)
        | none => .fail)).wp (fun rs => rsEqv rs r)) : Calls P f xs.toArray w (Back κ r w) := by
  refine (callsIn_wide (n := 0)).1 (callsIn_of_wp_marks (F := Fence.wide) hf hb trivial ?_)
  have hlen' := Nat.le_of_ble_eq_true hlen
  have hxl := f2_len hx
  obtain ⟨ρ, hρ⟩ : ∃ ρ : Ren, ρ = { nm := fun _ => none, κ := κ, cl := fun φ x => CloOK P gw κ φ x, k0 := κ, fx := fun _ => none, lp := fun _ => none } := ⟨_, rfl⟩
  have hx' : F2 (A.rel ρ) (ags.map agA) xs := by
    refine agA_f2 ?_ (by rw [hρ]; exact hx)
    rw [hρ]; exact fun φ x h => h
  have hrel : Rel w fn.ntmps ρ (args0 ags) { tmps := xs.toArray ++ Array.replicate (fn.ntmps - xs.toArray.size) undef, defers := [] } w := by
    refine ⟨by simp; omega, Below.refl _ _, ⟨[], rfl, List.nodup_nil, fun D hD => by cases hD⟩, ?_, ?_, ?_, ?_, ?_, ?_, ?_, by rw [hρ]; exact fun b o hb => (by cases hb), by rw [hρ]; exact fun k l r hk => (by cases hk), fun d D hd => (by cases hd)⟩
    · intro t v ht
      simp only [args0] at ht
      split at ht
      · rename_i g hg
        simp only [Option.some.injEq] at ht; subst ht
        have hg' : (ags.map agA)[t]? = some (agA g) := by simp [hg]
        obtain ⟨x, hxt, hr⟩ := f2_get hx' hg'
        have hlt : t < xs.length := (List.getElem?_eq_some_iff.1 hxt).1
        refine ⟨by omega, ?_⟩
        rw [Array.getD_eq_getD_getElem?, Array.getElem?_append, if_pos (by simpa using hlt)]
        simp only [List.getElem?_toArray, hxt, Option.getD_some]
        exact hr
      · cases ht
    · intro m hm; rw [hρ]
    · intro m k hm; simp [args0] at hm
    · intro m m' k k' b b' hm; simp [args0] at hm
    · rw [hρ]; exact hl
    · intro m k b o hm; simp [args0] at hm
    · intro b o v hv _; rw [hρ] at hv ⊢; exact hv
  have hamb : Amb P G gw ρ := by
    refine ⟨fun g n F e => ⟨⟨g, 0, none⟩, rfl, rfl, ?_⟩, ?_⟩
    · rw [hρ]; exact hG g n F e
    · rw [hρ]; exact fun φ x h => h
  have hlp0 : ρ.lp = fun _ => none := by rw [hρ]
  refine wpIn_mono (hex hrel hamb hlp0 (T.wp_bind h)) ?_
  have fin : ∀ (s : S) (ρ' : Ren), ρ.up 0 ρ' → (match resL P s fn.results.toList with | some ps => (match finAs P s ps with | some (rs, p) => T.needs p (.ret rs) | none => T.fail) | none => T.fail).wp (fun rs => rsEqv rs r) →
      ∀ (Ds : List Nat) (a' : Act) (w' : World), a'.defers = Ds.map (fun D => { target := .collected D, args := #[] }) → Rel w fn.ntmps ρ' s a' w' → LeavesInM Fence.wide 0 P fn a'.tmps (Back κ r w) a'.defers .returning w' := by
    intro s ρ' hle hr Ds
    have hk0 : ρ'.k0 = κ := by rw [hle.k0, hρ]
    induction Ds with
    | nil =>
      intro a' w' hd hrel'
      rw [hd]
      split at hr
      · rename_i ps hps
        split at hr
        · rename_i rs p hrs
          obtain ⟨hp, heq⟩ := T.wp_needs hr
          have hview : View G ρ' s a' w' := ⟨fun t v ht => (hrel'.tm t v ht).2, fun m k hk => by obtain ⟨b, h1, h2, h3, _⟩ := hrel'.hp m k hk; exact ⟨b, h1, h2, h3⟩, hrel'.im, (hamb.up hle).gl⟩
          obtain ⟨x, hx1, hx2⟩ := results_sound hrel' hview hps hrs hp
          rw [hk0] at hx2
          refine ⟨x, hx1, x, endK κ w.heap.size w', rfl, ?_, ?_, ?_, rsEqv_rel heq hx2, hrel'.bel⟩
          · intro b o v hv
            have hlt := (hl b o v hv).1
            unfold endK
            rw [if_neg (by omega)]; exact hv
          · intro b o v hv
            unfold endK at hv
            split at hv
            · split at hv
              · rename_i hlt; exact ⟨hlt, hv⟩
              · cases hv
            · exact lies_back (κ' := κ) hl hrel'.bel b o v hv
          · intro b o v hv
            unfold endK at hv
            split at hv
            · rename_i hge; exact .inr hge
            · exact .inl hv
        · exact hr.elim
      · exact hr.elim
    | cons D Ds ih =>
      intro a' w' hd hrel'
      rw [hd]
      obtain ⟨w2, htake, hrel2⟩ := taken (P := P) hrel' hd
      refine ⟨by simp, .inl ⟨D, w2, rfl, htake, ?_⟩⟩
      have := ih { a' with defers := Ds.map (fun D => { target := .collected D, args := #[] }) } w2 rfl hrel2
      exact this
  intro e a' w' hc
  cases e <;> simp only [CP, bodyPostM] at hc ⊢
  case normal =>
    obtain ⟨c', s', ρ', hr, hrel', hle⟩ := hc
    obtain ⟨Ds, hDs, _⟩ := hrel'.df
    exact fin s' ρ' hle hr Ds a' w' hDs hrel'
  case ret =>
    obtain ⟨c', s', ρ', hr, hrel', hle⟩ := hc
    obtain ⟨Ds, hDs, _⟩ := hrel'.df
    exact fin s' ρ' hle hr Ds a' w' hDs hrel'
  case exit id => obtain ⟨c', s', ρ', hr, hrel', hle⟩ := hc; exact hr.elim
theorem fnX_sound (E : Env P G sg gw) {f : FuncId} {fn : Func} (hf : P.funcs[f]? = some fn) {LV fuel d : Nat} {ags : List Ag} {xs : List Value} {w : World} {κ : Still} {r : List Ar}
    (hgw : gw w) (hl : Lies κ w) (hG : GIn G κ) (hx : F2 (Ag.rel P gw κ) ags xs) (hlen : Nat.ble ags.length fn.ntmps = true)
    (h : (runFnX P G sg an inS LV fuel d f fn ags).wp (fun rs => rsEqv rs r)) : Calls P f xs.toArray w (Back κ r w) := by
  unfold runFnX at h
  split at h
  · rename_i code hb
    refine fnE_sound (gw := gw) (G := G) hf hb hl hG hx hlen (fun {R ρ a} hrel hamb hlp0 hR => ?_) h
    have hK0 : KOK P G gw w LV 0 (fun ρ => Amb P G gw ρ ∧ LpOK w ρ ∧ ∀ k l r, ρ.lp k = some (l, r) → k < LV) := by
      refine ⟨fun h => h.1, fun h => h.2.1, fun h => h.2.2, fun h hle => ⟨h.1.up hle, h.2.1.up hle, lv_up h.2.2 hle⟩, fun fx' h hL => ⟨h.1.fxs, hL, h.2.2⟩, fun k p h hn hk hL => ⟨⟨h.1.gl, h.1.cl⟩, hL, fun j l r hj => ?_⟩⟩
      rename_i ρa
      by_cases e : j = k
      · omega
      · have hj : upd ρa.lp k (some p) j = some (l, r) := hj
        rw [upd_ne _ _ e] at hj
        exact h.2.2 j l r hj
    exact execD_sound E hgw d 0 (fun _ => none) f fn hK0 (fun j h hj => by cases hj) (fun j h hj => by cases hj) code hrel ⟨hamb, ⟨fun k l r hk => (by rw [hlp0] at hk; cases hk), fun k l r hk => (by rw [hlp0] at hk; cases hk), fun k j l r q hk => (by rw [hlp0] at hk; cases hk)⟩, fun k l r hk => (by rw [hlp0] at hk; cases hk)⟩ (fun k l r hk => (by rw [hlp0] at hk; cases hk)) (Nat.le_refl _) hR
  · exact h.elim
theorem fokX_fin {sl : List (Nat × Sm)} (hmix : P.follows .mixedOrders = true) (hst : ∀ w w', gw w → Below w.heap.size w w' → gw w') (hS : AllS P G gw sl) {f : FuncId} {fn : Func} (hf : P.funcs[f]? = some fn) {LV fuel d : Nat} {ags ags' : List Ag} {xs : List Value} {w : World} {κ : Still} {r : List Ar} {t : T (List Ar)}
    (hgw : gw w) (hl : Lies κ w) (hG : GIn G κ) (hx : F2 (Ag.rel P gw κ) ags xs) (heq : agsEqv ags ags') (hlen : Nat.ble ags'.length fn.ntmps = true)
    (ht : runFnX P G (lookS sl) an inS LV fuel d f fn ags' = t) (h : t.wp (fun rs => rsEqv rs r)) : Calls P f xs.toArray w (Back κ r w) :=
  fnX_sound ⟨hmix, fun f σ hs => lookS_ok hS f σ hs, hst⟩ hf hgw hl hG (agsEqv_rel heq hx) hlen (by rw [ht]; exact h)
end
end Go.V
end

section
set_option linter.unusedVariables false
set_option linter.unusedSimpArgs false
namespace Go.Gd
open Go.V Go.Proofs
open Go.RowKit (Below)
def G0 : GT := fun _ => none
def gw (w : World) : Prop := True
theorem gw_stable (w w' : World) (h : gw w) (hb : Below w.heap.size w w') : gw w' := trivial
theorem mixed : Try.prog.follows .mixedOrders = true := by kernel_rfl
end Go.Gd
end

section
set_option linter.unusedVariables false
set_option linter.unusedSimpArgs false
namespace Go.Bl
open Go.Gd
open Go.V Go.Proofs
open Go.RowKit (Below)
def rdI (F : Nat → D) (j : Nat) : Int := match F j with | .int _ n => n | _ => 0
abbrev dI (n : Int) : D := .int .i64 n
abbrev rI (n : Int) : Ar := .c (.int .i64 n)
abbrev rB (b : Bool) : Ar := .c (.bool b)
def eI : Enc Int := ⟨1, fun n _ => dI n, fun F => rdI F 0, 0, fun _ => rfl⟩
def intsL : Nat → (Nat → Nat → D) → Option (List Int)
  | 0, _ => some []
  | n + 1, F => match F 0 0, intsL n (fun i => F (i + 1)) with | .int .i64 x, some l => some (x :: l) | _, _ => none
theorem intsL_spec : ∀ {n : Nat} {F : Nat → Nat → D} {l : List Int}, intsL n F = some l → l.length = n ∧ ∀ i, i < n → F i 0 = dI (l.getD i 0) := by
  intro n
  induction n with
  | zero => intro F l h; simp [intsL] at h; subst h; exact ⟨rfl, fun i hi => by omega⟩
  | succ n ih =>
    intro F l h
    simp only [intsL] at h
    split at h
    · rename_i x k hx hk
      simp only [Option.some.injEq] at h; subst h
      obtain ⟨h1, h2⟩ := ih hk
      refine ⟨by simp [h1], fun i hi => ?_⟩
      cases i with
      | zero => simpa using hx
      | succ i => simpa using h2 i (by omega)
    · cases h
theorem wrap_id {n : Int} (h0 : -9223372036854775808 ≤ n) (h1 : n < 9223372036854775808) : IntKind.wrap IntKind.i64 n = n := by rw [IntKind.wrap_i64]; omega
theorem getD_drop {α : Type} {l : List α} {d : α} {k : Nat} (h : k < l.length) : l.drop k = l.getD k d :: l.drop (k + 1) := by
  rw [List.drop_eq_getElem_cons h]; simp [h]
namespace M
def first : List Int → Int
  | [] => 0
  | x :: l => cond (x != 0) x (first l)
def unl (ok : Bool) (e : Int) : Int := cond ok 0 e
def within (n lo hi : Int) : Bool := decide (lo ≤ n) && decide (n ≤ hi)
end M
def dom64 : DomF
  | [.c (.sl q len st F)] => (match Nat.beq st 1 && Nat.ble len 1000, intsL len F with
    | true, some l => some ([], [rI (M.first l)])
    | _, _ => none)
  | _ => none
def v64 : Nat × Sm := (20, fokSm dom64)
def dom80 : DomF
  | [.c (.bool b), .c (.int .i64 e)] => some ([], [rI (M.unl b e)])
  | _ => none
def v80 : Nat × Sm := (21, fokSm dom80)
def dom102 : DomF
  | [.c (.int .i64 n), .c (.int .i64 lo), .c (.int .i64 hi)] => some ([], [rB (M.within n lo hi)])
  | _ => none
def v102 : Nat × Sm := (35, fokSm dom102)
end Go.Bl
end
