/- The second engine, parts 18 and 19: contracts of the first engine; ends of functions. -/
import Derived.Test.YtcgdcocmnmkhlaaDoorVD
import Derived.Test.YtcgdcocmnmkhlaaDoorE12
set_option linter.unusedVariables false
set_option linter.unusedSimpArgs false
section
/- The second engine, part 18: contracts of the first engine as contracts of the second one. -/
set_option linter.unusedVariables false
set_option linter.unusedSimpArgs false
namespace Go.V
open Go.RowKit (Below)

def D.val : D → Option Value
  | .int k n => some (.int k n)
  | .bool b => some (.bool b)
  | .str s => some (.string s)
  | _ => none
def dVals : List D → Option (List Value)
  | [] => some []
  | d :: l => match d.val, dVals l with | some v, some r => some (v :: r) | _, _ => none
/-- Arguments of the first engine: cells and structs. -/
def gOf : List Eng.Shp → List Ag → Option (List (List Value))
  | [], [] => some []
  | .c :: sh, .c d :: l => (match d.val, gOf sh l with | some v, some r => some ([v] :: r) | _, _ => none)
  | .agg :: sh, .agg ds :: l => (match dVals ds, gOf sh l with | some v, some r => some (v :: r) | _, _ => none)
  | _, _ => none
def dC : Eng.C → Option D
  | .num k n => some (.int k n)
  | .int k n => some (.int k n)
  | .lit b => some (.bool b)
  | .bool b => some (.bool b)
  | .str s => some (.str s)
  | _ => none
def dCs : List Eng.C → Option (List D)
  | [] => some []
  | c :: l => match dC c, dCs l with | some v, some r => some (v :: r) | _, _ => none
def arA : Eng.A → Option Ar
  | .c c => (match dC c with | some d => some (.c d) | none => none)
  | .agg cs => (match dCs cs with | some ds => some (.agg ds) | none => none)
def arAs : List Eng.A → Option (List Ar)
  | [] => some []
  | c :: l => match arA c, arAs l with | some v, some r => some (v :: r) | _, _ => none
def arV : Eng.V → Option (List Ar)
  | .a y => (match arA y with | some r => some [r] | none => none)
  | .tup (y :: z :: l) => arAs (y :: z :: l)
  | _ => none
/-- The contract's domain. -/
def bdom (sh : List Eng.Shp) (dom : Eng.DomG) : DomF := fun ags =>
  match gOf sh ags with
  | some gs => (match dom gs with
    | some (p, v) => (match arV v with | some r => some (p, r) | none => none)
    | none => none)
  | none => none

theorem all_iff : ∀ {l : List Prop}, All l → Eng.All l
  | [], _ => trivial
  | _ :: _, h => ⟨h.1, all_iff h.2⟩

section
variable {P : Program} {G : GT} {gw : World → Prop} {κ : Still} {ρ : Eng.Ren}
theorem dval_rel {d : D} {v x : Value} (h : d.val = some v) (r : d.rel κ x) : x = v := by
  cases d <;> simp only [D.val, Option.some.injEq, reduceCtorEq] at h <;> simp only [D.rel] at r <;> rw [r, h]
theorem dvals_rel : ∀ {ds : List D} {vs xs : List Value}, dVals ds = some vs → F2 (D.rel κ) ds xs → xs = vs
  | [], vs, _, h, .nil => by simp [dVals] at h; exact h.symm
  | d :: l, vs, _, h, .cons r rs => by
    simp only [dVals] at h
    split at h
    · rename_i v k hv hk
      simp only [Option.some.injEq] at h; subst h
      rw [dval_rel hv r, dvals_rel hk rs]
    · cases h
theorem gOf_rel {w : World} : ∀ {sh : List Eng.Shp} {ags : List Ag} {gs : List (List Value)} {xs : List Value}, gOf sh ags = some gs → F2 (Ag.rel P gw κ) ags xs → Eng.GRel w sh gs xs
  | [], [], gs, _, h, .nil => by simp [gOf] at h; subst h; exact .nil
  | .c :: sh, .c d :: l, gs, _, h, .cons r rs => by
    simp only [gOf] at h
    split at h
    · rename_i v k hv hk
      simp only [Option.some.injEq] at h; subst h
      rw [dval_rel hv r]
      exact .c (gOf_rel hk rs)
    · cases h
  | .agg :: sh, .agg ds :: l, gs, _, h, .cons r rs => by
    simp only [gOf] at h
    split at h
    · rename_i v k hv hk
      simp only [Option.some.injEq] at h; subst h
      obtain ⟨ys, hf, rfl⟩ := r
      rw [dvals_rel hv hf]
      exact .agg (gOf_rel hk rs)
    · cases h
  | [], _ :: _, _, _, h, _ => by simp [gOf] at h
  | _ :: _, [], _, _, h, _ => by simp [gOf] at h
  | .c :: _, .agg _ :: _, _, _, h, _ => by simp [gOf] at h
  | .c :: _, .ptr _ _ :: _, _, _, h, _ => by simp [gOf] at h
  | .c :: _, .clo _ :: _, _, _, h, _ => by simp [gOf] at h
  | .agg :: _, .c _ :: _, _, _, h, _ => by simp [gOf] at h
  | .agg :: _, .ptr _ _ :: _, _, _, h, _ => by simp [gOf] at h
  | .agg :: _, .clo _ :: _, _, _, h, _ => by simp [gOf] at h
  | .ptr :: _, _ :: _, _, _, h, _ => by simp [gOf] at h
  | .sl :: _, _ :: _, _, _, h, _ => by simp [gOf] at h
theorem dC_rel {c : Eng.C} {d : D} {x : Value} (h : dC c = some d) (r : c.rel ρ x) : d.rel κ x := by
  cases c <;> simp only [dC, Option.some.injEq, reduceCtorEq] at h <;> subst h <;> exact r
theorem dCs_rel : ∀ {cs : List Eng.C} {ds : List D} {xs : List Value}, dCs cs = some ds → Eng.F2 (Eng.C.rel ρ) cs xs → F2 (D.rel κ) ds xs
  | [], ds, _, h, .nil => by simp [dCs] at h; subst h; exact .nil
  | c :: l, ds, _, h, .cons r rs => by
    simp only [dCs] at h
    split at h
    · rename_i v k hv hk
      simp only [Option.some.injEq] at h; subst h
      exact .cons (dC_rel hv r) (dCs_rel hk rs)
    · cases h
theorem arA_rel {y : Eng.A} {r : Ar} {x : Value} (h : arA y = some r) (hr : y.rel ρ x) : r.rel κ x := by
  cases y with
  | c c =>
    simp only [arA] at h
    split at h
    · rename_i d hd; simp only [Option.some.injEq] at h; subst h; exact dC_rel hd hr
    · cases h
  | agg cs =>
    simp only [arA] at h
    split at h
    · rename_i d hd
      simp only [Option.some.injEq] at h; subst h
      obtain ⟨xs, hf, e⟩ := hr
      exact ⟨xs, dCs_rel hd hf, e⟩
    · cases h
theorem arAs_rel : ∀ {cs : List Eng.A} {ds : List Ar} {xs : List Value}, arAs cs = some ds → Eng.F2 (Eng.A.rel ρ) cs xs → F2 (Ar.rel κ) ds xs
  | [], ds, _, h, .nil => by simp [arAs] at h; subst h; exact .nil
  | c :: l, ds, _, h, .cons r rs => by
    simp only [arAs] at h
    split at h
    · rename_i v k hv hk
      simp only [Option.some.injEq] at h; subst h
      exact .cons (arA_rel hv r) (arAs_rel hk rs)
    · cases h
theorem arV_rel {v : Eng.V} {r : List Ar} {x : Value} (h : arV v = some r) (hr : v.rel ρ x) : resRel κ r x := by
  unfold arV at h
  split at h
  · split at h
    · rename_i y r' hr'
      simp only [Option.some.injEq] at h; subst h
      exact arA_rel hr' hr
    · cases h
  · rename_i y z l
    obtain ⟨ys, hf, e⟩ := hr
    have h2 := arAs_rel (κ := κ) h hf
    have h3 : ∃ r0 r1 rs, r = r0 :: r1 :: rs := by
      cases h2 with
      | nil => cases hf
      | cons r0 rs0 =>
        cases rs0 with
        | cons r1 rs1 => exact ⟨_, _, _, rfl⟩
        | nil => cases hf with | cons _ t => cases t
    obtain ⟨r0, r1, rs, rfl⟩ := h3
    exact ⟨ys, h2, e⟩
  · cases h

theorem bridge {f : FuncId} {sh : List Eng.Shp} {dom : Eng.DomG} (h : Eng.GOK P gw f sh dom) : FOK P G gw f (bdom sh dom) := by
  intro ags p r hd hp κ w xs hgw hl hG hx
  unfold bdom at hd
  split at hd
  · rename_i gs hgs
    split at hd
    · rename_i p' v hdv
      split at hd
      · rename_i r' hr
        simp only [Option.some.injEq, Prod.mk.injEq] at hd
        obtain ⟨rfl, rfl⟩ := hd
        refine (h gs p' v hdv (all_iff hp) w xs hgw (gOf_rel hgs hx)).mono ?_
        rintro e w' ⟨x, rfl, hv, hb⟩
        exact ⟨x, κ, rfl, fun _ _ _ h => h, lies_back (κ' := κ) hl hb, fun b o v h => .inl h, arV_rel hr (hv fun _ => none), hb⟩
      · cases hd
    · cases hd
  · cases hd
end
end Go.V
end

section
/- The second engine, part 19: slices of encoded elements; the end of a contract's proof. -/
set_option linter.unusedVariables false
set_option linter.unusedSimpArgs false
namespace Go.V
open Go.RowKit (Below)

theorem D.eqv_of_eq {d d' : D} (h : d = d') : d.eqv d' := h ▸ d.eqv_refl
theorem D.eqv_trans : ∀ {a b c : D}, a.eqv b → b.eqv c → a.eqv c := by
  intro a
  induction a with
  | sl q n st F ih =>
    intro b c h k
    cases b with
    | sl q' n' st' F' =>
      obtain ⟨h1, rfl, h0, h2⟩ := h
      cases c with
      | sl q2 n2 st2 F2 =>
        obtain ⟨k1, rfl, k0, k2⟩ := k
        exact ⟨fun e => h1 (k1 e), rfl, fun hn => (h0 hn).trans (k0 hn), fun i j hi hj => ih i j (h2 i j hi hj) (k2 i j hi (by rw [← h0 (by omega)]; exact hj))⟩
      | _ => exact k.elim
    | _ => exact h.elim
  | _ => intro b c h k; simp only [D.eqv] at h; subst h; exact k
theorem dsEqv_refl : ∀ (ds : List D), dsEqv ds ds
  | [] => trivial
  | d :: l => ⟨d.eqv_refl, dsEqv_refl l⟩
theorem Ar.eqv_refl (r : Ar) : r.eqv r := by
  cases r with
  | c d => exact d.eqv_refl
  | agg ds => exact dsEqv_refl ds
theorem rsEqv_refl : ∀ (rs : List Ar), rsEqv rs rs
  | [] => trivial
  | r :: l => ⟨r.eqv_refl, rsEqv_refl l⟩
theorem rsEqv_of_eq {r r' : List Ar} (h : r = r') : rsEqv r r' := h ▸ rsEqv_refl r

variable {α : Type}
theorem Enc.list_F (E : Enc α) (l : List α) : E.list l.length (E.F l) = l := by
  apply List.ext_getElem
  · simp [Enc.list]
  · intro i h1 h2
    simp [Enc.list, Enc.F, E.law, h2]
theorem Enc.is_F (E : Enc α) (l : List α) (len : Nat) : E.Is len (E.F l) := by
  intro i j _ _
  simp only [Enc.F, E.law]
  exact D.eqv_refl _
/-- What is known element by element. -/
theorem Enc.is_of (E : Enc α) {len : Nat} {F : Nat → Nat → D} {l : List α} (hl : l.length = len) (h : ∀ i j, i < len → j < E.st → F i j = E.enc (l.getD i E.dflt) j) (hr : ∀ i, i < len → E.rd (F i) = l.getD i E.dflt) : E.Is len F ∧ E.list len F = l := by
  constructor
  · intro i j hi hj
    rw [h i j hi hj, hr i hi]
    exact D.eqv_refl _
  · apply List.ext_getElem
    · simp [Enc.list, hl]
    · intro i h1 h2
      have hi : i < len := by omega
      simp [Enc.list, hr i hi, h2]
theorem Enc.F_eqv (E : Enc α) {q q' : Bool} (hq : q' = true → q = true) {l l' : List α} (h : l = l') : (D.sl q l.length E.st (E.F l)).eqv (.sl q' l'.length E.st (E.F l')) := by
  subst h
  exact ⟨hq, rfl, fun _ => rfl, fun i j _ _ => D.eqv_refl _⟩
/-- One list behind another one. -/
theorem Enc.join (E : Enc α) {q q' : Bool} (hq : q' = true → q = true) {l k : List α} {n : Nat} {F : Nat → Nat → D} (hn : n = k.length) (hF : ∀ i j, i < n → j < E.st → (F i j).eqv (E.enc (k.getD i E.dflt) j)) :
    (D.sl q (l.length + n) E.st (joinF l.length (E.F l) F)).eqv (.sl q' (l ++ k).length E.st (E.F (l ++ k))) := by
  subst hn
  refine ⟨hq, by simp, fun _ => rfl, fun i j hi hj => ?_⟩
  by_cases hlt : i < l.length
  · have hb : Nat.blt i l.length = true := by rw [Nat.blt_eq]; exact hlt
    have e1 : (l ++ k).getD i E.dflt = l.getD i E.dflt := by simp [List.getElem?_append_left hlt]
    simp only [joinF, hb, Enc.F, e1]
    exact D.eqv_refl _
  · have hb : Nat.blt i l.length = false := by rw [← Bool.not_eq_true, Nat.blt_eq]; exact hlt
    have e1 : (l ++ k).getD i E.dflt = k.getD (i - l.length) E.dflt := by simp [List.getElem?_append_right (by omega : l.length ≤ i)]
    simp only [joinF, hb, Enc.F, e1]
    exact hF _ _ (by omega) hj

/-- One element behind a list. -/
theorem Enc.push (E : Enc α) {l : List α} {a : α} {G : Nat → Nat → D} (hj : ∀ j, j < E.st → (G 0 j).eqv (E.enc a j)) (hr : E.rd (G 0) = a) : E.Is (l.length + 1) (joinF l.length (E.F l) G) ∧ E.list (l.length + 1) (joinF l.length (E.F l) G) = l ++ [a] := by
  have hlt : ∀ i, i < l.length → joinF l.length (E.F l) G i = E.F l i := by
    intro i hi
    funext j
    have hb : Nat.blt i l.length = true := by rw [Nat.blt_eq]; exact hi
    simp only [joinF, hb]
  have heq : joinF l.length (E.F l) G l.length = G 0 := by
    funext j
    have hb : Nat.blt l.length l.length = false := by rw [← Bool.not_eq_true, Nat.blt_eq]; omega
    simp only [joinF, hb, Nat.sub_self]
  constructor
  · intro i j hi hj'
    rcases Nat.lt_or_ge i l.length with h | h
    · rw [hlt i h]; exact E.is_F l (l.length) i j h hj'
    · obtain rfl : i = l.length := by omega
      rw [heq, hr]; exact hj j hj'
  · apply List.ext_getElem
    · simp [Enc.list]
    · intro i h1 h2
      have hi : i < l.length + 1 := by simpa [Enc.list] using h1
      simp only [Enc.list, List.getElem_map, List.getElem_range]
      rcases Nat.lt_or_ge i l.length with h | h
      · rw [hlt i h]; simp only [Enc.F, E.law, List.getElem_append_left h]; simp [h]
      · obtain rfl : i = l.length := by omega
        rw [heq, hr]; simp

def Ag.eqv : Ag → Ag → Prop
  | .c d, .c d' => d.eqv d'
  | .agg ds, .agg ds' => dsEqv ds ds'
  | .ptr n F, .ptr n' F' => n = n' ∧ ∀ j, j < n → (F j).eqv (F' j)
  | .clo φ, .clo φ' => φ = φ'
  | _, _ => False
def agsEqv : List Ag → List Ag → Prop
  | [], [] => True
  | a :: l, b :: k => a.eqv b ∧ agsEqv l k
  | _, _ => False
section
variable {P : Program} {G : GT} {gw : World → Prop}
theorem Ag.eqv_rel {κ : Still} {a b : Ag} {x : Value} (h : a.eqv b) (r : a.rel P gw κ x) : b.rel P gw κ x := by
  cases a <;> cases b <;> first | exact h.elim | skip
  · exact D.eqv_rel h r
  · obtain ⟨xs, hf, e⟩ := r; exact ⟨xs, dsEqv_rel h hf, e⟩
  · obtain ⟨rfl, h⟩ := h
    obtain ⟨ad, h1, h2, h3⟩ := r
    exact ⟨ad, h1, h2, fun j hj => by obtain ⟨y, hy, hr⟩ := h3 j hj; exact ⟨y, hy, D.eqv_rel (h j hj) hr⟩⟩
  · simp only [Ag.eqv] at h; subst h; exact r
theorem agsEqv_rel {κ : Still} : ∀ {as bs : List Ag} {xs : List Value}, agsEqv as bs → F2 (Ag.rel P gw κ) as xs → F2 (Ag.rel P gw κ) bs xs
  | [], [], _, _, r => r
  | a :: l, b :: k, _, h, .cons r rs => .cons (Ag.eqv_rel h.1 r) (agsEqv_rel h.2 rs)
  | [], _ :: _, _, h, _ => h.elim
  | _ :: _, [], _, h, _ => h.elim
theorem Ag.eqv_refl (a : Ag) : a.eqv a := by
  cases a with
  | c d => exact d.eqv_refl
  | agg ds => exact dsEqv_refl ds
  | ptr n F => exact ⟨rfl, fun j _ => D.eqv_refl _⟩
  | clo φ => rfl
theorem agsEqv_refl : ∀ (l : List Ag), agsEqv l l
  | [] => trivial
  | a :: l => ⟨a.eqv_refl, agsEqv_refl l⟩

/-- THE END of a contract's proof. -/
theorem fok_fin {sl : List (Nat × Sm)} (hmix : P.follows .mixedOrders = true) (hst : ∀ w w', gw w → Below w.heap.size w w' → gw w') (hS : AllS P G gw sl) {an : An} {f : FuncId} {fn : Func} (hf : P.funcs[f]? = some fn) {fuel : Nat} {ags ags' : List Ag} {xs : List Value} {w : World} {κ : Still} {r : List Ar} {t : T (List Ar)}
    (hgw : gw w) (hl : Lies κ w) (hG : GIn G κ) (hx : F2 (Ag.rel P gw κ) ags xs) (heq : agsEqv ags ags') (hlen : Nat.ble ags'.length fn.ntmps = true)
    (ht : runFn P G (lookS sl) an fuel fn ags' = t) (h : t.wp (fun rs => rsEqv rs r)) : Calls P f xs.toArray w (Back κ r w) :=
  fn_sound ⟨hmix, fun f σ hs => lookS_ok hS f σ hs, hst⟩ hf hgw hl hG (agsEqv_rel heq hx) hlen (by rw [ht]; exact h)
end
end Go.V
end
