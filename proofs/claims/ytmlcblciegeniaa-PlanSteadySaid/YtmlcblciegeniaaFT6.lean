/- The parts of the engines, of their contracts and of the plain laws that the claim rests on: A56, A65, A66, A67, A57, A68, A69, A70, A71, R0, RG. -/
import Derived.Test.YtmlcblciegeniaaFT5
import Derived.ChangeSame
import Derived.ChangeVars
import Derived.ProofKit
import Derived.LaidMore
import Derived.OpenShut
import Derived.Carry
import Derived.ChangeArms
set_option linter.unusedVariables false
set_option linter.unusedSimpArgs false
section
set_option linter.unusedVariables false
set_option linter.unusedSimpArgs false
set_option maxRecDepth 100000
namespace Go.Pl
open Go.V Go.Proofs
theorem put_row {α : Type} (E : Enc α) {l : List α} {i : Nat} {b : α} {F' : Nat → Nat → D} (hi : i < l.length) (hF : ∀ k, k ≠ i → F' k = E.F l k) (hj : ∀ j, j < E.st → (F' i j).eqv (E.enc b j)) (hr : E.rd (F' i) = b) : E.Is l.length F' ∧ E.list l.length F' = l.set i b := by
  constructor
  · intro k j hk hj'
    by_cases h : k = i
    · subst h
      rw [hr]; exact hj j hj'
    · rw [hF k h]
      have : E.rd (E.F l k) = l.getD k E.dflt := E.law _
      rw [this]; exact D.eqv_refl _
  · apply List.ext_getElem
    · simp [Enc.list]
    · intro k h1 h2
      simp only [Enc.list, List.getElem_map, List.getElem_range, List.getElem_set]
      by_cases h : i = k
      · subst h
        rw [if_pos rfl]; exact hr
      · rw [if_neg h, hF k (fun e => h e.symm)]
        have : E.rd (E.F l k) = l.getD k E.dflt := E.law _
        rw [this]
        have hk : k < l.length := by simpa using h2
        simp [List.getD_eq_getElem?_getD, List.getElem?_eq_getElem hk]
theorem putF_ne {i j n : Nat} {ds : List D} {F : Nat → Nat → D} : ∀ k, k ≠ i → putF i j n ds F k = F k := by
  intro k h
  funext j'
  unfold putF
  have : Nat.beq k i = false := by
    cases hb : Nat.beq k i with
    | false => rfl
    | true => exact absurd (Nat.eq_of_beq_eq_true hb) h
  rw [this]; rfl
theorem over_none {sc : List Scale} {fl : List Rg} : ∀ (n k : Nat), M.overF sc fl n k < 0 → ∀ i, k ≤ i → i < k + n → (fl.getD i dfR).hi ≤ (sc.getD i dfS).vol := by
  intro n
  induction n with
  | zero => intro k _ i h1 h2; omega
  | succ n ih =>
    intro k h i h1 h2
    simp only [M.overF] at h
    cases hb : decide ((fl.getD k dfR).hi > (sc.getD k dfS).vol) with
    | true => rw [hb] at h; have h : (k : Int) < 0 := h; omega
    | false =>
      rw [hb] at h
      have hb := of_decide_eq_false hb
      rcases Nat.lt_or_ge k i with hl | hl
      · exact ih (k + 1) h i (by omega) (by omega)
      · obtain rfl : i = k := by omega
        omega
structure Stead (sc : List Scale) (nw d : Int) : Prop where
  sys : (M.checkSys sc nw).2 = 0
  draw : M.drawErr d = 0
  same : ∀ k, k < sc.length → ((M.flows sc d).getD k dfR).lo = ((M.flows sc d).getD k dfR).hi
  pos : ∀ k, k < sc.length → 0 < ((M.flows sc d).getD k dfR).lo
  over : M.over sc (M.flows sc d) < 0
theorem Stead.vol {sc : List Scale} {nw d : Int} (h : Stead sc nw d) {k : Nat} (hk : k < sc.length) : 0 < ((M.flows sc d).getD k dfR).lo ∧ ((M.flows sc d).getD k dfR).lo ≤ (sc.getD k dfS).vol ∧ (sc.getD k dfS).vol ≤ 20000 := by
  have h1 := over_none _ 0 h.over k (Nat.zero_le _) (by rw [flows_len]; omega)
  have h2 := (scale_right ((sys_right h.sys).2.2.2 k hk)).1
  have h3 := h.same k hk
  exact ⟨h.pos k hk, by omega, h2.2⟩
structure AgOk (n : Nat) (ag : List Rg) : Prop where
  len : ag.length = n
  row : ∀ k, k < n → 0 ≤ (ag.getD k dfR).lo ∧ (ag.getD k dfR).lo ≤ (ag.getD k dfR).hi ∧ (ag.getD k dfR).hi ≤ 100000
end Go.Pl
end

section
set_option linter.unusedVariables false
set_option linter.unusedSimpArgs false
set_option maxRecDepth 100000
namespace Go.Pl
open Go.V Go.Proofs
theorem wv_mk (z : Int) : M.wv (M.sgn z) (M.mag z) = z := mk_val z
theorem can_mag (z : Int) : Can (M.sgn z) (M.mag z) := can_mk z
theorem mag_neg (z : Int) : M.mag (-z) = M.mag z := by unfold M.mag; rw [Int.natAbs_neg]
theorem can_eq {s : Int} {l : List Int} (h : Can s l) : s = M.sgn (M.wv s l) ∧ l = M.mag (M.wv s l) := can_wv h
theorem mag_dg (z : Int) : Dg (M.mag z) := dig_dg _
theorem val_mag (z : Int) : val (M.mag z) = (z.natAbs : Int) := val_dig (by omega)
def tr160 (sga : Int) (q_dia : Bool) (dia : List Int) (sgb : Int) (q_dib : Bool) (dib : List Int) : T (List Ar) :=
    T.need (iI dib) (T.need (Can sgb (cI dib)) (T.need (iI dia) (T.need (Enc.Is eI (List.length (M.mag (-M.wv sgb (cI dib)))) (Enc.F eI (M.mag (-M.wv sgb (cI dib))))) (T.need (Can sga (cI dia)) (T.need (Can (M.sgn (-M.wv sgb (cI dib))) (Enc.list eI (List.length (M.mag (-M.wv sgb (cI dib)))) (Enc.F eI (M.mag (-M.wv sgb (cI dib)))))) (T.need (List.length (cI dia) ≤ (90000 : Nat)) (T.need (List.length (Enc.list eI (List.length (M.mag (-M.wv sgb (cI dib)))) (Enc.F eI (M.mag (-M.wv sgb (cI dib))))) ≤ (90000 : Nat)) (T.ret [Ar.agg [D.int IntKind.i64 (M.sgn (M.wv sga (cI dia) + M.wv (M.sgn (-M.wv sgb (cI dib))) (Enc.list eI (List.length (M.mag (-M.wv sgb (cI dib)))) (Enc.F eI (M.mag (-M.wv sgb (cI dib))))))), D.sl false (List.length (M.mag (M.wv sga (cI dia) + M.wv (M.sgn (-M.wv sgb (cI dib))) (Enc.list eI (List.length (M.mag (-M.wv sgb (cI dib)))) (Enc.F eI (M.mag (-M.wv sgb (cI dib)))))))) (1 : Nat) (Enc.F eI (M.mag (M.wv sga (cI dia) + M.wv (M.sgn (-M.wv sgb (cI dib))) (Enc.list eI (List.length (M.mag (-M.wv sgb (cI dib)))) (Enc.F eI (M.mag (-M.wv sgb (cI dib))))))))]]))))))))
theorem t160 (sga : Int) (q_dia : Bool) (dia : List Int) (sgb : Int) (q_dib : Bool) (dib : List Int) : runFnX Try.prog G0 (lookS [v117, v159]) (fun _ => []) [] 1 60 4 160 Try.f160 [.agg [dI sga, .sl q_dia dia.length 1 (eI.F dia)], .agg [dI sgb, .sl q_dib dib.length 1 (eI.F dib)]] =
    tr160 sga q_dia dia sgb q_dib dib := by kernel_rfl
theorem w160 (s : Int) (qa : Bool) (a : List Int) (t : Int) (qb : Bool) (b : List Int) (hs : Can s a) (ht : Can t b) (hx : a.length ≤ 90000) (hy : b.length ≤ 90000) : (tr160 s qa a t qb b).wp (fun rs => rsEqv rs [.agg [dI (M.sgn (M.wv s a - M.wv t b)), .sl false (M.mag (M.wv s a - M.wv t b)).length 1 (eI.F (M.mag (M.wv s a - M.wv t b)))]]) := by
  unfold tr160
  have e := (can_eq ht).2
  have e2 : M.mag (-M.wv t b) = b := by rw [mag_neg]; exact e.symm
  have e3 : M.wv (M.sgn (-M.wv t b)) b = -M.wv t b := by
    conv => lhs; arg 2; rw [← e2]
    exact wv_mk _
  have e4 : Can (M.sgn (-M.wv t b)) b := by
    have := can_mag (-M.wv t b)
    rwa [e2] at this
  simp only [cI, iI, Enc.list_F, e2, e3, ← Int.sub_eq_add_neg]
  exact ⟨Enc.is_F _ _ _, ht, Enc.is_F _ _ _, Enc.is_F _ _ _, hs, e4, hx, hy, rsEqv_refl _⟩
def dom160 : DomF
  | [.agg [.int .i64 sga, .sl _ n_dia st_dia F_dia], .agg [.int .i64 sgb, .sl _ n_dib st_dib F_dib]] => (match (Nat.beq st_dia 1 || Nat.beq n_dia 0) && (Nat.beq st_dib 1 || Nat.beq n_dib 0) with
    | true => some ([eI.Is n_dia F_dia, eI.Is n_dib F_dib, Can sga (eI.list n_dia F_dia), Can sgb (eI.list n_dib F_dib), (eI.list n_dia F_dia).length ≤ 90000, (eI.list n_dib F_dib).length ≤ 90000], [.agg [dI (M.sgn (M.wv sga (eI.list n_dia F_dia) - M.wv sgb (eI.list n_dib F_dib))), .sl false (M.mag (M.wv sga (eI.list n_dia F_dia) - M.wv sgb (eI.list n_dib F_dib))).length 1 (eI.F (M.mag (M.wv sga (eI.list n_dia F_dia) - M.wv sgb (eI.list n_dib F_dib))))]])
    | _ => none)
  | _ => none
def v160 : Nat × Sm := (160, fokSm dom160)
theorem C160 : FOK Try.prog G0 gw 160 dom160 := by
  intro ags p r hd hp κ w xs hw hl hG hx
  unfold dom160 at hd
  split at hd
  · rename_i sga q_dia n_dia st_dia F_dia sgb q_dib n_dib st_dib F_dib
    split at hd
    · rename_i hst
      simp only [Bool.and_eq_true] at hst
      obtain ⟨g1, g2⟩ := hst
      simp only [Option.some.injEq, Prod.mk.injEq] at hd
      obtain ⟨rfl, rfl⟩ := hd
      obtain ⟨hI_dia, hI_dib, hp⟩ := hp
      have heq : agsEqv [.agg [.int .i64 sga, .sl q_dia n_dia st_dia F_dia], .agg [.int .i64 sgb, .sl q_dib n_dib st_dib F_dib]] [.agg [.int .i64 sga, .sl q_dia (eI.list n_dia F_dia).length 1 (eI.F (eI.list n_dia F_dia))], .agg [.int .i64 sgb, .sl q_dib (eI.list n_dib F_dib).length 1 (eI.F (eI.list n_dib F_dib))]] := ⟨⟨rfl, eI.toz g1 hI_dia, trivial⟩, ⟨rfl, eI.toz g2 hI_dib, trivial⟩, trivial⟩
      have len_dia : (eI.list n_dia F_dia).length = n_dia := eI.list_len
      have len_dib : (eI.list n_dib F_dib).length = n_dib := eI.list_len
      generalize eI.list n_dia F_dia = dia at *
      generalize eI.list n_dib F_dib = dib at *
      subst len_dia len_dib
      exact fokX_fin mixed gw_stable (sl := [v117, v159]) ⟨S117, S159, trivial⟩ Try.func160 hw hl hG hx heq rfl (t160 _ _ _ _ _ _) (w160 _ _ _ _ _ _ hp.1 hp.2.1 hp.2.2.1 hp.2.2.2.1)
    · cases hd
  · cases hd
theorem S160 : SumOK Try.prog G0 gw 160 (fokSm dom160) := fok_sum Try.func160 rfl C160
theorem bp_add (n m : Nat) : bp (n + m) = bp n * bp m := by
  induction n with
  | zero => rw [Nat.zero_add]; show bp m = 1 * bp m; omega
  | succ n ih => rw [Nat.succ_add, bp_succ, bp_succ, ih, Int.mul_assoc]
theorem val_set : ∀ {l : List Int} {i : Nat} {x : Int}, i < l.length → val (l.set i x) = val l + bp i * (x - l.getD i 0) := by
  intro l
  induction l with
  | nil => intro i x h; exact absurd h (Nat.not_lt_zero i)
  | cons d l ih =>
    intro i x h
    cases i with
    | zero =>
      show x + 1000000000 * val l = d + 1000000000 * val l + 1 * (x - d)
      omega
    | succ i =>
      have := ih (x := x) (Nat.lt_of_succ_lt_succ h)
      show d + 1000000000 * val (l.set i x) = d + 1000000000 * val l + (1000000000 : Int) * bp i * (x - l.getD i 0)
      rw [this, Int.mul_add, Int.mul_assoc]; omega
theorem dg_set {l : List Int} (h : Dg l) (i : Nat) {x : Int} (hx : 0 ≤ x ∧ x < 1000000000) : Dg (l.set i x) := fun y hy => by
  rcases List.mem_or_eq_of_mem_set hy with hy | hy
  · exact h y hy
  · rw [hy]; exact hx
theorem set_at (l : List Int) (i j : Nat) (x : Int) (h : j ≠ i) : (l.set i x).getD j 0 = l.getD j 0 := by
  rw [List.getD_eq_getElem?_getD, List.getElem?_set_ne (by omega), List.getD_eq_getElem?_getD]
structure MuI (a b : List Int) (i : Nat) (out : List Int) : Prop where
  dg : Dg out
  len : out.length = a.length + b.length + 1
  z : ∀ j, i + b.length ≤ j → out.getD j 0 = 0
  v : val out = val (a.take i) * val b
structure MuJ (a b : List Int) (i k : Nat) (w : Int) (out : List Int) : Prop where
  dg : Dg out
  len : out.length = a.length + b.length + 1
  kle : k ≤ b.length
  w0 : 0 ≤ w ∧ w < 1000000000
  z : ∀ j, i + b.length ≤ j → out.getD j 0 = 0
  v : val out + bp (i + k) * w = val (a.take i) * val b + bp i * (a.getD i 0 * val (b.take k))
theorem MuI.start {a b : List Int} {i : Nat} {out : List Int} (h : MuI a b i out) : MuJ a b i 0 0 out :=
  ⟨h.dg, h.len, Nat.zero_le _, by decide, h.z, by rw [Int.mul_zero, h.v]; show _ = _ + bp i * (a.getD i 0 * 0); rw [Int.mul_zero, Int.mul_zero]⟩
theorem mul_small {x y : Int} (hx : 0 ≤ x ∧ x < 1000000000) (hy : 0 ≤ y ∧ y < 1000000000) : 0 ≤ x * y ∧ x * y ≤ 999999998000000001 := by
  refine ⟨Int.mul_nonneg hx.1 hy.1, ?_⟩
  have h1 : x * y ≤ 999999999 * y := Int.mul_le_mul_of_nonneg_right (by omega) hy.1
  omega
theorem MuJ.step {a b : List Int} (ha : Dg a) (hb : Dg b) {i k : Nat} {w : Int} {out : List Int} (h : MuJ a b i k w out) (hi : i < a.length) (hk : k < b.length) :
    IntKind.i64.wrap (IntKind.i64.wrap (out.getD (i + k) 0 + IntKind.i64.wrap (a.getD i 0 * b.getD k 0)) + w) = out.getD (i + k) 0 + a.getD i 0 * b.getD k 0 + w ∧
    IntKind.i64.wrap ((out.getD (i + k) 0 + a.getD i 0 * b.getD k 0 + w).tdiv 1000000000) = (out.getD (i + k) 0 + a.getD i 0 * b.getD k 0 + w) / 1000000000 ∧
    (out.getD (i + k) 0 + a.getD i 0 * b.getD k 0 + w).tmod 1000000000 = (out.getD (i + k) 0 + a.getD i 0 * b.getD k 0 + w) % 1000000000 ∧
    MuJ a b i (k + 1) ((out.getD (i + k) 0 + a.getD i 0 * b.getD k 0 + w) / 1000000000) (out.set (i + k) ((out.getD (i + k) 0 + a.getD i 0 * b.getD k 0 + w) % 1000000000)) := by
  have dA := dg_at ha i
  have dB := dg_at hb k
  have dO := dg_at h.dg (i + k)
  have hw := h.w0
  have hp := mul_small dA dB
  have hv := h.v
  have hl := h.len
  have vs := val_set (l := out) (i := i + k) (x := (out.getD (i + k) 0 + a.getD i 0 * b.getD k 0 + w) % 1000000000) (by omega)
  have vt := val_take_succ b k
  generalize hP : a.getD i 0 * b.getD k 0 = P at *
  generalize hO : out.getD (i + k) 0 = O at *
  have hq := Int.tdiv_eq_ediv_of_nonneg (a := O + P + w) (b := 1000000000) (by omega)
  have hr := Int.tmod_eq_emod_of_nonneg (a := O + P + w) (b := 1000000000) (by omega)
  have ee := Int.emod_add_mul_ediv (O + P + w) 1000000000
  refine ⟨by rw [wrap_id (n := P) (by omega) (by omega), wrap_id (n := O + P) (by omega) (by omega), wrap_id (by omega) (by omega)], by rw [hq]; exact wrap_id (by omega) (by omega), hr, ?_⟩
  refine ⟨dg_set h.dg _ (by omega), by rw [List.length_set, hl], hk, by omega, fun j hj => by rw [set_at _ _ _ _ (by omega)]; exact h.z j hj, ?_⟩
  rw [vs, vt, ← Nat.add_assoc, bp_succ]
  have e1 : bp i * (a.getD i 0 * (val (b.take k) + bp k * b.getD k 0)) = bp i * (a.getD i 0 * val (b.take k)) + bp (i + k) * P := by
    rw [bp_add, ← hP]; grind
  rw [e1, ← Int.add_assoc, ← hv]
  generalize (O + P + w) % 1000000000 = r at *
  generalize (O + P + w) / 1000000000 = q at *
  generalize bp (i + k) = B at *
  grind
theorem MuJ.fin {a b : List Int} (ha : Dg a) {i : Nat} {w : Int} {k : Nat} {out : List Int} (h : MuJ a b i k w out) (hi : i < a.length) (hk : b.length ≤ k) :
    IntKind.i64.wrap (out.getD (i + b.length) 0 + w) = w ∧ MuI a b (i + 1) (out.set (i + b.length) w) := by
  have hz := h.z (i + b.length) (Nat.le_refl _)
  have hw := h.w0
  have hl := h.len
  have hkl := h.kle
  obtain rfl : k = b.length := by omega
  have hv := h.v
  rw [List.take_of_length_le (Nat.le_refl _)] at hv
  refine ⟨by rw [hz, Int.zero_add]; exact wrap_id (by omega) (by omega), dg_set h.dg _ hw, by rw [List.length_set, hl], fun j hj => by rw [set_at _ _ _ _ (by omega)]; exact h.z j (by omega), ?_⟩
  rw [val_set (by omega), hz, Int.sub_zero, hv, val_take_succ]
  grind
theorem in_put {l : List Int} {i n : Nat} {x : Int} (hi : i < l.length) (hn : n = 1) : eI.Is l.length (putF i 0 n [dI x] (eI.F l)) ∧ eI.list l.length (putF i 0 n [dI x] (eI.F l)) = l.set i x := by
  subst hn
  have at_ : putF i 0 1 [dI x] (eI.F l) i 0 = dI x := by
    unfold putF
    rw [show Nat.beq i i = true from Nat.beq_refl i, Bool.true_and]
    rfl
  refine put_row eI hi (fun j hj => putF_ne j hj) (fun j hj => ?_) ?_
  · obtain rfl : j = 0 := by have : j < 1 := hj; omega
    rw [at_]; exact D.eqv_refl _
  · show rdI _ 0 = x
    unfold rdI
    rw [at_]
theorem sgn_mul (x y : Int) : M.wos (IntKind.i64.wrap (M.sgn x * M.sgn y)) ((x * y).natAbs : Int) = M.sgn (x * y) := by
  have hx : x < 0 ∨ x = 0 ∨ 0 < x := by omega
  have hy : y < 0 ∨ y = 0 ∨ 0 < y := by omega
  have n0 : ∀ z : Int, z < 0 → M.sgn z = -1 := fun z h => by unfold M.sgn; rw [if_pos h]
  have p0 : ∀ z : Int, 0 < z → M.sgn z = 1 := fun z h => by unfold M.sgn; rw [if_neg (by omega), if_neg (by omega)]
  have z0 : M.wos (IntKind.i64.wrap (M.sgn x * M.sgn y)) (((0 : Int).natAbs : Nat) : Int) = M.sgn 0 := rfl
  have ne : ∀ {s z : Int}, z ≠ 0 → M.wos s (z.natAbs : Int) = s := fun {s z} h => by unfold M.wos; rw [if_neg (by omega)]
  rcases hx with h | rfl | h
  · rcases hy with k | rfl | k
    · have := Int.mul_pos_of_neg_of_neg h k
      rw [ne (by omega), n0 x h, n0 y k, p0 _ this]; decide
    · rw [Int.mul_zero]; exact z0
    · have := Int.mul_neg_of_neg_of_pos h k
      rw [ne (by omega), n0 x h, p0 y k, n0 _ this]; decide
  · rw [Int.zero_mul]; exact z0
  · rcases hy with k | rfl | k
    · have := Int.mul_neg_of_pos_of_neg h k
      rw [ne (by omega), p0 x h, n0 y k, n0 _ this]; decide
    · rw [Int.mul_zero]; exact z0
    · have := Int.mul_pos h k
      rw [ne (by omega), p0 x h, p0 y k, p0 _ this]; decide
theorem muI0 (a b : List Int) : MuI a b 0 (List.replicate (a.length + b.length + 1) 0) := by
  refine ⟨fun x hx => ?_, List.length_replicate, fun j hj => ?_, ?_⟩
  · rw [List.eq_of_mem_replicate hx]; decide
  · rw [List.getD_eq_getElem?_getD, List.getElem?_replicate]
    split <;> rfl
  · show _ = 0 * val b
    rw [Int.zero_mul]
    exact val_zero fun x hx => List.eq_of_mem_replicate hx
theorem zeros_row (n : Nat) : eI.Is n (fun (_ j : Nat) => [dI 0].getD j .nilp) ∧ eI.list n (fun (_ j : Nat) => [dI 0].getD j .nilp) = List.replicate n 0 := by
  refine ⟨fun i j _ hj => ?_, ?_⟩
  · obtain rfl : j = 0 := by have : j < 1 := hj; omega
    exact D.eqv_refl _
  · apply List.ext_getElem
    · simp [Enc.list]
    · intro i h1 h2
      simp only [Enc.list, List.getElem_map, List.getElem_replicate]
      rfl
def tr101 (sga : Int) (q_dia : Bool) (dia : List Int) (sgb : Int) (q_dib : Bool) (dib : List Int) : T (List Ar) :=
    T.need ((0 : Int) ≤ IntKind.i64.wrap (IntKind.i64.wrap ((Nat.cast (R := Int) (List.length dia)) + (Nat.cast (R := Int) (List.length dib))) + (1 : Int))) (T.need (IntKind.i64.wrap (IntKind.i64.wrap ((Nat.cast (R := Int) (List.length dia)) + (Nat.cast (R := Int) (List.length dib))) + (1 : Int)) ≤ IntKind.i64.wrap (IntKind.i64.wrap ((Nat.cast (R := Int) (List.length dia)) + (Nat.cast (R := Int) (List.length dib))) + (1 : Int))) (T.need (IntKind.i64.wrap (IntKind.i64.wrap ((Nat.cast (R := Int) (List.length dia)) + (Nat.cast (R := Int) (List.length dib))) + (1 : Int)) ≤ (1000000 : Int)) (T.need (Enc.Is eI (Int.toNat (IntKind.i64.wrap (IntKind.i64.wrap ((Nat.cast (R := Int) (List.length dia)) + (Nat.cast (R := Int) (List.length dib))) + (1 : Int)))) fun (x j : Nat) => List.getD [D.int IntKind.i64 (0 : Int)] j D.nilp) (T.need (Int.toNat (IntKind.i64.wrap (IntKind.i64.wrap ((Nat.cast (R := Int) (List.length dia)) + (Nat.cast (R := Int) (List.length dib))) + (1 : Int))) ≤ Int.toNat (IntKind.i64.wrap (IntKind.i64.wrap ((Nat.cast (R := Int) (List.length dia)) + (Nat.cast (R := Int) (List.length dib))) + (1 : Int)))) (T.loop (Int × List Int × PUnit) ((0 : Int), Enc.list eI (Int.toNat (IntKind.i64.wrap (IntKind.i64.wrap ((Nat.cast (R := Int) (List.length dia)) + (Nat.cast (R := Int) (List.length dib))) + (1 : Int)))) fun (x j : Nat) => List.getD [D.int IntKind.i64 (0 : Int)] j D.nilp, PUnit.unit) fun (x : Int × List Int × PUnit) => T.br (decide (Prod.fst x < (Nat.cast (R := Int) (List.length dia)))) (T.need (Enc.Is eI (List.length (Prod.fst (Prod.snd x))) (Enc.F eI (Prod.fst (Prod.snd x)))) (T.need (List.length (Prod.fst (Prod.snd x)) ≤ List.length (Prod.fst (Prod.snd x))) (T.loop (Int × Int × List Int × PUnit) ((0 : Int), (0 : Int), Enc.list eI (List.length (Prod.fst (Prod.snd x))) (Enc.F eI (Prod.fst (Prod.snd x))), PUnit.unit) fun (x_1 : Int × Int × List Int × PUnit) => T.br (decide (Prod.fst x_1 < (Nat.cast (R := Int) (List.length dib)))) (T.need ((0 : Int) ≤ IntKind.i64.wrap (Prod.fst x + Prod.fst x_1)) (T.need (IntKind.i64.wrap (Prod.fst x + Prod.fst x_1) < (Nat.cast (R := Int) (List.length (Prod.fst (Prod.snd (Prod.snd x_1)))))) (T.need (Int.toNat (IntKind.i64.wrap (Prod.fst x + Prod.fst x_1)) < List.length (Prod.fst (Prod.snd (Prod.snd x_1)))) (T.need ((0 : Int) ≤ Prod.fst x) (T.need (Prod.fst x < (Nat.cast (R := Int) (List.length dia))) (T.need ((0 : Int) ≤ Prod.fst x_1) (T.need (Prod.fst x_1 < (Nat.cast (R := Int) (List.length dib))) (T.need ((0 : Int) ≤ IntKind.i64.wrap (Prod.fst x + Prod.fst x_1)) (T.need (IntKind.i64.wrap (Prod.fst x + Prod.fst x_1) < (Nat.cast (R := Int) (List.length (Prod.fst (Prod.snd (Prod.snd x_1)))))) (T.need (Int.toNat (IntKind.i64.wrap (Prod.fst x + Prod.fst x_1)) < List.length (Prod.fst (Prod.snd (Prod.snd x_1)))) (T.need (Enc.Is eI (List.length (Prod.fst (Prod.snd (Prod.snd x_1)))) (putF (Int.toNat (IntKind.i64.wrap (Prod.fst x + Prod.fst x_1))) (0 : Nat) (List.length [C.int IntKind.i64 (Int.tmod (IntKind.i64.wrap (IntKind.i64.wrap (List.getD (Prod.fst (Prod.snd (Prod.snd x_1))) (Int.toNat (IntKind.i64.wrap (Prod.fst x + Prod.fst x_1))) (0 : Int) + IntKind.i64.wrap (List.getD dia (Int.toNat (Prod.fst x)) (0 : Int) * List.getD dib (Int.toNat (Prod.fst x_1)) (0 : Int))) + Prod.fst (Prod.snd x_1))) (1000000000 : Int))]) [D.int IntKind.i64 (Int.tmod (IntKind.i64.wrap (IntKind.i64.wrap (List.getD (Prod.fst (Prod.snd (Prod.snd x_1))) (Int.toNat (IntKind.i64.wrap (Prod.fst x + Prod.fst x_1))) (0 : Int) + IntKind.i64.wrap (List.getD dia (Int.toNat (Prod.fst x)) (0 : Int) * List.getD dib (Int.toNat (Prod.fst x_1)) (0 : Int))) + Prod.fst (Prod.snd x_1))) (1000000000 : Int))] (Enc.F eI (Prod.fst (Prod.snd (Prod.snd x_1)))))) (T.need (List.length (Prod.fst (Prod.snd (Prod.snd x_1))) ≤ List.length (Prod.fst (Prod.snd (Prod.snd x_1)))) (T.ret (Sum.inl (IntKind.i64.wrap (Prod.fst x_1 + (1 : Int)), IntKind.i64.wrap (Int.tdiv (IntKind.i64.wrap (IntKind.i64.wrap (List.getD (Prod.fst (Prod.snd (Prod.snd x_1))) (Int.toNat (IntKind.i64.wrap (Prod.fst x + Prod.fst x_1))) (0 : Int) + IntKind.i64.wrap (List.getD dia (Int.toNat (Prod.fst x)) (0 : Int) * List.getD dib (Int.toNat (Prod.fst x_1)) (0 : Int))) + Prod.fst (Prod.snd x_1))) (1000000000 : Int)), Enc.list eI (List.length (Prod.fst (Prod.snd (Prod.snd x_1)))) (putF (Int.toNat (IntKind.i64.wrap (Prod.fst x + Prod.fst x_1))) (0 : Nat) (List.length [C.int IntKind.i64 (Int.tmod (IntKind.i64.wrap (IntKind.i64.wrap (List.getD (Prod.fst (Prod.snd (Prod.snd x_1))) (Int.toNat (IntKind.i64.wrap (Prod.fst x + Prod.fst x_1))) (0 : Int) + IntKind.i64.wrap (List.getD dia (Int.toNat (Prod.fst x)) (0 : Int) * List.getD dib (Int.toNat (Prod.fst x_1)) (0 : Int))) + Prod.fst (Prod.snd x_1))) (1000000000 : Int))]) [D.int IntKind.i64 (Int.tmod (IntKind.i64.wrap (IntKind.i64.wrap (List.getD (Prod.fst (Prod.snd (Prod.snd x_1))) (Int.toNat (IntKind.i64.wrap (Prod.fst x + Prod.fst x_1))) (0 : Int) + IntKind.i64.wrap (List.getD dia (Int.toNat (Prod.fst x)) (0 : Int) * List.getD dib (Int.toNat (Prod.fst x_1)) (0 : Int))) + Prod.fst (Prod.snd x_1))) (1000000000 : Int))] (Enc.F eI (Prod.fst (Prod.snd (Prod.snd x_1))))), PUnit.unit))))))))))))))) (T.need ((0 : Int) ≤ IntKind.i64.wrap (Prod.fst x + (Nat.cast (R := Int) (List.length dib)))) (T.need (IntKind.i64.wrap (Prod.fst x + (Nat.cast (R := Int) (List.length dib))) < (Nat.cast (R := Int) (List.length (Prod.fst (Prod.snd (Prod.snd x_1)))))) (T.need (Int.toNat (IntKind.i64.wrap (Prod.fst x + (Nat.cast (R := Int) (List.length dib)))) < List.length (Prod.fst (Prod.snd (Prod.snd x_1)))) (T.need ((0 : Int) ≤ IntKind.i64.wrap (Prod.fst x + (Nat.cast (R := Int) (List.length dib)))) (T.need (IntKind.i64.wrap (Prod.fst x + (Nat.cast (R := Int) (List.length dib))) < (Nat.cast (R := Int) (List.length (Prod.fst (Prod.snd (Prod.snd x_1)))))) (T.need (Int.toNat (IntKind.i64.wrap (Prod.fst x + (Nat.cast (R := Int) (List.length dib)))) < List.length (Prod.fst (Prod.snd (Prod.snd x_1)))) (T.need (Enc.Is eI (List.length (Prod.fst (Prod.snd (Prod.snd x_1)))) (putF (Int.toNat (IntKind.i64.wrap (Prod.fst x + (Nat.cast (R := Int) (List.length dib))))) (0 : Nat) (List.length [C.int IntKind.i64 (IntKind.i64.wrap (List.getD (Prod.fst (Prod.snd (Prod.snd x_1))) (Int.toNat (IntKind.i64.wrap (Prod.fst x + (Nat.cast (R := Int) (List.length dib))))) (0 : Int) + Prod.fst (Prod.snd x_1)))]) [D.int IntKind.i64 (IntKind.i64.wrap (List.getD (Prod.fst (Prod.snd (Prod.snd x_1))) (Int.toNat (IntKind.i64.wrap (Prod.fst x + (Nat.cast (R := Int) (List.length dib))))) (0 : Int) + Prod.fst (Prod.snd x_1)))] (Enc.F eI (Prod.fst (Prod.snd (Prod.snd x_1)))))) (T.need (List.length (Prod.fst (Prod.snd (Prod.snd x_1))) ≤ List.length (Prod.fst (Prod.snd (Prod.snd x_1)))) (T.ret (Sum.inr (Sum.inl (IntKind.i64.wrap (Prod.fst x + (1 : Int)), Enc.list eI (List.length (Prod.fst (Prod.snd (Prod.snd x_1)))) (putF (Int.toNat (IntKind.i64.wrap (Prod.fst x + (Nat.cast (R := Int) (List.length dib))))) (0 : Nat) (List.length [C.int IntKind.i64 (IntKind.i64.wrap (List.getD (Prod.fst (Prod.snd (Prod.snd x_1))) (Int.toNat (IntKind.i64.wrap (Prod.fst x + (Nat.cast (R := Int) (List.length dib))))) (0 : Int) + Prod.fst (Prod.snd x_1)))]) [D.int IntKind.i64 (IntKind.i64.wrap (List.getD (Prod.fst (Prod.snd (Prod.snd x_1))) (Int.toNat (IntKind.i64.wrap (Prod.fst x + (Nat.cast (R := Int) (List.length dib))))) (0 : Int) + Prod.fst (Prod.snd x_1)))] (Enc.F eI (Prod.fst (Prod.snd (Prod.snd x_1))))), PUnit.unit))))))))))))))) (T.need (List.length (Prod.fst (Prod.snd x)) ≤ List.length (Prod.fst (Prod.snd x))) (T.need (Enc.Is eI (List.length (Prod.fst (Prod.snd x))) (Enc.F eI (Prod.fst (Prod.snd x)))) (T.need (Dg (Enc.list eI (List.length (Prod.fst (Prod.snd x))) (Enc.F eI (Prod.fst (Prod.snd x))))) (T.need (List.length (Enc.list eI (List.length (Prod.fst (Prod.snd x))) (Enc.F eI (Prod.fst (Prod.snd x)))) ≤ (1000000 : Nat)) (T.ret (Sum.inr [Ar.agg [D.int IntKind.i64 (M.wos (IntKind.i64.wrap (sga * sgb)) (val (Enc.list eI (List.length (Prod.fst (Prod.snd x))) (Enc.F eI (Prod.fst (Prod.snd x)))))), D.sl false (List.length (M.dig (val (Enc.list eI (List.length (Prod.fst (Prod.snd x))) (Enc.F eI (Prod.fst (Prod.snd x))))))) (1 : Nat) (Enc.F eI (M.dig (val (Enc.list eI (List.length (Prod.fst (Prod.snd x))) (Enc.F eI (Prod.fst (Prod.snd x)))))))]])))))))))))
theorem t101 (sga : Int) (q_dia : Bool) (dia : List Int) (sgb : Int) (q_dib : Bool) (dib : List Int) : runFnX Try.prog G0 (lookS [v161]) (fun _ => [(3, [.slot 6 (.int .i64), .slot 5 (.rowE 3 eI)], none), (7, [.slot 8 (.int .i64), .slot 7 (.int .i64), .slot 5 (.rowE 3 eI)], none)]) [] 1 60 4 101 Try.f101 [.agg [dI sga, .sl q_dia dia.length 1 (eI.F dia)], .agg [dI sgb, .sl q_dib dib.length 1 (eI.F dib)]] =
    tr101 sga q_dia dia sgb q_dib dib := by kernel_rfl
theorem w101 (s : Int) (qa : Bool) (a : List Int) (t : Int) (qb : Bool) (b : List Int) (hs : Can s a) (ht : Can t b) (hx : a.length ≤ 90000) (hy : b.length ≤ 90000) : (tr101 s qa a t qb b).wp (fun rs => rsEqv rs [.agg [dI (M.sgn (M.wv s a * M.wv t b)), .sl false (M.mag (M.wv s a * M.wv t b)).length 1 (eI.F (M.mag (M.wv s a * M.wv t b)))]]) := by
  unfold tr101
  have da : Dg a := (can_abs hs).2.2
  have db : Dg b := (can_abs ht).2.2
  have hN : IntKind.i64.wrap (IntKind.i64.wrap ((a.length : Int) + (b.length : Int)) + 1) = ((a.length + b.length + 1 : Nat) : Int) := by
    rw [wrap_id (n := (a.length : Int) + (b.length : Int)) (by omega) (by omega), wrap_id (by omega) (by omega)]; omega
  simp only [hN, Int.toNat_natCast]
  obtain ⟨z1, z2⟩ := zeros_row (a.length + b.length + 1)
  refine ⟨by omega, Int.le_refl _, by omega, z1, Nat.le_refl _, ?_⟩
  refine ⟨fun x => ∃ i : Nat, x.1 = i ∧ i ≤ a.length ∧ MuI a b i x.2.1, fun x => a.length - x.1.toNat, ⟨0, rfl, Nat.zero_le _, by rw [z2]; exact muI0 a b⟩, ?_⟩
  rintro ⟨i', out, u⟩ ⟨i, hi', hia, hI⟩
  have hi' : i' = (i : Int) := hi'
  subst hi'
  have hI : MuI a b i out := hI
  refine wp_br (fun hb => ?_) (fun hb => ?_)
  · have hlt := lt_of_dec hb
    dsimp only
    refine ⟨Enc.is_F _ _ _, Nat.le_refl _, ?_⟩
    refine ⟨fun x => ∃ k : Nat, x.1 = k ∧ MuJ a b i k x.2.1 x.2.2.1, fun x => b.length - x.1.toNat, ⟨0, rfl, by rw [Enc.list_F]; exact hI.start⟩, ?_⟩
    rintro ⟨k', w, out', u'⟩ ⟨k, hk', hJ⟩
    have hk' : k' = (k : Int) := hk'
    subst hk'
    have hJ : MuJ a b i k w out' := hJ
    have hl := hJ.len
    have hkl := hJ.kle
    refine wp_br (fun hc => ?_) (fun hc => ?_)
    · have hlt2 := lt_of_dec hc
      obtain ⟨s1, s2, s3, s4⟩ := hJ.step da db hlt hlt2
      have e1 : IntKind.i64.wrap ((i : Int) + (k : Int)) = ((i + k : Nat) : Int) := by rw [wrap_id (by omega) (by omega)]; omega
      dsimp only
      simp only [e1, Int.toNat_natCast, s1, s2, s3]
      obtain ⟨p1, p2⟩ := in_put (l := out') (i := i + k) (n := 1) (x := (out'.getD (i + k) 0 + a.getD i 0 * b.getD k 0 + w) % 1000000000) (by omega) rfl
      have hw : IntKind.i64.wrap ((k : Int) + 1) = ((k + 1 : Nat) : Int) := wrap_succ (by omega)
      refine ⟨by omega, by omega, by omega, by omega, by omega, by omega, by omega, by omega, by omega, by omega, p1, Nat.le_refl _, ⟨k + 1, hw, ?_⟩, ?_⟩
      · show MuJ a b i (k + 1) _ (eI.list out'.length (putF (i + k) 0 1 _ (eI.F out')))
        rw [p2]; exact s4
      · show b.length - (IntKind.i64.wrap ((k : Int) + 1)).toNat < b.length - ((k : Int)).toNat
        rw [hw]; omega
    · have hge := ge_of_dec hc
      obtain ⟨s1, s4⟩ := hJ.fin da hlt hge
      have e1 : IntKind.i64.wrap ((i : Int) + (b.length : Int)) = ((i + b.length : Nat) : Int) := by rw [wrap_id (by omega) (by omega)]; omega
      dsimp only
      simp only [e1, Int.toNat_natCast, s1]
      obtain ⟨p1, p2⟩ := in_put (l := out') (i := i + b.length) (n := 1) (x := w) (by omega) rfl
      have hw : IntKind.i64.wrap ((i : Int) + 1) = ((i + 1 : Nat) : Int) := wrap_succ (by omega)
      refine ⟨by omega, by omega, by omega, by omega, by omega, by omega, p1, Nat.le_refl _, ⟨i + 1, hw, hlt, ?_⟩, ?_⟩
      · show MuI a b (i + 1) (eI.list out'.length (putF (i + b.length) 0 1 _ (eI.F out')))
        rw [p2]; exact s4
      · show a.length - (IntKind.i64.wrap ((i : Int) + 1)).toNat < a.length - ((i : Int)).toNat
        rw [hw]; omega
  · have hge := ge_of_dec hb
    obtain rfl : i = a.length := by omega
    have hv := hI.v
    rw [List.take_of_length_le (Nat.le_refl _)] at hv
    have hl := hI.len
    dsimp only
    simp only [Enc.list_F, hv]
    refine ⟨Nat.le_refl _, Enc.is_F _ _ _, hI.dg, by omega, ?_⟩
    obtain ⟨x, rfl, rfl⟩ := hs
    obtain ⟨y, rfl, rfl⟩ := ht
    rw [show val (M.dig (x.natAbs : Int)) = (x.natAbs : Int) from val_mag x, show val (M.dig (y.natAbs : Int)) = (y.natAbs : Int) from val_mag y,
      show M.wv (M.sgn x) (M.dig (x.natAbs : Int)) = x from wv_mk x, show M.wv (M.sgn y) (M.dig (y.natAbs : Int)) = y from wv_mk y]
    have e : (x.natAbs : Int) * (y.natAbs : Int) = ((x * y).natAbs : Int) := by rw [Int.natAbs_mul]; push_cast; rfl
    have e2 : M.wos (IntKind.i64.wrap (M.sgn x * M.sgn y)) ((x * y).natAbs : Int) = M.sgn (x * y) := sgn_mul x y
    rw [e, e2]
    exact rsEqv_refl _
def dom101 : DomF
  | [.agg [.int .i64 sga, .sl _ n_dia st_dia F_dia], .agg [.int .i64 sgb, .sl _ n_dib st_dib F_dib]] => (match (Nat.beq st_dia 1 || Nat.beq n_dia 0) && (Nat.beq st_dib 1 || Nat.beq n_dib 0) with
    | true => some ([eI.Is n_dia F_dia, eI.Is n_dib F_dib, Can sga (eI.list n_dia F_dia), Can sgb (eI.list n_dib F_dib), (eI.list n_dia F_dia).length ≤ 90000, (eI.list n_dib F_dib).length ≤ 90000], [.agg [dI (M.sgn (M.wv sga (eI.list n_dia F_dia) * M.wv sgb (eI.list n_dib F_dib))), .sl false (M.mag (M.wv sga (eI.list n_dia F_dia) * M.wv sgb (eI.list n_dib F_dib))).length 1 (eI.F (M.mag (M.wv sga (eI.list n_dia F_dia) * M.wv sgb (eI.list n_dib F_dib))))]])
    | _ => none)
  | _ => none
def v101 : Nat × Sm := (101, fokSm dom101)
theorem C101 : FOK Try.prog G0 gw 101 dom101 := by
  intro ags p r hd hp κ w xs hw hl hG hx
  unfold dom101 at hd
  split at hd
  · rename_i sga q_dia n_dia st_dia F_dia sgb q_dib n_dib st_dib F_dib
    split at hd
    · rename_i hst
      simp only [Bool.and_eq_true] at hst
      obtain ⟨g1, g2⟩ := hst
      simp only [Option.some.injEq, Prod.mk.injEq] at hd
      obtain ⟨rfl, rfl⟩ := hd
      obtain ⟨hI_dia, hI_dib, hp⟩ := hp
      have heq : agsEqv [.agg [.int .i64 sga, .sl q_dia n_dia st_dia F_dia], .agg [.int .i64 sgb, .sl q_dib n_dib st_dib F_dib]] [.agg [.int .i64 sga, .sl q_dia (eI.list n_dia F_dia).length 1 (eI.F (eI.list n_dia F_dia))], .agg [.int .i64 sgb, .sl q_dib (eI.list n_dib F_dib).length 1 (eI.F (eI.list n_dib F_dib))]] := ⟨⟨rfl, eI.toz g1 hI_dia, trivial⟩, ⟨rfl, eI.toz g2 hI_dib, trivial⟩, trivial⟩
      have len_dia : (eI.list n_dia F_dia).length = n_dia := eI.list_len
      have len_dib : (eI.list n_dib F_dib).length = n_dib := eI.list_len
      generalize eI.list n_dia F_dia = dia at *
      generalize eI.list n_dib F_dib = dib at *
      subst len_dia len_dib
      exact fokX_fin mixed gw_stable (sl := [v161]) ⟨S161, trivial⟩ Try.func101 hw hl hG hx heq rfl (t101 _ _ _ _ _ _) (w101 _ _ _ _ _ _ hp.1 hp.2.1 hp.2.2.1 hp.2.2.2.1)
    · cases hd
  · cases hd
theorem S101 : SumOK Try.prog G0 gw 101 (fokSm dom101) := fok_sum Try.func101 rfl C101
end Go.Pl
end

section
set_option linter.unusedVariables false
set_option linter.unusedSimpArgs false
set_option maxRecDepth 100000
namespace Go.Pl
open Go.V Go.Proofs
def tr115 (sga : Int) (q_dia : Bool) (dia : List Int) : T (List Ar) :=
    T.br (decide ((Nat.cast (R := Int) (List.length dia)) > (2 : Int))) (T.ret [Ar.c (D.int IntKind.i64 (0 : Int)), Ar.c (D.bool false)]) (T.loop (Int × Int × PUnit) (IntKind.i64.wrap ((Nat.cast (R := Int) (List.length dia)) - (1 : Int)), (0 : Int), PUnit.unit) fun (x : Int × Int × PUnit) => T.br (decide (Prod.fst x ≥ (0 : Int))) (T.need ((0 : Int) ≤ Prod.fst x) (T.need (Prod.fst x < (Nat.cast (R := Int) (List.length dia))) (T.ret (Sum.inl (IntKind.i64.wrap (Prod.fst x - (1 : Int)), IntKind.i64.wrap (IntKind.i64.wrap (Prod.fst (Prod.snd x) * (1000000000 : Int)) + List.getD dia (Int.toNat (Prod.fst x)) (0 : Int)), PUnit.unit))))) (T.ret (Sum.inr [Ar.c (D.int IntKind.i64 (IntKind.i64.wrap (sga * Prod.fst (Prod.snd x)))), Ar.c (D.bool true)])))
theorem t115 (sga : Int) (q_dia : Bool) (dia : List Int) : runFnX Try.prog G0 (lookS []) (fun _ => [(5, [.slot 5 (.int .i64), .slot 4 (.int .i64)], none)]) [] 1 60 4 115 Try.f115 [.agg [dI sga, .sl q_dia dia.length 1 (eI.F dia)]] =
    tr115 sga q_dia dia := by kernel_rfl
namespace M
def fits (z : Int) : Bool := decide ((z.natAbs : Int) < 1000000000000000000)
def toI (z : Int) : Int := cond (fits z) z 0
end M
theorem toI_t {z : Int} (h : M.fits z = true) : M.toI z = z := by unfold M.toI; rw [h]; rfl
theorem toI_f {z : Int} (h : M.fits z = false) : M.toI z = 0 := by unfold M.toI; rw [h]; rfl
theorem bp_two : bp 2 = 1000000000000000000 := by decide
theorem bp_one : bp 1 = 1000000000 := by decide
theorem le0 : bp 0 ≤ 1000000000000000000 := by show (1 : Int) ≤ _; omega
theorem le1 : bp 1 ≤ 1000000000000000000 := by rw [bp_one]; omega
theorem le2 : bp 2 ≤ 1000000000000000000 := by rw [bp_two]; omega
theorem fits_len (z : Int) : M.fits z = decide ((M.mag z).length ≤ 2) := by
  have h1 := nd_le 2 (z := (z.natAbs : Int)) (by omega)
  have h2 := nd_bnd _ (z.natAbs : Int) rfl (by omega)
  have h3 : (M.mag z).length = M.nd (z.natAbs : Int) := dig_len _
  rw [bp_two] at h1
  unfold M.fits
  rw [h3]
  by_cases h : (z.natAbs : Int) < 1000000000000000000
  · rw [decide_eq_true h, decide_eq_true (h1 h)]
  · rw [decide_eq_false h]
    symm
    apply decide_eq_false
    intro hn
    have : bp (M.nd (z.natAbs : Int)) ≤ 1000000000000000000 := by
      generalize M.nd (z.natAbs : Int) = n at *
      have hc : n = 0 ∨ n = 1 ∨ n = 2 := by omega
      rcases hc with rfl | rfl | rfl
      · exact le0
      · exact le1
      · exact le2
    omega
theorem w115 (s : Int) (q : Bool) (l : List Int) (hs : Can s l) : (tr115 s q l).wp (fun rs => rsEqv rs [rI (M.toI (M.wv s l)), .c (.bool (M.fits (M.wv s l)))]) := by
  obtain ⟨z, rfl, rfl⟩ := hs
  rw [show M.wv (M.sgn z) (M.dig (z.natAbs : Int)) = z from wv_mk z]
  have hf := fits_len z
  have hdl : (M.dig (z.natAbs : Int)).length = (M.mag z).length := rfl
  unfold tr115
  refine wp_br (fun hb => ?_) (fun hb => ?_)
  · have hb : ((M.dig (z.natAbs : Int)).length : Int) > 2 := of_decide_eq_true hb
    have : M.fits z = false := by rw [hf]; exact decide_eq_false (by omega)
    rw [toI_f this, this]; exact rsEqv_refl _
  · have hb : ¬ ((M.dig (z.natAbs : Int)).length : Int) > 2 := of_decide_eq_false hb
    have ht : M.fits z = true := by rw [hf]; exact decide_eq_true (by omega)
    have hl2 : (M.dig (z.natAbs : Int)).length ≤ 2 := by omega
    have hlt : (z.natAbs : Int) < 1000000000000000000 := by unfold M.fits at ht; exact of_decide_eq_true ht
    have dg : Dg (M.dig (z.natAbs : Int)) := dig_dg _
    have hv : val (M.dig (z.natAbs : Int)) = (z.natAbs : Int) := val_mag z
    have hz : M.sgn z * (z.natAbs : Int) = z := by have := mk_val z; rwa [hv] at this
    generalize M.dig (z.natAbs : Int) = l at *
    refine ⟨fun x => ∃ k : Nat, x.1 = (k : Int) - 1 ∧ k ≤ l.length ∧ x.2.1 = val (l.drop k), fun x => (x.1 + 1).toNat, ⟨l.length, by rw [wrap_id (by omega) (by omega)], Nat.le_refl _, by rw [List.drop_length]; rfl⟩, ?_⟩
    rintro ⟨y, n, u⟩ ⟨k, hy, hk, hn⟩
    have hy : y = (k : Int) - 1 := hy
    have hn : n = val (l.drop k) := hn
    subst hy hn
    refine wp_br (fun hx => ?_) (fun hx => ?_)
    · have hx : (k : Int) - 1 ≥ 0 := of_decide_eq_true hx
      have e : ((k : Int) - 1).toNat = k - 1 := by omega
      dsimp only
      rw [e]
      have hk1 : k - 1 + 1 = k := by omega
      have hd := dg_at dg (k - 1)
      have hdr : l.drop (k - 1) = l.getD (k - 1) 0 :: l.drop k := by rw [getD_drop (d := 0) (show k - 1 < l.length by omega), hk1]
      have hb2 : 0 ≤ val (l.drop k) ∧ val (l.drop k) < 1000000000 := by
        have h := val_bnd (dg_drop dg k)
        rw [List.length_drop] at h
        have : l.length - k ≤ 1 := by omega
        generalize l.length - k = m at *
        have hc : m = 0 ∨ m = 1 := by omega
        rcases hc with rfl | rfl
        · have h2 : val (l.drop k) < 1 := h.2
          omega
        · rw [bp_one] at h
          exact h
      refine ⟨by omega, by omega, ⟨k - 1, ?_, by omega, ?_⟩, ?_⟩
      · show IntKind.i64.wrap ((k : Int) - 1 - 1) = ((k - 1 : Nat) : Int) - 1
        rw [wrap_id (by omega) (by omega)]; omega
      · show IntKind.i64.wrap (IntKind.i64.wrap (val (l.drop k) * 1000000000) + l.getD (k - 1) 0) = val (l.drop (k - 1))
        rw [hdr, wrap_id (n := val (l.drop k) * 1000000000) (by omega) (by omega), wrap_id (by omega) (by omega)]
        show _ = l.getD (k - 1) 0 + 1000000000 * val (l.drop k)
        omega
      · show (IntKind.i64.wrap ((k : Int) - 1 - 1) + 1).toNat < ((k : Int) - 1 + 1).toNat
        rw [wrap_id (by omega) (by omega)]; omega
    · have hx : ¬ (k : Int) - 1 ≥ 0 := of_decide_eq_false hx
      obtain rfl : k = 0 := by omega
      dsimp only
      rw [List.drop_zero, hv, hz, wrap_id (n := z) (by omega) (by omega)]
      rw [toI_t ht, ht]; exact rsEqv_refl _
def dom115 : DomF
  | [.agg [.int .i64 sga, .sl _ n_dia st_dia F_dia]] => (match (Nat.beq st_dia 1 || Nat.beq n_dia 0) with
    | true => some ([eI.Is n_dia F_dia, Can sga (eI.list n_dia F_dia)], [rI (M.toI (M.wv sga (eI.list n_dia F_dia))), .c (.bool (M.fits (M.wv sga (eI.list n_dia F_dia))))])
    | _ => none)
  | _ => none
def v115 : Nat × Sm := (115, fokSm dom115)
theorem C115 : FOK Try.prog G0 gw 115 dom115 := by
  intro ags p r hd hp κ w xs hw hl hG hx
  unfold dom115 at hd
  split at hd
  · rename_i sga q_dia n_dia st_dia F_dia
    split at hd
    · rename_i hst
      have g1 := hst
      simp only [Option.some.injEq, Prod.mk.injEq] at hd
      obtain ⟨rfl, rfl⟩ := hd
      obtain ⟨hI_dia, hp⟩ := hp
      have heq : agsEqv [.agg [.int .i64 sga, .sl q_dia n_dia st_dia F_dia]] [.agg [.int .i64 sga, .sl q_dia (eI.list n_dia F_dia).length 1 (eI.F (eI.list n_dia F_dia))]] := ⟨⟨rfl, eI.toz g1 hI_dia, trivial⟩, trivial⟩
      have len_dia : (eI.list n_dia F_dia).length = n_dia := eI.list_len
      generalize eI.list n_dia F_dia = dia at *
      subst len_dia
      exact fokX_fin mixed gw_stable (sl := []) trivial Try.func115 hw hl hG hx heq rfl (t115 _ _ _) (w115 _ _ _ hp.1)
    · cases hd
  · cases hd
theorem S115 : SumOK Try.prog G0 gw 115 (fokSm dom115) := fok_sum Try.func115 rfl C115
end Go.Pl
end

section
set_option linter.unusedVariables false
set_option linter.unusedSimpArgs false
set_option maxRecDepth 100000
namespace Go.Pl
open Go.V Go.Proofs
theorem in_cons {x : Int} {l : List Int} : eI.Is (1 + l.length) (joinF 1 (inQ x) (eI.F l)) ∧ eI.list (1 + l.length) (joinF 1 (inQ x) (eI.F l)) = x :: l := by
  have h0 : joinF 1 (inQ x) (eI.F l) 0 = inQ x 0 := by funext j; rfl
  have hs : ∀ i, joinF 1 (inQ x) (eI.F l) (i + 1) = eI.F l i := by
    intro i
    funext j
    have hb : Nat.blt (i + 1) 1 = false := by rw [← Bool.not_eq_true, Nat.blt_eq]; omega
    simp only [joinF, hb, Nat.add_sub_cancel]
  constructor
  · intro i j hi hj
    cases i with
    | zero => rw [h0, inQ_push.2]; exact inQ_push.1 j hj
    | succ i => rw [hs]; exact eI.is_F l l.length i j (by omega) hj
  · apply List.ext_getElem
    · simp [Enc.list]; omega
    · intro i h1 h2
      simp only [Enc.list, List.getElem_map, List.getElem_range]
      cases i with
      | zero => rw [h0]; exact inQ_push.2
      | succ i =>
        have hi : i < l.length := by simpa using h2
        rw [hs, show eI.rd (eI.F l i) = l.getD i 0 from eI.law _, List.getElem_cons_succ, List.getD_eq_getElem?_getD, List.getElem?_eq_getElem hi]; rfl
theorem wos_can {v : Int} (h : 0 ≤ v) : Can (M.wos 1 v) (M.dig v) ∧ M.wv (M.wos 1 v) (M.dig v) = v := by
  have e1 : M.wos 1 v = M.sgn v := by unfold M.wos M.sgn; split <;> split <;> (try split) <;> omega
  have e2 : M.dig v = M.mag v := by unfold M.mag; rw [show ((v.natAbs : Nat) : Int) = v by omega]
  rw [e1, e2]
  exact ⟨can_mag v, wv_mk v⟩
theorem mid_eq {lo hi : Int} (h0 : 0 ≤ lo) (h1 : lo ≤ hi) (h2 : hi ≤ 999999999) : IntKind.i64.wrap ((IntKind.i64.wrap (IntKind.i64.wrap (lo + hi) + 1)).tdiv 2) = (lo + hi + 1) / 2 := by
  rw [wrap_id (n := lo + hi) (by omega) (by omega), wrap_id (n := lo + hi + 1) (by omega) (by omega), Int.tdiv_eq_ediv_of_nonneg (by omega)]
  exact wrap_id (by omega) (by omega)
structure FlI (a : List Int) (B : Int) (k : Nat) (L : Int) (q : List Int) : Prop where
  dg : Dg q
  len : q.length = a.length
  L0 : 0 ≤ L
  LB : L < B
  v : val (a.drop k) = val (q.drop k) * B + L
theorem FlI.step {a : List Int} {B : Int} {k : Nat} {L : Int} {q : List Int} (h : FlI a B (k + 1) L q) (hk : k < a.length) {x : Int} (hx : 0 ≤ x ∧ x ≤ 999999999) (h1 : x * B ≤ a.getD k 0 + 1000000000 * L) (h2 : a.getD k 0 + 1000000000 * L < (x + 1) * B) :
    FlI a B k (a.getD k 0 + 1000000000 * L - x * B) (q.set k x) := by
  have hl := h.len
  have hv := h.v
  refine ⟨dg_set h.dg _ (by omega), by rw [List.length_set, hl], by omega, by rw [Int.add_mul] at h2; omega, ?_⟩
  have hkq : k < (q.set k x).length := by rw [List.length_set]; omega
  rw [getD_drop (d := 0) hk, getD_drop (d := 0) hkq]
  have e1 : (q.set k x).getD k 0 = x := by rw [List.getD_eq_getElem?_getD, List.getElem?_set_self (by omega)]; rfl
  have e2 : (q.set k x).drop (k + 1) = q.drop (k + 1) := by rw [List.drop_set]; simp
  rw [e1, e2]
  show a.getD k 0 + 1000000000 * val (a.drop (k + 1)) = (x + 1000000000 * val (q.drop (k + 1))) * B + _
  rw [hv]
  generalize val (q.drop (k + 1)) = Q
  grind
theorem div_is {x b q r : Int} (h : x = q * b + r) (h0 : 0 ≤ r) (h1 : r < b) : x / b = q := by
  rw [h, Int.add_comm, Int.add_mul_ediv_right _ _ (by omega), Int.ediv_eq_zero_of_lt h0 h1]; omega
structure SrI (L B lo hi : Int) : Prop where
  a : 0 ≤ lo
  b : lo ≤ hi
  c : hi ≤ 999999999
  d : lo * B ≤ L
  e : L < (hi + 1) * B
theorem SrI.up {L B lo hi : Int} (h : SrI L B lo hi) (hlt : lo < hi) (hm : (lo + hi + 1) / 2 * B ≤ L) : SrI L B ((lo + hi + 1) / 2) hi := by
  have := h.a; have := h.c
  exact ⟨by omega, by omega, h.c, hm, h.e⟩
theorem SrI.down {L B lo hi : Int} (h : SrI L B lo hi) (hlt : lo < hi) (hm : L < (lo + hi + 1) / 2 * B) : SrI L B lo ((lo + hi + 1) / 2 - 1) := by
  have := h.a; have := h.c
  refine ⟨h.a, by omega, by omega, h.d, ?_⟩
  rw [show (lo + hi + 1) / 2 - 1 + 1 = (lo + hi + 1) / 2 by omega]
  exact hm
theorem nd_mono {x y : Int} (hx : 0 ≤ x) (h : x ≤ y) : M.nd x ≤ M.nd y := nd_le _ hx (Int.lt_of_le_of_lt h (nd_bnd _ y rfl (by omega)))
def tr116 (sga : Int) (q_dia : Bool) (dia : List Int) (sgb : Int) (q_dib : Bool) (dib : List Int) : T (List Ar) :=
    T.br (sga == (0 : Int)) (T.ret [Ar.agg [D.int IntKind.i64 (0 : Int), D.sl false (0 : Nat) (0 : Nat) fun (x x_1 : Nat) => D.nilp]]) (T.need ((0 : Int) ≤ (Nat.cast (R := Int) (List.length dia))) (T.need ((Nat.cast (R := Int) (List.length dia)) ≤ (Nat.cast (R := Int) (List.length dia))) (T.need ((Nat.cast (R := Int) (List.length dia)) ≤ (1000000 : Int)) (T.need (Enc.Is eI (0 : Nat) fun (x x_1 : Nat) => D.nilp) (T.need (Enc.Is eI (Int.toNat (Nat.cast (R := Int) (List.length dia))) fun (x j : Nat) => List.getD [D.int IntKind.i64 (0 : Int)] j D.nilp) (T.need (Int.toNat (Nat.cast (R := Int) (List.length dia)) ≤ Int.toNat (Nat.cast (R := Int) (List.length dia))) (T.loop (Int × List Int × List Int × PUnit) (IntKind.i64.wrap ((Nat.cast (R := Int) (List.length dia)) - (1 : Int)), Enc.list eI (0 : Nat) fun (x x_1 : Nat) => D.nilp, Enc.list eI (Int.toNat (Nat.cast (R := Int) (List.length dia))) fun (x j : Nat) => List.getD [D.int IntKind.i64 (0 : Int)] j D.nilp, PUnit.unit) fun (x : Int × List Int × List Int × PUnit) => T.br (decide (Prod.fst x ≥ (0 : Int))) (T.need ((0 : Int) ≤ Prod.fst x) (T.need (Prod.fst x < (Nat.cast (R := Int) (List.length dia))) (T.need ((1 : Nat) + List.length (Prod.fst (Prod.snd x)) ≤ (1000000 : Nat)) (T.need ((1 : Nat) + List.length (Prod.fst (Prod.snd x)) ≤ (1 : Nat) + List.length (Prod.fst (Prod.snd x))) (T.need (Enc.Is eI ((1 : Nat) + List.length (Prod.fst (Prod.snd x))) (joinF (1 : Nat) (fun (i j : Nat) => List.getD [D.int IntKind.i64 (List.getD dia (Int.toNat (Prod.fst x)) (0 : Int))] (i * (1 : Nat) + j) D.nilp) (Enc.F eI (Prod.fst (Prod.snd x))))) (T.need (Dg (Enc.list eI ((1 : Nat) + List.length (Prod.fst (Prod.snd x))) (joinF (1 : Nat) (fun (i j : Nat) => List.getD [D.int IntKind.i64 (List.getD dia (Int.toNat (Prod.fst x)) (0 : Int))] (i * (1 : Nat) + j) D.nilp) (Enc.F eI (Prod.fst (Prod.snd x)))))) (T.need (List.length (Enc.list eI ((1 : Nat) + List.length (Prod.fst (Prod.snd x))) (joinF (1 : Nat) (fun (i j : Nat) => List.getD [D.int IntKind.i64 (List.getD dia (Int.toNat (Prod.fst x)) (0 : Int))] (i * (1 : Nat) + j) D.nilp) (Enc.F eI (Prod.fst (Prod.snd x))))) ≤ (1000000 : Nat)) (T.loop (Int × Int × PUnit) ((0 : Int), (999999999 : Int), PUnit.unit) fun (x_1 : Int × Int × PUnit) => T.br (decide (Prod.fst x_1 < Prod.fst (Prod.snd x_1))) (T.need (iI dib) (T.need (Dg (cI dib)) (T.need (List.length (cI dib) ≤ (1000000 : Nat)) (T.need ((-9223372036854775807 : Int) ≤ IntKind.i64.wrap (Int.tdiv (IntKind.i64.wrap (IntKind.i64.wrap (Prod.fst x_1 + Prod.fst (Prod.snd x_1)) + (1 : Int))) (2 : Int))) (T.need (IntKind.i64.wrap (Int.tdiv (IntKind.i64.wrap (IntKind.i64.wrap (Prod.fst x_1 + Prod.fst (Prod.snd x_1)) + (1 : Int))) (2 : Int)) ≤ (9223372036854775807 : Int)) (T.need (Enc.Is eI (List.length (M.dig (val (cI dib)))) (Enc.F eI (M.dig (val (cI dib))))) (T.need (Enc.Is eI (List.length (M.mag (IntKind.i64.wrap (Int.tdiv (IntKind.i64.wrap (IntKind.i64.wrap (Prod.fst x_1 + Prod.fst (Prod.snd x_1)) + (1 : Int))) (2 : Int))))) (Enc.F eI (M.mag (IntKind.i64.wrap (Int.tdiv (IntKind.i64.wrap (IntKind.i64.wrap (Prod.fst x_1 + Prod.fst (Prod.snd x_1)) + (1 : Int))) (2 : Int)))))) (T.need (Can (M.wos (1 : Int) (val (cI dib))) (Enc.list eI (List.length (M.dig (val (cI dib)))) (Enc.F eI (M.dig (val (cI dib)))))) (T.need (Can (M.sgn (IntKind.i64.wrap (Int.tdiv (IntKind.i64.wrap (IntKind.i64.wrap (Prod.fst x_1 + Prod.fst (Prod.snd x_1)) + (1 : Int))) (2 : Int)))) (Enc.list eI (List.length (M.mag (IntKind.i64.wrap (Int.tdiv (IntKind.i64.wrap (IntKind.i64.wrap (Prod.fst x_1 + Prod.fst (Prod.snd x_1)) + (1 : Int))) (2 : Int))))) (Enc.F eI (M.mag (IntKind.i64.wrap (Int.tdiv (IntKind.i64.wrap (IntKind.i64.wrap (Prod.fst x_1 + Prod.fst (Prod.snd x_1)) + (1 : Int))) (2 : Int))))))) (T.need (List.length (Enc.list eI (List.length (M.dig (val (cI dib)))) (Enc.F eI (M.dig (val (cI dib))))) ≤ (90000 : Nat)) (T.need (List.length (Enc.list eI (List.length (M.mag (IntKind.i64.wrap (Int.tdiv (IntKind.i64.wrap (IntKind.i64.wrap (Prod.fst x_1 + Prod.fst (Prod.snd x_1)) + (1 : Int))) (2 : Int))))) (Enc.F eI (M.mag (IntKind.i64.wrap (Int.tdiv (IntKind.i64.wrap (IntKind.i64.wrap (Prod.fst x_1 + Prod.fst (Prod.snd x_1)) + (1 : Int))) (2 : Int)))))) ≤ (90000 : Nat)) (T.need (Enc.Is eI (List.length (M.mag (M.wv (M.wos (1 : Int) (val (cI dib))) (Enc.list eI (List.length (M.dig (val (cI dib)))) (Enc.F eI (M.dig (val (cI dib))))) * M.wv (M.sgn (IntKind.i64.wrap (Int.tdiv (IntKind.i64.wrap (IntKind.i64.wrap (Prod.fst x_1 + Prod.fst (Prod.snd x_1)) + (1 : Int))) (2 : Int)))) (Enc.list eI (List.length (M.mag (IntKind.i64.wrap (Int.tdiv (IntKind.i64.wrap (IntKind.i64.wrap (Prod.fst x_1 + Prod.fst (Prod.snd x_1)) + (1 : Int))) (2 : Int))))) (Enc.F eI (M.mag (IntKind.i64.wrap (Int.tdiv (IntKind.i64.wrap (IntKind.i64.wrap (Prod.fst x_1 + Prod.fst (Prod.snd x_1)) + (1 : Int))) (2 : Int))))))))) (Enc.F eI (M.mag (M.wv (M.wos (1 : Int) (val (cI dib))) (Enc.list eI (List.length (M.dig (val (cI dib)))) (Enc.F eI (M.dig (val (cI dib))))) * M.wv (M.sgn (IntKind.i64.wrap (Int.tdiv (IntKind.i64.wrap (IntKind.i64.wrap (Prod.fst x_1 + Prod.fst (Prod.snd x_1)) + (1 : Int))) (2 : Int)))) (Enc.list eI (List.length (M.mag (IntKind.i64.wrap (Int.tdiv (IntKind.i64.wrap (IntKind.i64.wrap (Prod.fst x_1 + Prod.fst (Prod.snd x_1)) + (1 : Int))) (2 : Int))))) (Enc.F eI (M.mag (IntKind.i64.wrap (Int.tdiv (IntKind.i64.wrap (IntKind.i64.wrap (Prod.fst x_1 + Prod.fst (Prod.snd x_1)) + (1 : Int))) (2 : Int)))))))))) (T.need (Enc.Is eI (List.length (M.dig (val (Enc.list eI ((1 : Nat) + List.length (Prod.fst (Prod.snd x))) (joinF (1 : Nat) (fun (i j : Nat) => List.getD [D.int IntKind.i64 (List.getD dia (Int.toNat (Prod.fst x)) (0 : Int))] (i * (1 : Nat) + j) D.nilp) (Enc.F eI (Prod.fst (Prod.snd x)))))))) (Enc.F eI (M.dig (val (Enc.list eI ((1 : Nat) + List.length (Prod.fst (Prod.snd x))) (joinF (1 : Nat) (fun (i j : Nat) => List.getD [D.int IntKind.i64 (List.getD dia (Int.toNat (Prod.fst x)) (0 : Int))] (i * (1 : Nat) + j) D.nilp) (Enc.F eI (Prod.fst (Prod.snd x))))))))) (T.need (Dg (Enc.list eI (List.length (M.mag (M.wv (M.wos (1 : Int) (val (cI dib))) (Enc.list eI (List.length (M.dig (val (cI dib)))) (Enc.F eI (M.dig (val (cI dib))))) * M.wv (M.sgn (IntKind.i64.wrap (Int.tdiv (IntKind.i64.wrap (IntKind.i64.wrap (Prod.fst x_1 + Prod.fst (Prod.snd x_1)) + (1 : Int))) (2 : Int)))) (Enc.list eI (List.length (M.mag (IntKind.i64.wrap (Int.tdiv (IntKind.i64.wrap (IntKind.i64.wrap (Prod.fst x_1 + Prod.fst (Prod.snd x_1)) + (1 : Int))) (2 : Int))))) (Enc.F eI (M.mag (IntKind.i64.wrap (Int.tdiv (IntKind.i64.wrap (IntKind.i64.wrap (Prod.fst x_1 + Prod.fst (Prod.snd x_1)) + (1 : Int))) (2 : Int))))))))) (Enc.F eI (M.mag (M.wv (M.wos (1 : Int) (val (cI dib))) (Enc.list eI (List.length (M.dig (val (cI dib)))) (Enc.F eI (M.dig (val (cI dib))))) * M.wv (M.sgn (IntKind.i64.wrap (Int.tdiv (IntKind.i64.wrap (IntKind.i64.wrap (Prod.fst x_1 + Prod.fst (Prod.snd x_1)) + (1 : Int))) (2 : Int)))) (Enc.list eI (List.length (M.mag (IntKind.i64.wrap (Int.tdiv (IntKind.i64.wrap (IntKind.i64.wrap (Prod.fst x_1 + Prod.fst (Prod.snd x_1)) + (1 : Int))) (2 : Int))))) (Enc.F eI (M.mag (IntKind.i64.wrap (Int.tdiv (IntKind.i64.wrap (IntKind.i64.wrap (Prod.fst x_1 + Prod.fst (Prod.snd x_1)) + (1 : Int))) (2 : Int))))))))))) (T.need (Dg (Enc.list eI (List.length (M.dig (val (Enc.list eI ((1 : Nat) + List.length (Prod.fst (Prod.snd x))) (joinF (1 : Nat) (fun (i j : Nat) => List.getD [D.int IntKind.i64 (List.getD dia (Int.toNat (Prod.fst x)) (0 : Int))] (i * (1 : Nat) + j) D.nilp) (Enc.F eI (Prod.fst (Prod.snd x)))))))) (Enc.F eI (M.dig (val (Enc.list eI ((1 : Nat) + List.length (Prod.fst (Prod.snd x))) (joinF (1 : Nat) (fun (i j : Nat) => List.getD [D.int IntKind.i64 (List.getD dia (Int.toNat (Prod.fst x)) (0 : Int))] (i * (1 : Nat) + j) D.nilp) (Enc.F eI (Prod.fst (Prod.snd x)))))))))) (T.need (Enc.list eI (List.length (M.mag (M.wv (M.wos (1 : Int) (val (cI dib))) (Enc.list eI (List.length (M.dig (val (cI dib)))) (Enc.F eI (M.dig (val (cI dib))))) * M.wv (M.sgn (IntKind.i64.wrap (Int.tdiv (IntKind.i64.wrap (IntKind.i64.wrap (Prod.fst x_1 + Prod.fst (Prod.snd x_1)) + (1 : Int))) (2 : Int)))) (Enc.list eI (List.length (M.mag (IntKind.i64.wrap (Int.tdiv (IntKind.i64.wrap (IntKind.i64.wrap (Prod.fst x_1 + Prod.fst (Prod.snd x_1)) + (1 : Int))) (2 : Int))))) (Enc.F eI (M.mag (IntKind.i64.wrap (Int.tdiv (IntKind.i64.wrap (IntKind.i64.wrap (Prod.fst x_1 + Prod.fst (Prod.snd x_1)) + (1 : Int))) (2 : Int))))))))) (Enc.F eI (M.mag (M.wv (M.wos (1 : Int) (val (cI dib))) (Enc.list eI (List.length (M.dig (val (cI dib)))) (Enc.F eI (M.dig (val (cI dib))))) * M.wv (M.sgn (IntKind.i64.wrap (Int.tdiv (IntKind.i64.wrap (IntKind.i64.wrap (Prod.fst x_1 + Prod.fst (Prod.snd x_1)) + (1 : Int))) (2 : Int)))) (Enc.list eI (List.length (M.mag (IntKind.i64.wrap (Int.tdiv (IntKind.i64.wrap (IntKind.i64.wrap (Prod.fst x_1 + Prod.fst (Prod.snd x_1)) + (1 : Int))) (2 : Int))))) (Enc.F eI (M.mag (IntKind.i64.wrap (Int.tdiv (IntKind.i64.wrap (IntKind.i64.wrap (Prod.fst x_1 + Prod.fst (Prod.snd x_1)) + (1 : Int))) (2 : Int))))))))) = M.dig (val (Enc.list eI (List.length (M.mag (M.wv (M.wos (1 : Int) (val (cI dib))) (Enc.list eI (List.length (M.dig (val (cI dib)))) (Enc.F eI (M.dig (val (cI dib))))) * M.wv (M.sgn (IntKind.i64.wrap (Int.tdiv (IntKind.i64.wrap (IntKind.i64.wrap (Prod.fst x_1 + Prod.fst (Prod.snd x_1)) + (1 : Int))) (2 : Int)))) (Enc.list eI (List.length (M.mag (IntKind.i64.wrap (Int.tdiv (IntKind.i64.wrap (IntKind.i64.wrap (Prod.fst x_1 + Prod.fst (Prod.snd x_1)) + (1 : Int))) (2 : Int))))) (Enc.F eI (M.mag (IntKind.i64.wrap (Int.tdiv (IntKind.i64.wrap (IntKind.i64.wrap (Prod.fst x_1 + Prod.fst (Prod.snd x_1)) + (1 : Int))) (2 : Int))))))))) (Enc.F eI (M.mag (M.wv (M.wos (1 : Int) (val (cI dib))) (Enc.list eI (List.length (M.dig (val (cI dib)))) (Enc.F eI (M.dig (val (cI dib))))) * M.wv (M.sgn (IntKind.i64.wrap (Int.tdiv (IntKind.i64.wrap (IntKind.i64.wrap (Prod.fst x_1 + Prod.fst (Prod.snd x_1)) + (1 : Int))) (2 : Int)))) (Enc.list eI (List.length (M.mag (IntKind.i64.wrap (Int.tdiv (IntKind.i64.wrap (IntKind.i64.wrap (Prod.fst x_1 + Prod.fst (Prod.snd x_1)) + (1 : Int))) (2 : Int))))) (Enc.F eI (M.mag (IntKind.i64.wrap (Int.tdiv (IntKind.i64.wrap (IntKind.i64.wrap (Prod.fst x_1 + Prod.fst (Prod.snd x_1)) + (1 : Int))) (2 : Int)))))))))))) (T.need (Enc.list eI (List.length (M.dig (val (Enc.list eI ((1 : Nat) + List.length (Prod.fst (Prod.snd x))) (joinF (1 : Nat) (fun (i j : Nat) => List.getD [D.int IntKind.i64 (List.getD dia (Int.toNat (Prod.fst x)) (0 : Int))] (i * (1 : Nat) + j) D.nilp) (Enc.F eI (Prod.fst (Prod.snd x)))))))) (Enc.F eI (M.dig (val (Enc.list eI ((1 : Nat) + List.length (Prod.fst (Prod.snd x))) (joinF (1 : Nat) (fun (i j : Nat) => List.getD [D.int IntKind.i64 (List.getD dia (Int.toNat (Prod.fst x)) (0 : Int))] (i * (1 : Nat) + j) D.nilp) (Enc.F eI (Prod.fst (Prod.snd x)))))))) = M.dig (val (Enc.list eI (List.length (M.dig (val (Enc.list eI ((1 : Nat) + List.length (Prod.fst (Prod.snd x))) (joinF (1 : Nat) (fun (i j : Nat) => List.getD [D.int IntKind.i64 (List.getD dia (Int.toNat (Prod.fst x)) (0 : Int))] (i * (1 : Nat) + j) D.nilp) (Enc.F eI (Prod.fst (Prod.snd x)))))))) (Enc.F eI (M.dig (val (Enc.list eI ((1 : Nat) + List.length (Prod.fst (Prod.snd x))) (joinF (1 : Nat) (fun (i j : Nat) => List.getD [D.int IntKind.i64 (List.getD dia (Int.toNat (Prod.fst x)) (0 : Int))] (i * (1 : Nat) + j) D.nilp) (Enc.F eI (Prod.fst (Prod.snd x))))))))))) (T.need (List.length (Enc.list eI (List.length (M.mag (M.wv (M.wos (1 : Int) (val (cI dib))) (Enc.list eI (List.length (M.dig (val (cI dib)))) (Enc.F eI (M.dig (val (cI dib))))) * M.wv (M.sgn (IntKind.i64.wrap (Int.tdiv (IntKind.i64.wrap (IntKind.i64.wrap (Prod.fst x_1 + Prod.fst (Prod.snd x_1)) + (1 : Int))) (2 : Int)))) (Enc.list eI (List.length (M.mag (IntKind.i64.wrap (Int.tdiv (IntKind.i64.wrap (IntKind.i64.wrap (Prod.fst x_1 + Prod.fst (Prod.snd x_1)) + (1 : Int))) (2 : Int))))) (Enc.F eI (M.mag (IntKind.i64.wrap (Int.tdiv (IntKind.i64.wrap (IntKind.i64.wrap (Prod.fst x_1 + Prod.fst (Prod.snd x_1)) + (1 : Int))) (2 : Int))))))))) (Enc.F eI (M.mag (M.wv (M.wos (1 : Int) (val (cI dib))) (Enc.list eI (List.length (M.dig (val (cI dib)))) (Enc.F eI (M.dig (val (cI dib))))) * M.wv (M.sgn (IntKind.i64.wrap (Int.tdiv (IntKind.i64.wrap (IntKind.i64.wrap (Prod.fst x_1 + Prod.fst (Prod.snd x_1)) + (1 : Int))) (2 : Int)))) (Enc.list eI (List.length (M.mag (IntKind.i64.wrap (Int.tdiv (IntKind.i64.wrap (IntKind.i64.wrap (Prod.fst x_1 + Prod.fst (Prod.snd x_1)) + (1 : Int))) (2 : Int))))) (Enc.F eI (M.mag (IntKind.i64.wrap (Int.tdiv (IntKind.i64.wrap (IntKind.i64.wrap (Prod.fst x_1 + Prod.fst (Prod.snd x_1)) + (1 : Int))) (2 : Int)))))))))) ≤ (1000000 : Nat)) (T.br (decide (M.cmp3 (val (Enc.list eI (List.length (M.mag (M.wv (M.wos (1 : Int) (val (cI dib))) (Enc.list eI (List.length (M.dig (val (cI dib)))) (Enc.F eI (M.dig (val (cI dib))))) * M.wv (M.sgn (IntKind.i64.wrap (Int.tdiv (IntKind.i64.wrap (IntKind.i64.wrap (Prod.fst x_1 + Prod.fst (Prod.snd x_1)) + (1 : Int))) (2 : Int)))) (Enc.list eI (List.length (M.mag (IntKind.i64.wrap (Int.tdiv (IntKind.i64.wrap (IntKind.i64.wrap (Prod.fst x_1 + Prod.fst (Prod.snd x_1)) + (1 : Int))) (2 : Int))))) (Enc.F eI (M.mag (IntKind.i64.wrap (Int.tdiv (IntKind.i64.wrap (IntKind.i64.wrap (Prod.fst x_1 + Prod.fst (Prod.snd x_1)) + (1 : Int))) (2 : Int))))))))) (Enc.F eI (M.mag (M.wv (M.wos (1 : Int) (val (cI dib))) (Enc.list eI (List.length (M.dig (val (cI dib)))) (Enc.F eI (M.dig (val (cI dib))))) * M.wv (M.sgn (IntKind.i64.wrap (Int.tdiv (IntKind.i64.wrap (IntKind.i64.wrap (Prod.fst x_1 + Prod.fst (Prod.snd x_1)) + (1 : Int))) (2 : Int)))) (Enc.list eI (List.length (M.mag (IntKind.i64.wrap (Int.tdiv (IntKind.i64.wrap (IntKind.i64.wrap (Prod.fst x_1 + Prod.fst (Prod.snd x_1)) + (1 : Int))) (2 : Int))))) (Enc.F eI (M.mag (IntKind.i64.wrap (Int.tdiv (IntKind.i64.wrap (IntKind.i64.wrap (Prod.fst x_1 + Prod.fst (Prod.snd x_1)) + (1 : Int))) (2 : Int))))))))))) (val (Enc.list eI (List.length (M.dig (val (Enc.list eI ((1 : Nat) + List.length (Prod.fst (Prod.snd x))) (joinF (1 : Nat) (fun (i j : Nat) => List.getD [D.int IntKind.i64 (List.getD dia (Int.toNat (Prod.fst x)) (0 : Int))] (i * (1 : Nat) + j) D.nilp) (Enc.F eI (Prod.fst (Prod.snd x)))))))) (Enc.F eI (M.dig (val (Enc.list eI ((1 : Nat) + List.length (Prod.fst (Prod.snd x))) (joinF (1 : Nat) (fun (i j : Nat) => List.getD [D.int IntKind.i64 (List.getD dia (Int.toNat (Prod.fst x)) (0 : Int))] (i * (1 : Nat) + j) D.nilp) (Enc.F eI (Prod.fst (Prod.snd x)))))))))) ≤ (0 : Int))) (T.ret (Sum.inl (IntKind.i64.wrap (Int.tdiv (IntKind.i64.wrap (IntKind.i64.wrap (Prod.fst x_1 + Prod.fst (Prod.snd x_1)) + (1 : Int))) (2 : Int)), Prod.fst (Prod.snd x_1), PUnit.unit))) (T.ret (Sum.inl (Prod.fst x_1, IntKind.i64.wrap (IntKind.i64.wrap (Int.tdiv (IntKind.i64.wrap (IntKind.i64.wrap (Prod.fst x_1 + Prod.fst (Prod.snd x_1)) + (1 : Int))) (2 : Int)) - (1 : Int)), PUnit.unit)))))))))))))))))))))) (T.need ((0 : Int) ≤ Prod.fst x) (T.need (Prod.fst x < (Nat.cast (R := Int) (List.length (Prod.fst (Prod.snd (Prod.snd x)))))) (T.need (Int.toNat (Prod.fst x) < List.length (Prod.fst (Prod.snd (Prod.snd x)))) (T.need (iI dib) (T.need (Dg (cI dib)) (T.need (List.length (cI dib) ≤ (1000000 : Nat)) (T.need ((-9223372036854775807 : Int) ≤ Prod.fst x_1) (T.need (Prod.fst x_1 ≤ (9223372036854775807 : Int)) (T.need (Enc.Is eI (List.length (M.dig (val (cI dib)))) (Enc.F eI (M.dig (val (cI dib))))) (T.need (Enc.Is eI (List.length (M.mag (Prod.fst x_1))) (Enc.F eI (M.mag (Prod.fst x_1)))) (T.need (Can (M.wos (1 : Int) (val (cI dib))) (Enc.list eI (List.length (M.dig (val (cI dib)))) (Enc.F eI (M.dig (val (cI dib)))))) (T.need (Can (M.sgn (Prod.fst x_1)) (Enc.list eI (List.length (M.mag (Prod.fst x_1))) (Enc.F eI (M.mag (Prod.fst x_1))))) (T.need (List.length (Enc.list eI (List.length (M.dig (val (cI dib)))) (Enc.F eI (M.dig (val (cI dib))))) ≤ (90000 : Nat)) (T.need (List.length (Enc.list eI (List.length (M.mag (Prod.fst x_1))) (Enc.F eI (M.mag (Prod.fst x_1)))) ≤ (90000 : Nat)) (T.need (Enc.Is eI (List.length (M.dig (val (Enc.list eI ((1 : Nat) + List.length (Prod.fst (Prod.snd x))) (joinF (1 : Nat) (fun (i j : Nat) => List.getD [D.int IntKind.i64 (List.getD dia (Int.toNat (Prod.fst x)) (0 : Int))] (i * (1 : Nat) + j) D.nilp) (Enc.F eI (Prod.fst (Prod.snd x)))))))) (Enc.F eI (M.dig (val (Enc.list eI ((1 : Nat) + List.length (Prod.fst (Prod.snd x))) (joinF (1 : Nat) (fun (i j : Nat) => List.getD [D.int IntKind.i64 (List.getD dia (Int.toNat (Prod.fst x)) (0 : Int))] (i * (1 : Nat) + j) D.nilp) (Enc.F eI (Prod.fst (Prod.snd x))))))))) (T.need (Enc.Is eI (List.length (M.mag (M.wv (M.wos (1 : Int) (val (cI dib))) (Enc.list eI (List.length (M.dig (val (cI dib)))) (Enc.F eI (M.dig (val (cI dib))))) * M.wv (M.sgn (Prod.fst x_1)) (Enc.list eI (List.length (M.mag (Prod.fst x_1))) (Enc.F eI (M.mag (Prod.fst x_1))))))) (Enc.F eI (M.mag (M.wv (M.wos (1 : Int) (val (cI dib))) (Enc.list eI (List.length (M.dig (val (cI dib)))) (Enc.F eI (M.dig (val (cI dib))))) * M.wv (M.sgn (Prod.fst x_1)) (Enc.list eI (List.length (M.mag (Prod.fst x_1))) (Enc.F eI (M.mag (Prod.fst x_1)))))))) (T.need (Dg (Enc.list eI (List.length (M.dig (val (Enc.list eI ((1 : Nat) + List.length (Prod.fst (Prod.snd x))) (joinF (1 : Nat) (fun (i j : Nat) => List.getD [D.int IntKind.i64 (List.getD dia (Int.toNat (Prod.fst x)) (0 : Int))] (i * (1 : Nat) + j) D.nilp) (Enc.F eI (Prod.fst (Prod.snd x)))))))) (Enc.F eI (M.dig (val (Enc.list eI ((1 : Nat) + List.length (Prod.fst (Prod.snd x))) (joinF (1 : Nat) (fun (i j : Nat) => List.getD [D.int IntKind.i64 (List.getD dia (Int.toNat (Prod.fst x)) (0 : Int))] (i * (1 : Nat) + j) D.nilp) (Enc.F eI (Prod.fst (Prod.snd x)))))))))) (T.need (Dg (Enc.list eI (List.length (M.mag (M.wv (M.wos (1 : Int) (val (cI dib))) (Enc.list eI (List.length (M.dig (val (cI dib)))) (Enc.F eI (M.dig (val (cI dib))))) * M.wv (M.sgn (Prod.fst x_1)) (Enc.list eI (List.length (M.mag (Prod.fst x_1))) (Enc.F eI (M.mag (Prod.fst x_1))))))) (Enc.F eI (M.mag (M.wv (M.wos (1 : Int) (val (cI dib))) (Enc.list eI (List.length (M.dig (val (cI dib)))) (Enc.F eI (M.dig (val (cI dib))))) * M.wv (M.sgn (Prod.fst x_1)) (Enc.list eI (List.length (M.mag (Prod.fst x_1))) (Enc.F eI (M.mag (Prod.fst x_1))))))))) (T.need (val (Enc.list eI (List.length (M.mag (M.wv (M.wos (1 : Int) (val (cI dib))) (Enc.list eI (List.length (M.dig (val (cI dib)))) (Enc.F eI (M.dig (val (cI dib))))) * M.wv (M.sgn (Prod.fst x_1)) (Enc.list eI (List.length (M.mag (Prod.fst x_1))) (Enc.F eI (M.mag (Prod.fst x_1))))))) (Enc.F eI (M.mag (M.wv (M.wos (1 : Int) (val (cI dib))) (Enc.list eI (List.length (M.dig (val (cI dib)))) (Enc.F eI (M.dig (val (cI dib))))) * M.wv (M.sgn (Prod.fst x_1)) (Enc.list eI (List.length (M.mag (Prod.fst x_1))) (Enc.F eI (M.mag (Prod.fst x_1)))))))) ≤ val (Enc.list eI (List.length (M.dig (val (Enc.list eI ((1 : Nat) + List.length (Prod.fst (Prod.snd x))) (joinF (1 : Nat) (fun (i j : Nat) => List.getD [D.int IntKind.i64 (List.getD dia (Int.toNat (Prod.fst x)) (0 : Int))] (i * (1 : Nat) + j) D.nilp) (Enc.F eI (Prod.fst (Prod.snd x)))))))) (Enc.F eI (M.dig (val (Enc.list eI ((1 : Nat) + List.length (Prod.fst (Prod.snd x))) (joinF (1 : Nat) (fun (i j : Nat) => List.getD [D.int IntKind.i64 (List.getD dia (Int.toNat (Prod.fst x)) (0 : Int))] (i * (1 : Nat) + j) D.nilp) (Enc.F eI (Prod.fst (Prod.snd x)))))))))) (T.need (List.length (Enc.list eI (List.length (M.mag (M.wv (M.wos (1 : Int) (val (cI dib))) (Enc.list eI (List.length (M.dig (val (cI dib)))) (Enc.F eI (M.dig (val (cI dib))))) * M.wv (M.sgn (Prod.fst x_1)) (Enc.list eI (List.length (M.mag (Prod.fst x_1))) (Enc.F eI (M.mag (Prod.fst x_1))))))) (Enc.F eI (M.mag (M.wv (M.wos (1 : Int) (val (cI dib))) (Enc.list eI (List.length (M.dig (val (cI dib)))) (Enc.F eI (M.dig (val (cI dib))))) * M.wv (M.sgn (Prod.fst x_1)) (Enc.list eI (List.length (M.mag (Prod.fst x_1))) (Enc.F eI (M.mag (Prod.fst x_1)))))))) ≤ List.length (Enc.list eI (List.length (M.dig (val (Enc.list eI ((1 : Nat) + List.length (Prod.fst (Prod.snd x))) (joinF (1 : Nat) (fun (i j : Nat) => List.getD [D.int IntKind.i64 (List.getD dia (Int.toNat (Prod.fst x)) (0 : Int))] (i * (1 : Nat) + j) D.nilp) (Enc.F eI (Prod.fst (Prod.snd x)))))))) (Enc.F eI (M.dig (val (Enc.list eI ((1 : Nat) + List.length (Prod.fst (Prod.snd x))) (joinF (1 : Nat) (fun (i j : Nat) => List.getD [D.int IntKind.i64 (List.getD dia (Int.toNat (Prod.fst x)) (0 : Int))] (i * (1 : Nat) + j) D.nilp) (Enc.F eI (Prod.fst (Prod.snd x)))))))))) (T.need (List.length (Enc.list eI (List.length (M.dig (val (Enc.list eI ((1 : Nat) + List.length (Prod.fst (Prod.snd x))) (joinF (1 : Nat) (fun (i j : Nat) => List.getD [D.int IntKind.i64 (List.getD dia (Int.toNat (Prod.fst x)) (0 : Int))] (i * (1 : Nat) + j) D.nilp) (Enc.F eI (Prod.fst (Prod.snd x)))))))) (Enc.F eI (M.dig (val (Enc.list eI ((1 : Nat) + List.length (Prod.fst (Prod.snd x))) (joinF (1 : Nat) (fun (i j : Nat) => List.getD [D.int IntKind.i64 (List.getD dia (Int.toNat (Prod.fst x)) (0 : Int))] (i * (1 : Nat) + j) D.nilp) (Enc.F eI (Prod.fst (Prod.snd x))))))))) ≤ (100000 : Nat)) (T.need (Enc.Is eI (List.length (M.dig (val (Enc.list eI (List.length (M.dig (val (Enc.list eI ((1 : Nat) + List.length (Prod.fst (Prod.snd x))) (joinF (1 : Nat) (fun (i j : Nat) => List.getD [D.int IntKind.i64 (List.getD dia (Int.toNat (Prod.fst x)) (0 : Int))] (i * (1 : Nat) + j) D.nilp) (Enc.F eI (Prod.fst (Prod.snd x)))))))) (Enc.F eI (M.dig (val (Enc.list eI ((1 : Nat) + List.length (Prod.fst (Prod.snd x))) (joinF (1 : Nat) (fun (i j : Nat) => List.getD [D.int IntKind.i64 (List.getD dia (Int.toNat (Prod.fst x)) (0 : Int))] (i * (1 : Nat) + j) D.nilp) (Enc.F eI (Prod.fst (Prod.snd x))))))))) - val (Enc.list eI (List.length (M.mag (M.wv (M.wos (1 : Int) (val (cI dib))) (Enc.list eI (List.length (M.dig (val (cI dib)))) (Enc.F eI (M.dig (val (cI dib))))) * M.wv (M.sgn (Prod.fst x_1)) (Enc.list eI (List.length (M.mag (Prod.fst x_1))) (Enc.F eI (M.mag (Prod.fst x_1))))))) (Enc.F eI (M.mag (M.wv (M.wos (1 : Int) (val (cI dib))) (Enc.list eI (List.length (M.dig (val (cI dib)))) (Enc.F eI (M.dig (val (cI dib))))) * M.wv (M.sgn (Prod.fst x_1)) (Enc.list eI (List.length (M.mag (Prod.fst x_1))) (Enc.F eI (M.mag (Prod.fst x_1))))))))))) (Enc.F eI (M.dig (val (Enc.list eI (List.length (M.dig (val (Enc.list eI ((1 : Nat) + List.length (Prod.fst (Prod.snd x))) (joinF (1 : Nat) (fun (i j : Nat) => List.getD [D.int IntKind.i64 (List.getD dia (Int.toNat (Prod.fst x)) (0 : Int))] (i * (1 : Nat) + j) D.nilp) (Enc.F eI (Prod.fst (Prod.snd x)))))))) (Enc.F eI (M.dig (val (Enc.list eI ((1 : Nat) + List.length (Prod.fst (Prod.snd x))) (joinF (1 : Nat) (fun (i j : Nat) => List.getD [D.int IntKind.i64 (List.getD dia (Int.toNat (Prod.fst x)) (0 : Int))] (i * (1 : Nat) + j) D.nilp) (Enc.F eI (Prod.fst (Prod.snd x))))))))) - val (Enc.list eI (List.length (M.mag (M.wv (M.wos (1 : Int) (val (cI dib))) (Enc.list eI (List.length (M.dig (val (cI dib)))) (Enc.F eI (M.dig (val (cI dib))))) * M.wv (M.sgn (Prod.fst x_1)) (Enc.list eI (List.length (M.mag (Prod.fst x_1))) (Enc.F eI (M.mag (Prod.fst x_1))))))) (Enc.F eI (M.mag (M.wv (M.wos (1 : Int) (val (cI dib))) (Enc.list eI (List.length (M.dig (val (cI dib)))) (Enc.F eI (M.dig (val (cI dib))))) * M.wv (M.sgn (Prod.fst x_1)) (Enc.list eI (List.length (M.mag (Prod.fst x_1))) (Enc.F eI (M.mag (Prod.fst x_1)))))))))))) (T.need (Enc.Is eI (List.length (Prod.fst (Prod.snd (Prod.snd x)))) (putF (Int.toNat (Prod.fst x)) (0 : Nat) (List.length [C.int IntKind.i64 (Prod.fst x_1)]) [D.int IntKind.i64 (Prod.fst x_1)] (Enc.F eI (Prod.fst (Prod.snd (Prod.snd x)))))) (T.need (List.length (Prod.fst (Prod.snd (Prod.snd x))) ≤ List.length (Prod.fst (Prod.snd (Prod.snd x)))) (T.ret (Sum.inr (Sum.inl (IntKind.i64.wrap (Prod.fst x - (1 : Int)), Enc.list eI (List.length (M.dig (val (Enc.list eI (List.length (M.dig (val (Enc.list eI ((1 : Nat) + List.length (Prod.fst (Prod.snd x))) (joinF (1 : Nat) (fun (i j : Nat) => List.getD [D.int IntKind.i64 (List.getD dia (Int.toNat (Prod.fst x)) (0 : Int))] (i * (1 : Nat) + j) D.nilp) (Enc.F eI (Prod.fst (Prod.snd x)))))))) (Enc.F eI (M.dig (val (Enc.list eI ((1 : Nat) + List.length (Prod.fst (Prod.snd x))) (joinF (1 : Nat) (fun (i j : Nat) => List.getD [D.int IntKind.i64 (List.getD dia (Int.toNat (Prod.fst x)) (0 : Int))] (i * (1 : Nat) + j) D.nilp) (Enc.F eI (Prod.fst (Prod.snd x))))))))) - val (Enc.list eI (List.length (M.mag (M.wv (M.wos (1 : Int) (val (cI dib))) (Enc.list eI (List.length (M.dig (val (cI dib)))) (Enc.F eI (M.dig (val (cI dib))))) * M.wv (M.sgn (Prod.fst x_1)) (Enc.list eI (List.length (M.mag (Prod.fst x_1))) (Enc.F eI (M.mag (Prod.fst x_1))))))) (Enc.F eI (M.mag (M.wv (M.wos (1 : Int) (val (cI dib))) (Enc.list eI (List.length (M.dig (val (cI dib)))) (Enc.F eI (M.dig (val (cI dib))))) * M.wv (M.sgn (Prod.fst x_1)) (Enc.list eI (List.length (M.mag (Prod.fst x_1))) (Enc.F eI (M.mag (Prod.fst x_1))))))))))) (Enc.F eI (M.dig (val (Enc.list eI (List.length (M.dig (val (Enc.list eI ((1 : Nat) + List.length (Prod.fst (Prod.snd x))) (joinF (1 : Nat) (fun (i j : Nat) => List.getD [D.int IntKind.i64 (List.getD dia (Int.toNat (Prod.fst x)) (0 : Int))] (i * (1 : Nat) + j) D.nilp) (Enc.F eI (Prod.fst (Prod.snd x)))))))) (Enc.F eI (M.dig (val (Enc.list eI ((1 : Nat) + List.length (Prod.fst (Prod.snd x))) (joinF (1 : Nat) (fun (i j : Nat) => List.getD [D.int IntKind.i64 (List.getD dia (Int.toNat (Prod.fst x)) (0 : Int))] (i * (1 : Nat) + j) D.nilp) (Enc.F eI (Prod.fst (Prod.snd x))))))))) - val (Enc.list eI (List.length (M.mag (M.wv (M.wos (1 : Int) (val (cI dib))) (Enc.list eI (List.length (M.dig (val (cI dib)))) (Enc.F eI (M.dig (val (cI dib))))) * M.wv (M.sgn (Prod.fst x_1)) (Enc.list eI (List.length (M.mag (Prod.fst x_1))) (Enc.F eI (M.mag (Prod.fst x_1))))))) (Enc.F eI (M.mag (M.wv (M.wos (1 : Int) (val (cI dib))) (Enc.list eI (List.length (M.dig (val (cI dib)))) (Enc.F eI (M.dig (val (cI dib))))) * M.wv (M.sgn (Prod.fst x_1)) (Enc.list eI (List.length (M.mag (Prod.fst x_1))) (Enc.F eI (M.mag (Prod.fst x_1))))))))))), Enc.list eI (List.length (Prod.fst (Prod.snd (Prod.snd x)))) (putF (Int.toNat (Prod.fst x)) (0 : Nat) (List.length [C.int IntKind.i64 (Prod.fst x_1)]) [D.int IntKind.i64 (Prod.fst x_1)] (Enc.F eI (Prod.fst (Prod.snd (Prod.snd x))))), PUnit.unit)))))))))))))))))))))))))))))))))))) (T.need (List.length (Prod.fst (Prod.snd (Prod.snd x))) ≤ List.length (Prod.fst (Prod.snd (Prod.snd x)))) (T.need (Enc.Is eI (List.length (Prod.fst (Prod.snd (Prod.snd x)))) (Enc.F eI (Prod.fst (Prod.snd (Prod.snd x))))) (T.need (Dg (Enc.list eI (List.length (Prod.fst (Prod.snd (Prod.snd x)))) (Enc.F eI (Prod.fst (Prod.snd (Prod.snd x)))))) (T.need (List.length (Enc.list eI (List.length (Prod.fst (Prod.snd (Prod.snd x)))) (Enc.F eI (Prod.fst (Prod.snd (Prod.snd x))))) ≤ (1000000 : Nat)) (T.br (decide (sga < (0 : Int))) (T.br (decide ((Nat.cast (R := Int) (List.length (Prod.fst (Prod.snd x)))) > (0 : Int))) (T.need ((-9223372036854775807 : Int) ≤ (1 : Int)) (T.need ((1 : Int) ≤ (9223372036854775807 : Int)) (T.need (Enc.Is eI (List.length (M.dig (val (Enc.list eI (List.length (Prod.fst (Prod.snd (Prod.snd x)))) (Enc.F eI (Prod.fst (Prod.snd (Prod.snd x)))))))) (Enc.F eI (M.dig (val (Enc.list eI (List.length (Prod.fst (Prod.snd (Prod.snd x)))) (Enc.F eI (Prod.fst (Prod.snd (Prod.snd x))))))))) (T.need (Enc.Is eI (List.length (M.mag (1 : Int))) (Enc.F eI (M.mag (1 : Int)))) (T.need (Can (M.wos sga (val (Enc.list eI (List.length (Prod.fst (Prod.snd (Prod.snd x)))) (Enc.F eI (Prod.fst (Prod.snd (Prod.snd x))))))) (Enc.list eI (List.length (M.dig (val (Enc.list eI (List.length (Prod.fst (Prod.snd (Prod.snd x)))) (Enc.F eI (Prod.fst (Prod.snd (Prod.snd x)))))))) (Enc.F eI (M.dig (val (Enc.list eI (List.length (Prod.fst (Prod.snd (Prod.snd x)))) (Enc.F eI (Prod.fst (Prod.snd (Prod.snd x)))))))))) (T.need (Can (1 : Int) (Enc.list eI (List.length (M.mag (1 : Int))) (Enc.F eI (M.mag (1 : Int))))) (T.need (List.length (Enc.list eI (List.length (M.dig (val (Enc.list eI (List.length (Prod.fst (Prod.snd (Prod.snd x)))) (Enc.F eI (Prod.fst (Prod.snd (Prod.snd x)))))))) (Enc.F eI (M.dig (val (Enc.list eI (List.length (Prod.fst (Prod.snd (Prod.snd x)))) (Enc.F eI (Prod.fst (Prod.snd (Prod.snd x))))))))) ≤ (90000 : Nat)) (T.need (List.length (Enc.list eI (List.length (M.mag (1 : Int))) (Enc.F eI (M.mag (1 : Int)))) ≤ (90000 : Nat)) (T.ret (Sum.inr [Ar.agg [D.int IntKind.i64 (M.sgn (M.wv (M.wos sga (val (Enc.list eI (List.length (Prod.fst (Prod.snd (Prod.snd x)))) (Enc.F eI (Prod.fst (Prod.snd (Prod.snd x))))))) (Enc.list eI (List.length (M.dig (val (Enc.list eI (List.length (Prod.fst (Prod.snd (Prod.snd x)))) (Enc.F eI (Prod.fst (Prod.snd (Prod.snd x)))))))) (Enc.F eI (M.dig (val (Enc.list eI (List.length (Prod.fst (Prod.snd (Prod.snd x)))) (Enc.F eI (Prod.fst (Prod.snd (Prod.snd x))))))))) - (1 : Int))), D.sl false (List.length (M.mag (M.wv (M.wos sga (val (Enc.list eI (List.length (Prod.fst (Prod.snd (Prod.snd x)))) (Enc.F eI (Prod.fst (Prod.snd (Prod.snd x))))))) (Enc.list eI (List.length (M.dig (val (Enc.list eI (List.length (Prod.fst (Prod.snd (Prod.snd x)))) (Enc.F eI (Prod.fst (Prod.snd (Prod.snd x)))))))) (Enc.F eI (M.dig (val (Enc.list eI (List.length (Prod.fst (Prod.snd (Prod.snd x)))) (Enc.F eI (Prod.fst (Prod.snd (Prod.snd x))))))))) - (1 : Int)))) (1 : Nat) (Enc.F eI (M.mag (M.wv (M.wos sga (val (Enc.list eI (List.length (Prod.fst (Prod.snd (Prod.snd x)))) (Enc.F eI (Prod.fst (Prod.snd (Prod.snd x))))))) (Enc.list eI (List.length (M.dig (val (Enc.list eI (List.length (Prod.fst (Prod.snd (Prod.snd x)))) (Enc.F eI (Prod.fst (Prod.snd (Prod.snd x)))))))) (Enc.F eI (M.dig (val (Enc.list eI (List.length (Prod.fst (Prod.snd (Prod.snd x)))) (Enc.F eI (Prod.fst (Prod.snd (Prod.snd x))))))))) - (1 : Int))))]])))))))))) (T.ret (Sum.inr [Ar.agg [D.int IntKind.i64 (M.wos sga (val (Enc.list eI (List.length (Prod.fst (Prod.snd (Prod.snd x)))) (Enc.F eI (Prod.fst (Prod.snd (Prod.snd x))))))), D.sl false (List.length (M.dig (val (Enc.list eI (List.length (Prod.fst (Prod.snd (Prod.snd x)))) (Enc.F eI (Prod.fst (Prod.snd (Prod.snd x)))))))) (1 : Nat) (Enc.F eI (M.dig (val (Enc.list eI (List.length (Prod.fst (Prod.snd (Prod.snd x)))) (Enc.F eI (Prod.fst (Prod.snd (Prod.snd x))))))))]]))) (T.ret (Sum.inr [Ar.agg [D.int IntKind.i64 (M.wos sga (val (Enc.list eI (List.length (Prod.fst (Prod.snd (Prod.snd x)))) (Enc.F eI (Prod.fst (Prod.snd (Prod.snd x))))))), D.sl false (List.length (M.dig (val (Enc.list eI (List.length (Prod.fst (Prod.snd (Prod.snd x)))) (Enc.F eI (Prod.fst (Prod.snd (Prod.snd x)))))))) (1 : Nat) (Enc.F eI (M.dig (val (Enc.list eI (List.length (Prod.fst (Prod.snd (Prod.snd x)))) (Enc.F eI (Prod.fst (Prod.snd (Prod.snd x))))))))]]))))))))))))))
theorem t116 (sga : Int) (q_dia : Bool) (dia : List Int) (sgb : Int) (q_dib : Bool) (dib : List Int) : runFnX Try.prog G0 (lookS [v162, v161, v102, v101, v163, v164, v160]) (fun _ => [(5, [.slot 7 (.int .i64), .slot 6 (.imE eI), .slot 5 (.rowE 3 eI)], none), (9, [.slot 8 (.int .i64), .slot 9 (.int .i64)], none)]) [] 1 60 4 116 Try.f116 [.agg [dI sga, .sl q_dia dia.length 1 (eI.F dia)], .agg [dI sgb, .sl q_dib dib.length 1 (eI.F dib)]] =
    tr116 sga q_dia dia sgb q_dib dib := by kernel_rfl
theorem w116 (s : Int) (qa : Bool) (a : List Int) (t : Int) (qb : Bool) (b : List Int) (hs : Can s a) (ht : Can t b) (hx : a.length ≤ 80000) (hy : b.length ≤ 80000) (hp : 0 < M.wv t b) : (tr116 s qa a t qb b).wp (fun rs => rsEqv rs [.agg [dI (M.sgn (M.wv s a / val b)), .sl false (M.mag (M.wv s a / val b)).length 1 (eI.F (M.mag (M.wv s a / val b)))]]) := by
  obtain ⟨b1, b2, b3⟩ := can_abs ht
  have hB : val b = M.wv t b := by rw [b1]; omega
  rw [← hB] at hp
  obtain ⟨a1, a2, a3⟩ := can_abs hs
  obtain ⟨c1, c2⟩ := wos_can (v := val b) (by omega)
  rw [← b2] at c1 c2
  have hB2 : val b < bp b.length := (val_bnd b3).2
  unfold tr116
  refine wp_br (fun h0 => ?_) (fun h0 => ?_)
  · have h0 : s = 0 := by simpa using h0
    have : M.wv s a = 0 := by unfold M.wv; rw [h0, Int.zero_mul]
    rw [this, Int.zero_ediv]
    exact ⟨⟨rfl, nil_eqv eI, trivial⟩, trivial⟩
  have h0 : ¬ s = 0 := by simpa using h0
  simp only [cI, iI, Enc.list_F, Int.toNat_natCast, ← b2]
  obtain ⟨z1, z2⟩ := zeros_row a.length
  refine ⟨by omega, Int.le_refl _, by omega, hnil, z1, Nat.le_refl _, ?_⟩
  refine ⟨fun x => ∃ (k : Nat) (L : Int), x.1 = (k : Int) - 1 ∧ k ≤ a.length ∧ x.2.1 = M.dig L ∧ FlI a (val b) k L x.2.2.1, fun x => (x.1 + 1).toNat, ⟨a.length, 0, by rw [wrap_id (by omega) (by omega)], Nat.le_refl _, rfl, ?_⟩, ?_⟩
  · rw [z2]
    refine ⟨fun x hx => (by rw [List.eq_of_mem_replicate hx]; decide), List.length_replicate, Int.le_refl _, hp, ?_⟩
    rw [List.drop_of_length_le (Nat.le_refl _), List.drop_of_length_le (by rw [List.length_replicate]; exact Nat.le_refl _)]
    show (0 : Int) = 0 * val b + 0
    omega
  rintro ⟨y, left, q, u⟩ ⟨k, L, hy', hk, hleft, hI⟩
  have hy' : y = (k : Int) - 1 := hy'
  have hleft : left = M.dig L := hleft
  subst hy' hleft
  have hI : FlI a (val b) k L q := hI
  have hL0 := hI.L0
  have hLB := hI.LB
  have hlen := hI.len
  have hLl : (M.dig L).length ≤ b.length := by rw [dig_len]; exact nd_le _ hL0 (by omega)
  refine wp_br (fun hx1 => ?_) (fun hx1 => ?_)
  · have hx1 : (k : Int) - 1 ≥ 0 := of_decide_eq_true hx1
    obtain ⟨i, rfl⟩ : ∃ i, k = i + 1 := ⟨k - 1, by omega⟩
    have e : ((i + 1 : Nat) : Int) - 1 = (i : Int) := by omega
    dsimp only
    simp only [e, Int.toNat_natCast]
    obtain ⟨j1, j2⟩ := in_cons (x := a.getD i 0) (l := M.dig L)
    have dx := dg_at a3 i
    have dL : Dg (a.getD i 0 :: M.dig L) := fun x hx => by
      rcases List.mem_cons.1 hx with rfl | hx
      · exact dx
      · exact dig_dg L x hx
    have vL : val (a.getD i 0 :: M.dig L) = a.getD i 0 + 1000000000 * L := by show a.getD i 0 + 1000000000 * val (M.dig L) = _; rw [val_dig hL0]
    obtain ⟨N, hN⟩ : ∃ N, N = a.getD i 0 + 1000000000 * L := ⟨_, rfl⟩
    have hN0 : 0 ≤ N := by omega
    have hNB : N < 1000000000 * val b := by omega
    have hNl : (M.dig N).length ≤ b.length + 1 := by
      rw [dig_len]; exact nd_le _ hN0 (by rw [bp_succ]; omega)
    have vN : val (M.dig N) = N := val_dig hN0
    rw [← hN] at vL
    simp only [show ∀ i j : Nat, List.getD [dI (a.getD i 0)] (i * 1 + j) D.nilp = inQ (a.getD i 0) i j from fun _ _ => rfl] at *
    have j2' : eI.list (1 + (M.dig L).length) (joinF 1 (fun (i_1 j : Nat) => List.getD [dI (a.getD i 0)] (i_1 * 1 + j) D.nilp) (eI.F (M.dig L))) = a.getD i 0 :: M.dig L := j2
    simp only [j2', vL, vN]
    refine ⟨by omega, by omega, by omega, Nat.le_refl _, j1, dL, by rw [List.length_cons]; omega, ?_⟩
    refine ⟨fun x => SrI N (val b) x.1 x.2.1, fun x => (x.2.1 - x.1).toNat, ⟨Int.le_refl _, by decide, Int.le_refl _, by show 0 * val b ≤ N; omega, by show N < (999999999 + 1) * val b; omega⟩, ?_⟩
    rintro ⟨lo, hi, u'⟩ hS
    have hS : SrI N (val b) lo hi := hS
    have sa := hS.a
    have sb := hS.b
    have sc := hS.c
    have mg : ∀ m : Int, 0 ≤ m → m ≤ 999999999 → (M.mag m).length ≤ 1 := fun m h1 h2 => by
      show (M.dig (m.natAbs : Int)).length ≤ 1
      rw [dig_len]; exact nd_le 1 (by omega) (by rw [bp_one]; omega)
    have mp : ∀ m : Int, 0 ≤ m → m ≤ 999999999 → val (M.mag (val b * m)) = val b * m ∧ (M.mag (val b * m)).length ≤ b.length + 1 ∧ M.mag (val b * m) = M.dig (val b * m) := fun m h1 h2 => by
      have hnn : 0 ≤ val b * m := Int.mul_nonneg (by omega) h1
      have e2 : ((val b * m).natAbs : Int) = val b * m := by omega
      refine ⟨by rw [val_mag, e2], ?_, by unfold M.mag; rw [e2]⟩
      show (M.dig ((val b * m).natAbs : Int)).length ≤ _
      rw [dig_len, e2]
      refine nd_le _ hnn ?_
      rw [bp_succ]
      have h3 : val b * m ≤ val b * 1000000000 := Int.mul_le_mul_of_nonneg_left (by omega) (by omega)
      omega
    refine wp_br (fun hlt => ?_) (fun hge => ?_)
    · have hlt : lo < hi := of_decide_eq_true hlt
      dsimp only
      obtain ⟨m, hm⟩ : ∃ m, m = (lo + hi + 1) / 2 := ⟨_, rfl⟩
      simp only [mid_eq sa sb sc, ← hm]
      have hm0 : 0 ≤ m := by omega
      have hm1 : m ≤ 999999999 := by omega
      obtain ⟨p1, p2, p3⟩ := mp m hm0 hm1
      have p4 := mg m hm0 hm1
      simp only [c2, wv_mk, p1]
      refine ⟨Enc.is_F _ _ _, b3, by omega, by omega, by omega, Enc.is_F _ _ _, Enc.is_F _ _ _, c1, can_mag m, by omega, by omega, Enc.is_F _ _ _, Enc.is_F _ _ _, mag_dg _, dig_dg _, p3, trivial, by omega, wp_br (fun hc => ?_) (fun hc => ?_)⟩
      · have hc : M.cmp3 (val b * m) N ≤ 0 := of_decide_eq_true hc
        have : val b * m ≤ N := by
          unfold M.cmp3 at hc
          split at hc
          · omega
          · split at hc <;> omega
        rw [Int.mul_comm] at this
        refine ⟨?_, ?_⟩
        · rw [hm]; exact hS.up hlt (by rw [← hm]; exact this)
        · show (hi - m).toNat < (hi - lo).toNat
          omega
      · have hc : ¬ M.cmp3 (val b * m) N ≤ 0 := of_decide_eq_false hc
        have : N < val b * m := by
          unfold M.cmp3 at hc
          split at hc
          · omega
          · split at hc <;> omega
        rw [Int.mul_comm] at this
        have hw : IntKind.i64.wrap (m - 1) = m - 1 := wrap_id (by omega) (by omega)
        refine ⟨?_, ?_⟩
        · show SrI N (val b) lo (IntKind.i64.wrap (m - 1))
          rw [hw, hm]; exact hS.down hlt (by rw [← hm]; exact this)
        · show (IntKind.i64.wrap (m - 1) - lo).toNat < (hi - lo).toNat
          rw [hw]; omega
    · have hge : ¬ lo < hi := of_decide_eq_false hge
      obtain rfl : lo = hi := by omega
      dsimp only
      obtain ⟨p1, p2, p3⟩ := mp lo sa sc
      have p4 := mg lo sa sc
      have sd := hS.d
      have se := hS.e
      have fi := hI.step (x := lo) (by omega) ⟨sa, sc⟩ (by rw [← hN]; exact sd) (by rw [← hN]; exact se)
      rw [← hN, Int.mul_comm] at fi
      rw [Int.mul_comm] at sd
      obtain ⟨u1, u2⟩ := in_put (l := q) (i := i) (n := 1) (x := lo) (by omega) rfl
      simp only [c2, wv_mk, p1]
      have hlm : (M.mag (val b * lo)).length ≤ (M.dig N).length := by
        rw [p3, dig_len, dig_len]
        exact nd_mono (Int.mul_nonneg (by omega) sa) sd
      refine ⟨by omega, by omega, by omega, Enc.is_F _ _ _, b3, by omega, by omega, by omega, Enc.is_F _ _ _, Enc.is_F _ _ _, c1, can_mag lo, by omega, by omega, Enc.is_F _ _ _, Enc.is_F _ _ _, dig_dg _, mag_dg _, sd, hlm, by omega, Enc.is_F _ _ _, u1, Nat.le_refl _, ⟨i, N - val b * lo, ?_, by omega, rfl, ?_⟩, ?_⟩
      · show IntKind.i64.wrap ((i : Int) - 1) = (i : Int) - 1
        exact wrap_id (by omega) (by omega)
      · show FlI a (val b) i (N - val b * lo) (eI.list q.length (putF i 0 1 [dI lo] (eI.F q)))
        rw [u2]; exact fi
      · show (IntKind.i64.wrap ((i : Int) - 1) + 1).toNat < ((i : Int) + 1).toNat
        rw [wrap_id (by omega) (by omega)]; omega
  · have hx1 : ¬ (k : Int) - 1 ≥ 0 := of_decide_eq_false hx1
    obtain rfl : k = 0 := by omega
    have hv := hI.v
    rw [List.drop_zero, List.drop_zero, a1] at hv
    dsimp only
    have hq0 := (val_bnd hI.dg).1
    have hql : M.nd (val q) ≤ 80000 := Nat.le_trans (nd_le q.length hq0 (val_bnd hI.dg).2) (by omega)
    obtain ⟨x, rfl, rfl⟩ := hs
    have hwx : M.wv (M.sgn x) (M.dig (x.natAbs : Int)) = x := wv_mk x
    rw [hwx] at hv ⊢
    have hx0 : x ≠ 0 := fun h => h0 (by rw [h]; rfl)
    have hdl := dig_nil hL0
    have neg : x < 0 → M.sgn x = -1 := fun h => by unfold M.sgn; rw [if_pos h]
    have pos : 0 < x → M.sgn x = 1 := fun h => by unfold M.sgn; rw [if_neg (by omega), if_neg (by omega)]
    refine ⟨Nat.le_refl _, Enc.is_F _ _ _, hI.dg, by omega, wp_br (fun hn => ?_) (fun hn => ?_)⟩
    · have hn : M.sgn x < 0 := of_decide_eq_true hn
      have hxn : x < 0 := by
        rcases Int.lt_or_le x 0 with h | h
        · exact h
        · have := pos (by omega); omega
      have hs1 := neg hxn
      have hwq : Can (M.wos (M.sgn x) (val q)) (M.dig (val q)) ∧ M.wv (M.wos (M.sgn x) (val q)) (M.dig (val q)) = -val q := by
        have e1 : M.wos (M.sgn x) (val q) = M.sgn (-val q) := by rw [hs1]; unfold M.wos M.sgn; split <;> split <;> (try split) <;> omega
        have e2 : M.dig (val q) = M.mag (-val q) := by unfold M.mag; rw [Int.natAbs_neg, show (((val q).natAbs : Nat) : Int) = val q by omega]
        rw [e1, e2]
        exact ⟨can_mag _, wv_mk _⟩
      refine wp_br (fun hz => ?_) (fun hz => ?_)
      · have hz : ((M.dig L).length : Int) > 0 := of_decide_eq_true hz
        have hLn : L ≠ 0 := fun h => by rw [hdl.2 h] at hz; omega
        have hfl : x / val b = -val q - 1 := div_is (r := val b - L) (by rw [Int.sub_mul, Int.neg_mul]; omega) (by omega) (by omega)
        simp only [hwq.2]
        rw [hfl]
        refine ⟨by decide, by decide, Enc.is_F _ _ _, Enc.is_F _ _ _, hwq.1, can_mag 1, by rw [dig_len]; omega, by decide, rsEqv_refl _⟩
      · have hz : ¬ ((M.dig L).length : Int) > 0 := of_decide_eq_false hz
        have hLn : L = 0 := hdl.1 (by omega)
        have hfl : x / val b = -val q := div_is (r := 0) (by rw [Int.neg_mul]; omega) (Int.le_refl _) hp
        rw [hfl]
        have e1 : M.wos (M.sgn x) (val q) = M.sgn (-val q) := by rw [hs1]; unfold M.wos M.sgn; split <;> split <;> (try split) <;> omega
        have e2 : M.dig (val q) = M.mag (-val q) := by unfold M.mag; rw [Int.natAbs_neg, show (((val q).natAbs : Nat) : Int) = val q by omega]
        rw [e1, e2]; exact rsEqv_refl _
    · have hn : ¬ M.sgn x < 0 := of_decide_eq_false hn
      have hxp : 0 < x := by
        rcases Int.lt_or_le x 0 with h | h
        · have := neg h; omega
        · omega
      have hs1 := pos hxp
      have hfl : x / val b = val q := div_is (r := L) (by omega) hL0 hLB
      rw [hfl]
      have e1 : M.wos (M.sgn x) (val q) = M.sgn (val q) := by rw [hs1]; unfold M.wos M.sgn; split <;> split <;> (try split) <;> omega
      have e2 : M.dig (val q) = M.mag (val q) := by unfold M.mag; rw [show (((val q).natAbs : Nat) : Int) = val q by omega]
      rw [e1, e2]; exact rsEqv_refl _
theorem w116' (s : Int) (qa : Bool) (a : List Int) (t : Int) (qb : Bool) (b : List Int) (hs : Can s a) (ht : Can t b) (hx : a.length ≤ 80000) (hy : b.length ≤ 80000) (hp : 0 < M.wv t b) : (tr116 s qa a t qb b).wp (fun rs => rsEqv rs [.agg [dI (M.sgn (M.wv s a / M.wv t b)), .sl false (M.mag (M.wv s a / M.wv t b)).length 1 (eI.F (M.mag (M.wv s a / M.wv t b)))]]) := by
  have hB : val b = M.wv t b := by rw [(can_abs ht).1]; omega
  rw [← hB]
  exact w116 s qa a t qb b hs ht hx hy hp
def dom116 : DomF
  | [.agg [.int .i64 sga, .sl _ n_dia st_dia F_dia], .agg [.int .i64 sgb, .sl _ n_dib st_dib F_dib]] => (match (Nat.beq st_dia 1 || Nat.beq n_dia 0) && (Nat.beq st_dib 1 || Nat.beq n_dib 0) with
    | true => some ([eI.Is n_dia F_dia, eI.Is n_dib F_dib, Can sga (eI.list n_dia F_dia), Can sgb (eI.list n_dib F_dib), (eI.list n_dia F_dia).length ≤ 80000, (eI.list n_dib F_dib).length ≤ 80000, 0 < M.wv sgb (eI.list n_dib F_dib)], [.agg [dI (M.sgn (M.wv sga (eI.list n_dia F_dia) / M.wv sgb (eI.list n_dib F_dib))), .sl false (M.mag (M.wv sga (eI.list n_dia F_dia) / M.wv sgb (eI.list n_dib F_dib))).length 1 (eI.F (M.mag (M.wv sga (eI.list n_dia F_dia) / M.wv sgb (eI.list n_dib F_dib))))]])
    | _ => none)
  | _ => none
def v116 : Nat × Sm := (116, fokSm dom116)
theorem C116 : FOK Try.prog G0 gw 116 dom116 := by
  intro ags p r hd hp κ w xs hw hl hG hx
  unfold dom116 at hd
  split at hd
  · rename_i sga q_dia n_dia st_dia F_dia sgb q_dib n_dib st_dib F_dib
    split at hd
    · rename_i hst
      simp only [Bool.and_eq_true] at hst
      obtain ⟨g1, g2⟩ := hst
      simp only [Option.some.injEq, Prod.mk.injEq] at hd
      obtain ⟨rfl, rfl⟩ := hd
      obtain ⟨hI_dia, hI_dib, hp⟩ := hp
      have heq : agsEqv [.agg [.int .i64 sga, .sl q_dia n_dia st_dia F_dia], .agg [.int .i64 sgb, .sl q_dib n_dib st_dib F_dib]] [.agg [.int .i64 sga, .sl q_dia (eI.list n_dia F_dia).length 1 (eI.F (eI.list n_dia F_dia))], .agg [.int .i64 sgb, .sl q_dib (eI.list n_dib F_dib).length 1 (eI.F (eI.list n_dib F_dib))]] := ⟨⟨rfl, eI.toz g1 hI_dia, trivial⟩, ⟨rfl, eI.toz g2 hI_dib, trivial⟩, trivial⟩
      have len_dia : (eI.list n_dia F_dia).length = n_dia := eI.list_len
      have len_dib : (eI.list n_dib F_dib).length = n_dib := eI.list_len
      generalize eI.list n_dia F_dia = dia at *
      generalize eI.list n_dib F_dib = dib at *
      subst len_dia len_dib
      exact fokX_fin mixed gw_stable (sl := [v162, v161, v102, v101, v163, v164, v160]) ⟨S162, S161, S102, S101, S163, S164, S160, trivial⟩ Try.func116 hw hl hG hx heq rfl (t116 _ _ _ _ _ _) (w116' _ _ _ _ _ _ hp.1 hp.2.1 hp.2.2.1 hp.2.2.2.1 hp.2.2.2.2.1)
    · cases hd
  · cases hd
theorem S116 : SumOK Try.prog G0 gw 116 (fokSm dom116) := fok_sum Try.func116 rfl C116
end Go.Pl
end

section
set_option linter.unusedVariables false
set_option linter.unusedSimpArgs false
set_option maxRecDepth 100000
namespace Go.Pl
open Go.V Go.Proofs
end Go.Pl
end

section
set_option linter.unusedVariables false
set_option linter.unusedSimpArgs false
set_option maxRecDepth 100000
namespace Go.Pl
open Go.V Go.Proofs
namespace M
def endOf (g : Bool) (r : Rg) : Int := cond g r.hi r.lo
def ends (g : Bool) (l : List Rg) : List Int := l.map (endOf g)
def stG (sc : List Scale) (f : List Int) : Nat → Nat → Int → Int → Int × Int
  | 0, _, N, D => (N, D)
  | m + 1, i, N, D => stG sc f m (i + 1) (N * f.getD i 0 + D * (1000 * (sc.getD i dfS).vol)) (D * f.getD i 0)
def stNum (sc : List Scale) (f : List Int) (i : Nat) : Int := (stG sc f (f.length - i) i 0 1).1
def stDen (sc : List Scale) (f : List Int) (i : Nat) : Int := (stG sc f (f.length - i) i 0 1).2
end M
theorem ends_len (g : Bool) (l : List Rg) : (M.ends g l).length = l.length := by simp [M.ends]
theorem ends_get {g : Bool} {l : List Rg} {i : Nat} (h : i < l.length) : (M.ends g l).getD i 0 = M.endOf g (l.getD i dfR) := by
  simp [M.ends, List.getD_eq_getElem?_getD, h]
theorem ends_take {g : Bool} {l : List Rg} {i : Nat} (h : i < l.length) : (M.ends g l).take i ++ [M.endOf g (l.getD i dfR)] = (M.ends g l).take (i + 1) := by
  rw [← ends_get h, take_push (d := 0) (by rw [ends_len]; exact h)]
def tr98 (q_l : Bool) (l : List Rg) (g : Bool) : T (List Ar) :=
    T.loop2 (Int × PUnit × PUnit) (Int × List Int × PUnit) (Sum.inl ((0 : Int), PUnit.unit, PUnit.unit)) (fun (x : Int × PUnit × PUnit) => T.br (decide (Prod.fst x < (Nat.cast (R := Int) (List.length l)))) (T.br g (T.need ((0 : Int) ≤ Prod.fst x) (T.need (Prod.fst x < (Nat.cast (R := Int) (List.length l))) (T.need ((1 : Nat) ≤ (1000000 : Nat)) (T.need (Enc.Is eI (1 : Nat) (joinF (0 : Nat) (fun (x x_1 : Nat) => D.nilp) fun (i j : Nat) => List.getD [D.int IntKind.i64 (Rg.hi (List.getD l (Int.toNat (Prod.fst x)) { lo := (0 : Int), hi := (0 : Int) }))] (i * (1 : Nat) + j) D.nilp)) (T.need ((1 : Nat) ≤ (1 : Nat)) (T.ret (Sum.inl (Sum.inr (IntKind.i64.wrap (Prod.fst x + (1 : Int)), Enc.list eI (1 : Nat) (joinF (0 : Nat) (fun (x x_1 : Nat) => D.nilp) fun (i j : Nat) => List.getD [D.int IntKind.i64 (Rg.hi (List.getD l (Int.toNat (Prod.fst x)) { lo := (0 : Int), hi := (0 : Int) }))] (i * (1 : Nat) + j) D.nilp), PUnit.unit))))))))) (T.need ((0 : Int) ≤ Prod.fst x) (T.need (Prod.fst x < (Nat.cast (R := Int) (List.length l))) (T.need ((1 : Nat) ≤ (1000000 : Nat)) (T.need (Enc.Is eI (1 : Nat) (joinF (0 : Nat) (fun (x x_1 : Nat) => D.nilp) fun (i j : Nat) => List.getD [D.int IntKind.i64 (Rg.lo (List.getD l (Int.toNat (Prod.fst x)) { lo := (0 : Int), hi := (0 : Int) }))] (i * (1 : Nat) + j) D.nilp)) (T.need ((1 : Nat) ≤ (1 : Nat)) (T.ret (Sum.inl (Sum.inr (IntKind.i64.wrap (Prod.fst x + (1 : Int)), Enc.list eI (1 : Nat) (joinF (0 : Nat) (fun (x x_1 : Nat) => D.nilp) fun (i j : Nat) => List.getD [D.int IntKind.i64 (Rg.lo (List.getD l (Int.toNat (Prod.fst x)) { lo := (0 : Int), hi := (0 : Int) }))] (i * (1 : Nat) + j) D.nilp), PUnit.unit)))))))))) (T.ret (Sum.inr [Ar.c (D.sl false (0 : Nat) (0 : Nat) fun (x x_1 : Nat) => D.nilp)]))) fun (y : Int × List Int × PUnit) => T.br (decide (Prod.fst y < (Nat.cast (R := Int) (List.length l)))) (T.br g (T.need ((0 : Int) ≤ Prod.fst y) (T.need (Prod.fst y < (Nat.cast (R := Int) (List.length l))) (T.need (List.length (Prod.fst (Prod.snd y)) + (1 : Nat) ≤ (1000000 : Nat)) (T.need (List.length (Prod.fst (Prod.snd y)) ≤ List.length (Prod.fst (Prod.snd y))) (T.need (Enc.Is eI (List.length (Prod.fst (Prod.snd y)) + (1 : Nat)) (joinF (List.length (Prod.fst (Prod.snd y))) (Enc.F eI (Prod.fst (Prod.snd y))) fun (i j : Nat) => List.getD [D.int IntKind.i64 (Rg.hi (List.getD l (Int.toNat (Prod.fst y)) { lo := (0 : Int), hi := (0 : Int) }))] (i * (1 : Nat) + j) D.nilp)) (T.need (List.length (Prod.fst (Prod.snd y)) + (1 : Nat) ≤ List.length (Prod.fst (Prod.snd y)) + (1 : Nat)) (T.ret (Sum.inl (Sum.inr (IntKind.i64.wrap (Prod.fst y + (1 : Int)), Enc.list eI (List.length (Prod.fst (Prod.snd y)) + (1 : Nat)) (joinF (List.length (Prod.fst (Prod.snd y))) (Enc.F eI (Prod.fst (Prod.snd y))) fun (i j : Nat) => List.getD [D.int IntKind.i64 (Rg.hi (List.getD l (Int.toNat (Prod.fst y)) { lo := (0 : Int), hi := (0 : Int) }))] (i * (1 : Nat) + j) D.nilp), PUnit.unit)))))))))) (T.need ((0 : Int) ≤ Prod.fst y) (T.need (Prod.fst y < (Nat.cast (R := Int) (List.length l))) (T.need (List.length (Prod.fst (Prod.snd y)) + (1 : Nat) ≤ (1000000 : Nat)) (T.need (List.length (Prod.fst (Prod.snd y)) ≤ List.length (Prod.fst (Prod.snd y))) (T.need (Enc.Is eI (List.length (Prod.fst (Prod.snd y)) + (1 : Nat)) (joinF (List.length (Prod.fst (Prod.snd y))) (Enc.F eI (Prod.fst (Prod.snd y))) fun (i j : Nat) => List.getD [D.int IntKind.i64 (Rg.lo (List.getD l (Int.toNat (Prod.fst y)) { lo := (0 : Int), hi := (0 : Int) }))] (i * (1 : Nat) + j) D.nilp)) (T.need (List.length (Prod.fst (Prod.snd y)) + (1 : Nat) ≤ List.length (Prod.fst (Prod.snd y)) + (1 : Nat)) (T.ret (Sum.inl (Sum.inr (IntKind.i64.wrap (Prod.fst y + (1 : Int)), Enc.list eI (List.length (Prod.fst (Prod.snd y)) + (1 : Nat)) (joinF (List.length (Prod.fst (Prod.snd y))) (Enc.F eI (Prod.fst (Prod.snd y))) fun (i j : Nat) => List.getD [D.int IntKind.i64 (Rg.lo (List.getD l (Int.toNat (Prod.fst y)) { lo := (0 : Int), hi := (0 : Int) }))] (i * (1 : Nat) + j) D.nilp), PUnit.unit))))))))))) (T.need (List.length (Prod.fst (Prod.snd y)) ≤ List.length (Prod.fst (Prod.snd y))) (T.ret (Sum.inr [Ar.c (D.sl true (List.length (Prod.fst (Prod.snd y))) (1 : Nat) (Enc.F eI (Prod.fst (Prod.snd y))))])))
theorem t98 (q_l : Bool) (l : List Rg) (g : Bool) : runFnX Try.prog G0 (lookS []) (fun _ => [(3, [.slot 6 (.int .i64), .slot 5 .nsl], some [.slot 6 (.int .i64), .slot 5 (.rowE 3 eI)])]) [] 1 60 4 98 Try.f98 [.c (.sl q_l l.length 2 (eRg.F l)), .c (.bool g)] =
    tr98 q_l l g := by kernel_rfl
theorem w98 (q : Bool) (l : List Rg) (g : Bool) (hl : l.length ≤ 100000) : (tr98 q l g).wp (fun rs => rsEqv rs [.c (.sl false (M.ends g l).length 1 (eI.F (M.ends g l)))]) := by
  unfold tr98
  refine ⟨fun z => match z with
    | .inl x => x = ((0 : Int), PUnit.unit, PUnit.unit)
    | .inr y => ∃ k : Nat, k ≤ l.length ∧ y.1 = k ∧ y.2.1 = (M.ends g l).take k,
    fun z => match z with | .inl _ => l.length + 5 | .inr y => l.length - y.1.toNat, rfl, ?_, ?_⟩
  · rintro x rfl
    refine wp_br (fun hb => ?_) (fun hb => ?_)
    · have hlt : (0 : Int) < l.length := of_decide_eq_true hb
      have hlt : 0 < l.length := by omega
      have tk := ends_take (g := g) (l := l) (i := 0) hlt
      rw [List.take_zero, List.nil_append] at tk
      have w1 : IntKind.i64.wrap ((0 : Int) + 1) = 1 := by decide
      refine wp_br (fun hg => ?_) (fun hg => ?_)
      · subst hg
        obtain ⟨o1, o2⟩ := in_1 (x := (l.getD 0 dfR).hi)
        refine ⟨Int.le_refl _, by show (0 : Int) < l.length; omega, by decide, o1, Nat.le_refl _, ⟨1, hlt, w1, o2.trans tk⟩, ?_⟩
        show l.length - (IntKind.i64.wrap ((0 : Int) + 1)).toNat < l.length + 5
        omega
      · subst hg
        obtain ⟨o1, o2⟩ := in_1 (x := (l.getD 0 dfR).lo)
        refine ⟨Int.le_refl _, by show (0 : Int) < l.length; omega, by decide, o1, Nat.le_refl _, ⟨1, hlt, w1, o2.trans tk⟩, ?_⟩
        show l.length - (IntKind.i64.wrap ((0 : Int) + 1)).toNat < l.length + 5
        omega
    · have hge : ¬ (0 : Int) < l.length := of_decide_eq_false hb
      have : l = [] := List.length_eq_zero_iff.1 (by omega)
      subst this
      exact ⟨nil_eqv eI, trivial⟩
  · rintro ⟨y, acc, u⟩ ⟨k, hk, hy', ha'⟩
    have hy : y = (k : Int) := hy'
    have ha : acc = (M.ends g l).take k := ha'
    clear ha' hy'
    subst hy
    have hal : acc.length = k := by rw [ha, List.length_take, ends_len]; omega
    have hw : IntKind.i64.wrap ((k : Int) + 1) = ((k + 1 : Nat) : Int) := wrap_succ (by omega)
    refine wp_br (fun hb => ?_) (fun hb => ?_)
    · have hlt := lt_of_dec hb
      have tk := ends_take (g := g) (l := l) (i := k) hlt
      rw [← ha] at tk
      have mu : l.length - (IntKind.i64.wrap ((k : Int) + 1)).toNat < l.length - (k : Int).toNat := by rw [hw]; omega
      refine wp_br (fun hg => ?_) (fun hg => ?_)
      · subst hg
        obtain ⟨o1, o2⟩ := in_more (l := acc) (x := (l.getD k dfR).hi)
        exact ⟨by show (0 : Int) ≤ k; omega, by show (k : Int) < l.length; omega, by dsimp only; omega, Nat.le_refl _, o1, Nat.le_refl _, ⟨k + 1, hlt, hw, o2.trans tk⟩, mu⟩
      · subst hg
        obtain ⟨o1, o2⟩ := in_more (l := acc) (x := (l.getD k dfR).lo)
        exact ⟨by show (0 : Int) ≤ k; omega, by show (k : Int) < l.length; omega, by dsimp only; omega, Nat.le_refl _, o1, Nat.le_refl _, ⟨k + 1, hlt, hw, o2.trans tk⟩, mu⟩
    · have hge := ge_of_dec hb
      obtain rfl : k = l.length := by omega
      have e : acc = M.ends g l := by rw [ha, List.take_of_length_le (by rw [ends_len]; exact Nat.le_refl _)]
      dsimp only
      rw [← e]
      exact ⟨Nat.le_refl _, ⟨(fun e => by cases e), rfl, fun _ => rfl, fun i j hi hj => D.eqv_refl _⟩, trivial⟩
def dom98 : DomF
  | [.c (.sl _ n_l st_l F_l), .c (.bool g)] => (match (Nat.beq st_l 2 || Nat.beq n_l 0) with
    | true => some ([eRg.Is n_l F_l, (eRg.list n_l F_l).length ≤ 100000], [.c (.sl false (M.ends g (eRg.list n_l F_l)).length 1 (eI.F (M.ends g (eRg.list n_l F_l))))])
    | _ => none)
  | _ => none
def v98 : Nat × Sm := (98, fokSm dom98)
theorem C98 : FOK Try.prog G0 gw 98 dom98 := by
  intro ags p r hd hp κ w xs hw hl hG hx
  unfold dom98 at hd
  split at hd
  · rename_i q_l n_l st_l F_l g
    split at hd
    · rename_i hst
      have g1 := hst
      simp only [Option.some.injEq, Prod.mk.injEq] at hd
      obtain ⟨rfl, rfl⟩ := hd
      obtain ⟨hI_l, hp⟩ := hp
      have heq : agsEqv [.c (.sl q_l n_l st_l F_l), .c (.bool g)] [.c (.sl q_l (eRg.list n_l F_l).length 2 (eRg.F (eRg.list n_l F_l))), .c (.bool g)] := ⟨eRg.toz g1 hI_l, Ag.eqv_refl _, trivial⟩
      have len_l : (eRg.list n_l F_l).length = n_l := eRg.list_len
      generalize eRg.list n_l F_l = l at *
      subst len_l
      exact fokX_fin mixed gw_stable (sl := []) trivial Try.func98 hw hl hG hx heq rfl (t98 _ _ _) (w98 _ _ _ hp.1)
    · cases hd
  · cases hd
theorem S98 : SumOK Try.prog G0 gw 98 (fokSm dom98) := fok_sum Try.func98 rfl C98
theorem mag_len {z : Int} {n : Nat} (h0 : 0 ≤ z) (h : z < bp n) : (M.mag z).length ≤ n := by
  show (M.dig (z.natAbs : Int)).length ≤ n
  rw [dig_len]; exact nd_le n (by omega) (by omega)
structure StI (sc : List Scale) (f : List Int) (i k : Nat) (N D : Int) : Prop where
  n0 : 0 ≤ N
  nb : N < bp (k + 1)
  d0 : 0 < D
  db : D < bp (k + 1)
  e : M.stG sc f (f.length - k) k N D = M.stG sc f (f.length - i) i 0 1
theorem StI.step {sc : List Scale} {f : List Int} {i k : Nat} {N D : Int} (h : StI sc f i k N D) (hk : k < f.length) (hf : 0 < f.getD k 0 ∧ f.getD k 0 ≤ 100000) (hv : 0 ≤ (sc.getD k dfS).vol ∧ (sc.getD k dfS).vol ≤ 20000) :
    (0 ≤ N * f.getD k 0 ∧ N * f.getD k 0 < bp (k + 2)) ∧ (0 ≤ D * (1000 * (sc.getD k dfS).vol) ∧ D * (1000 * (sc.getD k dfS).vol) < bp (k + 2)) ∧ StI sc f i (k + 1) (N * f.getD k 0 + D * (1000 * (sc.getD k dfS).vol)) (D * f.getD k 0) := by
  have e := h.e
  rw [show f.length - k = f.length - (k + 1) + 1 by omega] at e
  simp only [M.stG] at e
  have a := h.n0; have b := h.nb; have c := h.d0; have d := h.db
  generalize (sc.getD k dfS).vol = v at *
  generalize f.getD k 0 = y at *
  have i1 : N * y ≤ N * 100000 := Int.mul_le_mul_of_nonneg_left (by omega) a
  have i2 : D * y ≤ D * 100000 := Int.mul_le_mul_of_nonneg_left (by omega) (by omega)
  have i3 : D * (1000 * v) ≤ D * 20000000 := Int.mul_le_mul_of_nonneg_left (by omega) (by omega)
  have j1 : 0 ≤ N * y := Int.mul_nonneg a (by omega)
  have j2 : 0 < D * y := Int.mul_pos c (by omega)
  have j3 : 0 ≤ D * (1000 * v) := Int.mul_nonneg (by omega) (by omega)
  have hb : bp (k + 2) = 1000000000 * bp (k + 1) := rfl
  refine ⟨⟨j1, by omega⟩, ⟨j3, by omega⟩, ⟨by omega, ?_, j2, ?_, e⟩⟩
  · show _ < bp (k + 2)
    omega
  · show _ < bp (k + 2)
    omega
def tr99 (q_sc : Bool) (sc : List Scale) (new : Int) (q_f : Bool) (f : List Int) (i : Int) : T (List Ar) :=
    T.need ((-9223372036854775807 : Int) ≤ (0 : Int)) (T.need ((0 : Int) ≤ (9223372036854775807 : Int)) (T.need ((-9223372036854775807 : Int) ≤ (1 : Int)) (T.need ((1 : Int) ≤ (9223372036854775807 : Int)) (T.need (Enc.Is eI (List.length (M.mag (0 : Int))) (Enc.F eI (M.mag (0 : Int)))) (T.need (Enc.Is eI (List.length (M.mag (1 : Int))) (Enc.F eI (M.mag (1 : Int)))) (T.loop (Int × Int × List Int × Int × List Int × PUnit) (i, (0 : Int), Enc.list eI (List.length (M.mag (0 : Int))) (Enc.F eI (M.mag (0 : Int))), (1 : Int), Enc.list eI (List.length (M.mag (1 : Int))) (Enc.F eI (M.mag (1 : Int))), PUnit.unit) fun (x : Int × Int × List Int × Int × List Int × PUnit) => T.br (decide (Prod.fst x < (Nat.cast (R := Int) (List.length f)))) (T.need ((0 : Int) ≤ Prod.fst x) (T.need (Prod.fst x < (Nat.cast (R := Int) (List.length f))) (T.need ((-9223372036854775807 : Int) ≤ List.getD f (Int.toNat (Prod.fst x)) (0 : Int)) (T.need (List.getD f (Int.toNat (Prod.fst x)) (0 : Int) ≤ (9223372036854775807 : Int)) (T.need (Enc.Is eI (List.length (Prod.fst (Prod.snd (Prod.snd x)))) (Enc.F eI (Prod.fst (Prod.snd (Prod.snd x))))) (T.need (Enc.Is eI (List.length (M.mag (List.getD f (Int.toNat (Prod.fst x)) (0 : Int)))) (Enc.F eI (M.mag (List.getD f (Int.toNat (Prod.fst x)) (0 : Int))))) (T.need (Can (Prod.fst (Prod.snd x)) (Enc.list eI (List.length (Prod.fst (Prod.snd (Prod.snd x)))) (Enc.F eI (Prod.fst (Prod.snd (Prod.snd x)))))) (T.need (Can (M.sgn (List.getD f (Int.toNat (Prod.fst x)) (0 : Int))) (Enc.list eI (List.length (M.mag (List.getD f (Int.toNat (Prod.fst x)) (0 : Int)))) (Enc.F eI (M.mag (List.getD f (Int.toNat (Prod.fst x)) (0 : Int)))))) (T.need (List.length (Enc.list eI (List.length (Prod.fst (Prod.snd (Prod.snd x)))) (Enc.F eI (Prod.fst (Prod.snd (Prod.snd x))))) ≤ (90000 : Nat)) (T.need (List.length (Enc.list eI (List.length (M.mag (List.getD f (Int.toNat (Prod.fst x)) (0 : Int)))) (Enc.F eI (M.mag (List.getD f (Int.toNat (Prod.fst x)) (0 : Int))))) ≤ (90000 : Nat)) (T.need ((0 : Int) ≤ Prod.fst x) (T.need (Prod.fst x < (Nat.cast (R := Int) (List.length sc))) (T.need ((-9223372036854775807 : Int) ≤ IntKind.i64.wrap ((1000 : Int) * Scale.vol (List.getD sc (Int.toNat (Prod.fst x)) { vol := (0 : Int), l := (0 : Int), h := (0 : Int), least := (0 : Int) }))) (T.need (IntKind.i64.wrap ((1000 : Int) * Scale.vol (List.getD sc (Int.toNat (Prod.fst x)) { vol := (0 : Int), l := (0 : Int), h := (0 : Int), least := (0 : Int) })) ≤ (9223372036854775807 : Int)) (T.need (Enc.Is eI (List.length (Prod.fst (Prod.snd (Prod.snd (Prod.snd (Prod.snd x)))))) (Enc.F eI (Prod.fst (Prod.snd (Prod.snd (Prod.snd (Prod.snd x))))))) (T.need (Enc.Is eI (List.length (M.mag (IntKind.i64.wrap ((1000 : Int) * Scale.vol (List.getD sc (Int.toNat (Prod.fst x)) { vol := (0 : Int), l := (0 : Int), h := (0 : Int), least := (0 : Int) }))))) (Enc.F eI (M.mag (IntKind.i64.wrap ((1000 : Int) * Scale.vol (List.getD sc (Int.toNat (Prod.fst x)) { vol := (0 : Int), l := (0 : Int), h := (0 : Int), least := (0 : Int) })))))) (T.need (Can (Prod.fst (Prod.snd (Prod.snd (Prod.snd x)))) (Enc.list eI (List.length (Prod.fst (Prod.snd (Prod.snd (Prod.snd (Prod.snd x)))))) (Enc.F eI (Prod.fst (Prod.snd (Prod.snd (Prod.snd (Prod.snd x)))))))) (T.need (Can (M.sgn (IntKind.i64.wrap ((1000 : Int) * Scale.vol (List.getD sc (Int.toNat (Prod.fst x)) { vol := (0 : Int), l := (0 : Int), h := (0 : Int), least := (0 : Int) })))) (Enc.list eI (List.length (M.mag (IntKind.i64.wrap ((1000 : Int) * Scale.vol (List.getD sc (Int.toNat (Prod.fst x)) { vol := (0 : Int), l := (0 : Int), h := (0 : Int), least := (0 : Int) }))))) (Enc.F eI (M.mag (IntKind.i64.wrap ((1000 : Int) * Scale.vol (List.getD sc (Int.toNat (Prod.fst x)) { vol := (0 : Int), l := (0 : Int), h := (0 : Int), least := (0 : Int) }))))))) (T.need (List.length (Enc.list eI (List.length (Prod.fst (Prod.snd (Prod.snd (Prod.snd (Prod.snd x)))))) (Enc.F eI (Prod.fst (Prod.snd (Prod.snd (Prod.snd (Prod.snd x))))))) ≤ (90000 : Nat)) (T.need (List.length (Enc.list eI (List.length (M.mag (IntKind.i64.wrap ((1000 : Int) * Scale.vol (List.getD sc (Int.toNat (Prod.fst x)) { vol := (0 : Int), l := (0 : Int), h := (0 : Int), least := (0 : Int) }))))) (Enc.F eI (M.mag (IntKind.i64.wrap ((1000 : Int) * Scale.vol (List.getD sc (Int.toNat (Prod.fst x)) { vol := (0 : Int), l := (0 : Int), h := (0 : Int), least := (0 : Int) })))))) ≤ (90000 : Nat)) (T.need (Enc.Is eI (List.length (M.mag (M.wv (Prod.fst (Prod.snd x)) (Enc.list eI (List.length (Prod.fst (Prod.snd (Prod.snd x)))) (Enc.F eI (Prod.fst (Prod.snd (Prod.snd x))))) * M.wv (M.sgn (List.getD f (Int.toNat (Prod.fst x)) (0 : Int))) (Enc.list eI (List.length (M.mag (List.getD f (Int.toNat (Prod.fst x)) (0 : Int)))) (Enc.F eI (M.mag (List.getD f (Int.toNat (Prod.fst x)) (0 : Int)))))))) (Enc.F eI (M.mag (M.wv (Prod.fst (Prod.snd x)) (Enc.list eI (List.length (Prod.fst (Prod.snd (Prod.snd x)))) (Enc.F eI (Prod.fst (Prod.snd (Prod.snd x))))) * M.wv (M.sgn (List.getD f (Int.toNat (Prod.fst x)) (0 : Int))) (Enc.list eI (List.length (M.mag (List.getD f (Int.toNat (Prod.fst x)) (0 : Int)))) (Enc.F eI (M.mag (List.getD f (Int.toNat (Prod.fst x)) (0 : Int))))))))) (T.need (Enc.Is eI (List.length (M.mag (M.wv (Prod.fst (Prod.snd (Prod.snd (Prod.snd x)))) (Enc.list eI (List.length (Prod.fst (Prod.snd (Prod.snd (Prod.snd (Prod.snd x)))))) (Enc.F eI (Prod.fst (Prod.snd (Prod.snd (Prod.snd (Prod.snd x))))))) * M.wv (M.sgn (IntKind.i64.wrap ((1000 : Int) * Scale.vol (List.getD sc (Int.toNat (Prod.fst x)) { vol := (0 : Int), l := (0 : Int), h := (0 : Int), least := (0 : Int) })))) (Enc.list eI (List.length (M.mag (IntKind.i64.wrap ((1000 : Int) * Scale.vol (List.getD sc (Int.toNat (Prod.fst x)) { vol := (0 : Int), l := (0 : Int), h := (0 : Int), least := (0 : Int) }))))) (Enc.F eI (M.mag (IntKind.i64.wrap ((1000 : Int) * Scale.vol (List.getD sc (Int.toNat (Prod.fst x)) { vol := (0 : Int), l := (0 : Int), h := (0 : Int), least := (0 : Int) }))))))))) (Enc.F eI (M.mag (M.wv (Prod.fst (Prod.snd (Prod.snd (Prod.snd x)))) (Enc.list eI (List.length (Prod.fst (Prod.snd (Prod.snd (Prod.snd (Prod.snd x)))))) (Enc.F eI (Prod.fst (Prod.snd (Prod.snd (Prod.snd (Prod.snd x))))))) * M.wv (M.sgn (IntKind.i64.wrap ((1000 : Int) * Scale.vol (List.getD sc (Int.toNat (Prod.fst x)) { vol := (0 : Int), l := (0 : Int), h := (0 : Int), least := (0 : Int) })))) (Enc.list eI (List.length (M.mag (IntKind.i64.wrap ((1000 : Int) * Scale.vol (List.getD sc (Int.toNat (Prod.fst x)) { vol := (0 : Int), l := (0 : Int), h := (0 : Int), least := (0 : Int) }))))) (Enc.F eI (M.mag (IntKind.i64.wrap ((1000 : Int) * Scale.vol (List.getD sc (Int.toNat (Prod.fst x)) { vol := (0 : Int), l := (0 : Int), h := (0 : Int), least := (0 : Int) })))))))))) (T.need (Can (M.sgn (M.wv (Prod.fst (Prod.snd x)) (Enc.list eI (List.length (Prod.fst (Prod.snd (Prod.snd x)))) (Enc.F eI (Prod.fst (Prod.snd (Prod.snd x))))) * M.wv (M.sgn (List.getD f (Int.toNat (Prod.fst x)) (0 : Int))) (Enc.list eI (List.length (M.mag (List.getD f (Int.toNat (Prod.fst x)) (0 : Int)))) (Enc.F eI (M.mag (List.getD f (Int.toNat (Prod.fst x)) (0 : Int))))))) (Enc.list eI (List.length (M.mag (M.wv (Prod.fst (Prod.snd x)) (Enc.list eI (List.length (Prod.fst (Prod.snd (Prod.snd x)))) (Enc.F eI (Prod.fst (Prod.snd (Prod.snd x))))) * M.wv (M.sgn (List.getD f (Int.toNat (Prod.fst x)) (0 : Int))) (Enc.list eI (List.length (M.mag (List.getD f (Int.toNat (Prod.fst x)) (0 : Int)))) (Enc.F eI (M.mag (List.getD f (Int.toNat (Prod.fst x)) (0 : Int)))))))) (Enc.F eI (M.mag (M.wv (Prod.fst (Prod.snd x)) (Enc.list eI (List.length (Prod.fst (Prod.snd (Prod.snd x)))) (Enc.F eI (Prod.fst (Prod.snd (Prod.snd x))))) * M.wv (M.sgn (List.getD f (Int.toNat (Prod.fst x)) (0 : Int))) (Enc.list eI (List.length (M.mag (List.getD f (Int.toNat (Prod.fst x)) (0 : Int)))) (Enc.F eI (M.mag (List.getD f (Int.toNat (Prod.fst x)) (0 : Int)))))))))) (T.need (Can (M.sgn (M.wv (Prod.fst (Prod.snd (Prod.snd (Prod.snd x)))) (Enc.list eI (List.length (Prod.fst (Prod.snd (Prod.snd (Prod.snd (Prod.snd x)))))) (Enc.F eI (Prod.fst (Prod.snd (Prod.snd (Prod.snd (Prod.snd x))))))) * M.wv (M.sgn (IntKind.i64.wrap ((1000 : Int) * Scale.vol (List.getD sc (Int.toNat (Prod.fst x)) { vol := (0 : Int), l := (0 : Int), h := (0 : Int), least := (0 : Int) })))) (Enc.list eI (List.length (M.mag (IntKind.i64.wrap ((1000 : Int) * Scale.vol (List.getD sc (Int.toNat (Prod.fst x)) { vol := (0 : Int), l := (0 : Int), h := (0 : Int), least := (0 : Int) }))))) (Enc.F eI (M.mag (IntKind.i64.wrap ((1000 : Int) * Scale.vol (List.getD sc (Int.toNat (Prod.fst x)) { vol := (0 : Int), l := (0 : Int), h := (0 : Int), least := (0 : Int) })))))))) (Enc.list eI (List.length (M.mag (M.wv (Prod.fst (Prod.snd (Prod.snd (Prod.snd x)))) (Enc.list eI (List.length (Prod.fst (Prod.snd (Prod.snd (Prod.snd (Prod.snd x)))))) (Enc.F eI (Prod.fst (Prod.snd (Prod.snd (Prod.snd (Prod.snd x))))))) * M.wv (M.sgn (IntKind.i64.wrap ((1000 : Int) * Scale.vol (List.getD sc (Int.toNat (Prod.fst x)) { vol := (0 : Int), l := (0 : Int), h := (0 : Int), least := (0 : Int) })))) (Enc.list eI (List.length (M.mag (IntKind.i64.wrap ((1000 : Int) * Scale.vol (List.getD sc (Int.toNat (Prod.fst x)) { vol := (0 : Int), l := (0 : Int), h := (0 : Int), least := (0 : Int) }))))) (Enc.F eI (M.mag (IntKind.i64.wrap ((1000 : Int) * Scale.vol (List.getD sc (Int.toNat (Prod.fst x)) { vol := (0 : Int), l := (0 : Int), h := (0 : Int), least := (0 : Int) }))))))))) (Enc.F eI (M.mag (M.wv (Prod.fst (Prod.snd (Prod.snd (Prod.snd x)))) (Enc.list eI (List.length (Prod.fst (Prod.snd (Prod.snd (Prod.snd (Prod.snd x)))))) (Enc.F eI (Prod.fst (Prod.snd (Prod.snd (Prod.snd (Prod.snd x))))))) * M.wv (M.sgn (IntKind.i64.wrap ((1000 : Int) * Scale.vol (List.getD sc (Int.toNat (Prod.fst x)) { vol := (0 : Int), l := (0 : Int), h := (0 : Int), least := (0 : Int) })))) (Enc.list eI (List.length (M.mag (IntKind.i64.wrap ((1000 : Int) * Scale.vol (List.getD sc (Int.toNat (Prod.fst x)) { vol := (0 : Int), l := (0 : Int), h := (0 : Int), least := (0 : Int) }))))) (Enc.F eI (M.mag (IntKind.i64.wrap ((1000 : Int) * Scale.vol (List.getD sc (Int.toNat (Prod.fst x)) { vol := (0 : Int), l := (0 : Int), h := (0 : Int), least := (0 : Int) }))))))))))) (T.need (List.length (Enc.list eI (List.length (M.mag (M.wv (Prod.fst (Prod.snd x)) (Enc.list eI (List.length (Prod.fst (Prod.snd (Prod.snd x)))) (Enc.F eI (Prod.fst (Prod.snd (Prod.snd x))))) * M.wv (M.sgn (List.getD f (Int.toNat (Prod.fst x)) (0 : Int))) (Enc.list eI (List.length (M.mag (List.getD f (Int.toNat (Prod.fst x)) (0 : Int)))) (Enc.F eI (M.mag (List.getD f (Int.toNat (Prod.fst x)) (0 : Int)))))))) (Enc.F eI (M.mag (M.wv (Prod.fst (Prod.snd x)) (Enc.list eI (List.length (Prod.fst (Prod.snd (Prod.snd x)))) (Enc.F eI (Prod.fst (Prod.snd (Prod.snd x))))) * M.wv (M.sgn (List.getD f (Int.toNat (Prod.fst x)) (0 : Int))) (Enc.list eI (List.length (M.mag (List.getD f (Int.toNat (Prod.fst x)) (0 : Int)))) (Enc.F eI (M.mag (List.getD f (Int.toNat (Prod.fst x)) (0 : Int))))))))) ≤ (90000 : Nat)) (T.need (List.length (Enc.list eI (List.length (M.mag (M.wv (Prod.fst (Prod.snd (Prod.snd (Prod.snd x)))) (Enc.list eI (List.length (Prod.fst (Prod.snd (Prod.snd (Prod.snd (Prod.snd x)))))) (Enc.F eI (Prod.fst (Prod.snd (Prod.snd (Prod.snd (Prod.snd x))))))) * M.wv (M.sgn (IntKind.i64.wrap ((1000 : Int) * Scale.vol (List.getD sc (Int.toNat (Prod.fst x)) { vol := (0 : Int), l := (0 : Int), h := (0 : Int), least := (0 : Int) })))) (Enc.list eI (List.length (M.mag (IntKind.i64.wrap ((1000 : Int) * Scale.vol (List.getD sc (Int.toNat (Prod.fst x)) { vol := (0 : Int), l := (0 : Int), h := (0 : Int), least := (0 : Int) }))))) (Enc.F eI (M.mag (IntKind.i64.wrap ((1000 : Int) * Scale.vol (List.getD sc (Int.toNat (Prod.fst x)) { vol := (0 : Int), l := (0 : Int), h := (0 : Int), least := (0 : Int) }))))))))) (Enc.F eI (M.mag (M.wv (Prod.fst (Prod.snd (Prod.snd (Prod.snd x)))) (Enc.list eI (List.length (Prod.fst (Prod.snd (Prod.snd (Prod.snd (Prod.snd x)))))) (Enc.F eI (Prod.fst (Prod.snd (Prod.snd (Prod.snd (Prod.snd x))))))) * M.wv (M.sgn (IntKind.i64.wrap ((1000 : Int) * Scale.vol (List.getD sc (Int.toNat (Prod.fst x)) { vol := (0 : Int), l := (0 : Int), h := (0 : Int), least := (0 : Int) })))) (Enc.list eI (List.length (M.mag (IntKind.i64.wrap ((1000 : Int) * Scale.vol (List.getD sc (Int.toNat (Prod.fst x)) { vol := (0 : Int), l := (0 : Int), h := (0 : Int), least := (0 : Int) }))))) (Enc.F eI (M.mag (IntKind.i64.wrap ((1000 : Int) * Scale.vol (List.getD sc (Int.toNat (Prod.fst x)) { vol := (0 : Int), l := (0 : Int), h := (0 : Int), least := (0 : Int) })))))))))) ≤ (90000 : Nat)) (T.need (Enc.Is eI (List.length (Prod.fst (Prod.snd (Prod.snd (Prod.snd (Prod.snd x)))))) (Enc.F eI (Prod.fst (Prod.snd (Prod.snd (Prod.snd (Prod.snd x))))))) (T.need (Enc.Is eI (List.length (M.mag (List.getD f (Int.toNat (Prod.fst x)) (0 : Int)))) (Enc.F eI (M.mag (List.getD f (Int.toNat (Prod.fst x)) (0 : Int))))) (T.need (Can (Prod.fst (Prod.snd (Prod.snd (Prod.snd x)))) (Enc.list eI (List.length (Prod.fst (Prod.snd (Prod.snd (Prod.snd (Prod.snd x)))))) (Enc.F eI (Prod.fst (Prod.snd (Prod.snd (Prod.snd (Prod.snd x)))))))) (T.need (Can (M.sgn (List.getD f (Int.toNat (Prod.fst x)) (0 : Int))) (Enc.list eI (List.length (M.mag (List.getD f (Int.toNat (Prod.fst x)) (0 : Int)))) (Enc.F eI (M.mag (List.getD f (Int.toNat (Prod.fst x)) (0 : Int)))))) (T.need (List.length (Enc.list eI (List.length (Prod.fst (Prod.snd (Prod.snd (Prod.snd (Prod.snd x)))))) (Enc.F eI (Prod.fst (Prod.snd (Prod.snd (Prod.snd (Prod.snd x))))))) ≤ (90000 : Nat)) (T.need (List.length (Enc.list eI (List.length (M.mag (List.getD f (Int.toNat (Prod.fst x)) (0 : Int)))) (Enc.F eI (M.mag (List.getD f (Int.toNat (Prod.fst x)) (0 : Int))))) ≤ (90000 : Nat)) (T.need (Enc.Is eI (List.length (M.mag (M.wv (M.sgn (M.wv (Prod.fst (Prod.snd x)) (Enc.list eI (List.length (Prod.fst (Prod.snd (Prod.snd x)))) (Enc.F eI (Prod.fst (Prod.snd (Prod.snd x))))) * M.wv (M.sgn (List.getD f (Int.toNat (Prod.fst x)) (0 : Int))) (Enc.list eI (List.length (M.mag (List.getD f (Int.toNat (Prod.fst x)) (0 : Int)))) (Enc.F eI (M.mag (List.getD f (Int.toNat (Prod.fst x)) (0 : Int))))))) (Enc.list eI (List.length (M.mag (M.wv (Prod.fst (Prod.snd x)) (Enc.list eI (List.length (Prod.fst (Prod.snd (Prod.snd x)))) (Enc.F eI (Prod.fst (Prod.snd (Prod.snd x))))) * M.wv (M.sgn (List.getD f (Int.toNat (Prod.fst x)) (0 : Int))) (Enc.list eI (List.length (M.mag (List.getD f (Int.toNat (Prod.fst x)) (0 : Int)))) (Enc.F eI (M.mag (List.getD f (Int.toNat (Prod.fst x)) (0 : Int)))))))) (Enc.F eI (M.mag (M.wv (Prod.fst (Prod.snd x)) (Enc.list eI (List.length (Prod.fst (Prod.snd (Prod.snd x)))) (Enc.F eI (Prod.fst (Prod.snd (Prod.snd x))))) * M.wv (M.sgn (List.getD f (Int.toNat (Prod.fst x)) (0 : Int))) (Enc.list eI (List.length (M.mag (List.getD f (Int.toNat (Prod.fst x)) (0 : Int)))) (Enc.F eI (M.mag (List.getD f (Int.toNat (Prod.fst x)) (0 : Int))))))))) + M.wv (M.sgn (M.wv (Prod.fst (Prod.snd (Prod.snd (Prod.snd x)))) (Enc.list eI (List.length (Prod.fst (Prod.snd (Prod.snd (Prod.snd (Prod.snd x)))))) (Enc.F eI (Prod.fst (Prod.snd (Prod.snd (Prod.snd (Prod.snd x))))))) * M.wv (M.sgn (IntKind.i64.wrap ((1000 : Int) * Scale.vol (List.getD sc (Int.toNat (Prod.fst x)) { vol := (0 : Int), l := (0 : Int), h := (0 : Int), least := (0 : Int) })))) (Enc.list eI (List.length (M.mag (IntKind.i64.wrap ((1000 : Int) * Scale.vol (List.getD sc (Int.toNat (Prod.fst x)) { vol := (0 : Int), l := (0 : Int), h := (0 : Int), least := (0 : Int) }))))) (Enc.F eI (M.mag (IntKind.i64.wrap ((1000 : Int) * Scale.vol (List.getD sc (Int.toNat (Prod.fst x)) { vol := (0 : Int), l := (0 : Int), h := (0 : Int), least := (0 : Int) })))))))) (Enc.list eI (List.length (M.mag (M.wv (Prod.fst (Prod.snd (Prod.snd (Prod.snd x)))) (Enc.list eI (List.length (Prod.fst (Prod.snd (Prod.snd (Prod.snd (Prod.snd x)))))) (Enc.F eI (Prod.fst (Prod.snd (Prod.snd (Prod.snd (Prod.snd x))))))) * M.wv (M.sgn (IntKind.i64.wrap ((1000 : Int) * Scale.vol (List.getD sc (Int.toNat (Prod.fst x)) { vol := (0 : Int), l := (0 : Int), h := (0 : Int), least := (0 : Int) })))) (Enc.list eI (List.length (M.mag (IntKind.i64.wrap ((1000 : Int) * Scale.vol (List.getD sc (Int.toNat (Prod.fst x)) { vol := (0 : Int), l := (0 : Int), h := (0 : Int), least := (0 : Int) }))))) (Enc.F eI (M.mag (IntKind.i64.wrap ((1000 : Int) * Scale.vol (List.getD sc (Int.toNat (Prod.fst x)) { vol := (0 : Int), l := (0 : Int), h := (0 : Int), least := (0 : Int) }))))))))) (Enc.F eI (M.mag (M.wv (Prod.fst (Prod.snd (Prod.snd (Prod.snd x)))) (Enc.list eI (List.length (Prod.fst (Prod.snd (Prod.snd (Prod.snd (Prod.snd x)))))) (Enc.F eI (Prod.fst (Prod.snd (Prod.snd (Prod.snd (Prod.snd x))))))) * M.wv (M.sgn (IntKind.i64.wrap ((1000 : Int) * Scale.vol (List.getD sc (Int.toNat (Prod.fst x)) { vol := (0 : Int), l := (0 : Int), h := (0 : Int), least := (0 : Int) })))) (Enc.list eI (List.length (M.mag (IntKind.i64.wrap ((1000 : Int) * Scale.vol (List.getD sc (Int.toNat (Prod.fst x)) { vol := (0 : Int), l := (0 : Int), h := (0 : Int), least := (0 : Int) }))))) (Enc.F eI (M.mag (IntKind.i64.wrap ((1000 : Int) * Scale.vol (List.getD sc (Int.toNat (Prod.fst x)) { vol := (0 : Int), l := (0 : Int), h := (0 : Int), least := (0 : Int) }))))))))))))) (Enc.F eI (M.mag (M.wv (M.sgn (M.wv (Prod.fst (Prod.snd x)) (Enc.list eI (List.length (Prod.fst (Prod.snd (Prod.snd x)))) (Enc.F eI (Prod.fst (Prod.snd (Prod.snd x))))) * M.wv (M.sgn (List.getD f (Int.toNat (Prod.fst x)) (0 : Int))) (Enc.list eI (List.length (M.mag (List.getD f (Int.toNat (Prod.fst x)) (0 : Int)))) (Enc.F eI (M.mag (List.getD f (Int.toNat (Prod.fst x)) (0 : Int))))))) (Enc.list eI (List.length (M.mag (M.wv (Prod.fst (Prod.snd x)) (Enc.list eI (List.length (Prod.fst (Prod.snd (Prod.snd x)))) (Enc.F eI (Prod.fst (Prod.snd (Prod.snd x))))) * M.wv (M.sgn (List.getD f (Int.toNat (Prod.fst x)) (0 : Int))) (Enc.list eI (List.length (M.mag (List.getD f (Int.toNat (Prod.fst x)) (0 : Int)))) (Enc.F eI (M.mag (List.getD f (Int.toNat (Prod.fst x)) (0 : Int)))))))) (Enc.F eI (M.mag (M.wv (Prod.fst (Prod.snd x)) (Enc.list eI (List.length (Prod.fst (Prod.snd (Prod.snd x)))) (Enc.F eI (Prod.fst (Prod.snd (Prod.snd x))))) * M.wv (M.sgn (List.getD f (Int.toNat (Prod.fst x)) (0 : Int))) (Enc.list eI (List.length (M.mag (List.getD f (Int.toNat (Prod.fst x)) (0 : Int)))) (Enc.F eI (M.mag (List.getD f (Int.toNat (Prod.fst x)) (0 : Int))))))))) + M.wv (M.sgn (M.wv (Prod.fst (Prod.snd (Prod.snd (Prod.snd x)))) (Enc.list eI (List.length (Prod.fst (Prod.snd (Prod.snd (Prod.snd (Prod.snd x)))))) (Enc.F eI (Prod.fst (Prod.snd (Prod.snd (Prod.snd (Prod.snd x))))))) * M.wv (M.sgn (IntKind.i64.wrap ((1000 : Int) * Scale.vol (List.getD sc (Int.toNat (Prod.fst x)) { vol := (0 : Int), l := (0 : Int), h := (0 : Int), least := (0 : Int) })))) (Enc.list eI (List.length (M.mag (IntKind.i64.wrap ((1000 : Int) * Scale.vol (List.getD sc (Int.toNat (Prod.fst x)) { vol := (0 : Int), l := (0 : Int), h := (0 : Int), least := (0 : Int) }))))) (Enc.F eI (M.mag (IntKind.i64.wrap ((1000 : Int) * Scale.vol (List.getD sc (Int.toNat (Prod.fst x)) { vol := (0 : Int), l := (0 : Int), h := (0 : Int), least := (0 : Int) })))))))) (Enc.list eI (List.length (M.mag (M.wv (Prod.fst (Prod.snd (Prod.snd (Prod.snd x)))) (Enc.list eI (List.length (Prod.fst (Prod.snd (Prod.snd (Prod.snd (Prod.snd x)))))) (Enc.F eI (Prod.fst (Prod.snd (Prod.snd (Prod.snd (Prod.snd x))))))) * M.wv (M.sgn (IntKind.i64.wrap ((1000 : Int) * Scale.vol (List.getD sc (Int.toNat (Prod.fst x)) { vol := (0 : Int), l := (0 : Int), h := (0 : Int), least := (0 : Int) })))) (Enc.list eI (List.length (M.mag (IntKind.i64.wrap ((1000 : Int) * Scale.vol (List.getD sc (Int.toNat (Prod.fst x)) { vol := (0 : Int), l := (0 : Int), h := (0 : Int), least := (0 : Int) }))))) (Enc.F eI (M.mag (IntKind.i64.wrap ((1000 : Int) * Scale.vol (List.getD sc (Int.toNat (Prod.fst x)) { vol := (0 : Int), l := (0 : Int), h := (0 : Int), least := (0 : Int) }))))))))) (Enc.F eI (M.mag (M.wv (Prod.fst (Prod.snd (Prod.snd (Prod.snd x)))) (Enc.list eI (List.length (Prod.fst (Prod.snd (Prod.snd (Prod.snd (Prod.snd x)))))) (Enc.F eI (Prod.fst (Prod.snd (Prod.snd (Prod.snd (Prod.snd x))))))) * M.wv (M.sgn (IntKind.i64.wrap ((1000 : Int) * Scale.vol (List.getD sc (Int.toNat (Prod.fst x)) { vol := (0 : Int), l := (0 : Int), h := (0 : Int), least := (0 : Int) })))) (Enc.list eI (List.length (M.mag (IntKind.i64.wrap ((1000 : Int) * Scale.vol (List.getD sc (Int.toNat (Prod.fst x)) { vol := (0 : Int), l := (0 : Int), h := (0 : Int), least := (0 : Int) }))))) (Enc.F eI (M.mag (IntKind.i64.wrap ((1000 : Int) * Scale.vol (List.getD sc (Int.toNat (Prod.fst x)) { vol := (0 : Int), l := (0 : Int), h := (0 : Int), least := (0 : Int) })))))))))))))) (T.need (Enc.Is eI (List.length (M.mag (M.wv (Prod.fst (Prod.snd (Prod.snd (Prod.snd x)))) (Enc.list eI (List.length (Prod.fst (Prod.snd (Prod.snd (Prod.snd (Prod.snd x)))))) (Enc.F eI (Prod.fst (Prod.snd (Prod.snd (Prod.snd (Prod.snd x))))))) * M.wv (M.sgn (List.getD f (Int.toNat (Prod.fst x)) (0 : Int))) (Enc.list eI (List.length (M.mag (List.getD f (Int.toNat (Prod.fst x)) (0 : Int)))) (Enc.F eI (M.mag (List.getD f (Int.toNat (Prod.fst x)) (0 : Int)))))))) (Enc.F eI (M.mag (M.wv (Prod.fst (Prod.snd (Prod.snd (Prod.snd x)))) (Enc.list eI (List.length (Prod.fst (Prod.snd (Prod.snd (Prod.snd (Prod.snd x)))))) (Enc.F eI (Prod.fst (Prod.snd (Prod.snd (Prod.snd (Prod.snd x))))))) * M.wv (M.sgn (List.getD f (Int.toNat (Prod.fst x)) (0 : Int))) (Enc.list eI (List.length (M.mag (List.getD f (Int.toNat (Prod.fst x)) (0 : Int)))) (Enc.F eI (M.mag (List.getD f (Int.toNat (Prod.fst x)) (0 : Int))))))))) (T.ret (Sum.inl (IntKind.i64.wrap (Prod.fst x + (1 : Int)), M.sgn (M.wv (M.sgn (M.wv (Prod.fst (Prod.snd x)) (Enc.list eI (List.length (Prod.fst (Prod.snd (Prod.snd x)))) (Enc.F eI (Prod.fst (Prod.snd (Prod.snd x))))) * M.wv (M.sgn (List.getD f (Int.toNat (Prod.fst x)) (0 : Int))) (Enc.list eI (List.length (M.mag (List.getD f (Int.toNat (Prod.fst x)) (0 : Int)))) (Enc.F eI (M.mag (List.getD f (Int.toNat (Prod.fst x)) (0 : Int))))))) (Enc.list eI (List.length (M.mag (M.wv (Prod.fst (Prod.snd x)) (Enc.list eI (List.length (Prod.fst (Prod.snd (Prod.snd x)))) (Enc.F eI (Prod.fst (Prod.snd (Prod.snd x))))) * M.wv (M.sgn (List.getD f (Int.toNat (Prod.fst x)) (0 : Int))) (Enc.list eI (List.length (M.mag (List.getD f (Int.toNat (Prod.fst x)) (0 : Int)))) (Enc.F eI (M.mag (List.getD f (Int.toNat (Prod.fst x)) (0 : Int)))))))) (Enc.F eI (M.mag (M.wv (Prod.fst (Prod.snd x)) (Enc.list eI (List.length (Prod.fst (Prod.snd (Prod.snd x)))) (Enc.F eI (Prod.fst (Prod.snd (Prod.snd x))))) * M.wv (M.sgn (List.getD f (Int.toNat (Prod.fst x)) (0 : Int))) (Enc.list eI (List.length (M.mag (List.getD f (Int.toNat (Prod.fst x)) (0 : Int)))) (Enc.F eI (M.mag (List.getD f (Int.toNat (Prod.fst x)) (0 : Int))))))))) + M.wv (M.sgn (M.wv (Prod.fst (Prod.snd (Prod.snd (Prod.snd x)))) (Enc.list eI (List.length (Prod.fst (Prod.snd (Prod.snd (Prod.snd (Prod.snd x)))))) (Enc.F eI (Prod.fst (Prod.snd (Prod.snd (Prod.snd (Prod.snd x))))))) * M.wv (M.sgn (IntKind.i64.wrap ((1000 : Int) * Scale.vol (List.getD sc (Int.toNat (Prod.fst x)) { vol := (0 : Int), l := (0 : Int), h := (0 : Int), least := (0 : Int) })))) (Enc.list eI (List.length (M.mag (IntKind.i64.wrap ((1000 : Int) * Scale.vol (List.getD sc (Int.toNat (Prod.fst x)) { vol := (0 : Int), l := (0 : Int), h := (0 : Int), least := (0 : Int) }))))) (Enc.F eI (M.mag (IntKind.i64.wrap ((1000 : Int) * Scale.vol (List.getD sc (Int.toNat (Prod.fst x)) { vol := (0 : Int), l := (0 : Int), h := (0 : Int), least := (0 : Int) })))))))) (Enc.list eI (List.length (M.mag (M.wv (Prod.fst (Prod.snd (Prod.snd (Prod.snd x)))) (Enc.list eI (List.length (Prod.fst (Prod.snd (Prod.snd (Prod.snd (Prod.snd x)))))) (Enc.F eI (Prod.fst (Prod.snd (Prod.snd (Prod.snd (Prod.snd x))))))) * M.wv (M.sgn (IntKind.i64.wrap ((1000 : Int) * Scale.vol (List.getD sc (Int.toNat (Prod.fst x)) { vol := (0 : Int), l := (0 : Int), h := (0 : Int), least := (0 : Int) })))) (Enc.list eI (List.length (M.mag (IntKind.i64.wrap ((1000 : Int) * Scale.vol (List.getD sc (Int.toNat (Prod.fst x)) { vol := (0 : Int), l := (0 : Int), h := (0 : Int), least := (0 : Int) }))))) (Enc.F eI (M.mag (IntKind.i64.wrap ((1000 : Int) * Scale.vol (List.getD sc (Int.toNat (Prod.fst x)) { vol := (0 : Int), l := (0 : Int), h := (0 : Int), least := (0 : Int) }))))))))) (Enc.F eI (M.mag (M.wv (Prod.fst (Prod.snd (Prod.snd (Prod.snd x)))) (Enc.list eI (List.length (Prod.fst (Prod.snd (Prod.snd (Prod.snd (Prod.snd x)))))) (Enc.F eI (Prod.fst (Prod.snd (Prod.snd (Prod.snd (Prod.snd x))))))) * M.wv (M.sgn (IntKind.i64.wrap ((1000 : Int) * Scale.vol (List.getD sc (Int.toNat (Prod.fst x)) { vol := (0 : Int), l := (0 : Int), h := (0 : Int), least := (0 : Int) })))) (Enc.list eI (List.length (M.mag (IntKind.i64.wrap ((1000 : Int) * Scale.vol (List.getD sc (Int.toNat (Prod.fst x)) { vol := (0 : Int), l := (0 : Int), h := (0 : Int), least := (0 : Int) }))))) (Enc.F eI (M.mag (IntKind.i64.wrap ((1000 : Int) * Scale.vol (List.getD sc (Int.toNat (Prod.fst x)) { vol := (0 : Int), l := (0 : Int), h := (0 : Int), least := (0 : Int) }))))))))))), Enc.list eI (List.length (M.mag (M.wv (M.sgn (M.wv (Prod.fst (Prod.snd x)) (Enc.list eI (List.length (Prod.fst (Prod.snd (Prod.snd x)))) (Enc.F eI (Prod.fst (Prod.snd (Prod.snd x))))) * M.wv (M.sgn (List.getD f (Int.toNat (Prod.fst x)) (0 : Int))) (Enc.list eI (List.length (M.mag (List.getD f (Int.toNat (Prod.fst x)) (0 : Int)))) (Enc.F eI (M.mag (List.getD f (Int.toNat (Prod.fst x)) (0 : Int))))))) (Enc.list eI (List.length (M.mag (M.wv (Prod.fst (Prod.snd x)) (Enc.list eI (List.length (Prod.fst (Prod.snd (Prod.snd x)))) (Enc.F eI (Prod.fst (Prod.snd (Prod.snd x))))) * M.wv (M.sgn (List.getD f (Int.toNat (Prod.fst x)) (0 : Int))) (Enc.list eI (List.length (M.mag (List.getD f (Int.toNat (Prod.fst x)) (0 : Int)))) (Enc.F eI (M.mag (List.getD f (Int.toNat (Prod.fst x)) (0 : Int)))))))) (Enc.F eI (M.mag (M.wv (Prod.fst (Prod.snd x)) (Enc.list eI (List.length (Prod.fst (Prod.snd (Prod.snd x)))) (Enc.F eI (Prod.fst (Prod.snd (Prod.snd x))))) * M.wv (M.sgn (List.getD f (Int.toNat (Prod.fst x)) (0 : Int))) (Enc.list eI (List.length (M.mag (List.getD f (Int.toNat (Prod.fst x)) (0 : Int)))) (Enc.F eI (M.mag (List.getD f (Int.toNat (Prod.fst x)) (0 : Int))))))))) + M.wv (M.sgn (M.wv (Prod.fst (Prod.snd (Prod.snd (Prod.snd x)))) (Enc.list eI (List.length (Prod.fst (Prod.snd (Prod.snd (Prod.snd (Prod.snd x)))))) (Enc.F eI (Prod.fst (Prod.snd (Prod.snd (Prod.snd (Prod.snd x))))))) * M.wv (M.sgn (IntKind.i64.wrap ((1000 : Int) * Scale.vol (List.getD sc (Int.toNat (Prod.fst x)) { vol := (0 : Int), l := (0 : Int), h := (0 : Int), least := (0 : Int) })))) (Enc.list eI (List.length (M.mag (IntKind.i64.wrap ((1000 : Int) * Scale.vol (List.getD sc (Int.toNat (Prod.fst x)) { vol := (0 : Int), l := (0 : Int), h := (0 : Int), least := (0 : Int) }))))) (Enc.F eI (M.mag (IntKind.i64.wrap ((1000 : Int) * Scale.vol (List.getD sc (Int.toNat (Prod.fst x)) { vol := (0 : Int), l := (0 : Int), h := (0 : Int), least := (0 : Int) })))))))) (Enc.list eI (List.length (M.mag (M.wv (Prod.fst (Prod.snd (Prod.snd (Prod.snd x)))) (Enc.list eI (List.length (Prod.fst (Prod.snd (Prod.snd (Prod.snd (Prod.snd x)))))) (Enc.F eI (Prod.fst (Prod.snd (Prod.snd (Prod.snd (Prod.snd x))))))) * M.wv (M.sgn (IntKind.i64.wrap ((1000 : Int) * Scale.vol (List.getD sc (Int.toNat (Prod.fst x)) { vol := (0 : Int), l := (0 : Int), h := (0 : Int), least := (0 : Int) })))) (Enc.list eI (List.length (M.mag (IntKind.i64.wrap ((1000 : Int) * Scale.vol (List.getD sc (Int.toNat (Prod.fst x)) { vol := (0 : Int), l := (0 : Int), h := (0 : Int), least := (0 : Int) }))))) (Enc.F eI (M.mag (IntKind.i64.wrap ((1000 : Int) * Scale.vol (List.getD sc (Int.toNat (Prod.fst x)) { vol := (0 : Int), l := (0 : Int), h := (0 : Int), least := (0 : Int) }))))))))) (Enc.F eI (M.mag (M.wv (Prod.fst (Prod.snd (Prod.snd (Prod.snd x)))) (Enc.list eI (List.length (Prod.fst (Prod.snd (Prod.snd (Prod.snd (Prod.snd x)))))) (Enc.F eI (Prod.fst (Prod.snd (Prod.snd (Prod.snd (Prod.snd x))))))) * M.wv (M.sgn (IntKind.i64.wrap ((1000 : Int) * Scale.vol (List.getD sc (Int.toNat (Prod.fst x)) { vol := (0 : Int), l := (0 : Int), h := (0 : Int), least := (0 : Int) })))) (Enc.list eI (List.length (M.mag (IntKind.i64.wrap ((1000 : Int) * Scale.vol (List.getD sc (Int.toNat (Prod.fst x)) { vol := (0 : Int), l := (0 : Int), h := (0 : Int), least := (0 : Int) }))))) (Enc.F eI (M.mag (IntKind.i64.wrap ((1000 : Int) * Scale.vol (List.getD sc (Int.toNat (Prod.fst x)) { vol := (0 : Int), l := (0 : Int), h := (0 : Int), least := (0 : Int) }))))))))))))) (Enc.F eI (M.mag (M.wv (M.sgn (M.wv (Prod.fst (Prod.snd x)) (Enc.list eI (List.length (Prod.fst (Prod.snd (Prod.snd x)))) (Enc.F eI (Prod.fst (Prod.snd (Prod.snd x))))) * M.wv (M.sgn (List.getD f (Int.toNat (Prod.fst x)) (0 : Int))) (Enc.list eI (List.length (M.mag (List.getD f (Int.toNat (Prod.fst x)) (0 : Int)))) (Enc.F eI (M.mag (List.getD f (Int.toNat (Prod.fst x)) (0 : Int))))))) (Enc.list eI (List.length (M.mag (M.wv (Prod.fst (Prod.snd x)) (Enc.list eI (List.length (Prod.fst (Prod.snd (Prod.snd x)))) (Enc.F eI (Prod.fst (Prod.snd (Prod.snd x))))) * M.wv (M.sgn (List.getD f (Int.toNat (Prod.fst x)) (0 : Int))) (Enc.list eI (List.length (M.mag (List.getD f (Int.toNat (Prod.fst x)) (0 : Int)))) (Enc.F eI (M.mag (List.getD f (Int.toNat (Prod.fst x)) (0 : Int)))))))) (Enc.F eI (M.mag (M.wv (Prod.fst (Prod.snd x)) (Enc.list eI (List.length (Prod.fst (Prod.snd (Prod.snd x)))) (Enc.F eI (Prod.fst (Prod.snd (Prod.snd x))))) * M.wv (M.sgn (List.getD f (Int.toNat (Prod.fst x)) (0 : Int))) (Enc.list eI (List.length (M.mag (List.getD f (Int.toNat (Prod.fst x)) (0 : Int)))) (Enc.F eI (M.mag (List.getD f (Int.toNat (Prod.fst x)) (0 : Int))))))))) + M.wv (M.sgn (M.wv (Prod.fst (Prod.snd (Prod.snd (Prod.snd x)))) (Enc.list eI (List.length (Prod.fst (Prod.snd (Prod.snd (Prod.snd (Prod.snd x)))))) (Enc.F eI (Prod.fst (Prod.snd (Prod.snd (Prod.snd (Prod.snd x))))))) * M.wv (M.sgn (IntKind.i64.wrap ((1000 : Int) * Scale.vol (List.getD sc (Int.toNat (Prod.fst x)) { vol := (0 : Int), l := (0 : Int), h := (0 : Int), least := (0 : Int) })))) (Enc.list eI (List.length (M.mag (IntKind.i64.wrap ((1000 : Int) * Scale.vol (List.getD sc (Int.toNat (Prod.fst x)) { vol := (0 : Int), l := (0 : Int), h := (0 : Int), least := (0 : Int) }))))) (Enc.F eI (M.mag (IntKind.i64.wrap ((1000 : Int) * Scale.vol (List.getD sc (Int.toNat (Prod.fst x)) { vol := (0 : Int), l := (0 : Int), h := (0 : Int), least := (0 : Int) })))))))) (Enc.list eI (List.length (M.mag (M.wv (Prod.fst (Prod.snd (Prod.snd (Prod.snd x)))) (Enc.list eI (List.length (Prod.fst (Prod.snd (Prod.snd (Prod.snd (Prod.snd x)))))) (Enc.F eI (Prod.fst (Prod.snd (Prod.snd (Prod.snd (Prod.snd x))))))) * M.wv (M.sgn (IntKind.i64.wrap ((1000 : Int) * Scale.vol (List.getD sc (Int.toNat (Prod.fst x)) { vol := (0 : Int), l := (0 : Int), h := (0 : Int), least := (0 : Int) })))) (Enc.list eI (List.length (M.mag (IntKind.i64.wrap ((1000 : Int) * Scale.vol (List.getD sc (Int.toNat (Prod.fst x)) { vol := (0 : Int), l := (0 : Int), h := (0 : Int), least := (0 : Int) }))))) (Enc.F eI (M.mag (IntKind.i64.wrap ((1000 : Int) * Scale.vol (List.getD sc (Int.toNat (Prod.fst x)) { vol := (0 : Int), l := (0 : Int), h := (0 : Int), least := (0 : Int) }))))))))) (Enc.F eI (M.mag (M.wv (Prod.fst (Prod.snd (Prod.snd (Prod.snd x)))) (Enc.list eI (List.length (Prod.fst (Prod.snd (Prod.snd (Prod.snd (Prod.snd x)))))) (Enc.F eI (Prod.fst (Prod.snd (Prod.snd (Prod.snd (Prod.snd x))))))) * M.wv (M.sgn (IntKind.i64.wrap ((1000 : Int) * Scale.vol (List.getD sc (Int.toNat (Prod.fst x)) { vol := (0 : Int), l := (0 : Int), h := (0 : Int), least := (0 : Int) })))) (Enc.list eI (List.length (M.mag (IntKind.i64.wrap ((1000 : Int) * Scale.vol (List.getD sc (Int.toNat (Prod.fst x)) { vol := (0 : Int), l := (0 : Int), h := (0 : Int), least := (0 : Int) }))))) (Enc.F eI (M.mag (IntKind.i64.wrap ((1000 : Int) * Scale.vol (List.getD sc (Int.toNat (Prod.fst x)) { vol := (0 : Int), l := (0 : Int), h := (0 : Int), least := (0 : Int) }))))))))))))), M.sgn (M.wv (Prod.fst (Prod.snd (Prod.snd (Prod.snd x)))) (Enc.list eI (List.length (Prod.fst (Prod.snd (Prod.snd (Prod.snd (Prod.snd x)))))) (Enc.F eI (Prod.fst (Prod.snd (Prod.snd (Prod.snd (Prod.snd x))))))) * M.wv (M.sgn (List.getD f (Int.toNat (Prod.fst x)) (0 : Int))) (Enc.list eI (List.length (M.mag (List.getD f (Int.toNat (Prod.fst x)) (0 : Int)))) (Enc.F eI (M.mag (List.getD f (Int.toNat (Prod.fst x)) (0 : Int)))))), Enc.list eI (List.length (M.mag (M.wv (Prod.fst (Prod.snd (Prod.snd (Prod.snd x)))) (Enc.list eI (List.length (Prod.fst (Prod.snd (Prod.snd (Prod.snd (Prod.snd x)))))) (Enc.F eI (Prod.fst (Prod.snd (Prod.snd (Prod.snd (Prod.snd x))))))) * M.wv (M.sgn (List.getD f (Int.toNat (Prod.fst x)) (0 : Int))) (Enc.list eI (List.length (M.mag (List.getD f (Int.toNat (Prod.fst x)) (0 : Int)))) (Enc.F eI (M.mag (List.getD f (Int.toNat (Prod.fst x)) (0 : Int)))))))) (Enc.F eI (M.mag (M.wv (Prod.fst (Prod.snd (Prod.snd (Prod.snd x)))) (Enc.list eI (List.length (Prod.fst (Prod.snd (Prod.snd (Prod.snd (Prod.snd x)))))) (Enc.F eI (Prod.fst (Prod.snd (Prod.snd (Prod.snd (Prod.snd x))))))) * M.wv (M.sgn (List.getD f (Int.toNat (Prod.fst x)) (0 : Int))) (Enc.list eI (List.length (M.mag (List.getD f (Int.toNat (Prod.fst x)) (0 : Int)))) (Enc.F eI (M.mag (List.getD f (Int.toNat (Prod.fst x)) (0 : Int)))))))), PUnit.unit))))))))))))))))))))))))))))))))))))) (T.ret (Sum.inr [Ar.agg [D.int IntKind.i64 (Prod.fst (Prod.snd x)), D.sl false (List.length (Prod.fst (Prod.snd (Prod.snd x)))) (1 : Nat) (Enc.F eI (Prod.fst (Prod.snd (Prod.snd x))))], Ar.agg [D.int IntKind.i64 (Prod.fst (Prod.snd (Prod.snd (Prod.snd x)))), D.sl false (List.length (Prod.fst (Prod.snd (Prod.snd (Prod.snd (Prod.snd x)))))) (1 : Nat) (Enc.F eI (Prod.fst (Prod.snd (Prod.snd (Prod.snd (Prod.snd x))))))]]))))))))
theorem t99 (q_sc : Bool) (sc : List Scale) (new : Int) (q_f : Bool) (f : List Int) (i : Int) : runFnX Try.prog G0 (lookS [v101, v102, v159]) (fun _ => [(3, [.slot 10 (.int .i64), .blk 8 [.int .i64, .imE eI], .blk 9 [.int .i64, .imE eI]], none)]) [] 1 60 4 99 Try.f99 [.agg [.sl q_sc sc.length 4 (eSc.F sc), dI new], .c (.sl q_f f.length 1 (eI.F f)), .c (dI i)] =
    tr99 q_sc sc new q_f f i := by kernel_rfl
theorem w99 (qs : Bool) (sc : List Scale) (nw : Int) (qf : Bool) (f : List Int) (i : Int) (hl : f.length = sc.length) (h4 : f.length ≤ 4) (hi : 0 ≤ i ∧ i ≤ f.length) (hv : ∀ k, k < sc.length → 0 ≤ (sc.getD k dfS).vol ∧ (sc.getD k dfS).vol ≤ 20000) (hf : ∀ k, i.toNat ≤ k → k < f.length → 0 < f.getD k 0 ∧ f.getD k 0 ≤ 100000) :
    (tr99 qs sc nw qf f i).wp (fun rs => rsEqv rs [.agg [dI (M.sgn (M.stNum sc f i.toNat)), .sl false (M.mag (M.stNum sc f i.toNat)).length 1 (eI.F (M.mag (M.stNum sc f i.toNat)))], .agg [dI (M.sgn (M.stDen sc f i.toNat)), .sl false (M.mag (M.stDen sc f i.toNat)).length 1 (eI.F (M.mag (M.stDen sc f i.toNat)))]]) := by
  obtain ⟨j, rfl⟩ := Int.eq_ofNat_of_zero_le hi.1
  rw [Int.toNat_natCast] at hf ⊢
  unfold tr99
  simp only [Enc.list_F]
  refine ⟨by decide, by decide, by decide, by decide, Enc.is_F _ _ _, Enc.is_F _ _ _, ?_⟩
  refine ⟨fun x => ∃ (k : Nat) (N D : Int), x.1 = k ∧ j ≤ k ∧ k ≤ f.length ∧ x.2.1 = M.sgn N ∧ x.2.2.1 = M.mag N ∧ x.2.2.2.1 = M.sgn D ∧ x.2.2.2.2.1 = M.mag D ∧ StI sc f j k N D, fun x => f.length - x.1.toNat, ⟨j, 0, 1, rfl, Nat.le_refl _, by omega, rfl, rfl, rfl, rfl, ⟨Int.le_refl _, bp_pos _, by decide, by rw [bp_succ]; have := bp_pos j; omega, rfl⟩⟩, ?_⟩
  rintro ⟨k', s1, l1, s2, l2, u⟩ ⟨k, N, D, hk', hjk, hkf, e1, e2, e3, e4, hI⟩
  have hk' : k' = (k : Int) := hk'
  have e1 : s1 = M.sgn N := e1
  have e2 : l1 = M.mag N := e2
  have e3 : s2 = M.sgn D := e3
  have e4 : l2 = M.mag D := e4
  subst hk' e1 e2 e3 e4
  refine wp_br (fun hb => ?_) (fun hb => ?_)
  · have hlt := lt_of_dec hb
    have hv := hv k (by omega)
    have hf := hf k hjk hlt
    obtain ⟨p1, p2, p3⟩ := hI.step hlt hf hv
    have hw : IntKind.i64.wrap ((k : Int) + 1) = ((k + 1 : Nat) : Int) := wrap_succ (by omega)
    have hwv : IntKind.i64.wrap (1000 * (sc.getD k dfS).vol) = 1000 * (sc.getD k dfS).vol := wrap_id (by omega) (by omega)
    have hwv2 : IntKind.i64.wrap (1000 * (sc.getD k { vol := 0, l := 0, h := 0, least := 0 }).vol) = 1000 * (sc.getD k dfS).vol := hwv
    have n1 : (M.mag N).length ≤ 90000 := by have := mag_len hI.n0 hI.nb; omega
    have n2 : (M.mag D).length ≤ 90000 := by have := mag_len (Int.le_of_lt hI.d0) hI.db; omega
    have n3 : (M.mag (N * f.getD k 0)).length ≤ 90000 := by have := mag_len p1.1 p1.2; omega
    have n4 : (M.mag (D * (1000 * (sc.getD k dfS).vol))).length ≤ 90000 := by have := mag_len p2.1 p2.2; omega
    have n5 : (M.mag (f.getD k 0)).length ≤ 90000 := by have := mag_len (z := f.getD k 0) (n := 1) (by omega) (by rw [bp_one]; omega); omega
    have n6 : (M.mag (1000 * (sc.getD k dfS).vol)).length ≤ 90000 := by have := mag_len (z := 1000 * (sc.getD k dfS).vol) (n := 2) (by omega) (by rw [bp_two]; omega); omega
    dsimp only
    simp only [Int.toNat_natCast, hwv2, wv_mk]
    repeat (refine ⟨(by first | exact Enc.is_F _ _ _ | exact can_mag _ | assumption | omega), ?_⟩)
    refine ⟨⟨k + 1, _, _, hw, by omega, hlt, rfl, rfl, rfl, rfl, p3⟩, ?_⟩
    show f.length - (IntKind.i64.wrap ((k : Int) + 1)).toNat < f.length - (k : Int).toNat
    rw [hw]; omega
  · have hge := ge_of_dec hb
    obtain rfl : k = f.length := by omega
    have he := hI.e
    rw [Nat.sub_self] at he
    have hN : N = M.stNum sc f j := by unfold M.stNum; rw [← he]; rfl
    have hD : D = M.stDen sc f j := by unfold M.stDen; rw [← he]; rfl
    rw [← hN, ← hD]
    exact rsEqv_refl _
def dom99 : DomF
  | [.agg [.sl _ n_sc st_sc F_sc, .int .i64 new], .c (.sl _ n_f st_f F_f), .c (.int .i64 i)] => (match (Nat.beq st_sc 4 || Nat.beq n_sc 0) && (Nat.beq st_f 1 || Nat.beq n_f 0) with
    | true => some ([eSc.Is n_sc F_sc, eI.Is n_f F_f, (eI.list n_f F_f).length = (eSc.list n_sc F_sc).length, (eI.list n_f F_f).length ≤ 4, 0 ≤ i ∧ i ≤ (eI.list n_f F_f).length, ∀ k, k < (eSc.list n_sc F_sc).length → 0 ≤ ((eSc.list n_sc F_sc).getD k dfS).vol ∧ ((eSc.list n_sc F_sc).getD k dfS).vol ≤ 20000, ∀ k, i.toNat ≤ k → k < (eI.list n_f F_f).length → 0 < (eI.list n_f F_f).getD k 0 ∧ (eI.list n_f F_f).getD k 0 ≤ 100000], [.agg [dI (M.sgn (M.stNum (eSc.list n_sc F_sc) (eI.list n_f F_f) i.toNat)), .sl false (M.mag (M.stNum (eSc.list n_sc F_sc) (eI.list n_f F_f) i.toNat)).length 1 (eI.F (M.mag (M.stNum (eSc.list n_sc F_sc) (eI.list n_f F_f) i.toNat)))], .agg [dI (M.sgn (M.stDen (eSc.list n_sc F_sc) (eI.list n_f F_f) i.toNat)), .sl false (M.mag (M.stDen (eSc.list n_sc F_sc) (eI.list n_f F_f) i.toNat)).length 1 (eI.F (M.mag (M.stDen (eSc.list n_sc F_sc) (eI.list n_f F_f) i.toNat)))]])
    | _ => none)
  | _ => none
def v99 : Nat × Sm := (99, fokSm dom99)
theorem C99 : FOK Try.prog G0 gw 99 dom99 := by
  intro ags p r hd hp κ w xs hw hl hG hx
  unfold dom99 at hd
  split at hd
  · rename_i q_sc n_sc st_sc F_sc new q_f n_f st_f F_f i
    split at hd
    · rename_i hst
      simp only [Bool.and_eq_true] at hst
      obtain ⟨g1, g2⟩ := hst
      simp only [Option.some.injEq, Prod.mk.injEq] at hd
      obtain ⟨rfl, rfl⟩ := hd
      obtain ⟨hI_sc, hI_f, hp⟩ := hp
      have heq : agsEqv [.agg [.sl q_sc n_sc st_sc F_sc, .int .i64 new], .c (.sl q_f n_f st_f F_f), .c (.int .i64 i)] [.agg [.sl q_sc (eSc.list n_sc F_sc).length 4 (eSc.F (eSc.list n_sc F_sc)), .int .i64 new], .c (.sl q_f (eI.list n_f F_f).length 1 (eI.F (eI.list n_f F_f))), .c (.int .i64 i)] := ⟨⟨eSc.toz g1 hI_sc, rfl, trivial⟩, eI.toz g2 hI_f, Ag.eqv_refl _, trivial⟩
      have len_sc : (eSc.list n_sc F_sc).length = n_sc := eSc.list_len
      have len_f : (eI.list n_f F_f).length = n_f := eI.list_len
      generalize eSc.list n_sc F_sc = sc at *
      generalize eI.list n_f F_f = f at *
      subst len_sc len_f
      exact fokX_fin mixed gw_stable (sl := [v101, v102, v159]) ⟨S101, S102, S159, trivial⟩ Try.func99 hw hl hG hx heq rfl (t99 _ _ _ _ _ _) (w99 _ _ _ _ _ _ hp.1 hp.2.1 hp.2.2.1 hp.2.2.2.1 hp.2.2.2.2.1)
    · cases hd
  · cases hd
theorem S99 : SumOK Try.prog G0 gw 99 (fokSm dom99) := fok_sum Try.func99 rfl C99
end Go.Pl
end

section
set_option linter.unusedVariables false
set_option linter.unusedSimpArgs false
set_option maxRecDepth 100000
namespace Go.Pl
open Go.V Go.Proofs
theorem ends_at (g : Bool) (l : List Rg) (i : Nat) : (M.ends g l).getD i 0 = M.endOf g (l.getD i dfR) := by
  rcases Nat.lt_or_ge i l.length with h | h
  · exact ends_get h
  · rw [List.getD_eq_getElem?_getD, List.getElem?_eq_none (by rw [ends_len]; exact h), List.getD_eq_getElem?_getD, List.getElem?_eq_none h]
    cases g <;> rfl
theorem stG_eq (g : Bool) (sc : List Scale) (fl : List Rg) : ∀ (m i : Nat) (N D : Int), M.stG sc (M.ends g fl) m i N D = M.stN (M.endOf g) sc fl m i N D := by
  intro m
  induction m with
  | zero => intro i N D; rfl
  | succ m ih =>
    intro i N D
    simp only [M.stG, M.stN]
    rw [ends_at]
    exact ih _ _ _
theorem stN_bnd {g : Rg → Int} {sc : List Scale} {fl : List Rg} (hv : ∀ k, k < sc.length → 0 ≤ (sc.getD k dfS).vol ∧ (sc.getD k dfS).vol ≤ 20000) : ∀ (m i : Nat), i + m ≤ sc.length → (∀ k, i ≤ k → k < i + m → 0 < g (fl.getD k dfR) ∧ g (fl.getD k dfR) ≤ 100000) →
    0 ≤ (M.stN g sc fl m i 0 1).1 ∧ (M.stN g sc fl m i 0 1).1 ≤ (m : Int) * 20000000 * (M.stN g sc fl m i 0 1).2 ∧ 0 < (M.stN g sc fl m i 0 1).2 ∧ (M.stN g sc fl m i 0 1).2 ≤ bp m := by
  intro m
  induction m with
  | zero => intro i _ _; exact ⟨Int.le_refl _, by show (0 : Int) ≤ _; omega, by show (0 : Int) < 1; decide, Int.le_refl _⟩
  | succ m ih =>
    intro i him h
    obtain ⟨i1, i2, i3, i4⟩ := ih (i + 1) (by omega) fun k h1 h2 => h k (by omega) (by omega)
    have hv := hv i (by omega)
    have hy := h i (Nat.le_refl _) (by omega)
    rw [(stN_step m i).1, (stN_step m i).2]
    generalize (M.stN g sc fl m (i + 1) 0 1).1 = N at *
    generalize (M.stN g sc fl m (i + 1) 0 1).2 = D at *
    generalize g (fl.getD i dfR) = y at *
    generalize (sc.getD i dfS).vol = v at *
    have j1 : 0 ≤ 1000 * v * D := Int.mul_nonneg (by omega) (by omega)
    have j2 : 0 ≤ y * N := Int.mul_nonneg (by omega) i1
    have j3 : 0 < y * D := Int.mul_pos (by omega) i3
    have j4 : 1000 * v * D ≤ 20000000 * (y * D) := by
      have a1 : 1000 * v * D ≤ 20000000 * D := Int.mul_le_mul_of_nonneg_right (by omega) (by omega)
      have a2 : 1 * D ≤ y * D := Int.mul_le_mul_of_nonneg_right (by omega) (by omega)
      omega
    have j5 : y * N ≤ y * ((m : Int) * 20000000 * D) := Int.mul_le_mul_of_nonneg_left i2 (by omega)
    have j6 : y * ((m : Int) * 20000000 * D) = (m : Int) * 20000000 * (y * D) := by grind
    have j7 : ((m + 1 : Nat) : Int) * 20000000 * (y * D) = (m : Int) * 20000000 * (y * D) + 20000000 * (y * D) := by push_cast; grind
    have j8 : y * D ≤ 100000 * D := Int.mul_le_mul_of_nonneg_right hy.2 (by omega)
    refine ⟨by omega, by omega, j3, ?_⟩
    rw [bp_succ]
    omega
theorem st_row {sc : List Scale} {fl : List Rg} (h4 : sc.length ≤ 4) (hfl : fl.length = sc.length) (hv : ∀ k, k < sc.length → 0 ≤ (sc.getD k dfS).vol ∧ (sc.getD k dfS).vol ≤ 20000) (g : Bool) (hg : ∀ k, k < sc.length → 0 < M.endOf g (fl.getD k dfR) ∧ M.endOf g (fl.getD k dfR) ≤ 100000) {k : Nat} (hk : k < sc.length) :
    (M.mag (M.stNum sc (M.ends g fl) k)).length ≤ 80000 ∧ (M.mag (M.stDen sc (M.ends g fl) k)).length ≤ 80000 ∧ 0 < M.stDen sc (M.ends g fl) k ∧
    (M.toI (M.stNum sc (M.ends g fl) k / M.stDen sc (M.ends g fl) k) = M.stNum sc (M.ends g fl) k / M.stDen sc (M.ends g fl) k ∧ 0 ≤ M.stNum sc (M.ends g fl) k / M.stDen sc (M.ends g fl) k ∧ M.stNum sc (M.ends g fl) k / M.stDen sc (M.ends g fl) k ≤ 80000000) ∧
    (M.toI (-M.stNum sc (M.ends g fl) k / M.stDen sc (M.ends g fl) k) = -M.stNum sc (M.ends g fl) k / M.stDen sc (M.ends g fl) k ∧ -80000000 ≤ -M.stNum sc (M.ends g fl) k / M.stDen sc (M.ends g fl) k ∧ -M.stNum sc (M.ends g fl) k / M.stDen sc (M.ends g fl) k ≤ 0) := by
  have e1 : M.stNum sc (M.ends g fl) k = (M.stN (M.endOf g) sc fl (sc.length - k) k 0 1).1 := by unfold M.stNum; rw [stG_eq, ends_len, hfl]
  have e2 : M.stDen sc (M.ends g fl) k = (M.stN (M.endOf g) sc fl (sc.length - k) k 0 1).2 := by unfold M.stDen; rw [stG_eq, ends_len, hfl]
  obtain ⟨b1, b2, b3, b4⟩ := stN_bnd hv (g := M.endOf g) (fl := fl) (sc.length - k) k (by omega) (fun j h1 h2 => hg j (by omega))
  rw [← e1, ← e2] at b2
  rw [← e1] at b1
  rw [← e2] at b3 b4
  generalize M.stNum sc (M.ends g fl) k = N at *
  generalize M.stDen sc (M.ends g fl) k = D at *
  have hm : ((sc.length - k : Nat) : Int) ≤ 4 := by omega
  have b5 : N ≤ 80000000 * D := by
    have : ((sc.length - k : Nat) : Int) * 20000000 * D ≤ 80000000 * D := Int.mul_le_mul_of_nonneg_right (by omega) (by omega)
    omega
  have l1 : (M.mag D).length ≤ sc.length - k + 1 := mag_len (by omega) (by rw [bp_succ]; have := bp_pos (sc.length - k); omega)
  have l2 : (M.mag N).length ≤ sc.length - k + 1 + 1 := mag_len b1 (by rw [bp_succ, bp_succ]; have := bp_pos (sc.length - k); omega)
  have q1 : 0 ≤ N / D := Int.ediv_nonneg b1 (by omega)
  have q2 : N / D ≤ 80000000 := Int.le_trans (Int.ediv_le_ediv b3 b5) (by rw [Int.mul_ediv_cancel _ (by omega)]; exact Int.le_refl _)
  have q3 : -80000000 ≤ -N / D := (Int.le_ediv_iff_mul_le b3).2 (by omega)
  have q4 : -N / D ≤ 0 := by
    have : -N / D < 1 := (Int.ediv_lt_iff_lt_mul b3).2 (by omega)
    omega
  have ft : ∀ z : Int, -80000000 ≤ z → z ≤ 80000000 → M.toI z = z := fun z h1 h2 => toI_t (by unfold M.fits; exact decide_eq_true (by omega))
  exact ⟨by omega, by omega, b3, ⟨ft _ (by omega) q2, q1, q2⟩, ⟨ft _ q3 (by omega), q3, q4⟩⟩
def nilF : Nat → Nat → D := fun _ _ => .nilp
def k38_1 (sc : List Scale) (d : Int) := Enc.list eRg (List.length (M.flows (Enc.list eSc (List.length sc) (Enc.F eSc sc)) d)) (Enc.F eRg (M.flows (Enc.list eSc (List.length sc) (Enc.F eSc sc)) d))
def k38_7 (sc : List Scale) (d : Int) := Enc.list eI (List.length (M.ends false (k38_1 sc d))) (Enc.F eI (M.ends false (k38_1 sc d)))
def k38_8 (sc : List Scale) (d : Int) (x_1 : Int × PUnit × PUnit) := -M.wv (M.sgn (M.stNum (Enc.list eSc (List.length sc) (Enc.F eSc sc)) (k38_7 sc d) (Int.toNat (Prod.fst x_1)))) (Enc.list eI (List.length (M.mag (M.stNum (Enc.list eSc (List.length sc) (Enc.F eSc sc)) (k38_7 sc d) (Int.toNat (Prod.fst x_1))))) (Enc.F eI (M.mag (M.stNum (Enc.list eSc (List.length sc) (Enc.F eSc sc)) (k38_7 sc d) (Int.toNat (Prod.fst x_1))))))
def k38_12 (sc : List Scale) (d : Int) (x_1 : Int × PUnit × PUnit) := M.stDen (Enc.list eSc (List.length sc) (Enc.F eSc sc)) (k38_7 sc d) (Int.toNat (Prod.fst x_1))
def k38_2 (sc : List Scale) (d : Int) (x_1 : Int × PUnit × PUnit) := M.wv (M.sgn (k38_8 sc d x_1)) (Enc.list eI (List.length (M.mag (k38_8 sc d x_1))) (Enc.F eI (M.mag (k38_8 sc d x_1)))) / M.wv (M.sgn (k38_12 sc d x_1)) (Enc.list eI (List.length (M.mag (k38_12 sc d x_1))) (Enc.F eI (M.mag (k38_12 sc d x_1))))
def k38_9 (sc : List Scale) (d : Int) (y : Int × List Rg × PUnit) := -M.wv (M.sgn (M.stNum (Enc.list eSc (List.length sc) (Enc.F eSc sc)) (k38_7 sc d) (Int.toNat (Prod.fst y)))) (Enc.list eI (List.length (M.mag (M.stNum (Enc.list eSc (List.length sc) (Enc.F eSc sc)) (k38_7 sc d) (Int.toNat (Prod.fst y))))) (Enc.F eI (M.mag (M.stNum (Enc.list eSc (List.length sc) (Enc.F eSc sc)) (k38_7 sc d) (Int.toNat (Prod.fst y))))))
def k38_14 (sc : List Scale) (d : Int) (y : Int × List Rg × PUnit) := M.stDen (Enc.list eSc (List.length sc) (Enc.F eSc sc)) (k38_7 sc d) (Int.toNat (Prod.fst y))
def k38_3 (sc : List Scale) (d : Int) (y : Int × List Rg × PUnit) := M.wv (M.sgn (k38_9 sc d y)) (Enc.list eI (List.length (M.mag (k38_9 sc d y))) (Enc.F eI (M.mag (k38_9 sc d y)))) / M.wv (M.sgn (k38_14 sc d y)) (Enc.list eI (List.length (M.mag (k38_14 sc d y))) (Enc.F eI (M.mag (k38_14 sc d y))))
def k38_4 (sc : List Scale) (d : Int) := Enc.list eI (List.length (M.ends true (k38_1 sc d))) (Enc.F eI (M.ends true (k38_1 sc d)))
def k38_17 (sc : List Scale) (d : Int) (x_1 : Int × PUnit × PUnit) := M.stNum (Enc.list eSc (List.length sc) (Enc.F eSc sc)) (k38_4 sc d) (Int.toNat (Prod.fst x_1))
def k38_11 (sc : List Scale) (d : Int) (x_1 : Int × PUnit × PUnit) := M.stDen (Enc.list eSc (List.length sc) (Enc.F eSc sc)) (k38_4 sc d) (Int.toNat (Prod.fst x_1))
def k38_5 (sc : List Scale) (d : Int) (x_1 : Int × PUnit × PUnit) := M.wv (M.sgn (k38_17 sc d x_1)) (Enc.list eI (List.length (M.mag (k38_17 sc d x_1))) (Enc.F eI (M.mag (k38_17 sc d x_1)))) / M.wv (M.sgn (k38_11 sc d x_1)) (Enc.list eI (List.length (M.mag (k38_11 sc d x_1))) (Enc.F eI (M.mag (k38_11 sc d x_1))))
def k38_18 (sc : List Scale) (d : Int) (y : Int × List Rg × PUnit) := M.stNum (Enc.list eSc (List.length sc) (Enc.F eSc sc)) (k38_4 sc d) (Int.toNat (Prod.fst y))
def k38_13 (sc : List Scale) (d : Int) (y : Int × List Rg × PUnit) := M.stDen (Enc.list eSc (List.length sc) (Enc.F eSc sc)) (k38_4 sc d) (Int.toNat (Prod.fst y))
def k38_6 (sc : List Scale) (d : Int) (y : Int × List Rg × PUnit) := M.wv (M.sgn (k38_18 sc d y)) (Enc.list eI (List.length (M.mag (k38_18 sc d y))) (Enc.F eI (M.mag (k38_18 sc d y)))) / M.wv (M.sgn (k38_13 sc d y)) (Enc.list eI (List.length (M.mag (k38_13 sc d y))) (Enc.F eI (M.mag (k38_13 sc d y))))
def k38_10 (sc : List Scale) := ∀ (k : Nat), k < List.length (Enc.list eSc (List.length sc) (Enc.F eSc sc)) → (0 : Int) ≤ Scale.vol (List.getD (Enc.list eSc (List.length sc) (Enc.F eSc sc)) k dfS) ∧ Scale.vol (List.getD (Enc.list eSc (List.length sc) (Enc.F eSc sc)) k dfS) ≤ (20000 : Int)
def k38_15 (sc : List Scale) (d : Int) := Enc.Is eRg (List.length (M.flows (Enc.list eSc (List.length sc) (Enc.F eSc sc)) d)) (Enc.F eRg (M.flows (Enc.list eSc (List.length sc) (Enc.F eSc sc)) d))
def k38_16 (y : Int × List Rg × PUnit) (new : Int) (sc : List Scale) (d : Int) := joinF (List.length (Prod.fst (Prod.snd y))) (Enc.F eRg (Prod.fst (Prod.snd y))) fun (i j : Nat) => List.getD [D.int IntKind.i64 (IntKind.i64.wrap (new + M.toI (M.wv (M.sgn (k38_6 sc d y)) (Enc.list eI (List.length (M.mag (k38_6 sc d y))) (Enc.F eI (M.mag (k38_6 sc d y))))))), D.int IntKind.i64 (IntKind.i64.wrap (new - M.toI (M.wv (M.sgn (k38_3 sc d y)) (Enc.list eI (List.length (M.mag (k38_3 sc d y))) (Enc.F eI (M.mag (k38_3 sc d y)))))))] (i * (2 : Nat) + j) D.nilp
def k38_19 (new : Int) (sc : List Scale) (d : Int) (x_1 : Int × PUnit × PUnit) := joinF (0 : Nat) nilF fun (i j : Nat) => List.getD [D.int IntKind.i64 (IntKind.i64.wrap (new + M.toI (M.wv (M.sgn (k38_5 sc d x_1)) (Enc.list eI (List.length (M.mag (k38_5 sc d x_1))) (Enc.F eI (M.mag (k38_5 sc d x_1))))))), D.int IntKind.i64 (IntKind.i64.wrap (new - M.toI (M.wv (M.sgn (k38_2 sc d x_1)) (Enc.list eI (List.length (M.mag (k38_2 sc d x_1))) (Enc.F eI (M.mag (k38_2 sc d x_1)))))))] (i * (2 : Nat) + j) D.nilp
def tr38 (q_sc : Bool) (sc : List Scale) (new : Int) (d : Int) : T (List Ar) :=
    T.need (Enc.Is eSc (List.length sc) (Enc.F eSc sc)) (T.need (List.length (Enc.list eSc (List.length sc) (Enc.F eSc sc)) ≤ (100000 : Nat)) (T.loop (Int × PUnit) ((0 : Int), PUnit.unit) fun (x : Int × PUnit) => T.br (decide (Prod.fst x < (Nat.cast (R := Int) (List.length (M.flows (Enc.list eSc (List.length sc) (Enc.F eSc sc)) d))))) (T.need ((0 : Int) ≤ Prod.fst x) (T.need (Prod.fst x < (Nat.cast (R := Int) (List.length (M.flows (Enc.list eSc (List.length sc) (Enc.F eSc sc)) d)))) (T.br (Rg.lo (List.getD (M.flows (Enc.list eSc (List.length sc) (Enc.F eSc sc)) d) (Int.toNat (Prod.fst x)) { lo := (0 : Int), hi := (0 : Int) }) == (0 : Int)) (T.ret (Sum.inr [Ar.c (D.sl false (0 : Nat) (0 : Nat) nilF), Ar.c (D.int IntKind.i64 (11 : Int))])) (T.ret (Sum.inl (IntKind.i64.wrap (Prod.fst x + (1 : Int)), PUnit.unit)))))) (T.need (Enc.Is eSc (List.length sc) (Enc.F eSc sc)) (T.need (k38_15 sc d) (T.need (List.length (k38_1 sc d) ≤ List.length (Enc.list eSc (List.length sc) (Enc.F eSc sc))) (T.need (List.length (Enc.list eSc (List.length sc) (Enc.F eSc sc)) ≤ (100000 : Nat)) (T.br (decide ((0 : Int) ≤ M.over (Enc.list eSc (List.length sc) (Enc.F eSc sc)) (k38_1 sc d))) (T.ret (Sum.inr [Ar.c (D.sl false (0 : Nat) (0 : Nat) nilF), Ar.c (D.int IntKind.i64 (16 : Int))])) (T.loop2 (Int × PUnit × PUnit) (Int × List Rg × PUnit) (Sum.inl ((0 : Int), PUnit.unit, PUnit.unit)) (fun (x_1 : Int × PUnit × PUnit) => T.br (decide (Prod.fst x_1 < (Nat.cast (R := Int) (List.length (M.flows (Enc.list eSc (List.length sc) (Enc.F eSc sc)) d))))) (T.need (k38_15 sc d) (T.need (List.length (k38_1 sc d) ≤ (100000 : Nat)) (T.need (Enc.Is eSc (List.length sc) (Enc.F eSc sc)) (T.need (Enc.Is eI (List.length (M.ends true (k38_1 sc d))) (Enc.F eI (M.ends true (k38_1 sc d)))) (T.need (List.length (k38_4 sc d) = List.length (Enc.list eSc (List.length sc) (Enc.F eSc sc))) (T.need (List.length (k38_4 sc d) ≤ (4 : Nat)) (T.need ((0 : Int) ≤ Prod.fst x_1 ∧ Prod.fst x_1 ≤ (Nat.cast (R := Int) (List.length (k38_4 sc d)))) (T.need (k38_10 sc) (T.need (∀ (k : Nat), Int.toNat (Prod.fst x_1) ≤ k → k < List.length (k38_4 sc d) → (0 : Int) < List.getD (k38_4 sc d) k (0 : Int) ∧ List.getD (k38_4 sc d) k (0 : Int) ≤ (100000 : Int)) (T.need (k38_15 sc d) (T.need (List.length (k38_1 sc d) ≤ (100000 : Nat)) (T.need (Enc.Is eSc (List.length sc) (Enc.F eSc sc)) (T.need (Enc.Is eI (List.length (M.ends false (k38_1 sc d))) (Enc.F eI (M.ends false (k38_1 sc d)))) (T.need (List.length (k38_7 sc d) = List.length (Enc.list eSc (List.length sc) (Enc.F eSc sc))) (T.need (List.length (k38_7 sc d) ≤ (4 : Nat)) (T.need ((0 : Int) ≤ Prod.fst x_1 ∧ Prod.fst x_1 ≤ (Nat.cast (R := Int) (List.length (k38_7 sc d)))) (T.need (k38_10 sc) (T.need (∀ (k : Nat), Int.toNat (Prod.fst x_1) ≤ k → k < List.length (k38_7 sc d) → (0 : Int) < List.getD (k38_7 sc d) k (0 : Int) ∧ List.getD (k38_7 sc d) k (0 : Int) ≤ (100000 : Int)) (T.need (Enc.Is eI (List.length (M.mag (k38_17 sc d x_1))) (Enc.F eI (M.mag (k38_17 sc d x_1)))) (T.need (Enc.Is eI (List.length (M.mag (k38_11 sc d x_1))) (Enc.F eI (M.mag (k38_11 sc d x_1)))) (T.need (Can (M.sgn (k38_17 sc d x_1)) (Enc.list eI (List.length (M.mag (k38_17 sc d x_1))) (Enc.F eI (M.mag (k38_17 sc d x_1))))) (T.need (Can (M.sgn (k38_11 sc d x_1)) (Enc.list eI (List.length (M.mag (k38_11 sc d x_1))) (Enc.F eI (M.mag (k38_11 sc d x_1))))) (T.need (List.length (Enc.list eI (List.length (M.mag (k38_17 sc d x_1))) (Enc.F eI (M.mag (k38_17 sc d x_1)))) ≤ (80000 : Nat)) (T.need (List.length (Enc.list eI (List.length (M.mag (k38_11 sc d x_1))) (Enc.F eI (M.mag (k38_11 sc d x_1)))) ≤ (80000 : Nat)) (T.need ((0 : Int) < M.wv (M.sgn (k38_11 sc d x_1)) (Enc.list eI (List.length (M.mag (k38_11 sc d x_1))) (Enc.F eI (M.mag (k38_11 sc d x_1))))) (T.need (Enc.Is eI (List.length (M.mag (k38_5 sc d x_1))) (Enc.F eI (M.mag (k38_5 sc d x_1)))) (T.need (Can (M.sgn (k38_5 sc d x_1)) (Enc.list eI (List.length (M.mag (k38_5 sc d x_1))) (Enc.F eI (M.mag (k38_5 sc d x_1))))) (T.need (Enc.Is eI (List.length (M.mag (M.stNum (Enc.list eSc (List.length sc) (Enc.F eSc sc)) (k38_7 sc d) (Int.toNat (Prod.fst x_1))))) (Enc.F eI (M.mag (M.stNum (Enc.list eSc (List.length sc) (Enc.F eSc sc)) (k38_7 sc d) (Int.toNat (Prod.fst x_1)))))) (T.need (Can (M.sgn (M.stNum (Enc.list eSc (List.length sc) (Enc.F eSc sc)) (k38_7 sc d) (Int.toNat (Prod.fst x_1)))) (Enc.list eI (List.length (M.mag (M.stNum (Enc.list eSc (List.length sc) (Enc.F eSc sc)) (k38_7 sc d) (Int.toNat (Prod.fst x_1))))) (Enc.F eI (M.mag (M.stNum (Enc.list eSc (List.length sc) (Enc.F eSc sc)) (k38_7 sc d) (Int.toNat (Prod.fst x_1))))))) (T.need (Enc.Is eI (List.length (M.mag (k38_8 sc d x_1))) (Enc.F eI (M.mag (k38_8 sc d x_1)))) (T.need (Enc.Is eI (List.length (M.mag (k38_12 sc d x_1))) (Enc.F eI (M.mag (k38_12 sc d x_1)))) (T.need (Can (M.sgn (k38_8 sc d x_1)) (Enc.list eI (List.length (M.mag (k38_8 sc d x_1))) (Enc.F eI (M.mag (k38_8 sc d x_1))))) (T.need (Can (M.sgn (k38_12 sc d x_1)) (Enc.list eI (List.length (M.mag (k38_12 sc d x_1))) (Enc.F eI (M.mag (k38_12 sc d x_1))))) (T.need (List.length (Enc.list eI (List.length (M.mag (k38_8 sc d x_1))) (Enc.F eI (M.mag (k38_8 sc d x_1)))) ≤ (80000 : Nat)) (T.need (List.length (Enc.list eI (List.length (M.mag (k38_12 sc d x_1))) (Enc.F eI (M.mag (k38_12 sc d x_1)))) ≤ (80000 : Nat)) (T.need ((0 : Int) < M.wv (M.sgn (k38_12 sc d x_1)) (Enc.list eI (List.length (M.mag (k38_12 sc d x_1))) (Enc.F eI (M.mag (k38_12 sc d x_1))))) (T.need (Enc.Is eI (List.length (M.mag (k38_2 sc d x_1))) (Enc.F eI (M.mag (k38_2 sc d x_1)))) (T.need (Can (M.sgn (k38_2 sc d x_1)) (Enc.list eI (List.length (M.mag (k38_2 sc d x_1))) (Enc.F eI (M.mag (k38_2 sc d x_1))))) (T.need ((1 : Nat) ≤ (1000000 : Nat)) (T.need (Enc.Is eRg (1 : Nat) (k38_19 new sc d x_1)) (T.need ((1 : Nat) ≤ (1 : Nat)) (T.ret (Sum.inl (Sum.inr (IntKind.i64.wrap (Prod.fst x_1 + (1 : Int)), Enc.list eRg (1 : Nat) (k38_19 new sc d x_1), PUnit.unit))))))))))))))))))))))))))))))))))))))))))))) (T.ret (Sum.inr (Sum.inr [Ar.c (D.sl false (0 : Nat) (0 : Nat) nilF), Ar.c (D.int IntKind.i64 (0 : Int))])))) fun (y : Int × List Rg × PUnit) => T.br (decide (Prod.fst y < (Nat.cast (R := Int) (List.length (M.flows (Enc.list eSc (List.length sc) (Enc.F eSc sc)) d))))) (T.need (k38_15 sc d) (T.need (List.length (k38_1 sc d) ≤ (100000 : Nat)) (T.need (Enc.Is eSc (List.length sc) (Enc.F eSc sc)) (T.need (Enc.Is eI (List.length (M.ends true (k38_1 sc d))) (Enc.F eI (M.ends true (k38_1 sc d)))) (T.need (List.length (k38_4 sc d) = List.length (Enc.list eSc (List.length sc) (Enc.F eSc sc))) (T.need (List.length (k38_4 sc d) ≤ (4 : Nat)) (T.need ((0 : Int) ≤ Prod.fst y ∧ Prod.fst y ≤ (Nat.cast (R := Int) (List.length (k38_4 sc d)))) (T.need (k38_10 sc) (T.need (∀ (k : Nat), Int.toNat (Prod.fst y) ≤ k → k < List.length (k38_4 sc d) → (0 : Int) < List.getD (k38_4 sc d) k (0 : Int) ∧ List.getD (k38_4 sc d) k (0 : Int) ≤ (100000 : Int)) (T.need (k38_15 sc d) (T.need (List.length (k38_1 sc d) ≤ (100000 : Nat)) (T.need (Enc.Is eSc (List.length sc) (Enc.F eSc sc)) (T.need (Enc.Is eI (List.length (M.ends false (k38_1 sc d))) (Enc.F eI (M.ends false (k38_1 sc d)))) (T.need (List.length (k38_7 sc d) = List.length (Enc.list eSc (List.length sc) (Enc.F eSc sc))) (T.need (List.length (k38_7 sc d) ≤ (4 : Nat)) (T.need ((0 : Int) ≤ Prod.fst y ∧ Prod.fst y ≤ (Nat.cast (R := Int) (List.length (k38_7 sc d)))) (T.need (k38_10 sc) (T.need (∀ (k : Nat), Int.toNat (Prod.fst y) ≤ k → k < List.length (k38_7 sc d) → (0 : Int) < List.getD (k38_7 sc d) k (0 : Int) ∧ List.getD (k38_7 sc d) k (0 : Int) ≤ (100000 : Int)) (T.need (Enc.Is eI (List.length (M.mag (k38_18 sc d y))) (Enc.F eI (M.mag (k38_18 sc d y)))) (T.need (Enc.Is eI (List.length (M.mag (k38_13 sc d y))) (Enc.F eI (M.mag (k38_13 sc d y)))) (T.need (Can (M.sgn (k38_18 sc d y)) (Enc.list eI (List.length (M.mag (k38_18 sc d y))) (Enc.F eI (M.mag (k38_18 sc d y))))) (T.need (Can (M.sgn (k38_13 sc d y)) (Enc.list eI (List.length (M.mag (k38_13 sc d y))) (Enc.F eI (M.mag (k38_13 sc d y))))) (T.need (List.length (Enc.list eI (List.length (M.mag (k38_18 sc d y))) (Enc.F eI (M.mag (k38_18 sc d y)))) ≤ (80000 : Nat)) (T.need (List.length (Enc.list eI (List.length (M.mag (k38_13 sc d y))) (Enc.F eI (M.mag (k38_13 sc d y)))) ≤ (80000 : Nat)) (T.need ((0 : Int) < M.wv (M.sgn (k38_13 sc d y)) (Enc.list eI (List.length (M.mag (k38_13 sc d y))) (Enc.F eI (M.mag (k38_13 sc d y))))) (T.need (Enc.Is eI (List.length (M.mag (k38_6 sc d y))) (Enc.F eI (M.mag (k38_6 sc d y)))) (T.need (Can (M.sgn (k38_6 sc d y)) (Enc.list eI (List.length (M.mag (k38_6 sc d y))) (Enc.F eI (M.mag (k38_6 sc d y))))) (T.need (Enc.Is eI (List.length (M.mag (M.stNum (Enc.list eSc (List.length sc) (Enc.F eSc sc)) (k38_7 sc d) (Int.toNat (Prod.fst y))))) (Enc.F eI (M.mag (M.stNum (Enc.list eSc (List.length sc) (Enc.F eSc sc)) (k38_7 sc d) (Int.toNat (Prod.fst y)))))) (T.need (Can (M.sgn (M.stNum (Enc.list eSc (List.length sc) (Enc.F eSc sc)) (k38_7 sc d) (Int.toNat (Prod.fst y)))) (Enc.list eI (List.length (M.mag (M.stNum (Enc.list eSc (List.length sc) (Enc.F eSc sc)) (k38_7 sc d) (Int.toNat (Prod.fst y))))) (Enc.F eI (M.mag (M.stNum (Enc.list eSc (List.length sc) (Enc.F eSc sc)) (k38_7 sc d) (Int.toNat (Prod.fst y))))))) (T.need (Enc.Is eI (List.length (M.mag (k38_9 sc d y))) (Enc.F eI (M.mag (k38_9 sc d y)))) (T.need (Enc.Is eI (List.length (M.mag (k38_14 sc d y))) (Enc.F eI (M.mag (k38_14 sc d y)))) (T.need (Can (M.sgn (k38_9 sc d y)) (Enc.list eI (List.length (M.mag (k38_9 sc d y))) (Enc.F eI (M.mag (k38_9 sc d y))))) (T.need (Can (M.sgn (k38_14 sc d y)) (Enc.list eI (List.length (M.mag (k38_14 sc d y))) (Enc.F eI (M.mag (k38_14 sc d y))))) (T.need (List.length (Enc.list eI (List.length (M.mag (k38_9 sc d y))) (Enc.F eI (M.mag (k38_9 sc d y)))) ≤ (80000 : Nat)) (T.need (List.length (Enc.list eI (List.length (M.mag (k38_14 sc d y))) (Enc.F eI (M.mag (k38_14 sc d y)))) ≤ (80000 : Nat)) (T.need ((0 : Int) < M.wv (M.sgn (k38_14 sc d y)) (Enc.list eI (List.length (M.mag (k38_14 sc d y))) (Enc.F eI (M.mag (k38_14 sc d y))))) (T.need (Enc.Is eI (List.length (M.mag (k38_3 sc d y))) (Enc.F eI (M.mag (k38_3 sc d y)))) (T.need (Can (M.sgn (k38_3 sc d y)) (Enc.list eI (List.length (M.mag (k38_3 sc d y))) (Enc.F eI (M.mag (k38_3 sc d y))))) (T.need (List.length (Prod.fst (Prod.snd y)) + (1 : Nat) ≤ (1000000 : Nat)) (T.need (List.length (Prod.fst (Prod.snd y)) ≤ List.length (Prod.fst (Prod.snd y))) (T.need (Enc.Is eRg (List.length (Prod.fst (Prod.snd y)) + (1 : Nat)) (k38_16 y new sc d)) (T.need (List.length (Prod.fst (Prod.snd y)) + (1 : Nat) ≤ List.length (Prod.fst (Prod.snd y)) + (1 : Nat)) (T.ret (Sum.inl (Sum.inr (IntKind.i64.wrap (Prod.fst y + (1 : Int)), Enc.list eRg (List.length (Prod.fst (Prod.snd y)) + (1 : Nat)) (k38_16 y new sc d), PUnit.unit)))))))))))))))))))))))))))))))))))))))))))))) (T.need (List.length (Prod.fst (Prod.snd y)) ≤ List.length (Prod.fst (Prod.snd y))) (T.ret (Sum.inr (Sum.inr [Ar.c (D.sl true (List.length (Prod.fst (Prod.snd y))) (2 : Nat) (Enc.F eRg (Prod.fst (Prod.snd y)))), Ar.c (D.int IntKind.i64 (0 : Int))]))))))))))))
theorem t38 (q_sc : Bool) (sc : List Scale) (new : Int) (d : Int) : runFnX Try.prog G0 (lookS [v40, v114, v98, v99, v116, v115, v117]) (fun _ => [(3, [.slot 7 (.int .i64)], none), (11, [.slot 9 (.int .i64), .slot 8 .nsl], some [.slot 9 (.int .i64), .slot 8 (.rowE 61 eRg)])]) [] 1 60 4 38 Try.f38 [.agg [.sl q_sc sc.length 4 (eSc.F sc), dI new], .c (dI d)] =
    tr38 q_sc sc new d := by kernel_rfl
theorem w38 (q : Bool) (sc : List Scale) (nw d : Int) (hs : (M.checkSys sc nw).2 = 0) (hd : M.drawErr d = 0) : (tr38 q sc nw d).wp (fun rs => rsEqv rs [.c (.sl false (M.stX sc nw d).1.length 2 (eRg.F (M.stX sc nw d).1)), rI (M.stX sc nw d).2]) := by
  unfold tr38
  simp only [k38_1, k38_2, k38_3, k38_4, k38_5, k38_6, k38_7, k38_8, k38_9, k38_10, k38_11, k38_12, k38_13, k38_14, k38_15, k38_16, k38_17, k38_18, k38_19, Enc.list_F, wv_mk]
  obtain ⟨n0, n4, hnw, hr⟩ := sys_right hs
  have hfl := flows_len sc d
  have hl : sc.length ≤ 100000 := by omega
  unfold M.stX M.zeroF
  refine ⟨Enc.is_F _ _ _, hl, ?_⟩
  obtain ⟨p, hp⟩ : ∃ p : Nat → Bool, p = fun k => ((M.flows sc d).getD k dfR).lo == 0 := ⟨_, rfl⟩
  rw [← hp]
  refine range_wp (n := sc.length) (fun k _ => M.firstIdx p sc.length 0 = M.firstIdx p (sc.length - k) k) rfl ?_
  rintro k u hk hI
  refine wp_br (fun hb => ?_) (fun hb => ?_)
  · have hlt : k < sc.length := by have := lt_of_dec hb; omega
    have hs' := idx_step (p := p) hlt
    refine ⟨by show (0 : Int) ≤ k; omega, by show (k : Int) < (M.flows sc d).length; omega, wp_br (fun hx => ?_) (fun hx => ?_)⟩
    · have hx : p k = true := by rw [hp]; exact hx
      rw [hx] at hs'
      rw [hI, hs']
      show rsEqv _ [.c (.sl false (cond (decide ((k : Int) < 0)) _ ([], 11)).1.length 2 (eRg.F (cond (decide ((k : Int) < 0)) _ ([], 11)).1)), rI (cond (decide ((k : Int) < 0)) _ ([], 11)).2]
      rw [decide_eq_false (by omega)]; exact ⟨nil_eqv eRg, rfl, trivial⟩
    · have hx : p k = false := by rw [hp]; exact hx
      rw [hx] at hs'
      exact ⟨hlt, wrap_succ (by omega), hI.trans hs'⟩
  have hge := ge_of_dec hb
  obtain rfl : k = sc.length := by omega
  rw [Nat.sub_self] at hI
  rw [hI]
  have hpos : ∀ (g : Bool) (k : Nat), k < sc.length → 0 < M.endOf g ((M.flows sc d).getD k dfR) ∧ M.endOf g ((M.flows sc d).getD k dfR) ≤ 100000 := by
    intro g k hk
    have hz := idx_none sc.length 0 (by rw [hI]; show (-1 : Int) < 0; decide) k (Nat.zero_le _) (by omega)
    rw [hp] at hz
    have hz : ¬ ((M.flows sc d).getD k dfR).lo = 0 := by simpa using hz
    obtain ⟨f1, f2, f3⟩ := flows_right hs hd hk
    cases g
    · show 0 < ((M.flows sc d).getD k dfR).lo ∧ ((M.flows sc d).getD k dfR).lo ≤ 100000
      omega
    · show 0 < ((M.flows sc d).getD k dfR).hi ∧ ((M.flows sc d).getD k dfR).hi ≤ 100000
      omega
  have hv : ∀ k, k < sc.length → 0 ≤ (sc.getD k dfS).vol ∧ (sc.getD k dfS).vol ≤ 20000 := fun k hk => by have := (scale_right (hr k hk)).1; omega
  have he : ∀ (g : Bool) (j k : Nat), j ≤ k → k < (M.ends g (M.flows sc d)).length → 0 < (M.ends g (M.flows sc d)).getD k 0 ∧ (M.ends g (M.flows sc d)).getD k 0 ≤ 100000 := fun g j k _ h2 => by
    rw [ends_len, hfl] at h2
    rw [ends_at]; exact hpos g k h2
  have el : ∀ g : Bool, (M.ends g (M.flows sc d)).length = sc.length := fun g => by rw [ends_len, hfl]
  have row : ∀ k, k < sc.length → IntKind.i64.wrap (nw + M.toI (M.stNum sc (M.ends true (M.flows sc d)) k / M.stDen sc (M.ends true (M.flows sc d)) k)) = (M.stRow sc nw d k).lo ∧ IntKind.i64.wrap (nw - M.toI (-M.stNum sc (M.ends false (M.flows sc d)) k / M.stDen sc (M.ends false (M.flows sc d)) k)) = (M.stRow sc nw d k).hi := by
    intro k hk
    obtain ⟨_, _, _, ⟨t1, t2, t3⟩, _⟩ := st_row n4 hfl hv true (hpos true) hk
    obtain ⟨_, _, _, _, ⟨s1, s2, s3⟩⟩ := st_row n4 hfl hv false (hpos false) hk
    rw [t1, s1, wrap_id (by omega) (by omega), wrap_id (by omega) (by omega)]
    have a1 : M.stNum sc (M.ends true (M.flows sc d)) k = (M.stN M.gh sc (M.flows sc d) (sc.length - k) k 0 1).1 := by unfold M.stNum; rw [stG_eq, el]; rfl
    have a2 : M.stDen sc (M.ends true (M.flows sc d)) k = (M.stN M.gh sc (M.flows sc d) (sc.length - k) k 0 1).2 := by unfold M.stDen; rw [stG_eq, el]; rfl
    have a3 : M.stNum sc (M.ends false (M.flows sc d)) k = (M.stN M.gl sc (M.flows sc d) (sc.length - k) k 0 1).1 := by unfold M.stNum; rw [stG_eq, el]; rfl
    have a4 : M.stDen sc (M.ends false (M.flows sc d)) k = (M.stN M.gl sc (M.flows sc d) (sc.length - k) k 0 1).2 := by unfold M.stDen; rw [stG_eq, el]; rfl
    rw [a1, a2, a3, a4]
    exact ⟨rfl, rfl⟩
  refine ⟨Enc.is_F _ _ _, Enc.is_F _ _ _, by omega, hl, wp_br (fun hb => ?_) (fun hb => ?_)⟩
  · have hb' : decide (M.over sc (M.flows sc d) ≥ 0) = true := hb
    rw [hb']; exact ⟨nil_eqv eRg, rfl, trivial⟩
  have hb' : decide (M.over sc (M.flows sc d) ≥ 0) = false := hb
  rw [hb']
  have hW := stAll_len sc nw d
  have push : ∀ k, k < sc.length → (M.stAll sc nw d).take k ++ [M.stRow sc nw d k] = (M.stAll sc nw d).take (k + 1) := by
    intro k hk
    rw [← stAll_get hk, take_push (d := dfR) (by omega)]
  refine ⟨fun z => match z with
    | .inl x => x = ((0 : Int), PUnit.unit, PUnit.unit)
    | .inr y => ∃ k : Nat, 1 ≤ k ∧ k ≤ sc.length ∧ y.1 = k ∧ y.2.1 = (M.stAll sc nw d).take k,
    fun z => match z with | .inl _ => sc.length + 5 | .inr y => sc.length - y.1.toNat, rfl, ?_, ?_⟩
  · rintro x rfl
    refine wp_br (fun hb => ?_) (fun hb => ?_)
    · obtain ⟨r1, r2⟩ := row 0 n0
      obtain ⟨s1, s2, s3, _, _⟩ := st_row n4 hfl hv true (hpos true) n0
      obtain ⟨u1, u2, u3, _, _⟩ := st_row n4 hfl hv false (hpos false) n0
      have u1' : (M.mag (-M.stNum sc (M.ends false (M.flows sc d)) 0)).length ≤ 80000 := by rw [mag_neg]; exact u1
      obtain ⟨o1, o2⟩ := push_one eRg (F := nilF) (G := rgG (M.stRow sc nw d 0).lo (M.stRow sc nw d 0).hi) rg_push.1 rg_push.2
      have het := he true 0
      have hef := he false 0
      have elt := el true
      have elf := el false
      dsimp only
      simp only [Int.toNat_zero, r1, r2]
      iterate 38 (refine ⟨(by first | exact Enc.is_F _ _ _ | exact can_mag _ | assumption | omega), ?_⟩)
      refine ⟨by decide, o1, Nat.le_refl _, ⟨1, Nat.le_refl _, n0, rfl, o2.trans (push 0 n0)⟩, ?_⟩
      show sc.length - (1 : Int).toNat < sc.length + 5; omega
    · have : ¬ (0 : Int) < (M.flows sc d).length := of_decide_eq_false hb
      omega
  · rintro ⟨y, acc, u⟩ ⟨k, g1, g2, g3, g5⟩
    simp only at g3 g5
    subst g3
    have hacc : acc.length = k := by rw [g5, List.length_take]; omega
    have hw : IntKind.i64.wrap ((k : Int) + 1) = ((k + 1 : Nat) : Int) := wrap_succ (by omega)
    refine wp_br (fun hb => ?_) (fun hb => ?_)
    · have hlt : k < sc.length := by have := lt_of_dec hb; omega
      obtain ⟨r1, r2⟩ := row k hlt
      obtain ⟨s1, s2, s3, _, _⟩ := st_row n4 hfl hv true (hpos true) hlt
      obtain ⟨u1, u2, u3, _, _⟩ := st_row n4 hfl hv false (hpos false) hlt
      have u1' : (M.mag (-M.stNum sc (M.ends false (M.flows sc d)) k)).length ≤ 80000 := by rw [mag_neg]; exact u1
      obtain ⟨o1, o2⟩ := eRg.push (l := acc) (a := M.stRow sc nw d k) (G := rgG (M.stRow sc nw d k).lo (M.stRow sc nw d k).hi) rg_push.1 rg_push.2
      have o3 : acc ++ [M.stRow sc nw d k] = (M.stAll sc nw d).take (k + 1) := by rw [g5]; exact push k hlt
      have mu : sc.length - (IntKind.i64.wrap ((k : Int) + 1)).toNat < sc.length - (k : Int).toNat := by rw [hw]; omega
      have het := he true k
      have hef := he false k
      have elt := el true
      have elf := el false
      dsimp only
      simp only [Int.toNat_natCast, r1, r2]
      iterate 38 (refine ⟨(by first | exact Enc.is_F _ _ _ | exact can_mag _ | assumption | omega), ?_⟩)
      exact ⟨by omega, Nat.le_refl _, o1, Nat.le_refl _, ⟨k + 1, by omega, hlt, hw, o2.trans o3⟩, mu⟩
    · have hge := ge_of_dec hb
      obtain rfl : k = sc.length := by omega
      have e : acc = M.stAll sc nw d := by rw [g5, List.take_of_length_le (by omega)]
      dsimp only
      subst e
      exact ⟨Nat.le_refl _, ⟨⟨(fun e => by cases e), rfl, fun _ => rfl, fun i j hi hj => D.eqv_refl _⟩, rfl, trivial⟩⟩
def dom38 : DomF
  | [.agg [.sl _ n_sc st_sc F_sc, .int .i64 new], .c (.int .i64 d)] => (match (Nat.beq st_sc 4 || Nat.beq n_sc 0) with
    | true => some ([eSc.Is n_sc F_sc, (M.checkSys (eSc.list n_sc F_sc) new).2 = 0, M.drawErr d = 0], [.c (.sl false (M.stX (eSc.list n_sc F_sc) new d).1.length 2 (eRg.F (M.stX (eSc.list n_sc F_sc) new d).1)), rI (M.stX (eSc.list n_sc F_sc) new d).2])
    | _ => none)
  | _ => none
def v38 : Nat × Sm := (38, fokSm dom38)
theorem C38 : FOK Try.prog G0 gw 38 dom38 := by
  intro ags p r hd hp κ w xs hw hl hG hx
  unfold dom38 at hd
  split at hd
  · rename_i q_sc n_sc st_sc F_sc new d
    split at hd
    · rename_i hst
      have g1 := hst
      simp only [Option.some.injEq, Prod.mk.injEq] at hd
      obtain ⟨rfl, rfl⟩ := hd
      obtain ⟨hI_sc, hp⟩ := hp
      have heq : agsEqv [.agg [.sl q_sc n_sc st_sc F_sc, .int .i64 new], .c (.int .i64 d)] [.agg [.sl q_sc (eSc.list n_sc F_sc).length 4 (eSc.F (eSc.list n_sc F_sc)), .int .i64 new], .c (.int .i64 d)] := ⟨⟨eSc.toz g1 hI_sc, rfl, trivial⟩, Ag.eqv_refl _, trivial⟩
      have len_sc : (eSc.list n_sc F_sc).length = n_sc := eSc.list_len
      generalize eSc.list n_sc F_sc = sc at *
      subst len_sc
      exact fokX_fin mixed gw_stable (sl := [v40, v114, v98, v99, v116, v115, v117]) ⟨S40, S114, S98, S99, S116, S115, S117, trivial⟩ Try.func38 hw hl hG hx heq rfl (t38 _ _ _ _) (w38 _ _ _ _ hp.1 hp.2.1)
    · cases hd
  · cases hd
theorem S38 : SumOK Try.prog G0 gw 38 (fokSm dom38) := fok_sum Try.func38 rfl C38
end Go.Pl
end

section
set_option linter.unusedVariables false
set_option linter.unusedSimpArgs false
set_option maxRecDepth 100000
namespace Go.Pl
open Go.V Go.Proofs
namespace M
def flowsX (sc : List Scale) (nw d : Int) : List Rg × Int := cond (first [(checkSys sc nw).2, drawErr d] != 0) ([], first [(checkSys sc nw).2, drawErr d]) (flows sc d, 0)
end M
def tr34 (q_sc : Bool) (sc : List Scale) (new : Int) (d : Int) : T (List Ar) :=
    T.need (Enc.Is eSc (List.length sc) (Enc.F eSc sc)) (T.need (List.length sc ≤ (100000 : Nat)) (T.br (M.first [Prod.snd (M.checkSys (Enc.list eSc (List.length sc) (Enc.F eSc sc)) new), M.drawErr d] != (0 : Int)) (T.ret [Ar.c (D.sl false (0 : Nat) (0 : Nat) fun (x x_1 : Nat) => D.nilp), Ar.c (D.int IntKind.i64 (M.first [Prod.snd (M.checkSys (Enc.list eSc (List.length sc) (Enc.F eSc sc)) new), M.drawErr d]))]) (T.need (Enc.Is eSc (List.length sc) (Enc.F eSc (Enc.list eSc (List.length sc) (Enc.F eSc sc)))) (T.need (List.length (Enc.list eSc (List.length sc) (Enc.F eSc (Enc.list eSc (List.length sc) (Enc.F eSc sc)))) ≤ (100000 : Nat)) (T.ret [Ar.c (D.sl false (List.length (M.flows (Enc.list eSc (List.length sc) (Enc.F eSc (Enc.list eSc (List.length sc) (Enc.F eSc sc)))) d)) (2 : Nat) (Enc.F eRg (M.flows (Enc.list eSc (List.length sc) (Enc.F eSc (Enc.list eSc (List.length sc) (Enc.F eSc sc)))) d))), Ar.c (D.int IntKind.i64 (0 : Int))])))))
theorem t34 (q_sc : Bool) (sc : List Scale) (new : Int) (d : Int) : runFnX Try.prog G0 (lookS [v95, v103, v107, v108]) (fun _ => []) [] 1 60 4 34 Try.f34 [.agg [.sl q_sc sc.length 4 (eSc.F sc), dI new], .c (dI d)] =
    tr34 q_sc sc new d := by kernel_rfl
theorem w34 (q : Bool) (sc : List Scale) (nw d : Int) (hl : sc.length ≤ 100000) : (tr34 q sc nw d).wp (fun rs => rsEqv rs [.c (.sl false (M.flowsX sc nw d).1.length 2 (eRg.F (M.flowsX sc nw d).1)), rI (M.flowsX sc nw d).2]) := by
  unfold tr34 M.flowsX
  simp only [Enc.list_F]
  refine ⟨Enc.is_F _ _ _, hl, wp_br (fun hb => by rw [hb]; exact ⟨nil_eqv eRg, rfl, trivial⟩) (fun hb => ?_)⟩
  rw [hb]
  exact ⟨Enc.is_F _ _ _, hl, rsEqv_refl _⟩
def dom34 : DomF
  | [.agg [.sl _ n_sc st_sc F_sc, .int .i64 new], .c (.int .i64 d)] => (match (Nat.beq st_sc 4 || Nat.beq n_sc 0) with
    | true => some ([eSc.Is n_sc F_sc, (eSc.list n_sc F_sc).length ≤ 100000], [.c (.sl false (M.flowsX (eSc.list n_sc F_sc) new d).1.length 2 (eRg.F (M.flowsX (eSc.list n_sc F_sc) new d).1)), rI (M.flowsX (eSc.list n_sc F_sc) new d).2])
    | _ => none)
  | _ => none
def v34 : Nat × Sm := (34, fokSm dom34)
theorem C34 : FOK Try.prog G0 gw 34 dom34 := by
  intro ags p r hd hp κ w xs hw hl hG hx
  unfold dom34 at hd
  split at hd
  · rename_i q_sc n_sc st_sc F_sc new d
    split at hd
    · rename_i hst
      have g1 := hst
      simp only [Option.some.injEq, Prod.mk.injEq] at hd
      obtain ⟨rfl, rfl⟩ := hd
      obtain ⟨hI_sc, hp⟩ := hp
      have heq : agsEqv [.agg [.sl q_sc n_sc st_sc F_sc, .int .i64 new], .c (.int .i64 d)] [.agg [.sl q_sc (eSc.list n_sc F_sc).length 4 (eSc.F (eSc.list n_sc F_sc)), .int .i64 new], .c (.int .i64 d)] := ⟨⟨eSc.toz g1 hI_sc, rfl, trivial⟩, Ag.eqv_refl _, trivial⟩
      have len_sc : (eSc.list n_sc F_sc).length = n_sc := eSc.list_len
      generalize eSc.list n_sc F_sc = sc at *
      subst len_sc
      exact fokX_fin mixed gw_stable (sl := [v95, v103, v107, v108]) ⟨S95, S103, S107, S108, trivial⟩ Try.func34 hw hl hG hx heq rfl (t34 _ _ _ _) (w34 _ _ _ _ hp.1)
    · cases hd
  · cases hd
theorem S34 : SumOK Try.prog G0 gw 34 (fokSm dom34) := fok_sum Try.func34 rfl C34
end Go.Pl
end

section
set_option linter.unusedVariables false
set_option linter.unusedSimpArgs false
set_option maxRecDepth 100000
namespace Go.Pl
open Go.V Go.Proofs
def k5_1 (sc : List Scale) := Enc.list eSc ((0 : Nat) + List.length sc) (joinF (0 : Nat) (fun (i j : Nat) => List.getD [] (i * (4 : Nat) + j) D.nilp) (Enc.F eSc sc))
def k5_2 (sc : List Scale) (new : Int) (d : Int) := Prod.fst (M.stX (Enc.list eSc (List.length sc) (Enc.F eSc sc)) new d)
def tr5 (q_sc : Bool) (sc : List Scale) (new : Int) (d : Int) : T (List Ar) :=
    T.br (!true) (T.ret [Ar.c (D.bool false)]) (T.need (Enc.Is eSc (List.length sc) (Enc.F eSc sc)) (T.br (!decide ((Nat.cast (R := Int) (List.length (Enc.list eSc (List.length sc) (Enc.F eSc sc)))) ≤ (6 : Int))) (T.ret [Ar.c (D.bool true)]) (T.need ((0 : Nat) + List.length sc ≤ (1000000 : Nat)) (T.need ((0 : Nat) + List.length sc ≤ (0 : Nat) + List.length sc) (T.need (Enc.Is eSc ((0 : Nat) + List.length sc) (joinF (0 : Nat) (fun (i j : Nat) => List.getD [] (i * (4 : Nat) + j) D.nilp) (Enc.F eSc sc))) (T.need (List.length (k5_1 sc) ≤ (100000 : Nat)) (T.need ((0 : Nat) + List.length sc ≤ (1000000 : Nat)) (T.need ((0 : Nat) + List.length sc ≤ (0 : Nat) + List.length sc) (T.need (Enc.Is eSc ((0 : Nat) + List.length sc) (joinF (0 : Nat) (fun (i j : Nat) => List.getD [] (i * (4 : Nat) + j) D.nilp) (Enc.F eSc sc))) (T.need (List.length (k5_1 sc) ≤ (100000 : Nat)) (T.need ((0 : Nat) + List.length sc ≤ (1000000 : Nat)) (T.need ((0 : Nat) + List.length sc ≤ (0 : Nat) + List.length sc) (T.need (Enc.Is eSc ((0 : Nat) + List.length sc) (joinF (0 : Nat) (fun (i j : Nat) => List.getD [] (i * (4 : Nat) + j) D.nilp) (Enc.F eSc sc))) (T.need (List.length (k5_1 sc) ≤ (100000 : Nat)) (T.need (Enc.Is eSc (List.length sc) (Enc.F eSc sc)) (T.need (List.length (Enc.list eSc (List.length sc) (Enc.F eSc sc)) ≤ (100000 : Nat)) (T.br (Prod.snd (M.checkSys (k5_1 sc) new) != Prod.snd (M.checkSys (Enc.list eSc (List.length sc) (Enc.F eSc sc)) new)) (T.ret [Ar.c (D.bool false)]) (T.br (Prod.fst (M.checkSys (k5_1 sc) new) != Prod.fst (M.checkSys (Enc.list eSc (List.length sc) (Enc.F eSc sc)) new)) (T.ret [Ar.c (D.bool false)]) (T.br (Prod.snd (M.checkSys (Enc.list eSc (List.length sc) (Enc.F eSc sc)) new) == (0 : Int)) (T.br (M.drawErr d != (0 : Int)) (T.br (Prod.snd (M.flowsX (k5_1 sc) new d) == M.drawErr d) (T.br (Prod.snd (M.stRes (k5_1 sc) new d) == M.drawErr d) (T.ret [Ar.c (D.bool (IntKind.i64.wrap ((Nat.cast (R := Int) (List.length (Prod.fst (M.flowsX (k5_1 sc) new d)))) + (Nat.cast (R := Int) (List.length (Prod.fst (M.stRes (k5_1 sc) new d))))) == (0 : Int)))]) (T.ret [Ar.c (D.bool false)])) (T.ret [Ar.c (D.bool false)])) (T.need (Enc.Is eSc (List.length sc) (Enc.F eSc sc)) (T.need (Prod.snd (M.checkSys (Enc.list eSc (List.length sc) (Enc.F eSc sc)) new) = (0 : Int)) (T.need (M.drawErr d = (0 : Int)) (T.br (Prod.snd (M.flowsX (k5_1 sc) new d) == (0 : Int)) (T.need (Enc.Is eSc (List.length sc) (Enc.F eSc sc)) (T.need (List.length (Enc.list eSc (List.length sc) (Enc.F eSc sc)) ≤ (100000 : Nat)) (T.need (Enc.Is eRg (List.length (Prod.fst (M.flowsX (k5_1 sc) new d))) (Enc.F eRg (Prod.fst (M.flowsX (k5_1 sc) new d)))) (T.need (Enc.Is eRg (List.length (M.flows (Enc.list eSc (List.length sc) (Enc.F eSc sc)) d)) (Enc.F eRg (M.flows (Enc.list eSc (List.length sc) (Enc.F eSc sc)) d))) (T.need (Enc.list eRg (List.length (Prod.fst (M.flowsX (k5_1 sc) new d))) (Enc.F eRg (Prod.fst (M.flowsX (k5_1 sc) new d))) = Enc.list eRg (List.length (M.flows (Enc.list eSc (List.length sc) (Enc.F eSc sc)) d)) (Enc.F eRg (M.flows (Enc.list eSc (List.length sc) (Enc.F eSc sc)) d))) (T.need (List.length (Enc.list eRg (List.length (Prod.fst (M.flowsX (k5_1 sc) new d))) (Enc.F eRg (Prod.fst (M.flowsX (k5_1 sc) new d)))) ≤ (100000 : Nat)) (T.br true (T.br (Prod.snd (M.stRes (k5_1 sc) new d) == Prod.snd (M.stX (Enc.list eSc (List.length sc) (Enc.F eSc sc)) new d)) (T.need (Enc.Is eRg (List.length (Prod.fst (M.stRes (k5_1 sc) new d))) (Enc.F eRg (Prod.fst (M.stRes (k5_1 sc) new d)))) (T.need (Enc.Is eRg (List.length (k5_2 sc new d)) (Enc.F eRg (k5_2 sc new d))) (T.need (Enc.list eRg (List.length (Prod.fst (M.stRes (k5_1 sc) new d))) (Enc.F eRg (Prod.fst (M.stRes (k5_1 sc) new d))) = Enc.list eRg (List.length (k5_2 sc new d)) (Enc.F eRg (k5_2 sc new d))) (T.need (List.length (Enc.list eRg (List.length (Prod.fst (M.stRes (k5_1 sc) new d))) (Enc.F eRg (Prod.fst (M.stRes (k5_1 sc) new d)))) ≤ (100000 : Nat)) (T.ret [Ar.c (D.bool true)]))))) (T.ret [Ar.c (D.bool false)])) (T.ret [Ar.c (D.bool false)])))))))) (T.ret [Ar.c (D.bool false)])))))) (T.br (Prod.snd (M.checkSys (Enc.list eSc (List.length sc) (Enc.F eSc sc)) new) != (0 : Int)) (T.br (Prod.snd (M.flowsX (k5_1 sc) new d) == Prod.snd (M.checkSys (Enc.list eSc (List.length sc) (Enc.F eSc sc)) new)) (T.br (Prod.snd (M.stRes (k5_1 sc) new d) == Prod.snd (M.checkSys (Enc.list eSc (List.length sc) (Enc.F eSc sc)) new)) (T.ret [Ar.c (D.bool (IntKind.i64.wrap ((Nat.cast (R := Int) (List.length (Prod.fst (M.flowsX (k5_1 sc) new d)))) + (Nat.cast (R := Int) (List.length (Prod.fst (M.stRes (k5_1 sc) new d))))) == (0 : Int)))]) (T.ret [Ar.c (D.bool false)])) (T.ret [Ar.c (D.bool false)])) (T.need (Enc.Is eSc (List.length sc) (Enc.F eSc sc)) (T.need (Prod.snd (M.checkSys (Enc.list eSc (List.length sc) (Enc.F eSc sc)) new) = (0 : Int)) (T.need (M.drawErr d = (0 : Int)) (T.br (Prod.snd (M.flowsX (k5_1 sc) new d) == (0 : Int)) (T.need (Enc.Is eSc (List.length sc) (Enc.F eSc sc)) (T.need (List.length (Enc.list eSc (List.length sc) (Enc.F eSc sc)) ≤ (100000 : Nat)) (T.need (Enc.Is eRg (List.length (Prod.fst (M.flowsX (k5_1 sc) new d))) (Enc.F eRg (Prod.fst (M.flowsX (k5_1 sc) new d)))) (T.need (Enc.Is eRg (List.length (M.flows (Enc.list eSc (List.length sc) (Enc.F eSc sc)) d)) (Enc.F eRg (M.flows (Enc.list eSc (List.length sc) (Enc.F eSc sc)) d))) (T.need (Enc.list eRg (List.length (Prod.fst (M.flowsX (k5_1 sc) new d))) (Enc.F eRg (Prod.fst (M.flowsX (k5_1 sc) new d))) = Enc.list eRg (List.length (M.flows (Enc.list eSc (List.length sc) (Enc.F eSc sc)) d)) (Enc.F eRg (M.flows (Enc.list eSc (List.length sc) (Enc.F eSc sc)) d))) (T.need (List.length (Enc.list eRg (List.length (Prod.fst (M.flowsX (k5_1 sc) new d))) (Enc.F eRg (Prod.fst (M.flowsX (k5_1 sc) new d)))) ≤ (100000 : Nat)) (T.br true (T.br (Prod.snd (M.stRes (k5_1 sc) new d) == Prod.snd (M.stX (Enc.list eSc (List.length sc) (Enc.F eSc sc)) new d)) (T.need (Enc.Is eRg (List.length (Prod.fst (M.stRes (k5_1 sc) new d))) (Enc.F eRg (Prod.fst (M.stRes (k5_1 sc) new d)))) (T.need (Enc.Is eRg (List.length (k5_2 sc new d)) (Enc.F eRg (k5_2 sc new d))) (T.need (Enc.list eRg (List.length (Prod.fst (M.stRes (k5_1 sc) new d))) (Enc.F eRg (Prod.fst (M.stRes (k5_1 sc) new d))) = Enc.list eRg (List.length (k5_2 sc new d)) (Enc.F eRg (k5_2 sc new d))) (T.need (List.length (Enc.list eRg (List.length (Prod.fst (M.stRes (k5_1 sc) new d))) (Enc.F eRg (Prod.fst (M.stRes (k5_1 sc) new d)))) ≤ (100000 : Nat)) (T.ret [Ar.c (D.bool true)]))))) (T.ret [Ar.c (D.bool false)])) (T.ret [Ar.c (D.bool false)])))))))) (T.ret [Ar.c (D.bool false)])))))))))))))))))))))))))
theorem t5 (q_sc : Bool) (sc : List Scale) (new : Int) (d : Int) : runFnX Try.prog G0 (lookS [v15, v27, v33, v34, v35, v36, v37, v38, v39, v40]) (fun f => []) [29, 68] 1 120 5 5 Try.f5 [.agg [.sl q_sc sc.length 4 (eSc.F sc), dI new], .c (dI d)] =
    tr5 q_sc sc new d := by kernel_rfl
theorem first2_a {a b : Int} (h : a ≠ 0) : M.first [a, b] = a := by
  show cond (a != 0) a _ = a
  rw [bne_iff_ne.2 h]; rfl
theorem first2_b (b : Int) : M.first [0, b] = b := by
  show cond (b != 0) b 0 = b
  cases h : (b != 0)
  · have : b = 0 := by simpa using h
    rw [this]; rfl
  · rfl
theorem w5 (q : Bool) (sc : List Scale) (nw d : Int) : (tr5 q sc nw d).wp (fun rs => rsEqv rs [rB true]) := by
  unfold tr5
  simp only [k5_1, k5_2, Enc.list_F, Nat.zero_add, join0]
  refine br_f rfl ⟨Enc.is_F _ _ _, wp_br (fun _ => rsEqv_refl _) (fun hl => ?_)⟩
  have hl : decide ((sc.length : Int) ≤ 6) = true := by simpa using hl
  have hl := of_decide_eq_true hl
  have l1 : sc.length ≤ 100000 := by omega
  have l2 : sc.length ≤ 1000000 := by omega
  have l0 : sc.length ≤ 6 := by omega
  iterate 14 (refine ⟨(by first | exact Enc.is_F _ _ _ | exact Nat.le_refl _ | assumption | rfl | omega), ?_⟩)
  refine br_f (bne_self_eq_false _) (br_f (bne_self_eq_false _) ?_)
  by_cases hs : (M.checkSys sc nw).2 = 0
  · refine br_t (by rw [hs]; rfl) ?_
    by_cases hd : M.drawErr d = 0
    · have e1 : M.flowsX sc nw d = (M.flows sc d, 0) := by unfold M.flowsX; rw [hs, hd]; rfl
      have e2 : M.stRes sc nw d = M.stX sc nw d := by unfold M.stRes; rw [hs, hd]; rfl
      have hfl := flows_len sc d
      have fl1 : (M.flows sc d).length ≤ 100000 := by omega
      have sl1 : (M.stX sc nw d).1.length ≤ 100000 := by
        have := stAll_len sc nw d
        unfold M.stX
        cases decide (M.zeroF sc d < 0)
        · exact Nat.zero_le _
        · cases decide (M.over sc (M.flows sc d) ≥ 0)
          · show (M.stAll sc nw d).length ≤ _; omega
          · exact Nat.zero_le _
      rw [e1, e2]
      refine br_f (by rw [hd]; rfl) ?_
      iterate 3 (refine ⟨(by first | exact Enc.is_F _ _ _ | exact Nat.le_refl _ | assumption | rfl | omega), ?_⟩)
      refine br_t rfl ?_
      iterate 6 (refine ⟨(by first | exact Enc.is_F _ _ _ | exact Nat.le_refl _ | assumption | rfl | omega), ?_⟩)
      refine br_t rfl (br_t (beq_self_eq_true _) ?_)
      iterate 4 (refine ⟨(by first | exact Enc.is_F _ _ _ | exact Nat.le_refl _ | assumption | rfl | omega), ?_⟩)
      exact rsEqv_refl _
    · have f := first2_b (M.drawErr d)
      have e1 : M.flowsX sc nw d = ([], M.drawErr d) := by unfold M.flowsX; rw [hs, f, bne_iff_ne.2 hd]; rfl
      have e2 : M.stRes sc nw d = ([], M.drawErr d) := by unfold M.stRes; rw [hs, f, bne_iff_ne.2 hd]; rfl
      rw [e1, e2]
      exact br_t (bne_iff_ne.2 hd) (br_t (beq_self_eq_true _) (br_t (beq_self_eq_true _) (rsEqv_refl _)))
  · have f := first2_a (b := M.drawErr d) hs
    have e1 : M.flowsX sc nw d = ([], (M.checkSys sc nw).2) := by unfold M.flowsX; rw [f, bne_iff_ne.2 hs]; rfl
    have e2 : M.stRes sc nw d = ([], (M.checkSys sc nw).2) := by unfold M.stRes; rw [f, bne_iff_ne.2 hs]; rfl
    rw [e1, e2]
    exact br_f (by simpa using hs) (br_t (bne_iff_ne.2 hs) (br_t (beq_self_eq_true _) (br_t (beq_self_eq_true _) (rsEqv_refl _))))
def dom5 : DomF
  | [.agg [.sl _ n_sc st_sc F_sc, .int .i64 new], .c (.int .i64 d)] => (match Nat.beq st_sc 4 with
    | true => some ([eSc.Is n_sc F_sc], [rB true])
    | _ => none)
  | _ => none
theorem C5 : FOK Try.prog G0 gw 5 dom5 := by
  intro ags p r hd hp κ w xs hw hl hG hx
  unfold dom5 at hd
  split at hd
  · rename_i q_sc n_sc st_sc F_sc new d
    split at hd
    · rename_i hst
      have g1 := hst
      have g1 := Nat.eq_of_beq_eq_true g1
      subst g1
      simp only [Option.some.injEq, Prod.mk.injEq] at hd
      obtain ⟨rfl, rfl⟩ := hd
      obtain ⟨hI_sc, hp⟩ := hp
      have heq : agsEqv [.agg [.sl q_sc n_sc 4 F_sc, .int .i64 new], .c (.int .i64 d)] [.agg [.sl q_sc (eSc.list n_sc F_sc).length 4 (eSc.F (eSc.list n_sc F_sc)), .int .i64 new], .c (.int .i64 d)] := ⟨⟨eSc.to id hI_sc, rfl, trivial⟩, Ag.eqv_refl _, trivial⟩
      have len_sc : (eSc.list n_sc F_sc).length = n_sc := eSc.list_len
      generalize eSc.list n_sc F_sc = sc at *
      subst len_sc
      exact fokX_fin mixed gw_stable (sl := [v15, v27, v33, v34, v35, v36, v37, v38, v39, v40]) ⟨S15, S27, S33, S34, S35, S36, S37, S38, S39, S40, trivial⟩ Try.func5 hw hl hG hx heq rfl (t5 _ _ _ _) (w5 _ _ _ _)
    · cases hd
  · cases hd
end Go.Pl
end

section
set_option linter.unusedVariables false
set_option linter.unusedSimpArgs false
namespace Go.Rw
open Go Go.ChangeShapes Go.WideShapes Go.RowKit Go.ChangeAt
open Go.V (F2 D fullK fullK_cell f2_append f2_len f2_get)
section
variable {H : Type} {enc : TypeId × Value → H} {P : Program} {w : World} {base : Nat} {sp : Nat → Bool} {hd : Bool}
theorem trodAll_below (hl : laidOutB P = true) {W W' : World} (hb : Below W.heap.size W W') : ∀ {ts : List TypeId} {vs : List Value} {ds : List (DataW H)} {ps : List MemPlace},
    (∀ t ∈ ts, P.readableRec t = true ∧ t < P.types.size) → DataW.TrodAll enc P W 0 (fun _ => true) true ts vs ds ps → (∀ x ∈ ps, x.block < W.heap.size) →
    DataW.TrodAll enc P W' 0 (fun b => decide (b < W.heap.size)) true ts vs ds ps
  | [], _, _, _, _, h, _ => by
    obtain ⟨rfl, rfl, rfl⟩ := trodAll_nil h
    exact trodAll_mk0
  | t :: ts, _, _, _, hr, h, hlt => by
    obtain ⟨v, vs1, d, ds1, a, b, rfl, rfl, rfl, h1, h2⟩ := trodAll_cons h
    refine ⟨a, b, ?_, trodAll_below hl hb (fun u hu => hr u (List.mem_cons_of_mem _ hu)) h2 fun x hx => hlt x (List.mem_append_right _ hx), rfl⟩
    have ht := hr t (List.mem_cons_self ..)
    exact Below.trod hl ht.1 ht.2 h1 hb fun x hx => hlt x (List.mem_append_left _ hx)
theorem law_post {fn : Func} {s : ChangeSpec} {apart fresh handsOn : Bool} {W W' : World} {args : Array Value} {ds gs : List (DataW H)} {before : List MemPlace} {tb : TypeId} (hl : laidOutB P = true)
    (hr : ∀ t ∈ fn.params.toList, P.readableRec t = true ∧ t < P.types.size) (hv : s.vars = []) (hrt : fn.resultTypes = #[tb]) (hbool : P.underlying tb = some .bool)
    (hfn : s.fn H ds = { results := [.lit (.bool true)], args := ds })
    (hW : DataW.Whole enc P fn.params.toList s.vars apart W args.toList ds gs before) (hb : Below W.heap.size W W') : s.post enc P fn apart fresh handsOn false W args (.bool true) W' := by
  have hW' := hW
  obtain ⟨p, q, hA, hV, rfl, _, _⟩ := hW'
  have hlt : ∀ x ∈ p ++ q, x.block < W.heap.size := fun x hx => hW.lt x hx
  rw [hv] at hV
  have hgs : gs = [] ∧ q = [] := by
    cases gs with
    | nil => exact ⟨rfl, hV⟩
    | cons g r => exact absurd hV (by intro h; cases h)
  obtain ⟨rfl, rfl⟩ := hgs
  have e : s.fn H (ds ++ []) = { results := [.lit (.bool true)], args := ds } := by rw [List.append_nil]; exact hfn
  refine ⟨ds, [], _, [], p, [], hW, ?_, ?_, ?_, hb.frame _, fun h => by cases h⟩
  · rw [e, hrt]
    exact trodAll_mk1 (shut_bool hbool true)
  · rw [e]
    exact trodAll_below hl hb hr hA fun x hx => hlt x (List.mem_append_left _ hx)
  · rw [e, hv]
    rfl
end
end Go.Rw
end

section
set_option linter.unusedVariables false
set_option linter.unusedSimpArgs false
namespace Go.Rw
open Go Go.ChangeShapes Go.WideShapes Go.RowKit Go.ChangeAt
open Go.V (F2 D fullK fullK_cell f2_append f2_len f2_get)
inductive SK where
  | i
  | s
  | sl (sh : List SK)
inductive DG : SK → D → Prop where
  | i (n : Int) : DG .i (.int .i64 n)
  | s (t : ByteArray) : DG .s (.str t)
  | sl (sh : List SK) (len : Nat) (F : Nat → Nat → D) (h : ∀ i j k, i < len → sh[j]? = some k → DG k (F i j)) : DG (.sl sh) (.sl false len sh.length F)
def MG (w : World) (k : SK) (v : Value) : Prop := ∃ d, DG k d ∧ D.rel (fullK w) d v
def sgFs (P : Program) (g : TypeId → Option (List SK)) : List Field → Nat → Nat → Option (List SK)
  | [], o, c => (match Nat.beq o c with | true => some [] | false => none)
  | f :: fs, o, c => (match Nat.beq f.offset o, g f.type, sgFs P g fs (o + P.cellsOf f.type) c with
    | true, some a, some b => some (a ++ b)
    | _, _, _ => none)
def sgArr (l : List SK) : Nat → List SK
  | 0 => []
  | n + 1 => l ++ sgArr l n
def sg (P : Program) : Nat → TypeId → Option (List SK)
  | 0, _ => none
  | k + 1, t => match P.underlying t with
    | some (.int .i64) => some [.i]
    | some .string => some [.s]
    | some (.struct fs) => sgFs P (sg P k) fs.toList 0 (P.cellsOf t)
    | some (.array n e) => (match sg P k e, Nat.beq (P.cellsOf t) (n * P.cellsOf e) with | some l, true => some (sgArr l n) | _, _ => none)
    | some (.slice e) => (match sg P k e with | some sh => (match Nat.beq (P.cellsOf e) sh.length && Nat.blt 0 sh.length with | true => some [.sl sh] | false => none) | none => none)
    | _ => none
section
variable {H : Type} {enc : TypeId × Value → H} {P : Program} {w : World} {base : Nat} {sp : Nat → Bool} {hd : Bool}
theorem sgFs_spec {R : SK → Value → Prop} {g : TypeId → Option (List SK)} : ∀ (fs : List Field) (o c : Nat) (cs : List Value) {l : List SK}, sgFs P g fs o c = some l → cs.length = c →
    (∀ f ∈ fs, ∀ l', g f.type = some l' → F2 R l' ((cs.drop f.offset).take (P.cellsOf f.type))) → F2 R l (cs.drop o)
  | [], o, c, cs, l, h, hl, _ => by
    unfold sgFs at h
    split at h
    · rename_i hb
      have : o = c := Nat.eq_of_beq_eq_true hb
      simp only [Option.some.injEq] at h
      subst h
      rw [this, ← hl, List.drop_length]
      exact .nil
    · cases h
  | f :: fs, o, c, cs, l, h, hl, hf => by
    simp only [sgFs] at h
    split at h
    · rename_i a b hb ha hrest
      have ho : f.offset = o := Nat.eq_of_beq_eq_true hb
      simp only [Option.some.injEq] at h
      subst h
      have h1 := hf f (List.mem_cons_self ..) a ha
      have h2 := sgFs_spec fs _ c cs hrest hl fun g hg => hf g (List.mem_cons_of_mem _ hg)
      rw [ho] at h1
      have e : cs.drop o = (cs.drop o).take (P.cellsOf f.type) ++ (cs.drop o).drop (P.cellsOf f.type) := (List.take_append_drop _ _).symm
      rw [e, List.drop_drop]
      exact f2_append h1 h2
    · cases h
theorem sgArr_spec {R : SK → Value → Prop} {l : List SK} {c : Nat} : ∀ (n : Nat) (cs : List Value), cs.length = n * c → (∀ i, i < n → F2 R l ((cs.drop (i * c)).take c)) → F2 R (sgArr l n) cs
  | 0, cs, h, _ => by
    have : cs = [] := List.length_eq_zero_iff.1 (by simpa using h)
    subst this
    exact .nil
  | n + 1, cs, h, hf => by
    have h0 := hf 0 (by omega)
    rw [Nat.zero_mul, List.drop_zero] at h0
    have hr := sgArr_spec (c := c) n (cs.drop c) (by rw [List.length_drop, h, Nat.succ_mul]; omega) fun i hi => by
      have := hf (i + 1) (by omega)
      rw [List.drop_drop, show c + i * c = (i + 1) * c by rw [Nat.succ_mul]; omega]
      exact this
    rw [← List.take_append_drop c cs]
    exact f2_append h0 hr
theorem trod_sg : ∀ (k fuel : Nat) (t : TypeId) (cs : List Value) (x : DataW H × List MemPlace) {l : List SK}, sg P k t = some l → DataW.trod enc P w base sp hd fuel t cs = some x → F2 (MG w) l cs
  | 0, _, _, _, _, _, h, _ => by cases h
  | k + 1, fuel, t, cs, x, l, h, hx => by
    unfold sg at h
    split at h
    · rename_i ht
      simp only [Option.some.injEq] at h
      subst h
      obtain ⟨n, rfl, rfl, _⟩ := DataW.trod_int ht hx
      exact .cons ⟨.int .i64 n, .i n, rfl⟩ .nil
    · rename_i ht
      simp only [Option.some.injEq] at h
      subst h
      obtain ⟨s, rfl, rfl, _⟩ := DataW.trod_string ht hx
      exact .cons ⟨.str s, .s s, rfl⟩ .nil
    · rename_i fs ht
      obtain ⟨xs, n, _, rfl, hl, hlen, hf⟩ := DataW.trod_struct ht hx
      have := sgFs_spec (P := P) (R := MG w) fs.toList 0 (P.cellsOf t) cs h hl (by
        intro f hm l' hl'
        obtain ⟨i, hi, hi'⟩ := List.getElem_of_mem hm
        have hgi : fs[i]? = some f := by rw [← Array.getElem?_toList, List.getElem?_eq_getElem hi, hi']
        have hlt : i < xs.length := by rw [hlen]; exact (Array.getElem?_eq_some_iff.1 hgi).1
        have hy : xs[i]? = some xs[i] := List.getElem?_eq_getElem hlt
        have := hf i f hgi
        rw [hy] at this
        exact trod_sg k n f.type _ _ hl' this)
      simpa using this
    · rename_i n e ht
      split at h
      · rename_i l' hl' hcb
        simp only [Option.some.injEq] at h
        subst h
        obtain ⟨xs, m, _, ex, hlen, hl, hel⟩ := DataW.trod_array ht hx
        have hcz : P.cellsOf t = n * P.cellsOf e := Nat.eq_of_beq_eq_true hcb
        refine sgArr_spec (c := P.cellsOf e) n cs (by rw [← hcz]; exact hlen) fun i hi => ?_
        have hlt : i < xs.length := by omega
        have hy : xs[i]? = some xs[i] := List.getElem?_eq_getElem hlt
        have := hel i hi
        rw [hy] at this
        exact trod_sg k m e _ _ hl' this
      · cases h
    · rename_i e ht
      split at h
      · rename_i sh hsh
        split at h
        · rename_i hc
          simp only [Option.some.injEq] at h
          subst h
          rw [Bool.and_eq_true] at hc
          have hn : P.cellsOf e = sh.length := Nat.eq_of_beq_eq_true hc.1
          have hn0 : 0 < sh.length := Nat.le_of_ble_eq_true hc.2
          rcases DataW.trod_slice ht hx with ⟨h1, _⟩ | ⟨a, len0, cap0, elems, rest, n', _, h1, _, _, hlc, _, hel, hget, _⟩
          · rw [h1]
            exact .cons ⟨.sl false 0 sh.length (fun _ _ => .nilp), .sl sh 0 _ (fun i j k hi => by omega), .inl ⟨rfl, rfl, rfl⟩⟩ .nil
          · rw [h1]
            rw [hn] at hget
            have each : ∀ i, i < len0 → ∀ j, j < sh.length → ∃ d, (∀ k', sh[j]? = some k' → DG k' d) ∧ ∃ y, w.cell? ((a.add (i * sh.length)).add j) = some y ∧ D.rel (fullK w) d y := by
              intro i hi j hj
              have hg := hget i hi
              have hlt : i < elems.length := by omega
              rw [List.getElem?_eq_getElem hlt] at hg
              simp only [Option.bind_eq_some_iff] at hg
              obtain ⟨cs, hcs, hx⟩ := hg
              have hF := trod_sg k n' e cs _ hsh hx
              obtain ⟨_, hl, hcell⟩ := World.cells?_some hcs
              obtain ⟨y, hy, hm⟩ := f2_get hF (i := j) (List.getElem?_eq_getElem hj)
              obtain ⟨d, hd1, hd2⟩ := hm
              have hcj := hcell j hj
              exact ⟨d, fun k' hk' => by rw [List.getElem?_eq_getElem hj] at hk'; cases hk'; exact hd1, y, by rw [hcj, hy], hd2⟩
            have spot0 : 0 < len0 → a.spot = none := by
              intro hp
              obtain ⟨_, _, y, hy, _⟩ := each 0 hp 0 hn0
              have := World.cell?_spot hy
              simpa [Addr.add] using this
            refine .cons ⟨.sl false len0 sh.length (fun i j => if h : i < len0 ∧ j < sh.length then Classical.choose (each i h.1 j h.2) else .nilp), .sl sh len0 _ (fun i j k' hi hk' => ?_), .inr ⟨a, cap0, rfl, hlc, spot0, fun i j hi hj => ?_⟩⟩ .nil
            · have hj : j < sh.length := (List.getElem?_eq_some_iff.1 hk').1
              simp only [dif_pos (And.intro hi hj)]
              exact (Classical.choose_spec (each i hi j hj)).1 k' hk'
            · obtain ⟨_, y, hy, hr⟩ := Classical.choose_spec (each i hi j hj)
              have hp : a.spot = none := spot0 (by omega)
              have e1 : (a.add (i * sh.length)).add j = ⟨a.block, a.off + i * sh.length + j, none⟩ := by
                obtain ⟨b, off, spot⟩ := a
                simp only at hp
                subst hp
                rw [Go.WideShapes.add_plain, Go.WideShapes.add_plain]
              rw [e1] at hy
              refine ⟨_, fullK_cell hy, ?_⟩
              simp only [dif_pos (And.intro hi hj)]
              exact hr
        · cases h
      · cases h
    · cases h
theorem open_st {r : Reach} {b0 : Nat} {t : TypeId} {fs : Array Field} {v : Value} {d : DataW H} {p : List MemPlace} (k : Nat) {l : List SK} (ht : P.underlying t = some (.struct fs)) (ha : sg P k t = some l)
    (hv : Value.okWide P w r b0 t v) (h : DataW.Trod enc P w base sp hd t v d p) : ∃ cs : List Value, F2 (MG w) l cs ∧ v = .agg cs.toArray := by
  obtain ⟨cs, rfl, hsz⟩ := okWide_struct ht hv
  obtain ⟨fuel, hf⟩ := h
  have hF : F2 (MG w) l cs.toList := trod_sg k fuel t _ _ ha hf
  exact ⟨cs.toList, hF, by rw [Array.toArray_toList]⟩
theorem mg_i {v : Value} (h : MG w .i v) : ∃ n, v = .int .i64 n := by
  obtain ⟨d, hd, hr⟩ := h
  cases hd with
  | i n => exact ⟨n, hr⟩
theorem mg_sl {sh : List SK} {v : Value} (h : MG w (.sl sh) v) : ∃ (len : Nat) (F : Nat → Nat → D), (D.sl false len sh.length F).rel (fullK w) v ∧ ∀ i j k, i < len → sh[j]? = some k → DG k (F i j) := by
  obtain ⟨d, hd, hr⟩ := h
  cases hd with
  | sl _ len F hF => exact ⟨len, F, hr, hF⟩
theorem dg_i {d : D} (h : DG .i d) : ∃ n, d = .int .i64 n := by cases h with | i n => exact ⟨n, rfl⟩
theorem dg_s {d : D} (h : DG .s d) : ∃ n, d = .str n := by cases h with | s n => exact ⟨n, rfl⟩
theorem dg_sl {sh : List SK} {d : D} (h : DG (.sl sh) d) : ∃ (len : Nat) (F : Nat → Nat → D), d = .sl false len sh.length F ∧ ∀ i j k, i < len → sh[j]? = some k → DG k (F i j) := by
  cases h with
  | sl _ len F hF => exact ⟨len, F, rfl, hF⟩
end
end Go.Rw
end
