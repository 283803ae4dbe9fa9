/- The parts of the engines, of their contracts and of the plain laws that the claim rests on: A65, A66, A67, A57, A68, A69, A70, A71, A72, A73, A74, A75, R0, RG. -/
import Derived.Test.YtmlcblciegeniaaFW5
import Derived.ChangeSame
import Derived.ChangeVars
import Derived.ProofKit
import Derived.LaidMore
import Derived.OpenShut
import Derived.Carry
import Derived.ChangeArms
set_option linter.unusedVariables false
set_option linter.unusedSimpArgs false
section
set_option linter.unusedVariables false
set_option linter.unusedSimpArgs false
set_option maxRecDepth 100000
namespace Go.Pl
open Go.V Go.Proofs
theorem wv_mk (z : Int) : M.wv (M.sgn z) (M.mag z) = z := mk_val z
theorem can_mag (z : Int) : Can (M.sgn z) (M.mag z) := can_mk z
theorem mag_neg (z : Int) : M.mag (-z) = M.mag z := by unfold M.mag; rw [Int.natAbs_neg]
theorem can_eq {s : Int} {l : List Int} (h : Can s l) : s = M.sgn (M.wv s l) ∧ l = M.mag (M.wv s l) := can_wv h
theorem val_mag (z : Int) : val (M.mag z) = (z.natAbs : Int) := val_dig (by omega)
def tr160 (sga : Int) (q_dia : Bool) (dia : List Int) (sgb : Int) (q_dib : Bool) (dib : List Int) : T (List Ar) :=
    T.need (iI dib) (T.need (Can sgb (cI dib)) (T.need (iI dia) (T.need (Enc.Is eI (List.length (M.mag (-M.wv sgb (cI dib)))) (Enc.F eI (M.mag (-M.wv sgb (cI dib))))) (T.need (Can sga (cI dia)) (T.need (Can (M.sgn (-M.wv sgb (cI dib))) (Enc.list eI (List.length (M.mag (-M.wv sgb (cI dib)))) (Enc.F eI (M.mag (-M.wv sgb (cI dib)))))) (T.need (List.length (cI dia) ≤ (90000 : Nat)) (T.need (List.length (Enc.list eI (List.length (M.mag (-M.wv sgb (cI dib)))) (Enc.F eI (M.mag (-M.wv sgb (cI dib))))) ≤ (90000 : Nat)) (T.ret [Ar.agg [D.int IntKind.i64 (M.sgn (M.wv sga (cI dia) + M.wv (M.sgn (-M.wv sgb (cI dib))) (Enc.list eI (List.length (M.mag (-M.wv sgb (cI dib)))) (Enc.F eI (M.mag (-M.wv sgb (cI dib))))))), D.sl false (List.length (M.mag (M.wv sga (cI dia) + M.wv (M.sgn (-M.wv sgb (cI dib))) (Enc.list eI (List.length (M.mag (-M.wv sgb (cI dib)))) (Enc.F eI (M.mag (-M.wv sgb (cI dib)))))))) (1 : Nat) (Enc.F eI (M.mag (M.wv sga (cI dia) + M.wv (M.sgn (-M.wv sgb (cI dib))) (Enc.list eI (List.length (M.mag (-M.wv sgb (cI dib)))) (Enc.F eI (M.mag (-M.wv sgb (cI dib))))))))]]))))))))
theorem t160 (sga : Int) (q_dia : Bool) (dia : List Int) (sgb : Int) (q_dib : Bool) (dib : List Int) : runFnX Try.prog G0 (lookS [v117, v159]) (fun _ => []) [] 1 60 4 160 Try.f160 [.agg [dI sga, .sl q_dia dia.length 1 (eI.F dia)], .agg [dI sgb, .sl q_dib dib.length 1 (eI.F dib)]] =
    tr160 sga q_dia dia sgb q_dib dib := by kernel_rfl
theorem w160 (s : Int) (qa : Bool) (a : List Int) (t : Int) (qb : Bool) (b : List Int) (hs : Can s a) (ht : Can t b) (hx : a.length ≤ 90000) (hy : b.length ≤ 90000) : (tr160 s qa a t qb b).wp (fun rs => rsEqv rs [.agg [dI (M.sgn (M.wv s a - M.wv t b)), .sl false (M.mag (M.wv s a - M.wv t b)).length 1 (eI.F (M.mag (M.wv s a - M.wv t b)))]]) := by
  unfold tr160
  have e := (can_eq ht).2
  have e2 : M.mag (-M.wv t b) = b := by rw [mag_neg]; exact e.symm
  have e3 : M.wv (M.sgn (-M.wv t b)) b = -M.wv t b := by
    conv => lhs; arg 2; rw [← e2]
    exact wv_mk _
  have e4 : Can (M.sgn (-M.wv t b)) b := by
    have := can_mag (-M.wv t b)
    rwa [e2] at this
  simp only [cI, iI, Enc.list_F, e2, e3, ← Int.sub_eq_add_neg]
  exact ⟨Enc.is_F _ _ _, ht, Enc.is_F _ _ _, Enc.is_F _ _ _, hs, e4, hx, hy, rsEqv_refl _⟩
def dom160 : DomF
  | [.agg [.int .i64 sga, .sl _ n_dia st_dia F_dia], .agg [.int .i64 sgb, .sl _ n_dib st_dib F_dib]] => (match (Nat.beq st_dia 1 || Nat.beq n_dia 0) && (Nat.beq st_dib 1 || Nat.beq n_dib 0) with
    | true => some ([eI.Is n_dia F_dia, eI.Is n_dib F_dib, Can sga (eI.list n_dia F_dia), Can sgb (eI.list n_dib F_dib), (eI.list n_dia F_dia).length ≤ 90000, (eI.list n_dib F_dib).length ≤ 90000], [.agg [dI (M.sgn (M.wv sga (eI.list n_dia F_dia) - M.wv sgb (eI.list n_dib F_dib))), .sl false (M.mag (M.wv sga (eI.list n_dia F_dia) - M.wv sgb (eI.list n_dib F_dib))).length 1 (eI.F (M.mag (M.wv sga (eI.list n_dia F_dia) - M.wv sgb (eI.list n_dib F_dib))))]])
    | _ => none)
  | _ => none
def v160 : Nat × Sm := (160, fokSm dom160)
theorem C160 : FOK Try.prog G0 gw 160 dom160 := by
  intro ags p r hd hp κ w xs hw hl hG hx
  unfold dom160 at hd
  split at hd
  · rename_i sga q_dia n_dia st_dia F_dia sgb q_dib n_dib st_dib F_dib
    split at hd
    · rename_i hst
      simp only [Bool.and_eq_true] at hst
      obtain ⟨g1, g2⟩ := hst
      simp only [Option.some.injEq, Prod.mk.injEq] at hd
      obtain ⟨rfl, rfl⟩ := hd
      obtain ⟨hI_dia, hI_dib, hp⟩ := hp
      have heq : agsEqv [.agg [.int .i64 sga, .sl q_dia n_dia st_dia F_dia], .agg [.int .i64 sgb, .sl q_dib n_dib st_dib F_dib]] [.agg [.int .i64 sga, .sl q_dia (eI.list n_dia F_dia).length 1 (eI.F (eI.list n_dia F_dia))], .agg [.int .i64 sgb, .sl q_dib (eI.list n_dib F_dib).length 1 (eI.F (eI.list n_dib F_dib))]] := ⟨⟨rfl, eI.toz g1 hI_dia, trivial⟩, ⟨rfl, eI.toz g2 hI_dib, trivial⟩, trivial⟩
      have len_dia : (eI.list n_dia F_dia).length = n_dia := eI.list_len
      have len_dib : (eI.list n_dib F_dib).length = n_dib := eI.list_len
      generalize eI.list n_dia F_dia = dia at *
      generalize eI.list n_dib F_dib = dib at *
      subst len_dia len_dib
      exact fokX_fin mixed gw_stable (sl := [v117, v159]) ⟨S117, S159, trivial⟩ Try.func160 hw hl hG hx heq rfl (t160 _ _ _ _ _ _) (w160 _ _ _ _ _ _ hp.1 hp.2.1 hp.2.2.1 hp.2.2.2.1)
    · cases hd
  · cases hd
theorem S160 : SumOK Try.prog G0 gw 160 (fokSm dom160) := fok_sum Try.func160 rfl C160
theorem bp_add (n m : Nat) : bp (n + m) = bp n * bp m := by
  induction n with
  | zero => rw [Nat.zero_add]; show bp m = 1 * bp m; omega
  | succ n ih => rw [Nat.succ_add, bp_succ, bp_succ, ih, Int.mul_assoc]
theorem val_set : ∀ {l : List Int} {i : Nat} {x : Int}, i < l.length → val (l.set i x) = val l + bp i * (x - l.getD i 0) := by
  intro l
  induction l with
  | nil => intro i x h; exact absurd h (Nat.not_lt_zero i)
  | cons d l ih =>
    intro i x h
    cases i with
    | zero =>
      show x + 1000000000 * val l = d + 1000000000 * val l + 1 * (x - d)
      omega
    | succ i =>
      have := ih (x := x) (Nat.lt_of_succ_lt_succ h)
      show d + 1000000000 * val (l.set i x) = d + 1000000000 * val l + (1000000000 : Int) * bp i * (x - l.getD i 0)
      rw [this, Int.mul_add, Int.mul_assoc]; omega
theorem dg_set {l : List Int} (h : Dg l) (i : Nat) {x : Int} (hx : 0 ≤ x ∧ x < 1000000000) : Dg (l.set i x) := fun y hy => by
  rcases List.mem_or_eq_of_mem_set hy with hy | hy
  · exact h y hy
  · rw [hy]; exact hx
theorem set_at (l : List Int) (i j : Nat) (x : Int) (h : j ≠ i) : (l.set i x).getD j 0 = l.getD j 0 := by
  rw [List.getD_eq_getElem?_getD, List.getElem?_set_ne (by omega), List.getD_eq_getElem?_getD]
structure MuI (a b : List Int) (i : Nat) (out : List Int) : Prop where
  dg : Dg out
  len : out.length = a.length + b.length + 1
  z : ∀ j, i + b.length ≤ j → out.getD j 0 = 0
  v : val out = val (a.take i) * val b
structure MuJ (a b : List Int) (i k : Nat) (w : Int) (out : List Int) : Prop where
  dg : Dg out
  len : out.length = a.length + b.length + 1
  kle : k ≤ b.length
  w0 : 0 ≤ w ∧ w < 1000000000
  z : ∀ j, i + b.length ≤ j → out.getD j 0 = 0
  v : val out + bp (i + k) * w = val (a.take i) * val b + bp i * (a.getD i 0 * val (b.take k))
theorem MuI.start {a b : List Int} {i : Nat} {out : List Int} (h : MuI a b i out) : MuJ a b i 0 0 out :=
  ⟨h.dg, h.len, Nat.zero_le _, by decide, h.z, by rw [Int.mul_zero, h.v]; show _ = _ + bp i * (a.getD i 0 * 0); rw [Int.mul_zero, Int.mul_zero]⟩
theorem mul_small {x y : Int} (hx : 0 ≤ x ∧ x < 1000000000) (hy : 0 ≤ y ∧ y < 1000000000) : 0 ≤ x * y ∧ x * y ≤ 999999998000000001 := by
  refine ⟨Int.mul_nonneg hx.1 hy.1, ?_⟩
  have h1 : x * y ≤ 999999999 * y := Int.mul_le_mul_of_nonneg_right (by omega) hy.1
  omega
theorem MuJ.step {a b : List Int} (ha : Dg a) (hb : Dg b) {i k : Nat} {w : Int} {out : List Int} (h : MuJ a b i k w out) (hi : i < a.length) (hk : k < b.length) :
    IntKind.i64.wrap (IntKind.i64.wrap (out.getD (i + k) 0 + IntKind.i64.wrap (a.getD i 0 * b.getD k 0)) + w) = out.getD (i + k) 0 + a.getD i 0 * b.getD k 0 + w ∧
    IntKind.i64.wrap ((out.getD (i + k) 0 + a.getD i 0 * b.getD k 0 + w).tdiv 1000000000) = (out.getD (i + k) 0 + a.getD i 0 * b.getD k 0 + w) / 1000000000 ∧
    (out.getD (i + k) 0 + a.getD i 0 * b.getD k 0 + w).tmod 1000000000 = (out.getD (i + k) 0 + a.getD i 0 * b.getD k 0 + w) % 1000000000 ∧
    MuJ a b i (k + 1) ((out.getD (i + k) 0 + a.getD i 0 * b.getD k 0 + w) / 1000000000) (out.set (i + k) ((out.getD (i + k) 0 + a.getD i 0 * b.getD k 0 + w) % 1000000000)) := by
  have dA := dg_at ha i
  have dB := dg_at hb k
  have dO := dg_at h.dg (i + k)
  have hw := h.w0
  have hp := mul_small dA dB
  have hv := h.v
  have hl := h.len
  have vs := val_set (l := out) (i := i + k) (x := (out.getD (i + k) 0 + a.getD i 0 * b.getD k 0 + w) % 1000000000) (by omega)
  have vt := val_take_succ b k
  generalize hP : a.getD i 0 * b.getD k 0 = P at *
  generalize hO : out.getD (i + k) 0 = O at *
  have hq := Int.tdiv_eq_ediv_of_nonneg (a := O + P + w) (b := 1000000000) (by omega)
  have hr := Int.tmod_eq_emod_of_nonneg (a := O + P + w) (b := 1000000000) (by omega)
  have ee := Int.emod_add_mul_ediv (O + P + w) 1000000000
  refine ⟨by rw [wrap_id (n := P) (by omega) (by omega), wrap_id (n := O + P) (by omega) (by omega), wrap_id (by omega) (by omega)], by rw [hq]; exact wrap_id (by omega) (by omega), hr, ?_⟩
  refine ⟨dg_set h.dg _ (by omega), by rw [List.length_set, hl], hk, by omega, fun j hj => by rw [set_at _ _ _ _ (by omega)]; exact h.z j hj, ?_⟩
  rw [vs, vt, ← Nat.add_assoc, bp_succ]
  have e1 : bp i * (a.getD i 0 * (val (b.take k) + bp k * b.getD k 0)) = bp i * (a.getD i 0 * val (b.take k)) + bp (i + k) * P := by
    rw [bp_add, ← hP]; grind
  rw [e1, ← Int.add_assoc, ← hv]
  generalize (O + P + w) % 1000000000 = r at *
  generalize (O + P + w) / 1000000000 = q at *
  generalize bp (i + k) = B at *
  grind
theorem MuJ.fin {a b : List Int} (ha : Dg a) {i : Nat} {w : Int} {k : Nat} {out : List Int} (h : MuJ a b i k w out) (hi : i < a.length) (hk : b.length ≤ k) :
    IntKind.i64.wrap (out.getD (i + b.length) 0 + w) = w ∧ MuI a b (i + 1) (out.set (i + b.length) w) := by
  have hz := h.z (i + b.length) (Nat.le_refl _)
  have hw := h.w0
  have hl := h.len
  have hkl := h.kle
  obtain rfl : k = b.length := by omega
  have hv := h.v
  rw [List.take_of_length_le (Nat.le_refl _)] at hv
  refine ⟨by rw [hz, Int.zero_add]; exact wrap_id (by omega) (by omega), dg_set h.dg _ hw, by rw [List.length_set, hl], fun j hj => by rw [set_at _ _ _ _ (by omega)]; exact h.z j (by omega), ?_⟩
  rw [val_set (by omega), hz, Int.sub_zero, hv, val_take_succ]
  grind
theorem in_put {l : List Int} {i n : Nat} {x : Int} (hi : i < l.length) (hn : n = 1) : eI.Is l.length (putF i 0 n [dI x] (eI.F l)) ∧ eI.list l.length (putF i 0 n [dI x] (eI.F l)) = l.set i x := by
  subst hn
  have at_ : putF i 0 1 [dI x] (eI.F l) i 0 = dI x := by
    unfold putF
    rw [show Nat.beq i i = true from Nat.beq_refl i, Bool.true_and]
    rfl
  refine put_row eI hi (fun j hj => putF_ne j hj) (fun j hj => ?_) ?_
  · obtain rfl : j = 0 := by have : j < 1 := hj; omega
    rw [at_]; exact D.eqv_refl _
  · show rdI _ 0 = x
    unfold rdI
    rw [at_]
theorem sgn_mul (x y : Int) : M.wos (IntKind.i64.wrap (M.sgn x * M.sgn y)) ((x * y).natAbs : Int) = M.sgn (x * y) := by
  have hx : x < 0 ∨ x = 0 ∨ 0 < x := by omega
  have hy : y < 0 ∨ y = 0 ∨ 0 < y := by omega
  have n0 : ∀ z : Int, z < 0 → M.sgn z = -1 := fun z h => by unfold M.sgn; rw [if_pos h]
  have p0 : ∀ z : Int, 0 < z → M.sgn z = 1 := fun z h => by unfold M.sgn; rw [if_neg (by omega), if_neg (by omega)]
  have z0 : M.wos (IntKind.i64.wrap (M.sgn x * M.sgn y)) (((0 : Int).natAbs : Nat) : Int) = M.sgn 0 := rfl
  have ne : ∀ {s z : Int}, z ≠ 0 → M.wos s (z.natAbs : Int) = s := fun {s z} h => by unfold M.wos; rw [if_neg (by omega)]
  rcases hx with h | rfl | h
  · rcases hy with k | rfl | k
    · have := Int.mul_pos_of_neg_of_neg h k
      rw [ne (by omega), n0 x h, n0 y k, p0 _ this]; decide
    · rw [Int.mul_zero]; exact z0
    · have := Int.mul_neg_of_neg_of_pos h k
      rw [ne (by omega), n0 x h, p0 y k, n0 _ this]; decide
  · rw [Int.zero_mul]; exact z0
  · rcases hy with k | rfl | k
    · have := Int.mul_neg_of_pos_of_neg h k
      rw [ne (by omega), p0 x h, n0 y k, n0 _ this]; decide
    · rw [Int.mul_zero]; exact z0
    · have := Int.mul_pos h k
      rw [ne (by omega), p0 x h, p0 y k, p0 _ this]; decide
theorem muI0 (a b : List Int) : MuI a b 0 (List.replicate (a.length + b.length + 1) 0) := by
  refine ⟨fun x hx => ?_, List.length_replicate, fun j hj => ?_, ?_⟩
  · rw [List.eq_of_mem_replicate hx]; decide
  · rw [List.getD_eq_getElem?_getD, List.getElem?_replicate]
    split <;> rfl
  · show _ = 0 * val b
    rw [Int.zero_mul]
    exact val_zero fun x hx => List.eq_of_mem_replicate hx
theorem zeros_row (n : Nat) : eI.Is n (fun (_ j : Nat) => [dI 0].getD j .nilp) ∧ eI.list n (fun (_ j : Nat) => [dI 0].getD j .nilp) = List.replicate n 0 := by
  refine ⟨fun i j _ hj => ?_, ?_⟩
  · obtain rfl : j = 0 := by have : j < 1 := hj; omega
    exact D.eqv_refl _
  · apply List.ext_getElem
    · simp [Enc.list]
    · intro i h1 h2
      simp only [Enc.list, List.getElem_map, List.getElem_replicate]
      rfl
def tr101 (sga : Int) (q_dia : Bool) (dia : List Int) (sgb : Int) (q_dib : Bool) (dib : List Int) : T (List Ar) :=
    T.need ((0 : Int) ≤ IntKind.i64.wrap (IntKind.i64.wrap ((Nat.cast (R := Int) (List.length dia)) + (Nat.cast (R := Int) (List.length dib))) + (1 : Int))) (T.need (IntKind.i64.wrap (IntKind.i64.wrap ((Nat.cast (R := Int) (List.length dia)) + (Nat.cast (R := Int) (List.length dib))) + (1 : Int)) ≤ IntKind.i64.wrap (IntKind.i64.wrap ((Nat.cast (R := Int) (List.length dia)) + (Nat.cast (R := Int) (List.length dib))) + (1 : Int))) (T.need (IntKind.i64.wrap (IntKind.i64.wrap ((Nat.cast (R := Int) (List.length dia)) + (Nat.cast (R := Int) (List.length dib))) + (1 : Int)) ≤ (1000000 : Int)) (T.need (Enc.Is eI (Int.toNat (IntKind.i64.wrap (IntKind.i64.wrap ((Nat.cast (R := Int) (List.length dia)) + (Nat.cast (R := Int) (List.length dib))) + (1 : Int)))) fun (x j : Nat) => List.getD [D.int IntKind.i64 (0 : Int)] j D.nilp) (T.need (Int.toNat (IntKind.i64.wrap (IntKind.i64.wrap ((Nat.cast (R := Int) (List.length dia)) + (Nat.cast (R := Int) (List.length dib))) + (1 : Int))) ≤ Int.toNat (IntKind.i64.wrap (IntKind.i64.wrap ((Nat.cast (R := Int) (List.length dia)) + (Nat.cast (R := Int) (List.length dib))) + (1 : Int)))) (T.loop (Int × List Int × PUnit) ((0 : Int), Enc.list eI (Int.toNat (IntKind.i64.wrap (IntKind.i64.wrap ((Nat.cast (R := Int) (List.length dia)) + (Nat.cast (R := Int) (List.length dib))) + (1 : Int)))) fun (x j : Nat) => List.getD [D.int IntKind.i64 (0 : Int)] j D.nilp, PUnit.unit) fun (x : Int × List Int × PUnit) => T.br (decide (Prod.fst x < (Nat.cast (R := Int) (List.length dia)))) (T.need (Enc.Is eI (List.length (Prod.fst (Prod.snd x))) (Enc.F eI (Prod.fst (Prod.snd x)))) (T.need (List.length (Prod.fst (Prod.snd x)) ≤ List.length (Prod.fst (Prod.snd x))) (T.loop (Int × Int × List Int × PUnit) ((0 : Int), (0 : Int), Enc.list eI (List.length (Prod.fst (Prod.snd x))) (Enc.F eI (Prod.fst (Prod.snd x))), PUnit.unit) fun (x_1 : Int × Int × List Int × PUnit) => T.br (decide (Prod.fst x_1 < (Nat.cast (R := Int) (List.length dib)))) (T.need ((0 : Int) ≤ IntKind.i64.wrap (Prod.fst x + Prod.fst x_1)) (T.need (IntKind.i64.wrap (Prod.fst x + Prod.fst x_1) < (Nat.cast (R := Int) (List.length (Prod.fst (Prod.snd (Prod.snd x_1)))))) (T.need (Int.toNat (IntKind.i64.wrap (Prod.fst x + Prod.fst x_1)) < List.length (Prod.fst (Prod.snd (Prod.snd x_1)))) (T.need ((0 : Int) ≤ Prod.fst x) (T.need (Prod.fst x < (Nat.cast (R := Int) (List.length dia))) (T.need ((0 : Int) ≤ Prod.fst x_1) (T.need (Prod.fst x_1 < (Nat.cast (R := Int) (List.length dib))) (T.need ((0 : Int) ≤ IntKind.i64.wrap (Prod.fst x + Prod.fst x_1)) (T.need (IntKind.i64.wrap (Prod.fst x + Prod.fst x_1) < (Nat.cast (R := Int) (List.length (Prod.fst (Prod.snd (Prod.snd x_1)))))) (T.need (Int.toNat (IntKind.i64.wrap (Prod.fst x + Prod.fst x_1)) < List.length (Prod.fst (Prod.snd (Prod.snd x_1)))) (T.need (Enc.Is eI (List.length (Prod.fst (Prod.snd (Prod.snd x_1)))) (putF (Int.toNat (IntKind.i64.wrap (Prod.fst x + Prod.fst x_1))) (0 : Nat) (List.length [C.int IntKind.i64 (Int.tmod (IntKind.i64.wrap (IntKind.i64.wrap (List.getD (Prod.fst (Prod.snd (Prod.snd x_1))) (Int.toNat (IntKind.i64.wrap (Prod.fst x + Prod.fst x_1))) (0 : Int) + IntKind.i64.wrap (List.getD dia (Int.toNat (Prod.fst x)) (0 : Int) * List.getD dib (Int.toNat (Prod.fst x_1)) (0 : Int))) + Prod.fst (Prod.snd x_1))) (1000000000 : Int))]) [D.int IntKind.i64 (Int.tmod (IntKind.i64.wrap (IntKind.i64.wrap (List.getD (Prod.fst (Prod.snd (Prod.snd x_1))) (Int.toNat (IntKind.i64.wrap (Prod.fst x + Prod.fst x_1))) (0 : Int) + IntKind.i64.wrap (List.getD dia (Int.toNat (Prod.fst x)) (0 : Int) * List.getD dib (Int.toNat (Prod.fst x_1)) (0 : Int))) + Prod.fst (Prod.snd x_1))) (1000000000 : Int))] (Enc.F eI (Prod.fst (Prod.snd (Prod.snd x_1)))))) (T.need (List.length (Prod.fst (Prod.snd (Prod.snd x_1))) ≤ List.length (Prod.fst (Prod.snd (Prod.snd x_1)))) (T.ret (Sum.inl (IntKind.i64.wrap (Prod.fst x_1 + (1 : Int)), IntKind.i64.wrap (Int.tdiv (IntKind.i64.wrap (IntKind.i64.wrap (List.getD (Prod.fst (Prod.snd (Prod.snd x_1))) (Int.toNat (IntKind.i64.wrap (Prod.fst x + Prod.fst x_1))) (0 : Int) + IntKind.i64.wrap (List.getD dia (Int.toNat (Prod.fst x)) (0 : Int) * List.getD dib (Int.toNat (Prod.fst x_1)) (0 : Int))) + Prod.fst (Prod.snd x_1))) (1000000000 : Int)), Enc.list eI (List.length (Prod.fst (Prod.snd (Prod.snd x_1)))) (putF (Int.toNat (IntKind.i64.wrap (Prod.fst x + Prod.fst x_1))) (0 : Nat) (List.length [C.int IntKind.i64 (Int.tmod (IntKind.i64.wrap (IntKind.i64.wrap (List.getD (Prod.fst (Prod.snd (Prod.snd x_1))) (Int.toNat (IntKind.i64.wrap (Prod.fst x + Prod.fst x_1))) (0 : Int) + IntKind.i64.wrap (List.getD dia (Int.toNat (Prod.fst x)) (0 : Int) * List.getD dib (Int.toNat (Prod.fst x_1)) (0 : Int))) + Prod.fst (Prod.snd x_1))) (1000000000 : Int))]) [D.int IntKind.i64 (Int.tmod (IntKind.i64.wrap (IntKind.i64.wrap (List.getD (Prod.fst (Prod.snd (Prod.snd x_1))) (Int.toNat (IntKind.i64.wrap (Prod.fst x + Prod.fst x_1))) (0 : Int) + IntKind.i64.wrap (List.getD dia (Int.toNat (Prod.fst x)) (0 : Int) * List.getD dib (Int.toNat (Prod.fst x_1)) (0 : Int))) + Prod.fst (Prod.snd x_1))) (1000000000 : Int))] (Enc.F eI (Prod.fst (Prod.snd (Prod.snd x_1))))), PUnit.unit))))))))))))))) (T.need ((0 : Int) ≤ IntKind.i64.wrap (Prod.fst x + (Nat.cast (R := Int) (List.length dib)))) (T.need (IntKind.i64.wrap (Prod.fst x + (Nat.cast (R := Int) (List.length dib))) < (Nat.cast (R := Int) (List.length (Prod.fst (Prod.snd (Prod.snd x_1)))))) (T.need (Int.toNat (IntKind.i64.wrap (Prod.fst x + (Nat.cast (R := Int) (List.length dib)))) < List.length (Prod.fst (Prod.snd (Prod.snd x_1)))) (T.need ((0 : Int) ≤ IntKind.i64.wrap (Prod.fst x + (Nat.cast (R := Int) (List.length dib)))) (T.need (IntKind.i64.wrap (Prod.fst x + (Nat.cast (R := Int) (List.length dib))) < (Nat.cast (R := Int) (List.length (Prod.fst (Prod.snd (Prod.snd x_1)))))) (T.need (Int.toNat (IntKind.i64.wrap (Prod.fst x + (Nat.cast (R := Int) (List.length dib)))) < List.length (Prod.fst (Prod.snd (Prod.snd x_1)))) (T.need (Enc.Is eI (List.length (Prod.fst (Prod.snd (Prod.snd x_1)))) (putF (Int.toNat (IntKind.i64.wrap (Prod.fst x + (Nat.cast (R := Int) (List.length dib))))) (0 : Nat) (List.length [C.int IntKind.i64 (IntKind.i64.wrap (List.getD (Prod.fst (Prod.snd (Prod.snd x_1))) (Int.toNat (IntKind.i64.wrap (Prod.fst x + (Nat.cast (R := Int) (List.length dib))))) (0 : Int) + Prod.fst (Prod.snd x_1)))]) [D.int IntKind.i64 (IntKind.i64.wrap (List.getD (Prod.fst (Prod.snd (Prod.snd x_1))) (Int.toNat (IntKind.i64.wrap (Prod.fst x + (Nat.cast (R := Int) (List.length dib))))) (0 : Int) + Prod.fst (Prod.snd x_1)))] (Enc.F eI (Prod.fst (Prod.snd (Prod.snd x_1)))))) (T.need (List.length (Prod.fst (Prod.snd (Prod.snd x_1))) ≤ List.length (Prod.fst (Prod.snd (Prod.snd x_1)))) (T.ret (Sum.inr (Sum.inl (IntKind.i64.wrap (Prod.fst x + (1 : Int)), Enc.list eI (List.length (Prod.fst (Prod.snd (Prod.snd x_1)))) (putF (Int.toNat (IntKind.i64.wrap (Prod.fst x + (Nat.cast (R := Int) (List.length dib))))) (0 : Nat) (List.length [C.int IntKind.i64 (IntKind.i64.wrap (List.getD (Prod.fst (Prod.snd (Prod.snd x_1))) (Int.toNat (IntKind.i64.wrap (Prod.fst x + (Nat.cast (R := Int) (List.length dib))))) (0 : Int) + Prod.fst (Prod.snd x_1)))]) [D.int IntKind.i64 (IntKind.i64.wrap (List.getD (Prod.fst (Prod.snd (Prod.snd x_1))) (Int.toNat (IntKind.i64.wrap (Prod.fst x + (Nat.cast (R := Int) (List.length dib))))) (0 : Int) + Prod.fst (Prod.snd x_1)))] (Enc.F eI (Prod.fst (Prod.snd (Prod.snd x_1))))), PUnit.unit))))))))))))))) (T.need (List.length (Prod.fst (Prod.snd x)) ≤ List.length (Prod.fst (Prod.snd x))) (T.need (Enc.Is eI (List.length (Prod.fst (Prod.snd x))) (Enc.F eI (Prod.fst (Prod.snd x)))) (T.need (Dg (Enc.list eI (List.length (Prod.fst (Prod.snd x))) (Enc.F eI (Prod.fst (Prod.snd x))))) (T.need (List.length (Enc.list eI (List.length (Prod.fst (Prod.snd x))) (Enc.F eI (Prod.fst (Prod.snd x)))) ≤ (1000000 : Nat)) (T.ret (Sum.inr [Ar.agg [D.int IntKind.i64 (M.wos (IntKind.i64.wrap (sga * sgb)) (val (Enc.list eI (List.length (Prod.fst (Prod.snd x))) (Enc.F eI (Prod.fst (Prod.snd x)))))), D.sl false (List.length (M.dig (val (Enc.list eI (List.length (Prod.fst (Prod.snd x))) (Enc.F eI (Prod.fst (Prod.snd x))))))) (1 : Nat) (Enc.F eI (M.dig (val (Enc.list eI (List.length (Prod.fst (Prod.snd x))) (Enc.F eI (Prod.fst (Prod.snd x)))))))]])))))))))))
theorem t101 (sga : Int) (q_dia : Bool) (dia : List Int) (sgb : Int) (q_dib : Bool) (dib : List Int) : runFnX Try.prog G0 (lookS [v161]) (fun _ => [(3, [.slot 6 (.int .i64), .slot 5 (.rowE 3 eI)], none), (7, [.slot 8 (.int .i64), .slot 7 (.int .i64), .slot 5 (.rowE 3 eI)], none)]) [] 1 60 4 101 Try.f101 [.agg [dI sga, .sl q_dia dia.length 1 (eI.F dia)], .agg [dI sgb, .sl q_dib dib.length 1 (eI.F dib)]] =
    tr101 sga q_dia dia sgb q_dib dib := by kernel_rfl
theorem w101 (s : Int) (qa : Bool) (a : List Int) (t : Int) (qb : Bool) (b : List Int) (hs : Can s a) (ht : Can t b) (hx : a.length ≤ 90000) (hy : b.length ≤ 90000) : (tr101 s qa a t qb b).wp (fun rs => rsEqv rs [.agg [dI (M.sgn (M.wv s a * M.wv t b)), .sl false (M.mag (M.wv s a * M.wv t b)).length 1 (eI.F (M.mag (M.wv s a * M.wv t b)))]]) := by
  unfold tr101
  have da : Dg a := (can_abs hs).2.2
  have db : Dg b := (can_abs ht).2.2
  have hN : IntKind.i64.wrap (IntKind.i64.wrap ((a.length : Int) + (b.length : Int)) + 1) = ((a.length + b.length + 1 : Nat) : Int) := by
    rw [wrap_id (n := (a.length : Int) + (b.length : Int)) (by omega) (by omega), wrap_id (by omega) (by omega)]; omega
  simp only [hN, Int.toNat_natCast]
  obtain ⟨z1, z2⟩ := zeros_row (a.length + b.length + 1)
  refine ⟨by omega, Int.le_refl _, by omega, z1, Nat.le_refl _, ?_⟩
  refine ⟨fun x => ∃ i : Nat, x.1 = i ∧ i ≤ a.length ∧ MuI a b i x.2.1, fun x => a.length - x.1.toNat, ⟨0, rfl, Nat.zero_le _, by rw [z2]; exact muI0 a b⟩, ?_⟩
  rintro ⟨i', out, u⟩ ⟨i, hi', hia, hI⟩
  have hi' : i' = (i : Int) := hi'
  subst hi'
  have hI : MuI a b i out := hI
  refine wp_br (fun hb => ?_) (fun hb => ?_)
  · have hlt := lt_of_dec hb
    dsimp only
    refine ⟨Enc.is_F _ _ _, Nat.le_refl _, ?_⟩
    refine ⟨fun x => ∃ k : Nat, x.1 = k ∧ MuJ a b i k x.2.1 x.2.2.1, fun x => b.length - x.1.toNat, ⟨0, rfl, by rw [Enc.list_F]; exact hI.start⟩, ?_⟩
    rintro ⟨k', w, out', u'⟩ ⟨k, hk', hJ⟩
    have hk' : k' = (k : Int) := hk'
    subst hk'
    have hJ : MuJ a b i k w out' := hJ
    have hl := hJ.len
    have hkl := hJ.kle
    refine wp_br (fun hc => ?_) (fun hc => ?_)
    · have hlt2 := lt_of_dec hc
      obtain ⟨s1, s2, s3, s4⟩ := hJ.step da db hlt hlt2
      have e1 : IntKind.i64.wrap ((i : Int) + (k : Int)) = ((i + k : Nat) : Int) := by rw [wrap_id (by omega) (by omega)]; omega
      dsimp only
      simp only [e1, Int.toNat_natCast, s1, s2, s3]
      obtain ⟨p1, p2⟩ := in_put (l := out') (i := i + k) (n := 1) (x := (out'.getD (i + k) 0 + a.getD i 0 * b.getD k 0 + w) % 1000000000) (by omega) rfl
      have hw : IntKind.i64.wrap ((k : Int) + 1) = ((k + 1 : Nat) : Int) := wrap_succ (by omega)
      refine ⟨by omega, by omega, by omega, by omega, by omega, by omega, by omega, by omega, by omega, by omega, p1, Nat.le_refl _, ⟨k + 1, hw, ?_⟩, ?_⟩
      · show MuJ a b i (k + 1) _ (eI.list out'.length (putF (i + k) 0 1 _ (eI.F out')))
        rw [p2]; exact s4
      · show b.length - (IntKind.i64.wrap ((k : Int) + 1)).toNat < b.length - ((k : Int)).toNat
        rw [hw]; omega
    · have hge := ge_of_dec hc
      obtain ⟨s1, s4⟩ := hJ.fin da hlt hge
      have e1 : IntKind.i64.wrap ((i : Int) + (b.length : Int)) = ((i + b.length : Nat) : Int) := by rw [wrap_id (by omega) (by omega)]; omega
      dsimp only
      simp only [e1, Int.toNat_natCast, s1]
      obtain ⟨p1, p2⟩ := in_put (l := out') (i := i + b.length) (n := 1) (x := w) (by omega) rfl
      have hw : IntKind.i64.wrap ((i : Int) + 1) = ((i + 1 : Nat) : Int) := wrap_succ (by omega)
      refine ⟨by omega, by omega, by omega, by omega, by omega, by omega, p1, Nat.le_refl _, ⟨i + 1, hw, hlt, ?_⟩, ?_⟩
      · show MuI a b (i + 1) (eI.list out'.length (putF (i + b.length) 0 1 _ (eI.F out')))
        rw [p2]; exact s4
      · show a.length - (IntKind.i64.wrap ((i : Int) + 1)).toNat < a.length - ((i : Int)).toNat
        rw [hw]; omega
  · have hge := ge_of_dec hb
    obtain rfl : i = a.length := by omega
    have hv := hI.v
    rw [List.take_of_length_le (Nat.le_refl _)] at hv
    have hl := hI.len
    dsimp only
    simp only [Enc.list_F, hv]
    refine ⟨Nat.le_refl _, Enc.is_F _ _ _, hI.dg, by omega, ?_⟩
    obtain ⟨x, rfl, rfl⟩ := hs
    obtain ⟨y, rfl, rfl⟩ := ht
    rw [show val (M.dig (x.natAbs : Int)) = (x.natAbs : Int) from val_mag x, show val (M.dig (y.natAbs : Int)) = (y.natAbs : Int) from val_mag y,
      show M.wv (M.sgn x) (M.dig (x.natAbs : Int)) = x from wv_mk x, show M.wv (M.sgn y) (M.dig (y.natAbs : Int)) = y from wv_mk y]
    have e : (x.natAbs : Int) * (y.natAbs : Int) = ((x * y).natAbs : Int) := by rw [Int.natAbs_mul]; push_cast; rfl
    have e2 : M.wos (IntKind.i64.wrap (M.sgn x * M.sgn y)) ((x * y).natAbs : Int) = M.sgn (x * y) := sgn_mul x y
    rw [e, e2]
    exact rsEqv_refl _
def dom101 : DomF
  | [.agg [.int .i64 sga, .sl _ n_dia st_dia F_dia], .agg [.int .i64 sgb, .sl _ n_dib st_dib F_dib]] => (match (Nat.beq st_dia 1 || Nat.beq n_dia 0) && (Nat.beq st_dib 1 || Nat.beq n_dib 0) with
    | true => some ([eI.Is n_dia F_dia, eI.Is n_dib F_dib, Can sga (eI.list n_dia F_dia), Can sgb (eI.list n_dib F_dib), (eI.list n_dia F_dia).length ≤ 90000, (eI.list n_dib F_dib).length ≤ 90000], [.agg [dI (M.sgn (M.wv sga (eI.list n_dia F_dia) * M.wv sgb (eI.list n_dib F_dib))), .sl false (M.mag (M.wv sga (eI.list n_dia F_dia) * M.wv sgb (eI.list n_dib F_dib))).length 1 (eI.F (M.mag (M.wv sga (eI.list n_dia F_dia) * M.wv sgb (eI.list n_dib F_dib))))]])
    | _ => none)
  | _ => none
def v101 : Nat × Sm := (101, fokSm dom101)
theorem C101 : FOK Try.prog G0 gw 101 dom101 := by
  intro ags p r hd hp κ w xs hw hl hG hx
  unfold dom101 at hd
  split at hd
  · rename_i sga q_dia n_dia st_dia F_dia sgb q_dib n_dib st_dib F_dib
    split at hd
    · rename_i hst
      simp only [Bool.and_eq_true] at hst
      obtain ⟨g1, g2⟩ := hst
      simp only [Option.some.injEq, Prod.mk.injEq] at hd
      obtain ⟨rfl, rfl⟩ := hd
      obtain ⟨hI_dia, hI_dib, hp⟩ := hp
      have heq : agsEqv [.agg [.int .i64 sga, .sl q_dia n_dia st_dia F_dia], .agg [.int .i64 sgb, .sl q_dib n_dib st_dib F_dib]] [.agg [.int .i64 sga, .sl q_dia (eI.list n_dia F_dia).length 1 (eI.F (eI.list n_dia F_dia))], .agg [.int .i64 sgb, .sl q_dib (eI.list n_dib F_dib).length 1 (eI.F (eI.list n_dib F_dib))]] := ⟨⟨rfl, eI.toz g1 hI_dia, trivial⟩, ⟨rfl, eI.toz g2 hI_dib, trivial⟩, trivial⟩
      have len_dia : (eI.list n_dia F_dia).length = n_dia := eI.list_len
      have len_dib : (eI.list n_dib F_dib).length = n_dib := eI.list_len
      generalize eI.list n_dia F_dia = dia at *
      generalize eI.list n_dib F_dib = dib at *
      subst len_dia len_dib
      exact fokX_fin mixed gw_stable (sl := [v161]) ⟨S161, trivial⟩ Try.func101 hw hl hG hx heq rfl (t101 _ _ _ _ _ _) (w101 _ _ _ _ _ _ hp.1 hp.2.1 hp.2.2.1 hp.2.2.2.1)
    · cases hd
  · cases hd
theorem S101 : SumOK Try.prog G0 gw 101 (fokSm dom101) := fok_sum Try.func101 rfl C101
end Go.Pl
end

section
set_option linter.unusedVariables false
set_option linter.unusedSimpArgs false
set_option maxRecDepth 100000
namespace Go.Pl
open Go.V Go.Proofs
def tr100 (sga : Int) (q_dia : Bool) (dia : List Int) (sgb : Int) (q_dib : Bool) (dib : List Int) : T (List Ar) :=
    T.need (iI dia) (T.need (iI dib) (T.need (Can sga (cI dia)) (T.need (Can sgb (cI dib)) (T.need (List.length (cI dia) ≤ (90000 : Nat)) (T.need (List.length (cI dib) ≤ (90000 : Nat)) (T.ret [Ar.c (D.int IntKind.i64 (M.sgn (M.wv sga (cI dia) - M.wv sgb (cI dib))))]))))))
theorem t100 (sga : Int) (q_dia : Bool) (dia : List Int) (sgb : Int) (q_dib : Bool) (dib : List Int) : runFnX Try.prog G0 (lookS [v160]) (fun _ => []) [] 1 60 4 100 Try.f100 [.agg [dI sga, .sl q_dia dia.length 1 (eI.F dia)], .agg [dI sgb, .sl q_dib dib.length 1 (eI.F dib)]] =
    tr100 sga q_dia dia sgb q_dib dib := by kernel_rfl
theorem w100 (s : Int) (qa : Bool) (a : List Int) (t : Int) (qb : Bool) (b : List Int) (hs : Can s a) (ht : Can t b) (hx : a.length ≤ 90000) (hy : b.length ≤ 90000) : (tr100 s qa a t qb b).wp (fun rs => rsEqv rs [rI (M.sgn (M.wv s a - M.wv t b))]) := by
  unfold tr100
  simp only [cI, iI, Enc.list_F]
  exact ⟨Enc.is_F _ _ _, Enc.is_F _ _ _, hs, ht, hx, hy, rsEqv_refl _⟩
def dom100 : DomF
  | [.agg [.int .i64 sga, .sl _ n_dia st_dia F_dia], .agg [.int .i64 sgb, .sl _ n_dib st_dib F_dib]] => (match (Nat.beq st_dia 1 || Nat.beq n_dia 0) && (Nat.beq st_dib 1 || Nat.beq n_dib 0) with
    | true => some ([eI.Is n_dia F_dia, eI.Is n_dib F_dib, Can sga (eI.list n_dia F_dia), Can sgb (eI.list n_dib F_dib), (eI.list n_dia F_dia).length ≤ 90000, (eI.list n_dib F_dib).length ≤ 90000], [rI (M.sgn (M.wv sga (eI.list n_dia F_dia) - M.wv sgb (eI.list n_dib F_dib)))])
    | _ => none)
  | _ => none
def v100 : Nat × Sm := (100, fokSm dom100)
theorem C100 : FOK Try.prog G0 gw 100 dom100 := by
  intro ags p r hd hp κ w xs hw hl hG hx
  unfold dom100 at hd
  split at hd
  · rename_i sga q_dia n_dia st_dia F_dia sgb q_dib n_dib st_dib F_dib
    split at hd
    · rename_i hst
      simp only [Bool.and_eq_true] at hst
      obtain ⟨g1, g2⟩ := hst
      simp only [Option.some.injEq, Prod.mk.injEq] at hd
      obtain ⟨rfl, rfl⟩ := hd
      obtain ⟨hI_dia, hI_dib, hp⟩ := hp
      have heq : agsEqv [.agg [.int .i64 sga, .sl q_dia n_dia st_dia F_dia], .agg [.int .i64 sgb, .sl q_dib n_dib st_dib F_dib]] [.agg [.int .i64 sga, .sl q_dia (eI.list n_dia F_dia).length 1 (eI.F (eI.list n_dia F_dia))], .agg [.int .i64 sgb, .sl q_dib (eI.list n_dib F_dib).length 1 (eI.F (eI.list n_dib F_dib))]] := ⟨⟨rfl, eI.toz g1 hI_dia, trivial⟩, ⟨rfl, eI.toz g2 hI_dib, trivial⟩, trivial⟩
      have len_dia : (eI.list n_dia F_dia).length = n_dia := eI.list_len
      have len_dib : (eI.list n_dib F_dib).length = n_dib := eI.list_len
      generalize eI.list n_dia F_dia = dia at *
      generalize eI.list n_dib F_dib = dib at *
      subst len_dia len_dib
      exact fokX_fin mixed gw_stable (sl := [v160]) ⟨S160, trivial⟩ Try.func100 hw hl hG hx heq rfl (t100 _ _ _ _ _ _) (w100 _ _ _ _ _ _ hp.1 hp.2.1 hp.2.2.1 hp.2.2.2.1)
    · cases hd
  · cases hd
theorem S100 : SumOK Try.prog G0 gw 100 (fokSm dom100) := fok_sum Try.func100 rfl C100
namespace M
def fits (z : Int) : Bool := decide ((z.natAbs : Int) < 1000000000000000000)
def toI (z : Int) : Int := cond (fits z) z 0
end M
theorem toI_t {z : Int} (h : M.fits z = true) : M.toI z = z := by unfold M.toI; rw [h]; rfl
theorem bp_two : bp 2 = 1000000000000000000 := by decide
theorem bp_one : bp 1 = 1000000000 := by decide
end Go.Pl
end

section
set_option linter.unusedVariables false
set_option linter.unusedSimpArgs false
set_option maxRecDepth 100000
namespace Go.Pl
open Go.V Go.Proofs
theorem mid_eq {lo hi : Int} (h0 : 0 ≤ lo) (h1 : lo ≤ hi) (h2 : hi ≤ 999999999) : IntKind.i64.wrap ((IntKind.i64.wrap (IntKind.i64.wrap (lo + hi) + 1)).tdiv 2) = (lo + hi + 1) / 2 := by
  rw [wrap_id (n := lo + hi) (by omega) (by omega), wrap_id (n := lo + hi + 1) (by omega) (by omega), Int.tdiv_eq_ediv_of_nonneg (by omega)]
  exact wrap_id (by omega) (by omega)
structure FlI (a : List Int) (B : Int) (k : Nat) (L : Int) (q : List Int) : Prop where
  dg : Dg q
  len : q.length = a.length
  L0 : 0 ≤ L
  LB : L < B
  v : val (a.drop k) = val (q.drop k) * B + L
theorem FlI.step {a : List Int} {B : Int} {k : Nat} {L : Int} {q : List Int} (h : FlI a B (k + 1) L q) (hk : k < a.length) {x : Int} (hx : 0 ≤ x ∧ x ≤ 999999999) (h1 : x * B ≤ a.getD k 0 + 1000000000 * L) (h2 : a.getD k 0 + 1000000000 * L < (x + 1) * B) :
    FlI a B k (a.getD k 0 + 1000000000 * L - x * B) (q.set k x) := by
  have hl := h.len
  have hv := h.v
  refine ⟨dg_set h.dg _ (by omega), by rw [List.length_set, hl], by omega, by rw [Int.add_mul] at h2; omega, ?_⟩
  have hkq : k < (q.set k x).length := by rw [List.length_set]; omega
  rw [getD_drop (d := 0) hk, getD_drop (d := 0) hkq]
  have e1 : (q.set k x).getD k 0 = x := by rw [List.getD_eq_getElem?_getD, List.getElem?_set_self (by omega)]; rfl
  have e2 : (q.set k x).drop (k + 1) = q.drop (k + 1) := by rw [List.drop_set]; simp
  rw [e1, e2]
  show a.getD k 0 + 1000000000 * val (a.drop (k + 1)) = (x + 1000000000 * val (q.drop (k + 1))) * B + _
  rw [hv]
  generalize val (q.drop (k + 1)) = Q
  grind
structure SrI (L B lo hi : Int) : Prop where
  a : 0 ≤ lo
  b : lo ≤ hi
  c : hi ≤ 999999999
  d : lo * B ≤ L
  e : L < (hi + 1) * B
theorem SrI.up {L B lo hi : Int} (h : SrI L B lo hi) (hlt : lo < hi) (hm : (lo + hi + 1) / 2 * B ≤ L) : SrI L B ((lo + hi + 1) / 2) hi := by
  have := h.a; have := h.c
  exact ⟨by omega, by omega, h.c, hm, h.e⟩
theorem SrI.down {L B lo hi : Int} (h : SrI L B lo hi) (hlt : lo < hi) (hm : L < (lo + hi + 1) / 2 * B) : SrI L B lo ((lo + hi + 1) / 2 - 1) := by
  have := h.a; have := h.c
  refine ⟨h.a, by omega, by omega, h.d, ?_⟩
  rw [show (lo + hi + 1) / 2 - 1 + 1 = (lo + hi + 1) / 2 by omega]
  exact hm
end Go.Pl
end

section
set_option linter.unusedVariables false
set_option linter.unusedSimpArgs false
set_option maxRecDepth 100000
namespace Go.Pl
open Go.V Go.Proofs
theorem scs_ext {a b : List Scale} (hl : a.length = b.length) (h : ∀ k, k < a.length → a.getD k dfS = b.getD k dfS) : a = b := by
  apply List.ext_getElem hl
  intro k h1 h2
  have := h k h1
  simpa [List.getD_eq_getElem?_getD, List.getElem?_eq_getElem h1, List.getElem?_eq_getElem h2] using this
theorem set_getD {α : Type} {l : List α} {k i : Nat} {x d : α} (h : i < l.length) : (l.set k x).getD i d = if k = i then x else l.getD i d := by
  simp only [List.getD_eq_getElem?_getD, List.getElem?_set]
  by_cases hk : k = i
  · subst hk; simp [h]
  · simp [hk]
theorem beq_self_nat (n : Nat) : Nat.beq n n = true := Nat.beq_refl n
end Go.Pl
end

section
set_option linter.unusedVariables false
set_option linter.unusedSimpArgs false
set_option maxRecDepth 100000
namespace Go.Pl
open Go.V Go.Proofs
namespace M
def endOf (g : Bool) (r : Rg) : Int := cond g r.hi r.lo
def ends (g : Bool) (l : List Rg) : List Int := l.map (endOf g)
def stG (sc : List Scale) (f : List Int) : Nat → Nat → Int → Int → Int × Int
  | 0, _, N, D => (N, D)
  | m + 1, i, N, D => stG sc f m (i + 1) (N * f.getD i 0 + D * (1000 * (sc.getD i dfS).vol)) (D * f.getD i 0)
def stNum (sc : List Scale) (f : List Int) (i : Nat) : Int := (stG sc f (f.length - i) i 0 1).1
def stDen (sc : List Scale) (f : List Int) (i : Nat) : Int := (stG sc f (f.length - i) i 0 1).2
end M
theorem ends_len (g : Bool) (l : List Rg) : (M.ends g l).length = l.length := by simp [M.ends]
theorem ends_get {g : Bool} {l : List Rg} {i : Nat} (h : i < l.length) : (M.ends g l).getD i 0 = M.endOf g (l.getD i dfR) := by
  simp [M.ends, List.getD_eq_getElem?_getD, h]
theorem ends_take {g : Bool} {l : List Rg} {i : Nat} (h : i < l.length) : (M.ends g l).take i ++ [M.endOf g (l.getD i dfR)] = (M.ends g l).take (i + 1) := by
  rw [← ends_get h, take_push (d := 0) (by rw [ends_len]; exact h)]
def tr98 (q_l : Bool) (l : List Rg) (g : Bool) : T (List Ar) :=
    T.loop2 (Int × PUnit × PUnit) (Int × List Int × PUnit) (Sum.inl ((0 : Int), PUnit.unit, PUnit.unit)) (fun (x : Int × PUnit × PUnit) => T.br (decide (Prod.fst x < (Nat.cast (R := Int) (List.length l)))) (T.br g (T.need ((0 : Int) ≤ Prod.fst x) (T.need (Prod.fst x < (Nat.cast (R := Int) (List.length l))) (T.need ((1 : Nat) ≤ (1000000 : Nat)) (T.need (Enc.Is eI (1 : Nat) (joinF (0 : Nat) (fun (x x_1 : Nat) => D.nilp) fun (i j : Nat) => List.getD [D.int IntKind.i64 (Rg.hi (List.getD l (Int.toNat (Prod.fst x)) { lo := (0 : Int), hi := (0 : Int) }))] (i * (1 : Nat) + j) D.nilp)) (T.need ((1 : Nat) ≤ (1 : Nat)) (T.ret (Sum.inl (Sum.inr (IntKind.i64.wrap (Prod.fst x + (1 : Int)), Enc.list eI (1 : Nat) (joinF (0 : Nat) (fun (x x_1 : Nat) => D.nilp) fun (i j : Nat) => List.getD [D.int IntKind.i64 (Rg.hi (List.getD l (Int.toNat (Prod.fst x)) { lo := (0 : Int), hi := (0 : Int) }))] (i * (1 : Nat) + j) D.nilp), PUnit.unit))))))))) (T.need ((0 : Int) ≤ Prod.fst x) (T.need (Prod.fst x < (Nat.cast (R := Int) (List.length l))) (T.need ((1 : Nat) ≤ (1000000 : Nat)) (T.need (Enc.Is eI (1 : Nat) (joinF (0 : Nat) (fun (x x_1 : Nat) => D.nilp) fun (i j : Nat) => List.getD [D.int IntKind.i64 (Rg.lo (List.getD l (Int.toNat (Prod.fst x)) { lo := (0 : Int), hi := (0 : Int) }))] (i * (1 : Nat) + j) D.nilp)) (T.need ((1 : Nat) ≤ (1 : Nat)) (T.ret (Sum.inl (Sum.inr (IntKind.i64.wrap (Prod.fst x + (1 : Int)), Enc.list eI (1 : Nat) (joinF (0 : Nat) (fun (x x_1 : Nat) => D.nilp) fun (i j : Nat) => List.getD [D.int IntKind.i64 (Rg.lo (List.getD l (Int.toNat (Prod.fst x)) { lo := (0 : Int), hi := (0 : Int) }))] (i * (1 : Nat) + j) D.nilp), PUnit.unit)))))))))) (T.ret (Sum.inr [Ar.c (D.sl false (0 : Nat) (0 : Nat) fun (x x_1 : Nat) => D.nilp)]))) fun (y : Int × List Int × PUnit) => T.br (decide (Prod.fst y < (Nat.cast (R := Int) (List.length l)))) (T.br g (T.need ((0 : Int) ≤ Prod.fst y) (T.need (Prod.fst y < (Nat.cast (R := Int) (List.length l))) (T.need (List.length (Prod.fst (Prod.snd y)) + (1 : Nat) ≤ (1000000 : Nat)) (T.need (List.length (Prod.fst (Prod.snd y)) ≤ List.length (Prod.fst (Prod.snd y))) (T.need (Enc.Is eI (List.length (Prod.fst (Prod.snd y)) + (1 : Nat)) (joinF (List.length (Prod.fst (Prod.snd y))) (Enc.F eI (Prod.fst (Prod.snd y))) fun (i j : Nat) => List.getD [D.int IntKind.i64 (Rg.hi (List.getD l (Int.toNat (Prod.fst y)) { lo := (0 : Int), hi := (0 : Int) }))] (i * (1 : Nat) + j) D.nilp)) (T.need (List.length (Prod.fst (Prod.snd y)) + (1 : Nat) ≤ List.length (Prod.fst (Prod.snd y)) + (1 : Nat)) (T.ret (Sum.inl (Sum.inr (IntKind.i64.wrap (Prod.fst y + (1 : Int)), Enc.list eI (List.length (Prod.fst (Prod.snd y)) + (1 : Nat)) (joinF (List.length (Prod.fst (Prod.snd y))) (Enc.F eI (Prod.fst (Prod.snd y))) fun (i j : Nat) => List.getD [D.int IntKind.i64 (Rg.hi (List.getD l (Int.toNat (Prod.fst y)) { lo := (0 : Int), hi := (0 : Int) }))] (i * (1 : Nat) + j) D.nilp), PUnit.unit)))))))))) (T.need ((0 : Int) ≤ Prod.fst y) (T.need (Prod.fst y < (Nat.cast (R := Int) (List.length l))) (T.need (List.length (Prod.fst (Prod.snd y)) + (1 : Nat) ≤ (1000000 : Nat)) (T.need (List.length (Prod.fst (Prod.snd y)) ≤ List.length (Prod.fst (Prod.snd y))) (T.need (Enc.Is eI (List.length (Prod.fst (Prod.snd y)) + (1 : Nat)) (joinF (List.length (Prod.fst (Prod.snd y))) (Enc.F eI (Prod.fst (Prod.snd y))) fun (i j : Nat) => List.getD [D.int IntKind.i64 (Rg.lo (List.getD l (Int.toNat (Prod.fst y)) { lo := (0 : Int), hi := (0 : Int) }))] (i * (1 : Nat) + j) D.nilp)) (T.need (List.length (Prod.fst (Prod.snd y)) + (1 : Nat) ≤ List.length (Prod.fst (Prod.snd y)) + (1 : Nat)) (T.ret (Sum.inl (Sum.inr (IntKind.i64.wrap (Prod.fst y + (1 : Int)), Enc.list eI (List.length (Prod.fst (Prod.snd y)) + (1 : Nat)) (joinF (List.length (Prod.fst (Prod.snd y))) (Enc.F eI (Prod.fst (Prod.snd y))) fun (i j : Nat) => List.getD [D.int IntKind.i64 (Rg.lo (List.getD l (Int.toNat (Prod.fst y)) { lo := (0 : Int), hi := (0 : Int) }))] (i * (1 : Nat) + j) D.nilp), PUnit.unit))))))))))) (T.need (List.length (Prod.fst (Prod.snd y)) ≤ List.length (Prod.fst (Prod.snd y))) (T.ret (Sum.inr [Ar.c (D.sl true (List.length (Prod.fst (Prod.snd y))) (1 : Nat) (Enc.F eI (Prod.fst (Prod.snd y))))])))
theorem t98 (q_l : Bool) (l : List Rg) (g : Bool) : runFnX Try.prog G0 (lookS []) (fun _ => [(3, [.slot 6 (.int .i64), .slot 5 .nsl], some [.slot 6 (.int .i64), .slot 5 (.rowE 3 eI)])]) [] 1 60 4 98 Try.f98 [.c (.sl q_l l.length 2 (eRg.F l)), .c (.bool g)] =
    tr98 q_l l g := by kernel_rfl
theorem w98 (q : Bool) (l : List Rg) (g : Bool) (hl : l.length ≤ 100000) : (tr98 q l g).wp (fun rs => rsEqv rs [.c (.sl false (M.ends g l).length 1 (eI.F (M.ends g l)))]) := by
  unfold tr98
  refine ⟨fun z => match z with
    | .inl x => x = ((0 : Int), PUnit.unit, PUnit.unit)
    | .inr y => ∃ k : Nat, k ≤ l.length ∧ y.1 = k ∧ y.2.1 = (M.ends g l).take k,
    fun z => match z with | .inl _ => l.length + 5 | .inr y => l.length - y.1.toNat, rfl, ?_, ?_⟩
  · rintro x rfl
    refine wp_br (fun hb => ?_) (fun hb => ?_)
    · have hlt : (0 : Int) < l.length := of_decide_eq_true hb
      have hlt : 0 < l.length := by omega
      have tk := ends_take (g := g) (l := l) (i := 0) hlt
      rw [List.take_zero, List.nil_append] at tk
      have w1 : IntKind.i64.wrap ((0 : Int) + 1) = 1 := by decide
      refine wp_br (fun hg => ?_) (fun hg => ?_)
      · subst hg
        obtain ⟨o1, o2⟩ := in_1 (x := (l.getD 0 dfR).hi)
        refine ⟨Int.le_refl _, by show (0 : Int) < l.length; omega, by decide, o1, Nat.le_refl _, ⟨1, hlt, w1, o2.trans tk⟩, ?_⟩
        show l.length - (IntKind.i64.wrap ((0 : Int) + 1)).toNat < l.length + 5
        omega
      · subst hg
        obtain ⟨o1, o2⟩ := in_1 (x := (l.getD 0 dfR).lo)
        refine ⟨Int.le_refl _, by show (0 : Int) < l.length; omega, by decide, o1, Nat.le_refl _, ⟨1, hlt, w1, o2.trans tk⟩, ?_⟩
        show l.length - (IntKind.i64.wrap ((0 : Int) + 1)).toNat < l.length + 5
        omega
    · have hge : ¬ (0 : Int) < l.length := of_decide_eq_false hb
      have : l = [] := List.length_eq_zero_iff.1 (by omega)
      subst this
      exact ⟨nil_eqv eI, trivial⟩
  · rintro ⟨y, acc, u⟩ ⟨k, hk, hy', ha'⟩
    have hy : y = (k : Int) := hy'
    have ha : acc = (M.ends g l).take k := ha'
    clear ha' hy'
    subst hy
    have hal : acc.length = k := by rw [ha, List.length_take, ends_len]; omega
    have hw : IntKind.i64.wrap ((k : Int) + 1) = ((k + 1 : Nat) : Int) := wrap_succ (by omega)
    refine wp_br (fun hb => ?_) (fun hb => ?_)
    · have hlt := lt_of_dec hb
      have tk := ends_take (g := g) (l := l) (i := k) hlt
      rw [← ha] at tk
      have mu : l.length - (IntKind.i64.wrap ((k : Int) + 1)).toNat < l.length - (k : Int).toNat := by rw [hw]; omega
      refine wp_br (fun hg => ?_) (fun hg => ?_)
      · subst hg
        obtain ⟨o1, o2⟩ := in_more (l := acc) (x := (l.getD k dfR).hi)
        exact ⟨by show (0 : Int) ≤ k; omega, by show (k : Int) < l.length; omega, by dsimp only; omega, Nat.le_refl _, o1, Nat.le_refl _, ⟨k + 1, hlt, hw, o2.trans tk⟩, mu⟩
      · subst hg
        obtain ⟨o1, o2⟩ := in_more (l := acc) (x := (l.getD k dfR).lo)
        exact ⟨by show (0 : Int) ≤ k; omega, by show (k : Int) < l.length; omega, by dsimp only; omega, Nat.le_refl _, o1, Nat.le_refl _, ⟨k + 1, hlt, hw, o2.trans tk⟩, mu⟩
    · have hge := ge_of_dec hb
      obtain rfl : k = l.length := by omega
      have e : acc = M.ends g l := by rw [ha, List.take_of_length_le (by rw [ends_len]; exact Nat.le_refl _)]
      dsimp only
      rw [← e]
      exact ⟨Nat.le_refl _, ⟨(fun e => by cases e), rfl, fun _ => rfl, fun i j hi hj => D.eqv_refl _⟩, trivial⟩
def dom98 : DomF
  | [.c (.sl _ n_l st_l F_l), .c (.bool g)] => (match (Nat.beq st_l 2 || Nat.beq n_l 0) with
    | true => some ([eRg.Is n_l F_l, (eRg.list n_l F_l).length ≤ 100000], [.c (.sl false (M.ends g (eRg.list n_l F_l)).length 1 (eI.F (M.ends g (eRg.list n_l F_l))))])
    | _ => none)
  | _ => none
def v98 : Nat × Sm := (98, fokSm dom98)
theorem C98 : FOK Try.prog G0 gw 98 dom98 := by
  intro ags p r hd hp κ w xs hw hl hG hx
  unfold dom98 at hd
  split at hd
  · rename_i q_l n_l st_l F_l g
    split at hd
    · rename_i hst
      have g1 := hst
      simp only [Option.some.injEq, Prod.mk.injEq] at hd
      obtain ⟨rfl, rfl⟩ := hd
      obtain ⟨hI_l, hp⟩ := hp
      have heq : agsEqv [.c (.sl q_l n_l st_l F_l), .c (.bool g)] [.c (.sl q_l (eRg.list n_l F_l).length 2 (eRg.F (eRg.list n_l F_l))), .c (.bool g)] := ⟨eRg.toz g1 hI_l, Ag.eqv_refl _, trivial⟩
      have len_l : (eRg.list n_l F_l).length = n_l := eRg.list_len
      generalize eRg.list n_l F_l = l at *
      subst len_l
      exact fokX_fin mixed gw_stable (sl := []) trivial Try.func98 hw hl hG hx heq rfl (t98 _ _ _) (w98 _ _ _ hp.1)
    · cases hd
  · cases hd
theorem S98 : SumOK Try.prog G0 gw 98 (fokSm dom98) := fok_sum Try.func98 rfl C98
theorem mag_len {z : Int} {n : Nat} (h0 : 0 ≤ z) (h : z < bp n) : (M.mag z).length ≤ n := by
  show (M.dig (z.natAbs : Int)).length ≤ n
  rw [dig_len]; exact nd_le n (by omega) (by omega)
structure StI (sc : List Scale) (f : List Int) (i k : Nat) (N D : Int) : Prop where
  n0 : 0 ≤ N
  nb : N < bp (k + 1)
  d0 : 0 < D
  db : D < bp (k + 1)
  e : M.stG sc f (f.length - k) k N D = M.stG sc f (f.length - i) i 0 1
theorem StI.step {sc : List Scale} {f : List Int} {i k : Nat} {N D : Int} (h : StI sc f i k N D) (hk : k < f.length) (hf : 0 < f.getD k 0 ∧ f.getD k 0 ≤ 100000) (hv : 0 ≤ (sc.getD k dfS).vol ∧ (sc.getD k dfS).vol ≤ 20000) :
    (0 ≤ N * f.getD k 0 ∧ N * f.getD k 0 < bp (k + 2)) ∧ (0 ≤ D * (1000 * (sc.getD k dfS).vol) ∧ D * (1000 * (sc.getD k dfS).vol) < bp (k + 2)) ∧ StI sc f i (k + 1) (N * f.getD k 0 + D * (1000 * (sc.getD k dfS).vol)) (D * f.getD k 0) := by
  have e := h.e
  rw [show f.length - k = f.length - (k + 1) + 1 by omega] at e
  simp only [M.stG] at e
  have a := h.n0; have b := h.nb; have c := h.d0; have d := h.db
  generalize (sc.getD k dfS).vol = v at *
  generalize f.getD k 0 = y at *
  have i1 : N * y ≤ N * 100000 := Int.mul_le_mul_of_nonneg_left (by omega) a
  have i2 : D * y ≤ D * 100000 := Int.mul_le_mul_of_nonneg_left (by omega) (by omega)
  have i3 : D * (1000 * v) ≤ D * 20000000 := Int.mul_le_mul_of_nonneg_left (by omega) (by omega)
  have j1 : 0 ≤ N * y := Int.mul_nonneg a (by omega)
  have j2 : 0 < D * y := Int.mul_pos c (by omega)
  have j3 : 0 ≤ D * (1000 * v) := Int.mul_nonneg (by omega) (by omega)
  have hb : bp (k + 2) = 1000000000 * bp (k + 1) := rfl
  refine ⟨⟨j1, by omega⟩, ⟨j3, by omega⟩, ⟨by omega, ?_, j2, ?_, e⟩⟩
  · show _ < bp (k + 2)
    omega
  · show _ < bp (k + 2)
    omega
def tr99 (q_sc : Bool) (sc : List Scale) (new : Int) (q_f : Bool) (f : List Int) (i : Int) : T (List Ar) :=
    T.need ((-9223372036854775807 : Int) ≤ (0 : Int)) (T.need ((0 : Int) ≤ (9223372036854775807 : Int)) (T.need ((-9223372036854775807 : Int) ≤ (1 : Int)) (T.need ((1 : Int) ≤ (9223372036854775807 : Int)) (T.need (Enc.Is eI (List.length (M.mag (0 : Int))) (Enc.F eI (M.mag (0 : Int)))) (T.need (Enc.Is eI (List.length (M.mag (1 : Int))) (Enc.F eI (M.mag (1 : Int)))) (T.loop (Int × Int × List Int × Int × List Int × PUnit) (i, (0 : Int), Enc.list eI (List.length (M.mag (0 : Int))) (Enc.F eI (M.mag (0 : Int))), (1 : Int), Enc.list eI (List.length (M.mag (1 : Int))) (Enc.F eI (M.mag (1 : Int))), PUnit.unit) fun (x : Int × Int × List Int × Int × List Int × PUnit) => T.br (decide (Prod.fst x < (Nat.cast (R := Int) (List.length f)))) (T.need ((0 : Int) ≤ Prod.fst x) (T.need (Prod.fst x < (Nat.cast (R := Int) (List.length f))) (T.need ((-9223372036854775807 : Int) ≤ List.getD f (Int.toNat (Prod.fst x)) (0 : Int)) (T.need (List.getD f (Int.toNat (Prod.fst x)) (0 : Int) ≤ (9223372036854775807 : Int)) (T.need (Enc.Is eI (List.length (Prod.fst (Prod.snd (Prod.snd x)))) (Enc.F eI (Prod.fst (Prod.snd (Prod.snd x))))) (T.need (Enc.Is eI (List.length (M.mag (List.getD f (Int.toNat (Prod.fst x)) (0 : Int)))) (Enc.F eI (M.mag (List.getD f (Int.toNat (Prod.fst x)) (0 : Int))))) (T.need (Can (Prod.fst (Prod.snd x)) (Enc.list eI (List.length (Prod.fst (Prod.snd (Prod.snd x)))) (Enc.F eI (Prod.fst (Prod.snd (Prod.snd x)))))) (T.need (Can (M.sgn (List.getD f (Int.toNat (Prod.fst x)) (0 : Int))) (Enc.list eI (List.length (M.mag (List.getD f (Int.toNat (Prod.fst x)) (0 : Int)))) (Enc.F eI (M.mag (List.getD f (Int.toNat (Prod.fst x)) (0 : Int)))))) (T.need (List.length (Enc.list eI (List.length (Prod.fst (Prod.snd (Prod.snd x)))) (Enc.F eI (Prod.fst (Prod.snd (Prod.snd x))))) ≤ (90000 : Nat)) (T.need (List.length (Enc.list eI (List.length (M.mag (List.getD f (Int.toNat (Prod.fst x)) (0 : Int)))) (Enc.F eI (M.mag (List.getD f (Int.toNat (Prod.fst x)) (0 : Int))))) ≤ (90000 : Nat)) (T.need ((0 : Int) ≤ Prod.fst x) (T.need (Prod.fst x < (Nat.cast (R := Int) (List.length sc))) (T.need ((-9223372036854775807 : Int) ≤ IntKind.i64.wrap ((1000 : Int) * Scale.vol (List.getD sc (Int.toNat (Prod.fst x)) { vol := (0 : Int), l := (0 : Int), h := (0 : Int), least := (0 : Int) }))) (T.need (IntKind.i64.wrap ((1000 : Int) * Scale.vol (List.getD sc (Int.toNat (Prod.fst x)) { vol := (0 : Int), l := (0 : Int), h := (0 : Int), least := (0 : Int) })) ≤ (9223372036854775807 : Int)) (T.need (Enc.Is eI (List.length (Prod.fst (Prod.snd (Prod.snd (Prod.snd (Prod.snd x)))))) (Enc.F eI (Prod.fst (Prod.snd (Prod.snd (Prod.snd (Prod.snd x))))))) (T.need (Enc.Is eI (List.length (M.mag (IntKind.i64.wrap ((1000 : Int) * Scale.vol (List.getD sc (Int.toNat (Prod.fst x)) { vol := (0 : Int), l := (0 : Int), h := (0 : Int), least := (0 : Int) }))))) (Enc.F eI (M.mag (IntKind.i64.wrap ((1000 : Int) * Scale.vol (List.getD sc (Int.toNat (Prod.fst x)) { vol := (0 : Int), l := (0 : Int), h := (0 : Int), least := (0 : Int) })))))) (T.need (Can (Prod.fst (Prod.snd (Prod.snd (Prod.snd x)))) (Enc.list eI (List.length (Prod.fst (Prod.snd (Prod.snd (Prod.snd (Prod.snd x)))))) (Enc.F eI (Prod.fst (Prod.snd (Prod.snd (Prod.snd (Prod.snd x)))))))) (T.need (Can (M.sgn (IntKind.i64.wrap ((1000 : Int) * Scale.vol (List.getD sc (Int.toNat (Prod.fst x)) { vol := (0 : Int), l := (0 : Int), h := (0 : Int), least := (0 : Int) })))) (Enc.list eI (List.length (M.mag (IntKind.i64.wrap ((1000 : Int) * Scale.vol (List.getD sc (Int.toNat (Prod.fst x)) { vol := (0 : Int), l := (0 : Int), h := (0 : Int), least := (0 : Int) }))))) (Enc.F eI (M.mag (IntKind.i64.wrap ((1000 : Int) * Scale.vol (List.getD sc (Int.toNat (Prod.fst x)) { vol := (0 : Int), l := (0 : Int), h := (0 : Int), least := (0 : Int) }))))))) (T.need (List.length (Enc.list eI (List.length (Prod.fst (Prod.snd (Prod.snd (Prod.snd (Prod.snd x)))))) (Enc.F eI (Prod.fst (Prod.snd (Prod.snd (Prod.snd (Prod.snd x))))))) ≤ (90000 : Nat)) (T.need (List.length (Enc.list eI (List.length (M.mag (IntKind.i64.wrap ((1000 : Int) * Scale.vol (List.getD sc (Int.toNat (Prod.fst x)) { vol := (0 : Int), l := (0 : Int), h := (0 : Int), least := (0 : Int) }))))) (Enc.F eI (M.mag (IntKind.i64.wrap ((1000 : Int) * Scale.vol (List.getD sc (Int.toNat (Prod.fst x)) { vol := (0 : Int), l := (0 : Int), h := (0 : Int), least := (0 : Int) })))))) ≤ (90000 : Nat)) (T.need (Enc.Is eI (List.length (M.mag (M.wv (Prod.fst (Prod.snd x)) (Enc.list eI (List.length (Prod.fst (Prod.snd (Prod.snd x)))) (Enc.F eI (Prod.fst (Prod.snd (Prod.snd x))))) * M.wv (M.sgn (List.getD f (Int.toNat (Prod.fst x)) (0 : Int))) (Enc.list eI (List.length (M.mag (List.getD f (Int.toNat (Prod.fst x)) (0 : Int)))) (Enc.F eI (M.mag (List.getD f (Int.toNat (Prod.fst x)) (0 : Int)))))))) (Enc.F eI (M.mag (M.wv (Prod.fst (Prod.snd x)) (Enc.list eI (List.length (Prod.fst (Prod.snd (Prod.snd x)))) (Enc.F eI (Prod.fst (Prod.snd (Prod.snd x))))) * M.wv (M.sgn (List.getD f (Int.toNat (Prod.fst x)) (0 : Int))) (Enc.list eI (List.length (M.mag (List.getD f (Int.toNat (Prod.fst x)) (0 : Int)))) (Enc.F eI (M.mag (List.getD f (Int.toNat (Prod.fst x)) (0 : Int))))))))) (T.need (Enc.Is eI (List.length (M.mag (M.wv (Prod.fst (Prod.snd (Prod.snd (Prod.snd x)))) (Enc.list eI (List.length (Prod.fst (Prod.snd (Prod.snd (Prod.snd (Prod.snd x)))))) (Enc.F eI (Prod.fst (Prod.snd (Prod.snd (Prod.snd (Prod.snd x))))))) * M.wv (M.sgn (IntKind.i64.wrap ((1000 : Int) * Scale.vol (List.getD sc (Int.toNat (Prod.fst x)) { vol := (0 : Int), l := (0 : Int), h := (0 : Int), least := (0 : Int) })))) (Enc.list eI (List.length (M.mag (IntKind.i64.wrap ((1000 : Int) * Scale.vol (List.getD sc (Int.toNat (Prod.fst x)) { vol := (0 : Int), l := (0 : Int), h := (0 : Int), least := (0 : Int) }))))) (Enc.F eI (M.mag (IntKind.i64.wrap ((1000 : Int) * Scale.vol (List.getD sc (Int.toNat (Prod.fst x)) { vol := (0 : Int), l := (0 : Int), h := (0 : Int), least := (0 : Int) }))))))))) (Enc.F eI (M.mag (M.wv (Prod.fst (Prod.snd (Prod.snd (Prod.snd x)))) (Enc.list eI (List.length (Prod.fst (Prod.snd (Prod.snd (Prod.snd (Prod.snd x)))))) (Enc.F eI (Prod.fst (Prod.snd (Prod.snd (Prod.snd (Prod.snd x))))))) * M.wv (M.sgn (IntKind.i64.wrap ((1000 : Int) * Scale.vol (List.getD sc (Int.toNat (Prod.fst x)) { vol := (0 : Int), l := (0 : Int), h := (0 : Int), least := (0 : Int) })))) (Enc.list eI (List.length (M.mag (IntKind.i64.wrap ((1000 : Int) * Scale.vol (List.getD sc (Int.toNat (Prod.fst x)) { vol := (0 : Int), l := (0 : Int), h := (0 : Int), least := (0 : Int) }))))) (Enc.F eI (M.mag (IntKind.i64.wrap ((1000 : Int) * Scale.vol (List.getD sc (Int.toNat (Prod.fst x)) { vol := (0 : Int), l := (0 : Int), h := (0 : Int), least := (0 : Int) })))))))))) (T.need (Can (M.sgn (M.wv (Prod.fst (Prod.snd x)) (Enc.list eI (List.length (Prod.fst (Prod.snd (Prod.snd x)))) (Enc.F eI (Prod.fst (Prod.snd (Prod.snd x))))) * M.wv (M.sgn (List.getD f (Int.toNat (Prod.fst x)) (0 : Int))) (Enc.list eI (List.length (M.mag (List.getD f (Int.toNat (Prod.fst x)) (0 : Int)))) (Enc.F eI (M.mag (List.getD f (Int.toNat (Prod.fst x)) (0 : Int))))))) (Enc.list eI (List.length (M.mag (M.wv (Prod.fst (Prod.snd x)) (Enc.list eI (List.length (Prod.fst (Prod.snd (Prod.snd x)))) (Enc.F eI (Prod.fst (Prod.snd (Prod.snd x))))) * M.wv (M.sgn (List.getD f (Int.toNat (Prod.fst x)) (0 : Int))) (Enc.list eI (List.length (M.mag (List.getD f (Int.toNat (Prod.fst x)) (0 : Int)))) (Enc.F eI (M.mag (List.getD f (Int.toNat (Prod.fst x)) (0 : Int)))))))) (Enc.F eI (M.mag (M.wv (Prod.fst (Prod.snd x)) (Enc.list eI (List.length (Prod.fst (Prod.snd (Prod.snd x)))) (Enc.F eI (Prod.fst (Prod.snd (Prod.snd x))))) * M.wv (M.sgn (List.getD f (Int.toNat (Prod.fst x)) (0 : Int))) (Enc.list eI (List.length (M.mag (List.getD f (Int.toNat (Prod.fst x)) (0 : Int)))) (Enc.F eI (M.mag (List.getD f (Int.toNat (Prod.fst x)) (0 : Int)))))))))) (T.need (Can (M.sgn (M.wv (Prod.fst (Prod.snd (Prod.snd (Prod.snd x)))) (Enc.list eI (List.length (Prod.fst (Prod.snd (Prod.snd (Prod.snd (Prod.snd x)))))) (Enc.F eI (Prod.fst (Prod.snd (Prod.snd (Prod.snd (Prod.snd x))))))) * M.wv (M.sgn (IntKind.i64.wrap ((1000 : Int) * Scale.vol (List.getD sc (Int.toNat (Prod.fst x)) { vol := (0 : Int), l := (0 : Int), h := (0 : Int), least := (0 : Int) })))) (Enc.list eI (List.length (M.mag (IntKind.i64.wrap ((1000 : Int) * Scale.vol (List.getD sc (Int.toNat (Prod.fst x)) { vol := (0 : Int), l := (0 : Int), h := (0 : Int), least := (0 : Int) }))))) (Enc.F eI (M.mag (IntKind.i64.wrap ((1000 : Int) * Scale.vol (List.getD sc (Int.toNat (Prod.fst x)) { vol := (0 : Int), l := (0 : Int), h := (0 : Int), least := (0 : Int) })))))))) (Enc.list eI (List.length (M.mag (M.wv (Prod.fst (Prod.snd (Prod.snd (Prod.snd x)))) (Enc.list eI (List.length (Prod.fst (Prod.snd (Prod.snd (Prod.snd (Prod.snd x)))))) (Enc.F eI (Prod.fst (Prod.snd (Prod.snd (Prod.snd (Prod.snd x))))))) * M.wv (M.sgn (IntKind.i64.wrap ((1000 : Int) * Scale.vol (List.getD sc (Int.toNat (Prod.fst x)) { vol := (0 : Int), l := (0 : Int), h := (0 : Int), least := (0 : Int) })))) (Enc.list eI (List.length (M.mag (IntKind.i64.wrap ((1000 : Int) * Scale.vol (List.getD sc (Int.toNat (Prod.fst x)) { vol := (0 : Int), l := (0 : Int), h := (0 : Int), least := (0 : Int) }))))) (Enc.F eI (M.mag (IntKind.i64.wrap ((1000 : Int) * Scale.vol (List.getD sc (Int.toNat (Prod.fst x)) { vol := (0 : Int), l := (0 : Int), h := (0 : Int), least := (0 : Int) }))))))))) (Enc.F eI (M.mag (M.wv (Prod.fst (Prod.snd (Prod.snd (Prod.snd x)))) (Enc.list eI (List.length (Prod.fst (Prod.snd (Prod.snd (Prod.snd (Prod.snd x)))))) (Enc.F eI (Prod.fst (Prod.snd (Prod.snd (Prod.snd (Prod.snd x))))))) * M.wv (M.sgn (IntKind.i64.wrap ((1000 : Int) * Scale.vol (List.getD sc (Int.toNat (Prod.fst x)) { vol := (0 : Int), l := (0 : Int), h := (0 : Int), least := (0 : Int) })))) (Enc.list eI (List.length (M.mag (IntKind.i64.wrap ((1000 : Int) * Scale.vol (List.getD sc (Int.toNat (Prod.fst x)) { vol := (0 : Int), l := (0 : Int), h := (0 : Int), least := (0 : Int) }))))) (Enc.F eI (M.mag (IntKind.i64.wrap ((1000 : Int) * Scale.vol (List.getD sc (Int.toNat (Prod.fst x)) { vol := (0 : Int), l := (0 : Int), h := (0 : Int), least := (0 : Int) }))))))))))) (T.need (List.length (Enc.list eI (List.length (M.mag (M.wv (Prod.fst (Prod.snd x)) (Enc.list eI (List.length (Prod.fst (Prod.snd (Prod.snd x)))) (Enc.F eI (Prod.fst (Prod.snd (Prod.snd x))))) * M.wv (M.sgn (List.getD f (Int.toNat (Prod.fst x)) (0 : Int))) (Enc.list eI (List.length (M.mag (List.getD f (Int.toNat (Prod.fst x)) (0 : Int)))) (Enc.F eI (M.mag (List.getD f (Int.toNat (Prod.fst x)) (0 : Int)))))))) (Enc.F eI (M.mag (M.wv (Prod.fst (Prod.snd x)) (Enc.list eI (List.length (Prod.fst (Prod.snd (Prod.snd x)))) (Enc.F eI (Prod.fst (Prod.snd (Prod.snd x))))) * M.wv (M.sgn (List.getD f (Int.toNat (Prod.fst x)) (0 : Int))) (Enc.list eI (List.length (M.mag (List.getD f (Int.toNat (Prod.fst x)) (0 : Int)))) (Enc.F eI (M.mag (List.getD f (Int.toNat (Prod.fst x)) (0 : Int))))))))) ≤ (90000 : Nat)) (T.need (List.length (Enc.list eI (List.length (M.mag (M.wv (Prod.fst (Prod.snd (Prod.snd (Prod.snd x)))) (Enc.list eI (List.length (Prod.fst (Prod.snd (Prod.snd (Prod.snd (Prod.snd x)))))) (Enc.F eI (Prod.fst (Prod.snd (Prod.snd (Prod.snd (Prod.snd x))))))) * M.wv (M.sgn (IntKind.i64.wrap ((1000 : Int) * Scale.vol (List.getD sc (Int.toNat (Prod.fst x)) { vol := (0 : Int), l := (0 : Int), h := (0 : Int), least := (0 : Int) })))) (Enc.list eI (List.length (M.mag (IntKind.i64.wrap ((1000 : Int) * Scale.vol (List.getD sc (Int.toNat (Prod.fst x)) { vol := (0 : Int), l := (0 : Int), h := (0 : Int), least := (0 : Int) }))))) (Enc.F eI (M.mag (IntKind.i64.wrap ((1000 : Int) * Scale.vol (List.getD sc (Int.toNat (Prod.fst x)) { vol := (0 : Int), l := (0 : Int), h := (0 : Int), least := (0 : Int) }))))))))) (Enc.F eI (M.mag (M.wv (Prod.fst (Prod.snd (Prod.snd (Prod.snd x)))) (Enc.list eI (List.length (Prod.fst (Prod.snd (Prod.snd (Prod.snd (Prod.snd x)))))) (Enc.F eI (Prod.fst (Prod.snd (Prod.snd (Prod.snd (Prod.snd x))))))) * M.wv (M.sgn (IntKind.i64.wrap ((1000 : Int) * Scale.vol (List.getD sc (Int.toNat (Prod.fst x)) { vol := (0 : Int), l := (0 : Int), h := (0 : Int), least := (0 : Int) })))) (Enc.list eI (List.length (M.mag (IntKind.i64.wrap ((1000 : Int) * Scale.vol (List.getD sc (Int.toNat (Prod.fst x)) { vol := (0 : Int), l := (0 : Int), h := (0 : Int), least := (0 : Int) }))))) (Enc.F eI (M.mag (IntKind.i64.wrap ((1000 : Int) * Scale.vol (List.getD sc (Int.toNat (Prod.fst x)) { vol := (0 : Int), l := (0 : Int), h := (0 : Int), least := (0 : Int) })))))))))) ≤ (90000 : Nat)) (T.need (Enc.Is eI (List.length (Prod.fst (Prod.snd (Prod.snd (Prod.snd (Prod.snd x)))))) (Enc.F eI (Prod.fst (Prod.snd (Prod.snd (Prod.snd (Prod.snd x))))))) (T.need (Enc.Is eI (List.length (M.mag (List.getD f (Int.toNat (Prod.fst x)) (0 : Int)))) (Enc.F eI (M.mag (List.getD f (Int.toNat (Prod.fst x)) (0 : Int))))) (T.need (Can (Prod.fst (Prod.snd (Prod.snd (Prod.snd x)))) (Enc.list eI (List.length (Prod.fst (Prod.snd (Prod.snd (Prod.snd (Prod.snd x)))))) (Enc.F eI (Prod.fst (Prod.snd (Prod.snd (Prod.snd (Prod.snd x)))))))) (T.need (Can (M.sgn (List.getD f (Int.toNat (Prod.fst x)) (0 : Int))) (Enc.list eI (List.length (M.mag (List.getD f (Int.toNat (Prod.fst x)) (0 : Int)))) (Enc.F eI (M.mag (List.getD f (Int.toNat (Prod.fst x)) (0 : Int)))))) (T.need (List.length (Enc.list eI (List.length (Prod.fst (Prod.snd (Prod.snd (Prod.snd (Prod.snd x)))))) (Enc.F eI (Prod.fst (Prod.snd (Prod.snd (Prod.snd (Prod.snd x))))))) ≤ (90000 : Nat)) (T.need (List.length (Enc.list eI (List.length (M.mag (List.getD f (Int.toNat (Prod.fst x)) (0 : Int)))) (Enc.F eI (M.mag (List.getD f (Int.toNat (Prod.fst x)) (0 : Int))))) ≤ (90000 : Nat)) (T.need (Enc.Is eI (List.length (M.mag (M.wv (M.sgn (M.wv (Prod.fst (Prod.snd x)) (Enc.list eI (List.length (Prod.fst (Prod.snd (Prod.snd x)))) (Enc.F eI (Prod.fst (Prod.snd (Prod.snd x))))) * M.wv (M.sgn (List.getD f (Int.toNat (Prod.fst x)) (0 : Int))) (Enc.list eI (List.length (M.mag (List.getD f (Int.toNat (Prod.fst x)) (0 : Int)))) (Enc.F eI (M.mag (List.getD f (Int.toNat (Prod.fst x)) (0 : Int))))))) (Enc.list eI (List.length (M.mag (M.wv (Prod.fst (Prod.snd x)) (Enc.list eI (List.length (Prod.fst (Prod.snd (Prod.snd x)))) (Enc.F eI (Prod.fst (Prod.snd (Prod.snd x))))) * M.wv (M.sgn (List.getD f (Int.toNat (Prod.fst x)) (0 : Int))) (Enc.list eI (List.length (M.mag (List.getD f (Int.toNat (Prod.fst x)) (0 : Int)))) (Enc.F eI (M.mag (List.getD f (Int.toNat (Prod.fst x)) (0 : Int)))))))) (Enc.F eI (M.mag (M.wv (Prod.fst (Prod.snd x)) (Enc.list eI (List.length (Prod.fst (Prod.snd (Prod.snd x)))) (Enc.F eI (Prod.fst (Prod.snd (Prod.snd x))))) * M.wv (M.sgn (List.getD f (Int.toNat (Prod.fst x)) (0 : Int))) (Enc.list eI (List.length (M.mag (List.getD f (Int.toNat (Prod.fst x)) (0 : Int)))) (Enc.F eI (M.mag (List.getD f (Int.toNat (Prod.fst x)) (0 : Int))))))))) + M.wv (M.sgn (M.wv (Prod.fst (Prod.snd (Prod.snd (Prod.snd x)))) (Enc.list eI (List.length (Prod.fst (Prod.snd (Prod.snd (Prod.snd (Prod.snd x)))))) (Enc.F eI (Prod.fst (Prod.snd (Prod.snd (Prod.snd (Prod.snd x))))))) * M.wv (M.sgn (IntKind.i64.wrap ((1000 : Int) * Scale.vol (List.getD sc (Int.toNat (Prod.fst x)) { vol := (0 : Int), l := (0 : Int), h := (0 : Int), least := (0 : Int) })))) (Enc.list eI (List.length (M.mag (IntKind.i64.wrap ((1000 : Int) * Scale.vol (List.getD sc (Int.toNat (Prod.fst x)) { vol := (0 : Int), l := (0 : Int), h := (0 : Int), least := (0 : Int) }))))) (Enc.F eI (M.mag (IntKind.i64.wrap ((1000 : Int) * Scale.vol (List.getD sc (Int.toNat (Prod.fst x)) { vol := (0 : Int), l := (0 : Int), h := (0 : Int), least := (0 : Int) })))))))) (Enc.list eI (List.length (M.mag (M.wv (Prod.fst (Prod.snd (Prod.snd (Prod.snd x)))) (Enc.list eI (List.length (Prod.fst (Prod.snd (Prod.snd (Prod.snd (Prod.snd x)))))) (Enc.F eI (Prod.fst (Prod.snd (Prod.snd (Prod.snd (Prod.snd x))))))) * M.wv (M.sgn (IntKind.i64.wrap ((1000 : Int) * Scale.vol (List.getD sc (Int.toNat (Prod.fst x)) { vol := (0 : Int), l := (0 : Int), h := (0 : Int), least := (0 : Int) })))) (Enc.list eI (List.length (M.mag (IntKind.i64.wrap ((1000 : Int) * Scale.vol (List.getD sc (Int.toNat (Prod.fst x)) { vol := (0 : Int), l := (0 : Int), h := (0 : Int), least := (0 : Int) }))))) (Enc.F eI (M.mag (IntKind.i64.wrap ((1000 : Int) * Scale.vol (List.getD sc (Int.toNat (Prod.fst x)) { vol := (0 : Int), l := (0 : Int), h := (0 : Int), least := (0 : Int) }))))))))) (Enc.F eI (M.mag (M.wv (Prod.fst (Prod.snd (Prod.snd (Prod.snd x)))) (Enc.list eI (List.length (Prod.fst (Prod.snd (Prod.snd (Prod.snd (Prod.snd x)))))) (Enc.F eI (Prod.fst (Prod.snd (Prod.snd (Prod.snd (Prod.snd x))))))) * M.wv (M.sgn (IntKind.i64.wrap ((1000 : Int) * Scale.vol (List.getD sc (Int.toNat (Prod.fst x)) { vol := (0 : Int), l := (0 : Int), h := (0 : Int), least := (0 : Int) })))) (Enc.list eI (List.length (M.mag (IntKind.i64.wrap ((1000 : Int) * Scale.vol (List.getD sc (Int.toNat (Prod.fst x)) { vol := (0 : Int), l := (0 : Int), h := (0 : Int), least := (0 : Int) }))))) (Enc.F eI (M.mag (IntKind.i64.wrap ((1000 : Int) * Scale.vol (List.getD sc (Int.toNat (Prod.fst x)) { vol := (0 : Int), l := (0 : Int), h := (0 : Int), least := (0 : Int) }))))))))))))) (Enc.F eI (M.mag (M.wv (M.sgn (M.wv (Prod.fst (Prod.snd x)) (Enc.list eI (List.length (Prod.fst (Prod.snd (Prod.snd x)))) (Enc.F eI (Prod.fst (Prod.snd (Prod.snd x))))) * M.wv (M.sgn (List.getD f (Int.toNat (Prod.fst x)) (0 : Int))) (Enc.list eI (List.length (M.mag (List.getD f (Int.toNat (Prod.fst x)) (0 : Int)))) (Enc.F eI (M.mag (List.getD f (Int.toNat (Prod.fst x)) (0 : Int))))))) (Enc.list eI (List.length (M.mag (M.wv (Prod.fst (Prod.snd x)) (Enc.list eI (List.length (Prod.fst (Prod.snd (Prod.snd x)))) (Enc.F eI (Prod.fst (Prod.snd (Prod.snd x))))) * M.wv (M.sgn (List.getD f (Int.toNat (Prod.fst x)) (0 : Int))) (Enc.list eI (List.length (M.mag (List.getD f (Int.toNat (Prod.fst x)) (0 : Int)))) (Enc.F eI (M.mag (List.getD f (Int.toNat (Prod.fst x)) (0 : Int)))))))) (Enc.F eI (M.mag (M.wv (Prod.fst (Prod.snd x)) (Enc.list eI (List.length (Prod.fst (Prod.snd (Prod.snd x)))) (Enc.F eI (Prod.fst (Prod.snd (Prod.snd x))))) * M.wv (M.sgn (List.getD f (Int.toNat (Prod.fst x)) (0 : Int))) (Enc.list eI (List.length (M.mag (List.getD f (Int.toNat (Prod.fst x)) (0 : Int)))) (Enc.F eI (M.mag (List.getD f (Int.toNat (Prod.fst x)) (0 : Int))))))))) + M.wv (M.sgn (M.wv (Prod.fst (Prod.snd (Prod.snd (Prod.snd x)))) (Enc.list eI (List.length (Prod.fst (Prod.snd (Prod.snd (Prod.snd (Prod.snd x)))))) (Enc.F eI (Prod.fst (Prod.snd (Prod.snd (Prod.snd (Prod.snd x))))))) * M.wv (M.sgn (IntKind.i64.wrap ((1000 : Int) * Scale.vol (List.getD sc (Int.toNat (Prod.fst x)) { vol := (0 : Int), l := (0 : Int), h := (0 : Int), least := (0 : Int) })))) (Enc.list eI (List.length (M.mag (IntKind.i64.wrap ((1000 : Int) * Scale.vol (List.getD sc (Int.toNat (Prod.fst x)) { vol := (0 : Int), l := (0 : Int), h := (0 : Int), least := (0 : Int) }))))) (Enc.F eI (M.mag (IntKind.i64.wrap ((1000 : Int) * Scale.vol (List.getD sc (Int.toNat (Prod.fst x)) { vol := (0 : Int), l := (0 : Int), h := (0 : Int), least := (0 : Int) })))))))) (Enc.list eI (List.length (M.mag (M.wv (Prod.fst (Prod.snd (Prod.snd (Prod.snd x)))) (Enc.list eI (List.length (Prod.fst (Prod.snd (Prod.snd (Prod.snd (Prod.snd x)))))) (Enc.F eI (Prod.fst (Prod.snd (Prod.snd (Prod.snd (Prod.snd x))))))) * M.wv (M.sgn (IntKind.i64.wrap ((1000 : Int) * Scale.vol (List.getD sc (Int.toNat (Prod.fst x)) { vol := (0 : Int), l := (0 : Int), h := (0 : Int), least := (0 : Int) })))) (Enc.list eI (List.length (M.mag (IntKind.i64.wrap ((1000 : Int) * Scale.vol (List.getD sc (Int.toNat (Prod.fst x)) { vol := (0 : Int), l := (0 : Int), h := (0 : Int), least := (0 : Int) }))))) (Enc.F eI (M.mag (IntKind.i64.wrap ((1000 : Int) * Scale.vol (List.getD sc (Int.toNat (Prod.fst x)) { vol := (0 : Int), l := (0 : Int), h := (0 : Int), least := (0 : Int) }))))))))) (Enc.F eI (M.mag (M.wv (Prod.fst (Prod.snd (Prod.snd (Prod.snd x)))) (Enc.list eI (List.length (Prod.fst (Prod.snd (Prod.snd (Prod.snd (Prod.snd x)))))) (Enc.F eI (Prod.fst (Prod.snd (Prod.snd (Prod.snd (Prod.snd x))))))) * M.wv (M.sgn (IntKind.i64.wrap ((1000 : Int) * Scale.vol (List.getD sc (Int.toNat (Prod.fst x)) { vol := (0 : Int), l := (0 : Int), h := (0 : Int), least := (0 : Int) })))) (Enc.list eI (List.length (M.mag (IntKind.i64.wrap ((1000 : Int) * Scale.vol (List.getD sc (Int.toNat (Prod.fst x)) { vol := (0 : Int), l := (0 : Int), h := (0 : Int), least := (0 : Int) }))))) (Enc.F eI (M.mag (IntKind.i64.wrap ((1000 : Int) * Scale.vol (List.getD sc (Int.toNat (Prod.fst x)) { vol := (0 : Int), l := (0 : Int), h := (0 : Int), least := (0 : Int) })))))))))))))) (T.need (Enc.Is eI (List.length (M.mag (M.wv (Prod.fst (Prod.snd (Prod.snd (Prod.snd x)))) (Enc.list eI (List.length (Prod.fst (Prod.snd (Prod.snd (Prod.snd (Prod.snd x)))))) (Enc.F eI (Prod.fst (Prod.snd (Prod.snd (Prod.snd (Prod.snd x))))))) * M.wv (M.sgn (List.getD f (Int.toNat (Prod.fst x)) (0 : Int))) (Enc.list eI (List.length (M.mag (List.getD f (Int.toNat (Prod.fst x)) (0 : Int)))) (Enc.F eI (M.mag (List.getD f (Int.toNat (Prod.fst x)) (0 : Int)))))))) (Enc.F eI (M.mag (M.wv (Prod.fst (Prod.snd (Prod.snd (Prod.snd x)))) (Enc.list eI (List.length (Prod.fst (Prod.snd (Prod.snd (Prod.snd (Prod.snd x)))))) (Enc.F eI (Prod.fst (Prod.snd (Prod.snd (Prod.snd (Prod.snd x))))))) * M.wv (M.sgn (List.getD f (Int.toNat (Prod.fst x)) (0 : Int))) (Enc.list eI (List.length (M.mag (List.getD f (Int.toNat (Prod.fst x)) (0 : Int)))) (Enc.F eI (M.mag (List.getD f (Int.toNat (Prod.fst x)) (0 : Int))))))))) (T.ret (Sum.inl (IntKind.i64.wrap (Prod.fst x + (1 : Int)), M.sgn (M.wv (M.sgn (M.wv (Prod.fst (Prod.snd x)) (Enc.list eI (List.length (Prod.fst (Prod.snd (Prod.snd x)))) (Enc.F eI (Prod.fst (Prod.snd (Prod.snd x))))) * M.wv (M.sgn (List.getD f (Int.toNat (Prod.fst x)) (0 : Int))) (Enc.list eI (List.length (M.mag (List.getD f (Int.toNat (Prod.fst x)) (0 : Int)))) (Enc.F eI (M.mag (List.getD f (Int.toNat (Prod.fst x)) (0 : Int))))))) (Enc.list eI (List.length (M.mag (M.wv (Prod.fst (Prod.snd x)) (Enc.list eI (List.length (Prod.fst (Prod.snd (Prod.snd x)))) (Enc.F eI (Prod.fst (Prod.snd (Prod.snd x))))) * M.wv (M.sgn (List.getD f (Int.toNat (Prod.fst x)) (0 : Int))) (Enc.list eI (List.length (M.mag (List.getD f (Int.toNat (Prod.fst x)) (0 : Int)))) (Enc.F eI (M.mag (List.getD f (Int.toNat (Prod.fst x)) (0 : Int)))))))) (Enc.F eI (M.mag (M.wv (Prod.fst (Prod.snd x)) (Enc.list eI (List.length (Prod.fst (Prod.snd (Prod.snd x)))) (Enc.F eI (Prod.fst (Prod.snd (Prod.snd x))))) * M.wv (M.sgn (List.getD f (Int.toNat (Prod.fst x)) (0 : Int))) (Enc.list eI (List.length (M.mag (List.getD f (Int.toNat (Prod.fst x)) (0 : Int)))) (Enc.F eI (M.mag (List.getD f (Int.toNat (Prod.fst x)) (0 : Int))))))))) + M.wv (M.sgn (M.wv (Prod.fst (Prod.snd (Prod.snd (Prod.snd x)))) (Enc.list eI (List.length (Prod.fst (Prod.snd (Prod.snd (Prod.snd (Prod.snd x)))))) (Enc.F eI (Prod.fst (Prod.snd (Prod.snd (Prod.snd (Prod.snd x))))))) * M.wv (M.sgn (IntKind.i64.wrap ((1000 : Int) * Scale.vol (List.getD sc (Int.toNat (Prod.fst x)) { vol := (0 : Int), l := (0 : Int), h := (0 : Int), least := (0 : Int) })))) (Enc.list eI (List.length (M.mag (IntKind.i64.wrap ((1000 : Int) * Scale.vol (List.getD sc (Int.toNat (Prod.fst x)) { vol := (0 : Int), l := (0 : Int), h := (0 : Int), least := (0 : Int) }))))) (Enc.F eI (M.mag (IntKind.i64.wrap ((1000 : Int) * Scale.vol (List.getD sc (Int.toNat (Prod.fst x)) { vol := (0 : Int), l := (0 : Int), h := (0 : Int), least := (0 : Int) })))))))) (Enc.list eI (List.length (M.mag (M.wv (Prod.fst (Prod.snd (Prod.snd (Prod.snd x)))) (Enc.list eI (List.length (Prod.fst (Prod.snd (Prod.snd (Prod.snd (Prod.snd x)))))) (Enc.F eI (Prod.fst (Prod.snd (Prod.snd (Prod.snd (Prod.snd x))))))) * M.wv (M.sgn (IntKind.i64.wrap ((1000 : Int) * Scale.vol (List.getD sc (Int.toNat (Prod.fst x)) { vol := (0 : Int), l := (0 : Int), h := (0 : Int), least := (0 : Int) })))) (Enc.list eI (List.length (M.mag (IntKind.i64.wrap ((1000 : Int) * Scale.vol (List.getD sc (Int.toNat (Prod.fst x)) { vol := (0 : Int), l := (0 : Int), h := (0 : Int), least := (0 : Int) }))))) (Enc.F eI (M.mag (IntKind.i64.wrap ((1000 : Int) * Scale.vol (List.getD sc (Int.toNat (Prod.fst x)) { vol := (0 : Int), l := (0 : Int), h := (0 : Int), least := (0 : Int) }))))))))) (Enc.F eI (M.mag (M.wv (Prod.fst (Prod.snd (Prod.snd (Prod.snd x)))) (Enc.list eI (List.length (Prod.fst (Prod.snd (Prod.snd (Prod.snd (Prod.snd x)))))) (Enc.F eI (Prod.fst (Prod.snd (Prod.snd (Prod.snd (Prod.snd x))))))) * M.wv (M.sgn (IntKind.i64.wrap ((1000 : Int) * Scale.vol (List.getD sc (Int.toNat (Prod.fst x)) { vol := (0 : Int), l := (0 : Int), h := (0 : Int), least := (0 : Int) })))) (Enc.list eI (List.length (M.mag (IntKind.i64.wrap ((1000 : Int) * Scale.vol (List.getD sc (Int.toNat (Prod.fst x)) { vol := (0 : Int), l := (0 : Int), h := (0 : Int), least := (0 : Int) }))))) (Enc.F eI (M.mag (IntKind.i64.wrap ((1000 : Int) * Scale.vol (List.getD sc (Int.toNat (Prod.fst x)) { vol := (0 : Int), l := (0 : Int), h := (0 : Int), least := (0 : Int) }))))))))))), Enc.list eI (List.length (M.mag (M.wv (M.sgn (M.wv (Prod.fst (Prod.snd x)) (Enc.list eI (List.length (Prod.fst (Prod.snd (Prod.snd x)))) (Enc.F eI (Prod.fst (Prod.snd (Prod.snd x))))) * M.wv (M.sgn (List.getD f (Int.toNat (Prod.fst x)) (0 : Int))) (Enc.list eI (List.length (M.mag (List.getD f (Int.toNat (Prod.fst x)) (0 : Int)))) (Enc.F eI (M.mag (List.getD f (Int.toNat (Prod.fst x)) (0 : Int))))))) (Enc.list eI (List.length (M.mag (M.wv (Prod.fst (Prod.snd x)) (Enc.list eI (List.length (Prod.fst (Prod.snd (Prod.snd x)))) (Enc.F eI (Prod.fst (Prod.snd (Prod.snd x))))) * M.wv (M.sgn (List.getD f (Int.toNat (Prod.fst x)) (0 : Int))) (Enc.list eI (List.length (M.mag (List.getD f (Int.toNat (Prod.fst x)) (0 : Int)))) (Enc.F eI (M.mag (List.getD f (Int.toNat (Prod.fst x)) (0 : Int)))))))) (Enc.F eI (M.mag (M.wv (Prod.fst (Prod.snd x)) (Enc.list eI (List.length (Prod.fst (Prod.snd (Prod.snd x)))) (Enc.F eI (Prod.fst (Prod.snd (Prod.snd x))))) * M.wv (M.sgn (List.getD f (Int.toNat (Prod.fst x)) (0 : Int))) (Enc.list eI (List.length (M.mag (List.getD f (Int.toNat (Prod.fst x)) (0 : Int)))) (Enc.F eI (M.mag (List.getD f (Int.toNat (Prod.fst x)) (0 : Int))))))))) + M.wv (M.sgn (M.wv (Prod.fst (Prod.snd (Prod.snd (Prod.snd x)))) (Enc.list eI (List.length (Prod.fst (Prod.snd (Prod.snd (Prod.snd (Prod.snd x)))))) (Enc.F eI (Prod.fst (Prod.snd (Prod.snd (Prod.snd (Prod.snd x))))))) * M.wv (M.sgn (IntKind.i64.wrap ((1000 : Int) * Scale.vol (List.getD sc (Int.toNat (Prod.fst x)) { vol := (0 : Int), l := (0 : Int), h := (0 : Int), least := (0 : Int) })))) (Enc.list eI (List.length (M.mag (IntKind.i64.wrap ((1000 : Int) * Scale.vol (List.getD sc (Int.toNat (Prod.fst x)) { vol := (0 : Int), l := (0 : Int), h := (0 : Int), least := (0 : Int) }))))) (Enc.F eI (M.mag (IntKind.i64.wrap ((1000 : Int) * Scale.vol (List.getD sc (Int.toNat (Prod.fst x)) { vol := (0 : Int), l := (0 : Int), h := (0 : Int), least := (0 : Int) })))))))) (Enc.list eI (List.length (M.mag (M.wv (Prod.fst (Prod.snd (Prod.snd (Prod.snd x)))) (Enc.list eI (List.length (Prod.fst (Prod.snd (Prod.snd (Prod.snd (Prod.snd x)))))) (Enc.F eI (Prod.fst (Prod.snd (Prod.snd (Prod.snd (Prod.snd x))))))) * M.wv (M.sgn (IntKind.i64.wrap ((1000 : Int) * Scale.vol (List.getD sc (Int.toNat (Prod.fst x)) { vol := (0 : Int), l := (0 : Int), h := (0 : Int), least := (0 : Int) })))) (Enc.list eI (List.length (M.mag (IntKind.i64.wrap ((1000 : Int) * Scale.vol (List.getD sc (Int.toNat (Prod.fst x)) { vol := (0 : Int), l := (0 : Int), h := (0 : Int), least := (0 : Int) }))))) (Enc.F eI (M.mag (IntKind.i64.wrap ((1000 : Int) * Scale.vol (List.getD sc (Int.toNat (Prod.fst x)) { vol := (0 : Int), l := (0 : Int), h := (0 : Int), least := (0 : Int) }))))))))) (Enc.F eI (M.mag (M.wv (Prod.fst (Prod.snd (Prod.snd (Prod.snd x)))) (Enc.list eI (List.length (Prod.fst (Prod.snd (Prod.snd (Prod.snd (Prod.snd x)))))) (Enc.F eI (Prod.fst (Prod.snd (Prod.snd (Prod.snd (Prod.snd x))))))) * M.wv (M.sgn (IntKind.i64.wrap ((1000 : Int) * Scale.vol (List.getD sc (Int.toNat (Prod.fst x)) { vol := (0 : Int), l := (0 : Int), h := (0 : Int), least := (0 : Int) })))) (Enc.list eI (List.length (M.mag (IntKind.i64.wrap ((1000 : Int) * Scale.vol (List.getD sc (Int.toNat (Prod.fst x)) { vol := (0 : Int), l := (0 : Int), h := (0 : Int), least := (0 : Int) }))))) (Enc.F eI (M.mag (IntKind.i64.wrap ((1000 : Int) * Scale.vol (List.getD sc (Int.toNat (Prod.fst x)) { vol := (0 : Int), l := (0 : Int), h := (0 : Int), least := (0 : Int) }))))))))))))) (Enc.F eI (M.mag (M.wv (M.sgn (M.wv (Prod.fst (Prod.snd x)) (Enc.list eI (List.length (Prod.fst (Prod.snd (Prod.snd x)))) (Enc.F eI (Prod.fst (Prod.snd (Prod.snd x))))) * M.wv (M.sgn (List.getD f (Int.toNat (Prod.fst x)) (0 : Int))) (Enc.list eI (List.length (M.mag (List.getD f (Int.toNat (Prod.fst x)) (0 : Int)))) (Enc.F eI (M.mag (List.getD f (Int.toNat (Prod.fst x)) (0 : Int))))))) (Enc.list eI (List.length (M.mag (M.wv (Prod.fst (Prod.snd x)) (Enc.list eI (List.length (Prod.fst (Prod.snd (Prod.snd x)))) (Enc.F eI (Prod.fst (Prod.snd (Prod.snd x))))) * M.wv (M.sgn (List.getD f (Int.toNat (Prod.fst x)) (0 : Int))) (Enc.list eI (List.length (M.mag (List.getD f (Int.toNat (Prod.fst x)) (0 : Int)))) (Enc.F eI (M.mag (List.getD f (Int.toNat (Prod.fst x)) (0 : Int)))))))) (Enc.F eI (M.mag (M.wv (Prod.fst (Prod.snd x)) (Enc.list eI (List.length (Prod.fst (Prod.snd (Prod.snd x)))) (Enc.F eI (Prod.fst (Prod.snd (Prod.snd x))))) * M.wv (M.sgn (List.getD f (Int.toNat (Prod.fst x)) (0 : Int))) (Enc.list eI (List.length (M.mag (List.getD f (Int.toNat (Prod.fst x)) (0 : Int)))) (Enc.F eI (M.mag (List.getD f (Int.toNat (Prod.fst x)) (0 : Int))))))))) + M.wv (M.sgn (M.wv (Prod.fst (Prod.snd (Prod.snd (Prod.snd x)))) (Enc.list eI (List.length (Prod.fst (Prod.snd (Prod.snd (Prod.snd (Prod.snd x)))))) (Enc.F eI (Prod.fst (Prod.snd (Prod.snd (Prod.snd (Prod.snd x))))))) * M.wv (M.sgn (IntKind.i64.wrap ((1000 : Int) * Scale.vol (List.getD sc (Int.toNat (Prod.fst x)) { vol := (0 : Int), l := (0 : Int), h := (0 : Int), least := (0 : Int) })))) (Enc.list eI (List.length (M.mag (IntKind.i64.wrap ((1000 : Int) * Scale.vol (List.getD sc (Int.toNat (Prod.fst x)) { vol := (0 : Int), l := (0 : Int), h := (0 : Int), least := (0 : Int) }))))) (Enc.F eI (M.mag (IntKind.i64.wrap ((1000 : Int) * Scale.vol (List.getD sc (Int.toNat (Prod.fst x)) { vol := (0 : Int), l := (0 : Int), h := (0 : Int), least := (0 : Int) })))))))) (Enc.list eI (List.length (M.mag (M.wv (Prod.fst (Prod.snd (Prod.snd (Prod.snd x)))) (Enc.list eI (List.length (Prod.fst (Prod.snd (Prod.snd (Prod.snd (Prod.snd x)))))) (Enc.F eI (Prod.fst (Prod.snd (Prod.snd (Prod.snd (Prod.snd x))))))) * M.wv (M.sgn (IntKind.i64.wrap ((1000 : Int) * Scale.vol (List.getD sc (Int.toNat (Prod.fst x)) { vol := (0 : Int), l := (0 : Int), h := (0 : Int), least := (0 : Int) })))) (Enc.list eI (List.length (M.mag (IntKind.i64.wrap ((1000 : Int) * Scale.vol (List.getD sc (Int.toNat (Prod.fst x)) { vol := (0 : Int), l := (0 : Int), h := (0 : Int), least := (0 : Int) }))))) (Enc.F eI (M.mag (IntKind.i64.wrap ((1000 : Int) * Scale.vol (List.getD sc (Int.toNat (Prod.fst x)) { vol := (0 : Int), l := (0 : Int), h := (0 : Int), least := (0 : Int) }))))))))) (Enc.F eI (M.mag (M.wv (Prod.fst (Prod.snd (Prod.snd (Prod.snd x)))) (Enc.list eI (List.length (Prod.fst (Prod.snd (Prod.snd (Prod.snd (Prod.snd x)))))) (Enc.F eI (Prod.fst (Prod.snd (Prod.snd (Prod.snd (Prod.snd x))))))) * M.wv (M.sgn (IntKind.i64.wrap ((1000 : Int) * Scale.vol (List.getD sc (Int.toNat (Prod.fst x)) { vol := (0 : Int), l := (0 : Int), h := (0 : Int), least := (0 : Int) })))) (Enc.list eI (List.length (M.mag (IntKind.i64.wrap ((1000 : Int) * Scale.vol (List.getD sc (Int.toNat (Prod.fst x)) { vol := (0 : Int), l := (0 : Int), h := (0 : Int), least := (0 : Int) }))))) (Enc.F eI (M.mag (IntKind.i64.wrap ((1000 : Int) * Scale.vol (List.getD sc (Int.toNat (Prod.fst x)) { vol := (0 : Int), l := (0 : Int), h := (0 : Int), least := (0 : Int) }))))))))))))), M.sgn (M.wv (Prod.fst (Prod.snd (Prod.snd (Prod.snd x)))) (Enc.list eI (List.length (Prod.fst (Prod.snd (Prod.snd (Prod.snd (Prod.snd x)))))) (Enc.F eI (Prod.fst (Prod.snd (Prod.snd (Prod.snd (Prod.snd x))))))) * M.wv (M.sgn (List.getD f (Int.toNat (Prod.fst x)) (0 : Int))) (Enc.list eI (List.length (M.mag (List.getD f (Int.toNat (Prod.fst x)) (0 : Int)))) (Enc.F eI (M.mag (List.getD f (Int.toNat (Prod.fst x)) (0 : Int)))))), Enc.list eI (List.length (M.mag (M.wv (Prod.fst (Prod.snd (Prod.snd (Prod.snd x)))) (Enc.list eI (List.length (Prod.fst (Prod.snd (Prod.snd (Prod.snd (Prod.snd x)))))) (Enc.F eI (Prod.fst (Prod.snd (Prod.snd (Prod.snd (Prod.snd x))))))) * M.wv (M.sgn (List.getD f (Int.toNat (Prod.fst x)) (0 : Int))) (Enc.list eI (List.length (M.mag (List.getD f (Int.toNat (Prod.fst x)) (0 : Int)))) (Enc.F eI (M.mag (List.getD f (Int.toNat (Prod.fst x)) (0 : Int)))))))) (Enc.F eI (M.mag (M.wv (Prod.fst (Prod.snd (Prod.snd (Prod.snd x)))) (Enc.list eI (List.length (Prod.fst (Prod.snd (Prod.snd (Prod.snd (Prod.snd x)))))) (Enc.F eI (Prod.fst (Prod.snd (Prod.snd (Prod.snd (Prod.snd x))))))) * M.wv (M.sgn (List.getD f (Int.toNat (Prod.fst x)) (0 : Int))) (Enc.list eI (List.length (M.mag (List.getD f (Int.toNat (Prod.fst x)) (0 : Int)))) (Enc.F eI (M.mag (List.getD f (Int.toNat (Prod.fst x)) (0 : Int)))))))), PUnit.unit))))))))))))))))))))))))))))))))))))) (T.ret (Sum.inr [Ar.agg [D.int IntKind.i64 (Prod.fst (Prod.snd x)), D.sl false (List.length (Prod.fst (Prod.snd (Prod.snd x)))) (1 : Nat) (Enc.F eI (Prod.fst (Prod.snd (Prod.snd x))))], Ar.agg [D.int IntKind.i64 (Prod.fst (Prod.snd (Prod.snd (Prod.snd x)))), D.sl false (List.length (Prod.fst (Prod.snd (Prod.snd (Prod.snd (Prod.snd x)))))) (1 : Nat) (Enc.F eI (Prod.fst (Prod.snd (Prod.snd (Prod.snd (Prod.snd x))))))]]))))))))
theorem t99 (q_sc : Bool) (sc : List Scale) (new : Int) (q_f : Bool) (f : List Int) (i : Int) : runFnX Try.prog G0 (lookS [v101, v102, v159]) (fun _ => [(3, [.slot 10 (.int .i64), .blk 8 [.int .i64, .imE eI], .blk 9 [.int .i64, .imE eI]], none)]) [] 1 60 4 99 Try.f99 [.agg [.sl q_sc sc.length 4 (eSc.F sc), dI new], .c (.sl q_f f.length 1 (eI.F f)), .c (dI i)] =
    tr99 q_sc sc new q_f f i := by kernel_rfl
theorem w99 (qs : Bool) (sc : List Scale) (nw : Int) (qf : Bool) (f : List Int) (i : Int) (hl : f.length = sc.length) (h4 : f.length ≤ 4) (hi : 0 ≤ i ∧ i ≤ f.length) (hv : ∀ k, k < sc.length → 0 ≤ (sc.getD k dfS).vol ∧ (sc.getD k dfS).vol ≤ 20000) (hf : ∀ k, i.toNat ≤ k → k < f.length → 0 < f.getD k 0 ∧ f.getD k 0 ≤ 100000) :
    (tr99 qs sc nw qf f i).wp (fun rs => rsEqv rs [.agg [dI (M.sgn (M.stNum sc f i.toNat)), .sl false (M.mag (M.stNum sc f i.toNat)).length 1 (eI.F (M.mag (M.stNum sc f i.toNat)))], .agg [dI (M.sgn (M.stDen sc f i.toNat)), .sl false (M.mag (M.stDen sc f i.toNat)).length 1 (eI.F (M.mag (M.stDen sc f i.toNat)))]]) := by
  obtain ⟨j, rfl⟩ := Int.eq_ofNat_of_zero_le hi.1
  rw [Int.toNat_natCast] at hf ⊢
  unfold tr99
  simp only [Enc.list_F]
  refine ⟨by decide, by decide, by decide, by decide, Enc.is_F _ _ _, Enc.is_F _ _ _, ?_⟩
  refine ⟨fun x => ∃ (k : Nat) (N D : Int), x.1 = k ∧ j ≤ k ∧ k ≤ f.length ∧ x.2.1 = M.sgn N ∧ x.2.2.1 = M.mag N ∧ x.2.2.2.1 = M.sgn D ∧ x.2.2.2.2.1 = M.mag D ∧ StI sc f j k N D, fun x => f.length - x.1.toNat, ⟨j, 0, 1, rfl, Nat.le_refl _, by omega, rfl, rfl, rfl, rfl, ⟨Int.le_refl _, bp_pos _, by decide, by rw [bp_succ]; have := bp_pos j; omega, rfl⟩⟩, ?_⟩
  rintro ⟨k', s1, l1, s2, l2, u⟩ ⟨k, N, D, hk', hjk, hkf, e1, e2, e3, e4, hI⟩
  have hk' : k' = (k : Int) := hk'
  have e1 : s1 = M.sgn N := e1
  have e2 : l1 = M.mag N := e2
  have e3 : s2 = M.sgn D := e3
  have e4 : l2 = M.mag D := e4
  subst hk' e1 e2 e3 e4
  refine wp_br (fun hb => ?_) (fun hb => ?_)
  · have hlt := lt_of_dec hb
    have hv := hv k (by omega)
    have hf := hf k hjk hlt
    obtain ⟨p1, p2, p3⟩ := hI.step hlt hf hv
    have hw : IntKind.i64.wrap ((k : Int) + 1) = ((k + 1 : Nat) : Int) := wrap_succ (by omega)
    have hwv : IntKind.i64.wrap (1000 * (sc.getD k dfS).vol) = 1000 * (sc.getD k dfS).vol := wrap_id (by omega) (by omega)
    have hwv2 : IntKind.i64.wrap (1000 * (sc.getD k { vol := 0, l := 0, h := 0, least := 0 }).vol) = 1000 * (sc.getD k dfS).vol := hwv
    have n1 : (M.mag N).length ≤ 90000 := by have := mag_len hI.n0 hI.nb; omega
    have n2 : (M.mag D).length ≤ 90000 := by have := mag_len (Int.le_of_lt hI.d0) hI.db; omega
    have n3 : (M.mag (N * f.getD k 0)).length ≤ 90000 := by have := mag_len p1.1 p1.2; omega
    have n4 : (M.mag (D * (1000 * (sc.getD k dfS).vol))).length ≤ 90000 := by have := mag_len p2.1 p2.2; omega
    have n5 : (M.mag (f.getD k 0)).length ≤ 90000 := by have := mag_len (z := f.getD k 0) (n := 1) (by omega) (by rw [bp_one]; omega); omega
    have n6 : (M.mag (1000 * (sc.getD k dfS).vol)).length ≤ 90000 := by have := mag_len (z := 1000 * (sc.getD k dfS).vol) (n := 2) (by omega) (by rw [bp_two]; omega); omega
    dsimp only
    simp only [Int.toNat_natCast, hwv2, wv_mk]
    repeat (refine ⟨(by first | exact Enc.is_F _ _ _ | exact can_mag _ | assumption | omega), ?_⟩)
    refine ⟨⟨k + 1, _, _, hw, by omega, hlt, rfl, rfl, rfl, rfl, p3⟩, ?_⟩
    show f.length - (IntKind.i64.wrap ((k : Int) + 1)).toNat < f.length - (k : Int).toNat
    rw [hw]; omega
  · have hge := ge_of_dec hb
    obtain rfl : k = f.length := by omega
    have he := hI.e
    rw [Nat.sub_self] at he
    have hN : N = M.stNum sc f j := by unfold M.stNum; rw [← he]; rfl
    have hD : D = M.stDen sc f j := by unfold M.stDen; rw [← he]; rfl
    rw [← hN, ← hD]
    exact rsEqv_refl _
def dom99 : DomF
  | [.agg [.sl _ n_sc st_sc F_sc, .int .i64 new], .c (.sl _ n_f st_f F_f), .c (.int .i64 i)] => (match (Nat.beq st_sc 4 || Nat.beq n_sc 0) && (Nat.beq st_f 1 || Nat.beq n_f 0) with
    | true => some ([eSc.Is n_sc F_sc, eI.Is n_f F_f, (eI.list n_f F_f).length = (eSc.list n_sc F_sc).length, (eI.list n_f F_f).length ≤ 4, 0 ≤ i ∧ i ≤ (eI.list n_f F_f).length, ∀ k, k < (eSc.list n_sc F_sc).length → 0 ≤ ((eSc.list n_sc F_sc).getD k dfS).vol ∧ ((eSc.list n_sc F_sc).getD k dfS).vol ≤ 20000, ∀ k, i.toNat ≤ k → k < (eI.list n_f F_f).length → 0 < (eI.list n_f F_f).getD k 0 ∧ (eI.list n_f F_f).getD k 0 ≤ 100000], [.agg [dI (M.sgn (M.stNum (eSc.list n_sc F_sc) (eI.list n_f F_f) i.toNat)), .sl false (M.mag (M.stNum (eSc.list n_sc F_sc) (eI.list n_f F_f) i.toNat)).length 1 (eI.F (M.mag (M.stNum (eSc.list n_sc F_sc) (eI.list n_f F_f) i.toNat)))], .agg [dI (M.sgn (M.stDen (eSc.list n_sc F_sc) (eI.list n_f F_f) i.toNat)), .sl false (M.mag (M.stDen (eSc.list n_sc F_sc) (eI.list n_f F_f) i.toNat)).length 1 (eI.F (M.mag (M.stDen (eSc.list n_sc F_sc) (eI.list n_f F_f) i.toNat)))]])
    | _ => none)
  | _ => none
def v99 : Nat × Sm := (99, fokSm dom99)
theorem C99 : FOK Try.prog G0 gw 99 dom99 := by
  intro ags p r hd hp κ w xs hw hl hG hx
  unfold dom99 at hd
  split at hd
  · rename_i q_sc n_sc st_sc F_sc new q_f n_f st_f F_f i
    split at hd
    · rename_i hst
      simp only [Bool.and_eq_true] at hst
      obtain ⟨g1, g2⟩ := hst
      simp only [Option.some.injEq, Prod.mk.injEq] at hd
      obtain ⟨rfl, rfl⟩ := hd
      obtain ⟨hI_sc, hI_f, hp⟩ := hp
      have heq : agsEqv [.agg [.sl q_sc n_sc st_sc F_sc, .int .i64 new], .c (.sl q_f n_f st_f F_f), .c (.int .i64 i)] [.agg [.sl q_sc (eSc.list n_sc F_sc).length 4 (eSc.F (eSc.list n_sc F_sc)), .int .i64 new], .c (.sl q_f (eI.list n_f F_f).length 1 (eI.F (eI.list n_f F_f))), .c (.int .i64 i)] := ⟨⟨eSc.toz g1 hI_sc, rfl, trivial⟩, eI.toz g2 hI_f, Ag.eqv_refl _, trivial⟩
      have len_sc : (eSc.list n_sc F_sc).length = n_sc := eSc.list_len
      have len_f : (eI.list n_f F_f).length = n_f := eI.list_len
      generalize eSc.list n_sc F_sc = sc at *
      generalize eI.list n_f F_f = f at *
      subst len_sc len_f
      exact fokX_fin mixed gw_stable (sl := [v101, v102, v159]) ⟨S101, S102, S159, trivial⟩ Try.func99 hw hl hG hx heq rfl (t99 _ _ _ _ _ _) (w99 _ _ _ _ _ _ hp.1 hp.2.1 hp.2.2.1 hp.2.2.2.1 hp.2.2.2.2.1)
    · cases hd
  · cases hd
theorem S99 : SumOK Try.prog G0 gw 99 (fokSm dom99) := fok_sum Try.func99 rfl C99
end Go.Pl
end

section
set_option linter.unusedVariables false
set_option linter.unusedSimpArgs false
set_option maxRecDepth 100000
namespace Go.Pl
open Go.V Go.Proofs
theorem ends_at (g : Bool) (l : List Rg) (i : Nat) : (M.ends g l).getD i 0 = M.endOf g (l.getD i dfR) := by
  rcases Nat.lt_or_ge i l.length with h | h
  · exact ends_get h
  · rw [List.getD_eq_getElem?_getD, List.getElem?_eq_none (by rw [ends_len]; exact h), List.getD_eq_getElem?_getD, List.getElem?_eq_none h]
    cases g <;> rfl
theorem stG_eq (g : Bool) (sc : List Scale) (fl : List Rg) : ∀ (m i : Nat) (N D : Int), M.stG sc (M.ends g fl) m i N D = M.stN (M.endOf g) sc fl m i N D := by
  intro m
  induction m with
  | zero => intro i N D; rfl
  | succ m ih =>
    intro i N D
    simp only [M.stG, M.stN]
    rw [ends_at]
    exact ih _ _ _
theorem stN_bnd {g : Rg → Int} {sc : List Scale} {fl : List Rg} (hv : ∀ k, k < sc.length → 0 ≤ (sc.getD k dfS).vol ∧ (sc.getD k dfS).vol ≤ 20000) : ∀ (m i : Nat), i + m ≤ sc.length → (∀ k, i ≤ k → k < i + m → 0 < g (fl.getD k dfR) ∧ g (fl.getD k dfR) ≤ 100000) →
    0 ≤ (M.stN g sc fl m i 0 1).1 ∧ (M.stN g sc fl m i 0 1).1 ≤ (m : Int) * 20000000 * (M.stN g sc fl m i 0 1).2 ∧ 0 < (M.stN g sc fl m i 0 1).2 ∧ (M.stN g sc fl m i 0 1).2 ≤ bp m := by
  intro m
  induction m with
  | zero => intro i _ _; exact ⟨Int.le_refl _, by show (0 : Int) ≤ _; omega, by show (0 : Int) < 1; decide, Int.le_refl _⟩
  | succ m ih =>
    intro i him h
    obtain ⟨i1, i2, i3, i4⟩ := ih (i + 1) (by omega) fun k h1 h2 => h k (by omega) (by omega)
    have hv := hv i (by omega)
    have hy := h i (Nat.le_refl _) (by omega)
    rw [(stN_step m i).1, (stN_step m i).2]
    generalize (M.stN g sc fl m (i + 1) 0 1).1 = N at *
    generalize (M.stN g sc fl m (i + 1) 0 1).2 = D at *
    generalize g (fl.getD i dfR) = y at *
    generalize (sc.getD i dfS).vol = v at *
    have j1 : 0 ≤ 1000 * v * D := Int.mul_nonneg (by omega) (by omega)
    have j2 : 0 ≤ y * N := Int.mul_nonneg (by omega) i1
    have j3 : 0 < y * D := Int.mul_pos (by omega) i3
    have j4 : 1000 * v * D ≤ 20000000 * (y * D) := by
      have a1 : 1000 * v * D ≤ 20000000 * D := Int.mul_le_mul_of_nonneg_right (by omega) (by omega)
      have a2 : 1 * D ≤ y * D := Int.mul_le_mul_of_nonneg_right (by omega) (by omega)
      omega
    have j5 : y * N ≤ y * ((m : Int) * 20000000 * D) := Int.mul_le_mul_of_nonneg_left i2 (by omega)
    have j6 : y * ((m : Int) * 20000000 * D) = (m : Int) * 20000000 * (y * D) := by grind
    have j7 : ((m + 1 : Nat) : Int) * 20000000 * (y * D) = (m : Int) * 20000000 * (y * D) + 20000000 * (y * D) := by push_cast; grind
    have j8 : y * D ≤ 100000 * D := Int.mul_le_mul_of_nonneg_right hy.2 (by omega)
    refine ⟨by omega, by omega, j3, ?_⟩
    rw [bp_succ]
    omega
theorem st_row {sc : List Scale} {fl : List Rg} (h4 : sc.length ≤ 4) (hfl : fl.length = sc.length) (hv : ∀ k, k < sc.length → 0 ≤ (sc.getD k dfS).vol ∧ (sc.getD k dfS).vol ≤ 20000) (g : Bool) {k : Nat} (hg : ∀ j, k ≤ j → j < sc.length → 0 < M.endOf g (fl.getD j dfR) ∧ M.endOf g (fl.getD j dfR) ≤ 100000) (hk : k < sc.length) :
    (M.mag (M.stNum sc (M.ends g fl) k)).length ≤ 80000 ∧ (M.mag (M.stDen sc (M.ends g fl) k)).length ≤ 80000 ∧ 0 < M.stDen sc (M.ends g fl) k ∧
    (M.toI (M.stNum sc (M.ends g fl) k / M.stDen sc (M.ends g fl) k) = M.stNum sc (M.ends g fl) k / M.stDen sc (M.ends g fl) k ∧ 0 ≤ M.stNum sc (M.ends g fl) k / M.stDen sc (M.ends g fl) k ∧ M.stNum sc (M.ends g fl) k / M.stDen sc (M.ends g fl) k ≤ 80000000) ∧
    (M.toI (-M.stNum sc (M.ends g fl) k / M.stDen sc (M.ends g fl) k) = -M.stNum sc (M.ends g fl) k / M.stDen sc (M.ends g fl) k ∧ -80000000 ≤ -M.stNum sc (M.ends g fl) k / M.stDen sc (M.ends g fl) k ∧ -M.stNum sc (M.ends g fl) k / M.stDen sc (M.ends g fl) k ≤ 0) ∧
    M.stDen sc (M.ends g fl) k ≤ bp (sc.length - k) := by
  have e1 : M.stNum sc (M.ends g fl) k = (M.stN (M.endOf g) sc fl (sc.length - k) k 0 1).1 := by unfold M.stNum; rw [stG_eq, ends_len, hfl]
  have e2 : M.stDen sc (M.ends g fl) k = (M.stN (M.endOf g) sc fl (sc.length - k) k 0 1).2 := by unfold M.stDen; rw [stG_eq, ends_len, hfl]
  obtain ⟨b1, b2, b3, b4⟩ := stN_bnd hv (g := M.endOf g) (fl := fl) (sc.length - k) k (by omega) (fun j h1 h2 => hg j h1 (by omega))
  rw [← e1, ← e2] at b2
  rw [← e1] at b1
  rw [← e2] at b3 b4
  generalize M.stNum sc (M.ends g fl) k = N at *
  generalize M.stDen sc (M.ends g fl) k = D at *
  have hm : ((sc.length - k : Nat) : Int) ≤ 4 := by omega
  have b5 : N ≤ 80000000 * D := by
    have : ((sc.length - k : Nat) : Int) * 20000000 * D ≤ 80000000 * D := Int.mul_le_mul_of_nonneg_right (by omega) (by omega)
    omega
  have l1 : (M.mag D).length ≤ sc.length - k + 1 := mag_len (by omega) (by rw [bp_succ]; have := bp_pos (sc.length - k); omega)
  have l2 : (M.mag N).length ≤ sc.length - k + 1 + 1 := mag_len b1 (by rw [bp_succ, bp_succ]; have := bp_pos (sc.length - k); omega)
  have q1 : 0 ≤ N / D := Int.ediv_nonneg b1 (by omega)
  have q2 : N / D ≤ 80000000 := Int.le_trans (Int.ediv_le_ediv b3 b5) (by rw [Int.mul_ediv_cancel _ (by omega)]; exact Int.le_refl _)
  have q3 : -80000000 ≤ -N / D := (Int.le_ediv_iff_mul_le b3).2 (by omega)
  have q4 : -N / D ≤ 0 := by
    have : -N / D < 1 := (Int.ediv_lt_iff_lt_mul b3).2 (by omega)
    omega
  have ft : ∀ z : Int, -80000000 ≤ z → z ≤ 80000000 → M.toI z = z := fun z h1 h2 => toI_t (by unfold M.fits; exact decide_eq_true (by omega))
  exact ⟨by omega, by omega, b3, ⟨ft _ (by omega) q2, q1, q2⟩, ⟨ft _ q3 (by omega), q3, q4⟩, b4⟩
def dom38 : DomF
  | [.agg [.sl _ n_sc st_sc F_sc, .int .i64 new], .c (.int .i64 d)] => (match (Nat.beq st_sc 4 || Nat.beq n_sc 0) with
    | true => some ([eSc.Is n_sc F_sc, (M.checkSys (eSc.list n_sc F_sc) new).2 = 0, M.drawErr d = 0], [.c (.sl false (M.stX (eSc.list n_sc F_sc) new d).1.length 2 (eRg.F (M.stX (eSc.list n_sc F_sc) new d).1)), rI (M.stX (eSc.list n_sc F_sc) new d).2])
    | _ => none)
  | _ => none
def v38 : Nat × Sm := (38, fokSm dom38)
end Go.Pl
end

section
set_option linter.unusedVariables false
set_option linter.unusedSimpArgs false
set_option maxRecDepth 100000
namespace Go.Pl
open Go.V Go.Proofs
namespace M
def flowsX (sc : List Scale) (nw d : Int) : List Rg × Int := cond (first [(checkSys sc nw).2, drawErr d] != 0) ([], first [(checkSys sc nw).2, drawErr d]) (flows sc d, 0)
end M
def dom34 : DomF
  | [.agg [.sl _ n_sc st_sc F_sc, .int .i64 new], .c (.int .i64 d)] => (match (Nat.beq st_sc 4 || Nat.beq n_sc 0) with
    | true => some ([eSc.Is n_sc F_sc, (eSc.list n_sc F_sc).length ≤ 100000], [.c (.sl false (M.flowsX (eSc.list n_sc F_sc) new d).1.length 2 (eRg.F (M.flowsX (eSc.list n_sc F_sc) new d).1)), rI (M.flowsX (eSc.list n_sc F_sc) new d).2])
    | _ => none)
  | _ => none
def v34 : Nat × Sm := (34, fokSm dom34)
end Go.Pl
end

section
set_option linter.unusedVariables false
set_option linter.unusedSimpArgs false
set_option maxRecDepth 100000
namespace Go.Pl
open Go.V Go.Proofs
def k5_1 (sc : List Scale) := Enc.list eSc ((0 : Nat) + List.length sc) (joinF (0 : Nat) (fun (i j : Nat) => List.getD [] (i * (4 : Nat) + j) D.nilp) (Enc.F eSc sc))
def k5_2 (sc : List Scale) (new : Int) (d : Int) := Prod.fst (M.stX (Enc.list eSc (List.length sc) (Enc.F eSc sc)) new d)
def tr5 (q_sc : Bool) (sc : List Scale) (new : Int) (d : Int) : T (List Ar) :=
    T.br (!true) (T.ret [Ar.c (D.bool false)]) (T.need (Enc.Is eSc (List.length sc) (Enc.F eSc sc)) (T.br (!decide ((Nat.cast (R := Int) (List.length (Enc.list eSc (List.length sc) (Enc.F eSc sc)))) ≤ (6 : Int))) (T.ret [Ar.c (D.bool true)]) (T.need ((0 : Nat) + List.length sc ≤ (1000000 : Nat)) (T.need ((0 : Nat) + List.length sc ≤ (0 : Nat) + List.length sc) (T.need (Enc.Is eSc ((0 : Nat) + List.length sc) (joinF (0 : Nat) (fun (i j : Nat) => List.getD [] (i * (4 : Nat) + j) D.nilp) (Enc.F eSc sc))) (T.need (List.length (k5_1 sc) ≤ (100000 : Nat)) (T.need ((0 : Nat) + List.length sc ≤ (1000000 : Nat)) (T.need ((0 : Nat) + List.length sc ≤ (0 : Nat) + List.length sc) (T.need (Enc.Is eSc ((0 : Nat) + List.length sc) (joinF (0 : Nat) (fun (i j : Nat) => List.getD [] (i * (4 : Nat) + j) D.nilp) (Enc.F eSc sc))) (T.need (List.length (k5_1 sc) ≤ (100000 : Nat)) (T.need ((0 : Nat) + List.length sc ≤ (1000000 : Nat)) (T.need ((0 : Nat) + List.length sc ≤ (0 : Nat) + List.length sc) (T.need (Enc.Is eSc ((0 : Nat) + List.length sc) (joinF (0 : Nat) (fun (i j : Nat) => List.getD [] (i * (4 : Nat) + j) D.nilp) (Enc.F eSc sc))) (T.need (List.length (k5_1 sc) ≤ (100000 : Nat)) (T.need (Enc.Is eSc (List.length sc) (Enc.F eSc sc)) (T.need (List.length (Enc.list eSc (List.length sc) (Enc.F eSc sc)) ≤ (100000 : Nat)) (T.br (Prod.snd (M.checkSys (k5_1 sc) new) != Prod.snd (M.checkSys (Enc.list eSc (List.length sc) (Enc.F eSc sc)) new)) (T.ret [Ar.c (D.bool false)]) (T.br (Prod.fst (M.checkSys (k5_1 sc) new) != Prod.fst (M.checkSys (Enc.list eSc (List.length sc) (Enc.F eSc sc)) new)) (T.ret [Ar.c (D.bool false)]) (T.br (Prod.snd (M.checkSys (Enc.list eSc (List.length sc) (Enc.F eSc sc)) new) == (0 : Int)) (T.br (M.drawErr d != (0 : Int)) (T.br (Prod.snd (M.flowsX (k5_1 sc) new d) == M.drawErr d) (T.br (Prod.snd (M.stRes (k5_1 sc) new d) == M.drawErr d) (T.ret [Ar.c (D.bool (IntKind.i64.wrap ((Nat.cast (R := Int) (List.length (Prod.fst (M.flowsX (k5_1 sc) new d)))) + (Nat.cast (R := Int) (List.length (Prod.fst (M.stRes (k5_1 sc) new d))))) == (0 : Int)))]) (T.ret [Ar.c (D.bool false)])) (T.ret [Ar.c (D.bool false)])) (T.need (Enc.Is eSc (List.length sc) (Enc.F eSc sc)) (T.need (Prod.snd (M.checkSys (Enc.list eSc (List.length sc) (Enc.F eSc sc)) new) = (0 : Int)) (T.need (M.drawErr d = (0 : Int)) (T.br (Prod.snd (M.flowsX (k5_1 sc) new d) == (0 : Int)) (T.need (Enc.Is eSc (List.length sc) (Enc.F eSc sc)) (T.need (List.length (Enc.list eSc (List.length sc) (Enc.F eSc sc)) ≤ (100000 : Nat)) (T.need (Enc.Is eRg (List.length (Prod.fst (M.flowsX (k5_1 sc) new d))) (Enc.F eRg (Prod.fst (M.flowsX (k5_1 sc) new d)))) (T.need (Enc.Is eRg (List.length (M.flows (Enc.list eSc (List.length sc) (Enc.F eSc sc)) d)) (Enc.F eRg (M.flows (Enc.list eSc (List.length sc) (Enc.F eSc sc)) d))) (T.need (Enc.list eRg (List.length (Prod.fst (M.flowsX (k5_1 sc) new d))) (Enc.F eRg (Prod.fst (M.flowsX (k5_1 sc) new d))) = Enc.list eRg (List.length (M.flows (Enc.list eSc (List.length sc) (Enc.F eSc sc)) d)) (Enc.F eRg (M.flows (Enc.list eSc (List.length sc) (Enc.F eSc sc)) d))) (T.need (List.length (Enc.list eRg (List.length (Prod.fst (M.flowsX (k5_1 sc) new d))) (Enc.F eRg (Prod.fst (M.flowsX (k5_1 sc) new d)))) ≤ (100000 : Nat)) (T.br true (T.br (Prod.snd (M.stRes (k5_1 sc) new d) == Prod.snd (M.stX (Enc.list eSc (List.length sc) (Enc.F eSc sc)) new d)) (T.need (Enc.Is eRg (List.length (Prod.fst (M.stRes (k5_1 sc) new d))) (Enc.F eRg (Prod.fst (M.stRes (k5_1 sc) new d)))) (T.need (Enc.Is eRg (List.length (k5_2 sc new d)) (Enc.F eRg (k5_2 sc new d))) (T.need (Enc.list eRg (List.length (Prod.fst (M.stRes (k5_1 sc) new d))) (Enc.F eRg (Prod.fst (M.stRes (k5_1 sc) new d))) = Enc.list eRg (List.length (k5_2 sc new d)) (Enc.F eRg (k5_2 sc new d))) (T.need (List.length (Enc.list eRg (List.length (Prod.fst (M.stRes (k5_1 sc) new d))) (Enc.F eRg (Prod.fst (M.stRes (k5_1 sc) new d)))) ≤ (100000 : Nat)) (T.ret [Ar.c (D.bool true)]))))) (T.ret [Ar.c (D.bool false)])) (T.ret [Ar.c (D.bool false)])))))))) (T.ret [Ar.c (D.bool false)])))))) (T.br (Prod.snd (M.checkSys (Enc.list eSc (List.length sc) (Enc.F eSc sc)) new) != (0 : Int)) (T.br (Prod.snd (M.flowsX (k5_1 sc) new d) == Prod.snd (M.checkSys (Enc.list eSc (List.length sc) (Enc.F eSc sc)) new)) (T.br (Prod.snd (M.stRes (k5_1 sc) new d) == Prod.snd (M.checkSys (Enc.list eSc (List.length sc) (Enc.F eSc sc)) new)) (T.ret [Ar.c (D.bool (IntKind.i64.wrap ((Nat.cast (R := Int) (List.length (Prod.fst (M.flowsX (k5_1 sc) new d)))) + (Nat.cast (R := Int) (List.length (Prod.fst (M.stRes (k5_1 sc) new d))))) == (0 : Int)))]) (T.ret [Ar.c (D.bool false)])) (T.ret [Ar.c (D.bool false)])) (T.need (Enc.Is eSc (List.length sc) (Enc.F eSc sc)) (T.need (Prod.snd (M.checkSys (Enc.list eSc (List.length sc) (Enc.F eSc sc)) new) = (0 : Int)) (T.need (M.drawErr d = (0 : Int)) (T.br (Prod.snd (M.flowsX (k5_1 sc) new d) == (0 : Int)) (T.need (Enc.Is eSc (List.length sc) (Enc.F eSc sc)) (T.need (List.length (Enc.list eSc (List.length sc) (Enc.F eSc sc)) ≤ (100000 : Nat)) (T.need (Enc.Is eRg (List.length (Prod.fst (M.flowsX (k5_1 sc) new d))) (Enc.F eRg (Prod.fst (M.flowsX (k5_1 sc) new d)))) (T.need (Enc.Is eRg (List.length (M.flows (Enc.list eSc (List.length sc) (Enc.F eSc sc)) d)) (Enc.F eRg (M.flows (Enc.list eSc (List.length sc) (Enc.F eSc sc)) d))) (T.need (Enc.list eRg (List.length (Prod.fst (M.flowsX (k5_1 sc) new d))) (Enc.F eRg (Prod.fst (M.flowsX (k5_1 sc) new d))) = Enc.list eRg (List.length (M.flows (Enc.list eSc (List.length sc) (Enc.F eSc sc)) d)) (Enc.F eRg (M.flows (Enc.list eSc (List.length sc) (Enc.F eSc sc)) d))) (T.need (List.length (Enc.list eRg (List.length (Prod.fst (M.flowsX (k5_1 sc) new d))) (Enc.F eRg (Prod.fst (M.flowsX (k5_1 sc) new d)))) ≤ (100000 : Nat)) (T.br true (T.br (Prod.snd (M.stRes (k5_1 sc) new d) == Prod.snd (M.stX (Enc.list eSc (List.length sc) (Enc.F eSc sc)) new d)) (T.need (Enc.Is eRg (List.length (Prod.fst (M.stRes (k5_1 sc) new d))) (Enc.F eRg (Prod.fst (M.stRes (k5_1 sc) new d)))) (T.need (Enc.Is eRg (List.length (k5_2 sc new d)) (Enc.F eRg (k5_2 sc new d))) (T.need (Enc.list eRg (List.length (Prod.fst (M.stRes (k5_1 sc) new d))) (Enc.F eRg (Prod.fst (M.stRes (k5_1 sc) new d))) = Enc.list eRg (List.length (k5_2 sc new d)) (Enc.F eRg (k5_2 sc new d))) (T.need (List.length (Enc.list eRg (List.length (Prod.fst (M.stRes (k5_1 sc) new d))) (Enc.F eRg (Prod.fst (M.stRes (k5_1 sc) new d)))) ≤ (100000 : Nat)) (T.ret [Ar.c (D.bool true)]))))) (T.ret [Ar.c (D.bool false)])) (T.ret [Ar.c (D.bool false)])))))))) (T.ret [Ar.c (D.bool false)])))))))))))))))))))))))))
theorem t5 (q_sc : Bool) (sc : List Scale) (new : Int) (d : Int) : runFnX Try.prog G0 (lookS [v15, v27, v33, v34, v35, v36, v37, v38, v39, v40]) (fun f => []) [29, 68] 1 120 5 5 Try.f5 [.agg [.sl q_sc sc.length 4 (eSc.F sc), dI new], .c (dI d)] =
    tr5 q_sc sc new d := by kernel_rfl
end Go.Pl
end

section
set_option linter.unusedVariables false
set_option linter.unusedSimpArgs false
set_option maxRecDepth 100000
namespace Go.Pl
open Go.V Go.Proofs
namespace M
def weak (sc : List Scale) (nw d : Int) (k : Nat) : Bool := decide (((flows sc d).getD k dfR).hi > (sc.getD k dfS).vol) || (((flows sc d).getD k dfR).hi != 0 && decide (stLo gh sc nw (flows sc d) k < (sc.getD k dfS).least))
def broke (sc : List Scale) (nw d : Int) : Int := firstIdx (weak sc nw d) sc.length 0
end M
def tr158 (q_sc : Bool) (sc : List Scale) (new : Int) (i : Int) (q_f : Bool) (f : List Rg) : T (List Ar) :=
    T.need (Enc.Is eSc (List.length sc) (Enc.F eSc sc)) (T.need (Enc.Is eRg (List.length f) (Enc.F eRg f)) (T.need (List.length f = List.length sc) (T.need (List.length sc ≤ (4 : Nat)) (T.need ((0 : Int) ≤ i) (T.need (i < (Nat.cast (R := Int) (List.length sc))) (T.need ((0 : Int) ≤ new ∧ new ≤ (100000 : Int)) (T.need (∀ (k : Nat), k < List.length sc → (0 : Int) ≤ Scale.vol (List.getD (Enc.list eSc (List.length sc) (Enc.F eSc sc)) k dfS) ∧ Scale.vol (List.getD (Enc.list eSc (List.length sc) (Enc.F eSc sc)) k dfS) ≤ (20000 : Int)) (T.need (∀ (k : Nat), Int.toNat i ≤ k → k < List.length sc → (0 : Int) < M.gh (List.getD (Enc.list eRg (List.length f) (Enc.F eRg f)) k dfR) ∧ M.gh (List.getD (Enc.list eRg (List.length f) (Enc.F eRg f)) k dfR) ≤ (100000 : Int)) (T.need ((0 : Int) ≤ i) (T.need (i < (Nat.cast (R := Int) (List.length sc))) (T.ret [Ar.c (D.bool (decide (M.stLo M.gh (Enc.list eSc (List.length sc) (Enc.F eSc sc)) new (Enc.list eRg (List.length f) (Enc.F eRg f)) (Int.toNat i) < Scale.least (List.getD sc (Int.toNat i) { vol := (0 : Int), l := (0 : Int), h := (0 : Int), least := (0 : Int) }))))])))))))))))
theorem t158 (q_sc : Bool) (sc : List Scale) (new : Int) (i : Int) (q_f : Bool) (f : List Rg) : runFnX Try.prog G0 (lookS [v110]) (fun _ => []) [] 1 60 4 158 Try.f158 [.agg [.sl q_sc sc.length 4 (eSc.F sc), dI new], .c (dI i), .c (.sl q_f f.length 2 (eRg.F f))] =
    tr158 q_sc sc new i q_f f := by kernel_rfl
theorem w158 (q : Bool) (sc : List Scale) (nw i : Int) (qf : Bool) (f : List Rg) (h1 : f.length = sc.length) (h2 : sc.length ≤ 4) (h3 : 0 ≤ i) (h4 : i < sc.length) (h5 : 0 ≤ nw ∧ nw ≤ 100000) (h6 : ∀ k, k < sc.length → 0 ≤ (sc.getD k dfS).vol ∧ (sc.getD k dfS).vol ≤ 20000) (h7 : ∀ k, i.toNat ≤ k → k < sc.length → 0 < M.gh (f.getD k dfR) ∧ M.gh (f.getD k dfR) ≤ 100000) :
    (tr158 q sc nw i qf f).wp (fun rs => rsEqv rs [rB (decide (M.stLo M.gh sc nw f i.toNat < (sc.getD i.toNat dfS).least))]) := by
  unfold tr158
  simp only [Enc.list_F]
  exact ⟨Enc.is_F _ _ _, Enc.is_F _ _ _, h1, h2, h3, h4, h5, h6, h7, h3, h4, rsEqv_refl _⟩
def dom158 : DomF
  | [.agg [.sl _ n_sc st_sc F_sc, .int .i64 new], .c (.int .i64 i), .c (.sl _ n_f st_f F_f)] => (match (Nat.beq st_sc 4 || Nat.beq n_sc 0) && (Nat.beq st_f 2 || Nat.beq n_f 0) with
    | true => some ([eSc.Is n_sc F_sc, eRg.Is n_f F_f, (eRg.list n_f F_f).length = (eSc.list n_sc F_sc).length, (eSc.list n_sc F_sc).length ≤ 4, 0 ≤ i, i < ((eSc.list n_sc F_sc).length : Int), 0 ≤ new ∧ new ≤ 100000, ∀ k, k < (eSc.list n_sc F_sc).length → 0 ≤ ((eSc.list n_sc F_sc).getD k dfS).vol ∧ ((eSc.list n_sc F_sc).getD k dfS).vol ≤ 20000, ∀ k, i.toNat ≤ k → k < (eSc.list n_sc F_sc).length → 0 < M.gh ((eRg.list n_f F_f).getD k dfR) ∧ M.gh ((eRg.list n_f F_f).getD k dfR) ≤ 100000], [rB (decide (M.stLo M.gh (eSc.list n_sc F_sc) new (eRg.list n_f F_f) i.toNat < ((eSc.list n_sc F_sc).getD i.toNat dfS).least))])
    | _ => none)
  | _ => none
def v158 : Nat × Sm := (158, fokSm dom158)
theorem C158 : FOK Try.prog G0 gw 158 dom158 := by
  intro ags p r hd hp κ w xs hw hl hG hx
  unfold dom158 at hd
  split at hd
  · rename_i q_sc n_sc st_sc F_sc new i q_f n_f st_f F_f
    split at hd
    · rename_i hst
      simp only [Bool.and_eq_true] at hst
      obtain ⟨g1, g2⟩ := hst
      simp only [Option.some.injEq, Prod.mk.injEq] at hd
      obtain ⟨rfl, rfl⟩ := hd
      obtain ⟨hI_sc, hI_f, hp⟩ := hp
      have heq : agsEqv [.agg [.sl q_sc n_sc st_sc F_sc, .int .i64 new], .c (.int .i64 i), .c (.sl q_f n_f st_f F_f)] [.agg [.sl q_sc (eSc.list n_sc F_sc).length 4 (eSc.F (eSc.list n_sc F_sc)), .int .i64 new], .c (.int .i64 i), .c (.sl q_f (eRg.list n_f F_f).length 2 (eRg.F (eRg.list n_f F_f)))] := ⟨⟨eSc.toz g1 hI_sc, rfl, trivial⟩, Ag.eqv_refl _, eRg.toz g2 hI_f, trivial⟩
      have len_sc : (eSc.list n_sc F_sc).length = n_sc := eSc.list_len
      have len_f : (eRg.list n_f F_f).length = n_f := eRg.list_len
      generalize eSc.list n_sc F_sc = sc at *
      generalize eRg.list n_f F_f = f at *
      subst len_sc len_f
      exact fokX_fin mixed gw_stable (sl := [v110]) ⟨S110, trivial⟩ Try.func158 hw hl hG hx heq rfl (t158 _ _ _ _ _ _) (w158 _ _ _ _ _ _ hp.1 hp.2.1 hp.2.2.1 hp.2.2.2.1 hp.2.2.2.2.1 hp.2.2.2.2.2.1 hp.2.2.2.2.2.2.1)
    · cases hd
  · cases hd
theorem S158 : SumOK Try.prog G0 gw 158 (fokSm dom158) := fok_sum Try.func158 rfl C158
end Go.Pl
end

section
set_option linter.unusedVariables false
set_option linter.unusedSimpArgs false
set_option maxRecDepth 100000
namespace Go.Pl
open Go.V Go.Proofs
theorem fl_hi {sc : List Scale} {nw d : Int} (hs : (M.checkSys sc nw).2 = 0) (hd : M.drawErr d = 0) {k : Nat} (hk : k < sc.length) : (M.fl sc d (k + 1)).hi = (M.fl sc d k).hi + (sc.getD k dfS).h ∧ 0 ≤ (sc.getD k dfS).h := by
  obtain ⟨h0, h4, hn, hr⟩ := sys_right hs
  obtain ⟨i1, i2, i3⟩ := fl_right hs hd k (by omega)
  obtain ⟨s1, s2, s3⟩ := scale_right (hr k hk)
  have e2 : (M.fl sc d (k + 1)).hi = IntKind.i64.wrap ((M.fl sc d k).hi + (sc.getD k dfS).h) := rfl
  rw [e2, wrap_id (by omega) (by omega)]
  exact ⟨rfl, by omega⟩
theorem hi_mono {sc : List Scale} {nw d : Int} (hs : (M.checkSys sc nw).2 = 0) (hd : M.drawErr d = 0) {k : Nat} : ∀ j, k ≤ j → j < sc.length → ((M.flows sc d).getD k dfR).hi ≤ ((M.flows sc d).getD j dfR).hi := by
  intro j
  induction j with
  | zero => intro h _; obtain rfl : k = 0 := by omega
            exact Int.le_refl _
  | succ j ih =>
    intro h1 h2
    rcases Nat.lt_or_ge j k with h3 | h3
    · obtain rfl : k = j + 1 := by omega
      exact Int.le_refl _
    · have i := ih h3 (by omega)
      rw [flows_get (show j < sc.length by omega)] at i
      rw [flows_get h2]
      obtain ⟨e1, e2⟩ := fl_hi hs hd h2
      omega
def ovB (sc : List Scale) (d : Int) (k : Nat) : Bool := decide (((M.flows sc d).getD k dfR).hi > (sc.getD k dfS).vol)
theorem over_idx {sc : List Scale} {fl : List Rg} {p : Nat → Bool} (hp : ∀ k, p k = decide ((fl.getD k dfR).hi > (sc.getD k dfS).vol)) : ∀ (n k : Nat), M.overF sc fl n k = M.firstIdx p n k := by
  intro n
  induction n with
  | zero => intro k; rfl
  | succ n ih =>
    intro k
    show cond _ _ (M.overF sc fl n (k + 1)) = cond (p k) (k : Int) (M.firstIdx p n (k + 1))
    rw [ih, hp]
theorem over_eq (sc : List Scale) (d : Int) : M.over sc (M.flows sc d) = M.firstIdx (ovB sc d) sc.length 0 := by
  unfold M.over
  rw [flows_len]
  exact over_idx (fun k => rfl) _ _
theorem idx_ne {p : Nat → Bool} {n k : Nat} : M.firstIdx p n (k + 1) ≠ (k : Int) := fun h => by
  have := (idx_range (p := p) n (k + 1)).1 (by omega)
  omega
theorem weak_right {sc : List Scale} {nw d : Int} (hs : (M.checkSys sc nw).2 = 0) (hd : M.drawErr d = 0) {k : Nat} (hne : ¬ ((M.flows sc d).getD k dfR).hi = 0) : ∀ j, k ≤ j → j < sc.length → 0 < ((M.flows sc d).getD j dfR).hi ∧ ((M.flows sc d).getD j dfR).hi ≤ 100000 := by
  intro j h1 h2
  have a := hi_mono hs hd j h1 h2
  have b := flows_right hs hd (k := k) (by omega)
  have c := flows_right hs hd h2
  omega
def k96_1 (sc : List Scale) (d : Int) := Enc.list eRg (List.length (M.flows (Enc.list eSc (List.length sc) (Enc.F eSc sc)) d)) (Enc.F eRg (M.flows (Enc.list eSc (List.length sc) (Enc.F eSc sc)) d))
def tr96 (q_sc : Bool) (sc : List Scale) (new : Int) (d : Int) : T (List Ar) :=
    T.need (Enc.Is eSc (List.length sc) (Enc.F eSc sc)) (T.need (List.length (Enc.list eSc (List.length sc) (Enc.F eSc sc)) ≤ (100000 : Nat)) (T.need (Enc.Is eSc (List.length sc) (Enc.F eSc sc)) (T.need (Enc.Is eRg (List.length (M.flows (Enc.list eSc (List.length sc) (Enc.F eSc sc)) d)) (Enc.F eRg (M.flows (Enc.list eSc (List.length sc) (Enc.F eSc sc)) d))) (T.need (List.length (k96_1 sc d) ≤ List.length (Enc.list eSc (List.length sc) (Enc.F eSc sc))) (T.need (List.length (Enc.list eSc (List.length sc) (Enc.F eSc sc)) ≤ (100000 : Nat)) (T.loop (Int × PUnit) ((0 : Int), PUnit.unit) fun (x : Int × PUnit) => T.br (decide (Prod.fst x < (Nat.cast (R := Int) (List.length (M.flows (Enc.list eSc (List.length sc) (Enc.F eSc sc)) d))))) (T.need ((0 : Int) ≤ Prod.fst x) (T.need (Prod.fst x < (Nat.cast (R := Int) (List.length (M.flows (Enc.list eSc (List.length sc) (Enc.F eSc sc)) d)))) (T.br (Prod.fst x == M.over (Enc.list eSc (List.length sc) (Enc.F eSc sc)) (k96_1 sc d)) (T.ret (Sum.inr [Ar.c (D.int IntKind.i64 (Prod.fst x))])) (T.br (Rg.hi (List.getD (M.flows (Enc.list eSc (List.length sc) (Enc.F eSc sc)) d) (Int.toNat (Prod.fst x)) { lo := (0 : Int), hi := (0 : Int) }) == (0 : Int)) (T.ret (Sum.inl (IntKind.i64.wrap (Prod.fst x + (1 : Int)), PUnit.unit))) (T.need (Enc.Is eSc (List.length sc) (Enc.F eSc sc)) (T.need (Enc.Is eRg (List.length (M.flows (Enc.list eSc (List.length sc) (Enc.F eSc sc)) d)) (Enc.F eRg (M.flows (Enc.list eSc (List.length sc) (Enc.F eSc sc)) d))) (T.need (List.length (k96_1 sc d) = List.length (Enc.list eSc (List.length sc) (Enc.F eSc sc))) (T.need (List.length (Enc.list eSc (List.length sc) (Enc.F eSc sc)) ≤ (4 : Nat)) (T.need ((0 : Int) ≤ Prod.fst x) (T.need (Prod.fst x < (Nat.cast (R := Int) (List.length (Enc.list eSc (List.length sc) (Enc.F eSc sc))))) (T.need ((0 : Int) ≤ new ∧ new ≤ (100000 : Int)) (T.need (∀ (k : Nat), k < List.length (Enc.list eSc (List.length sc) (Enc.F eSc sc)) → (0 : Int) ≤ Scale.vol (List.getD (Enc.list eSc (List.length sc) (Enc.F eSc sc)) k dfS) ∧ Scale.vol (List.getD (Enc.list eSc (List.length sc) (Enc.F eSc sc)) k dfS) ≤ (20000 : Int)) (T.need (∀ (k : Nat), Int.toNat (Prod.fst x) ≤ k → k < List.length (Enc.list eSc (List.length sc) (Enc.F eSc sc)) → (0 : Int) < M.gh (List.getD (k96_1 sc d) k dfR) ∧ M.gh (List.getD (k96_1 sc d) k dfR) ≤ (100000 : Int)) (T.br (decide (M.stLo M.gh (Enc.list eSc (List.length sc) (Enc.F eSc sc)) new (k96_1 sc d) (Int.toNat (Prod.fst x)) < Scale.least (List.getD (Enc.list eSc (List.length sc) (Enc.F eSc sc)) (Int.toNat (Prod.fst x)) dfS))) (T.ret (Sum.inr [Ar.c (D.int IntKind.i64 (Prod.fst x))])) (T.ret (Sum.inl (IntKind.i64.wrap (Prod.fst x + (1 : Int)), PUnit.unit))))))))))))))))) (T.ret (Sum.inr [Ar.c (D.int IntKind.i64 (-1 : Int))]))))))))
theorem t96 (q_sc : Bool) (sc : List Scale) (new : Int) (d : Int) : runFnX Try.prog G0 (lookS [v108, v109, v158]) (fun _ => [(4, [.slot 17 (.int .i64)], none)]) [] 1 60 4 96 Try.f96 [.agg [.sl q_sc sc.length 4 (eSc.F sc), dI new], .c (dI d)] =
    tr96 q_sc sc new d := by kernel_rfl
theorem w96 (q : Bool) (sc : List Scale) (nw d : Int) (hs : (M.checkSys sc nw).2 = 0) (hd : M.drawErr d = 0) : (tr96 q sc nw d).wp (fun rs => rsEqv rs [rI (M.broke sc nw d)]) := by
  unfold tr96
  simp only [k96_1, Enc.list_F]
  obtain ⟨n0, n4, hnw, hr⟩ := sys_right hs
  have hfl := flows_len sc d
  have hl : sc.length ≤ 100000 := by omega
  have hv : ∀ k, k < sc.length → 0 ≤ (sc.getD k dfS).vol ∧ (sc.getD k dfS).vol ≤ 20000 := fun k hk => by have := (scale_right (hr k hk)).1; omega
  refine ⟨Enc.is_F _ _ _, hl, Enc.is_F _ _ _, Enc.is_F _ _ _, by omega, hl, ?_⟩
  refine range_wp (n := sc.length) (fun k _ => M.broke sc nw d = M.firstIdx (M.weak sc nw d) (sc.length - k) k ∧ M.over sc (M.flows sc d) = M.firstIdx (ovB sc d) (sc.length - k) k) ⟨rfl, over_eq sc d⟩ ?_
  rintro k u hk ⟨hI, hO⟩
  refine wp_br (fun hb => ?_) (fun hb => ?_)
  · have hlt : k < sc.length := by have := lt_of_dec hb; omega
    have sb := idx_step (p := M.weak sc nw d) hlt
    have so := idx_step (p := ovB sc d) hlt
    rw [← hI] at sb
    rw [← hO] at so
    refine ⟨by show (0 : Int) ≤ k; omega, by show (k : Int) < (M.flows sc d).length; omega, wp_br (fun hx => ?_) (fun hx => ?_)⟩
    · have hx : (k : Int) = M.over sc (M.flows sc d) := by simpa using hx
      have hov : ovB sc d k = true := by
        cases ho : ovB sc d k
        · rw [ho] at so
          exact absurd (so.symm.trans hx.symm) idx_ne
        · rfl
      have hw : M.weak sc nw d k = true := by
        unfold M.weak
        unfold ovB at hov
        rw [hov]; rfl
      rw [hw] at sb
      rw [sb]; exact rsEqv_refl _
    · have hx : ¬ (k : Int) = M.over sc (M.flows sc d) := by simpa using hx
      have hov : ovB sc d k = false := by
        cases ho : ovB sc d k
        · rfl
        · rw [ho] at so
          exact absurd so.symm hx
      rw [hov] at so
      have hov' := hov
      unfold ovB at hov'
      refine wp_br (fun hy => ?_) (fun hy => ?_)
      · have hy : (((M.flows sc d).getD k dfR).hi == 0) = true := hy
        have hy : ((M.flows sc d).getD k dfR).hi = 0 := by simpa using hy
        have hw : M.weak sc nw d k = false := by unfold M.weak; rw [hov', hy]; rfl
        rw [hw] at sb
        exact ⟨hlt, wrap_succ (by omega), sb, so⟩
      · have hy : (((M.flows sc d).getD k dfR).hi == 0) = false := hy
        have hy : ¬ ((M.flows sc d).getD k dfR).hi = 0 := by simpa using hy
        have hrt := weak_right hs hd hy
        have hyb : (((M.flows sc d).getD k dfR).hi != 0) = true := bne_iff_ne.2 hy
        dsimp only
        simp only [Int.toNat_natCast]
        refine ⟨Enc.is_F _ _ _, Enc.is_F _ _ _, hfl, n4, by omega, by omega, hnw, hv, hrt, wp_br (fun hz => ?_) (fun hz => ?_)⟩
        · have hw : M.weak sc nw d k = true := by unfold M.weak; rw [hov', hyb, hz]; rfl
          rw [hw] at sb
          rw [sb]; exact rsEqv_refl _
        · have hw : M.weak sc nw d k = false := by unfold M.weak; rw [hov', hyb, hz]; rfl
          rw [hw] at sb
          exact ⟨hlt, wrap_succ (by omega), sb, so⟩
  · have hge := ge_of_dec hb
    obtain rfl : k = sc.length := by omega
    rw [Nat.sub_self] at hI
    rw [hI]; exact rsEqv_refl _
def dom96 : DomF
  | [.agg [.sl _ n_sc st_sc F_sc, .int .i64 new], .c (.int .i64 d)] => (match (Nat.beq st_sc 4 || Nat.beq n_sc 0) with
    | true => some ([eSc.Is n_sc F_sc, (M.checkSys (eSc.list n_sc F_sc) new).2 = 0, M.drawErr d = 0], [rI (M.broke (eSc.list n_sc F_sc) new d)])
    | _ => none)
  | _ => none
def v96 : Nat × Sm := (96, fokSm dom96)
theorem C96 : FOK Try.prog G0 gw 96 dom96 := by
  intro ags p r hd hp κ w xs hw hl hG hx
  unfold dom96 at hd
  split at hd
  · rename_i q_sc n_sc st_sc F_sc new d
    split at hd
    · rename_i hst
      have g1 := hst
      simp only [Option.some.injEq, Prod.mk.injEq] at hd
      obtain ⟨rfl, rfl⟩ := hd
      obtain ⟨hI_sc, hp⟩ := hp
      have heq : agsEqv [.agg [.sl q_sc n_sc st_sc F_sc, .int .i64 new], .c (.int .i64 d)] [.agg [.sl q_sc (eSc.list n_sc F_sc).length 4 (eSc.F (eSc.list n_sc F_sc)), .int .i64 new], .c (.int .i64 d)] := ⟨⟨eSc.toz g1 hI_sc, rfl, trivial⟩, Ag.eqv_refl _, trivial⟩
      have len_sc : (eSc.list n_sc F_sc).length = n_sc := eSc.list_len
      generalize eSc.list n_sc F_sc = sc at *
      subst len_sc
      exact fokX_fin mixed gw_stable (sl := [v108, v109, v158]) ⟨S108, S109, S158, trivial⟩ Try.func96 hw hl hG hx heq rfl (t96 _ _ _ _) (w96 _ _ _ _ hp.1 hp.2.1)
    · cases hd
  · cases hd
theorem S96 : SumOK Try.prog G0 gw 96 (fokSm dom96) := fok_sum Try.func96 rfl C96
def k32_3 (sc : List Scale) (d : Int) := Enc.list eRg (List.length (M.flows (Enc.list eSc (List.length sc) (Enc.F eSc sc)) d)) (Enc.F eRg (M.flows (Enc.list eSc (List.length sc) (Enc.F eSc sc)) d))
def k32_1 (sc : List Scale) (d : Int) := Enc.list eI (List.length (M.ends true (k32_3 sc d))) (Enc.F eI (M.ends true (k32_3 sc d)))
def k32_6 (sc : List Scale) (d : Int) (x : Int × PUnit) := M.stDen (Enc.list eSc (List.length sc) (Enc.F eSc sc)) (k32_1 sc d) (Int.toNat (Prod.fst x))
def k32_4 (sc : List Scale) (x : Int × PUnit) (new : Int) := Scale.least (List.getD sc (Int.toNat (Prod.fst x)) { vol := (0 : Int), l := (0 : Int), h := (0 : Int), least := (0 : Int) }) - new
def k32_2 (sc : List Scale) (d : Int) (x : Int × PUnit) (new : Int) := M.wv (M.sgn (k32_6 sc d x)) (Enc.list eI (List.length (M.mag (k32_6 sc d x))) (Enc.F eI (M.mag (k32_6 sc d x)))) * M.wv (M.sgn (IntKind.i64.wrap (k32_4 sc x new))) (Enc.list eI (List.length (M.mag (IntKind.i64.wrap (k32_4 sc x new)))) (Enc.F eI (M.mag (IntKind.i64.wrap (k32_4 sc x new)))))
def k32_5 (sc : List Scale) (d : Int) (x : Int × PUnit) := M.stNum (Enc.list eSc (List.length sc) (Enc.F eSc sc)) (k32_1 sc d) (Int.toNat (Prod.fst x))
def tr32 (q_sc : Bool) (sc : List Scale) (new : Int) (d : Int) : T (List Ar) :=
    T.need (Enc.Is eSc (List.length sc) (Enc.F eSc sc)) (T.need (List.length (Enc.list eSc (List.length sc) (Enc.F eSc sc)) ≤ (100000 : Nat)) (T.need (Enc.Is eRg (List.length (M.flows (Enc.list eSc (List.length sc) (Enc.F eSc sc)) d)) (Enc.F eRg (M.flows (Enc.list eSc (List.length sc) (Enc.F eSc sc)) d))) (T.need (List.length (k32_3 sc d) ≤ (100000 : Nat)) (T.loop (Int × PUnit) ((0 : Int), PUnit.unit) fun (x : Int × PUnit) => T.br (decide (Prod.fst x < (Nat.cast (R := Int) (List.length (M.ends true (k32_3 sc d)))))) (T.need ((0 : Int) ≤ Prod.fst x) (T.need (Prod.fst x < (Nat.cast (R := Int) (List.length (M.ends true (k32_3 sc d))))) (T.need ((0 : Int) ≤ Prod.fst x) (T.need (Prod.fst x < (Nat.cast (R := Int) (List.length sc))) (T.br (decide (List.getD (M.ends true (k32_3 sc d)) (Int.toNat (Prod.fst x)) (0 : Int) > Scale.vol (List.getD sc (Int.toNat (Prod.fst x)) { vol := (0 : Int), l := (0 : Int), h := (0 : Int), least := (0 : Int) }))) (T.ret (Sum.inr [Ar.c (D.int IntKind.i64 (Prod.fst x))])) (T.need ((0 : Int) ≤ Prod.fst x) (T.need (Prod.fst x < (Nat.cast (R := Int) (List.length (M.ends true (k32_3 sc d))))) (T.br (List.getD (M.ends true (k32_3 sc d)) (Int.toNat (Prod.fst x)) (0 : Int) == (0 : Int)) (T.ret (Sum.inl (IntKind.i64.wrap (Prod.fst x + (1 : Int)), PUnit.unit))) (T.need (Enc.Is eSc (List.length sc) (Enc.F eSc sc)) (T.need (Enc.Is eI (List.length (M.ends true (k32_3 sc d))) (Enc.F eI (M.ends true (k32_3 sc d)))) (T.need (List.length (k32_1 sc d) = List.length (Enc.list eSc (List.length sc) (Enc.F eSc sc))) (T.need (List.length (k32_1 sc d) ≤ (4 : Nat)) (T.need ((0 : Int) ≤ Prod.fst x ∧ Prod.fst x ≤ (Nat.cast (R := Int) (List.length (k32_1 sc d)))) (T.need (∀ (k : Nat), k < List.length (Enc.list eSc (List.length sc) (Enc.F eSc sc)) → (0 : Int) ≤ Scale.vol (List.getD (Enc.list eSc (List.length sc) (Enc.F eSc sc)) k dfS) ∧ Scale.vol (List.getD (Enc.list eSc (List.length sc) (Enc.F eSc sc)) k dfS) ≤ (20000 : Int)) (T.need (∀ (k : Nat), Int.toNat (Prod.fst x) ≤ k → k < List.length (k32_1 sc d) → (0 : Int) < List.getD (k32_1 sc d) k (0 : Int) ∧ List.getD (k32_1 sc d) k (0 : Int) ≤ (100000 : Int)) (T.need ((0 : Int) ≤ Prod.fst x) (T.need (Prod.fst x < (Nat.cast (R := Int) (List.length sc))) (T.need ((-9223372036854775807 : Int) ≤ IntKind.i64.wrap (k32_4 sc x new)) (T.need (IntKind.i64.wrap (k32_4 sc x new) ≤ (9223372036854775807 : Int)) (T.need (Enc.Is eI (List.length (M.mag (k32_6 sc d x))) (Enc.F eI (M.mag (k32_6 sc d x)))) (T.need (Enc.Is eI (List.length (M.mag (IntKind.i64.wrap (k32_4 sc x new)))) (Enc.F eI (M.mag (IntKind.i64.wrap (k32_4 sc x new))))) (T.need (Can (M.sgn (k32_6 sc d x)) (Enc.list eI (List.length (M.mag (k32_6 sc d x))) (Enc.F eI (M.mag (k32_6 sc d x))))) (T.need (Can (M.sgn (IntKind.i64.wrap (k32_4 sc x new))) (Enc.list eI (List.length (M.mag (IntKind.i64.wrap (k32_4 sc x new)))) (Enc.F eI (M.mag (IntKind.i64.wrap (k32_4 sc x new)))))) (T.need (List.length (Enc.list eI (List.length (M.mag (k32_6 sc d x))) (Enc.F eI (M.mag (k32_6 sc d x)))) ≤ (90000 : Nat)) (T.need (List.length (Enc.list eI (List.length (M.mag (IntKind.i64.wrap (k32_4 sc x new)))) (Enc.F eI (M.mag (IntKind.i64.wrap (k32_4 sc x new))))) ≤ (90000 : Nat)) (T.need (Enc.Is eI (List.length (M.mag (k32_5 sc d x))) (Enc.F eI (M.mag (k32_5 sc d x)))) (T.need (Enc.Is eI (List.length (M.mag (k32_2 sc d x new))) (Enc.F eI (M.mag (k32_2 sc d x new)))) (T.need (Can (M.sgn (k32_5 sc d x)) (Enc.list eI (List.length (M.mag (k32_5 sc d x))) (Enc.F eI (M.mag (k32_5 sc d x))))) (T.need (Can (M.sgn (k32_2 sc d x new)) (Enc.list eI (List.length (M.mag (k32_2 sc d x new))) (Enc.F eI (M.mag (k32_2 sc d x new))))) (T.need (List.length (Enc.list eI (List.length (M.mag (k32_5 sc d x))) (Enc.F eI (M.mag (k32_5 sc d x)))) ≤ (90000 : Nat)) (T.need (List.length (Enc.list eI (List.length (M.mag (k32_2 sc d x new))) (Enc.F eI (M.mag (k32_2 sc d x new)))) ≤ (90000 : Nat)) (T.br (decide (M.sgn (M.wv (M.sgn (k32_5 sc d x)) (Enc.list eI (List.length (M.mag (k32_5 sc d x))) (Enc.F eI (M.mag (k32_5 sc d x)))) - M.wv (M.sgn (k32_2 sc d x new)) (Enc.list eI (List.length (M.mag (k32_2 sc d x new))) (Enc.F eI (M.mag (k32_2 sc d x new))))) < (0 : Int))) (T.ret (Sum.inr [Ar.c (D.int IntKind.i64 (Prod.fst x))])) (T.ret (Sum.inl (IntKind.i64.wrap (Prod.fst x + (1 : Int)), PUnit.unit))))))))))))))))))))))))))))))))))) (T.ret (Sum.inr [Ar.c (D.int IntKind.i64 (-1 : Int))]))))))
theorem t32 (q_sc : Bool) (sc : List Scale) (new : Int) (d : Int) : runFnX Try.prog G0 (lookS [v40, v98, v99, v102, v101, v100]) (fun _ => [(3, [.slot 6 (.int .i64)], none)]) [] 1 60 4 32 Try.f32 [.agg [.sl q_sc sc.length 4 (eSc.F sc), dI new], .c (dI d)] =
    tr32 q_sc sc new d := by kernel_rfl
theorem lo_lt {N D m : Int} (hD : 0 < D) : M.sgn (N - D * m) < 0 ↔ N / D < m := by
  rw [Int.ediv_lt_iff_lt_mul hD, Int.mul_comm m D]
  unfold M.sgn
  constructor
  · intro h
    split at h
    · omega
    · split at h <;> omega
  · intro h
    rw [if_pos (by omega)]; decide
theorem mag_len' {z : Int} {n : Nat} (h : (z.natAbs : Int) < bp n) : (M.mag z).length ≤ n := by
  show (M.dig (z.natAbs : Int)).length ≤ n
  rw [dig_len]; exact nd_le n (by omega) h
theorem w32 (q : Bool) (sc : List Scale) (nw d : Int) (hs : (M.checkSys sc nw).2 = 0) (hd : M.drawErr d = 0) : (tr32 q sc nw d).wp (fun rs => rsEqv rs [rI (M.broke sc nw d)]) := by
  unfold tr32
  simp only [k32_1, k32_2, k32_3, k32_4, k32_5, k32_6, Enc.list_F, wv_mk, ends_at]
  obtain ⟨n0, n4, hnw, hr⟩ := sys_right hs
  have hfl := flows_len sc d
  have el : (M.ends true (M.flows sc d)).length = sc.length := by rw [ends_len, hfl]
  have hl : sc.length ≤ 100000 := by omega
  have hv : ∀ k, k < sc.length → 0 ≤ (sc.getD k dfS).vol ∧ (sc.getD k dfS).vol ≤ 20000 := fun k hk => by have := (scale_right (hr k hk)).1; omega
  refine ⟨Enc.is_F _ _ _, hl, Enc.is_F _ _ _, by omega, ?_⟩
  refine range_wp (n := sc.length) (fun k _ => M.broke sc nw d = M.firstIdx (M.weak sc nw d) (sc.length - k) k) rfl ?_
  rintro k u hk hI
  refine wp_br (fun hb => ?_) (fun hb => ?_)
  · have hlt : k < sc.length := by have := lt_of_dec hb; omega
    have sb := idx_step (p := M.weak sc nw d) hlt
    rw [← hI] at sb
    dsimp only
    simp only [Int.toNat_natCast]
    refine ⟨by omega, by omega, by omega, by omega, wp_br (fun hx => ?_) (fun hx => ?_)⟩
    · have hx : decide (((M.flows sc d).getD k dfR).hi > (sc.getD k dfS).vol) = true := hx
      have hw : M.weak sc nw d k = true := by unfold M.weak; rw [hx]; rfl
      rw [hw] at sb
      rw [sb]; exact rsEqv_refl _
    · have hx : decide (((M.flows sc d).getD k dfR).hi > (sc.getD k dfS).vol) = false := hx
      refine ⟨by omega, by omega, wp_br (fun hy => ?_) (fun hy => ?_)⟩
      · have hy : (((M.flows sc d).getD k dfR).hi == 0) = true := hy
        have hy : ((M.flows sc d).getD k dfR).hi = 0 := by simpa using hy
        have hw : M.weak sc nw d k = false := by unfold M.weak; rw [hx, hy]; rfl
        rw [hw] at sb
        exact ⟨hlt, wrap_succ (by omega), sb⟩
      · have hy : (((M.flows sc d).getD k dfR).hi == 0) = false := hy
        have hy : ¬ ((M.flows sc d).getD k dfR).hi = 0 := by simpa using hy
        have hrt := weak_right hs hd hy
        have hyb : (((M.flows sc d).getD k dfR).hi != 0) = true := bne_iff_ne.2 hy
        obtain ⟨s1, s2, s3, _, _, s6⟩ := st_row n4 hfl hv true hrt hlt
        have hle := (scale_right (hr k hlt)).2.2
        have hm : IntKind.i64.wrap ((sc.getD k { vol := 0, l := 0, h := 0, least := 0 }).least - nw) = (sc.getD k dfS).least - nw := wrap_id (n := (sc.getD k dfS).least - nw) (by omega) (by omega)
        simp only [hm]
        have a1 : M.stNum sc (M.ends true (M.flows sc d)) k = (M.stN M.gh sc (M.flows sc d) (sc.length - k) k 0 1).1 := by unfold M.stNum; rw [stG_eq, el]; rfl
        have a2 : M.stDen sc (M.ends true (M.flows sc d)) k = (M.stN M.gh sc (M.flows sc d) (sc.length - k) k 0 1).2 := by unfold M.stDen; rw [stG_eq, el]; rfl
        have lo : M.stLo M.gh sc nw (M.flows sc d) k = nw + M.stNum sc (M.ends true (M.flows sc d)) k / M.stDen sc (M.ends true (M.flows sc d)) k := by rw [a1, a2]; rfl
        obtain ⟨m, hme⟩ : ∃ m, m = (sc.getD k dfS).least - nw := ⟨_, rfl⟩
        simp only [← hme]
        have m1 : (M.mag m).length ≤ 90000 := by have := mag_len' (z := m) (n := 1) (by rw [bp_one]; omega); omega
        have m2 : (M.mag (M.stDen sc (M.ends true (M.flows sc d)) k * m)).length ≤ 90000 := by
          have h1 : ((M.stDen sc (M.ends true (M.flows sc d)) k * m).natAbs : Int) = M.stDen sc (M.ends true (M.flows sc d)) k * (m.natAbs : Int) := by rw [Int.natAbs_mul]; push_cast; rw [show ((M.stDen sc (M.ends true (M.flows sc d)) k).natAbs : Int) = M.stDen sc (M.ends true (M.flows sc d)) k by omega]
          have h2 : M.stDen sc (M.ends true (M.flows sc d)) k * (m.natAbs : Int) ≤ M.stDen sc (M.ends true (M.flows sc d)) k * 100000 := Int.mul_le_mul_of_nonneg_left (by omega) (by omega)
          have := mag_len' (z := M.stDen sc (M.ends true (M.flows sc d)) k * m) (n := sc.length - k + 1) (by rw [h1, bp_succ]; have := bp_pos (sc.length - k); omega)
          omega
        have key : decide (M.sgn (M.stNum sc (M.ends true (M.flows sc d)) k - M.stDen sc (M.ends true (M.flows sc d)) k * m) < 0) = decide (M.stLo M.gh sc nw (M.flows sc d) k < (sc.getD k dfS).least) := by
          apply decide_eq_decide.2
          rw [lo_lt s3, lo]; omega
        rw [key]
        have hrt' : ∀ j, k ≤ j → j < (M.ends true (M.flows sc d)).length → 0 < M.endOf true ((M.flows sc d).getD j dfR) ∧ M.endOf true ((M.flows sc d).getD j dfR) ≤ 100000 := fun j h1 h2 => hrt j h1 (by omega)
        iterate 23 (refine ⟨(by first | exact Enc.is_F _ _ _ | exact can_mag _ | assumption | omega), ?_⟩)
        refine wp_br (fun hz => ?_) (fun hz => ?_)
        · have hw : M.weak sc nw d k = true := by unfold M.weak; rw [hx, hyb, hz]; rfl
          rw [hw] at sb
          rw [sb]; exact rsEqv_refl _
        · have hw : M.weak sc nw d k = false := by unfold M.weak; rw [hx, hyb, hz]; rfl
          rw [hw] at sb
          exact ⟨hlt, wrap_succ (by omega), sb⟩
  · have hge := ge_of_dec hb
    obtain rfl : k = sc.length := by omega
    rw [Nat.sub_self] at hI
    rw [hI]; exact rsEqv_refl _
def dom32 : DomF
  | [.agg [.sl _ n_sc st_sc F_sc, .int .i64 new], .c (.int .i64 d)] => (match (Nat.beq st_sc 4 || Nat.beq n_sc 0) with
    | true => some ([eSc.Is n_sc F_sc, (M.checkSys (eSc.list n_sc F_sc) new).2 = 0, M.drawErr d = 0], [rI (M.broke (eSc.list n_sc F_sc) new d)])
    | _ => none)
  | _ => none
def v32 : Nat × Sm := (32, fokSm dom32)
theorem C32 : FOK Try.prog G0 gw 32 dom32 := by
  intro ags p r hd hp κ w xs hw hl hG hx
  unfold dom32 at hd
  split at hd
  · rename_i q_sc n_sc st_sc F_sc new d
    split at hd
    · rename_i hst
      have g1 := hst
      simp only [Option.some.injEq, Prod.mk.injEq] at hd
      obtain ⟨rfl, rfl⟩ := hd
      obtain ⟨hI_sc, hp⟩ := hp
      have heq : agsEqv [.agg [.sl q_sc n_sc st_sc F_sc, .int .i64 new], .c (.int .i64 d)] [.agg [.sl q_sc (eSc.list n_sc F_sc).length 4 (eSc.F (eSc.list n_sc F_sc)), .int .i64 new], .c (.int .i64 d)] := ⟨⟨eSc.toz g1 hI_sc, rfl, trivial⟩, Ag.eqv_refl _, trivial⟩
      have len_sc : (eSc.list n_sc F_sc).length = n_sc := eSc.list_len
      generalize eSc.list n_sc F_sc = sc at *
      subst len_sc
      exact fokX_fin mixed gw_stable (sl := [v40, v98, v99, v102, v101, v100]) ⟨S40, S98, S99, S102, S101, S100, trivial⟩ Try.func32 hw hl hG hx heq rfl (t32 _ _ _ _) (w32 _ _ _ _ hp.1 hp.2.1)
    · cases hd
  · cases hd
theorem S32 : SumOK Try.prog G0 gw 32 (fokSm dom32) := fok_sum Try.func32 rfl C32
end Go.Pl
end

section
set_option linter.unusedVariables false
set_option linter.unusedSimpArgs false
set_option maxRecDepth 100000
namespace Go.Pl
open Go.V Go.Proofs
theorem fl_mono {sc : List Scale} {nw d d' : Int} (hs : (M.checkSys sc nw).2 = 0) (hd : M.drawErr d = 0) (hd' : M.drawErr d' = 0) (h : d ≤ d') : ∀ k, k ≤ sc.length → (M.fl sc d k).hi ≤ (M.fl sc d' k).hi := by
  intro k
  induction k with
  | zero => intro _; exact h
  | succ k ih =>
    intro hk
    have := ih (by omega)
    have a := (fl_hi hs hd (k := k) (by omega)).1
    have b := (fl_hi hs hd' (k := k) (by omega)).1
    omega
theorem stN_mono {sc : List Scale} {fl fl' : List Rg} (hv : ∀ k, k < sc.length → 0 ≤ (sc.getD k dfS).vol ∧ (sc.getD k dfS).vol ≤ 20000) : ∀ (m i : Nat), i + m ≤ sc.length → (∀ k, i ≤ k → k < i + m → 0 < M.gh (fl.getD k dfR) ∧ M.gh (fl.getD k dfR) ≤ M.gh (fl'.getD k dfR) ∧ M.gh (fl'.getD k dfR) ≤ 100000) →
    (M.stN M.gh sc fl' m i 0 1).1 * (M.stN M.gh sc fl m i 0 1).2 ≤ (M.stN M.gh sc fl m i 0 1).1 * (M.stN M.gh sc fl' m i 0 1).2 := by
  intro m
  induction m with
  | zero => intro i _ _; exact Int.le_refl _
  | succ m ih =>
    intro i him h
    have i0 := ih (i + 1) (by omega) fun k h1 h2 => h k (by omega) (by omega)
    obtain ⟨b1, b2, b3, b4⟩ := stN_bnd hv (g := M.gh) (fl := fl) m (i + 1) (by omega) fun k h1 h2 => by have := h k (by omega) (by omega); omega
    obtain ⟨c1, c2, c3, c4⟩ := stN_bnd hv (g := M.gh) (fl := fl') m (i + 1) (by omega) fun k h1 h2 => by have := h k (by omega) (by omega); omega
    have hv := hv i (by omega)
    have hy := h i (Nat.le_refl _) (by omega)
    rw [(stN_step m i).1, (stN_step m i).2, (stN_step m i).1, (stN_step m i).2]
    generalize (M.stN M.gh sc fl m (i + 1) 0 1).1 = N at *
    generalize (M.stN M.gh sc fl m (i + 1) 0 1).2 = D at *
    generalize (M.stN M.gh sc fl' m (i + 1) 0 1).1 = N' at *
    generalize (M.stN M.gh sc fl' m (i + 1) 0 1).2 = D' at *
    generalize M.gh (fl.getD i dfR) = y at *
    generalize M.gh (fl'.getD i dfR) = y' at *
    generalize (sc.getD i dfS).vol = v at *
    have j1 : 0 ≤ 1000 * v * (D * D') := Int.mul_nonneg (by omega) (Int.le_of_lt (Int.mul_pos b3 c3))
    have j2 : (1000 * v * (D * D')) * y ≤ (1000 * v * (D * D')) * y' := Int.mul_le_mul_of_nonneg_left hy.2.1 j1
    have j3 : 0 ≤ y * y' := Int.mul_nonneg (by omega) (by omega)
    have j4 : (y * y') * (N' * D) ≤ (y * y') * (N * D') := Int.mul_le_mul_of_nonneg_left i0 j3
    have e1 : (1000 * v * D' + y' * N') * (y * D) = (1000 * v * (D * D')) * y + (y * y') * (N' * D) := by grind
    have e2 : (1000 * v * D + y * N) * (y' * D') = (1000 * v * (D * D')) * y' + (y * y') * (N * D') := by grind
    omega
theorem div_mono {N D N' D' : Int} (hD : 0 < D) (hD' : 0 < D') (h : N' * D ≤ N * D') : N' / D' ≤ N / D := by
  have h1 : N < (N / D + 1) * D := Int.lt_ediv_add_one_mul_self N hD
  have h2 : N' * D < ((N / D + 1) * D') * D := by
    have : N * D' < ((N / D + 1) * D) * D' := Int.mul_lt_mul_of_pos_right h1 hD'
    have e : ((N / D + 1) * D) * D' = ((N / D + 1) * D') * D := by grind
    omega
  have h3 : N' < (N / D + 1) * D' := Int.lt_of_mul_lt_mul_right h2 (by omega)
  have h4 : N' / D' < N / D + 1 := (Int.ediv_lt_iff_lt_mul hD').2 h3
  omega
theorem weak_iff {sc : List Scale} {nw d : Int} {k : Nat} : M.weak sc nw d k = true ↔ ((M.flows sc d).getD k dfR).hi > (sc.getD k dfS).vol ∨ (((M.flows sc d).getD k dfR).hi ≠ 0 ∧ M.stLo M.gh sc nw (M.flows sc d) k < (sc.getD k dfS).least) := by
  unfold M.weak
  rw [Bool.or_eq_true, Bool.and_eq_true, decide_eq_true_iff, bne_iff_ne, decide_eq_true_iff]
theorem weak_mono {sc : List Scale} {nw d d' : Int} (hs : (M.checkSys sc nw).2 = 0) (hd : M.drawErr d = 0) (hd' : M.drawErr d' = 0) (h : d ≤ d') {k : Nat} (hk : k < sc.length) (hw : M.weak sc nw d k = true) : M.weak sc nw d' k = true := by
  obtain ⟨n0, n4, hnw, hr⟩ := sys_right hs
  have hv : ∀ k, k < sc.length → 0 ≤ (sc.getD k dfS).vol ∧ (sc.getD k dfS).vol ≤ 20000 := fun k hk => by have := (scale_right (hr k hk)).1; omega
  have mono : ∀ j, j < sc.length → ((M.flows sc d).getD j dfR).hi ≤ ((M.flows sc d').getD j dfR).hi := fun j hj => by
    rw [flows_get hj, flows_get hj]; exact fl_mono hs hd hd' h (j + 1) hj
  rcases weak_iff.1 hw with h1 | ⟨h1, h2⟩
  · exact weak_iff.2 (.inl (by have := mono k hk; omega))
  · have f0 := flows_right hs hd hk
    have hne : ¬ ((M.flows sc d').getD k dfR).hi = 0 := by have := mono k hk; omega
    have r1 := weak_right hs hd h1
    have r2 := weak_right hs hd' hne
    refine weak_iff.2 (.inr ⟨hne, ?_⟩)
    obtain ⟨b1, b2, b3, b4⟩ := stN_bnd hv (g := M.gh) (fl := M.flows sc d) (sc.length - k) k (by omega) fun j h1 h2 => r1 j h1 (by omega)
    obtain ⟨c1, c2, c3, c4⟩ := stN_bnd hv (g := M.gh) (fl := M.flows sc d') (sc.length - k) k (by omega) fun j h1 h2 => r2 j h1 (by omega)
    have mm := stN_mono hv (fl := M.flows sc d) (fl' := M.flows sc d') (sc.length - k) k (by omega) fun j h1 h2 => ⟨(r1 j h1 (by omega)).1, mono j (by omega), (r2 j h1 (by omega)).2⟩
    have := div_mono b3 c3 mm
    have l1 : M.stLo M.gh sc nw (M.flows sc d) k = nw + (M.stN M.gh sc (M.flows sc d) (sc.length - k) k 0 1).1 / (M.stN M.gh sc (M.flows sc d) (sc.length - k) k 0 1).2 := rfl
    have l2 : M.stLo M.gh sc nw (M.flows sc d') k = nw + (M.stN M.gh sc (M.flows sc d') (sc.length - k) k 0 1).1 / (M.stN M.gh sc (M.flows sc d') (sc.length - k) k 0 1).2 := rfl
    omega
theorem broke_lt {sc : List Scale} {nw d : Int} : M.broke sc nw d < 0 ↔ ∀ i, i < sc.length → M.weak sc nw d i = false :=
  ⟨fun h i hi => idx_none sc.length 0 h i (Nat.zero_le _) (by omega), fun h => firstIdx_none sc.length 0 fun i _ hi => h i (by omega)⟩
theorem broke_mono {sc : List Scale} {nw d d' : Int} (hs : (M.checkSys sc nw).2 = 0) (h0 : 0 ≤ d) (h : d ≤ d') (h1 : d' ≤ 20000) (hb : M.broke sc nw d' < 0) : M.broke sc nw d < 0 := by
  refine broke_lt.2 fun i hi => ?_
  have := broke_lt.1 hb i hi
  cases hw : M.weak sc nw d i
  · rfl
  · rw [weak_mono hs (draw_ok ⟨h0, by omega⟩) (draw_ok ⟨by omega, h1⟩) h hi hw] at this; cases this
structure IsEv (sc : List Scale) (nw a : Int) : Prop where
  a0 : 0 ≤ a
  a1 : a ≤ 20000
  b : M.broke sc nw a < 0
  c : a = 20000 ∨ 0 ≤ M.broke sc nw (a + 1)
theorem ev_max {sc : List Scale} {nw a d : Int} (hs : (M.checkSys sc nw).2 = 0) (h : IsEv sc nw a) (h0 : d ≤ 20000) (hb : M.broke sc nw d < 0) : d ≤ a := by
  rcases Int.lt_or_le a d with h1 | h1
  · have a0 := h.a0
    rcases h.c with h2 | h2
    · omega
    · have := broke_mono hs (d := a + 1) (d' := d) (by omega) (by omega) h0 hb
      omega
  · exact h1
def lastOk (p : Nat → Bool) : Nat → Nat
  | 0 => 0
  | n + 1 => cond (p (n + 1)) (n + 1) (lastOk p n)
theorem lastOk_eq {p : Nat → Bool} {a : Nat} (pa : p a = true) : ∀ n, a ≤ n → (∀ j, a < j → j ≤ n → p j = false) → lastOk p n = a := by
  intro n
  induction n with
  | zero => intro h _; show 0 = a; omega
  | succ n ih =>
    intro h hj
    show cond (p (n + 1)) (n + 1) (lastOk p n) = a
    rcases Nat.lt_or_ge a (n + 1) with h1 | h1
    · rw [hj (n + 1) h1 (Nat.le_refl _)]
      exact ih (by omega) fun j h2 h3 => hj j h2 (by omega)
    · obtain rfl : a = n + 1 := by omega
      rw [pa]; rfl
namespace M
def cap : Nat := 20000
def evA (sc : List Scale) (nw : Int) : Int := (lastOk (fun n => decide (broke sc nw n < 0)) cap : Nat)
def evB (sc : List Scale) (nw : Int) : Int := cond (evA sc nw == 20000) (-1) (broke sc nw (evA sc nw + 1))
def evX (sc : List Scale) (nw : Int) : Int × Int × Int := cond ((checkSys sc nw).2 != 0) (0, 0, (checkSys sc nw).2) (cond (decide (broke sc nw 0 ≥ 0)) (0, 0, 12) (evA sc nw, evB sc nw, 0))
end M
theorem evA_eq {sc : List Scale} {nw a : Int} (hs : (M.checkSys sc nw).2 = 0) (h : IsEv sc nw a) : M.evA sc nw = a := by
  have a0 := h.a0
  have a1 := h.a1
  obtain ⟨n, rfl⟩ := Int.eq_ofNat_of_zero_le a0
  have := lastOk_eq (p := fun n : Nat => decide (M.broke sc nw n < 0)) (a := n) (decide_eq_true h.b) M.cap (by show n ≤ 20000; omega) fun j h1 h2 => by
    have h2 : j ≤ 20000 := h2
    apply decide_eq_false
    intro hb
    have := ev_max hs h (d := (j : Int)) (by omega) hb
    omega
  show ((lastOk _ M.cap : Nat) : Int) = n
  rw [this]
structure SrB (sc : List Scale) (nw lo hi : Int) : Prop where
  a : 0 ≤ lo
  b : lo ≤ hi
  c : hi ≤ 20000
  d : M.broke sc nw lo < 0
  e : hi = 20000 ∨ 0 ≤ M.broke sc nw (hi + 1)
theorem SrB.up {sc : List Scale} {nw lo hi : Int} (h : SrB sc nw lo hi) (hlt : lo < hi) (hm : M.broke sc nw ((lo + hi + 1) / 2) < 0) : SrB sc nw ((lo + hi + 1) / 2) hi := by
  have := h.a; have := h.c
  exact ⟨by omega, by omega, h.c, hm, h.e⟩
theorem SrB.down {sc : List Scale} {nw lo hi : Int} (h : SrB sc nw lo hi) (hlt : lo < hi) (hm : ¬ M.broke sc nw ((lo + hi + 1) / 2) < 0) : SrB sc nw lo ((lo + hi + 1) / 2 - 1) := by
  have := h.a; have := h.c
  refine ⟨h.a, by omega, by omega, h.d, .inr ?_⟩
  rw [show (lo + hi + 1) / 2 - 1 + 1 = (lo + hi + 1) / 2 by omega]
  omega
theorem SrB.fin {sc : List Scale} {nw lo hi : Int} (h : SrB sc nw lo hi) (hge : ¬ lo < hi) : IsEv sc nw lo := by
  have := h.b; have := h.c
  obtain rfl : lo = hi := by omega
  exact ⟨h.a, h.c, h.d, h.e⟩
def k28_1 (sc : List Scale) := Enc.list eSc (List.length sc) (Enc.F eSc (Enc.list eSc (List.length sc) (Enc.F eSc sc)))
def tr28g (q_sc : Bool) (sc : List Scale) (new : Int) : T (List Ar) :=
    T.need (Enc.Is eSc (List.length sc) (Enc.F eSc sc)) (T.need (List.length sc ≤ (100000 : Nat)) (T.br (Prod.snd (M.checkSys (Enc.list eSc (List.length sc) (Enc.F eSc sc)) new) != (0 : Int)) (T.ret [Ar.c (D.int IntKind.i64 (0 : Int)), Ar.c (D.int IntKind.i64 (0 : Int)), Ar.c (D.int IntKind.i64 (Prod.snd (M.checkSys (Enc.list eSc (List.length sc) (Enc.F eSc sc)) new)))]) (T.need (Enc.Is eSc (List.length sc) (Enc.F eSc (Enc.list eSc (List.length sc) (Enc.F eSc sc)))) (T.need (Prod.snd (M.checkSys (k28_1 sc) new) = (0 : Int)) (T.need ((0 : Int) = (0 : Int)) (T.br (decide (M.broke (k28_1 sc) new (0 : Int) ≥ (0 : Int))) (T.ret [Ar.c (D.int IntKind.i64 (0 : Int)), Ar.c (D.int IntKind.i64 (0 : Int)), Ar.c (D.int IntKind.i64 (12 : Int))]) (T.loop (Int × Int × PUnit) ((0 : Int), (20000 : Int), PUnit.unit) fun (x : Int × Int × PUnit) => T.br (decide (Prod.fst x < Prod.fst (Prod.snd x))) (T.need (Enc.Is eSc (List.length sc) (Enc.F eSc (Enc.list eSc (List.length sc) (Enc.F eSc sc)))) (T.need (Prod.snd (M.checkSys (k28_1 sc) new) = (0 : Int)) (T.need (M.drawErr (IntKind.i64.wrap (Int.tdiv (IntKind.i64.wrap (IntKind.i64.wrap (Prod.fst x + Prod.fst (Prod.snd x)) + (1 : Int))) (2 : Int))) = (0 : Int)) (T.br (decide (M.broke (k28_1 sc) new (IntKind.i64.wrap (Int.tdiv (IntKind.i64.wrap (IntKind.i64.wrap (Prod.fst x + Prod.fst (Prod.snd x)) + (1 : Int))) (2 : Int))) < (0 : Int))) (T.ret (Sum.inl (IntKind.i64.wrap (Int.tdiv (IntKind.i64.wrap (IntKind.i64.wrap (Prod.fst x + Prod.fst (Prod.snd x)) + (1 : Int))) (2 : Int)), Prod.fst (Prod.snd x), PUnit.unit))) (T.ret (Sum.inl (Prod.fst x, IntKind.i64.wrap (IntKind.i64.wrap (Int.tdiv (IntKind.i64.wrap (IntKind.i64.wrap (Prod.fst x + Prod.fst (Prod.snd x)) + (1 : Int))) (2 : Int)) - (1 : Int)), PUnit.unit))))))) (T.br (Prod.fst x == (20000 : Int)) (T.ret (Sum.inr [Ar.c (D.int IntKind.i64 (Prod.fst x)), Ar.c (D.int IntKind.i64 (-1 : Int)), Ar.c (D.int IntKind.i64 (0 : Int))])) (T.need (Enc.Is eSc (List.length sc) (Enc.F eSc (Enc.list eSc (List.length sc) (Enc.F eSc sc)))) (T.need (Prod.snd (M.checkSys (k28_1 sc) new) = (0 : Int)) (T.need (M.drawErr (IntKind.i64.wrap (Prod.fst x + (1 : Int))) = (0 : Int)) (T.ret (Sum.inr [Ar.c (D.int IntKind.i64 (Prod.fst x)), Ar.c (D.int IntKind.i64 (M.broke (k28_1 sc) new (IntKind.i64.wrap (Prod.fst x + (1 : Int))))), Ar.c (D.int IntKind.i64 (0 : Int))])))))))))))))
theorem t28g (q_sc : Bool) (sc : List Scale) (new : Int) : runFnX Try.prog G0 (lookS [v95, v96]) (fun _ => [(7, [.slot 7 (.int .i64), .slot 8 (.int .i64)], none)]) [] 1 60 4 28 Try.f28 [.agg [.sl q_sc sc.length 4 (eSc.F sc), dI new]] =
    tr28g q_sc sc new := by kernel_rfl
theorem w28g (q : Bool) (sc : List Scale) (nw : Int) (hl : sc.length ≤ 100000) : (tr28g q sc nw).wp (fun rs => rsEqv rs [rI (M.evX sc nw).1, rI (M.evX sc nw).2.1, rI (M.evX sc nw).2.2]) := by
  unfold tr28g M.evX
  simp only [k28_1, Enc.list_F]
  refine ⟨Enc.is_F _ _ _, hl, wp_br (fun hb => by rw [hb]; exact rsEqv_refl _) (fun hb => ?_)⟩
  rw [hb]
  have hs : (M.checkSys sc nw).2 = 0 := by simpa using hb
  refine ⟨Enc.is_F _ _ _, hs, trivial, wp_br (fun hc => ?_) (fun hc => ?_)⟩
  · have hc' : decide (M.broke sc nw 0 ≥ 0) = true := hc
    rw [hc']; exact rsEqv_refl _
  have hc' : decide (M.broke sc nw 0 ≥ 0) = false := hc
  rw [hc']
  have hc0 : ¬ M.broke sc nw 0 ≥ 0 := of_decide_eq_false hc'
  refine ⟨fun x => SrB sc nw x.1 x.2.1, fun x => (x.2.1 - x.1).toNat, ⟨Int.le_refl _, by decide, Int.le_refl _, by show M.broke sc nw 0 < 0; omega, .inl rfl⟩, ?_⟩
  rintro ⟨lo, hi, u'⟩ hS
  have hS : SrB sc nw lo hi := hS
  have sa := hS.a
  have sb := hS.b
  have sc' := hS.c
  refine wp_br (fun hlt => ?_) (fun hge => ?_)
  · have hlt : lo < hi := of_decide_eq_true hlt
    dsimp only
    have hm := mid_eq sa sb (by omega)
    simp only [hm]
    refine ⟨Enc.is_F _ _ _, hs, draw_ok ⟨by omega, by omega⟩, wp_br (fun hz => ⟨hS.up hlt (of_decide_eq_true hz), ?_⟩) (fun hz => ⟨?_, ?_⟩)⟩
    · show (hi - (lo + hi + 1) / 2).toNat < (hi - lo).toNat
      omega
    · show SrB sc nw lo (IntKind.i64.wrap ((lo + hi + 1) / 2 - 1))
      rw [wrap_id (by omega) (by omega)]; exact hS.down hlt (of_decide_eq_false hz)
    · show (IntKind.i64.wrap ((lo + hi + 1) / 2 - 1) - lo).toNat < (hi - lo).toNat
      rw [wrap_id (by omega) (by omega)]; omega
  · have hge : ¬ lo < hi := of_decide_eq_false hge
    have he := evA_eq hs (hS.fin hge)
    show T.wp _ (fun r => _)
    have hw : IntKind.i64.wrap (lo + 1) = lo + 1 := wrap_id (by omega) (by omega)
    refine wp_br (fun hz => ?_) (fun hz => ?_)
    · have hz : (lo == 20000) = true := hz
      show rsEqv _ [rI (M.evA sc nw), rI (M.evB sc nw), rI 0]
      unfold M.evB
      rw [he, hz]; exact rsEqv_refl _
    · have hz : (lo == 20000) = false := hz
      have hz' : ¬ lo = 20000 := by simpa using hz
      refine ⟨Enc.is_F _ _ _, hs, by dsimp only; rw [hw]; exact draw_ok ⟨by omega, by omega⟩, ?_⟩
      show rsEqv _ [rI (M.evA sc nw), rI (M.evB sc nw), rI 0]
      unfold M.evB
      rw [he, hz]
      dsimp only
      rw [hw]; exact rsEqv_refl _
def dom28g : DomF
  | [.agg [.sl _ n_sc st_sc F_sc, .int .i64 new]] => (match (Nat.beq st_sc 4 || Nat.beq n_sc 0) with
    | true => some ([eSc.Is n_sc F_sc, (eSc.list n_sc F_sc).length ≤ 100000], [rI (M.evX (eSc.list n_sc F_sc) new).1, rI (M.evX (eSc.list n_sc F_sc) new).2.1, rI (M.evX (eSc.list n_sc F_sc) new).2.2])
    | _ => none)
  | _ => none
def v28g : Nat × Sm := (28, fokSm dom28g)
theorem C28g : FOK Try.prog G0 gw 28 dom28g := by
  intro ags p r hd hp κ w xs hw hl hG hx
  unfold dom28g at hd
  split at hd
  · rename_i q_sc n_sc st_sc F_sc new
    split at hd
    · rename_i hst
      have g1 := hst
      simp only [Option.some.injEq, Prod.mk.injEq] at hd
      obtain ⟨rfl, rfl⟩ := hd
      obtain ⟨hI_sc, hp⟩ := hp
      have heq : agsEqv [.agg [.sl q_sc n_sc st_sc F_sc, .int .i64 new]] [.agg [.sl q_sc (eSc.list n_sc F_sc).length 4 (eSc.F (eSc.list n_sc F_sc)), .int .i64 new]] := ⟨⟨eSc.toz g1 hI_sc, rfl, trivial⟩, trivial⟩
      have len_sc : (eSc.list n_sc F_sc).length = n_sc := eSc.list_len
      generalize eSc.list n_sc F_sc = sc at *
      subst len_sc
      exact fokX_fin mixed gw_stable (sl := [v95, v96]) ⟨S95, S96, trivial⟩ Try.func28 hw hl hG hx heq rfl (t28g _ _ _) (w28g _ _ _ hp.1)
    · cases hd
  · cases hd
theorem S28g : SumOK Try.prog G0 gw 28 (fokSm dom28g) := fok_sum Try.func28 rfl C28g
def tr31 (q_sc : Bool) (sc : List Scale) (new : Int) : T (List Ar) :=
    T.need (Enc.Is eSc (List.length sc) (Enc.F eSc sc)) (T.need (Prod.snd (M.checkSys (Enc.list eSc (List.length sc) (Enc.F eSc sc)) new) = (0 : Int)) (T.need ((0 : Int) = (0 : Int)) (T.br (decide (M.broke (Enc.list eSc (List.length sc) (Enc.F eSc sc)) new (0 : Int) ≥ (0 : Int))) (T.ret [Ar.c (D.int IntKind.i64 (0 : Int)), Ar.c (D.int IntKind.i64 (0 : Int)), Ar.c (D.bool false)]) (T.loop (Int × Int × PUnit) ((0 : Int), (20000 : Int), PUnit.unit) fun (x : Int × Int × PUnit) => T.br (decide (Prod.fst x < Prod.fst (Prod.snd x))) (T.need ((2 : Int) ≠ (0 : Int)) (T.need (Enc.Is eSc (List.length sc) (Enc.F eSc sc)) (T.need (Prod.snd (M.checkSys (Enc.list eSc (List.length sc) (Enc.F eSc sc)) new) = (0 : Int)) (T.need (M.drawErr (M.ceilW (IntKind.i64.wrap (Prod.fst x + Prod.fst (Prod.snd x))) (2 : Int)) = (0 : Int)) (T.br (decide (M.broke (Enc.list eSc (List.length sc) (Enc.F eSc sc)) new (M.ceilW (IntKind.i64.wrap (Prod.fst x + Prod.fst (Prod.snd x))) (2 : Int)) < (0 : Int))) (T.ret (Sum.inl (M.ceilW (IntKind.i64.wrap (Prod.fst x + Prod.fst (Prod.snd x))) (2 : Int), Prod.fst (Prod.snd x), PUnit.unit))) (T.ret (Sum.inl (Prod.fst x, IntKind.i64.wrap (M.ceilW (IntKind.i64.wrap (Prod.fst x + Prod.fst (Prod.snd x))) (2 : Int) - (1 : Int)), PUnit.unit)))))))) (T.br (Prod.fst x == (20000 : Int)) (T.ret (Sum.inr [Ar.c (D.int IntKind.i64 (Prod.fst x)), Ar.c (D.int IntKind.i64 (-1 : Int)), Ar.c (D.bool true)])) (T.need (Enc.Is eSc (List.length sc) (Enc.F eSc sc)) (T.need (Prod.snd (M.checkSys (Enc.list eSc (List.length sc) (Enc.F eSc sc)) new) = (0 : Int)) (T.need (M.drawErr (IntKind.i64.wrap (Prod.fst x + (1 : Int))) = (0 : Int)) (T.ret (Sum.inr [Ar.c (D.int IntKind.i64 (Prod.fst x)), Ar.c (D.int IntKind.i64 (M.broke (Enc.list eSc (List.length sc) (Enc.F eSc sc)) new (IntKind.i64.wrap (Prod.fst x + (1 : Int))))), Ar.c (D.bool true)]))))))))))
theorem t31 (q_sc : Bool) (sc : List Scale) (new : Int) : runFnX Try.prog G0 (lookS [v32, v97]) (fun _ => [(4, [.slot 5 (.int .i64), .slot 6 (.int .i64)], none)]) [] 1 60 4 31 Try.f31 [.agg [.sl q_sc sc.length 4 (eSc.F sc), dI new]] =
    tr31 q_sc sc new := by kernel_rfl
theorem w31 (q : Bool) (sc : List Scale) (nw : Int) (hs : (M.checkSys sc nw).2 = 0) : (tr31 q sc nw).wp (fun rs => rsEqv rs [rI (cond (decide (M.broke sc nw 0 ≥ 0)) 0 (M.evA sc nw)), rI (cond (decide (M.broke sc nw 0 ≥ 0)) 0 (M.evB sc nw)), .c (.bool (!decide (M.broke sc nw 0 ≥ 0)))]) := by
  unfold tr31
  simp only [Enc.list_F]
  refine ⟨Enc.is_F _ _ _, hs, trivial, wp_br (fun hc => ?_) (fun hc => ?_)⟩
  · have hc' : decide (M.broke sc nw 0 ≥ 0) = true := hc
    rw [hc']; exact rsEqv_refl _
  have hc' : decide (M.broke sc nw 0 ≥ 0) = false := hc
  rw [hc']
  have hc0 : ¬ M.broke sc nw 0 ≥ 0 := of_decide_eq_false hc'
  refine ⟨fun x => SrB sc nw x.1 x.2.1, fun x => (x.2.1 - x.1).toNat, ⟨Int.le_refl _, by decide, Int.le_refl _, by show M.broke sc nw 0 < 0; omega, .inl rfl⟩, ?_⟩
  rintro ⟨lo, hi, u'⟩ hS
  have hS : SrB sc nw lo hi := hS
  have sa := hS.a
  have sb := hS.b
  have sc' := hS.c
  refine wp_br (fun hlt => ?_) (fun hge => ?_)
  · have hlt : lo < hi := of_decide_eq_true hlt
    dsimp only
    have hm : M.ceilW (IntKind.i64.wrap (lo + hi)) 2 = (lo + hi + 1) / 2 := by
      rw [wrap_id (by omega) (by omega), ceilW_eq ⟨by omega, by omega⟩ (by decide)]
      omega
    simp only [hm]
    refine ⟨by decide, Enc.is_F _ _ _, hs, draw_ok ⟨by omega, by omega⟩, wp_br (fun hz => ⟨hS.up hlt (of_decide_eq_true hz), ?_⟩) (fun hz => ⟨?_, ?_⟩)⟩
    · show (hi - (lo + hi + 1) / 2).toNat < (hi - lo).toNat
      omega
    · show SrB sc nw lo (IntKind.i64.wrap ((lo + hi + 1) / 2 - 1))
      rw [wrap_id (by omega) (by omega)]; exact hS.down hlt (of_decide_eq_false hz)
    · show (IntKind.i64.wrap ((lo + hi + 1) / 2 - 1) - lo).toNat < (hi - lo).toNat
      rw [wrap_id (by omega) (by omega)]; omega
  · have hge : ¬ lo < hi := of_decide_eq_false hge
    have he := evA_eq hs (hS.fin hge)
    have hw : IntKind.i64.wrap (lo + 1) = lo + 1 := wrap_id (by omega) (by omega)
    refine wp_br (fun hz => ?_) (fun hz => ?_)
    · have hz : (lo == 20000) = true := hz
      show rsEqv _ [rI (M.evA sc nw), rI (M.evB sc nw), .c (.bool true)]
      unfold M.evB
      rw [he, hz]; exact rsEqv_refl _
    · have hz : (lo == 20000) = false := hz
      have hz' : ¬ lo = 20000 := by simpa using hz
      refine ⟨Enc.is_F _ _ _, hs, by dsimp only; rw [hw]; exact draw_ok ⟨by omega, by omega⟩, ?_⟩
      show rsEqv _ [rI (M.evA sc nw), rI (M.evB sc nw), .c (.bool true)]
      unfold M.evB
      rw [he, hz]
      dsimp only
      rw [hw]; exact rsEqv_refl _
def dom31 : DomF
  | [.agg [.sl _ n_sc st_sc F_sc, .int .i64 new]] => (match (Nat.beq st_sc 4 || Nat.beq n_sc 0) with
    | true => some ([eSc.Is n_sc F_sc, (M.checkSys (eSc.list n_sc F_sc) new).2 = 0], [rI (cond (decide (M.broke (eSc.list n_sc F_sc) new 0 ≥ 0)) 0 (M.evA (eSc.list n_sc F_sc) new)), rI (cond (decide (M.broke (eSc.list n_sc F_sc) new 0 ≥ 0)) 0 (M.evB (eSc.list n_sc F_sc) new)), .c (.bool (!decide (M.broke (eSc.list n_sc F_sc) new 0 ≥ 0)))])
    | _ => none)
  | _ => none
def v31 : Nat × Sm := (31, fokSm dom31)
theorem C31 : FOK Try.prog G0 gw 31 dom31 := by
  intro ags p r hd hp κ w xs hw hl hG hx
  unfold dom31 at hd
  split at hd
  · rename_i q_sc n_sc st_sc F_sc new
    split at hd
    · rename_i hst
      have g1 := hst
      simp only [Option.some.injEq, Prod.mk.injEq] at hd
      obtain ⟨rfl, rfl⟩ := hd
      obtain ⟨hI_sc, hp⟩ := hp
      have heq : agsEqv [.agg [.sl q_sc n_sc st_sc F_sc, .int .i64 new]] [.agg [.sl q_sc (eSc.list n_sc F_sc).length 4 (eSc.F (eSc.list n_sc F_sc)), .int .i64 new]] := ⟨⟨eSc.toz g1 hI_sc, rfl, trivial⟩, trivial⟩
      have len_sc : (eSc.list n_sc F_sc).length = n_sc := eSc.list_len
      generalize eSc.list n_sc F_sc = sc at *
      subst len_sc
      exact fokX_fin mixed gw_stable (sl := [v32, v97]) ⟨S32, S97, trivial⟩ Try.func31 hw hl hG hx heq rfl (t31 _ _ _) (w31 _ _ _ hp.1)
    · cases hd
  · cases hd
theorem S31 : SumOK Try.prog G0 gw 31 (fokSm dom31) := fok_sum Try.func31 rfl C31
end Go.Pl
end

section
set_option linter.unusedVariables false
set_option linter.unusedSimpArgs false
set_option maxRecDepth 100000
namespace Go.Pl
open Go.V Go.Proofs
theorem lastOk_spec {p : Nat → Bool} (h0 : p 0 = true) : ∀ n, p (lastOk p n) = true ∧ lastOk p n ≤ n ∧ ∀ j, lastOk p n < j → j ≤ n → p j = false := by
  intro n
  induction n with
  | zero => exact ⟨h0, Nat.le_refl _, fun j h1 h2 => absurd h1 (by show ¬ 0 < j; omega)⟩
  | succ n ih =>
    obtain ⟨i1, i2, i3⟩ := ih
    show p (cond (p (n + 1)) (n + 1) (lastOk p n)) = true ∧ cond (p (n + 1)) (n + 1) (lastOk p n) ≤ n + 1 ∧ ∀ j, cond (p (n + 1)) (n + 1) (lastOk p n) < j → j ≤ n + 1 → p j = false
    cases hp : p (n + 1)
    · refine ⟨i1, by show lastOk p n ≤ n + 1; omega, fun j h1 h2 => ?_⟩
      have h1 : lastOk p n < j := h1
      rcases Nat.lt_or_ge j (n + 1) with h3 | h3
      · exact i3 j h1 (by omega)
      · obtain rfl : j = n + 1 := by omega
        exact hp
    · exact ⟨hp, Nat.le_refl _, fun j h1 h2 => absurd h1 (by show ¬ n + 1 < j; omega)⟩
theorem evA_spec {sc : List Scale} {nw : Int} (h0 : M.broke sc nw 0 < 0) : IsEv sc nw (M.evA sc nw) := by
  obtain ⟨s1, s2, s3⟩ := lastOk_spec (p := fun n : Nat => decide (M.broke sc nw n < 0)) (decide_eq_true h0) M.cap
  have s2 : lastOk (fun n : Nat => decide (M.broke sc nw n < 0)) M.cap ≤ 20000 := s2
  have e : M.evA sc nw = ((lastOk (fun n : Nat => decide (M.broke sc nw n < 0)) M.cap : Nat) : Int) := rfl
  generalize lastOk (fun n : Nat => decide (M.broke sc nw n < 0)) M.cap = a at *
  rw [e]
  refine ⟨by omega, by omega, of_decide_eq_true s1, ?_⟩
  rcases Nat.lt_or_ge a 20000 with h | h
  · have := of_decide_eq_false (s3 (a + 1) (by omega) (by show a + 1 ≤ 20000; omega))
    refine .inr ?_
    rw [show ((a + 1 : Nat) : Int) = (a : Int) + 1 by omega] at this
    omega
  · exact .inl (by omega)
namespace M
def up1 (w : Int) (c : Scale) : Scale := ⟨c.vol, c.l, c.h, if IntKind.i64.wrap (c.least + w) < 100000 then IntKind.i64.wrap (c.least + w) else 100000⟩
def upL (w : Int) (sc : List Scale) : List Scale := sc.map (up1 w)
end M
theorem upL_len (w : Int) (sc : List Scale) : (M.upL w sc).length = sc.length := by simp [M.upL]
theorem upL_get {w : Int} {sc : List Scale} {k : Nat} (h : k < sc.length) : (M.upL w sc).getD k dfS = M.up1 w (sc.getD k dfS) := by simp [M.upL, h]
theorem up_sys {w : Int} {sc : List Scale} {nw : Int} (hw : 0 ≤ w ∧ w ≤ 255) (h : (M.checkSys sc nw).2 = 0) : (M.checkSys (M.upL w sc) nw).2 = 0 := by
  obtain ⟨n0, n4, hnw, hr⟩ := sys_right h
  have e0 : M.sysErr0 (M.upL w sc) nw = 0 := by
    unfold M.sysErr0
    rw [upL_len, decide_eq_true (by omega), decide_eq_true (by omega), within_iff.2 hnw]; rfl
  unfold M.checkSys
  rw [e0]
  show (M.badFrom _ _ 0).2 = 0
  rw [bad_all _ 0 fun i _ hi => ?_]
  rw [upL_len] at hi
  rw [upL_get (by omega)]
  obtain ⟨s1, s2, s3⟩ := scale_right (hr i (by omega))
  unfold M.scaleErr M.rgErr M.up1
  dsimp only
  have hwr : IntKind.i64.wrap ((sc.getD i dfS).least + w) = (sc.getD i dfS).least + w := wrap_id (by omega) (by omega)
  have w1 : M.within (sc.getD i dfS).l 0 (sc.getD i dfS).vol = true := within_iff.2 (by omega)
  have w2 : M.within (sc.getD i dfS).h 0 (sc.getD i dfS).vol = true := within_iff.2 (by omega)
  have w3 : M.within (if IntKind.i64.wrap ((sc.getD i dfS).least + w) < 100000 then IntKind.i64.wrap ((sc.getD i dfS).least + w) else 100000) 0 100000 = true := by
    rw [hwr]
    refine within_iff.2 ?_
    split <;> omega
  rw [within_iff.2 s1, w1, w2, w3, decide_eq_true s2.2.1]; rfl
theorem up_fl (w : Int) (sc : List Scale) (d : Int) : ∀ k, k ≤ sc.length → M.fl (M.upL w sc) d k = M.fl sc d k := by
  intro k
  induction k with
  | zero => intro _; rfl
  | succ k ih =>
    intro hk
    simp only [M.fl]
    rw [ih (by omega), upL_get (by omega)]
    rfl
theorem up_flows (w : Int) (sc : List Scale) (d : Int) : M.flows (M.upL w sc) d = M.flows sc d := by
  unfold M.flows
  rw [upL_len]
  apply List.map_congr_left
  intro k hk
  exact up_fl w sc d (k + 1) (by have := List.mem_range.1 hk; omega)
theorem stN_vol {g : Rg → Int} {sc sc' : List Scale} {fl : List Rg} : ∀ (m i : Nat), (∀ k, i ≤ k → k < i + m → (sc'.getD k dfS).vol = (sc.getD k dfS).vol) → ∀ N D, M.stN g sc' fl m i N D = M.stN g sc fl m i N D := by
  intro m
  induction m with
  | zero => intro i _ N D; rfl
  | succ m ih =>
    intro i h N D
    simp only [M.stN]
    rw [h i (Nat.le_refl _) (by omega)]
    exact ih (i + 1) (fun k h1 h2 => h k (by omega) (by omega)) _ _
theorem up_lo {w : Int} {sc : List Scale} {nw : Int} {fl : List Rg} {k : Nat} : M.stLo M.gh (M.upL w sc) nw fl k = M.stLo M.gh sc nw fl k := by
  have e : ∀ j, k ≤ j → j < k + (sc.length - k) → ((M.upL w sc).getD j dfS).vol = (sc.getD j dfS).vol := fun j h1 h2 => by rw [upL_get (by omega)]; rfl
  unfold M.stLo M.steady
  rw [upL_len, stN_vol _ _ e]
theorem up_weak {w : Int} {sc : List Scale} {nw d : Int} (hw : 0 ≤ w ∧ w ≤ 255) (hs : (M.checkSys sc nw).2 = 0) {k : Nat} (hk : k < sc.length) (h : M.weak sc nw d k = true) : M.weak (M.upL w sc) nw d k = true := by
  have s := (scale_right ((sys_right hs).2.2.2 k hk)).2.2
  rcases weak_iff.1 h with h1 | ⟨h1, h2⟩
  · refine weak_iff.2 (.inl ?_)
    rw [up_flows, upL_get hk]; exact h1
  · refine weak_iff.2 (.inr ?_)
    rw [up_flows, upL_get hk, up_lo]
    refine ⟨h1, ?_⟩
    have hwr : IntKind.i64.wrap ((sc.getD k dfS).least + w) = (sc.getD k dfS).least + w := wrap_id (by omega) (by omega)
    show _ < (if IntKind.i64.wrap ((sc.getD k dfS).least + w) < 100000 then IntKind.i64.wrap ((sc.getD k dfS).least + w) else 100000)
    rw [hwr]
    split <;> omega
theorem up_broke {w : Int} {sc : List Scale} {nw d : Int} (hw : 0 ≤ w ∧ w ≤ 255) (hs : (M.checkSys sc nw).2 = 0) (h : M.broke (M.upL w sc) nw d < 0) : M.broke sc nw d < 0 := by
  refine broke_lt.2 fun i hi => ?_
  have := broke_lt.1 h i (by rw [upL_len]; exact hi)
  cases hx : M.weak sc nw d i
  · rfl
  · rw [up_weak hw hs hi hx] at this; cases this
def upK (w : Int) (sc : List Scale) (k : Nat) : List Scale := (List.range sc.length).map fun i => if i < k then M.up1 w (sc.getD i dfS) else sc.getD i dfS
theorem upK_len (w : Int) (sc : List Scale) (k : Nat) : (upK w sc k).length = sc.length := by simp [upK]
theorem upK_get {w : Int} {sc : List Scale} {k i : Nat} (h : i < sc.length) : (upK w sc k).getD i dfS = if i < k then M.up1 w (sc.getD i dfS) else sc.getD i dfS := by simp [upK, h]
theorem upK_zero (w : Int) (sc : List Scale) : upK w sc 0 = sc := scs_ext (upK_len _ _ _) fun k hk => by
  rw [upK_len] at hk
  rw [upK_get hk, if_neg (by omega)]
theorem upK_end (w : Int) (sc : List Scale) : upK w sc sc.length = M.upL w sc := scs_ext (by rw [upK_len, upL_len]) fun k hk => by
  rw [upK_len] at hk
  rw [upK_get hk, if_pos hk, upL_get hk]
theorem upK_set {w : Int} {sc : List Scale} {k : Nat} (hk : k < sc.length) : (upK w sc k).set k (M.up1 w (sc.getD k dfS)) = upK w sc (k + 1) := scs_ext (by rw [List.length_set, upK_len, upK_len]) fun i hi => by
  rw [List.length_set, upK_len] at hi
  rw [set_getD (by rw [upK_len]; exact hi), upK_get hi, upK_get hi]
  by_cases h1 : k = i
  · subst h1; rw [if_pos rfl, if_pos (by omega)]
  · rw [if_neg h1]
    by_cases h2 : i < k
    · rw [if_pos h2, if_pos (by omega)]
    · rw [if_neg h2, if_neg (by omega)]
theorem put_up {l : List Scale} {k n : Nat} {v : Int} (hk : k < l.length) (hn : n = 1) : eSc.Is l.length (putF k 3 n [dI v] (eSc.F l)) ∧ eSc.list l.length (putF k 3 n [dI v] (eSc.F l)) = l.set k ⟨(l.getD k dfS).vol, (l.getD k dfS).l, (l.getD k dfS).h, v⟩ := by
  subst hn
  have at_ : ∀ j, putF k 3 1 [dI v] (eSc.F l) k j = (match Nat.ble 3 j && Nat.blt j 4 with | true => [dI v].getD (j - 3) .nilp | false => eSc.F l k j) := by
    intro j
    unfold putF
    rw [beq_self_nat, Bool.true_and]
    rfl
  refine put_row eSc hk (fun i hi => putF_ne i hi) (fun j hj => ?_) ?_
  · have hj : j < 4 := hj
    rw [at_]
    match j, hj with
    | 0, _ => exact D.eqv_refl _
    | 1, _ => exact D.eqv_refl _
    | 2, _ => exact D.eqv_refl _
    | 3, _ => exact D.eqv_refl _
  · show (⟨rdI _ 0, rdI _ 1, rdI _ 2, rdI _ 3⟩ : Scale) = _
    unfold rdI
    rw [at_, at_, at_, at_]
    rfl
def k4_1 (sc : List Scale) (new : Int) := M.evX (Enc.list eSc ((0 : Nat) + List.length sc) (joinF (0 : Nat) (fun (i j : Nat) => List.getD [] (i * (4 : Nat) + j) D.nilp) (Enc.F eSc sc))) new
def k4_2 (x : Int × List Scale × Int × PUnit) (w : Int) := if IntKind.i64.wrap (Scale.least (List.getD (Prod.fst (Prod.snd x)) (Int.toNat (Prod.fst x)) { vol := (0 : Int), l := (0 : Int), h := (0 : Int), least := (0 : Int) }) + IntKind.i64.wrap w) < (100000 : Int) then IntKind.i64.wrap (Scale.least (List.getD (Prod.fst (Prod.snd x)) (Int.toNat (Prod.fst x)) { vol := (0 : Int), l := (0 : Int), h := (0 : Int), least := (0 : Int) }) + IntKind.i64.wrap w) else (100000 : Int)
def tr4 (q_sc : Bool) (sc : List Scale) (new : Int) (w : Int) : T (List Ar) :=
    T.br (!true) (T.ret [Ar.c (D.bool false)]) (T.need (Enc.Is eSc (List.length sc) (Enc.F eSc sc)) (T.br (!decide ((Nat.cast (R := Int) (List.length (Enc.list eSc (List.length sc) (Enc.F eSc sc)))) ≤ (6 : Int))) (T.ret [Ar.c (D.bool true)]) (T.need ((0 : Nat) + List.length sc ≤ (1000000 : Nat)) (T.need ((0 : Nat) + List.length sc ≤ (0 : Nat) + List.length sc) (T.need (Enc.Is eSc ((0 : Nat) + List.length sc) (joinF (0 : Nat) (fun (i j : Nat) => List.getD [] (i * (4 : Nat) + j) D.nilp) (Enc.F eSc sc))) (T.need (List.length (Enc.list eSc ((0 : Nat) + List.length sc) (joinF (0 : Nat) (fun (i j : Nat) => List.getD [] (i * (4 : Nat) + j) D.nilp) (Enc.F eSc sc))) ≤ (100000 : Nat)) (T.need (Enc.Is eSc (List.length sc) (Enc.F eSc sc)) (T.need (List.length (Enc.list eSc (List.length sc) (Enc.F eSc sc)) ≤ (100000 : Nat)) (T.br (Prod.snd (M.checkSys (Enc.list eSc (List.length sc) (Enc.F eSc sc)) new) != (0 : Int)) (T.br (Prod.snd (Prod.snd (k4_1 sc new)) == Prod.snd (M.checkSys (Enc.list eSc (List.length sc) (Enc.F eSc sc)) new)) (T.br (Prod.fst (k4_1 sc new) == (0 : Int)) (T.ret [Ar.c (D.bool (Prod.fst (Prod.snd (k4_1 sc new)) == (0 : Int)))]) (T.ret [Ar.c (D.bool false)])) (T.ret [Ar.c (D.bool false)])) (T.need (Enc.Is eSc (List.length sc) (Enc.F eSc sc)) (T.need (Prod.snd (M.checkSys (Enc.list eSc (List.length sc) (Enc.F eSc sc)) new) = (0 : Int)) (T.br (!!decide (M.broke (Enc.list eSc (List.length sc) (Enc.F eSc sc)) new (0 : Int) ≥ (0 : Int))) (T.br (Prod.snd (Prod.snd (k4_1 sc new)) == (12 : Int)) (T.br (Prod.fst (k4_1 sc new) == (0 : Int)) (T.ret [Ar.c (D.bool (Prod.fst (Prod.snd (k4_1 sc new)) == (0 : Int)))]) (T.ret [Ar.c (D.bool false)])) (T.ret [Ar.c (D.bool false)])) (T.br (Prod.snd (Prod.snd (k4_1 sc new)) != (0 : Int)) (T.ret [Ar.c (D.bool false)]) (T.br (Prod.fst (k4_1 sc new) != bif decide (M.broke (Enc.list eSc (List.length sc) (Enc.F eSc sc)) new (0 : Int) ≥ (0 : Int)) then (0 : Int) else M.evA (Enc.list eSc (List.length sc) (Enc.F eSc sc)) new) (T.ret [Ar.c (D.bool false)]) (T.br (Prod.fst (Prod.snd (k4_1 sc new)) != bif decide (M.broke (Enc.list eSc (List.length sc) (Enc.F eSc sc)) new (0 : Int) ≥ (0 : Int)) then (0 : Int) else M.evB (Enc.list eSc (List.length sc) (Enc.F eSc sc)) new) (T.ret [Ar.c (D.bool false)]) (T.need (Enc.Is eSc (List.length sc) (Enc.F eSc sc)) (T.need (Prod.snd (M.checkSys (Enc.list eSc (List.length sc) (Enc.F eSc sc)) new) = (0 : Int)) (T.need (M.drawErr (Prod.fst (k4_1 sc new)) = (0 : Int)) (T.br (decide (M.broke (Enc.list eSc (List.length sc) (Enc.F eSc sc)) new (Prod.fst (k4_1 sc new)) ≥ (0 : Int))) (T.ret [Ar.c (D.bool false)]) (T.need ((0 : Nat) + List.length sc ≤ (1000000 : Nat)) (T.need (Enc.Is eSc ((0 : Nat) + List.length sc) (joinF (0 : Nat) (fun (i j : Nat) => List.getD [] (i * (4 : Nat) + j) D.nilp) (Enc.F eSc sc))) (T.need ((0 : Nat) + List.length sc ≤ (0 : Nat) + List.length sc) (T.loop (Int × List Scale × Int × PUnit) ((0 : Int), Enc.list eSc ((0 : Nat) + List.length sc) (joinF (0 : Nat) (fun (i j : Nat) => List.getD [] (i * (4 : Nat) + j) D.nilp) (Enc.F eSc sc)), new, PUnit.unit) fun (x : Int × List Scale × Int × PUnit) => T.br (decide (Prod.fst x < (Nat.cast (R := Int) (List.length (Prod.fst (Prod.snd x)))))) (T.need ((0 : Int) ≤ Prod.fst x) (T.need (Prod.fst x < (Nat.cast (R := Int) (List.length (Prod.fst (Prod.snd x))))) (T.need (Int.toNat (Prod.fst x) < List.length (Prod.fst (Prod.snd x))) (T.need ((0 : Int) ≤ Prod.fst x) (T.need (Prod.fst x < (Nat.cast (R := Int) (List.length (Prod.fst (Prod.snd x))))) (T.need (Int.toNat (Prod.fst x) < List.length (Prod.fst (Prod.snd x))) (T.need (Enc.Is eSc (List.length (Prod.fst (Prod.snd x))) (putF (Int.toNat (Prod.fst x)) (3 : Nat) (List.length [C.int IntKind.i64 (k4_2 x w)]) [D.int IntKind.i64 (k4_2 x w)] (Enc.F eSc (Prod.fst (Prod.snd x))))) (T.need (List.length (Prod.fst (Prod.snd x)) ≤ List.length (Prod.fst (Prod.snd x))) (T.ret (Sum.inl (IntKind.i64.wrap (Prod.fst x + (1 : Int)), Enc.list eSc (List.length (Prod.fst (Prod.snd x))) (putF (Int.toNat (Prod.fst x)) (3 : Nat) (List.length [C.int IntKind.i64 (k4_2 x w)]) [D.int IntKind.i64 (k4_2 x w)] (Enc.F eSc (Prod.fst (Prod.snd x)))), Prod.fst (Prod.snd (Prod.snd x)), PUnit.unit))))))))))) (T.need (List.length (Prod.fst (Prod.snd x)) ≤ List.length (Prod.fst (Prod.snd x))) (T.need (Enc.Is eSc (List.length (Prod.fst (Prod.snd x))) (Enc.F eSc (Prod.fst (Prod.snd x)))) (T.need (List.length (Enc.list eSc (List.length (Prod.fst (Prod.snd x))) (Enc.F eSc (Prod.fst (Prod.snd x)))) ≤ (100000 : Nat)) (T.br (Prod.snd (Prod.snd (M.evX (Enc.list eSc (List.length (Prod.fst (Prod.snd x))) (Enc.F eSc (Prod.fst (Prod.snd x)))) (Prod.fst (Prod.snd (Prod.snd x))))) == (12 : Int)) (T.ret (Sum.inr [Ar.c (D.bool true)])) (T.br (Prod.snd (Prod.snd (M.evX (Enc.list eSc (List.length (Prod.fst (Prod.snd x))) (Enc.F eSc (Prod.fst (Prod.snd x)))) (Prod.fst (Prod.snd (Prod.snd x))))) == (0 : Int)) (T.ret (Sum.inr [Ar.c (D.bool (decide (Prod.fst (M.evX (Enc.list eSc (List.length (Prod.fst (Prod.snd x))) (Enc.F eSc (Prod.fst (Prod.snd x)))) (Prod.fst (Prod.snd (Prod.snd x)))) ≤ Prod.fst (k4_1 sc new))))])) (T.ret (Sum.inr [Ar.c (D.bool false)]))))))))))))))))))))))))))))))
theorem t4 (q_sc : Bool) (sc : List Scale) (new : Int) (w : Int) : runFnX Try.prog G0 (lookS [v15, v27, v28g, v30, v31, v32]) (fun f => match f with | 4 => [(16, [.slot 13 (.int .i64), .blk 12 [.rowE 63 eSc, .int .i64]], none)] | _ => []) [29, 68] 1 120 5 4 Try.f4 [.agg [.sl q_sc sc.length 4 (eSc.F sc), dI new], .c (.int .u8 w)] =
    tr4 q_sc sc new w := by kernel_rfl
theorem w4 (q : Bool) (sc : List Scale) (nw w : Int) (hw : 0 ≤ w ∧ w ≤ 255) : (tr4 q sc nw w).wp (fun rs => rsEqv rs [rB true]) := by
  unfold tr4
  have hw8 : IntKind.i64.wrap w = w := wrap_id (by omega) (by omega)
  simp only [k4_1, k4_2, Enc.list_F, Nat.zero_add, join0, hw8]
  refine br_f rfl ⟨Enc.is_F _ _ _, wp_br (fun _ => rsEqv_refl _) (fun hl => ?_)⟩
  have hl : decide ((sc.length : Int) ≤ 6) = true := by simpa using hl
  have hl := of_decide_eq_true hl
  have l1 : sc.length ≤ 100000 := by omega
  refine ⟨by omega, Nat.le_refl _, Enc.is_F _ _ _, l1, Enc.is_F _ _ _, l1, ?_⟩
  by_cases hs : (M.checkSys sc nw).2 = 0
  · refine br_f (by rw [hs]; rfl) ⟨Enc.is_F _ _ _, hs, ?_⟩
    have hsb : ((M.checkSys sc nw).2 != 0) = false := by rw [hs]; rfl
    cases hb : decide (M.broke sc nw 0 ≥ 0) with
    | true =>
      have e1 : M.evX sc nw = (0, 0, 12) := by unfold M.evX; rw [hsb, hb]; rfl
      rw [e1]
      exact br_t rfl (br_t rfl (br_t rfl (rsEqv_refl _)))
    | false =>
      have e1 : M.evX sc nw = (M.evA sc nw, M.evB sc nw, 0) := by unfold M.evX; rw [hsb, hb]; rfl
      have hev := evA_spec (sc := sc) (nw := nw) (by have := of_decide_eq_false hb; omega)
      rw [e1]
      refine br_f rfl (br_f rfl (br_f (bne_self_eq_false _) (br_f (bne_self_eq_false _) ⟨Enc.is_F _ _ _, hs, draw_ok ⟨hev.a0, hev.a1⟩, br_f (decide_eq_false (by have := hev.b; dsimp only; omega)) ⟨by omega, Enc.is_F _ _ _, Nat.le_refl _, ?_⟩⟩)))
      refine range_wp (n := sc.length) (fun k s => s.1 = upK w sc k ∧ s.2.1 = nw) ⟨(upK_zero w sc).symm, rfl⟩ ?_
      rintro k ⟨L, nw', u⟩ hk ⟨hL, hN⟩
      have hL : L = upK w sc k := hL
      have hN' : nw = nw' := (hN : nw' = nw).symm
      subst hL hN'
      have hLl := upK_len w sc k
      refine wp_br (fun hb => ?_) (fun hb => ?_)
      · have hlt : k < sc.length := by have h1 : k < (upK w sc k).length := lt_of_dec hb; omega
        have e0 : (upK w sc k).getD k dfS = sc.getD k dfS := by rw [upK_get hlt, if_neg (by omega)]
        obtain ⟨o1, o2⟩ := put_up (l := upK w sc k) (k := k) (n := 1) (v := (M.up1 w (sc.getD k dfS)).least) (by omega) rfl
        rw [e0] at o2
        have o3 := o2.trans (upK_set hlt)
        have e4 : (if IntKind.i64.wrap (((upK w sc k).getD k { vol := 0, l := 0, h := 0, least := 0 }).least + w) < 100000 then IntKind.i64.wrap (((upK w sc k).getD k { vol := 0, l := 0, h := 0, least := 0 }).least + w) else 100000) = (M.up1 w (sc.getD k dfS)).least := by
          rw [show (upK w sc k).getD k { vol := 0, l := 0, h := 0, least := 0 } = sc.getD k dfS from e0]; rfl
        dsimp only
        simp only [Int.toNat_natCast, e4]
        exact ⟨by omega, by omega, by omega, by omega, by omega, by omega, o1, Nat.le_refl _, hlt, wrap_succ (by omega), o3, rfl⟩
      have hge : k = sc.length := by have h1 : (upK w sc k).length ≤ k := ge_of_dec hb; omega
      subst hge
      rw [upK_end] at hLl ⊢
      dsimp only
      refine ⟨Nat.le_refl _, Enc.is_F _ _ _, by omega, ?_⟩
      have hs' := up_sys hw hs
      have hsb' : ((M.checkSys (M.upL w sc) nw).2 != 0) = false := by rw [hs']; rfl
      cases hb' : decide (M.broke (M.upL w sc) nw 0 ≥ 0) with
      | true =>
        have e2 : M.evX (M.upL w sc) nw = (0, 0, 12) := by unfold M.evX; rw [hsb', hb']; rfl
        rw [e2]
        exact br_t rfl (rsEqv_refl _)
      | false =>
        have e2 : M.evX (M.upL w sc) nw = (M.evA (M.upL w sc) nw, M.evB (M.upL w sc) nw, 0) := by unfold M.evX; rw [hsb', hb']; rfl
        have hev' := evA_spec (sc := M.upL w sc) (nw := nw) (by have := of_decide_eq_false hb'; omega)
        have hle := ev_max hs hev hev'.a1 (up_broke hw hs hev'.b)
        rw [e2]
        refine br_f rfl (br_t rfl ?_)
        show rsEqv [rB (decide (M.evA (M.upL w sc) nw ≤ M.evA sc nw))] [rB true]
        rw [decide_eq_true hle]; exact rsEqv_refl _
  · have hsb : ((M.checkSys sc nw).2 != 0) = true := bne_iff_ne.2 hs
    have e1 : M.evX sc nw = (0, 0, (M.checkSys sc nw).2) := by unfold M.evX; rw [hsb]; rfl
    rw [e1]
    exact br_t hsb (br_t (beq_self_eq_true _) (br_t rfl (rsEqv_refl _)))
def dom4 : DomF
  | [.agg [.sl _ n_sc st_sc F_sc, .int .i64 new], .c (.int .u8 w)] => (match Nat.beq st_sc 4 with
    | true => some ([eSc.Is n_sc F_sc, 0 ≤ w ∧ w ≤ 255], [rB true])
    | _ => none)
  | _ => none
theorem C4 : FOK Try.prog G0 gw 4 dom4 := by
  intro ags p r hd hp κ w xs hw hl hG hx
  unfold dom4 at hd
  split at hd
  · rename_i q_sc n_sc st_sc F_sc new w
    split at hd
    · rename_i hst
      have g1 := hst
      have g1 := Nat.eq_of_beq_eq_true g1
      subst g1
      simp only [Option.some.injEq, Prod.mk.injEq] at hd
      obtain ⟨rfl, rfl⟩ := hd
      obtain ⟨hI_sc, hp⟩ := hp
      have heq : agsEqv [.agg [.sl q_sc n_sc 4 F_sc, .int .i64 new], .c (.int .u8 w)] [.agg [.sl q_sc (eSc.list n_sc F_sc).length 4 (eSc.F (eSc.list n_sc F_sc)), .int .i64 new], .c (.int .u8 w)] := ⟨⟨eSc.to id hI_sc, rfl, trivial⟩, Ag.eqv_refl _, trivial⟩
      have len_sc : (eSc.list n_sc F_sc).length = n_sc := eSc.list_len
      generalize eSc.list n_sc F_sc = sc at *
      subst len_sc
      exact fokX_fin mixed gw_stable (sl := [v15, v27, v28g, v30, v31, v32]) ⟨S15, S27, S28g, S30, S31, S32, trivial⟩ Try.func4 hw hl hG hx heq rfl (t4 _ _ _ _) (w4 _ _ _ _ hp.1)
    · cases hd
  · cases hd
end Go.Pl
end

section
set_option linter.unusedVariables false
set_option linter.unusedSimpArgs false
namespace Go.Rw
open Go Go.ChangeShapes Go.WideShapes Go.RowKit Go.ChangeAt
open Go.V (F2 D fullK fullK_cell f2_append f2_len f2_get)
section
variable {H : Type} {enc : TypeId × Value → H} {P : Program} {w : World} {base : Nat} {sp : Nat → Bool} {hd : Bool}
theorem trodAll_below (hl : laidOutB P = true) {W W' : World} (hb : Below W.heap.size W W') : ∀ {ts : List TypeId} {vs : List Value} {ds : List (DataW H)} {ps : List MemPlace},
    (∀ t ∈ ts, P.readableRec t = true ∧ t < P.types.size) → DataW.TrodAll enc P W 0 (fun _ => true) true ts vs ds ps → (∀ x ∈ ps, x.block < W.heap.size) →
    DataW.TrodAll enc P W' 0 (fun b => decide (b < W.heap.size)) true ts vs ds ps
  | [], _, _, _, _, h, _ => by
    obtain ⟨rfl, rfl, rfl⟩ := trodAll_nil h
    exact trodAll_mk0
  | t :: ts, _, _, _, hr, h, hlt => by
    obtain ⟨v, vs1, d, ds1, a, b, rfl, rfl, rfl, h1, h2⟩ := trodAll_cons h
    refine ⟨a, b, ?_, trodAll_below hl hb (fun u hu => hr u (List.mem_cons_of_mem _ hu)) h2 fun x hx => hlt x (List.mem_append_right _ hx), rfl⟩
    have ht := hr t (List.mem_cons_self ..)
    exact Below.trod hl ht.1 ht.2 h1 hb fun x hx => hlt x (List.mem_append_left _ hx)
theorem law_post {fn : Func} {s : ChangeSpec} {apart fresh handsOn : Bool} {W W' : World} {args : Array Value} {ds gs : List (DataW H)} {before : List MemPlace} {tb : TypeId} (hl : laidOutB P = true)
    (hr : ∀ t ∈ fn.params.toList, P.readableRec t = true ∧ t < P.types.size) (hv : s.vars = []) (hrt : fn.resultTypes = #[tb]) (hbool : P.underlying tb = some .bool)
    (hfn : s.fn H ds = { results := [.lit (.bool true)], args := ds })
    (hW : DataW.Whole enc P fn.params.toList s.vars apart W args.toList ds gs before) (hb : Below W.heap.size W W') : s.post enc P fn apart fresh handsOn false W args (.bool true) W' := by
  have hW' := hW
  obtain ⟨p, q, hA, hV, rfl, _, _⟩ := hW'
  have hlt : ∀ x ∈ p ++ q, x.block < W.heap.size := fun x hx => hW.lt x hx
  rw [hv] at hV
  have hgs : gs = [] ∧ q = [] := by
    cases gs with
    | nil => exact ⟨rfl, hV⟩
    | cons g r => exact absurd hV (by intro h; cases h)
  obtain ⟨rfl, rfl⟩ := hgs
  have e : s.fn H (ds ++ []) = { results := [.lit (.bool true)], args := ds } := by rw [List.append_nil]; exact hfn
  refine ⟨ds, [], _, [], p, [], hW, ?_, ?_, ?_, hb.frame _, fun h => by cases h⟩
  · rw [e, hrt]
    exact trodAll_mk1 (shut_bool hbool true)
  · rw [e]
    exact trodAll_below hl hb hr hA fun x hx => hlt x (List.mem_append_left _ hx)
  · rw [e, hv]
    rfl
end
end Go.Rw
end

section
set_option linter.unusedVariables false
set_option linter.unusedSimpArgs false
namespace Go.Rw
open Go Go.ChangeShapes Go.WideShapes Go.RowKit Go.ChangeAt
open Go.V (F2 D fullK fullK_cell f2_append f2_len f2_get)
inductive SK where
  | i
  | s
  | sl (sh : List SK)
inductive DG : SK → D → Prop where
  | i (n : Int) : DG .i (.int .i64 n)
  | s (t : ByteArray) : DG .s (.str t)
  | sl (sh : List SK) (len : Nat) (F : Nat → Nat → D) (h : ∀ i j k, i < len → sh[j]? = some k → DG k (F i j)) : DG (.sl sh) (.sl false len sh.length F)
def MG (w : World) (k : SK) (v : Value) : Prop := ∃ d, DG k d ∧ D.rel (fullK w) d v
def sgFs (P : Program) (g : TypeId → Option (List SK)) : List Field → Nat → Nat → Option (List SK)
  | [], o, c => (match Nat.beq o c with | true => some [] | false => none)
  | f :: fs, o, c => (match Nat.beq f.offset o, g f.type, sgFs P g fs (o + P.cellsOf f.type) c with
    | true, some a, some b => some (a ++ b)
    | _, _, _ => none)
def sgArr (l : List SK) : Nat → List SK
  | 0 => []
  | n + 1 => l ++ sgArr l n
def sg (P : Program) : Nat → TypeId → Option (List SK)
  | 0, _ => none
  | k + 1, t => match P.underlying t with
    | some (.int .i64) => some [.i]
    | some .string => some [.s]
    | some (.struct fs) => sgFs P (sg P k) fs.toList 0 (P.cellsOf t)
    | some (.array n e) => (match sg P k e, Nat.beq (P.cellsOf t) (n * P.cellsOf e) with | some l, true => some (sgArr l n) | _, _ => none)
    | some (.slice e) => (match sg P k e with | some sh => (match Nat.beq (P.cellsOf e) sh.length && Nat.blt 0 sh.length with | true => some [.sl sh] | false => none) | none => none)
    | _ => none
section
variable {H : Type} {enc : TypeId × Value → H} {P : Program} {w : World} {base : Nat} {sp : Nat → Bool} {hd : Bool}
theorem sgFs_spec {R : SK → Value → Prop} {g : TypeId → Option (List SK)} : ∀ (fs : List Field) (o c : Nat) (cs : List Value) {l : List SK}, sgFs P g fs o c = some l → cs.length = c →
    (∀ f ∈ fs, ∀ l', g f.type = some l' → F2 R l' ((cs.drop f.offset).take (P.cellsOf f.type))) → F2 R l (cs.drop o)
  | [], o, c, cs, l, h, hl, _ => by
    unfold sgFs at h
    split at h
    · rename_i hb
      have : o = c := Nat.eq_of_beq_eq_true hb
      simp only [Option.some.injEq] at h
      subst h
      rw [this, ← hl, List.drop_length]
      exact .nil
    · cases h
  | f :: fs, o, c, cs, l, h, hl, hf => by
    simp only [sgFs] at h
    split at h
    · rename_i a b hb ha hrest
      have ho : f.offset = o := Nat.eq_of_beq_eq_true hb
      simp only [Option.some.injEq] at h
      subst h
      have h1 := hf f (List.mem_cons_self ..) a ha
      have h2 := sgFs_spec fs _ c cs hrest hl fun g hg => hf g (List.mem_cons_of_mem _ hg)
      rw [ho] at h1
      have e : cs.drop o = (cs.drop o).take (P.cellsOf f.type) ++ (cs.drop o).drop (P.cellsOf f.type) := (List.take_append_drop _ _).symm
      rw [e, List.drop_drop]
      exact f2_append h1 h2
    · cases h
theorem sgArr_spec {R : SK → Value → Prop} {l : List SK} {c : Nat} : ∀ (n : Nat) (cs : List Value), cs.length = n * c → (∀ i, i < n → F2 R l ((cs.drop (i * c)).take c)) → F2 R (sgArr l n) cs
  | 0, cs, h, _ => by
    have : cs = [] := List.length_eq_zero_iff.1 (by simpa using h)
    subst this
    exact .nil
  | n + 1, cs, h, hf => by
    have h0 := hf 0 (by omega)
    rw [Nat.zero_mul, List.drop_zero] at h0
    have hr := sgArr_spec (c := c) n (cs.drop c) (by rw [List.length_drop, h, Nat.succ_mul]; omega) fun i hi => by
      have := hf (i + 1) (by omega)
      rw [List.drop_drop, show c + i * c = (i + 1) * c by rw [Nat.succ_mul]; omega]
      exact this
    rw [← List.take_append_drop c cs]
    exact f2_append h0 hr
theorem trod_sg : ∀ (k fuel : Nat) (t : TypeId) (cs : List Value) (x : DataW H × List MemPlace) {l : List SK}, sg P k t = some l → DataW.trod enc P w base sp hd fuel t cs = some x → F2 (MG w) l cs
  | 0, _, _, _, _, _, h, _ => by cases h
  | k + 1, fuel, t, cs, x, l, h, hx => by
    unfold sg at h
    split at h
    · rename_i ht
      simp only [Option.some.injEq] at h
      subst h
      obtain ⟨n, rfl, rfl, _⟩ := DataW.trod_int ht hx
      exact .cons ⟨.int .i64 n, .i n, rfl⟩ .nil
    · rename_i ht
      simp only [Option.some.injEq] at h
      subst h
      obtain ⟨s, rfl, rfl, _⟩ := DataW.trod_string ht hx
      exact .cons ⟨.str s, .s s, rfl⟩ .nil
    · rename_i fs ht
      obtain ⟨xs, n, _, rfl, hl, hlen, hf⟩ := DataW.trod_struct ht hx
      have := sgFs_spec (P := P) (R := MG w) fs.toList 0 (P.cellsOf t) cs h hl (by
        intro f hm l' hl'
        obtain ⟨i, hi, hi'⟩ := List.getElem_of_mem hm
        have hgi : fs[i]? = some f := by rw [← Array.getElem?_toList, List.getElem?_eq_getElem hi, hi']
        have hlt : i < xs.length := by rw [hlen]; exact (Array.getElem?_eq_some_iff.1 hgi).1
        have hy : xs[i]? = some xs[i] := List.getElem?_eq_getElem hlt
        have := hf i f hgi
        rw [hy] at this
        exact trod_sg k n f.type _ _ hl' this)
      simpa using this
    · rename_i n e ht
      split at h
      · rename_i l' hl' hcb
        simp only [Option.some.injEq] at h
        subst h
        obtain ⟨xs, m, _, ex, hlen, hl, hel⟩ := DataW.trod_array ht hx
        have hcz : P.cellsOf t = n * P.cellsOf e := Nat.eq_of_beq_eq_true hcb
        refine sgArr_spec (c := P.cellsOf e) n cs (by rw [← hcz]; exact hlen) fun i hi => ?_
        have hlt : i < xs.length := by omega
        have hy : xs[i]? = some xs[i] := List.getElem?_eq_getElem hlt
        have := hel i hi
        rw [hy] at this
        exact trod_sg k m e _ _ hl' this
      · cases h
    · rename_i e ht
      split at h
      · rename_i sh hsh
        split at h
        · rename_i hc
          simp only [Option.some.injEq] at h
          subst h
          rw [Bool.and_eq_true] at hc
          have hn : P.cellsOf e = sh.length := Nat.eq_of_beq_eq_true hc.1
          have hn0 : 0 < sh.length := Nat.le_of_ble_eq_true hc.2
          rcases DataW.trod_slice ht hx with ⟨h1, _⟩ | ⟨a, len0, cap0, elems, rest, n', _, h1, _, _, hlc, _, hel, hget, _⟩
          · rw [h1]
            exact .cons ⟨.sl false 0 sh.length (fun _ _ => .nilp), .sl sh 0 _ (fun i j k hi => by omega), .inl ⟨rfl, rfl, rfl⟩⟩ .nil
          · rw [h1]
            rw [hn] at hget
            have each : ∀ i, i < len0 → ∀ j, j < sh.length → ∃ d, (∀ k', sh[j]? = some k' → DG k' d) ∧ ∃ y, w.cell? ((a.add (i * sh.length)).add j) = some y ∧ D.rel (fullK w) d y := by
              intro i hi j hj
              have hg := hget i hi
              have hlt : i < elems.length := by omega
              rw [List.getElem?_eq_getElem hlt] at hg
              simp only [Option.bind_eq_some_iff] at hg
              obtain ⟨cs, hcs, hx⟩ := hg
              have hF := trod_sg k n' e cs _ hsh hx
              obtain ⟨_, hl, hcell⟩ := World.cells?_some hcs
              obtain ⟨y, hy, hm⟩ := f2_get hF (i := j) (List.getElem?_eq_getElem hj)
              obtain ⟨d, hd1, hd2⟩ := hm
              have hcj := hcell j hj
              exact ⟨d, fun k' hk' => by rw [List.getElem?_eq_getElem hj] at hk'; cases hk'; exact hd1, y, by rw [hcj, hy], hd2⟩
            have spot0 : 0 < len0 → a.spot = none := by
              intro hp
              obtain ⟨_, _, y, hy, _⟩ := each 0 hp 0 hn0
              have := World.cell?_spot hy
              simpa [Addr.add] using this
            refine .cons ⟨.sl false len0 sh.length (fun i j => if h : i < len0 ∧ j < sh.length then Classical.choose (each i h.1 j h.2) else .nilp), .sl sh len0 _ (fun i j k' hi hk' => ?_), .inr ⟨a, cap0, rfl, hlc, spot0, fun i j hi hj => ?_⟩⟩ .nil
            · have hj : j < sh.length := (List.getElem?_eq_some_iff.1 hk').1
              simp only [dif_pos (And.intro hi hj)]
              exact (Classical.choose_spec (each i hi j hj)).1 k' hk'
            · obtain ⟨_, y, hy, hr⟩ := Classical.choose_spec (each i hi j hj)
              have hp : a.spot = none := spot0 (by omega)
              have e1 : (a.add (i * sh.length)).add j = ⟨a.block, a.off + i * sh.length + j, none⟩ := by
                obtain ⟨b, off, spot⟩ := a
                simp only at hp
                subst hp
                rw [Go.WideShapes.add_plain, Go.WideShapes.add_plain]
              rw [e1] at hy
              refine ⟨_, fullK_cell hy, ?_⟩
              simp only [dif_pos (And.intro hi hj)]
              exact hr
        · cases h
      · cases h
    · cases h
theorem open_st {r : Reach} {b0 : Nat} {t : TypeId} {fs : Array Field} {v : Value} {d : DataW H} {p : List MemPlace} (k : Nat) {l : List SK} (ht : P.underlying t = some (.struct fs)) (ha : sg P k t = some l)
    (hv : Value.okWide P w r b0 t v) (h : DataW.Trod enc P w base sp hd t v d p) : ∃ cs : List Value, F2 (MG w) l cs ∧ v = .agg cs.toArray := by
  obtain ⟨cs, rfl, hsz⟩ := okWide_struct ht hv
  obtain ⟨fuel, hf⟩ := h
  have hF : F2 (MG w) l cs.toList := trod_sg k fuel t _ _ ha hf
  exact ⟨cs.toList, hF, by rw [Array.toArray_toList]⟩
theorem mg_i {v : Value} (h : MG w .i v) : ∃ n, v = .int .i64 n := by
  obtain ⟨d, hd, hr⟩ := h
  cases hd with
  | i n => exact ⟨n, hr⟩
theorem mg_sl {sh : List SK} {v : Value} (h : MG w (.sl sh) v) : ∃ (len : Nat) (F : Nat → Nat → D), (D.sl false len sh.length F).rel (fullK w) v ∧ ∀ i j k, i < len → sh[j]? = some k → DG k (F i j) := by
  obtain ⟨d, hd, hr⟩ := h
  cases hd with
  | sl _ len F hF => exact ⟨len, F, hr, hF⟩
theorem dg_i {d : D} (h : DG .i d) : ∃ n, d = .int .i64 n := by cases h with | i n => exact ⟨n, rfl⟩
theorem dg_s {d : D} (h : DG .s d) : ∃ n, d = .str n := by cases h with | s n => exact ⟨n, rfl⟩
theorem dg_sl {sh : List SK} {d : D} (h : DG (.sl sh) d) : ∃ (len : Nat) (F : Nat → Nat → D), d = .sl false len sh.length F ∧ ∀ i j k, i < len → sh[j]? = some k → DG k (F i j) := by
  cases h with
  | sl _ len F hF => exact ⟨len, F, rfl, hF⟩
end
end Go.Rw
end
