/- The parts of the engines, of their contracts and of the plain laws that the claim rests on: L5, L6, L7, B41, B42, B43, B44, B45, B46, B47, B48, B64, L8, L9, L12, B65, B66, L10, B50, B54, B55, L11, B56, B57, L13, B68, R0, RG. -/
import Derived.Test.YtaigoebipeplpaaFB5
import Derived.ChangeSame
import Derived.ChangeVars
import Derived.ProofKit
import Derived.LaidMore
import Derived.OpenShut
import Derived.Carry
import Derived.ChangeArms
set_option linter.unusedVariables false
set_option linter.unusedSimpArgs false
section
set_option linter.unusedVariables false
set_option linter.unusedSimpArgs false
set_option maxRecDepth 100000
namespace Go.Bl
open Go.V Go.Proofs Go.Lp
theorem dl_only {n a : Nat} {x : Int} {p : List Int} (ha : a < n) : dl n (M.only n a x) p = x * en p a := by
  unfold dl
  rw [smI_congr (h := fun c => 0 + if c = a then x * en p a else 0) (fun c hc => by
    rw [en_only (List.mem_range.1 hc)]
    by_cases h : c = a
    · subst h; rw [if_pos rfl, if_pos rfl]; omega
    · rw [if_neg h, if_neg h]; omega), smI_if, smI_zero, if_pos ha]
  omega
def farOf (e m : Nat) (p : List Int) : Int := if e = 0 then 0 else en p m
section
variable {l : List Cask} {s : Sample} {e : Nat}
theorem dl_by (he : e ≤ 1) {f : Cask → Int} {p : List Int} : dl (l.length + e) (M.by_ l (l.length + e) f) p = smI (fun i => f (l.getD i dfC) * en p i) (List.range l.length) - farOf e l.length p := by
  unfold dl farOf
  rcases (by omega : e = 0 ∨ e = 1) with rfl | rfl
  · rw [if_pos rfl, Int.sub_zero]
    refine smI_congr fun i hi => ?_
    have hi := List.mem_range.1 hi
    rw [en_by hi, if_neg (by omega)]
  · rw [if_neg (by decide), smI_succ, en_by (by omega), if_pos rfl]
    rw [smI_congr (h := fun i => f (l.getD i dfC) * en p i) (fun i hi => by
      have hi := List.mem_range.1 hi
      rw [en_by (by omega), if_neg (by omega)])]
    omega
theorem dl_shares (he : e ≤ 1) {p : List Int} : dl (l.length + e) (M.shares l e) p = smI (fun i => en p i) (List.range l.length) := by
  unfold dl
  rcases (by omega : e = 0 ∨ e = 1) with rfl | rfl
  · refine smI_congr fun i hi => ?_
    have hi := List.mem_range.1 hi
    rw [shares_en]; unfold S0; rw [if_pos (by omega)]; show (1 : Int) * _ = _; omega
  · rw [smI_succ, shares_en]; unfold S0
    rw [if_neg (by omega)]
    rw [smI_congr (h := fun i => en p i) (fun i hi => by
      have hi := List.mem_range.1 hi
      rw [shares_en]; unfold S0; rw [if_pos (by omega)]; show (1 : Int) * _ = _; omega)]
    show _ + (0 : Int) * _ = _
    omega
structure Blend (l : List Cask) (s : Sample) (pt : List Int) (den far : Int) : Prop where
  dp : 0 < den
  p0 : ∀ i, i < l.length → 0 ≤ en pt i
  p1 : ∀ i, i < l.length → en pt i ≤ (l.getD i dfC).vol * den
  sum : smI (fun i => en pt i) (List.range l.length) = s.vol * den
  hi : ∀ k, k < 4 → smI (fun i => (M.val (l.getD i dfC) k - (M.rg s k).hi) * en pt i) (List.range l.length) ≤ far
  lo : ∀ k, k < 4 → smI (fun i => ((M.rg s k).lo - M.val (l.getD i dfC) k) * en pt i) (List.range l.length) ≤ far
theorem conds_blend (h : RightL l s) (he : e ≤ 1) {pt : List Int} {den : Int} (hd : 0 < den) (hs : dl (l.length + e) (M.shares l e) pt = s.vol * den) (ha : ∀ c, c ∈ M.limits l s e → dl (l.length + e) c.coefs pt ≤ c.limit * den) :
    Blend l s pt den (farOf e l.length pt) ∧ 0 ≤ farOf e l.length pt := by
  obtain ⟨m0, m1, m2⟩ := limits_mem (l := l) (s := s) (e := e)
  have p0 : ∀ i, i < l.length + e → 0 ≤ en pt i := by
    intro i hi
    have := ha _ (m0 i hi)
    dsimp only at this
    rw [dl_only hi] at this
    omega
  refine ⟨⟨hd, fun i hi => p0 i (by omega), fun i hi => ?_, by rw [← hs, dl_shares he], fun k hk => ?_, fun k hk => ?_⟩, ?_⟩
  · have := ha _ (m1 i hi)
    dsimp only at this
    rw [dl_only (by omega)] at this
    omega
  · have := ha _ (m2 k hk).1
    dsimp only at this
    rw [dl_by he, smI_congr (h := fun i => (M.val (l.getD i dfC) k - (M.rg s k).hi) * en pt i) (fun i hi => by rw [(h.hiF (List.mem_range.1 hi) hk).1])] at this
    omega
  · have := ha _ (m2 k hk).2
    dsimp only at this
    rw [dl_by he, smI_congr (h := fun i => ((M.rg s k).lo - M.val (l.getD i dfC) k) * en pt i) (fun i hi => by rw [(h.loF (List.mem_range.1 hi) hk).1])] at this
    omega
  · unfold farOf
    split
    · exact Int.le_refl _
    · exact p0 _ (by omega)
theorem blend_conds (h : RightL l s) (he : e ≤ 1) {pt : List Int} {den : Int} (hb : Blend l s pt den (farOf e l.length pt)) (h0 : 0 ≤ farOf e l.length pt) :
    dl (l.length + e) (M.shares l e) pt = s.vol * den ∧ ∀ c, c ∈ M.limits l s e → dl (l.length + e) c.coefs pt ≤ c.limit * den := by
  refine ⟨by rw [dl_shares he, hb.sum], fun c hc => ?_⟩
  rcases limits_cases hc with ⟨i, hi, rfl⟩ | ⟨i, hi, rfl⟩ | ⟨k, hk, rfl⟩ | ⟨k, hk, rfl⟩ <;> dsimp only
  · rw [dl_only hi]
    by_cases h1 : i < l.length
    · have := hb.p0 i h1; omega
    · have : i = l.length ∧ e ≠ 0 := by omega
      unfold farOf at h0
      rw [if_neg this.2, ← this.1] at h0
      omega
  · rw [dl_only (by omega)]
    have := hb.p1 i hi; omega
  · rw [dl_by he, smI_congr (h := fun i => (M.val (l.getD i dfC) k - (M.rg s k).hi) * en pt i) (fun i hi => by rw [(h.hiF (List.mem_range.1 hi) hk).1])]
    have := hb.hi k hk; omega
  · rw [dl_by he, smI_congr (h := fun i => ((M.rg s k).lo - M.val (l.getD i dfC) k) * en pt i) (fun i hi => by rw [(h.loF (List.mem_range.1 hi) hk).1])]
    have := hb.lo k hk; omega
def hiF (l : List Cask) (s : Sample) (j k : Nat) : Int := M.val (l.getD j dfC) k - (M.rg s k).hi
def loF (l : List Cask) (s : Sample) (j k : Nat) : Int := (M.rg s k).lo - M.val (l.getD j dfC) k
def gift (l : List Cask) (s : Sample) (w : Wts) (j : Nat) : Int := w.each - phi w l.length (fun i => if i = j then 1 else 0) (hiF l s j) (loF l s j)
def bound (l : List Cask) (s : Sample) (w : Wts) : Int := w.each * s.vol - phi w l.length (fun i => (l.getD i dfC).vol) (fun _ => 0) (fun _ => 0)
theorem limits_ok {c : Cond} (hc : c ∈ M.limits l s e) : CondOK l.length c := by
  rcases limits_cases hc with ⟨i, hi, rfl⟩ | ⟨i, hi, rfl⟩ | ⟨k, hk, rfl⟩ | ⟨k, hk, rfl⟩
  · exact ⟨Int.natCast_nonneg i, fun h => absurd h (show (0 : Int) ≠ 1 by decide), fun h => absurd h (show ¬ ((0 : Int) = 2 ∨ (0 : Int) = 3) by decide)⟩
  · exact ⟨Int.natCast_nonneg i, fun _ => by show (i : Int).toNat < _; omega, fun h => absurd h (show ¬ ((1 : Int) = 2 ∨ (1 : Int) = 3) by decide)⟩
  · exact ⟨Int.natCast_nonneg k, fun h => absurd h (show (2 : Int) ≠ 1 by decide), fun _ => by show (k : Int).toNat < _; omega⟩
  · exact ⟨Int.natCast_nonneg k, fun h => absurd h (show (3 : Int) ≠ 1 by decide), fun _ => by show (k : Int).toNat < _; omega⟩
theorem coef_ph (h : RightL l s) (he : e ≤ 1) {c : Cond} (hc : c ∈ M.limits l s e) {j : Nat} (hj : j < l.length) : en c.coefs j = ph (fun i => if i = j then 1 else 0) (hiF l s j) (loF l s j) c - if c.kind = 0 ∧ c.which = (j : Int) then 1 else 0 := by
  rcases limits_cases hc with ⟨i, hi, rfl⟩ | ⟨i, hi, rfl⟩ | ⟨k, hk, rfl⟩ | ⟨k, hk, rfl⟩ <;> dsimp only [ph]
  · rw [en_only (by omega), if_neg (show (0 : Int) ≠ 1 by decide), if_neg (show (0 : Int) ≠ 2 by decide), if_neg (show (0 : Int) ≠ 3 by decide)]
    by_cases e1 : j = i
    · rw [if_pos e1, if_pos ⟨rfl, by omega⟩]; omega
    · rw [if_neg e1, if_neg (fun h => e1 (by omega))]; omega
  · rw [en_only (by omega), if_pos rfl, if_neg (show ¬ ((1 : Int) = 0 ∧ (i : Int) = (j : Int)) by omega), Int.toNat_natCast]
    by_cases e1 : j = i
    · rw [if_pos e1, if_pos e1.symm]; omega
    · rw [if_neg e1, if_neg (fun h => e1 h.symm)]; omega
  · rw [en_by (by omega), if_neg (by omega), if_neg (show (2 : Int) ≠ 1 by decide), if_pos rfl, if_neg (show ¬ ((2 : Int) = 0 ∧ (k : Int) = (j : Int)) by omega), Int.toNat_natCast, (h.hiF hj hk).1]
    unfold hiF; omega
  · rw [en_by (by omega), if_neg (by omega), if_neg (show (3 : Int) ≠ 1 by decide), if_neg (show (3 : Int) ≠ 2 by decide), if_pos rfl, if_neg (show ¬ ((3 : Int) = 0 ∧ (k : Int) = (j : Int)) by omega), Int.toNat_natCast, (h.loF hj hk).1]
    unfold loF; omega
theorem coef_far {c : Cond} (hc : c ∈ M.limits l s 1) : en c.coefs l.length = - ph (fun _ => 0) (fun _ => 1) (fun _ => 1) c - if c.kind = 0 ∧ c.which = (l.length : Int) then 1 else 0 := by
  rcases limits_cases hc with ⟨i, hi, rfl⟩ | ⟨i, hi, rfl⟩ | ⟨k, hk, rfl⟩ | ⟨k, hk, rfl⟩ <;> dsimp only [ph]
  · rw [en_only (by omega), if_neg (show (0 : Int) ≠ 1 by decide), if_neg (show (0 : Int) ≠ 2 by decide), if_neg (show (0 : Int) ≠ 3 by decide)]
    by_cases e1 : l.length = i
    · rw [if_pos e1, if_pos ⟨rfl, by omega⟩]; omega
    · rw [if_neg e1, if_neg (fun h => e1 (by omega))]; omega
  · rw [en_only (by omega), if_pos rfl, if_neg (show ¬ ((1 : Int) = 0 ∧ (i : Int) = (l.length : Int)) by omega), if_neg (by omega)]; omega
  · rw [en_by (by omega), if_pos rfl, if_neg (show (2 : Int) ≠ 1 by decide), if_pos rfl, if_neg (show ¬ ((2 : Int) = 0 ∧ (k : Int) = (l.length : Int)) by omega)]; omega
  · rw [en_by (by omega), if_pos rfl, if_neg (show (3 : Int) ≠ 1 by decide), if_neg (show (3 : Int) ≠ 2 by decide), if_pos rfl, if_neg (show ¬ ((3 : Int) = 0 ∧ (k : Int) = (l.length : Int)) by omega)]; omega
theorem limit_ph {c : Cond} (hc : c ∈ M.limits l s e) : c.limit = ph (fun i => (l.getD i dfC).vol) (fun _ => 0) (fun _ => 0) c := by
  rcases limits_cases hc with ⟨i, hi, rfl⟩ | ⟨i, hi, rfl⟩ | ⟨k, hk, rfl⟩ | ⟨k, hk, rfl⟩ <;> rfl
theorem opt_strong {n : Nat} {sh wo : List Int} {sum : Int} {cs : List Cond} {x : M.Corner} (ho : Opt n sh sum wo cs x) :
    (x.each * sum - smI (fun q => en x.by_ q * (x.tight.getD q dK).limit) (List.range x.tight.length)) * x.den = x.wd * dl n wo x.pt := by
  have h1 : smI (fun j => (x.each * en sh j - smI (fun q => en x.by_ q * en (x.tight.getD q dK).coefs j) (List.range x.tight.length)) * en x.pt j) (List.range n) = smI (fun j => x.wd * (en wo j * en x.pt j)) (List.range n) :=
    smI_congr fun j hj => by rw [ho.dual j (List.mem_range.1 hj), Int.mul_comm (en wo j), Int.mul_assoc]
  rw [smI_smul] at h1
  have h2 : smI (fun j => (x.each * en sh j - smI (fun q => en x.by_ q * en (x.tight.getD q dK).coefs j) (List.range x.tight.length)) * en x.pt j) (List.range n) = x.each * dl n sh x.pt - smI (fun q => en x.by_ q * dl n (x.tight.getD q dK).coefs x.pt) (List.range x.tight.length) := by
    unfold dl
    rw [← smI_smul]
    rw [smI_congr (l := List.range x.tight.length) (h := fun q => smI (fun j => en x.by_ q * (en (x.tight.getD q dK).coefs j * en x.pt j)) (List.range n)) (fun q _ => by rw [smI_smul]), smI_comm]
    rw [Int.sub_eq_add_neg, ← smI_neg, ← smI_add]
    refine smI_congr fun j _ => ?_
    rw [Int.sub_mul, ← Int.sub_eq_add_neg, Int.mul_assoc, Int.mul_comm (smI _ _) (en x.pt j), ← smI_smul]
    congr 1
    refine smI_congr fun q _ => ?_
    rw [Int.mul_left_comm, Int.mul_comm (en x.pt j)]
  rw [h2, ho.sum, smI_congr (h := fun q => x.den * (en x.by_ q * (x.tight.getD q dK).limit)) (fun q hq => by rw [ho.eq q (List.mem_range.1 hq), ← Int.mul_assoc, Int.mul_comm]), smI_smul] at h1
  show _ = x.wd * smI _ _
  rw [← h1, Int.sub_mul, Int.mul_assoc, Int.mul_comm (smI _ _) x.den]
theorem setT_DI {n k : Nat} {m : List (List Int)} {wo : List Int} (hq : Sq n m) (hk : k < n) : DI en (M.setCol (M.turned m) k wo) (List.range n) = DI (fun a j => if a = k then en wo j else en (m.getD a []) j) (List.range n) (List.range n) := by
  rw [setCol_DI hq.turned.len hq.turned.row hk, DI_turn (by simp)]
  refine DI_congr fun a ha j hj => ?_
  split
  · rfl
  · exact turned_at hq (List.mem_range.1 hj) (List.mem_range.1 ha)
structure Proof (l : List Cask) (s : Sample) (wo : List Int) (w : Wts) : Prop where
  den : 1 ≤ w.den ∧ w.den ≤ 200000000000
  each : w.each.natAbs ≤ 100000000000000
  len : w.casks.length = l.length
  all : Each (fun b => 0 ≤ b ∧ b ≤ 200000000000) w
  gift : ∀ j, j < l.length → gift l s w j ≤ en wo j * w.den
theorem opt_wts (h : RightL l s) (he : e ≤ 1) {wo : List Int} (hwl : wo.length = l.length + e) (hwe : ∀ j, j < l.length + e → (en wo j).natAbs ≤ Kb l.length j) {W : Nat → Nat} (hW : ∀ j, j < l.length + e → (en wo j).natAbs ≤ W j) (hWb : bnd W (Kb l.length) (List.range (l.length + e)) ≤ 100000000000000)
    {x : M.Corner} (ho : Opt (l.length + e) (M.shares l e) s.vol wo (M.limits l s e) x) :
    Proof l s wo (M.wtsOf x l.length) ∧ (M.wtsOf x l.length).den = x.wd ∧ bound l s (M.wtsOf x l.length) * x.den = x.wd * dl (l.length + e) wo x.pt ∧
    (e = 1 → phi (M.wtsOf x l.length) l.length (fun _ => 0) (fun _ => 1) (fun _ => 1) ≤ en wo l.length * x.wd) := by
  obtain ⟨a1, a2, a3, a4, a5⟩ := limits_small h he
  have n5 : l.length + e ≤ 5 := by have := h.n4; omega
  have hm : ∀ c, c ∈ x.tight → c ∈ M.limits l s e := fun c hc => ho.sub.subset hc
  have hq := sq_mat n5 a1 a2 a3 a4 ho.tl hm
  have hkey : (x.tight.map fun c => (c.kind, c.which)).Nodup := by
    have := keys_nodup l.length h.n4 e he
    rw [← limits_keys l s e] at this
    exact List.Sublist.nodup (ho.sub.map _) this
  obtain ⟨w1, w2, w3, w4, w5⟩ := weights_spec (wd := x.wd) (each := x.each) (by_ := x.by_) hkey (fun c hc => limits_ok (hm c hc))
  have hden := mat_den h he ho.tl hm
  have hby : ∀ q, q < x.tight.length → 0 ≤ en x.by_ q ∧ en x.by_ q ≤ 200000000000 := by
    intro q hql
    have h1 := ho.nn q hql
    have h2 := ho.byE q hql
    have h3 : (DI en (M.setCol (M.turned (M.mat (M.shares l e) x.tight)) (q + 1) wo) (List.range (l.length + e))).natAbs ≤ 200000000000 := by
      rw [setT_DI hq (by have := ho.tl; omega)]
      refine Nat.le_trans (DI_bnd_idx (K0 := S0 l.length) (K := Kb l.length) (by have := h.n1; omega) (fun c _ => ?_) (fun i h1 hi c hc => ?_)) (num_den _ h.n4 e he)
      · rw [if_neg (by omega)]; exact mat_ent0 c
      · by_cases e1 : i = q + 1
        · rw [if_pos e1]; exact hwe c hc
        · rw [if_neg e1]; exact mat_ent h he hm i h1 (by have := ho.tl; omega) c hc
    omega
  have heach : x.each.natAbs ≤ 100000000000000 := by
    rw [ho.eachE, setT_DI hq (by have := ho.tl; omega)]
    refine Nat.le_trans (DI_bnd_idx (K0 := W) (K := Kb l.length) (by have := h.n1; omega) (fun c hc => ?_) (fun i h1 hi c hc => ?_)) hWb
    · rw [if_pos rfl]; exact hW c hc
    · rw [if_neg (by omega)]; exact mat_ent h he hm i h1 (by have := ho.tl; omega) c hc
  have e1 : M.wtsOf x l.length = M.weights x.wd x.each x.tight x.by_ l.length := rfl
  have hz : ∀ j : Nat, 0 ≤ smI (fun q => en x.by_ q * if (x.tight.getD q dK).kind = 0 ∧ (x.tight.getD q dK).which = (j : Int) then 1 else 0) (List.range x.tight.length) := by
    intro j
    have := smI_le (l := List.range x.tight.length) (g := fun _ => 0) (h := fun q => en x.by_ q * if (x.tight.getD q dK).kind = 0 ∧ (x.tight.getD q dK).which = (j : Int) then 1 else 0) (fun q hq' => by
      have := (hby q (List.mem_range.1 hq')).1
      split <;> omega)
    rw [smI_zero] at this
    exact this
  have hsplit : ∀ (j : Nat) (g : Cond → Int), (∀ c, c ∈ M.limits l s e → en c.coefs j = g c - if c.kind = 0 ∧ c.which = (j : Int) then 1 else 0) →
      smI (fun q => en x.by_ q * en (x.tight.getD q dK).coefs j) (List.range x.tight.length) = smI (fun q => en x.by_ q * g (x.tight.getD q dK)) (List.range x.tight.length) - smI (fun q => en x.by_ q * if (x.tight.getD q dK).kind = 0 ∧ (x.tight.getD q dK).which = (j : Int) then 1 else 0) (List.range x.tight.length) := by
    intro j g hg
    rw [Int.sub_eq_add_neg, ← smI_neg, ← smI_add]
    refine smI_congr fun q hq' => ?_
    rw [hg _ (hm _ (getD_mem (List.mem_range.1 hq'))), Int.mul_sub, Int.sub_eq_add_neg]
  refine ⟨⟨?_, ?_, ?_, ?_, fun j hj => ?_⟩, ?_, ?_, fun h1 => ?_⟩
  · rw [e1, w1]
    have := ho.wd; have := ho.wdE; omega
  · rw [e1, w2]; exact heach
  · rw [e1, w3]
  · rw [e1]; exact w5 _ (by decide) hby
  · unfold gift
    rw [e1, w1, w2, w4]
    have hd := ho.dual j (by omega)
    rw [shares_en, hsplit j _ (fun c hc => coef_ph h he hc hj)] at hd
    unfold S0 at hd
    rw [if_pos hj] at hd
    have := hz j
    rw [← hd]
    have e2 : x.each * ((1 : Nat) : Int) = x.each := Int.mul_one _
    rw [e2]
    omega
  · rw [e1, w1]
  · unfold bound
    rw [e1, w2, w4, ← opt_strong ho]
    congr 2
    exact smI_congr fun q hq' => by rw [← limit_ph (hm _ (getD_mem (List.mem_range.1 hq')))]
  · subst h1
    have hd := ho.dual l.length (by omega)
    rw [shares_en, hsplit l.length (fun c => - ph (fun _ => 0) (fun _ => 1) (fun _ => 1) c) (fun c hc => coef_far hc)] at hd
    unfold S0 at hd
    rw [if_neg (by omega)] at hd
    have := hz l.length
    have e3 : smI (fun q => en x.by_ q * - ph (fun _ => 0) (fun _ => 1) (fun _ => 1) (x.tight.getD q dK)) (List.range x.tight.length) = - smI (fun q => en x.by_ q * ph (fun _ => 0) (fun _ => 1) (fun _ => 1) (x.tight.getD q dK)) (List.range x.tight.length) := by
      rw [← smI_neg]; exact smI_congr fun q _ => Int.mul_neg _ _
    rw [e3] at hd
    rw [e1, w4, ← hd]
    have e2 : x.each * ((0 : Nat) : Int) = 0 := Int.mul_zero _
    rw [e2]
    omega
end
end Go.Bl
end

section
set_option linter.unusedVariables false
set_option linter.unusedSimpArgs false
set_option maxRecDepth 100000
namespace Go.Bl
open Go.V Go.Proofs Go.Lp
def wsum (w : Wts) : Int := (w.x0 + w.x1 + w.x2 + w.x3) + (w.y0 + w.y1 + w.y2 + w.y3)
section
variable {l : List Cask} {s : Sample} {e : Nat}
theorem gift_eq (w : Wts) {j : Nat} (hj : j < l.length) : gift l s w j = w.each - en w.casks j - (w.x0 * hiF l s j 0 + w.x1 * hiF l s j 1 + w.x2 * hiF l s j 2 + w.x3 * hiF l s j 3) - (w.y0 * loF l s j 0 + w.y1 * loF l s j 1 + w.y2 * loF l s j 2 + w.y3 * loF l s j 3) := by
  unfold gift phi
  rw [smI_congr (h := fun i => 0 + if i = j then en w.casks j else 0) (fun i _ => by
    dsimp only
    by_cases e1 : i = j
    · subst e1; rw [if_pos rfl, if_pos rfl]; omega
    · rw [if_neg e1, if_neg e1]; omega), smI_if, smI_zero, if_pos hj]
  omega
theorem bound_eq (w : Wts) : bound l s w = w.each * s.vol - smI (fun i => en w.casks i * (l.getD i dfC).vol) (List.range l.length) := by
  unfold bound phi; dsimp only; omega
theorem smI_mul_right {g : Nat → Int} {k : Int} {L : List Nat} : smI g L * k = smI (fun a => g a * k) L := by
  rw [Int.mul_comm, ← smI_smul]; exact smI_congr fun a _ => Int.mul_comm _ _
theorem weak_blend {pt : List Int} {den far : Int} (hb : Blend l s pt den far) {w : Wts} (hw : Each (fun b => 0 ≤ b) w) {g : Nat → Int} (hg : ∀ j, j < l.length → gift l s w j ≤ g j) :
    bound l s w * den ≤ smI (fun j => g j * en pt j) (List.range l.length) + wsum w * far := by
  obtain ⟨hc, ⟨x0, x1, x2, x3⟩, y0, y1, y2, y3⟩ := hw
  have h1 : bound l s w * den = w.each * smI (fun j => en pt j) (List.range l.length) - smI (fun i => en w.casks i * ((l.getD i dfC).vol * den)) (List.range l.length) := by
    rw [bound_eq, Int.sub_mul, hb.sum, Int.mul_assoc, smI_mul_right]
    congr 1
    exact smI_congr fun i _ => Int.mul_assoc _ _ _
  have h2 : smI (fun i => en w.casks i * en pt i) (List.range l.length) ≤ smI (fun i => en w.casks i * ((l.getD i dfC).vol * den)) (List.range l.length) :=
    smI_le fun i hi => Int.mul_le_mul_of_nonneg_left (hb.p1 i (List.mem_range.1 hi)) (hc i)
  have h3 : smI (fun j => gift l s w j * en pt j) (List.range l.length) ≤ smI (fun j => g j * en pt j) (List.range l.length) :=
    smI_le fun j hj => Int.mul_le_mul_of_nonneg_right (hg j (List.mem_range.1 hj)) (hb.p0 j (List.mem_range.1 hj))
  have h4 : smI (fun j => gift l s w j * en pt j) (List.range l.length) = w.each * smI (fun j => en pt j) (List.range l.length) - smI (fun i => en w.casks i * en pt i) (List.range l.length) -
      (w.x0 * smI (fun j => hiF l s j 0 * en pt j) (List.range l.length) + w.x1 * smI (fun j => hiF l s j 1 * en pt j) (List.range l.length) + w.x2 * smI (fun j => hiF l s j 2 * en pt j) (List.range l.length) + w.x3 * smI (fun j => hiF l s j 3 * en pt j) (List.range l.length)) -
      (w.y0 * smI (fun j => loF l s j 0 * en pt j) (List.range l.length) + w.y1 * smI (fun j => loF l s j 1 * en pt j) (List.range l.length) + w.y2 * smI (fun j => loF l s j 2 * en pt j) (List.range l.length) + w.y3 * smI (fun j => loF l s j 3 * en pt j) (List.range l.length)) := by
    simp only [← smI_smul, Int.sub_eq_add_neg, ← smI_neg, ← smI_add]
    refine smI_congr fun j hj => ?_
    rw [gift_eq w (List.mem_range.1 hj)]
    simp only [Int.sub_eq_add_neg, Int.add_mul, Int.neg_mul, Int.mul_assoc]
  have k0 := Int.mul_le_mul_of_nonneg_left (hb.hi 0 (by decide)) x0
  have k1 := Int.mul_le_mul_of_nonneg_left (hb.hi 1 (by decide)) x1
  have k2 := Int.mul_le_mul_of_nonneg_left (hb.hi 2 (by decide)) x2
  have k3 := Int.mul_le_mul_of_nonneg_left (hb.hi 3 (by decide)) x3
  have q0 := Int.mul_le_mul_of_nonneg_left (hb.lo 0 (by decide)) y0
  have q1 := Int.mul_le_mul_of_nonneg_left (hb.lo 1 (by decide)) y1
  have q2 := Int.mul_le_mul_of_nonneg_left (hb.lo 2 (by decide)) y2
  have q3 := Int.mul_le_mul_of_nonneg_left (hb.lo 3 (by decide)) y3
  have e5 : wsum w * far = (w.x0 * far + w.x1 * far + w.x2 * far + w.x3 * far) + (w.y0 * far + w.y1 * far + w.y2 * far + w.y3 * far) := by
    unfold wsum; simp only [Int.add_mul]
  unfold hiF loF at h4
  rw [h1, e5]
  omega
theorem limits_zero {i : Nat} (hi : i < l.length + e) : (M.limits l s e).getD i dK = ⟨0, i, M.only (l.length + e) i (-1), 0⟩ := by
  unfold M.limits
  rw [List.getD_eq_getElem?_getD, List.getElem?_append_left (by simp; omega), List.getElem?_append_left (by simpa using hi), List.getElem?_map, List.getElem?_range hi]
  rfl
def stA (m a c : Nat) : Int := if a = 0 then (if c < m then 1 else 0) else if c + 1 = a then -1 else 0
def stB (m e j : Nat) : List Nat := ((List.range (m + e)).filter fun i => decide (i ≠ j)).map (· + 1)
theorem start_det : ∀ m, m ≤ 4 → ∀ e, e ≤ 1 → ∀ j, j < m → DI (stA m) (0 :: stB m e j) (List.range (m + e)) ≠ 0 := by decide +kernel
theorem start_len : ∀ m, m ≤ 4 → ∀ e, e ≤ 1 → ∀ j, j < m → (stB m e j).length + 1 = m + e := by decide +kernel
theorem stB_mem {m j a : Nat} (h : a ∈ stB m e j) : ∃ i, a = i + 1 ∧ i < m + e ∧ i ≠ j := by
  unfold stB at h
  obtain ⟨i, hi, rfl⟩ := List.mem_map.1 h
  obtain ⟨h1, h2⟩ := List.mem_filter.1 hi
  exact ⟨i, rfl, List.mem_range.1 h1, by simpa using h2⟩
theorem smI_filter {g : Nat → Int} {p : Nat → Bool} : ∀ {L : List Nat}, smI g (L.filter p) = smI (fun a => if p a = true then g a else 0) L
  | [] => rfl
  | a :: L => by
    rw [List.filter_cons]
    split
    · rename_i h; simp only [smI]; rw [if_pos h, smI_filter]
    · rename_i h; simp only [smI]; rw [if_neg h, smI_filter]; omega
theorem rowF_stA {a c : Nat} (ha : a = 0 ∨ ∃ i, a = i + 1 ∧ i < l.length + e) (hc : c < l.length + e) : en ((M.mat (M.shares l e) (M.limits l s e)).getD a []) c = stA l.length a c := by
  rcases ha with rfl | ⟨i, rfl, hi⟩
  · rw [mat0, shares_en]; unfold S0 stA; rw [if_pos rfl]; split <;> rfl
  · rw [matS, limits_zero hi]
    show en (M.only _ i (-1)) c = _
    rw [en_only hc]; unfold stA
    by_cases h : c = i
    · rw [if_pos h, if_neg (by omega), if_pos (by omega)]
    · rw [if_neg h, if_neg (by omega), if_neg (by omega)]
theorem start_sum {m j c : Nat} {wo sh : Nat → Int} (hj : j < m) (hc : c < m + e) (hs : ∀ i, sh i = if i < m then 1 else 0) :
    smI (fun a => (if a = 0 then wo j else wo j * sh (a - 1) - wo (a - 1)) * stA m a c) (0 :: stB m e j) = wo c := by
  simp only [smI]
  unfold stB
  rw [smI_map, smI_filter]
  rw [smI_congr (h := fun i => 0 + if i = c then (if c = j then 0 else - (wo j * sh c - wo c)) else 0) (fun i hi => by
    unfold stA
    rw [if_neg (show ¬ i + 1 = 0 by omega), if_neg (show ¬ i + 1 = 0 by omega), Nat.add_sub_cancel]
    by_cases h : i = c
    · subst h
      rw [if_pos rfl, if_pos rfl]
      by_cases h2 : i = j
      · rw [if_pos h2, if_neg (by simpa using h2)]; omega
      · rw [if_neg h2, if_pos (by simpa using h2)]; omega
    · rw [if_neg h, if_neg (show ¬ c + 1 = i + 1 by omega)]
      split <;> omega), smI_if, smI_zero, if_pos hc]
  unfold stA
  simp only [↓reduceIte]
  by_cases h2 : c = j
  · subst h2; rw [if_pos hj, if_pos rfl]; omega
  · rw [if_neg h2, hs c]
    split <;> omega
theorem rat_cancel {a b d : Rat} (h : d ≠ 0) (e : a * d = b * d) : a = b := by
  have h1 : (a - b) * d = 0 := by grind
  rcases Rat.mul_eq_zero.1 h1 with h2 | h2
  · grind
  · exact absurd h2 h
theorem prog_none (h : RightL l s) (he : e ≤ 1) {wo : List Int} (hwl : wo.length = l.length + e) (hwe : ∀ x, x ∈ wo → x.natAbs ≤ 1000) {j : Nat} (hj : j < l.length) (hjm : ∀ c, c < l.length + e → en wo j * (if c < l.length then 1 else 0) ≤ en wo c)
    (hp : M.psolve (M.shares l e) s.vol wo (M.limits l s e) = none) {pt : List Int} {den : Int} (hb : Blend l s pt den (farOf e l.length pt)) (h0 : 0 ≤ farOf e l.length pt) : False := by
  obtain ⟨b1, b2⟩ := blend_conds h he hb h0
  have hd0 : ((den : Int) : Rat) ≠ 0 := by
    intro e1
    have := Rat.intCast_inj.1 (show ((den : Int) : Rat) = ((0 : Int) : Rat) from e1)
    have := hb.dp; omega
  have hdp : (0 : Rat) < ((den : Int) : Rat) := by
    have := Rat.intCast_lt_intCast.2 hb.dp
    exact this
  have cast : ∀ a : List Int, sm (fun c => ((en a c : Int) : Rat) * (((en pt c : Int) : Rat) / ((den : Int) : Rat))) (List.range (l.length + e)) * ((den : Int) : Rat) = ((dl (l.length + e) a pt : Int) : Rat) := by
    intro a
    unfold dl
    rw [smI_cast, Rat.mul_comm, ← sm_smul]
    refine sm_congr fun c _ => ?_
    rw [Rat.intCast_mul]
    have : ((en pt c : Int) : Rat) / ((den : Int) : Rat) * ((den : Int) : Rat) = ((en pt c : Int) : Rat) := Rat.div_mul_cancel hd0
    rw [Rat.mul_comm, Rat.mul_assoc, this]
  refine psolve_none (small_of h he hwl hwe) hp (B := stB l.length e j) (start_len _ h.n4 e he j hj) (fun a ha => ?_) ?_ ⟨fun a => (((if a = 0 then en wo j else en wo j * (if a - 1 < l.length then 1 else 0) - en wo (a - 1)) : Int) : Rat), fun a ha => ?_, fun c hc => ?_⟩ (fun c => ((en pt c : Int) : Rat) / ((den : Int) : Rat)) ?_ (fun c hc => ?_)
  · obtain ⟨i, rfl, h1, h2⟩ := stB_mem ha
    rw [limits_len]; omega
  · refine (D_ne (f := fun a c => en ((M.mat (M.shares l e) (M.limits l s e)).getD a []) c)).2 ?_
    rw [List.singleton_append, DI_congr (g := stA l.length) (fun a ha c hc => rowF_stA (by
      rcases List.mem_cons.1 ha with rfl | ha
      · exact .inl rfl
      · obtain ⟨i, rfl, h1, _⟩ := stB_mem ha
        exact .inr ⟨i, rfl, h1⟩) (List.mem_range.1 hc))]
    exact start_det _ h.n4 e he j hj
  · obtain ⟨i, rfl, h1, h2⟩ := stB_mem ha
    show ((_ : Int) : Rat) ≤ ((0 : Int) : Rat)
    apply Rat.intCast_le_intCast.2
    rw [if_neg (by omega), Nat.add_sub_cancel]
    have := hjm i h1
    omega
  · have hc := List.mem_range.1 hc
    have key := start_sum (wo := en wo) (sh := fun i => if i < l.length then 1 else 0) (e := e) hj hc (fun _ => rfl)
    unfold woF
    rw [← key, smI_cast, List.singleton_append]
    refine sm_congr fun a ha => ?_
    rw [Rat.intCast_mul]
    unfold rowF
    rw [rowF_stA (by
      rcases List.mem_cons.1 ha with rfl | ha
      · exact .inl rfl
      · obtain ⟨i, rfl, h1, _⟩ := stB_mem ha
        exact .inr ⟨i, rfl, h1⟩) hc]
  · apply rat_cancel hd0
    rw [cast, b1, Rat.intCast_mul]
  · apply Rat.le_of_mul_le_mul_right ?_ hdp
    rw [cast, ← Rat.intCast_mul]
    exact Rat.intCast_le_intCast.2 (b2 c hc)
end
end Go.Bl
end

section
set_option linter.unusedVariables false
set_option linter.unusedSimpArgs false
set_option maxRecDepth 100000
namespace Go.Bl
open Go.V Go.Proofs Go.Lp
section
variable {l : List Cask} {s : Sample} {x : M.Corner}
theorem costs_en {j : Nat} (hj : j < l.length) : en (M.costs l) j = (l.getD j dfC).cost := by
  unfold M.costs en
  rw [List.getD_eq_getElem?_getD, List.getElem?_map, List.getD_eq_getElem?_getD, List.getElem?_eq_getElem hj]; rfl
theorem far_en {j : Nat} (hj : j < l.length + 1) : en (M.far l) j = if j = l.length then 1 else 0 := by
  unfold M.far en
  by_cases h : j < l.length
  · rw [if_neg (by omega), List.getD_eq_getElem?_getD, List.getElem?_append_left (by simpa using h), List.getElem?_map, List.getElem?_eq_getElem h]; rfl
  · obtain rfl : j = l.length := by omega
    rw [if_pos rfl, List.getD_eq_getElem?_getD, List.getElem?_append_right (by simp)]; simp
def cost (l : List Cask) (pt : List Int) : Int := smI (fun j => (l.getD j dfC).cost * en pt j) (List.range l.length)
theorem Blend.congr {pt pt' : List Int} {den far : Int} (hb : Blend l s pt den far) (h : ∀ i, i < l.length → en pt' i = en pt i) : Blend l s pt' den far := by
  refine ⟨hb.dp, fun i hi => by rw [h i hi]; exact hb.p0 i hi, fun i hi => by rw [h i hi]; exact hb.p1 i hi, ?_, fun k hk => ?_, fun k hk => ?_⟩
  · rw [← hb.sum]; exact smI_congr fun i hi => h i (List.mem_range.1 hi)
  · rw [smI_congr fun i hi => by rw [h i (List.mem_range.1 hi)]]; exact hb.hi k hk
  · rw [smI_congr fun i hi => by rw [h i (List.mem_range.1 hi)]]; exact hb.lo k hk
theorem Blend.mono {pt : List Int} {den far far' : Int} (hb : Blend l s pt den far) (h : far ≤ far') : Blend l s pt den far' :=
  ⟨hb.dp, hb.p0, hb.p1, hb.sum, fun k hk => Int.le_trans (hb.hi k hk) h, fun k hk => Int.le_trans (hb.lo k hk) h⟩
structure BestS (l : List Cask) (s : Sample) (x : M.Corner) : Prop where
  b : Blend l s x.pt x.den 0
  d : x.den ≤ 200000000000
  pl : x.pt.length = l.length
  p : Proof l s (M.costs l) (M.wtsOf x l.length)
  eq : bound l s (M.wtsOf x l.length) * x.den = (M.wtsOf x l.length).den * cost l x.pt
  tb : x.tight.length ≤ x.by_.length ∧ x.tight.length ≤ 1000 ∧ WhichOK l.length x.tight
theorem which_ok {e : Nat} {c : Cond} (hc : c ∈ M.limits l s e) : 0 ≤ c.which ∧ (c.kind = 1 → c.which < (l.length : Int)) ∧ (c.kind ≠ 1 → c.kind ≠ 0 → c.which < 4) := by
  rcases limits_cases hc with ⟨i, hi, rfl⟩ | ⟨i, hi, rfl⟩ | ⟨k, hk, rfl⟩ | ⟨k, hk, rfl⟩
  · exact ⟨Int.natCast_nonneg i, fun h => absurd h (show (0 : Int) ≠ 1 by decide), fun _ h => absurd rfl h⟩
  · exact ⟨Int.natCast_nonneg i, fun _ => by show (i : Int) < _; omega, fun h => absurd rfl h⟩
  · exact ⟨Int.natCast_nonneg k, fun h => absurd h (show (2 : Int) ≠ 1 by decide), fun _ _ => by show (k : Int) < _; omega⟩
  · exact ⟨Int.natCast_nonneg k, fun h => absurd h (show (3 : Int) ≠ 1 by decide), fun _ _ => by show (k : Int) < _; omega⟩
theorem opt_tb {n e : Nat} {sh wo : List Int} {sum : Int} (hn : n ≤ 5) (ho : Opt n sh sum wo (M.limits l s e) x) : x.tight.length ≤ x.by_.length ∧ x.tight.length ≤ 1000 ∧ WhichOK l.length x.tight :=
  ⟨by rw [ho.bl]; exact Nat.le_refl _, by have := ho.tl; omega, fun c hc => which_ok (ho.sub.subset hc)⟩
theorem costs_small (h : RightL l s) : ∀ j, j < l.length + 0 → (en (M.costs l) j).natAbs ≤ 1000 := by
  intro j hj
  rw [costs_en hj]
  have := (h.rc j hj).cost; omega
theorem best_some (h : RightL l s) (hp : M.pBest l s = some x) : BestS l s x := by
  have hc := costs_small h
  have hl : (M.costs l).length = l.length + 0 := costs_len l
  have ho := psolve_some (small_of h (e := 0) (by decide) hl (ent_of hl hc)) hp
  obtain ⟨b1, _⟩ := conds_blend h (by decide) ho.den ho.sum ho.all
  obtain ⟨p1, p2, p3, _⟩ := opt_wts h (by decide) hl (fun j hj => by unfold Kb; rw [if_pos (show j < l.length from hj)]; exact hc j hj) (W := fun _ => 1000) hc (num_cost _ h.n4) ho
  refine ⟨b1, ?_, ho.pl, p1, ?_, opt_tb (by have := h.n4; omega) ho⟩
  · rw [← ho.wdE.trans ho.denE.symm, ← p2]; exact p1.den.2
  · rw [p3, p2]
    congr 1
    exact smI_congr fun j hj => by rw [costs_en (List.mem_range.1 hj)]
theorem argmin (f : Nat → Int) : ∀ m, 1 ≤ m → ∃ j, j < m ∧ ∀ c, c < m → f j ≤ f c
  | 0, h => absurd h (by decide)
  | 1, _ => ⟨0, by decide, fun c hc => by rw [show c = 0 by omega]; exact Int.le_refl _⟩
  | m + 2, _ => by
    obtain ⟨j, hj, hm⟩ := argmin f (m + 1) (by omega)
    by_cases h : f j ≤ f (m + 1)
    · refine ⟨j, by omega, fun c hc => ?_⟩
      by_cases e : c = m + 1
      · rw [e]; exact h
      · exact hm c (by omega)
    · refine ⟨m + 1, by omega, fun c hc => ?_⟩
      by_cases e : c = m + 1
      · rw [e]; exact Int.le_refl _
      · have := hm c (by omega); omega
theorem best_none (h : RightL l s) (hp : M.pBest l s = none) {pt : List Int} {den : Int} (hb : Blend l s pt den 0) : False := by
  have hc := costs_small h
  have hl : (M.costs l).length = l.length + 0 := costs_len l
  obtain ⟨j, hj, hm⟩ := argmin (en (M.costs l)) l.length h.n1
  exact prog_none h (e := 0) (by decide) hl (ent_of hl hc) hj (fun c hc => by have hc : c < l.length := hc; rw [if_pos hc, Int.mul_one]; exact hm c hc) hp hb (Int.le_refl _)
structure NearS (l : List Cask) (s : Sample) (x : M.Corner) : Prop where
  b : Blend l s x.pt x.den (en x.pt l.length)
  f0 : 0 ≤ en x.pt l.length
  d : x.den ≤ 200000000000
  pl : x.pt.length = l.length + 1
  p : Proof l s (M.far l) (M.wtsOf x l.length)
  eq : bound l s (M.wtsOf x l.length) * x.den = (M.wtsOf x l.length).den * en x.pt l.length
  ws : wsum (M.wtsOf x l.length) ≤ (M.wtsOf x l.length).den
  tb : x.tight.length ≤ x.by_.length ∧ x.tight.length ≤ 1000 ∧ WhichOK l.length x.tight
theorem far_small : ∀ j, j < l.length + 1 → (en (M.far l) j).natAbs ≤ if j < l.length then 0 else 1 := by
  intro j hj
  rw [far_en hj]
  by_cases h : j < l.length
  · rw [if_pos h, if_neg (by omega)]; decide
  · rw [if_neg h, if_pos (by omega)]; decide
theorem near_corner (h : RightL l s) (hp : M.psolve (M.shares l 1) s.vol (M.far l) (M.limits l s 1) = some x) : NearS l s x := by
  have hc := far_small (l := l)
  have hl : (M.far l).length = l.length + 1 := far_len l
  have h1 : ∀ j, j < l.length + 1 → (en (M.far l) j).natAbs ≤ 1 := fun j hj => Nat.le_trans (hc j hj) (by split <;> decide)
  have ho := psolve_some (small_of h (e := 1) (by decide) hl (ent_of hl fun j hj => Nat.le_trans (h1 j hj) (by decide))) hp
  obtain ⟨b1, b2⟩ := conds_blend h (by decide) ho.den ho.sum ho.all
  obtain ⟨p1, p2, p3, p4⟩ := opt_wts h (by decide) hl (fun j hj => Nat.le_trans (h1 j hj) (by unfold Kb; split <;> decide)) (W := fun c => if c < l.length then 0 else 1) hc (num_far _ h.n4) ho
  have p4 := p4 rfl
  rw [far_en (by omega), if_pos rfl] at p4
  refine ⟨b1, b2, ?_, ho.pl, p1, ?_, ?_, opt_tb (by have := h.n4; omega) ho⟩
  · rw [← ho.wdE.trans ho.denE.symm, ← p2]; exact p1.den.2
  · rw [p3, p2]
    congr 1
    unfold dl
    rw [smI_succ, far_en (by omega), if_pos rfl, smI_congr (h := fun _ => 0) (fun j hj => by
      have hj := List.mem_range.1 hj
      rw [far_en (by omega), if_neg (by omega), Int.zero_mul]), smI_zero]
    omega
  · rw [p2]
    have : phi (M.wtsOf x l.length) l.length (fun _ => 0) (fun _ => 1) (fun _ => 1) = wsum (M.wtsOf x l.length) := by
      unfold phi wsum
      rw [smI_congr (h := fun _ => 0) (fun i _ => Int.mul_zero _), smI_zero]
      dsimp only
      omega
    omega
def vols (l : List Cask) : Int := smI (fun i => (l.getD i dfC).vol) (List.range l.length)
theorem near_ex (h : RightL l s) (hv : s.vol ≤ vols l) : ∃ x, M.psolve (M.shares l 1) s.vol (M.far l) (M.limits l s 1) = some x := by
  cases hp : M.psolve (M.shares l 1) s.vol (M.far l) (M.limits l s 1) with
  | some x => exact ⟨x, rfl⟩
  | none =>
    exfalso
    have hl : (M.far l).length = l.length + 1 := far_len l
    have hs := h.v
    have hvp : 0 < vols l := by omega
    obtain ⟨pt, hpt⟩ : ∃ pt, pt = (List.range l.length).map (fun i => (l.getD i dfC).vol * s.vol) ++ [1000 * s.vol * vols l] := ⟨_, rfl⟩
    have e1 : ∀ i, i < l.length → en pt i = (l.getD i dfC).vol * s.vol := by
      intro i hi
      rw [hpt]; unfold en
      rw [List.getD_eq_getElem?_getD, List.getElem?_append_left (by simpa using hi), List.getElem?_map, List.getElem?_range hi]; rfl
    have e2 : en pt l.length = 1000 * s.vol * vols l := by
      rw [hpt]; unfold en
      rw [List.getD_eq_getElem?_getD, List.getElem?_append_right (by simp)]; simp
    have hsum : smI (fun i => en pt i) (List.range l.length) = s.vol * vols l := by
      unfold vols
      rw [← smI_smul]
      exact smI_congr fun i hi => by rw [e1 i (List.mem_range.1 hi), Int.mul_comm]
    have hle : ∀ g : Nat → Int, (∀ i, i < l.length → g i ≤ 1000) → smI (fun i => g i * en pt i) (List.range l.length) ≤ 1000 * s.vol * vols l := by
      intro g hg
      rw [Int.mul_assoc, ← hsum, ← smI_smul]
      refine smI_le fun i hi => ?_
      have hi := List.mem_range.1 hi
      refine Int.mul_le_mul_of_nonneg_right (hg i hi) ?_
      rw [e1 i hi]
      exact Int.mul_nonneg (h.rc i hi).vol.1 (by omega)
    refine prog_none h (e := 1) (by decide) hl (ent_of hl fun j hj => Nat.le_trans (far_small j hj) (by split <;> decide)) (j := 0) h.n1 (fun c hc => ?_) hp (pt := pt) (den := vols l) ?_ ?_
    · have := h.n1
      rw [far_en (by omega), if_neg (by omega), far_en hc]
      split <;> split <;> decide
    · show Blend l s pt (vols l) (en pt l.length)
      rw [e2]
      refine ⟨hvp, fun i hi => ?_, fun i hi => ?_, hsum, fun k hk => hle _ fun i hi => ?_, fun k hk => hle _ fun i hi => ?_⟩
      · rw [e1 i hi]; exact Int.mul_nonneg (h.rc i hi).vol.1 (by omega)
      · rw [e1 i hi]; exact Int.mul_le_mul_of_nonneg_left hv (h.rc i hi).vol.1
      · have := (h.hiF hi hk).2; omega
      · have := (h.loF hi hk).2; omega
    · show 0 ≤ en pt l.length
      rw [e2]
      exact Int.mul_nonneg (Int.mul_nonneg (by decide) (by omega)) (by omega)
theorem Blend.parts (h : RightL l s) {pt : List Int} {den far : Int} (hb : Blend l s pt den far) (hd : den ≤ 200000000000) (hl : pt.length = l.length) : RightP l den pt := by
  refine ⟨hl, ⟨hb.dp, hd⟩, fun i hi => ⟨hb.p0 i hi, ?_⟩⟩
  have h1 := hb.p1 i hi
  have h2 := (h.rc i hi).vol
  have h3 : (l.getD i dfC).vol * den ≤ 10000 * 200000000000 := Int.mul_le_mul h2.2 hd (Int.le_of_lt hb.dp) (by decide)
  show pt.getD i 0 ≤ _
  have h1 : pt.getD i 0 ≤ (l.getD i dfC).vol * den := h1
  omega
theorem sum_vol (h : RightL l s) {pt : List Int} {den : Int} (hp : RightP l den pt) : M.sumP (fun _ => 1) l pt = smI (fun i => en pt i) (List.range l.length) := by
  rw [(vol_bound h.n4 hp).1, smI_dot]; rfl
theorem sum_cost (h : RightL l s) {pt : List Int} {den : Int} (hp : RightP l den pt) : M.sumP Cask.cost l pt = cost l pt := by
  rw [(sumP_eq h.n4 hp (of := Cask.cost) fun i hi => by have := (h.rc i hi).cost; omega).1]
  unfold cost
  rw [smI_dot]
  exact dot_congr fun i _ => Int.mul_comm _ _
theorem open_of (h : RightL l s) {pt : List Int} {den far : Int} (hb : Blend l s pt den far) (hd : den ≤ 200000000000) (hl : pt.length = l.length) : OpenR l s den pt := by
  have hp := hb.parts h hd hl
  refine ⟨h.n4, h.rc, hp, ?_, ⟨h.lo 0 (by decide), h.hi 0 (by decide)⟩, ⟨h.lo 1 (by decide), h.hi 1 (by decide)⟩, ⟨h.lo 2 (by decide), h.hi 2 (by decide)⟩, ⟨h.lo 3 (by decide), h.hi 3 (by decide)⟩⟩
  rw [sum_vol h hp, hb.sum]
  have := Int.mul_pos (show 0 < s.vol by have := h.v; omega) hb.dp
  omega
theorem away_le (h : RightL l s) {pt : List Int} {den : Int} (ho : OpenR l s den pt) {F : Int} : M.away l pt s ≤ F ↔ 0 ≤ F ∧ ∀ k, k < 4 → smI (fun i => (M.val (l.getD i dfC) k - (M.rg s k).hi) * en pt i) (List.range l.length) ≤ F ∧ smI (fun i => ((M.rg s k).lo - M.val (l.getD i dfC) k) * en pt i) (List.range l.length) ≤ F := by
  have hk : ∀ (k : Nat) (of : Cask → Int), k < 4 → (∀ c, of c = M.val c k) → M.valL l pt of (M.rg s k).hi = smI (fun i => (M.val (l.getD i dfC) k - (M.rg s k).hi) * en pt i) (List.range l.length) ∧ IntKind.i64.wrap (0 - M.valL l pt of (M.rg s k).lo) = smI (fun i => ((M.rg s k).lo - M.val (l.getD i dfC) k) * en pt i) (List.range l.length) := by
    intro k of hk hof
    have hof' : ∀ i, i < l.length → 0 ≤ of (l.getD i dfC) ∧ of (l.getD i dfC) ≤ 1000 := fun i hi => by rw [hof]; exact (h.rc i hi).val k
    have h1 := valL_eq h.n4 ho.parts hof' (h.hi k hk)
    have h2 := valL_eq h.n4 ho.parts hof' (h.lo k hk)
    have h3 := (kind_eq h.n4 ho.parts hof' (h.lo k hk) (h.hi k hk)).2.2.1
    constructor
    · rw [h1.1, ← smI_dot]
      refine smI_congr fun i _ => ?_
      rw [hof, Int.mul_comm]; rfl
    · rw [h3, h2.1, ← smI_dot, Int.zero_sub, ← smI_neg]
      refine smI_congr fun i _ => ?_
      rw [hof, ← Int.mul_neg, Int.mul_comm, Int.neg_sub]; rfl
  obtain ⟨a1, a2⟩ := hk 0 (M.kOf 0) (by decide) (fun _ => rfl)
  obtain ⟨b1, b2⟩ := hk 1 (M.kOf 1) (by decide) (fun _ => rfl)
  obtain ⟨c1, c2⟩ := hk 2 (M.kOf 2) (by decide) (fun _ => rfl)
  obtain ⟨d1, d2⟩ := hk 3 (M.kOf 3) (by decide) (fun _ => rfl)
  rw [← (far_away ho).1]
  unfold M.farR M.farK
  rw [show s.r0 = M.rg s 0 from rfl, show s.r1 = M.rg s 1 from rfl, show s.r2 = M.rg s 2 from rfl, show s.r3 = M.rg s 3 from rfl, a1, a2, b1, b2, c1, c2, d1, d2]
  simp only [mx_le]
  constructor
  · rintro ⟨⟨⟨⟨⟨⟨⟨⟨x0, x1⟩, x2⟩, x3⟩, x4⟩, x5⟩, x6⟩, x7⟩, x8⟩
    refine ⟨x0, fun k hk => ?_⟩
    rcases four hk with rfl | rfl | rfl | rfl
    · exact ⟨x2, x1⟩
    · exact ⟨x4, x3⟩
    · exact ⟨x6, x5⟩
    · exact ⟨x8, x7⟩
  · rintro ⟨x0, hx⟩
    exact ⟨⟨⟨⟨⟨⟨⟨⟨x0, (hx 0 (by decide)).2⟩, (hx 0 (by decide)).1⟩, (hx 1 (by decide)).2⟩, (hx 1 (by decide)).1⟩, (hx 2 (by decide)).2⟩, (hx 2 (by decide)).1⟩, (hx 3 (by decide)).2⟩, (hx 3 (by decide)).1⟩
theorem near_away (h : RightL l s) (hx : NearS l s x) : M.away l (x.pt.take l.length) s = en x.pt l.length := by
  have htl : (x.pt.take l.length).length = l.length := by rw [List.length_take, hx.pl]; omega
  have hte : ∀ i, i < l.length → en (x.pt.take l.length) i = en x.pt i := fun i hi => by
    unfold en; rw [List.getD_eq_getElem?_getD, List.getElem?_take, if_pos hi, ← List.getD_eq_getElem?_getD]
  have hb := hx.b.congr hte
  have ho := open_of h hb hx.d htl
  have h1 : M.away l (x.pt.take l.length) s ≤ en x.pt l.length := (away_le h ho).2 ⟨hx.f0, fun k hk => ⟨hb.hi k hk, hb.lo k hk⟩⟩
  obtain ⟨a0, ak⟩ := (away_le h ho).1 (Int.le_refl _)
  have hb' : Blend l s (x.pt.take l.length) x.den (M.away l (x.pt.take l.length) s) := ⟨hb.dp, hb.p0, hb.p1, hb.sum, fun k hk => (ak k hk).1, fun k hk => (ak k hk).2⟩
  have hall : Each (fun b => 0 ≤ b) (M.wtsOf x l.length) := by
    obtain ⟨g1, ⟨g2, g3, g4, g5⟩, g6, g7, g8, g9⟩ := hx.p.all
    exact ⟨fun i => (g1 i).1, ⟨g2.1, g3.1, g4.1, g5.1⟩, g6.1, g7.1, g8.1, g9.1⟩
  have hw := weak_blend hb' hall (g := fun j => en (M.far l) j * (M.wtsOf x l.length).den) hx.p.gift
  rw [smI_congr (h := fun _ => 0) (fun j hj => by
    have hj := List.mem_range.1 hj
    rw [far_en (by omega), if_neg (by omega), Int.zero_mul, Int.zero_mul]), smI_zero, hx.eq, Int.zero_add] at hw
  have h2 := Int.mul_le_mul_of_nonneg_right hx.ws a0
  have h3 : (M.wtsOf x l.length).den * en x.pt l.length ≤ (M.wtsOf x l.length).den * M.away l (x.pt.take l.length) s := Int.le_trans hw h2
  have h4 := Int.le_of_mul_le_mul_left h3 (show 0 < (M.wtsOf x l.length).den by have := hx.p.den; omega)
  omega
theorem best_okay (l : List Cask) (s : Sample) : BestOK l s := by
  intro he
  have h := task_right he
  have hc := costs_small h
  obtain ⟨a1, a2, a3, a4, a5⟩ := limits_small h (e := 0) (by decide)
  refine ⟨h.n1, h.n4, fun c hc => by rw [shares_len]; exact a3 c hc, turnOK (by rw [shares_len]; have := h.n4; omega) a2 (fun c hc => ⟨by rw [shares_len]; exact a3 c hc, a4 c hc⟩), fun x hx => ?_⟩
  have hb := best_some h hx
  have ho := open_of h hb.b hb.d hb.pl
  exact ⟨⟨Nat.le_of_eq hb.pl, by have := hb.b.dp; omega, by have := hb.b.dp; have := hb.d; unfold i64ok; omega, hb.tb.1, hb.tb.2.1, hb.tb.2.2⟩, cost_ok ho⟩
theorem vols_eq (h : RightL l s) : M.volumes l = vols l := by
  have := (fold_dot (f := fun a i => IntKind.i64.wrap (a + (l.getD i dfC).vol)) (y := fun i => (l.getD i dfC).vol) (n := l.length) (fun a i _ => rfl) (fun i hi => by have := (h.rc i hi).vol; omega) h.n4).1
  unfold vols
  rw [smI_dot, ← this]
  rfl
theorem near_right (he : M.nearErr l s = 0) : RightL l s ∧ s.vol ≤ vols l := by
  unfold M.nearErr at he
  have hz := first_nil _ he
  have ht : M.taskErr l s = 0 := by
    unfold M.taskErr
    have h1 := hz (M.casksErr l) (by simp)
    have h2 := hz (M.checkSample s) (by simp)
    rw [h1, h2]; rfl
  have h := task_right ht
  refine ⟨h, ?_⟩
  have h3 := of_decide_eq_true (unl_zero (by decide) (hz (M.unl (decide (M.volumes l ≥ s.vol)) 24) (by simp)))
  rw [vols_eq h] at h3
  exact h3
theorem near_some (h : RightL l s) (hv : s.vol ≤ vols l) : NearS l s (M.pNear l s) := by
  obtain ⟨x, hx⟩ := near_ex h hv
  have : M.pNear l s = x := by unfold M.pNear; rw [hx]; rfl
  rw [this]
  exact near_corner h hx
theorem near_take (h : RightL l s) (hx : NearS l s x) : OpenR l s x.den (x.pt.take l.length) ∧ Blend l s (x.pt.take l.length) x.den (en x.pt l.length) := by
  have htl : (x.pt.take l.length).length = l.length := by rw [List.length_take, hx.pl]; omega
  have hte : ∀ i, i < l.length → en (x.pt.take l.length) i = en x.pt i := fun i hi => by
    unfold en; rw [List.getD_eq_getElem?_getD, List.getElem?_take, if_pos hi, ← List.getD_eq_getElem?_getD]
  have hb := hx.b.congr hte
  exact ⟨open_of h hb hx.d htl, hb⟩
theorem near_okay (l : List Cask) (s : Sample) : NearOK l s := by
  intro he
  obtain ⟨h, hv⟩ := near_right he
  have hx := near_some h hv
  obtain ⟨a1, a2, a3, a4, a5⟩ := limits_small h (e := 1) (by decide)
  obtain ⟨ho, hb⟩ := near_take h hx
  refine ⟨h.n1, h.n4, fun c hc => by rw [shares_len]; exact a3 c hc, turnOK (by rw [shares_len]; have := h.n4; omega) a2 (fun c hc => ⟨by rw [shares_len]; exact a3 c hc, a4 c hc⟩), by rw [hx.pl]; omega, ho.vol, ?_, ?_⟩
  · have := (far_away ho).2.1; unfold i64ok; omega
  · have := (vol_bound h.n4 ho.parts).2; unfold i64ok; omega
end
end Go.Bl
end

section
set_option linter.unusedVariables false
set_option linter.unusedSimpArgs false
set_option maxRecDepth 100000
namespace Go.Bl
open Go.V Go.Proofs
theorem t130 (n most : Int) : runFnX Try.prog G0 (lookS [v102]) (fun _ => []) [] 1 20 3 130 Try.f130 [.c (dI n), .c (dI most)] =
    T.ret [rB (M.within n (IntKind.i64.wrap ((0 : Int) - most)) most)] := by kernel_rfl
def dom130 : DomF
  | [.c (.int .i64 n), .c (.int .i64 most)] => some ([], [rB (M.within n (IntKind.i64.wrap ((0 : Int) - most)) most)])
  | _ => none
def v130 : Nat × Sm := (130, fokSm dom130)
theorem C130 : FOK Try.prog G0 gw 130 dom130 := by
  intro ags p r hd hp κ w xs hw hl hG hx
  unfold dom130 at hd
  split at hd
  · rename_i n most
    simp only [Option.some.injEq, Prod.mk.injEq] at hd
    obtain ⟨rfl, rfl⟩ := hd
    have heq : agsEqv [.c (.int .i64 n), .c (.int .i64 most)] [.c (.int .i64 n), .c (.int .i64 most)] := ⟨Ag.eqv_refl _, Ag.eqv_refl _, trivial⟩
    exact fokX_fin mixed gw_stable (sl := [v102]) ⟨S102, trivial⟩ Try.func130 hw hl hG hx heq rfl (t130 n most) (rsEqv_refl _)
  · cases hd
theorem S130 : SumOK Try.prog G0 gw 130 (fokSm dom130) := fok_sum Try.func130 rfl C130
end Go.Bl
end

section
set_option linter.unusedVariables false
set_option linter.unusedSimpArgs false
set_option maxRecDepth 100000
namespace Go.Bl
open Go.V Go.Proofs
namespace M
def wOk (w : Wts) : Bool := allB isWeight [w.x0, w.x1, w.x2, w.x3] && allB isWeight [w.y0, w.y1, w.y2, w.y3] && allB isWeight w.casks
def wHead (w : Wts) : Bool := within w.den 1 200000000000 && within w.each (-100000000000000) 100000000000000
def wErr (n : Nat) (w : Wts) : Int := first [unl (wHead w) 2, unl ((w.casks.length : Int) == (n : Int)) 10, unl (wOk w) 2]
def openW (l : List Cask) (s : Sample) (w : Wts) : Int := first [casksErr l, checkSample s, unl (wHead w) 2, unl ((w.casks.length : Int) == (l.length : Int)) 10, unl (wOk w) 2]
def giveK (x y v lo hi g : Int) : Int := IntKind.i64.wrap (IntKind.i64.wrap (g - IntKind.i64.wrap (x * IntKind.i64.wrap (v - hi))) - IntKind.i64.wrap (y * IntKind.i64.wrap (lo - v)))
def giveR (l : List Cask) (s : Sample) (w : Wts) (i : Nat) : Int :=
  giveK w.x3 w.y3 (l.getD i dfC).k3 s.r3.lo s.r3.hi (giveK w.x2 w.y2 (l.getD i dfC).k2 s.r2.lo s.r2.hi (giveK w.x1 w.y1 (l.getD i dfC).k1 s.r1.lo s.r1.hi (giveK w.x0 w.y0 (l.getD i dfC).k0 s.r0.lo s.r0.hi (IntKind.i64.wrap (w.each - w.casks.getD i 0)))))
def boundR (l : List Cask) (s : Sample) (w : Wts) : Int := (List.range l.length).foldl (fun a i => IntKind.i64.wrap (a - IntKind.i64.wrap (w.casks.getD i 0 * (l.getD i dfC).vol))) (IntKind.i64.wrap (w.each * s.vol))
end M
theorem openW_eq (l : List Cask) (s : Sample) (w : Wts) : M.openW l s w = cond (M.taskErr l s != 0) (M.taskErr l s) (M.wErr l.length w) := by
  unfold M.openW M.taskErr M.wErr
  simp only [first_cons]
  by_cases h1 : M.casksErr l = 0
  · rw [if_pos h1, if_pos h1]
    by_cases h2 : M.checkSample s = 0
    · rw [if_pos h2, if_pos h2]; rfl
    · rw [if_neg h2, if_neg h2, show (M.checkSample s != 0) = true by simpa using h2]; rfl
  · rw [if_neg h1, if_neg h1, show (M.casksErr l != 0) = true by simpa using h1]; rfl
def wF (q : Bool) (w : Wts) (a : Nat) : Nat → Nat → D := fun i j => List.getD [dI w.den, dI w.each, dI w.x0, dI w.x1, dI w.x2, dI w.x3, dI w.y0, dI w.y1, dI w.y2, dI w.y3, .sl q w.casks.length 1 (eI.F w.casks)] (a + (i + j)) .nilp
theorem wF_x (q : Bool) (w : Wts) : eI.list 4 (wF q w 2) = [w.x0, w.x1, w.x2, w.x3] ∧ eI.Is 4 (wF q w 2) := by
  refine ⟨rfl, fun i j hi hj => ?_⟩
  obtain rfl : j = 0 := Nat.lt_one_iff.1 hj
  match i, hi with
  | 0, _ => exact D.eqv_refl _
  | 1, _ => exact D.eqv_refl _
  | 2, _ => exact D.eqv_refl _
  | 3, _ => exact D.eqv_refl _
theorem wF_y (q : Bool) (w : Wts) : eI.list 4 (wF q w 6) = [w.y0, w.y1, w.y2, w.y3] ∧ eI.Is 4 (wF q w 6) := by
  refine ⟨rfl, fun i j hi hj => ?_⟩
  obtain rfl : j = 0 := Nat.lt_one_iff.1 hj
  match i, hi with
  | 0, _ => exact D.eqv_refl _
  | 1, _ => exact D.eqv_refl _
  | 2, _ => exact D.eqv_refl _
  | 3, _ => exact D.eqv_refl _
def tr109 (q_l : Bool) (l : List Cask) (sv l0 h0 l1 h1 l2 h2 l3 h3 : Int) (q_ps : Bool) (den each x0 x1 x2 x3 y0 y1 y2 y3 : Int) (ps : List Int) : T (List Ar) :=
    T.need (Enc.Is eI (4 : Nat) (wF q_ps (⟨den, each, x0, x1, x2, x3, y0, y1, y2, y3, ps⟩ : Wts) 2)) (T.need ((4 : Nat) ≤ (1000000 : Nat)) (T.br (M.allB M.isWeight (Enc.list eI (4 : Nat) (wF q_ps (⟨den, each, x0, x1, x2, x3, y0, y1, y2, y3, ps⟩ : Wts) 2))) (T.need (Enc.Is eI (4 : Nat) (wF q_ps (⟨den, each, x0, x1, x2, x3, y0, y1, y2, y3, ps⟩ : Wts) 6)) (T.need ((4 : Nat) ≤ (1000000 : Nat)) (T.br (M.allB M.isWeight (Enc.list eI (4 : Nat) (wF q_ps (⟨den, each, x0, x1, x2, x3, y0, y1, y2, y3, ps⟩ : Wts) 6))) (T.need (Enc.Is eI (List.length ps) (Enc.F eI ps)) (T.need (List.length ps ≤ (1000000 : Nat)) (T.br (M.within den (1 : Int) (200000000000 : Int)) (T.need (Enc.Is eC (List.length l) (Enc.F eC l)) (T.need (∀ (c : Cask), c ∈ Enc.list eC (List.length l) (Enc.F eC l) → ByteArray.size (Cask.nm c) ≤ (1000000 : Nat)) (T.need (M.within den (1 : Int) (200000000000 : Int) = true) (T.ret [Ar.c (D.int IntKind.i64 (M.first [M.casksErr (Enc.list eC (List.length l) (Enc.F eC l)), M.checkSample (⟨sv, ⟨l0, h0⟩, ⟨l1, h1⟩, ⟨l2, h2⟩, ⟨l3, h3⟩⟩ : Sample), M.unl (M.within each (-100000000000000 : Int) (100000000000000 : Int)) (2 : Int), M.unl ((Nat.cast (R := Int) ps.length) == (Nat.cast (R := Int) l.length)) (10 : Int), M.unl (M.allB M.isWeight (Enc.list eI (List.length ps) (Enc.F eI ps))) (2 : Int)]))])))) (T.need (Enc.Is eC (List.length l) (Enc.F eC l)) (T.need (∀ (c : Cask), c ∈ Enc.list eC (List.length l) (Enc.F eC l) → ByteArray.size (Cask.nm c) ≤ (1000000 : Nat)) (T.need (M.within den (1 : Int) (200000000000 : Int) = false) (T.ret [Ar.c (D.int IntKind.i64 (M.first [M.casksErr (Enc.list eC (List.length l) (Enc.F eC l)), M.checkSample (⟨sv, ⟨l0, h0⟩, ⟨l1, h1⟩, ⟨l2, h2⟩, ⟨l3, h3⟩⟩ : Sample), (2 : Int), M.unl ((Nat.cast (R := Int) ps.length) == (Nat.cast (R := Int) l.length)) (10 : Int), M.unl (M.allB M.isWeight (Enc.list eI (List.length ps) (Enc.F eI ps))) (2 : Int)]))]))))))) (T.br (M.within den (1 : Int) (200000000000 : Int)) (T.need (Enc.Is eC (List.length l) (Enc.F eC l)) (T.need (∀ (c : Cask), c ∈ Enc.list eC (List.length l) (Enc.F eC l) → ByteArray.size (Cask.nm c) ≤ (1000000 : Nat)) (T.need (M.within den (1 : Int) (200000000000 : Int) = true) (T.ret [Ar.c (D.int IntKind.i64 (M.first [M.casksErr (Enc.list eC (List.length l) (Enc.F eC l)), M.checkSample (⟨sv, ⟨l0, h0⟩, ⟨l1, h1⟩, ⟨l2, h2⟩, ⟨l3, h3⟩⟩ : Sample), M.unl (M.within each (-100000000000000 : Int) (100000000000000 : Int)) (2 : Int), M.unl ((Nat.cast (R := Int) ps.length) == (Nat.cast (R := Int) l.length)) (10 : Int), (2 : Int)]))])))) (T.need (Enc.Is eC (List.length l) (Enc.F eC l)) (T.need (∀ (c : Cask), c ∈ Enc.list eC (List.length l) (Enc.F eC l) → ByteArray.size (Cask.nm c) ≤ (1000000 : Nat)) (T.need (M.within den (1 : Int) (200000000000 : Int) = false) (T.ret [Ar.c (D.int IntKind.i64 (M.first [M.casksErr (Enc.list eC (List.length l) (Enc.F eC l)), M.checkSample (⟨sv, ⟨l0, h0⟩, ⟨l1, h1⟩, ⟨l2, h2⟩, ⟨l3, h3⟩⟩ : Sample), (2 : Int), M.unl ((Nat.cast (R := Int) ps.length) == (Nat.cast (R := Int) l.length)) (10 : Int), (2 : Int)]))])))))))) (T.br (M.within den (1 : Int) (200000000000 : Int)) (T.need (Enc.Is eC (List.length l) (Enc.F eC l)) (T.need (∀ (c : Cask), c ∈ Enc.list eC (List.length l) (Enc.F eC l) → ByteArray.size (Cask.nm c) ≤ (1000000 : Nat)) (T.need (M.within den (1 : Int) (200000000000 : Int) = true) (T.ret [Ar.c (D.int IntKind.i64 (M.first [M.casksErr (Enc.list eC (List.length l) (Enc.F eC l)), M.checkSample (⟨sv, ⟨l0, h0⟩, ⟨l1, h1⟩, ⟨l2, h2⟩, ⟨l3, h3⟩⟩ : Sample), M.unl (M.within each (-100000000000000 : Int) (100000000000000 : Int)) (2 : Int), M.unl ((Nat.cast (R := Int) ps.length) == (Nat.cast (R := Int) l.length)) (10 : Int), (2 : Int)]))])))) (T.need (Enc.Is eC (List.length l) (Enc.F eC l)) (T.need (∀ (c : Cask), c ∈ Enc.list eC (List.length l) (Enc.F eC l) → ByteArray.size (Cask.nm c) ≤ (1000000 : Nat)) (T.need (M.within den (1 : Int) (200000000000 : Int) = false) (T.ret [Ar.c (D.int IntKind.i64 (M.first [M.casksErr (Enc.list eC (List.length l) (Enc.F eC l)), M.checkSample (⟨sv, ⟨l0, h0⟩, ⟨l1, h1⟩, ⟨l2, h2⟩, ⟨l3, h3⟩⟩ : Sample), (2 : Int), M.unl ((Nat.cast (R := Int) ps.length) == (Nat.cast (R := Int) l.length)) (10 : Int), (2 : Int)]))])))))))
theorem t109 (q_l : Bool) (l : List Cask) (sv l0 h0 l1 h1 l2 h2 l3 h3 : Int) (den : Int) (each : Int) (x0 : Int) (x1 : Int) (x2 : Int) (x3 : Int) (y0 : Int) (y1 : Int) (y2 : Int) (y3 : Int) (q_ps : Bool) (ps : List Int) : runFnX Try.prog G0 (lookS [v103w, v65, v49, v102, v80, v64, v130]) (fun _ => []) [] 1 40 5 109 Try.f109 [.c (.sl q_l l.length 7 (eC.F l)), .agg [dI sv, dI l0, dI h0, dI l1, dI h1, dI l2, dI h2, dI l3, dI h3], .agg [dI den, dI each, dI x0, dI x1, dI x2, dI x3, dI y0, dI y1, dI y2, dI y3, .sl q_ps ps.length 1 (eI.F ps)]] =
    tr109 q_l l sv l0 h0 l1 h1 l2 h2 l3 h3 q_ps den each x0 x1 x2 x3 y0 y1 y2 y3 ps := by kernel_rfl
def tr56 (q_ps : Bool) (den each x0 x1 x2 x3 y0 y1 y2 y3 : Int) (ps : List Int) : T (List Ar) :=
    T.need (Enc.Is eI (List.length ps) (Enc.F eI ps)) (T.need (List.length (Enc.list eI (List.length ps) (Enc.F eI ps)) ≤ (1000000 : Nat)) (T.ret [Ar.agg [D.int IntKind.i64 den, D.int IntKind.i64 each, D.int IntKind.i64 x0, D.int IntKind.i64 x1, D.int IntKind.i64 x2, D.int IntKind.i64 x3, D.int IntKind.i64 y0, D.int IntKind.i64 y1, D.int IntKind.i64 y2, D.int IntKind.i64 y3, D.sl true (List.length ps) (1 : Nat) (Enc.F eI (Enc.list eI (List.length ps) (Enc.F eI ps)))]]))
theorem t56 (den : Int) (each : Int) (x0 : Int) (x1 : Int) (x2 : Int) (x3 : Int) (y0 : Int) (y1 : Int) (y2 : Int) (y3 : Int) (q_ps : Bool) (ps : List Int) : runFnX Try.prog G0 (lookS [v41]) (fun _ => []) [] 1 20 3 56 Try.f56 [.agg [dI den, dI each, dI x0, dI x1, dI x2, dI x3, dI y0, dI y1, dI y2, dI y3, .sl q_ps ps.length 1 (eI.F ps)]] =
    tr56 q_ps den each x0 x1 x2 x3 y0 y1 y2 y3 ps := by kernel_rfl
def tr111 (l : List Cask) (sv l0 h0 l1 h1 l2 h2 l3 h3 : Int) (den each x0 x1 x2 x3 y0 y1 y2 y3 : Int) (ps : List Int) : T (List Ar) :=
    T.loop (Int × Int × PUnit) ((0 : Int), IntKind.i64.wrap (each * sv), PUnit.unit) fun (x : Int × Int × PUnit) => T.br (decide (x.1 < (Nat.cast (R := Int) l.length))) (T.need ((0 : Int) ≤ x.1) (T.need (x.1 < (Nat.cast (R := Int) l.length)) (T.need ((0 : Int) ≤ x.1) (T.need (x.1 < (Nat.cast (R := Int) ps.length)) (T.ret (Sum.inl (IntKind.i64.wrap (x.1 + (1 : Int)), IntKind.i64.wrap (x.2.1 - IntKind.i64.wrap (List.getD ps (Int.toNat (x.1)) (0 : Int) * (List.getD l (Int.toNat (x.1)) (Enc.dflt eC)).2)), PUnit.unit))))))) (T.ret (Sum.inr [Ar.c (D.int IntKind.i64 (x.2.1))]))
theorem t111 (q_l : Bool) (l : List Cask) (sv l0 h0 l1 h1 l2 h2 l3 h3 : Int) (den : Int) (each : Int) (x0 : Int) (x1 : Int) (x2 : Int) (x3 : Int) (y0 : Int) (y1 : Int) (y2 : Int) (y3 : Int) (q_ps : Bool) (ps : List Int) : runFnX Try.prog G0 (lookS []) (fun _ => [(3, [.slot 17 (.int .i64), .slot 7 (.int .i64)], none)]) [] 1 40 5 111 Try.f111 [.c (.sl q_l l.length 7 (eC.F l)), .agg [dI sv, dI l0, dI h0, dI l1, dI h1, dI l2, dI h2, dI l3, dI h3], .agg [dI den, dI each, dI x0, dI x1, dI x2, dI x3, dI y0, dI y1, dI y2, dI y3, .sl q_ps ps.length 1 (eI.F ps)]] =
    tr111 l sv l0 h0 l1 h1 l2 h2 l3 h3 den each x0 x1 x2 x3 y0 y1 y2 y3 ps := by kernel_rfl
theorem w109 (q_l : Bool) (l : List Cask) (sv l0 h0 l1 h1 l2 h2 l3 h3 : Int) (q_ps : Bool) (den each x0 x1 x2 x3 y0 y1 y2 y3 : Int) (ps : List Int) (hn : ∀ c, c ∈ l → c.nm.size ≤ 1000000) (hp : ps.length ≤ 1000000) : (tr109 q_l l sv l0 h0 l1 h1 l2 h2 l3 h3 q_ps den each x0 x1 x2 x3 y0 y1 y2 y3 ps).wp (fun rs => rsEqv rs [rI (M.openW l (⟨sv, ⟨l0, h0⟩, ⟨l1, h1⟩, ⟨l2, h2⟩, ⟨l3, h3⟩⟩ : Sample) (⟨den, each, x0, x1, x2, x3, y0, y1, y2, y3, ps⟩ : Wts))]) := by
  unfold tr109
  obtain ⟨a1, a2⟩ := wF_x q_ps (⟨den, each, x0, x1, x2, x3, y0, y1, y2, y3, ps⟩ : Wts)
  obtain ⟨b1, b2⟩ := wF_y q_ps (⟨den, each, x0, x1, x2, x3, y0, y1, y2, y3, ps⟩ : Wts)
  simp only [Enc.list_F, a1, b1]
  have key : M.openW l (⟨sv, ⟨l0, h0⟩, ⟨l1, h1⟩, ⟨l2, h2⟩, ⟨l3, h3⟩⟩ : Sample) (⟨den, each, x0, x1, x2, x3, y0, y1, y2, y3, ps⟩ : Wts) = M.first [M.casksErr l, M.checkSample (⟨sv, ⟨l0, h0⟩, ⟨l1, h1⟩, ⟨l2, h2⟩, ⟨l3, h3⟩⟩ : Sample), M.unl (M.within den 1 200000000000 && M.within each (-100000000000000) 100000000000000) 2, M.unl ((ps.length : Int) == (l.length : Int)) 10, M.unl (M.allB M.isWeight [x0, x1, x2, x3] && M.allB M.isWeight [y0, y1, y2, y3] && M.allB M.isWeight ps) 2] := rfl
  rw [key]
  refine ⟨a2, by decide, wp_br (fun h1 => ⟨b2, by decide, wp_br (fun h2 => ⟨Enc.is_F _ _ _, hp, wp_br (fun h3 => ?_) (fun h3 => ?_)⟩) (fun h2 => wp_br (fun h3 => ?_) (fun h3 => ?_))⟩) (fun h1 => wp_br (fun h3 => ?_) (fun h3 => ?_))⟩
  · rw [h1, h2, h3]; exact ⟨Enc.is_F _ _ _, hn, rfl, rsEqv_refl _⟩
  · rw [h1, h2, h3]; exact ⟨Enc.is_F _ _ _, hn, rfl, rsEqv_refl _⟩
  · rw [h1, h2, h3]; exact ⟨Enc.is_F _ _ _, hn, rfl, rsEqv_refl _⟩
  · rw [h1, h2, h3]; exact ⟨Enc.is_F _ _ _, hn, rfl, rsEqv_refl _⟩
  · rw [h1, h3]; exact ⟨Enc.is_F _ _ _, hn, rfl, rsEqv_refl _⟩
  · rw [h1, h3]; exact ⟨Enc.is_F _ _ _, hn, rfl, rsEqv_refl _⟩
theorem wErr_ok {n : Nat} {w : Wts} (h : M.wHead w = true) (h2 : ((w.casks.length : Int) == (n : Int)) = true) (h3 : M.wOk w = true) : M.wErr n w = 0 := by unfold M.wErr; rw [h, h2, h3]; rfl
theorem not_true {b : Bool} (h : (!b) = true) : b = false := by cases b <;> simp_all
theorem not_false' {b : Bool} (h : (!b) = false) : b = true := by cases b <;> simp_all
theorem w111 (l : List Cask) (sv l0 h0 l1 h1 l2 h2 l3 h3 : Int) (den each x0 x1 x2 x3 y0 y1 y2 y3 : Int) (ps : List Int) (g1 : l.length ≤ ps.length) (g2 : l.length ≤ 1000000) : (tr111 l sv l0 h0 l1 h1 l2 h2 l3 h3 den each x0 x1 x2 x3 y0 y1 y2 y3 ps).wp (fun rs => rsEqv rs [rI (M.boundR l (⟨sv, ⟨l0, h0⟩, ⟨l1, h1⟩, ⟨l2, h2⟩, ⟨l3, h3⟩⟩ : Sample) (⟨den, each, x0, x1, x2, x3, y0, y1, y2, y3, ps⟩ : Wts))]) := by
  unfold tr111
  refine range_wp (n := l.length) (fun k s => s.1 = (List.range k).foldl (fun a i => IntKind.i64.wrap (a - IntKind.i64.wrap (ps.getD i 0 * (l.getD i dfC).vol))) (IntKind.i64.wrap (each * sv))) rfl ?_
  rintro k ⟨a, u⟩ hk hI
  simp only at hI
  refine ⟨fun hb => ?_, fun hb => ?_⟩
  · have hlt := lt_of_dec hb
    refine ⟨by show (0 : Int) ≤ k; omega, by show (k : Int) < l.length; omega, by show (0 : Int) ≤ k; omega, by show (k : Int) < ps.length; omega, hlt, wrap_succ (by omega), ?_⟩
    rw [foldl_succ, ← hI]
    rfl
  · have hge := ge_of_dec hb
    obtain rfl : k = l.length := by omega
    have e : a = M.boundR l (⟨sv, ⟨l0, h0⟩, ⟨l1, h1⟩, ⟨l2, h2⟩, ⟨l3, h3⟩⟩ : Sample) (⟨den, each, x0, x1, x2, x3, y0, y1, y2, y3, ps⟩ : Wts) := hI
    show rsEqv [rI a] _
    rw [e]; exact rsEqv_refl _
def dom109 : DomF
  | [.c (.sl _ n_l st_l F_l), .agg [.int .i64 sv, .int .i64 l0, .int .i64 h0, .int .i64 l1, .int .i64 h1, .int .i64 l2, .int .i64 h2, .int .i64 l3, .int .i64 h3], .agg [.int .i64 den, .int .i64 each, .int .i64 x0, .int .i64 x1, .int .i64 x2, .int .i64 x3, .int .i64 y0, .int .i64 y1, .int .i64 y2, .int .i64 y3, .sl _ n_ps st_ps F_ps]] => (match Nat.beq st_l 7 && Nat.beq st_ps 1 with
    | true => some ([eC.Is n_l F_l, eI.Is n_ps F_ps, ∀ c, c ∈ (eC.list n_l F_l) → c.nm.size ≤ 1000000, (eI.list n_ps F_ps).length ≤ 1000000], [rI (M.openW (eC.list n_l F_l) (⟨sv, ⟨l0, h0⟩, ⟨l1, h1⟩, ⟨l2, h2⟩, ⟨l3, h3⟩⟩ : Sample) (⟨den, each, x0, x1, x2, x3, y0, y1, y2, y3, (eI.list n_ps F_ps)⟩ : Wts))])
    | _ => none)
  | _ => none
def v109 : Nat × Sm := (109, fokSm dom109)
theorem C109 : FOK Try.prog G0 gw 109 dom109 := by
  intro ags p r hd hp κ w xs hw hl hG hx
  unfold dom109 at hd
  split at hd
  · rename_i q_l n_l st_l F_l sv l0 h0 l1 h1 l2 h2 l3 h3 den each x0 x1 x2 x3 y0 y1 y2 y3 q_ps n_ps st_ps F_ps
    split at hd
    · rename_i hst
      simp only [Bool.and_eq_true] at hst
      obtain ⟨g1, g2⟩ := hst
      have g1 := Nat.eq_of_beq_eq_true g1
      have g2 := Nat.eq_of_beq_eq_true g2
      subst g1 g2
      simp only [Option.some.injEq, Prod.mk.injEq] at hd
      obtain ⟨rfl, rfl⟩ := hd
      obtain ⟨hI_l, hI_ps, hp⟩ := hp
      have heq : agsEqv [.c (.sl q_l n_l 7 F_l), .agg [.int .i64 sv, .int .i64 l0, .int .i64 h0, .int .i64 l1, .int .i64 h1, .int .i64 l2, .int .i64 h2, .int .i64 l3, .int .i64 h3], .agg [.int .i64 den, .int .i64 each, .int .i64 x0, .int .i64 x1, .int .i64 x2, .int .i64 x3, .int .i64 y0, .int .i64 y1, .int .i64 y2, .int .i64 y3, .sl q_ps n_ps 1 F_ps]] [.c (.sl q_l (eC.list n_l F_l).length 7 (eC.F (eC.list n_l F_l))), .agg [.int .i64 sv, .int .i64 l0, .int .i64 h0, .int .i64 l1, .int .i64 h1, .int .i64 l2, .int .i64 h2, .int .i64 l3, .int .i64 h3], .agg [.int .i64 den, .int .i64 each, .int .i64 x0, .int .i64 x1, .int .i64 x2, .int .i64 x3, .int .i64 y0, .int .i64 y1, .int .i64 y2, .int .i64 y3, .sl q_ps (eI.list n_ps F_ps).length 1 (eI.F (eI.list n_ps F_ps))]] := ⟨eC.to id hI_l, Ag.eqv_refl _, ⟨rfl, rfl, rfl, rfl, rfl, rfl, rfl, rfl, rfl, rfl, eI.to id hI_ps, trivial⟩, trivial⟩
      have len_l : (eC.list n_l F_l).length = n_l := eC.list_len
      have len_ps : (eI.list n_ps F_ps).length = n_ps := eI.list_len
      generalize eC.list n_l F_l = l at *
      generalize eI.list n_ps F_ps = ps at *
      subst len_l len_ps
      exact fokX_fin mixed gw_stable (sl := [v103w, v65, v49, v102, v80, v64, v130]) ⟨S103w, S65, S49, S102, S80, S64, S130, trivial⟩ Try.func109 hw hl hG hx heq rfl (t109 q_l l sv l0 h0 l1 h1 l2 h2 l3 h3 den each x0 x1 x2 x3 y0 y1 y2 y3 q_ps ps) (w109 q_l l sv l0 h0 l1 h1 l2 h2 l3 h3 q_ps den each x0 x1 x2 x3 y0 y1 y2 y3 ps hp.1 hp.2.1)
    · cases hd
  · cases hd
theorem S109 : SumOK Try.prog G0 gw 109 (fokSm dom109) := fok_sum Try.func109 rfl C109
def dom56 : DomF
  | [.agg [.int .i64 den, .int .i64 each, .int .i64 x0, .int .i64 x1, .int .i64 x2, .int .i64 x3, .int .i64 y0, .int .i64 y1, .int .i64 y2, .int .i64 y3, .sl _ n_ps st_ps F_ps]] => (match Nat.beq st_ps 1 with
    | true => some ([eI.Is n_ps F_ps, (eI.list n_ps F_ps).length ≤ 1000000], [.agg [dI den, dI each, dI x0, dI x1, dI x2, dI x3, dI y0, dI y1, dI y2, dI y3, .sl true n_ps 1 (eI.F (eI.list n_ps F_ps))]])
    | _ => none)
  | _ => none
def v56 : Nat × Sm := (56, fokSm dom56)
theorem C56 : FOK Try.prog G0 gw 56 dom56 := by
  intro ags p r hd hp κ w xs hw hl hG hx
  unfold dom56 at hd
  split at hd
  · rename_i den each x0 x1 x2 x3 y0 y1 y2 y3 q_ps n_ps st_ps F_ps
    split at hd
    · rename_i hst
      have g1 := hst
      have g1 := Nat.eq_of_beq_eq_true g1
      subst g1
      simp only [Option.some.injEq, Prod.mk.injEq] at hd
      obtain ⟨rfl, rfl⟩ := hd
      obtain ⟨hI_ps, hp⟩ := hp
      have heq : agsEqv [.agg [.int .i64 den, .int .i64 each, .int .i64 x0, .int .i64 x1, .int .i64 x2, .int .i64 x3, .int .i64 y0, .int .i64 y1, .int .i64 y2, .int .i64 y3, .sl q_ps n_ps 1 F_ps]] [.agg [.int .i64 den, .int .i64 each, .int .i64 x0, .int .i64 x1, .int .i64 x2, .int .i64 x3, .int .i64 y0, .int .i64 y1, .int .i64 y2, .int .i64 y3, .sl q_ps (eI.list n_ps F_ps).length 1 (eI.F (eI.list n_ps F_ps))]] := ⟨⟨rfl, rfl, rfl, rfl, rfl, rfl, rfl, rfl, rfl, rfl, eI.to id hI_ps, trivial⟩, trivial⟩
      have len_ps : (eI.list n_ps F_ps).length = n_ps := eI.list_len
      generalize eI.list n_ps F_ps = ps at *
      subst len_ps
      exact fokX_fin mixed gw_stable (sl := [v41]) ⟨S41, trivial⟩ Try.func56 hw hl hG hx heq rfl (t56 den each x0 x1 x2 x3 y0 y1 y2 y3 q_ps ps) ((by unfold tr56; rw [Enc.list_F]; exact ⟨Enc.is_F _ _ _, hp.1, rsEqv_refl _⟩))
    · cases hd
  · cases hd
theorem S56 : SumOK Try.prog G0 gw 56 (fokSm dom56) := fok_sum Try.func56 rfl C56
def dom111 : DomF
  | [.c (.sl _ n_l st_l F_l), .agg [.int .i64 sv, .int .i64 l0, .int .i64 h0, .int .i64 l1, .int .i64 h1, .int .i64 l2, .int .i64 h2, .int .i64 l3, .int .i64 h3], .agg [.int .i64 den, .int .i64 each, .int .i64 x0, .int .i64 x1, .int .i64 x2, .int .i64 x3, .int .i64 y0, .int .i64 y1, .int .i64 y2, .int .i64 y3, .sl _ n_ps st_ps F_ps]] => (match Nat.beq st_l 7 && Nat.beq st_ps 1 with
    | true => some ([eC.Is n_l F_l, eI.Is n_ps F_ps, (eC.list n_l F_l).length ≤ (eI.list n_ps F_ps).length, (eC.list n_l F_l).length ≤ 1000000], [rI (M.boundR (eC.list n_l F_l) (⟨sv, ⟨l0, h0⟩, ⟨l1, h1⟩, ⟨l2, h2⟩, ⟨l3, h3⟩⟩ : Sample) (⟨den, each, x0, x1, x2, x3, y0, y1, y2, y3, (eI.list n_ps F_ps)⟩ : Wts))])
    | _ => none)
  | _ => none
def v111 : Nat × Sm := (111, fokSm dom111)
theorem C111 : FOK Try.prog G0 gw 111 dom111 := by
  intro ags p r hd hp κ w xs hw hl hG hx
  unfold dom111 at hd
  split at hd
  · rename_i q_l n_l st_l F_l sv l0 h0 l1 h1 l2 h2 l3 h3 den each x0 x1 x2 x3 y0 y1 y2 y3 q_ps n_ps st_ps F_ps
    split at hd
    · rename_i hst
      simp only [Bool.and_eq_true] at hst
      obtain ⟨g1, g2⟩ := hst
      have g1 := Nat.eq_of_beq_eq_true g1
      have g2 := Nat.eq_of_beq_eq_true g2
      subst g1 g2
      simp only [Option.some.injEq, Prod.mk.injEq] at hd
      obtain ⟨rfl, rfl⟩ := hd
      obtain ⟨hI_l, hI_ps, hp⟩ := hp
      have heq : agsEqv [.c (.sl q_l n_l 7 F_l), .agg [.int .i64 sv, .int .i64 l0, .int .i64 h0, .int .i64 l1, .int .i64 h1, .int .i64 l2, .int .i64 h2, .int .i64 l3, .int .i64 h3], .agg [.int .i64 den, .int .i64 each, .int .i64 x0, .int .i64 x1, .int .i64 x2, .int .i64 x3, .int .i64 y0, .int .i64 y1, .int .i64 y2, .int .i64 y3, .sl q_ps n_ps 1 F_ps]] [.c (.sl q_l (eC.list n_l F_l).length 7 (eC.F (eC.list n_l F_l))), .agg [.int .i64 sv, .int .i64 l0, .int .i64 h0, .int .i64 l1, .int .i64 h1, .int .i64 l2, .int .i64 h2, .int .i64 l3, .int .i64 h3], .agg [.int .i64 den, .int .i64 each, .int .i64 x0, .int .i64 x1, .int .i64 x2, .int .i64 x3, .int .i64 y0, .int .i64 y1, .int .i64 y2, .int .i64 y3, .sl q_ps (eI.list n_ps F_ps).length 1 (eI.F (eI.list n_ps F_ps))]] := ⟨eC.to id hI_l, Ag.eqv_refl _, ⟨rfl, rfl, rfl, rfl, rfl, rfl, rfl, rfl, rfl, rfl, eI.to id hI_ps, trivial⟩, trivial⟩
      have len_l : (eC.list n_l F_l).length = n_l := eC.list_len
      have len_ps : (eI.list n_ps F_ps).length = n_ps := eI.list_len
      generalize eC.list n_l F_l = l at *
      generalize eI.list n_ps F_ps = ps at *
      subst len_l len_ps
      exact fokX_fin mixed gw_stable (sl := []) trivial Try.func111 hw hl hG hx heq rfl (t111 q_l l sv l0 h0 l1 h1 l2 h2 l3 h3 den each x0 x1 x2 x3 y0 y1 y2 y3 q_ps ps) (w111 l sv l0 h0 l1 h1 l2 h2 l3 h3 den each x0 x1 x2 x3 y0 y1 y2 y3 ps hp.1 hp.2.1)
    · cases hd
  · cases hd
theorem S111 : SumOK Try.prog G0 gw 111 (fokSm dom111) := fok_sum Try.func111 rfl C111
end Go.Bl
end

section
set_option linter.unusedVariables false
set_option linter.unusedSimpArgs false
set_option maxRecDepth 100000
namespace Go.Bl
open Go.V Go.Proofs
namespace M
def proves (l : List Cask) (s : Sample) (w : Wts) : Int × Int × Int := cond (openW l s w != 0) (0, 0, openW l s w) (cond ((List.range l.length).any fun i => decide (giveR l s w i > IntKind.i64.wrap (w.den * (l.getD i dfC).cost))) (0, 0, 20) (told1 (boundR l s w) w.den, told2 (boundR l s w) w.den, 0))
def fails (l : List Cask) (s : Sample) (w : Wts) : Int := cond (openW l s w != 0) (openW l s w) (cond ((List.range l.length).any fun i => decide (giveR l s w i > 0)) 20 (unl (decide (boundR l s w > 0)) 20))
end M
structure RightW (l : List Cask) (s : Sample) (w : Wts) : Prop where
  rl : RightL l s
  den : 1 ≤ w.den ∧ w.den ≤ 200000000000
  each : w.each.natAbs ≤ 100000000000000
  len : w.casks.length = l.length
  all : Each (fun b => 0 ≤ b ∧ b ≤ 100000000000000) w
theorem allB_all {is : Int → Bool} : ∀ {l : List Int}, M.allB is l = true → ∀ x, x ∈ l → is x = true
  | [], _, x, hx => by cases hx
  | n :: l, h, x, hx => by
    unfold M.allB at h
    cases hn : is n
    · rw [hn] at h; cases h
    · rw [hn] at h
      rcases List.mem_cons.1 hx with rfl | hx
      · exact hn
      · exact allB_all h x hx
theorem openW_right {l : List Cask} {s : Sample} {w : Wts} (h : M.openW l s w = 0) : RightW l s w := by
  unfold M.openW at h
  have hz := first_nil _ h
  have h1 := hz (M.casksErr l) (by simp)
  have h2 := hz (M.checkSample s) (by simp)
  have h3 := unl_zero (by decide) (hz (M.unl (M.wHead w) 2) (by simp))
  have h4 := unl_zero (by decide) (hz (M.unl ((w.casks.length : Int) == (l.length : Int)) 10) (by simp))
  have h5 := unl_zero (by decide) (hz (M.unl (M.wOk w) 2) (by simp))
  have ht : M.taskErr l s = 0 := by unfold M.taskErr; rw [h1, h2]; rfl
  unfold M.wHead at h3
  rw [Bool.and_eq_true] at h3
  have hd := within_spec h3.1
  have he := within_spec h3.2
  unfold M.wOk at h5
  rw [Bool.and_eq_true, Bool.and_eq_true] at h5
  have ok : ∀ {L : List Int}, M.allB M.isWeight L = true → ∀ x, x ∈ L → 0 ≤ x ∧ x ≤ 100000000000000 := fun hL x hx => within_spec (allB_all hL x hx)
  refine ⟨task_right ht, hd, by omega, by have := eq_of_beq h4; omega, fun i => ?_, ?_, ?_⟩
  · by_cases hi : i < w.casks.length
    · exact ok h5.2 _ (getD_mem hi)
    · rw [en_out (by omega)]; decide
  · exact ⟨ok h5.1.1 _ (by simp), ok h5.1.1 _ (by simp), ok h5.1.1 _ (by simp), ok h5.1.1 _ (by simp)⟩
  · exact ⟨ok h5.1.2 _ (by simp), ok h5.1.2 _ (by simp), ok h5.1.2 _ (by simp), ok h5.1.2 _ (by simp)⟩
theorem giveK_eq {x y v lo hi g : Int} {G : Nat} (hx : 0 ≤ x ∧ x ≤ 100000000000000) (hy : 0 ≤ y ∧ y ≤ 100000000000000) (hv : 0 ≤ v ∧ v ≤ 1000) (hl : 0 ≤ lo ∧ lo ≤ 1000) (hh : 0 ≤ hi ∧ hi ≤ 1000) (hg : g.natAbs ≤ G) (hG : G ≤ 8000000000000000000) :
    M.giveK x y v lo hi g = g - x * (v - hi) - y * (lo - v) ∧ (M.giveK x y v lo hi g).natAbs ≤ G + 200000000000000000 := by
  have b1 : (x * (v - hi)).natAbs ≤ 100000000000000 * 1000 := by rw [Int.natAbs_mul]; exact Nat.mul_le_mul (by omega) (by omega)
  have b2 : (y * (lo - v)).natAbs ≤ 100000000000000 * 1000 := by rw [Int.natAbs_mul]; exact Nat.mul_le_mul (by omega) (by omega)
  have e : M.giveK x y v lo hi g = g - x * (v - hi) - y * (lo - v) := by
    unfold M.giveK
    rw [wrap_id (n := v - hi) (by omega) (by omega), wrap_id (n := lo - v) (by omega) (by omega), wrap_id (n := x * (v - hi)) (by omega) (by omega), wrap_id (n := y * (lo - v)) (by omega) (by omega), wrap_id (n := g - x * (v - hi)) (by omega) (by omega), wrap_id (by omega) (by omega)]
  refine ⟨e, ?_⟩
  rw [e]; omega
theorem fold_sub {y : Nat → Int} {z : Int} (hz : z.natAbs ≤ 1000000000000000000) : ∀ {n : Nat}, n ≤ 4 → (∀ i, i < n → (y i).natAbs ≤ 1000000000000000000) → (List.range n).foldl (fun a i => IntKind.i64.wrap (a - IntKind.i64.wrap (y i))) (IntKind.i64.wrap z) = z - dot y n ∧ (dot y n).natAbs ≤ n * 1000000000000000000
  | 0, _, _ => ⟨by show IntKind.i64.wrap z = z - 0; rw [wrap_id (by omega) (by omega)]; omega, by show (0 : Int).natAbs ≤ _; simp⟩
  | n + 1, hn, hy => by
    obtain ⟨h1, h2⟩ := fold_sub hz (n := n) (by omega) (fun i hi => hy i (by omega))
    have hb := hy n (by omega)
    have e : dot y (n + 1) = dot y n + y n := rfl
    rw [foldl_succ, h1, wrap_id (n := y n) (by omega) (by omega), wrap_id (by omega) (by omega), e]
    constructor <;> omega
section
variable {l : List Cask} {s : Sample} {w : Wts}
theorem giveR_eq (h : RightW l s w) {i : Nat} (hi : i < l.length) : M.giveR l s w i = gift l s w i := by
  obtain ⟨hc, ⟨x0, x1, x2, x3⟩, y0, y1, y2, y3⟩ := h.all
  have hr := h.rl.rc i hi
  have hcs : 0 ≤ w.casks.getD i 0 ∧ w.casks.getD i 0 ≤ 100000000000000 := hc i
  have he := h.each
  have l0 : 0 ≤ s.r0.lo ∧ s.r0.lo ≤ 1000 := h.rl.lo 0 (by decide)
  have h0 : 0 ≤ s.r0.hi ∧ s.r0.hi ≤ 1000 := h.rl.hi 0 (by decide)
  have l1 : 0 ≤ s.r1.lo ∧ s.r1.lo ≤ 1000 := h.rl.lo 1 (by decide)
  have h1 : 0 ≤ s.r1.hi ∧ s.r1.hi ≤ 1000 := h.rl.hi 1 (by decide)
  have l2 : 0 ≤ s.r2.lo ∧ s.r2.lo ≤ 1000 := h.rl.lo 2 (by decide)
  have h2 : 0 ≤ s.r2.hi ∧ s.r2.hi ≤ 1000 := h.rl.hi 2 (by decide)
  have l3 : 0 ≤ s.r3.lo ∧ s.r3.lo ≤ 1000 := h.rl.lo 3 (by decide)
  have h3 : 0 ≤ s.r3.hi ∧ s.r3.hi ≤ 1000 := h.rl.hi 3 (by decide)
  have e0 : IntKind.i64.wrap (w.each - w.casks.getD i 0) = w.each - w.casks.getD i 0 := wrap_id (by omega) (by omega)
  have g0 := giveK_eq (g := w.each - w.casks.getD i 0) (G := 200000000000000) x0 y0 hr.k0 l0 h0 (by omega) (by decide)
  have g1 := giveK_eq (G := 200000000000000 + 200000000000000000) x1 y1 hr.k1 l1 h1 g0.2 (by decide)
  have g2 := giveK_eq (G := 200000000000000 + 200000000000000000 + 200000000000000000) x2 y2 hr.k2 l2 h2 g1.2 (by decide)
  have g3 := giveK_eq (G := 200000000000000 + 200000000000000000 + 200000000000000000 + 200000000000000000) x3 y3 hr.k3 l3 h3 g2.2 (by decide)
  unfold M.giveR
  rw [e0, g3.1, g2.1, g1.1, g0.1, gift_eq w hi]
  unfold hiF loF
  show _ = w.each - w.casks.getD i 0 - (w.x0 * ((l.getD i dfC).k0 - s.r0.hi) + w.x1 * ((l.getD i dfC).k1 - s.r1.hi) + w.x2 * ((l.getD i dfC).k2 - s.r2.hi) + w.x3 * ((l.getD i dfC).k3 - s.r3.hi)) - (w.y0 * (s.r0.lo - (l.getD i dfC).k0) + w.y1 * (s.r1.lo - (l.getD i dfC).k1) + w.y2 * (s.r2.lo - (l.getD i dfC).k2) + w.y3 * (s.r3.lo - (l.getD i dfC).k3))
  omega
theorem boundR_eq (h : RightW l s w) : M.boundR l s w = bound l s w ∧ (bound l s w).natAbs ≤ 5000000000000000000 := by
  have hv := h.rl.v
  have he := h.each
  have hz : (w.each * s.vol).natAbs ≤ 1000000000000000000 := by
    rw [Int.natAbs_mul]; exact Nat.le_trans (Nat.mul_le_mul he (show s.vol.natAbs ≤ 10000 by omega)) (by decide)
  have hy : ∀ i, i < l.length → (w.casks.getD i 0 * (l.getD i dfC).vol).natAbs ≤ 1000000000000000000 := by
    intro i hi
    have h1 : 0 ≤ w.casks.getD i 0 ∧ w.casks.getD i 0 ≤ 100000000000000 := h.all.1 i
    have h2 := (h.rl.rc i hi).vol
    rw [Int.natAbs_mul]
    exact Nat.le_trans (Nat.mul_le_mul (show (w.casks.getD i 0).natAbs ≤ 100000000000000 by omega) (show ((l.getD i dfC).vol).natAbs ≤ 10000 by omega)) (by decide)
  obtain ⟨f1, f2⟩ := fold_sub (y := fun i => w.casks.getD i 0 * (l.getD i dfC).vol) hz h.rl.n4 hy
  have e : bound l s w = w.each * s.vol - dot (fun i => w.casks.getD i 0 * (l.getD i dfC).vol) l.length := by
    rw [bound_eq, smI_dot]; rfl
  have := h.rl.n4
  refine ⟨by rw [e]; exact f1, ?_⟩
  rw [e]; omega
end
theorem any_yes {n k : Nat} {p : Nat → Bool} (hk : k < n) (h : p k = true) : (List.range n).any p = true := List.any_eq_true.2 ⟨k, List.mem_range.2 hk, h⟩
theorem any_no {n : Nat} {p : Nat → Bool} (h : ∀ k, k < n → p k = false) : (List.range n).any p = false := by
  rw [Bool.eq_false_iff]
  intro e
  obtain ⟨k, hk, hp⟩ := List.any_eq_true.1 e
  rw [h k (List.mem_range.1 hk)] at hp; cases hp
theorem giveB (g x y v lo hi : Int) : IntKind.i64.wrap (g - IntKind.i64.wrap (IntKind.i64.wrap (x * IntKind.i64.wrap (v - hi)) + IntKind.i64.wrap (y * IntKind.i64.wrap (lo - v)))) = M.giveK x y v lo hi g := by
  unfold M.giveK
  generalize x * IntKind.i64.wrap (v - hi) = p
  generalize y * IntKind.i64.wrap (lo - v) = q
  simp only [IntKind.wrap_i64]; omega
section
variable {l : List Cask} {s : Sample} {w : Wts}
theorem proves_err (h : (M.openW l s w != 0) = true) : M.proves l s w = (0, 0, M.openW l s w) := by unfold M.proves; rw [h]; rfl
theorem proves_hit (h : (M.openW l s w != 0) = false) {k : Nat} (hk : k < l.length) (hg : decide (M.giveR l s w k > IntKind.i64.wrap (w.den * (l.getD k dfC).cost)) = true) : M.proves l s w = (0, 0, 20) := by
  unfold M.proves; rw [h, any_yes (p := fun i => decide (M.giveR l s w i > IntKind.i64.wrap (w.den * (l.getD i dfC).cost))) hk hg]; rfl
theorem proves_ok (h : (M.openW l s w != 0) = false) (hg : ∀ k, k < l.length → decide (M.giveR l s w k > IntKind.i64.wrap (w.den * (l.getD k dfC).cost)) = false) : M.proves l s w = (M.told1 (M.boundR l s w) w.den, M.told2 (M.boundR l s w) w.den, 0) := by
  unfold M.proves; rw [h, any_no hg]; rfl
theorem fails_err (h : (M.openW l s w != 0) = true) : M.fails l s w = M.openW l s w := by unfold M.fails; rw [h]; rfl
theorem fails_hit (h : (M.openW l s w != 0) = false) {k : Nat} (hk : k < l.length) (hg : decide (M.giveR l s w k > 0) = true) : M.fails l s w = 20 := by
  unfold M.fails; rw [h, any_yes (p := fun i => decide (M.giveR l s w i > 0)) hk hg]; rfl
theorem fails_ok (h : (M.openW l s w != 0) = false) (hg : ∀ k, k < l.length → decide (M.giveR l s w k > 0) = false) : M.fails l s w = M.unl (decide (M.boundR l s w > 0)) 20 := by
  unfold M.fails; rw [h, any_no hg]; rfl
end
def wP (w : Wts) : Wts := ⟨w.den, w.each, w.x0, w.x1, w.x2, w.x3, w.y0, w.y1, w.y2, w.y3, Enc.list eI (List.length w.casks) (Enc.F eI w.casks)⟩
theorem wP_eq (w : Wts) : wP w = w := by unfold wP; rw [Enc.list_F]
def tr55 (l : List Cask) (s : Sample) (w : Wts) : T (List Ar) :=
    T.need (Enc.Is eC (List.length l) (Enc.F eC l)) (T.need (Enc.Is eI (List.length w.casks) (Enc.F eI w.casks)) (T.need (∀ (c : Cask), c ∈ Enc.list eC (List.length l) (Enc.F eC l) → ByteArray.size (Cask.nm c) ≤ (1000000 : Nat)) (T.need (List.length (Enc.list eI (List.length w.casks) (Enc.F eI w.casks)) ≤ (1000000 : Nat)) (T.br (M.openW (Enc.list eC (List.length l) (Enc.F eC l)) s (wP w) != (0 : Int)) (T.ret [Ar.agg [D.int IntKind.i64 (0 : Int), D.int IntKind.i64 (0 : Int)], Ar.c (D.int IntKind.i64 (M.openW (Enc.list eC (List.length l) (Enc.F eC l)) s (wP w)))]) (T.loop (Int × Int × Int × Int × PUnit) ((0 : Int), (0 : Int), (0 : Int), (0 : Int), PUnit.unit) fun (x : Int × Int × Int × Int × PUnit) => T.br (decide (x.1 < (Nat.cast (R := Int) l.length))) (T.need ((0 : Int) ≤ x.1) (T.need (x.1 < (Nat.cast (R := Int) l.length)) (T.need ((0 : Int) ≤ x.1) (T.need (x.1 < (Nat.cast (R := Int) (List.length w.casks))) (T.need ((0 : Int) ≤ x.1) (T.need (x.1 < (Nat.cast (R := Int) l.length)) (T.br (decide (IntKind.i64.wrap (IntKind.i64.wrap (IntKind.i64.wrap (IntKind.i64.wrap (IntKind.i64.wrap (w.each - List.getD w.casks (Int.toNat (x.1)) (0 : Int)) - IntKind.i64.wrap (IntKind.i64.wrap (w.x0 * IntKind.i64.wrap ((List.getD l (Int.toNat (x.1)) (Enc.dflt eC)).4 - s.r0.hi)) + IntKind.i64.wrap (w.y0 * IntKind.i64.wrap (s.r0.lo - (List.getD l (Int.toNat (x.1)) (Enc.dflt eC)).4)))) - IntKind.i64.wrap (IntKind.i64.wrap (w.x1 * IntKind.i64.wrap ((List.getD l (Int.toNat (x.1)) (Enc.dflt eC)).5 - s.r1.hi)) + IntKind.i64.wrap (w.y1 * IntKind.i64.wrap (s.r1.lo - (List.getD l (Int.toNat (x.1)) (Enc.dflt eC)).5)))) - IntKind.i64.wrap (IntKind.i64.wrap (w.x2 * IntKind.i64.wrap ((List.getD l (Int.toNat (x.1)) (Enc.dflt eC)).6 - s.r2.hi)) + IntKind.i64.wrap (w.y2 * IntKind.i64.wrap (s.r2.lo - (List.getD l (Int.toNat (x.1)) (Enc.dflt eC)).6)))) - IntKind.i64.wrap (IntKind.i64.wrap (w.x3 * IntKind.i64.wrap ((List.getD l (Int.toNat (x.1)) (Enc.dflt eC)).7 - s.r3.hi)) + IntKind.i64.wrap (w.y3 * IntKind.i64.wrap (s.r3.lo - (List.getD l (Int.toNat (x.1)) (Enc.dflt eC)).7)))) > IntKind.i64.wrap (w.den * (List.getD l (Int.toNat (x.1)) (Enc.dflt eC)).3))) (T.ret (Sum.inr [Ar.agg [D.int IntKind.i64 (0 : Int), D.int IntKind.i64 (0 : Int)], Ar.c (D.int IntKind.i64 (20 : Int))])) (T.ret (Sum.inl (IntKind.i64.wrap (x.1 + (1 : Int)), x.2.1, x.2.2.1, x.2.2.2.1, PUnit.unit)))))))))) (T.need (Enc.Is eC (List.length l) (Enc.F eC l)) (T.need (Enc.Is eI (List.length w.casks) (Enc.F eI w.casks)) (T.need (List.length (Enc.list eC (List.length l) (Enc.F eC l)) ≤ List.length (Enc.list eI (List.length w.casks) (Enc.F eI w.casks))) (T.need (List.length (Enc.list eC (List.length l) (Enc.F eC l)) ≤ (1000000 : Nat)) (T.need (w.den ≠ (0 : Int)) (T.need (Int.natAbs (M.boundR (Enc.list eC (List.length l) (Enc.F eC l)) s (wP w)) < (9223372036854775808 : Nat)) (T.need (Int.natAbs w.den < (9223372036854775808 : Nat)) (T.ret (Sum.inr [Ar.agg [D.int IntKind.i64 (M.told1 (M.boundR (Enc.list eC (List.length l) (Enc.F eC l)) s (wP w)) w.den), D.int IntKind.i64 (M.told2 (M.boundR (Enc.list eC (List.length l) (Enc.F eC l)) s (wP w)) w.den)], Ar.c (D.int IntKind.i64 (0 : Int))]))))))))))))))
theorem t55 (q_l : Bool) (l : List Cask) (sv l0 h0 l1 h1 l2 h2 l3 h3 : Int) (den : Int) (each : Int) (x0 : Int) (x1 : Int) (x2 : Int) (x3 : Int) (y0 : Int) (y1 : Int) (y2 : Int) (y3 : Int) (q_ps : Bool) (ps : List Int) : runFnX Try.prog G0 (lookS [v109, v111, v83]) (fun f => match Nat.beq f 131 with | true => [(1, [.slot 12 (.int .i64), .blk 1000003 [.int .i64, .int .i64], .blk 1000004 [.int .i64]], none), (1000028, [], none), (3000027, [], none)] | _ => []) [110, 131] 1 40 5 55 Try.f55 [.c (.sl q_l l.length 7 (eC.F l)), .agg [dI sv, dI l0, dI h0, dI l1, dI h1, dI l2, dI h2, dI l3, dI h3], .agg [dI den, dI each, dI x0, dI x1, dI x2, dI x3, dI y0, dI y1, dI y2, dI y3, .sl q_ps ps.length 1 (eI.F ps)]] =
    tr55 l (⟨sv, ⟨l0, h0⟩, ⟨l1, h1⟩, ⟨l2, h2⟩, ⟨l3, h3⟩⟩ : Sample) (⟨den, each, x0, x1, x2, x3, y0, y1, y2, y3, ps⟩ : Wts) := by kernel_rfl
def tr57 (l : List Cask) (s : Sample) (w : Wts) : T (List Ar) :=
    T.need (Enc.Is eC (List.length l) (Enc.F eC l)) (T.need (Enc.Is eI (List.length w.casks) (Enc.F eI w.casks)) (T.need (∀ (c : Cask), c ∈ Enc.list eC (List.length l) (Enc.F eC l) → ByteArray.size (Cask.nm c) ≤ (1000000 : Nat)) (T.need (List.length (Enc.list eI (List.length w.casks) (Enc.F eI w.casks)) ≤ (1000000 : Nat)) (T.br (M.openW (Enc.list eC (List.length l) (Enc.F eC l)) s (wP w) != (0 : Int)) (T.ret [Ar.c (D.int IntKind.i64 (M.openW (Enc.list eC (List.length l) (Enc.F eC l)) s (wP w)))]) (T.loop (Int × Int × PUnit) ((0 : Int), (0 : Int), PUnit.unit) fun (x : Int × Int × PUnit) => T.br (decide (x.1 < (Nat.cast (R := Int) l.length))) (T.need ((0 : Int) ≤ x.1) (T.need (x.1 < (Nat.cast (R := Int) l.length)) (T.need ((0 : Int) ≤ x.1) (T.need (x.1 < (Nat.cast (R := Int) (List.length w.casks))) (T.br (decide (IntKind.i64.wrap (IntKind.i64.wrap (IntKind.i64.wrap (IntKind.i64.wrap (IntKind.i64.wrap (w.each - List.getD w.casks (Int.toNat (x.1)) (0 : Int)) - IntKind.i64.wrap (IntKind.i64.wrap (w.x0 * IntKind.i64.wrap ((List.getD l (Int.toNat (x.1)) (Enc.dflt eC)).4 - s.r0.hi)) + IntKind.i64.wrap (w.y0 * IntKind.i64.wrap (s.r0.lo - (List.getD l (Int.toNat (x.1)) (Enc.dflt eC)).4)))) - IntKind.i64.wrap (IntKind.i64.wrap (w.x1 * IntKind.i64.wrap ((List.getD l (Int.toNat (x.1)) (Enc.dflt eC)).5 - s.r1.hi)) + IntKind.i64.wrap (w.y1 * IntKind.i64.wrap (s.r1.lo - (List.getD l (Int.toNat (x.1)) (Enc.dflt eC)).5)))) - IntKind.i64.wrap (IntKind.i64.wrap (w.x2 * IntKind.i64.wrap ((List.getD l (Int.toNat (x.1)) (Enc.dflt eC)).6 - s.r2.hi)) + IntKind.i64.wrap (w.y2 * IntKind.i64.wrap (s.r2.lo - (List.getD l (Int.toNat (x.1)) (Enc.dflt eC)).6)))) - IntKind.i64.wrap (IntKind.i64.wrap (w.x3 * IntKind.i64.wrap ((List.getD l (Int.toNat (x.1)) (Enc.dflt eC)).7 - s.r3.hi)) + IntKind.i64.wrap (w.y3 * IntKind.i64.wrap (s.r3.lo - (List.getD l (Int.toNat (x.1)) (Enc.dflt eC)).7)))) > (0 : Int))) (T.ret (Sum.inr [Ar.c (D.int IntKind.i64 (20 : Int))])) (T.ret (Sum.inl (IntKind.i64.wrap (x.1 + (1 : Int)), x.2.1, PUnit.unit)))))))) (T.need (Enc.Is eC (List.length l) (Enc.F eC l)) (T.need (Enc.Is eI (List.length w.casks) (Enc.F eI w.casks)) (T.need (List.length (Enc.list eC (List.length l) (Enc.F eC l)) ≤ List.length (Enc.list eI (List.length w.casks) (Enc.F eI w.casks))) (T.need (List.length (Enc.list eC (List.length l) (Enc.F eC l)) ≤ (1000000 : Nat)) (T.ret (Sum.inr [Ar.c (D.int IntKind.i64 (M.unl (decide (M.boundR (Enc.list eC (List.length l) (Enc.F eC l)) s (wP w) > (0 : Int))) (20 : Int)))])))))))))))
theorem t57 (q_l : Bool) (l : List Cask) (sv l0 h0 l1 h1 l2 h2 l3 h3 : Int) (den : Int) (each : Int) (x0 : Int) (x1 : Int) (x2 : Int) (x3 : Int) (y0 : Int) (y1 : Int) (y2 : Int) (y3 : Int) (q_ps : Bool) (ps : List Int) : runFnX Try.prog G0 (lookS [v109, v111, v80]) (fun f => match Nat.beq f 131 with | true => [(1, [.slot 12 (.int .i64), .blk 1000002 [.int .i64]], none), (1000028, [], none), (3000027, [], none)] | _ => []) [110, 131] 1 40 5 57 Try.f57 [.c (.sl q_l l.length 7 (eC.F l)), .agg [dI sv, dI l0, dI h0, dI l1, dI h1, dI l2, dI h2, dI l3, dI h3], .agg [dI den, dI each, dI x0, dI x1, dI x2, dI x3, dI y0, dI y1, dI y2, dI y3, .sl q_ps ps.length 1 (eI.F ps)]] =
    tr57 l (⟨sv, ⟨l0, h0⟩, ⟨l1, h1⟩, ⟨l2, h2⟩, ⟨l3, h3⟩⟩ : Sample) (⟨den, each, x0, x1, x2, x3, y0, y1, y2, y3, ps⟩ : Wts) := by kernel_rfl
theorem w55 (l : List Cask) (s : Sample) (w : Wts) (hn : ∀ c, c ∈ l → c.nm.size ≤ 1000000) (hp : w.casks.length ≤ 1000000) (hl : l.length ≤ 1000000) : (tr55 l s w).wp (fun rs => rsEqv rs (resT (M.proves l s w))) := by
  unfold tr55
  simp only [Enc.list_F, wP_eq, giveB]
  refine ⟨Enc.is_F _ _ _, Enc.is_F _ _ _, hn, hp, wp_br (fun hb => ?_) (fun hb => ?_)⟩
  · rw [proves_err hb]; exact rsEqv_refl _
  have ho : M.openW l s w = 0 := by simpa using hb
  have hr := openW_right ho
  have hlen := hr.len
  refine range_wp (n := l.length) (fun k _ => ∀ j, j < k → decide (M.giveR l s w j > IntKind.i64.wrap (w.den * (l.getD j dfC).cost)) = false) (fun j hj => absurd hj (Nat.not_lt_zero _)) ?_
  rintro k u hk hI
  refine ⟨fun hc => ?_, fun hc => ?_⟩
  · have hlt := lt_of_dec hc
    refine ⟨by show (0 : Int) ≤ k; omega, by show (k : Int) < l.length; omega, by show (0 : Int) ≤ k; omega, by show (k : Int) < w.casks.length; omega, by show (0 : Int) ≤ k; omega, by show (k : Int) < l.length; omega, fun hd => ?_, fun hd => ?_⟩
    · rw [proves_hit hb hlt hd]; exact rsEqv_refl _
    · refine ⟨hlt, wrap_succ (by omega), fun j hj => ?_⟩
      by_cases e : j = k
      · subst e; exact hd
      · exact hI j (by omega)
  · have hge := ge_of_dec hc
    have hb2 := boundR_eq hr
    have hd := hr.den
    rw [proves_ok hb (fun j hj => hI j (by omega))]
    exact ⟨Enc.is_F _ _ _, Enc.is_F _ _ _, by omega, hl, by omega, by rw [hb2.1]; omega, by omega, rsEqv_refl _⟩
theorem w57 (l : List Cask) (s : Sample) (w : Wts) (hn : ∀ c, c ∈ l → c.nm.size ≤ 1000000) (hp : w.casks.length ≤ 1000000) (hl : l.length ≤ 1000000) : (tr57 l s w).wp (fun rs => rsEqv rs [rI (M.fails l s w)]) := by
  unfold tr57
  simp only [Enc.list_F, wP_eq, giveB]
  refine ⟨Enc.is_F _ _ _, Enc.is_F _ _ _, hn, hp, wp_br (fun hb => ?_) (fun hb => ?_)⟩
  · rw [fails_err hb]; exact rsEqv_refl _
  have ho : M.openW l s w = 0 := by simpa using hb
  have hr := openW_right ho
  have hlen := hr.len
  refine range_wp (n := l.length) (fun k _ => ∀ j, j < k → decide (M.giveR l s w j > 0) = false) (fun j hj => absurd hj (Nat.not_lt_zero _)) ?_
  rintro k u hk hI
  refine ⟨fun hc => ?_, fun hc => ?_⟩
  · have hlt := lt_of_dec hc
    refine ⟨by show (0 : Int) ≤ k; omega, by show (k : Int) < l.length; omega, by show (0 : Int) ≤ k; omega, by show (k : Int) < w.casks.length; omega, fun hd => ?_, fun hd => ?_⟩
    · rw [fails_hit hb hlt hd]; exact rsEqv_refl _
    · refine ⟨hlt, wrap_succ (by omega), fun j hj => ?_⟩
      by_cases e : j = k
      · subst e; exact hd
      · exact hI j (by omega)
  · have hge := ge_of_dec hc
    rw [fails_ok hb (fun j hj => hI j (by omega))]
    exact ⟨Enc.is_F _ _ _, Enc.is_F _ _ _, by omega, hl, rsEqv_refl _⟩
def dom55 : DomF
  | [.c (.sl _ n_l st_l F_l), .agg [.int .i64 sv, .int .i64 l0, .int .i64 h0, .int .i64 l1, .int .i64 h1, .int .i64 l2, .int .i64 h2, .int .i64 l3, .int .i64 h3], .agg [.int .i64 den, .int .i64 each, .int .i64 x0, .int .i64 x1, .int .i64 x2, .int .i64 x3, .int .i64 y0, .int .i64 y1, .int .i64 y2, .int .i64 y3, .sl _ n_ps st_ps F_ps]] => (match Nat.beq st_l 7 && Nat.beq st_ps 1 with
    | true => some ([eC.Is n_l F_l, eI.Is n_ps F_ps, ∀ c, c ∈ (eC.list n_l F_l) → c.nm.size ≤ 1000000, (eI.list n_ps F_ps).length ≤ 1000000, (eC.list n_l F_l).length ≤ 1000000], resT (M.proves (eC.list n_l F_l) (⟨sv, ⟨l0, h0⟩, ⟨l1, h1⟩, ⟨l2, h2⟩, ⟨l3, h3⟩⟩ : Sample) (⟨den, each, x0, x1, x2, x3, y0, y1, y2, y3, (eI.list n_ps F_ps)⟩ : Wts)))
    | _ => none)
  | _ => none
def v55 : Nat × Sm := (55, fokSm dom55)
theorem C55 : FOK Try.prog G0 gw 55 dom55 := by
  intro ags p r hd hp κ w xs hw hl hG hx
  unfold dom55 at hd
  split at hd
  · rename_i q_l n_l st_l F_l sv l0 h0 l1 h1 l2 h2 l3 h3 den each x0 x1 x2 x3 y0 y1 y2 y3 q_ps n_ps st_ps F_ps
    split at hd
    · rename_i hst
      simp only [Bool.and_eq_true] at hst
      obtain ⟨g1, g2⟩ := hst
      have g1 := Nat.eq_of_beq_eq_true g1
      have g2 := Nat.eq_of_beq_eq_true g2
      subst g1 g2
      simp only [Option.some.injEq, Prod.mk.injEq] at hd
      obtain ⟨rfl, rfl⟩ := hd
      obtain ⟨hI_l, hI_ps, hp⟩ := hp
      have heq : agsEqv [.c (.sl q_l n_l 7 F_l), .agg [.int .i64 sv, .int .i64 l0, .int .i64 h0, .int .i64 l1, .int .i64 h1, .int .i64 l2, .int .i64 h2, .int .i64 l3, .int .i64 h3], .agg [.int .i64 den, .int .i64 each, .int .i64 x0, .int .i64 x1, .int .i64 x2, .int .i64 x3, .int .i64 y0, .int .i64 y1, .int .i64 y2, .int .i64 y3, .sl q_ps n_ps 1 F_ps]] [.c (.sl q_l (eC.list n_l F_l).length 7 (eC.F (eC.list n_l F_l))), .agg [.int .i64 sv, .int .i64 l0, .int .i64 h0, .int .i64 l1, .int .i64 h1, .int .i64 l2, .int .i64 h2, .int .i64 l3, .int .i64 h3], .agg [.int .i64 den, .int .i64 each, .int .i64 x0, .int .i64 x1, .int .i64 x2, .int .i64 x3, .int .i64 y0, .int .i64 y1, .int .i64 y2, .int .i64 y3, .sl q_ps (eI.list n_ps F_ps).length 1 (eI.F (eI.list n_ps F_ps))]] := ⟨eC.to id hI_l, Ag.eqv_refl _, ⟨rfl, rfl, rfl, rfl, rfl, rfl, rfl, rfl, rfl, rfl, eI.to id hI_ps, trivial⟩, trivial⟩
      have len_l : (eC.list n_l F_l).length = n_l := eC.list_len
      have len_ps : (eI.list n_ps F_ps).length = n_ps := eI.list_len
      generalize eC.list n_l F_l = l at *
      generalize eI.list n_ps F_ps = ps at *
      subst len_l len_ps
      exact fokX_fin mixed gw_stable (sl := [v109, v111, v83]) ⟨S109, S111, S83, trivial⟩ Try.func55 hw hl hG hx heq rfl (t55 q_l l sv l0 h0 l1 h1 l2 h2 l3 h3 den each x0 x1 x2 x3 y0 y1 y2 y3 q_ps ps) (w55 l _ _ hp.1 hp.2.1 hp.2.2.1)
    · cases hd
  · cases hd
theorem S55 : SumOK Try.prog G0 gw 55 (fokSm dom55) := fok_sum Try.func55 rfl C55
def dom57 : DomF
  | [.c (.sl _ n_l st_l F_l), .agg [.int .i64 sv, .int .i64 l0, .int .i64 h0, .int .i64 l1, .int .i64 h1, .int .i64 l2, .int .i64 h2, .int .i64 l3, .int .i64 h3], .agg [.int .i64 den, .int .i64 each, .int .i64 x0, .int .i64 x1, .int .i64 x2, .int .i64 x3, .int .i64 y0, .int .i64 y1, .int .i64 y2, .int .i64 y3, .sl _ n_ps st_ps F_ps]] => (match Nat.beq st_l 7 && Nat.beq st_ps 1 with
    | true => some ([eC.Is n_l F_l, eI.Is n_ps F_ps, ∀ c, c ∈ (eC.list n_l F_l) → c.nm.size ≤ 1000000, (eI.list n_ps F_ps).length ≤ 1000000, (eC.list n_l F_l).length ≤ 1000000], [rI (M.fails (eC.list n_l F_l) (⟨sv, ⟨l0, h0⟩, ⟨l1, h1⟩, ⟨l2, h2⟩, ⟨l3, h3⟩⟩ : Sample) (⟨den, each, x0, x1, x2, x3, y0, y1, y2, y3, (eI.list n_ps F_ps)⟩ : Wts))])
    | _ => none)
  | _ => none
def v57 : Nat × Sm := (57, fokSm dom57)
theorem C57 : FOK Try.prog G0 gw 57 dom57 := by
  intro ags p r hd hp κ w xs hw hl hG hx
  unfold dom57 at hd
  split at hd
  · rename_i q_l n_l st_l F_l sv l0 h0 l1 h1 l2 h2 l3 h3 den each x0 x1 x2 x3 y0 y1 y2 y3 q_ps n_ps st_ps F_ps
    split at hd
    · rename_i hst
      simp only [Bool.and_eq_true] at hst
      obtain ⟨g1, g2⟩ := hst
      have g1 := Nat.eq_of_beq_eq_true g1
      have g2 := Nat.eq_of_beq_eq_true g2
      subst g1 g2
      simp only [Option.some.injEq, Prod.mk.injEq] at hd
      obtain ⟨rfl, rfl⟩ := hd
      obtain ⟨hI_l, hI_ps, hp⟩ := hp
      have heq : agsEqv [.c (.sl q_l n_l 7 F_l), .agg [.int .i64 sv, .int .i64 l0, .int .i64 h0, .int .i64 l1, .int .i64 h1, .int .i64 l2, .int .i64 h2, .int .i64 l3, .int .i64 h3], .agg [.int .i64 den, .int .i64 each, .int .i64 x0, .int .i64 x1, .int .i64 x2, .int .i64 x3, .int .i64 y0, .int .i64 y1, .int .i64 y2, .int .i64 y3, .sl q_ps n_ps 1 F_ps]] [.c (.sl q_l (eC.list n_l F_l).length 7 (eC.F (eC.list n_l F_l))), .agg [.int .i64 sv, .int .i64 l0, .int .i64 h0, .int .i64 l1, .int .i64 h1, .int .i64 l2, .int .i64 h2, .int .i64 l3, .int .i64 h3], .agg [.int .i64 den, .int .i64 each, .int .i64 x0, .int .i64 x1, .int .i64 x2, .int .i64 x3, .int .i64 y0, .int .i64 y1, .int .i64 y2, .int .i64 y3, .sl q_ps (eI.list n_ps F_ps).length 1 (eI.F (eI.list n_ps F_ps))]] := ⟨eC.to id hI_l, Ag.eqv_refl _, ⟨rfl, rfl, rfl, rfl, rfl, rfl, rfl, rfl, rfl, rfl, eI.to id hI_ps, trivial⟩, trivial⟩
      have len_l : (eC.list n_l F_l).length = n_l := eC.list_len
      have len_ps : (eI.list n_ps F_ps).length = n_ps := eI.list_len
      generalize eC.list n_l F_l = l at *
      generalize eI.list n_ps F_ps = ps at *
      subst len_l len_ps
      exact fokX_fin mixed gw_stable (sl := [v109, v111, v80]) ⟨S109, S111, S80, trivial⟩ Try.func57 hw hl hG hx heq rfl (t57 q_l l sv l0 h0 l1 h1 l2 h2 l3 h3 den each x0 x1 x2 x3 y0 y1 y2 y3 q_ps ps) (w57 l _ _ hp.1 hp.2.1 hp.2.2.1)
    · cases hd
  · cases hd
theorem S57 : SumOK Try.prog G0 gw 57 (fokSm dom57) := fok_sum Try.func57 rfl C57
end Go.Bl
end

section
set_option linter.unusedVariables false
set_option linter.unusedSimpArgs false
set_option maxRecDepth 100000
namespace Go.Bl
open Go.V Go.Proofs
end Go.Bl
end

section
set_option linter.unusedVariables false
set_option linter.unusedSimpArgs false
set_option maxRecDepth 100000
namespace Go.Bl
open Go.V Go.Proofs
namespace M
end M
end Go.Bl
end

section
set_option linter.unusedVariables false
set_option linter.unusedSimpArgs false
set_option maxRecDepth 100000
namespace Go.Bl
open Go.V Go.Proofs
open Go.Lp
theorem each_nn {P : Int → Prop} {w : Wts} (h : Each P w) (hp : ∀ b, P b → 0 ≤ b) : Each (fun b => 0 ≤ b) w := by
  obtain ⟨g1, ⟨g2, g3, g4, g5⟩, g6, g7, g8, g9⟩ := h
  exact ⟨fun i => hp _ (g1 i), ⟨hp _ g2, hp _ g3, hp _ g4, hp _ g5⟩, hp _ g6, hp _ g7, hp _ g8, hp _ g9⟩
end Go.Bl
end

section
set_option linter.unusedVariables false
set_option linter.unusedSimpArgs false
set_option maxRecDepth 100000
namespace Go.Bl
open Go.V Go.Proofs
namespace M
def wideR (r : Rg) (d : Int) : Rg := ⟨if IntKind.i64.wrap (r.lo - d) > 0 then IntKind.i64.wrap (r.lo - d) else 0, if IntKind.i64.wrap (r.hi + d) < 1000 then IntKind.i64.wrap (r.hi + d) else 1000⟩
def wide (s : Sample) (d : Int) : Sample := ⟨s.vol, wideR s.r0 d, wideR s.r1 d, wideR s.r2 d, wideR s.r3 d⟩
end M
end Go.Bl
end

section
set_option linter.unusedVariables false
set_option linter.unusedSimpArgs false
set_option maxRecDepth 100000
namespace Go.Bl
open Go.V Go.Proofs
def dom20f : DomF
  | [.c (.sl _ n_l st_l F_l), .agg [.int .i64 sv, .int .i64 l0, .int .i64 h0, .int .i64 l1, .int .i64 h1, .int .i64 l2, .int .i64 h2, .int .i64 l3, .int .i64 h3]] => (match Nat.beq st_l 7 with
    | true => some ([eC.Is n_l F_l, ∀ c, c ∈ (eC.list n_l F_l) → c.nm.size ≤ 1000000], resB (M.best (eC.list n_l F_l) ⟨sv, ⟨l0, h0⟩, ⟨l1, h1⟩, ⟨l2, h2⟩, ⟨l3, h3⟩⟩))
    | _ => none)
  | _ => none
def v20f : Nat × Sm := (20, fokSm dom20f)
theorem C20f : FOK Try.prog G0 gw 20 dom20f := by
  intro ags p r hd hp κ w xs hw hl hG hx
  unfold dom20f at hd
  split at hd
  · rename_i q_l n_l st_l F_l sv l0 h0 l1 h1 l2 h2 l3 h3
    split at hd
    · rename_i hst
      simp only [Option.some.injEq, Prod.mk.injEq] at hd
      obtain ⟨rfl, rfl⟩ := hd
      obtain ⟨hI, hn, _⟩ := hp
      have g1 := Nat.eq_of_beq_eq_true hst
      subst g1
      refine C20 _ _ _ (rfl : dom20 _ = _) ?_ κ w xs hw hl hG hx
      exact ⟨hI, hn, best_okay _ _, trivial⟩
    · cases hd
  · cases hd
theorem S20f : SumOK Try.prog G0 gw 20 (fokSm dom20f) := fok_sum Try.func20 rfl C20f
def dom26f : DomF
  | [.c (.sl _ n_l st_l F_l), .agg [.int .i64 sv, .int .i64 l0, .int .i64 h0, .int .i64 l1, .int .i64 h1, .int .i64 l2, .int .i64 h2, .int .i64 l3, .int .i64 h3]] => (match Nat.beq st_l 7 with
    | true => some ([eC.Is n_l F_l, ∀ c, c ∈ (eC.list n_l F_l) → c.nm.size ≤ 1000000, (eC.list n_l F_l).length ≤ 1000000], resN (M.near (eC.list n_l F_l) ⟨sv, ⟨l0, h0⟩, ⟨l1, h1⟩, ⟨l2, h2⟩, ⟨l3, h3⟩⟩))
    | _ => none)
  | _ => none
def v26f : Nat × Sm := (26, fokSm dom26f)
theorem C26f : FOK Try.prog G0 gw 26 dom26f := by
  intro ags p r hd hp κ w xs hw hl hG hx
  unfold dom26f at hd
  split at hd
  · rename_i q_l n_l st_l F_l sv l0 h0 l1 h1 l2 h2 l3 h3
    split at hd
    · rename_i hst
      simp only [Option.some.injEq, Prod.mk.injEq] at hd
      obtain ⟨rfl, rfl⟩ := hd
      obtain ⟨hI, hn, hl9, _⟩ := hp
      have g1 := Nat.eq_of_beq_eq_true hst
      subst g1
      refine C26 _ _ _ (rfl : dom26 _ = _) ?_ κ w xs hw hl hG hx
      exact ⟨hI, hn, hl9, near_okay _ _, trivial⟩
    · cases hd
  · cases hd
theorem S26f : SumOK Try.prog G0 gw 26 (fokSm dom26f) := fok_sum Try.func26 rfl C26f
end Go.Bl
end

section
set_option linter.unusedVariables false
set_option linter.unusedSimpArgs false
set_option maxRecDepth 100000
namespace Go.Bl
open Go.V Go.Proofs
def P59 (LL : List Cask) (SS : Sample) : Option M.Corner := (M.psolve (Enc.list eI (List.length (M.shares LL (1 : Nat))) (Enc.F eI (M.shares LL (1 : Nat)))) (Sample.vol SS) (Enc.list eI (List.length (M.far LL)) (Enc.F eI (M.far LL))) (Enc.list eK (List.length (M.limits LL SS (1 : Nat))) (Enc.F eK (M.limits LL SS (1 : Nat)))))
def trF59 (l : List Cask) (s : Sample) (n : Nat) (yes : T (List Ar)) : T (List Ar) :=
    T.need (Enc.Is eC n (Enc.F eC l)) (T.need (∀ (c : Cask), c ∈ (Enc.list eC n (Enc.F eC l)) → ByteArray.size (Cask.nm c) ≤ (1000000 : Nat)) (T.br (M.first [M.casksErr (Enc.list eC n (Enc.F eC l)), M.checkSample s] != (0 : Int)) (T.ret [Ar.agg [D.int IntKind.i64 (0 : Int), D.int IntKind.i64 (0 : Int), D.int IntKind.i64 (0 : Int), D.int IntKind.i64 (0 : Int), D.int IntKind.i64 (0 : Int), D.int IntKind.i64 (0 : Int), D.int IntKind.i64 (0 : Int), D.int IntKind.i64 (0 : Int), D.int IntKind.i64 (0 : Int), D.int IntKind.i64 (0 : Int), D.sl false (0 : Nat) (0 : Nat) fun (x x_1 : Nat) => D.nilp], Ar.c (D.int IntKind.i64 (M.first [M.casksErr (Enc.list eC n (Enc.F eC l)), M.checkSample s]))]) (T.need (Enc.Is eC n (Enc.F eC l)) (T.need (List.length (Enc.list eC n (Enc.F eC l)) ≤ (1000000 : Nat)) (T.br (!decide (M.volumes (Enc.list eC n (Enc.F eC l)) ≥ s.vol)) yes (T.need (Enc.Is eC n (Enc.F eC l)) (T.need ((1 : Nat) ≤ n) (T.need (n ≤ (4 : Nat)) (T.need (Enc.Is eI (List.length (M.shares (Enc.list eC n (Enc.F eC l)) (1 : Nat))) (Enc.F eI (M.shares (Enc.list eC n (Enc.F eC l)) (1 : Nat)))) (T.need (Enc.Is eI (List.length (M.far (Enc.list eC n (Enc.F eC l)))) (Enc.F eI (M.far (Enc.list eC n (Enc.F eC l))))) (T.need (Enc.Is eK (List.length (M.limits (Enc.list eC n (Enc.F eC l)) s (1 : Nat))) (Enc.F eK (M.limits (Enc.list eC n (Enc.F eC l)) s (1 : Nat)))) (T.need ((1 : Nat) ≤ List.length (M.shares (Enc.list eC n (Enc.F eC l)) (1 : Nat))) (T.need (List.length (M.shares (Enc.list eC n (Enc.F eC l)) (1 : Nat)) ≤ (5 : Nat)) (T.need (List.length (M.shares (Enc.list eC n (Enc.F eC l)) (1 : Nat)) = List.length (M.far (Enc.list eC n (Enc.F eC l)))) (T.need (List.length (M.limits (Enc.list eC n (Enc.F eC l)) s (1 : Nat)) ≤ (1000 : Nat)) (T.need (∀ (c : Cond), c ∈ Enc.list eK (List.length (M.limits (Enc.list eC n (Enc.F eC l)) s (1 : Nat))) (Enc.F eK (M.limits (Enc.list eC n (Enc.F eC l)) s (1 : Nat))) → List.length (Cond.coefs c) = List.length (M.shares (Enc.list eC n (Enc.F eC l)) (1 : Nat))) (T.need (∀ (set : List Cond), List.length set + (1 : Nat) = List.length (Enc.list eI (List.length (M.shares (Enc.list eC n (Enc.F eC l)) (1 : Nat))) (Enc.F eI (M.shares (Enc.list eC n (Enc.F eC l)) (1 : Nat)))) → (∀ (c : Cond), c ∈ set → c ∈ Enc.list eK (List.length (M.limits (Enc.list eC n (Enc.F eC l)) s (1 : Nat))) (Enc.F eK (M.limits (Enc.list eC n (Enc.F eC l)) s (1 : Nat)))) → M.det (M.mat (Enc.list eI (List.length (M.shares (Enc.list eC n (Enc.F eC l)) (1 : Nat))) (Enc.F eI (M.shares (Enc.list eC n (Enc.F eC l)) (1 : Nat)))) set) ≠ (0 : Int) → M.det (M.turned (M.mat (Enc.list eI (List.length (M.shares (Enc.list eC n (Enc.F eC l)) (1 : Nat))) (Enc.F eI (M.shares (Enc.list eC n (Enc.F eC l)) (1 : Nat)))) set)) ≠ (0 : Int)) (T.br (!Option.isSome (P59 (Enc.list eC n (Enc.F eC l)) s)) (T.ret [Ar.agg [D.int IntKind.i64 (0 : Int), D.int IntKind.i64 (0 : Int), D.int IntKind.i64 (0 : Int), D.int IntKind.i64 (0 : Int), D.int IntKind.i64 (0 : Int), D.int IntKind.i64 (0 : Int), D.int IntKind.i64 (0 : Int), D.int IntKind.i64 (0 : Int), D.int IntKind.i64 (0 : Int), D.int IntKind.i64 (0 : Int), D.sl false (0 : Nat) (0 : Nat) fun (x x_1 : Nat) => D.nilp], Ar.c (D.int IntKind.i64 (12 : Int))]) (T.need ((0 : Int) ≤ (Nat.cast (R := Int) n)) (T.need ((Nat.cast (R := Int) n) < (Nat.cast (R := Int) (List.length (M.Corner.pt (cOf (P59 (Enc.list eC n (Enc.F eC l)) s)))))) (T.br (List.getD (M.Corner.pt (cOf (P59 (Enc.list eC n (Enc.F eC l)) s))) (Int.toNat (Nat.cast (R := Int) n)) (0 : Int) == (0 : Int)) (T.ret [Ar.agg [D.int IntKind.i64 (0 : Int), D.int IntKind.i64 (0 : Int), D.int IntKind.i64 (0 : Int), D.int IntKind.i64 (0 : Int), D.int IntKind.i64 (0 : Int), D.int IntKind.i64 (0 : Int), D.int IntKind.i64 (0 : Int), D.int IntKind.i64 (0 : Int), D.int IntKind.i64 (0 : Int), D.int IntKind.i64 (0 : Int), D.sl false (0 : Nat) (0 : Nat) fun (x x_1 : Nat) => D.nilp], Ar.c (D.int IntKind.i64 (12 : Int))]) (T.need (Enc.Is eK (List.length (M.Corner.tight (cOf (P59 (Enc.list eC n (Enc.F eC l)) s)))) (Enc.F eK (M.Corner.tight (cOf (P59 (Enc.list eC n (Enc.F eC l)) s))))) (T.need (Enc.Is eI (List.length (M.Corner.by_ (cOf (P59 (Enc.list eC n (Enc.F eC l)) s)))) (Enc.F eI (M.Corner.by_ (cOf (P59 (Enc.list eC n (Enc.F eC l)) s))))) (T.need ((0 : Int) ≤ (Nat.cast (R := Int) n)) (T.need ((Nat.cast (R := Int) n) ≤ (1000 : Int)) (T.need (List.length (M.Corner.tight (cOf (P59 (Enc.list eC n (Enc.F eC l)) s))) ≤ List.length (M.Corner.by_ (cOf (P59 (Enc.list eC n (Enc.F eC l)) s)))) (T.need (List.length (M.Corner.tight (cOf (P59 (Enc.list eC n (Enc.F eC l)) s))) ≤ (1000 : Nat)) (T.need (∀ (c : Cond), c ∈ Enc.list eK (List.length (M.Corner.tight (cOf (P59 (Enc.list eC n (Enc.F eC l)) s)))) (Enc.F eK (M.Corner.tight (cOf (P59 (Enc.list eC n (Enc.F eC l)) s)))) → (0 : Int) ≤ Cond.which c ∧ (Cond.kind c = (1 : Int) → Cond.which c < (Nat.cast (R := Int) n)) ∧ (Cond.kind c ≠ (1 : Int) → Cond.kind c ≠ (0 : Int) → Cond.which c < (4 : Int))) (T.ret [Ar.agg [D.int IntKind.i64 (M.weights (M.Corner.wd (cOf (P59 (Enc.list eC n (Enc.F eC l)) s))) (M.Corner.each (cOf (P59 (Enc.list eC n (Enc.F eC l)) s))) (Enc.list eK (List.length (M.Corner.tight (cOf (P59 (Enc.list eC n (Enc.F eC l)) s)))) (Enc.F eK (M.Corner.tight (cOf (P59 (Enc.list eC n (Enc.F eC l)) s))))) (Enc.list eI (List.length (M.Corner.by_ (cOf (P59 (Enc.list eC n (Enc.F eC l)) s)))) (Enc.F eI (M.Corner.by_ (cOf (P59 (Enc.list eC n (Enc.F eC l)) s))))) (Int.toNat (Nat.cast (R := Int) n))).1, D.int IntKind.i64 (M.weights (M.Corner.wd (cOf (P59 (Enc.list eC n (Enc.F eC l)) s))) (M.Corner.each (cOf (P59 (Enc.list eC n (Enc.F eC l)) s))) (Enc.list eK (List.length (M.Corner.tight (cOf (P59 (Enc.list eC n (Enc.F eC l)) s)))) (Enc.F eK (M.Corner.tight (cOf (P59 (Enc.list eC n (Enc.F eC l)) s))))) (Enc.list eI (List.length (M.Corner.by_ (cOf (P59 (Enc.list eC n (Enc.F eC l)) s)))) (Enc.F eI (M.Corner.by_ (cOf (P59 (Enc.list eC n (Enc.F eC l)) s))))) (Int.toNat (Nat.cast (R := Int) n))).2, D.int IntKind.i64 (M.weights (M.Corner.wd (cOf (P59 (Enc.list eC n (Enc.F eC l)) s))) (M.Corner.each (cOf (P59 (Enc.list eC n (Enc.F eC l)) s))) (Enc.list eK (List.length (M.Corner.tight (cOf (P59 (Enc.list eC n (Enc.F eC l)) s)))) (Enc.F eK (M.Corner.tight (cOf (P59 (Enc.list eC n (Enc.F eC l)) s))))) (Enc.list eI (List.length (M.Corner.by_ (cOf (P59 (Enc.list eC n (Enc.F eC l)) s)))) (Enc.F eI (M.Corner.by_ (cOf (P59 (Enc.list eC n (Enc.F eC l)) s))))) (Int.toNat (Nat.cast (R := Int) n))).3, D.int IntKind.i64 (M.weights (M.Corner.wd (cOf (P59 (Enc.list eC n (Enc.F eC l)) s))) (M.Corner.each (cOf (P59 (Enc.list eC n (Enc.F eC l)) s))) (Enc.list eK (List.length (M.Corner.tight (cOf (P59 (Enc.list eC n (Enc.F eC l)) s)))) (Enc.F eK (M.Corner.tight (cOf (P59 (Enc.list eC n (Enc.F eC l)) s))))) (Enc.list eI (List.length (M.Corner.by_ (cOf (P59 (Enc.list eC n (Enc.F eC l)) s)))) (Enc.F eI (M.Corner.by_ (cOf (P59 (Enc.list eC n (Enc.F eC l)) s))))) (Int.toNat (Nat.cast (R := Int) n))).4, D.int IntKind.i64 (M.weights (M.Corner.wd (cOf (P59 (Enc.list eC n (Enc.F eC l)) s))) (M.Corner.each (cOf (P59 (Enc.list eC n (Enc.F eC l)) s))) (Enc.list eK (List.length (M.Corner.tight (cOf (P59 (Enc.list eC n (Enc.F eC l)) s)))) (Enc.F eK (M.Corner.tight (cOf (P59 (Enc.list eC n (Enc.F eC l)) s))))) (Enc.list eI (List.length (M.Corner.by_ (cOf (P59 (Enc.list eC n (Enc.F eC l)) s)))) (Enc.F eI (M.Corner.by_ (cOf (P59 (Enc.list eC n (Enc.F eC l)) s))))) (Int.toNat (Nat.cast (R := Int) n))).5, D.int IntKind.i64 (M.weights (M.Corner.wd (cOf (P59 (Enc.list eC n (Enc.F eC l)) s))) (M.Corner.each (cOf (P59 (Enc.list eC n (Enc.F eC l)) s))) (Enc.list eK (List.length (M.Corner.tight (cOf (P59 (Enc.list eC n (Enc.F eC l)) s)))) (Enc.F eK (M.Corner.tight (cOf (P59 (Enc.list eC n (Enc.F eC l)) s))))) (Enc.list eI (List.length (M.Corner.by_ (cOf (P59 (Enc.list eC n (Enc.F eC l)) s)))) (Enc.F eI (M.Corner.by_ (cOf (P59 (Enc.list eC n (Enc.F eC l)) s))))) (Int.toNat (Nat.cast (R := Int) n))).6, D.int IntKind.i64 (M.weights (M.Corner.wd (cOf (P59 (Enc.list eC n (Enc.F eC l)) s))) (M.Corner.each (cOf (P59 (Enc.list eC n (Enc.F eC l)) s))) (Enc.list eK (List.length (M.Corner.tight (cOf (P59 (Enc.list eC n (Enc.F eC l)) s)))) (Enc.F eK (M.Corner.tight (cOf (P59 (Enc.list eC n (Enc.F eC l)) s))))) (Enc.list eI (List.length (M.Corner.by_ (cOf (P59 (Enc.list eC n (Enc.F eC l)) s)))) (Enc.F eI (M.Corner.by_ (cOf (P59 (Enc.list eC n (Enc.F eC l)) s))))) (Int.toNat (Nat.cast (R := Int) n))).7, D.int IntKind.i64 (M.weights (M.Corner.wd (cOf (P59 (Enc.list eC n (Enc.F eC l)) s))) (M.Corner.each (cOf (P59 (Enc.list eC n (Enc.F eC l)) s))) (Enc.list eK (List.length (M.Corner.tight (cOf (P59 (Enc.list eC n (Enc.F eC l)) s)))) (Enc.F eK (M.Corner.tight (cOf (P59 (Enc.list eC n (Enc.F eC l)) s))))) (Enc.list eI (List.length (M.Corner.by_ (cOf (P59 (Enc.list eC n (Enc.F eC l)) s)))) (Enc.F eI (M.Corner.by_ (cOf (P59 (Enc.list eC n (Enc.F eC l)) s))))) (Int.toNat (Nat.cast (R := Int) n))).8, D.int IntKind.i64 (M.weights (M.Corner.wd (cOf (P59 (Enc.list eC n (Enc.F eC l)) s))) (M.Corner.each (cOf (P59 (Enc.list eC n (Enc.F eC l)) s))) (Enc.list eK (List.length (M.Corner.tight (cOf (P59 (Enc.list eC n (Enc.F eC l)) s)))) (Enc.F eK (M.Corner.tight (cOf (P59 (Enc.list eC n (Enc.F eC l)) s))))) (Enc.list eI (List.length (M.Corner.by_ (cOf (P59 (Enc.list eC n (Enc.F eC l)) s)))) (Enc.F eI (M.Corner.by_ (cOf (P59 (Enc.list eC n (Enc.F eC l)) s))))) (Int.toNat (Nat.cast (R := Int) n))).9, D.int IntKind.i64 (M.weights (M.Corner.wd (cOf (P59 (Enc.list eC n (Enc.F eC l)) s))) (M.Corner.each (cOf (P59 (Enc.list eC n (Enc.F eC l)) s))) (Enc.list eK (List.length (M.Corner.tight (cOf (P59 (Enc.list eC n (Enc.F eC l)) s)))) (Enc.F eK (M.Corner.tight (cOf (P59 (Enc.list eC n (Enc.F eC l)) s))))) (Enc.list eI (List.length (M.Corner.by_ (cOf (P59 (Enc.list eC n (Enc.F eC l)) s)))) (Enc.F eI (M.Corner.by_ (cOf (P59 (Enc.list eC n (Enc.F eC l)) s))))) (Int.toNat (Nat.cast (R := Int) n))).10, D.sl false (List.length (M.weights (M.Corner.wd (cOf (P59 (Enc.list eC n (Enc.F eC l)) s))) (M.Corner.each (cOf (P59 (Enc.list eC n (Enc.F eC l)) s))) (Enc.list eK (List.length (M.Corner.tight (cOf (P59 (Enc.list eC n (Enc.F eC l)) s)))) (Enc.F eK (M.Corner.tight (cOf (P59 (Enc.list eC n (Enc.F eC l)) s))))) (Enc.list eI (List.length (M.Corner.by_ (cOf (P59 (Enc.list eC n (Enc.F eC l)) s)))) (Enc.F eI (M.Corner.by_ (cOf (P59 (Enc.list eC n (Enc.F eC l)) s))))) (Int.toNat (Nat.cast (R := Int) n))).11) (1 : Nat) (Enc.F eI (M.weights (M.Corner.wd (cOf (P59 (Enc.list eC n (Enc.F eC l)) s))) (M.Corner.each (cOf (P59 (Enc.list eC n (Enc.F eC l)) s))) (Enc.list eK (List.length (M.Corner.tight (cOf (P59 (Enc.list eC n (Enc.F eC l)) s)))) (Enc.F eK (M.Corner.tight (cOf (P59 (Enc.list eC n (Enc.F eC l)) s))))) (Enc.list eI (List.length (M.Corner.by_ (cOf (P59 (Enc.list eC n (Enc.F eC l)) s)))) (Enc.F eI (M.Corner.by_ (cOf (P59 (Enc.list eC n (Enc.F eC l)) s))))) (Int.toNat (Nat.cast (R := Int) n))).11)], Ar.c (D.int IntKind.i64 (0 : Int))])))))))))))))))))))))))))))))
theorem t59 (q_l : Bool) (l : List Cask) (sv l0 h0 l1 h1 l2 h2 l3 h3 : Int) : runFnX Try.prog G0 (lookS [v65, v49, v64, v81, v82, v67, v69]) (fun _ => []) [] 1 40 5 59 Try.f59 [.c (.sl q_l l.length 7 (eC.F l)), .agg [dI sv, dI l0, dI h0, dI l1, dI h1, dI l2, dI h2, dI l3, dI h3]] =
    trF59 l (⟨sv, ⟨l0, h0⟩, ⟨l1, h1⟩, ⟨l2, h2⟩, ⟨l3, h3⟩⟩ : Sample) l.length .fail := by kernel_rfl
theorem t59_1 (q_l : Bool) (l : List Cask) (sv l0 h0 l1 h1 l2 h2 l3 h3 : Int) : runFnX Try.prog G0 (lookS [v65, v49, v64, v81, v82, v67, v69]) (fun f => match Nat.beq f 112 || Nat.beq f 132 || Nat.beq f 147 || Nat.beq f 148 with | true => [(999999, [], none)] | _ => []) [112, 132, 147, 148] 1 60 6 59 Try.f59 [.c (.sl q_l 1 7 (eC.F l)), .agg [dI sv, dI l0, dI h0, dI l1, dI h1, dI l2, dI h2, dI l3, dI h3]] =
    trF59 l (⟨sv, ⟨l0, h0⟩, ⟨l1, h1⟩, ⟨l2, h2⟩, ⟨l3, h3⟩⟩ : Sample) 1 (.ret [.agg [dI 1, dI 1, dI 0, dI 0, dI 0, dI 0, dI 0, dI 0, dI 0, dI 0, .sl true 1 1 (fun i j => List.getD [D.int IntKind.i64 1] (i * 1 + j) .nilp)], .c (dI 0)]) := by kernel_rfl
theorem t59_2 (q_l : Bool) (l : List Cask) (sv l0 h0 l1 h1 l2 h2 l3 h3 : Int) : runFnX Try.prog G0 (lookS [v65, v49, v64, v81, v82, v67, v69]) (fun f => match Nat.beq f 112 || Nat.beq f 132 || Nat.beq f 147 || Nat.beq f 148 with | true => [(999999, [], none)] | _ => []) [112, 132, 147, 148] 1 60 6 59 Try.f59 [.c (.sl q_l 2 7 (eC.F l)), .agg [dI sv, dI l0, dI h0, dI l1, dI h1, dI l2, dI h2, dI l3, dI h3]] =
    trF59 l (⟨sv, ⟨l0, h0⟩, ⟨l1, h1⟩, ⟨l2, h2⟩, ⟨l3, h3⟩⟩ : Sample) 2 (.ret [.agg [dI 1, dI 1, dI 0, dI 0, dI 0, dI 0, dI 0, dI 0, dI 0, dI 0, .sl true 2 1 (fun i j => List.getD [D.int IntKind.i64 1, D.int IntKind.i64 1] (i * 1 + j) .nilp)], .c (dI 0)]) := by kernel_rfl
theorem t59_3 (q_l : Bool) (l : List Cask) (sv l0 h0 l1 h1 l2 h2 l3 h3 : Int) : runFnX Try.prog G0 (lookS [v65, v49, v64, v81, v82, v67, v69]) (fun f => match Nat.beq f 112 || Nat.beq f 132 || Nat.beq f 147 || Nat.beq f 148 with | true => [(999999, [], none)] | _ => []) [112, 132, 147, 148] 1 60 6 59 Try.f59 [.c (.sl q_l 3 7 (eC.F l)), .agg [dI sv, dI l0, dI h0, dI l1, dI h1, dI l2, dI h2, dI l3, dI h3]] =
    trF59 l (⟨sv, ⟨l0, h0⟩, ⟨l1, h1⟩, ⟨l2, h2⟩, ⟨l3, h3⟩⟩ : Sample) 3 (.ret [.agg [dI 1, dI 1, dI 0, dI 0, dI 0, dI 0, dI 0, dI 0, dI 0, dI 0, .sl true 3 1 (fun i j => List.getD [D.int IntKind.i64 1, D.int IntKind.i64 1, D.int IntKind.i64 1] (i * 1 + j) .nilp)], .c (dI 0)]) := by kernel_rfl
theorem t59_4 (q_l : Bool) (l : List Cask) (sv l0 h0 l1 h1 l2 h2 l3 h3 : Int) : runFnX Try.prog G0 (lookS [v65, v49, v64, v81, v82, v67, v69]) (fun f => match Nat.beq f 112 || Nat.beq f 132 || Nat.beq f 147 || Nat.beq f 148 with | true => [(999999, [], none)] | _ => []) [112, 132, 147, 148] 1 60 6 59 Try.f59 [.c (.sl q_l 4 7 (eC.F l)), .agg [dI sv, dI l0, dI h0, dI l1, dI h1, dI l2, dI h2, dI l3, dI h3]] =
    trF59 l (⟨sv, ⟨l0, h0⟩, ⟨l1, h1⟩, ⟨l2, h2⟩, ⟨l3, h3⟩⟩ : Sample) 4 (.ret [.agg [dI 1, dI 1, dI 0, dI 0, dI 0, dI 0, dI 0, dI 0, dI 0, dI 0, .sl true 4 1 (fun i j => List.getD [D.int IntKind.i64 1, D.int IntKind.i64 1, D.int IntKind.i64 1, D.int IntKind.i64 1] (i * 1 + j) .nilp)], .c (dI 0)]) := by kernel_rfl
end Go.Bl
end

section
set_option linter.unusedVariables false
set_option linter.unusedSimpArgs false
set_option maxRecDepth 100000
namespace Go.Bl
open Go.V Go.Proofs Go.Lp
section
variable {l : List Cask} {s : Sample} {x : M.Corner}
theorem near_le (hx : NearS l s x) {pt : List Int} {den far : Int} (hb : Blend l s pt den far) (h0 : 0 ≤ far) : en x.pt l.length * den ≤ far * x.den := by
  have hw := weak_blend hb (each_nn hx.p.all fun b hb => hb.1) (g := fun j => en (M.far l) j * (M.wtsOf x l.length).den) hx.p.gift
  rw [smI_congr (h := fun _ => 0) (fun j hj => by
    have hj := List.mem_range.1 hj
    rw [far_en (by omega), if_neg (by omega), Int.zero_mul, Int.zero_mul]), smI_zero, Int.zero_add] at hw
  have hw := Int.le_trans hw (Int.mul_le_mul_of_nonneg_right hx.ws h0)
  have h1 := Int.mul_le_mul_of_nonneg_right hw (Int.le_of_lt hx.b.dp)
  have h2 : bound l s (M.wtsOf x l.length) * den * x.den = (M.wtsOf x l.length).den * (en x.pt l.length * den) := by rw [Int.mul_right_comm, hx.eq, Int.mul_assoc]
  rw [h2, Int.mul_assoc] at h1
  exact Int.le_of_mul_le_mul_left h1 (by have := hx.p.den; omega)
theorem best_cases (he : M.taskErr l s = 0) : (∃ x, BestS l s x ∧ M.best l s = M.bestC l x) ∨ ((∀ pt den, ¬ Blend l s pt den 0) ∧ M.best l s = ⟨0, 0, 0, [], M.zeroW, 12⟩) := by
  have h := task_right he
  have hb : M.best l s = (match M.pBest l s with | some x => M.bestC l x | none => ⟨0, 0, 0, [], M.zeroW, 12⟩) := by
    unfold M.best; rw [he]; rfl
  cases hp : M.pBest l s with
  | some x => exact .inl ⟨x, best_some h hp, by rw [hb, hp]⟩
  | none => exact .inr ⟨fun pt den hq => best_none h hp hq, by rw [hb, hp]⟩
theorem near_err (he : M.taskErr l s = 0) : M.nearErr l s = M.unl (decide (vols l ≥ s.vol)) 24 := by
  have h := task_right he
  unfold M.taskErr at he
  have hz := first_nil _ he
  unfold M.nearErr
  rw [hz (M.casksErr l) (by simp), hz (M.checkSample s) (by simp), vols_eq h, first_cons, if_pos rfl, first_cons, if_pos rfl, first_cons]
  split
  · rename_i e; rw [e]; rfl
  · rfl
theorem near_cases (he : M.taskErr l s = 0) : (vols l < s.vol ∧ M.near l s = ⟨0, [], 0, 0, 24⟩) ∨ (s.vol ≤ vols l ∧ ∃ x, NearS l s x ∧ M.near l s = ⟨x.den, x.pt.take l.length, M.told1 (en x.pt l.length) (s.vol * x.den), M.told2 (en x.pt l.length) (s.vol * x.den), 0⟩) := by
  have h := task_right he
  have hn := near_err he
  by_cases hv : s.vol ≤ vols l
  · rw [decide_eq_true hv] at hn
    have hn : M.nearErr l s = 0 := hn
    have hx := near_some h hv
    refine .inr ⟨hv, M.pNear l s, hx, ?_⟩
    obtain ⟨ho, hb⟩ := near_take h hx
    unfold M.near
    rw [hn]
    show M.nearC l s (M.pNear l s) = _
    unfold M.nearC
    rw [near_away h hx, sum_vol h ho.parts, hb.sum]
  · rw [decide_eq_false hv] at hn
    have hn : M.nearErr l s = 24 := hn
    refine .inl ⟨by omega, ?_⟩
    unfold M.near
    rw [hn]; rfl
structure Wide (s s' : Sample) (d : Int) : Prop where
  d0 : 0 ≤ d ∧ d ≤ 1000
  v : s'.vol = s.vol
  hi : ∀ k, k < 4 → (M.rg s k).hi ≤ (M.rg s' k).hi ∧ (M.rg s' k).hi ≤ (M.rg s k).hi + d ∧ ((M.rg s' k).hi = 1000 ∨ (M.rg s' k).hi = (M.rg s k).hi + d)
  lo : ∀ k, k < 4 → (M.rg s' k).lo ≤ (M.rg s k).lo ∧ (M.rg s k).lo - d ≤ (M.rg s' k).lo ∧ ((M.rg s' k).lo = 0 ∨ (M.rg s' k).lo = (M.rg s k).lo - d)
end
end Go.Bl
end

section
set_option linter.unusedVariables false
set_option linter.unusedSimpArgs false
set_option maxRecDepth 100000
namespace Go.Bl
open Go.V Go.Proofs Go.Lp
section
variable {l : List Cask} {s : Sample} {x : M.Corner}
end
theorem told_mul {v n d : Int} (hv : 0 < v) (hd : 0 < d) : M.told1 (v * n) (v * d) = M.told1 n d ∧ M.told2 (v * n) (v * d) = M.told2 n d := by
  unfold M.told1 M.told2
  have e : ((Int.gcd (v * n) (v * d) : Nat) : Int) = v * (Int.gcd n d : Nat) := by
    rw [Int.gcd_mul_left]
    have : ((v.natAbs * Int.gcd n d : Nat) : Int) = (v.natAbs : Int) * (Int.gcd n d : Nat) := by simp
    rw [this, show (v.natAbs : Int) = v by omega]
  rw [e]
  exact ⟨Int.mul_tdiv_mul_of_pos _ _ hv, Int.mul_tdiv_mul_of_pos _ _ hv⟩
theorem told_congr {n d n' d' : Int} (hd : 0 < d) (hd' : 0 < d') (h : n * d' = n' * d) : M.told1 n d = M.told1 n' d' ∧ M.told2 n d = M.told2 n' d' := by
  have h1 := told_mul (n := n) hd' hd
  have h2 := told_mul (n := n') hd hd'
  rw [← h1.1, ← h1.2, ← h2.1, ← h2.2, Int.mul_comm d' n, h, Int.mul_comm d n', Int.mul_comm d' d]
  exact ⟨rfl, rfl⟩
section
variable {l : List Cask} {s : Sample} {x : M.Corner}
theorem ceil_spec {n d : Int} (hd : 0 < d) : (-((-n) / d) - 1) * d < n ∧ n ≤ -((-n) / d) * d := by
  have h1 := Int.mul_ediv_add_emod (-n) d
  have h2 := Int.emod_nonneg (-n) (show d ≠ 0 by omega)
  have h3 := Int.emod_lt_of_pos (-n) hd
  rw [Int.mul_comm] at h1
  rw [Int.sub_mul, Int.neg_mul]
  omega
theorem enough_blend {pt : List Int} {den far : Int} (hb : Blend l s pt den far) : s.vol ≤ vols l := by
  have h1 : s.vol * den ≤ vols l * den := by
    rw [← hb.sum]
    unfold vols
    rw [smI_mul_right]
    exact smI_le fun i hi => hb.p1 i (List.mem_range.1 hi)
  exact Int.le_of_mul_le_mul_right h1 hb.dp
theorem best_e (ht : M.taskErr l s = 0) : ((M.best l s).e = 0 ↔ ∃ pt den, Blend l s pt den 0) ∧ ((M.best l s).e = 0 ∨ (M.best l s).e = 12) := by
  rcases best_cases ht with ⟨x, hx, ex⟩ | ⟨hn, ex⟩
  · rw [ex]; exact ⟨⟨fun _ => ⟨_, _, hx.b⟩, fun _ => rfl⟩, .inl rfl⟩
  · rw [ex]
    exact ⟨⟨fun e => absurd (show (12 : Int) = 0 from e) (by decide), fun ⟨pt, den, hb⟩ => absurd hb (hn _ _)⟩, .inr rfl⟩
end
end Go.Bl
end

section
set_option linter.unusedVariables false
set_option linter.unusedSimpArgs false
set_option maxRecDepth 100000
namespace Go.Bl
open Go.V Go.Proofs Go.Lp
namespace M
def failW (n : Nat) : Wts := ⟨1, 1, 0, 0, 0, 0, 0, 0, 0, 0, List.replicate n 1⟩
def failR (l : List Cask) (s : Sample) : Wts × Int := cond (decide (volumes l ≥ s.vol)) (cond ((pNear l s).pt.getD l.length 0 == 0) (zeroW, 12) (wtsOf (pNear l s) l.length, 0)) (failW l.length, 0)
def failure (l : List Cask) (s : Sample) : Wts × Int := cond (taskErr l s != 0) (zeroW, taskErr l s) (failR l s)
end M
theorem within_yes {n lo hi : Int} (h : lo ≤ n ∧ n ≤ hi) : M.within n lo hi = true := by
  unfold M.within
  simp [h.1, h.2]
theorem allB_of {is : Int → Bool} : ∀ {l : List Int}, (∀ x, x ∈ l → is x = true) → M.allB is l = true
  | [], _ => rfl
  | n :: l, h => by
    unfold M.allB
    rw [h n (List.mem_cons_self ..)]
    exact allB_of fun x hx => h x (List.mem_cons_of_mem _ hx)
section
variable {l : List Cask} {s : Sample} {w : Wts}
theorem openW_of (ht : M.taskErr l s = 0) (h : RightW l s w) : M.openW l s w = 0 := by
  rw [openW_eq, ht]
  show M.wErr l.length w = 0
  have hw : ∀ x : Int, 0 ≤ x ∧ x ≤ 100000000000000 → M.isWeight x = true := fun x hx => within_yes hx
  refine wErr_ok ?_ (beq_of_eq (by rw [h.len])) ?_
  · unfold M.wHead
    have := h.each
    rw [within_yes h.den, within_yes (by omega)]; rfl
  · obtain ⟨a1, ⟨a2, a3, a4, a5⟩, a6, a7, a8, a9⟩ := h.all
    unfold M.wOk
    rw [allB_of (is := M.isWeight) (l := [w.x0, w.x1, w.x2, w.x3]) (fun x hx => by
        simp only [List.mem_cons, List.not_mem_nil, or_false] at hx
        rcases hx with rfl | rfl | rfl | rfl <;> exact hw _ (by assumption)),
      allB_of (is := M.isWeight) (l := [w.y0, w.y1, w.y2, w.y3]) (fun x hx => by
        simp only [List.mem_cons, List.not_mem_nil, or_false] at hx
        rcases hx with rfl | rfl | rfl | rfl <;> exact hw _ (by assumption)),
      allB_of (is := M.isWeight) (l := w.casks) (fun x hx => by
        obtain ⟨i, hi, rfl⟩ := List.getElem_of_mem hx
        have := a1 i
        unfold en at this
        rw [List.getD_eq_getElem?_getD, List.getElem?_eq_getElem hi] at this
        exact hw _ this)]
    rfl
theorem fails_of (ht : M.taskErr l s = 0) (h : RightW l s w) (hg : ∀ j, j < l.length → gift l s w j ≤ 0) (hb : 0 < bound l s w) : M.fails l s w = 0 := by
  have ho : (M.openW l s w != 0) = false := by rw [openW_of ht h]; rfl
  rw [fails_ok ho (fun k hk => decide_eq_false (by rw [giveR_eq h hk]; have := hg k hk; omega)), (boundR_eq h).1, decide_eq_true (by omega)]
  rfl
theorem fail_near {x : M.Corner} (ht : M.taskErr l s = 0) (hx : NearS l s x) (h0 : 0 < en x.pt l.length) : M.fails l s (M.wtsOf x l.length) = 0 ∧ (M.wtsOf x l.length).casks.length = l.length := by
  have h := task_right ht
  have hp := hx.p
  obtain ⟨a1, ⟨a2, a3, a4, a5⟩, a6, a7, a8, a9⟩ := hp.all
  have hR : RightW l s (M.wtsOf x l.length) := ⟨h, hp.den, hp.each, hp.len, fun i => by have := a1 i; omega, ⟨by omega, by omega, by omega, by omega⟩, ⟨by omega, by omega, by omega, by omega⟩⟩
  refine ⟨fails_of ht hR (fun j hj => ?_) ?_, hp.len⟩
  · have := hp.gift j hj
    rw [far_en (by omega), if_neg (by omega), Int.zero_mul] at this
    exact this
  · have hd := hx.b.dp
    have hpos : 0 < bound l s (M.wtsOf x l.length) * x.den := by
      rw [hx.eq]
      exact Int.mul_pos (by have := hp.den; omega) h0
    exact Int.pos_of_mul_pos_left hpos hd
theorem en_ones {n i : Nat} (h : i < n) : en (List.replicate n 1) i = 1 := by
  unfold en
  rw [List.getD_eq_getElem?_getD, List.getElem?_replicate, if_pos h]; rfl
theorem fail_ones (ht : M.taskErr l s = 0) (hv : vols l < s.vol) : M.fails l s (M.failW l.length) = 0 ∧ (M.failW l.length).casks.length = l.length := by
  have h := task_right ht
  have hlen : (M.failW l.length).casks.length = l.length := List.length_replicate ..
  have hR : RightW l s (M.failW l.length) := by
    have z : (0 : Int) ≤ 0 ∧ (0 : Int) ≤ 100000000000000 := by decide
    refine ⟨h, show (1 : Int) ≤ 1 ∧ (1 : Int) ≤ 200000000000 by decide, show (1 : Int).natAbs ≤ 100000000000000 by decide, hlen, fun i => ?_, ⟨z, z, z, z⟩, ⟨z, z, z, z⟩⟩
    by_cases hi : i < l.length
    · show 0 ≤ en (List.replicate l.length 1) i ∧ en (List.replicate l.length 1) i ≤ _
      rw [en_ones hi]; decide
    · rw [en_out (by rw [hlen]; omega)]; decide
  refine ⟨fails_of ht hR (fun j hj => ?_) ?_, hlen⟩
  · rw [gift_eq _ hj]
    have e : en (M.failW l.length).casks j = 1 := en_ones hj
    rw [e]
    show (1 : Int) - 1 - (0 * _ + 0 * _ + 0 * _ + 0 * _) - (0 * _ + 0 * _ + 0 * _ + 0 * _) ≤ 0
    simp only [Int.zero_mul]
    decide
  · unfold bound phi
    have e : smI (fun i => en (M.failW l.length).casks i * (l.getD i dfC).vol) (List.range l.length) = vols l := by
      unfold vols
      exact smI_congr fun i hi => by
        have : en (M.failW l.length).casks i = 1 := en_ones (List.mem_range.1 hi)
        rw [this, Int.one_mul]
    rw [e]
    show 0 < 1 * s.vol - (vols l + (0 * 0 + 0 * 0 + 0 * 0 + 0 * 0) + (0 * 0 + 0 * 0 + 0 * 0 + 0 * 0))
    omega
theorem one_of_two (ht : M.taskErr l s = 0) : ((M.best l s).e = 0 ∧ M.failure l s = (M.zeroW, 12)) ∨
    ((M.best l s).e = 12 ∧ (M.failure l s).2 = 0 ∧ (M.failure l s).1.casks.length = l.length ∧ M.fails l s (M.failure l s).1 = 0) := by
  have h := task_right ht
  obtain ⟨he, hor⟩ := best_e ht
  have e0 : M.failure l s = M.failR l s := by unfold M.failure; rw [ht]; rfl
  rw [e0]
  unfold M.failR
  rw [vols_eq h]
  by_cases hv : s.vol ≤ vols l
  · rw [decide_eq_true (show vols l ≥ s.vol by omega)]
    have hx := near_some h hv
    generalize M.pNear l s = x at *
    rw [cond_true]
    have eR : (cond (x.pt.getD l.length 0 == 0) ((M.zeroW, 12) : Wts × Int) (M.wtsOf x l.length, 0)) = cond (en x.pt l.length == 0) ((M.zeroW, 12) : Wts × Int) (M.wtsOf x l.length, 0) := rfl
    rw [eR]
    by_cases hz : en x.pt l.length = 0
    · rw [beq_of_eq hz]
      have hb := hx.b
      rw [hz] at hb
      exact .inl ⟨he.2 ⟨_, _, hb⟩, rfl⟩
    · rw [beq_of_ne hz]
      have h0 : 0 < en x.pt l.length := by have := hx.f0; omega
      obtain ⟨f1, f2⟩ := fail_near ht hx h0
      refine .inr ⟨?_, rfl, f2, f1⟩
      rcases hor with e | e
      · obtain ⟨pt, den, hb⟩ := he.1 e
        have := near_le hx hb (Int.le_refl 0)
        rw [Int.zero_mul] at this
        have := Int.mul_pos h0 hb.dp
        omega
      · exact e
  · rw [decide_eq_false (show ¬ vols l ≥ s.vol by omega)]
    obtain ⟨f1, f2⟩ := fail_ones ht (by omega)
    refine .inr ⟨?_, rfl, f2, f1⟩
    rcases hor with e | e
    · obtain ⟨pt, den, hb⟩ := he.1 e
      exact absurd (enough_blend hb) hv
    · exact e
end
end Go.Bl
end

section
set_option linter.unusedVariables false
set_option linter.unusedSimpArgs false
set_option maxRecDepth 100000
namespace Go.Bl
open Go.V Go.Proofs Go.Lp
def resF (x : Wts × Int) : List Ar := [resW x.1, rI x.2]
theorem w59 (l : List Cask) (s : Sample) {yes : T (List Ar)} (hn : ∀ c, c ∈ l → c.nm.size ≤ 1000000) (hl : l.length ≤ 1000000)
    (hyes : M.taskErr l s = 0 → yes.wp (fun rs => rsEqv rs (resF (M.failW l.length, 0)))) : (trF59 l s l.length yes).wp (fun rs => rsEqv rs (resF (M.failure l s))) := by
  have hP : P59 l s = M.psolve (M.shares l 1) s.vol (M.far l) (M.limits l s 1) := by unfold P59; simp only [Enc.list_F]
  have hC : cOf (M.psolve (M.shares l 1) s.vol (M.far l) (M.limits l s 1)) = M.pNear l s := rfl
  have z0 : (nilD).eqv (dL []) := ⟨(fun e => by cases e), rfl, (fun h => absurd h (Nat.lt_irrefl 0)), fun i j hi => absurd hi (Nat.not_lt_zero i)⟩
  unfold trF59
  simp only [Enc.list_F, hP, hC]
  refine ⟨Enc.is_F _ _ _, hn, wp_br (fun hb => ?_) (fun hb => ⟨Enc.is_F _ _ _, hl, ?_⟩)⟩
  · have : M.failure l s = (M.zeroW, M.taskErr l s) := by unfold M.failure; rw [show (M.taskErr l s != 0) = true from hb]; rfl
    rw [this]
    exact ⟨⟨rfl, rfl, rfl, rfl, rfl, rfl, rfl, rfl, rfl, rfl, z0, trivial⟩, rfl, trivial⟩
  have hb' : (M.taskErr l s != 0) = false := hb
  have ht : M.taskErr l s = 0 := by simpa using hb'
  have h := task_right ht
  have e0 : M.failure l s = M.failR l s := by unfold M.failure; rw [hb']; rfl
  rw [e0]
  refine wp_br (fun hv => ?_) (fun hv => ?_)
  · have hv : decide (M.volumes l ≥ s.vol) = false := not_true hv
    have : M.failR l s = (M.failW l.length, 0) := by unfold M.failR; rw [hv]; rfl
    rw [this]
    exact hyes ht
  have hv : decide (M.volumes l ≥ s.vol) = true := not_false' hv
  have hvv : s.vol ≤ vols l := by have := of_decide_eq_true hv; rw [vols_eq h] at this; exact this
  have e1 : M.failR l s = cond ((M.pNear l s).pt.getD l.length 0 == 0) (M.zeroW, 12) (M.wtsOf (M.pNear l s) l.length, 0) := by unfold M.failR; rw [hv]; rfl
  rw [e1]
  have hne : M.nearErr l s = 0 := by rw [near_err ht, decide_eq_true (show vols l ≥ s.vol from hvv)]; rfl
  obtain ⟨h1, h4, hco, htd, _⟩ := near_okay l s hne
  have hx := near_some h hvv
  obtain ⟨t1, t2, t3⟩ := hx.tb
  have hpl := hx.pl
  have hnn : Int.toNat (l.length : Int) = l.length := Int.toNat_natCast _
  obtain ⟨y, hy⟩ := near_ex h hvv
  refine ⟨Enc.is_F _ _ _, h1, h4, Enc.is_F _ _ _, Enc.is_F _ _ _, Enc.is_F _ _ _, by rw [shares_len]; omega, by rw [shares_len]; omega, by rw [shares_len, far_len], by rw [limits_len]; omega, hco, htd, wp_br (fun hs => by rw [hy] at hs; cases hs) (fun _ => ?_)⟩
  refine ⟨by omega, by omega, wp_br (fun hz => ?_) (fun hz => ?_)⟩
  · rw [hnn] at hz
    rw [hz]
    exact ⟨⟨rfl, rfl, rfl, rfl, rfl, rfl, rfl, rfl, rfl, rfl, z0, trivial⟩, rfl, trivial⟩
  · rw [hnn] at hz
    rw [hz]
    simp only [hnn]
    refine ⟨Enc.is_F _ _ _, Enc.is_F _ _ _, by omega, by omega, t1, t2, t3, ?_⟩
    exact ⟨⟨rfl, rfl, rfl, rfl, rfl, rfl, rfl, rfl, rfl, rfl, D.eqv_refl _, trivial⟩, rfl, trivial⟩
end Go.Bl
end

section
set_option linter.unusedVariables false
set_option linter.unusedSimpArgs false
set_option maxRecDepth 100000
namespace Go.Bl
open Go.V Go.Proofs Go.Lp
theorem ones_1 : (D.sl true 1 1 (fun i j => List.getD [D.int IntKind.i64 1] (i * 1 + j) .nilp)).eqv (dL (List.replicate 1 1)) := by
  refine ⟨(fun e => by cases e), rfl, fun _ => rfl, fun i j hi hj => ?_⟩
  obtain rfl : j = 0 := Nat.lt_one_iff.1 hj
  match i, hi with
  | 0, _ => exact D.eqv_refl _
theorem yes_1 {l : List Cask} (h : l.length = 1) : (T.ret [.agg [dI 1, dI 1, dI 0, dI 0, dI 0, dI 0, dI 0, dI 0, dI 0, dI 0, .sl true 1 1 (fun i j => List.getD [D.int IntKind.i64 1] (i * 1 + j) .nilp)], .c (dI 0)] : T (List Ar)).wp (fun rs => rsEqv rs (resF (M.failW l.length, 0))) := by
  rw [h]
  exact ⟨⟨rfl, rfl, rfl, rfl, rfl, rfl, rfl, rfl, rfl, rfl, ones_1, trivial⟩, rfl, trivial⟩
theorem ones_2 : (D.sl true 2 1 (fun i j => List.getD [D.int IntKind.i64 1, D.int IntKind.i64 1] (i * 1 + j) .nilp)).eqv (dL (List.replicate 2 1)) := by
  refine ⟨(fun e => by cases e), rfl, fun _ => rfl, fun i j hi hj => ?_⟩
  obtain rfl : j = 0 := Nat.lt_one_iff.1 hj
  match i, hi with
  | 0, _ => exact D.eqv_refl _
  | 1, _ => exact D.eqv_refl _
theorem yes_2 {l : List Cask} (h : l.length = 2) : (T.ret [.agg [dI 1, dI 1, dI 0, dI 0, dI 0, dI 0, dI 0, dI 0, dI 0, dI 0, .sl true 2 1 (fun i j => List.getD [D.int IntKind.i64 1, D.int IntKind.i64 1] (i * 1 + j) .nilp)], .c (dI 0)] : T (List Ar)).wp (fun rs => rsEqv rs (resF (M.failW l.length, 0))) := by
  rw [h]
  exact ⟨⟨rfl, rfl, rfl, rfl, rfl, rfl, rfl, rfl, rfl, rfl, ones_2, trivial⟩, rfl, trivial⟩
theorem ones_3 : (D.sl true 3 1 (fun i j => List.getD [D.int IntKind.i64 1, D.int IntKind.i64 1, D.int IntKind.i64 1] (i * 1 + j) .nilp)).eqv (dL (List.replicate 3 1)) := by
  refine ⟨(fun e => by cases e), rfl, fun _ => rfl, fun i j hi hj => ?_⟩
  obtain rfl : j = 0 := Nat.lt_one_iff.1 hj
  match i, hi with
  | 0, _ => exact D.eqv_refl _
  | 1, _ => exact D.eqv_refl _
  | 2, _ => exact D.eqv_refl _
theorem yes_3 {l : List Cask} (h : l.length = 3) : (T.ret [.agg [dI 1, dI 1, dI 0, dI 0, dI 0, dI 0, dI 0, dI 0, dI 0, dI 0, .sl true 3 1 (fun i j => List.getD [D.int IntKind.i64 1, D.int IntKind.i64 1, D.int IntKind.i64 1] (i * 1 + j) .nilp)], .c (dI 0)] : T (List Ar)).wp (fun rs => rsEqv rs (resF (M.failW l.length, 0))) := by
  rw [h]
  exact ⟨⟨rfl, rfl, rfl, rfl, rfl, rfl, rfl, rfl, rfl, rfl, ones_3, trivial⟩, rfl, trivial⟩
theorem ones_4 : (D.sl true 4 1 (fun i j => List.getD [D.int IntKind.i64 1, D.int IntKind.i64 1, D.int IntKind.i64 1, D.int IntKind.i64 1] (i * 1 + j) .nilp)).eqv (dL (List.replicate 4 1)) := by
  refine ⟨(fun e => by cases e), rfl, fun _ => rfl, fun i j hi hj => ?_⟩
  obtain rfl : j = 0 := Nat.lt_one_iff.1 hj
  match i, hi with
  | 0, _ => exact D.eqv_refl _
  | 1, _ => exact D.eqv_refl _
  | 2, _ => exact D.eqv_refl _
  | 3, _ => exact D.eqv_refl _
theorem yes_4 {l : List Cask} (h : l.length = 4) : (T.ret [.agg [dI 1, dI 1, dI 0, dI 0, dI 0, dI 0, dI 0, dI 0, dI 0, dI 0, .sl true 4 1 (fun i j => List.getD [D.int IntKind.i64 1, D.int IntKind.i64 1, D.int IntKind.i64 1, D.int IntKind.i64 1] (i * 1 + j) .nilp)], .c (dI 0)] : T (List Ar)).wp (fun rs => rsEqv rs (resF (M.failW l.length, 0))) := by
  rw [h]
  exact ⟨⟨rfl, rfl, rfl, rfl, rfl, rfl, rfl, rfl, rfl, rfl, ones_4, trivial⟩, rfl, trivial⟩
def dom59 : DomF
  | [.c (.sl _ n_l st_l F_l), .agg [.int .i64 sv, .int .i64 l0, .int .i64 h0, .int .i64 l1, .int .i64 h1, .int .i64 l2, .int .i64 h2, .int .i64 l3, .int .i64 h3]] => (match Nat.beq st_l 7 with
    | true => some ([eC.Is n_l F_l, ∀ c, c ∈ (eC.list n_l F_l) → c.nm.size ≤ 1000000, (eC.list n_l F_l).length ≤ 1000000], resF (M.failure (eC.list n_l F_l) (⟨sv, ⟨l0, h0⟩, ⟨l1, h1⟩, ⟨l2, h2⟩, ⟨l3, h3⟩⟩ : Sample)))
    | _ => none)
  | _ => none
def v59 : Nat × Sm := (59, fokSm dom59)
theorem C59 : FOK Try.prog G0 gw 59 dom59 := by
  intro ags p r hd hp κ w xs hw hl hG hx
  unfold dom59 at hd
  split at hd
  · rename_i q_l n_l st_l F_l sv l0 h0 l1 h1 l2 h2 l3 h3
    split at hd
    · rename_i hst
      have g1 := hst
      have g1 := Nat.eq_of_beq_eq_true g1
      subst g1
      simp only [Option.some.injEq, Prod.mk.injEq] at hd
      obtain ⟨rfl, rfl⟩ := hd
      obtain ⟨hI_l, hp⟩ := hp
      have heq : agsEqv [.c (.sl q_l n_l 7 F_l), .agg [.int .i64 sv, .int .i64 l0, .int .i64 h0, .int .i64 l1, .int .i64 h1, .int .i64 l2, .int .i64 h2, .int .i64 l3, .int .i64 h3]] [.c (.sl q_l (eC.list n_l F_l).length 7 (eC.F (eC.list n_l F_l))), .agg [.int .i64 sv, .int .i64 l0, .int .i64 h0, .int .i64 l1, .int .i64 h1, .int .i64 l2, .int .i64 h2, .int .i64 l3, .int .i64 h3]] := ⟨eC.to id hI_l, Ag.eqv_refl _, trivial⟩
      have len_l : (eC.list n_l F_l).length = n_l := eC.list_len
      generalize eC.list n_l F_l = l at *
      subst len_l
      by_cases g1 : l.length = 1
      · have hw59 := w59 l (⟨sv, ⟨l0, h0⟩, ⟨l1, h1⟩, ⟨l2, h2⟩, ⟨l3, h3⟩⟩ : Sample) hp.1 hp.2.1 (fun _ => yes_1 g1)
        rw [g1] at hw59 heq hx
        exact fokX_fin mixed gw_stable (sl := [v65, v49, v64, v81, v82, v67, v69]) ⟨S65, S49, S64, S81, S82, S67, S69, trivial⟩ Try.func59 hw hl hG hx heq rfl (t59_1 q_l l sv l0 h0 l1 h1 l2 h2 l3 h3) hw59
      by_cases g2 : l.length = 2
      · have hw59 := w59 l (⟨sv, ⟨l0, h0⟩, ⟨l1, h1⟩, ⟨l2, h2⟩, ⟨l3, h3⟩⟩ : Sample) hp.1 hp.2.1 (fun _ => yes_2 g2)
        rw [g2] at hw59 heq hx
        exact fokX_fin mixed gw_stable (sl := [v65, v49, v64, v81, v82, v67, v69]) ⟨S65, S49, S64, S81, S82, S67, S69, trivial⟩ Try.func59 hw hl hG hx heq rfl (t59_2 q_l l sv l0 h0 l1 h1 l2 h2 l3 h3) hw59
      by_cases g3 : l.length = 3
      · have hw59 := w59 l (⟨sv, ⟨l0, h0⟩, ⟨l1, h1⟩, ⟨l2, h2⟩, ⟨l3, h3⟩⟩ : Sample) hp.1 hp.2.1 (fun _ => yes_3 g3)
        rw [g3] at hw59 heq hx
        exact fokX_fin mixed gw_stable (sl := [v65, v49, v64, v81, v82, v67, v69]) ⟨S65, S49, S64, S81, S82, S67, S69, trivial⟩ Try.func59 hw hl hG hx heq rfl (t59_3 q_l l sv l0 h0 l1 h1 l2 h2 l3 h3) hw59
      by_cases g4 : l.length = 4
      · have hw59 := w59 l (⟨sv, ⟨l0, h0⟩, ⟨l1, h1⟩, ⟨l2, h2⟩, ⟨l3, h3⟩⟩ : Sample) hp.1 hp.2.1 (fun _ => yes_4 g4)
        rw [g4] at hw59 heq hx
        exact fokX_fin mixed gw_stable (sl := [v65, v49, v64, v81, v82, v67, v69]) ⟨S65, S49, S64, S81, S82, S67, S69, trivial⟩ Try.func59 hw hl hG hx heq rfl (t59_4 q_l l sv l0 h0 l1 h1 l2 h2 l3 h3) hw59
      exact fokX_fin mixed gw_stable (sl := [v65, v49, v64, v81, v82, v67, v69]) ⟨S65, S49, S64, S81, S82, S67, S69, trivial⟩ Try.func59 hw hl hG hx heq rfl (t59 q_l l sv l0 h0 l1 h1 l2 h2 l3 h3) (w59 l (⟨sv, ⟨l0, h0⟩, ⟨l1, h1⟩, ⟨l2, h2⟩, ⟨l3, h3⟩⟩ : Sample) hp.1 hp.2.1 (fun ht => by have h := task_right ht; have := h.n1; have := h.n4; omega))
    · cases hd
  · cases hd
theorem S59 : SumOK Try.prog G0 gw 59 (fokSm dom59) := fok_sum Try.func59 rfl C59
end Go.Bl
end

section
set_option linter.unusedVariables false
set_option linter.unusedSimpArgs false
set_option maxRecDepth 100000
namespace Go.Bl
open Go.V Go.Proofs Go.Lp
structure Rev (l k : List Cask) : Prop where
  len : k.length = l.length
  at_ : ∀ i, i < l.length → k.getD i dfC = l.getD (l.length - 1 - i) dfC
theorem Rev.symm {l k : List Cask} (h : Rev l k) : Rev k l := by
  refine ⟨h.len.symm, fun i hi => ?_⟩
  have := h.at_ (k.length - 1 - i) (by rw [h.len] at hi ⊢; omega)
  rw [this]
  congr 1
  rw [h.len] at hi ⊢
  omega
section
variable {l k : List Cask} {s : Sample}
theorem bestC_eq (h : RightL l s) {x : M.Corner} (hx : BestS l s x) : M.bestC l x = ⟨M.told1 (cost l x.pt) x.den, M.told2 (cost l x.pt) x.den, x.den, x.pt, M.wtsOf x l.length, 0⟩ := by
  have ho := open_of h hx.b hx.d hx.pl
  unfold M.bestC; rw [sum_cost h ho.parts]
end
end Go.Bl
end

section
set_option linter.unusedVariables false
set_option linter.unusedSimpArgs false
set_option maxRecDepth 100000
namespace Go.Bl
open Go.V Go.Proofs
def tr60 : T (List Ar) :=
    T.need (Enc.Is eC (3 : Nat) FA) (T.need (∀ (c : Cask), (c ∈ Enc.list eC (3 : Nat) FA) → ByteArray.size (Cask.nm c) ≤ (1000000 : Nat)) (T.need (Enc.Is eC (3 : Nat) FA) (T.need ((Enc.list eC (3 : Nat) FA) = [{ nm := { data := { toList := [(100 : UInt8), (114 : UInt8), (121 : UInt8)] } }, vol := (100 : Int), cost := (10 : Int), k0 := (0 : Int), k1 := (0 : Int), k2 := (0 : Int), k3 := (0 : Int) }, { nm := { data := { toList := [(115 : UInt8), (119 : UInt8), (101 : UInt8), (101 : UInt8), (116 : UInt8)] } }, vol := (100 : Int), cost := (30 : Int), k0 := (100 : Int), k1 := (0 : Int), k2 := (0 : Int), k3 := (0 : Int) }, { nm := { data := { toList := [(114 : UInt8), (105 : UInt8), (99 : UInt8), (104 : UInt8)] } }, vol := (50 : Int), cost := (20 : Int), k0 := (200 : Int), k1 := (0 : Int), k2 := (0 : Int), k3 := (0 : Int) }]) (T.need ((exS 60 70) = (exS 60 70)) (T.br ((0 : Int) == (0 : Int)) (T.br ((1250 : Int) == (1250 : Int) && ((1 : Int) == (1 : Int) && true)) (T.br ((0 : Int) == (0 : Int)) (T.br ((2000 : Int) == (2000 : Int)) (T.ret [Ar.c (D.bool ((2 : Int) == (2 : Int)))]) (T.ret [Ar.c (D.bool false)])) (T.ret [Ar.c (D.bool false)])) (T.ret [Ar.c (D.bool false)])) (T.ret [Ar.c (D.bool false)]))))))
theorem t60 : runFnX Try.prog G0 (lookS [v20f, v30c]) (fun _ => []) [61, 62] 1 20 4 60 Try.f60 [] =
    tr60 := by kernel_rfl
theorem w60 : tr60.wp (fun rs => rsEqv rs [rB true]) := by
  unfold tr60
  simp only [lA]
  refine ⟨isA, exC_nm', isA, by first | exact rfl | trivial, by first | exact rfl | trivial, ?_⟩
  refine wp_br (fun _ => ?_) (fun h => absurd h (by decide))
  refine wp_br (fun _ => ?_) (fun h => absurd h (by decide))
  refine wp_br (fun _ => ?_) (fun h => absurd h (by decide))
  refine wp_br (fun _ => ?_) (fun h => absurd h (by decide))
  exact ⟨rfl, trivial⟩
def dom60 : DomF
  | [] => some ([], [rB true])
  | _ => none
def v60 : Nat × Sm := (60, fokSm dom60)
theorem C60 : FOK Try.prog G0 gw 60 dom60 := by
  intro ags p r hd hp κ w xs hw hl hG hx
  unfold dom60 at hd
  split at hd
  · simp only [Option.some.injEq, Prod.mk.injEq] at hd
    obtain ⟨rfl, rfl⟩ := hd
    have heq : agsEqv [] [] := trivial
    exact fokX_fin mixed gw_stable (sl := [v20f, v30c]) ⟨S20f, S30c, trivial⟩ Try.func60 hw hl hG hx heq rfl (t60) (w60)
  · cases hd
theorem S60 : SumOK Try.prog G0 gw 60 (fokSm dom60) := fok_sum Try.func60 rfl C60
end Go.Bl
end

section
set_option linter.unusedVariables false
set_option linter.unusedSimpArgs false
set_option maxRecDepth 100000
namespace Go.Bl
open Go.V Go.Proofs
namespace M
def has (ps : List Int) (k : Int) : Bool := ps.any fun n => n == k
def wholeP (l : List Cask) (ps : List Int) : List Int := (List.range l.length).map fun (i : Nat) => if has ps i then (l.getD i dfC).vol else 0
end M
end Go.Bl
end

section
set_option linter.unusedVariables false
set_option linter.unusedSimpArgs false
set_option maxRecDepth 100000
namespace Go.Bl
open Go.V Go.Proofs
theorem whole_len (l : List Cask) (q : List Int) : (M.wholeP l q).length = l.length := by simp [M.wholeP]
theorem whole_get {l : List Cask} {q : List Int} {i : Nat} (h : i < l.length) : (M.wholeP l q).getD i 0 = if M.has q i then (l.getD i dfC).vol else 0 := map_getD h
end Go.Bl
end

section
set_option linter.unusedVariables false
set_option linter.unusedSimpArgs false
set_option maxRecDepth 100000
namespace Go.Bl
open Go.V Go.Proofs Go.Lp
theorem fold_small {f : Int → Nat → Int} {y : Nat → Int} {n : Nat} (hf : ∀ a i, i < n → f a i = IntKind.i64.wrap (a + y i)) (hy : ∀ i, i < n → (y i).natAbs ≤ 10000000) (hn : n ≤ 10) :
    (List.range n).foldl f 0 = dot y n ∧ (dot y n).natAbs ≤ n * 10000000 := by
  have key : ∀ k, k ≤ n → (List.range k).foldl f 0 = dot y k ∧ (dot y k).natAbs ≤ k * 10000000 := by
    intro k
    induction k with
    | zero => intro _; exact ⟨rfl, by show (0 : Int).natAbs ≤ _; simp⟩
    | succ k ih =>
      intro hk
      obtain ⟨h1, h2⟩ := ih (by omega)
      have hb := hy k (by omega)
      have e : dot y (k + 1) = dot y k + y k := rfl
      have hb' : (dot y (k + 1)).natAbs ≤ (k + 1) * 10000000 := by rw [e]; omega
      refine ⟨?_, hb'⟩
      rw [foldl_succ, h1, hf _ _ (by omega), ← e]
      exact wrap_id (by omega) (by omega)
  exact key n (Nat.le_refl n)
structure RightT (l : List Cask) : Prop where
  n1 : 1 ≤ l.length
  n10 : l.length ≤ 10
  rc : ∀ i, i < l.length → RightC (l.getD i dfC)
section
variable {l : List Cask} {ps : List Int} {s : Sample}
theorem whole_b (h : RightT l) {i : Nat} (hi : i < l.length) : 0 ≤ (M.wholeP l ps).getD i 0 ∧ (M.wholeP l ps).getD i 0 ≤ 10000 := by
  rw [whole_get hi]
  have := (h.rc i hi).vol
  split <;> omega
theorem mul_tiny {p w : Int} (hp : 0 ≤ p ∧ p ≤ 10000) (hw : w.natAbs ≤ 1000) : (p * w).natAbs ≤ 10000000 := by
  rw [Int.natAbs_mul]
  exact Nat.mul_le_mul (show p.natAbs ≤ 10000 by omega) hw
theorem sumW (h : RightT l) {of : Cask → Int} (hof : ∀ i, i < l.length → (of (l.getD i dfC)).natAbs ≤ 1000) :
    M.sumP of l (M.wholeP l ps) = dot (fun i => (M.wholeP l ps).getD i 0 * of (l.getD i dfC)) l.length ∧ (M.sumP of l (M.wholeP l ps)).natAbs ≤ 100000000 := by
  have hf := fold_small (f := fun a i => IntKind.i64.wrap (a + IntKind.i64.wrap ((M.wholeP l ps).getD i 0 * of (l.getD i dfC)))) (y := fun i => (M.wholeP l ps).getD i 0 * of (l.getD i dfC)) (n := l.length)
    (fun a i _ => wrap_add_wrap _ _) (fun i hi => mul_tiny (whole_b h hi) (hof i hi)) h.n10
  have e : M.sumP of l (M.wholeP l ps) = (List.range l.length).foldl (fun a i => IntKind.i64.wrap (a + IntKind.i64.wrap ((M.wholeP l ps).getD i 0 * of (l.getD i dfC)))) 0 := by unfold M.sumP; rw [whole_len]
  have := h.n10
  rw [e, hf.1]
  exact ⟨rfl, by omega⟩
theorem valW (h : RightT l) {of : Cask → Int} {c : Int} (hof : ∀ i, i < l.length → 0 ≤ of (l.getD i dfC) ∧ of (l.getD i dfC) ≤ 1000) (hc : 0 ≤ c ∧ c ≤ 1000) :
    M.valL l (M.wholeP l ps) of c = dot (fun i => (M.wholeP l ps).getD i 0 * (of (l.getD i dfC) - c)) l.length ∧ (M.valL l (M.wholeP l ps) of c).natAbs ≤ 100000000 := by
  have hf := fold_small (f := fun a i => IntKind.i64.wrap (a + IntKind.i64.wrap ((M.wholeP l ps).getD i 0 * IntKind.i64.wrap (of (l.getD i dfC) - c)))) (y := fun i => (M.wholeP l ps).getD i 0 * (of (l.getD i dfC) - c)) (n := l.length)
    (fun a i hi => by have := hof i hi; rw [wrap_add_wrap, wrap_id (n := of (l.getD i dfC) - c) (by omega) (by omega)]) (fun i hi => mul_tiny (whole_b h hi) (by have := hof i hi; omega)) h.n10
  have e : M.valL l (M.wholeP l ps) of c = (List.range l.length).foldl (fun a i => IntKind.i64.wrap (a + IntKind.i64.wrap ((M.wholeP l ps).getD i 0 * IntKind.i64.wrap (of (l.getD i dfC) - c)))) 0 := rfl
  have := h.n10
  rw [e, hf.1]
  exact ⟨rfl, by omega⟩
theorem dot_nn {y : Nat → Int} : ∀ {n : Nat}, (∀ i, i < n → 0 ≤ y i) → 0 ≤ dot y n
  | 0, _ => Int.le_refl _
  | n + 1, h => by
    have h1 := dot_nn (n := n) fun i hi => h i (by omega)
    have h2 := h n (by omega)
    show 0 ≤ dot y n + y n
    omega
theorem val0W (h : RightT l) {of : Cask → Int} (hof : ∀ i, i < l.length → 0 ≤ of (l.getD i dfC) ∧ of (l.getD i dfC) ≤ 1000) : M.valL l (M.wholeP l ps) of 0 = M.sumP of l (M.wholeP l ps) ∧ 0 ≤ M.sumP of l (M.wholeP l ps) ∧ M.sumP of l (M.wholeP l ps) ≤ 100000000 := by
  have h1 := valW (ps := ps) h hof (c := 0) (by decide)
  have h2 := sumW (ps := ps) h (of := of) (fun i hi => by have := hof i hi; omega)
  have e : dot (fun i => (M.wholeP l ps).getD i 0 * (of (l.getD i dfC) - 0)) l.length = dot (fun i => (M.wholeP l ps).getD i 0 * of (l.getD i dfC)) l.length := dot_congr fun i _ => by rw [Int.sub_zero]
  have h0 := dot_nn (y := fun i => (M.wholeP l ps).getD i 0 * of (l.getD i dfC)) (n := l.length) fun i hi => Int.mul_nonneg (whole_b h hi).1 (hof i hi).1
  refine ⟨by rw [h1.1, e, h2.1], by rw [h2.1]; exact h0, by have := h2.2; omega⟩
theorem ediv_of {a V q : Int} (hV : 0 < V) (h1 : q * V ≤ a) (h2 : a < (q + 1) * V) : a / V = q := by
  have e := Int.mul_ediv_add_emod a V
  have r0 := Int.emod_nonneg a (show V ≠ 0 by omega)
  have r1 := Int.emod_lt_of_pos a hV
  rw [Int.mul_comm] at e
  rcases Int.lt_trichotomy (a / V) q with h | h | h
  · have := Int.mul_le_mul_of_nonneg_right (show a / V + 1 ≤ q by omega) (Int.le_of_lt hV)
    rw [Int.add_mul, Int.one_mul] at this; omega
  · exact h
  · have := Int.mul_le_mul_of_nonneg_right (show q + 1 ≤ a / V by omega) (Int.le_of_lt hV); omega
theorem ceil_up {n V : Int} (hV : 0 < V) : (n + V - 1) / V = -((-n) / V) := by
  obtain ⟨c1, c2⟩ := ceil_spec (n := n) hV
  rw [Int.sub_mul, Int.one_mul] at c1
  exact ediv_of hV (by omega) (by rw [Int.add_mul, Int.one_mul]; omega)
end
end Go.Bl
end

section
set_option linter.unusedVariables false
set_option linter.unusedSimpArgs false
set_option maxRecDepth 100000
namespace Go.Bl
open Go.V Go.Proofs
namespace M
structure Means where
  r0 : Rg
  r1 : Rg
  r2 : Rg
  r3 : Rg
  e : Int
end M
theorem kinds {l' : List Cask} (h : RightT l') {ps : List Int} (k : Int) (hk : k = 0 ∨ k = 1 ∨ k = 2 ∨ k = 3) : M.valL l' (M.wholeP l' ps) (M.kOf k) 0 = M.sumP (M.kOf k) l' (M.wholeP l' ps) ∧ 0 ≤ M.sumP (M.kOf k) l' (M.wholeP l' ps) ∧ M.sumP (M.kOf k) l' (M.wholeP l' ps) ≤ 100000000 := by
  refine val0W h fun i hi => ?_
  have := h.rc i hi
  rcases hk with rfl | rfl | rfl | rfl
  · exact this.k0
  · exact this.k1
  · exact this.k2
  · exact this.k3
theorem quo (n V : Int) (h0 : 0 ≤ n) (h1 : n ≤ 100000000) (hV : 0 < V) (hV1 : V ≤ 100000000) : IntKind.i64.wrap (n.tdiv V) = n / V ∧ IntKind.i64.wrap ((IntKind.i64.wrap (IntKind.i64.wrap (n + V) - 1)).tdiv V) = -((-n) / V) := by
  rw [wrap_id (n := n + V) (by omega) (by omega), wrap_id (n := n + V - 1) (by omega) (by omega), Int.tdiv_eq_ediv_of_nonneg h0, Int.tdiv_eq_ediv_of_nonneg (by omega), ← ceil_up hV]
  have a := Int.natAbs_ediv_le_natAbs n V
  have b := Int.natAbs_ediv_le_natAbs (n + V - 1) V
  exact ⟨wrap_id (by omega) (by omega), wrap_id (by omega) (by omega)⟩
end Go.Bl
end

section
set_option linter.unusedVariables false
set_option linter.unusedSimpArgs false
set_option maxRecDepth 100000
namespace Go.Bl
open Go.V Go.Proofs
theorem wp_true {α : Type} {t e : T α} {Q : α → Prop} : (T.br true t e).wp Q = t.wp Q := propext ⟨fun h => h.1 rfl, fun h => ⟨fun _ => h, fun e => by cases e⟩⟩
theorem wp_false {α : Type} {t e : T α} {Q : α → Prop} : (T.br false t e).wp Q = e.wp Q := propext ⟨fun h => h.2 rfl, fun h => ⟨(fun e => by cases e), fun _ => h⟩⟩
theorem wp_needE {α : Type} {p : Prop} {t : T α} {Q : α → Prop} : (T.need p t).wp Q = (p ∧ t.wp Q) := rfl
theorem ne_true {a : Int} (h : a ≠ 0) : (a != 0) = true := by simpa using h
theorem ne_false : ((0 : Int) != 0) = false := rfl
end Go.Bl
end

section
set_option linter.unusedVariables false
set_option linter.unusedSimpArgs false
set_option maxRecDepth 100000
namespace Go.Bl
open Go.V Go.Proofs Go.Lp
section
variable {l : List Cask} {s : Sample} {w : Wts} {x : M.Corner}
theorem wts_right {wo : List Int} (h : RightL l s) (hp : Proof l s wo w) : RightW l s w := by
  obtain ⟨a1, ⟨a2, a3, a4, a5⟩, a6, a7, a8, a9⟩ := hp.all
  exact ⟨h, hp.den, hp.each, hp.len, fun i => by have := a1 i; omega, ⟨by omega, by omega, by omega, by omega⟩, ⟨by omega, by omega, by omega, by omega⟩⟩
theorem proves_best (ht : M.taskErr l s = 0) (hx : BestS l s x) : M.proves l s (M.wtsOf x l.length) = (M.told1 (cost l x.pt) x.den, M.told2 (cost l x.pt) x.den, 0) := by
  have h := task_right ht
  have hR := wts_right h hx.p
  have hd := hx.p.den
  have ho : (M.openW l s (M.wtsOf x l.length) != 0) = false := by rw [openW_of ht hR]; rfl
  rw [proves_ok ho (fun k hk => decide_eq_false (by
    have hc := (h.rc k hk).cost
    have hg := hx.p.gift k hk
    rw [costs_en hk] at hg
    have h1 : (l.getD k dfC).cost * (M.wtsOf x l.length).den ≤ 1000 * 200000000000 := Int.mul_le_mul hc.2 hd.2 (by omega) (by omega)
    have h2 : 0 ≤ (l.getD k dfC).cost * (M.wtsOf x l.length).den := Int.mul_nonneg hc.1 (by omega)
    rw [giveR_eq hR hk, Int.mul_comm (M.wtsOf x l.length).den, wrap_id (by omega) (by omega)]
    omega)), (boundR_eq hR).1]
  obtain ⟨e1, e2⟩ := told_congr (n := bound l s (M.wtsOf x l.length)) (d := (M.wtsOf x l.length).den) (n' := cost l x.pt) (d' := x.den) (by omega) hx.b.dp (by rw [hx.eq, Int.mul_comm])
  rw [e1, e2]
theorem partFrom_ok {den : Int} {ps : List Int} : ∀ (n i : Nat), (∀ j, i ≤ j → j < i + n → M.partAt l den ps j = 0) → M.partFrom l den ps n i = 0
  | 0, _, _ => rfl
  | n + 1, i, h => by
    unfold M.partFrom
    rw [h i (Nat.le_refl _) (by omega)]
    exact partFrom_ok n (i + 1) fun j h1 h2 => h j (by omega) (by omega)
theorem openErr_of (ht : M.taskErr l s = 0) {pt : List Int} {den far : Int} (hb : Blend l s pt den far) (hd : den ≤ 200000000000) (hl : pt.length = l.length) : M.openErr l s den pt = 0 := by
  have h := task_right ht
  have hp := hb.parts h hd hl
  have hdp := hb.dp
  have e1 : M.partErr l den pt = 0 := by
    have e2 : M.partHead l den pt = 0 := by
      unfold M.partHead
      rw [within_yes hp.den, beq_of_eq (show (pt.length : Int) = (l.length : Int) by rw [hl])]; rfl
    unfold M.partErr
    rw [e2]
    refine partFrom_ok _ _ fun j _ hj => ?_
    have hj : j < l.length := by omega
    have hv := (h.rc j hj).vol
    have h0 : 0 ≤ pt.getD j 0 := hb.p0 j hj
    have h1 : pt.getD j 0 ≤ (l.getD j dfC).vol * den := hb.p1 j hj
    have b1 : (l.getD j dfC).vol * den ≤ 10000 * 200000000000 := Int.mul_le_mul hv.2 hd (by omega) (by omega)
    have b0 : 0 ≤ (l.getD j dfC).vol * den := Int.mul_nonneg hv.1 (by omega)
    unfold M.partAt
    rw [Int.mul_comm den, wrap_id (by omega) (by omega), decide_eq_true h0, decide_eq_true h1]; rfl
  unfold M.openErr
  rw [ht, e1]
  have hv := (sample_right (s := s) (by
    have := ht
    unfold M.taskErr at this
    exact first_nil _ this _ (by simp))).1
  have b1 : s.vol * den ≤ 10000 * 200000000000 := Int.mul_le_mul hv.2 hd (by omega) (by omega)
  have b0 : 0 ≤ s.vol * den := Int.mul_nonneg (by omega) (by omega)
  show M.unl (M.sumP (fun _ => 1) l pt == IntKind.i64.wrap (den * s.vol)) 14 = 0
  rw [sum_vol h hp, hb.sum, Int.mul_comm den, wrap_id (by omega) (by omega), beq_of_eq rfl]; rfl
theorem blend_best (ht : M.taskErr l s = 0) (hx : BestS l s x) : M.blendR l s x.den x.pt = (M.told1 (cost l x.pt) x.den, M.told2 (cost l x.pt) x.den, 0) := by
  have h := task_right ht
  have ho : (M.openErr l s x.den x.pt != 0) = false := by rw [openErr_of ht hx.b hx.d hx.pl]; rfl
  have hO := open_of h hx.b hx.d hx.pl
  have ha : M.away l x.pt s ≤ 0 := (away_le h hO).2 ⟨Int.le_refl _, fun k hk => ⟨hx.b.hi k hk, hx.b.lo k hk⟩⟩
  rw [blendR_ok ho, decide_eq_false (by omega), sum_cost h hO.parts]; rfl
theorem told1_pos {n d : Int} (h : 0 < n) : 0 < M.told1 n d := by
  unfold M.told1
  have hg : ((Int.gcd n d : Nat) : Int) ∣ n := Int.gcd_dvd_left ..
  have e := Int.tdiv_mul_cancel hg
  rcases Int.lt_or_le 0 (n.tdiv (Int.gcd n d)) with h1 | h1
  · exact h1
  · have := Int.mul_nonpos_of_nonpos_of_nonneg h1 (Int.natCast_nonneg (Int.gcd n d))
    omega
theorem near_clash (ht : M.taskErr l s = 0) (he : (M.best l s).e = 12) : (M.near l s).e = 24 ∨
    ((M.near l s).e = 0 ∧ (M.near l s).pt.length = l.length ∧ (M.blendR l s (M.near l s).den (M.near l s).pt).2.2 = 13 ∧ (M.near l s).d0 > 0) := by
  have h := task_right ht
  rcases near_cases ht with ⟨_, e⟩ | ⟨hv, x, hx, e⟩
  · rw [e]; exact .inl rfl
  rw [e]
  have h0 : 0 < en x.pt l.length := by
    rcases Int.lt_or_le 0 (en x.pt l.length) with h1 | h1
    · exact h1
    · have hb := hx.b
      have hz : en x.pt l.length = 0 := by have := hx.f0; omega
      rw [hz] at hb
      have := (best_e ht).1.2 ⟨_, _, hb⟩
      omega
  obtain ⟨hO, hb⟩ := near_take h hx
  have hlen : (x.pt.take l.length).length = l.length := by rw [List.length_take, hx.pl]; omega
  have ho : (M.openErr l s x.den (x.pt.take l.length) != 0) = false := by rw [openErr_of ht hb hx.d hlen]; rfl
  refine .inr ⟨rfl, hlen, ?_, told1_pos h0⟩
  show (M.blendR l s x.den (x.pt.take l.length)).2.2 = 13
  rw [blendR_ok ho, near_away h hx, decide_eq_true (by omega)]; rfl
end
end Go.Bl
end

section
set_option linter.unusedVariables false
set_option linter.unusedSimpArgs false
set_option maxRecDepth 100000
namespace Go.Bl
open Go.V Go.Proofs Go.Lp
def tr17 (l : List Cask) (s : Sample) : T (List Ar) :=
    T.br (!true) (T.ret [Ar.c (D.bool false)]) (T.need (Enc.Is eC (List.length l) (Enc.F eC l)) (T.br (!M.someN (4 : Nat) (Enc.list eC (List.length l) (Enc.F eC l))) (T.ret [Ar.c (D.bool true)]) (T.need (Enc.Is eC (List.length l) (Enc.F eC l)) (T.need (∀ (c : Cask), c ∈ Enc.list eC (List.length l) (Enc.F eC l) → ByteArray.size (Cask.nm c) ≤ (1000000 : Nat)) (T.br (M.taskErr (Enc.list eC (List.length l) (Enc.F eC l)) s != (0 : Int)) (T.ret [Ar.c (D.bool true)]) (T.need (Enc.Is eC (List.length l) (Enc.F eC l)) (T.need (List.length (Enc.list eC (List.length l) (Enc.F eC l)) ≤ (1000000 : Nat)) (T.need (Enc.Is eC (List.length l) (Enc.F eC (Enc.list eC (List.length l) (Enc.F eC l)))) (T.need (∀ (c : Cask), c ∈ Enc.list eC (List.length l) (Enc.F eC (Enc.list eC (List.length l) (Enc.F eC l))) → ByteArray.size (Cask.nm c) ≤ (1000000 : Nat)) (T.need (Enc.Is eC (List.length l) (Enc.F eC l)) (T.need (List.length (Enc.list eC (List.length l) (Enc.F eC l)) ≤ (1000000 : Nat)) (T.need (Enc.Is eC (List.length l) (Enc.F eC (Enc.list eC (List.length l) (Enc.F eC l)))) (T.need (∀ (c : Cask), c ∈ Enc.list eC (List.length l) (Enc.F eC (Enc.list eC (List.length l) (Enc.F eC l))) → ByteArray.size (Cask.nm c) ≤ (1000000 : Nat)) (T.need (List.length (Enc.list eC (List.length l) (Enc.F eC (Enc.list eC (List.length l) (Enc.F eC l)))) ≤ (1000000 : Nat)) (T.br (((M.best (Enc.list eC (List.length l) (Enc.F eC (Enc.list eC (List.length l) (Enc.F eC l)))) s).6 == (0 : Int)) == (Prod.snd (M.failure (Enc.list eC (List.length l) (Enc.F eC (Enc.list eC (List.length l) (Enc.F eC l)))) s) == (0 : Int))) (T.ret [Ar.c (D.bool false)]) (T.br (decide ((Nat.cast (R := Int) (List.length (M.best (Enc.list eC (List.length l) (Enc.F eC (Enc.list eC (List.length l) (Enc.F eC l)))) s).4)) > (12 : Int))) (T.ret [Ar.c (D.bool false)]) (T.br (decide ((Nat.cast (R := Int) (List.length (BestR.w (M.best (Enc.list eC (List.length l) (Enc.F eC (Enc.list eC (List.length l) (Enc.F eC l)))) s)).11)) > (12 : Int))) (T.ret [Ar.c (D.bool false)]) (T.br (decide ((Nat.cast (R := Int) (List.length (Prod.fst (M.failure (Enc.list eC (List.length l) (Enc.F eC (Enc.list eC (List.length l) (Enc.F eC l)))) s)).11)) > (12 : Int))) (T.ret [Ar.c (D.bool false)]) (T.br ((M.best (Enc.list eC (List.length l) (Enc.F eC (Enc.list eC (List.length l) (Enc.F eC l)))) s).6 == (0 : Int)) (T.need (Enc.Is eC (List.length l) (Enc.F eC l)) (T.need (List.length (Enc.list eC (List.length l) (Enc.F eC l)) ≤ (1000000 : Nat)) (T.need (Enc.Is eI (List.length (M.best (Enc.list eC (List.length l) (Enc.F eC (Enc.list eC (List.length l) (Enc.F eC l)))) s).4) (Enc.F eI (M.best (Enc.list eC (List.length l) (Enc.F eC (Enc.list eC (List.length l) (Enc.F eC l)))) s).4)) (T.need (List.length (Enc.list eI (List.length (M.best (Enc.list eC (List.length l) (Enc.F eC (Enc.list eC (List.length l) (Enc.F eC l)))) s).4) (Enc.F eI (M.best (Enc.list eC (List.length l) (Enc.F eC (Enc.list eC (List.length l) (Enc.F eC l)))) s).4)) ≤ (1000000 : Nat)) (T.need (Enc.Is eC (List.length l) (Enc.F eC (Enc.list eC (List.length l) (Enc.F eC l)))) (T.need (Enc.Is eI (List.length (M.best (Enc.list eC (List.length l) (Enc.F eC (Enc.list eC (List.length l) (Enc.F eC l)))) s).4) (Enc.F eI (Enc.list eI (List.length (M.best (Enc.list eC (List.length l) (Enc.F eC (Enc.list eC (List.length l) (Enc.F eC l)))) s).4) (Enc.F eI (M.best (Enc.list eC (List.length l) (Enc.F eC (Enc.list eC (List.length l) (Enc.F eC l)))) s).4)))) (T.need (∀ (c : Cask), c ∈ Enc.list eC (List.length l) (Enc.F eC (Enc.list eC (List.length l) (Enc.F eC l))) → ByteArray.size (Cask.nm c) ≤ (1000000 : Nat)) (T.need (List.length (Enc.list eI (List.length (M.best (Enc.list eC (List.length l) (Enc.F eC (Enc.list eC (List.length l) (Enc.F eC l)))) s).4) (Enc.F eI (Enc.list eI (List.length (M.best (Enc.list eC (List.length l) (Enc.F eC (Enc.list eC (List.length l) (Enc.F eC l)))) s).4) (Enc.F eI (M.best (Enc.list eC (List.length l) (Enc.F eC (Enc.list eC (List.length l) (Enc.F eC l)))) s).4)))) ≤ (1000 : Nat)) (T.need (Enc.Is eC (List.length l) (Enc.F eC l)) (T.need (List.length (Enc.list eC (List.length l) (Enc.F eC l)) ≤ (1000000 : Nat)) (T.need (Enc.Is eI (List.length (BestR.w (M.best (Enc.list eC (List.length l) (Enc.F eC (Enc.list eC (List.length l) (Enc.F eC l)))) s)).11) (Enc.F eI (BestR.w (M.best (Enc.list eC (List.length l) (Enc.F eC (Enc.list eC (List.length l) (Enc.F eC l)))) s)).11)) (T.need (List.length (Enc.list eI (List.length (BestR.w (M.best (Enc.list eC (List.length l) (Enc.F eC (Enc.list eC (List.length l) (Enc.F eC l)))) s)).11) (Enc.F eI (BestR.w (M.best (Enc.list eC (List.length l) (Enc.F eC (Enc.list eC (List.length l) (Enc.F eC l)))) s)).11)) ≤ (1000000 : Nat)) (T.need (Enc.Is eC (List.length l) (Enc.F eC (Enc.list eC (List.length l) (Enc.F eC l)))) (T.need (Enc.Is eI (List.length (BestR.w (M.best (Enc.list eC (List.length l) (Enc.F eC (Enc.list eC (List.length l) (Enc.F eC l)))) s)).11) (Enc.F eI (Enc.list eI (List.length (BestR.w (M.best (Enc.list eC (List.length l) (Enc.F eC (Enc.list eC (List.length l) (Enc.F eC l)))) s)).11) (Enc.F eI (BestR.w (M.best (Enc.list eC (List.length l) (Enc.F eC (Enc.list eC (List.length l) (Enc.F eC l)))) s)).11)))) (T.need (∀ (c : Cask), c ∈ Enc.list eC (List.length l) (Enc.F eC (Enc.list eC (List.length l) (Enc.F eC l))) → ByteArray.size (Cask.nm c) ≤ (1000000 : Nat)) (T.need (List.length (Enc.list eI (List.length (BestR.w (M.best (Enc.list eC (List.length l) (Enc.F eC (Enc.list eC (List.length l) (Enc.F eC l)))) s)).11) (Enc.F eI (Enc.list eI (List.length (BestR.w (M.best (Enc.list eC (List.length l) (Enc.F eC (Enc.list eC (List.length l) (Enc.F eC l)))) s)).11) (Enc.F eI (BestR.w (M.best (Enc.list eC (List.length l) (Enc.F eC (Enc.list eC (List.length l) (Enc.F eC l)))) s)).11)))) ≤ (1000000 : Nat)) (T.need (List.length (Enc.list eC (List.length l) (Enc.F eC (Enc.list eC (List.length l) (Enc.F eC l)))) ≤ (1000000 : Nat)) (T.br (Prod.snd (Prod.snd (M.blendR (Enc.list eC (List.length l) (Enc.F eC (Enc.list eC (List.length l) (Enc.F eC l)))) s (M.best (Enc.list eC (List.length l) (Enc.F eC (Enc.list eC (List.length l) (Enc.F eC l)))) s).3 (Enc.list eI (List.length (M.best (Enc.list eC (List.length l) (Enc.F eC (Enc.list eC (List.length l) (Enc.F eC l)))) s).4) (Enc.F eI (Enc.list eI (List.length (M.best (Enc.list eC (List.length l) (Enc.F eC (Enc.list eC (List.length l) (Enc.F eC l)))) s).4) (Enc.F eI (M.best (Enc.list eC (List.length l) (Enc.F eC (Enc.list eC (List.length l) (Enc.F eC l)))) s).4)))))) == (0 : Int)) (T.br (Prod.snd (Prod.snd (M.proves (Enc.list eC (List.length l) (Enc.F eC (Enc.list eC (List.length l) (Enc.F eC l)))) s { den := (BestR.w (M.best (Enc.list eC (List.length l) (Enc.F eC (Enc.list eC (List.length l) (Enc.F eC l)))) s)).1, each := (BestR.w (M.best (Enc.list eC (List.length l) (Enc.F eC (Enc.list eC (List.length l) (Enc.F eC l)))) s)).2, x0 := (BestR.w (M.best (Enc.list eC (List.length l) (Enc.F eC (Enc.list eC (List.length l) (Enc.F eC l)))) s)).3, x1 := (BestR.w (M.best (Enc.list eC (List.length l) (Enc.F eC (Enc.list eC (List.length l) (Enc.F eC l)))) s)).4, x2 := (BestR.w (M.best (Enc.list eC (List.length l) (Enc.F eC (Enc.list eC (List.length l) (Enc.F eC l)))) s)).5, x3 := (BestR.w (M.best (Enc.list eC (List.length l) (Enc.F eC (Enc.list eC (List.length l) (Enc.F eC l)))) s)).6, y0 := (BestR.w (M.best (Enc.list eC (List.length l) (Enc.F eC (Enc.list eC (List.length l) (Enc.F eC l)))) s)).7, y1 := (BestR.w (M.best (Enc.list eC (List.length l) (Enc.F eC (Enc.list eC (List.length l) (Enc.F eC l)))) s)).8, y2 := (BestR.w (M.best (Enc.list eC (List.length l) (Enc.F eC (Enc.list eC (List.length l) (Enc.F eC l)))) s)).9, y3 := (BestR.w (M.best (Enc.list eC (List.length l) (Enc.F eC (Enc.list eC (List.length l) (Enc.F eC l)))) s)).10, casks := Enc.list eI (List.length (BestR.w (M.best (Enc.list eC (List.length l) (Enc.F eC (Enc.list eC (List.length l) (Enc.F eC l)))) s)).11) (Enc.F eI (Enc.list eI (List.length (BestR.w (M.best (Enc.list eC (List.length l) (Enc.F eC (Enc.list eC (List.length l) (Enc.F eC l)))) s)).11) (Enc.F eI (BestR.w (M.best (Enc.list eC (List.length l) (Enc.F eC (Enc.list eC (List.length l) (Enc.F eC l)))) s)).11))) })) == (0 : Int)) (T.br (Prod.fst (M.blendR (Enc.list eC (List.length l) (Enc.F eC (Enc.list eC (List.length l) (Enc.F eC l)))) s (M.best (Enc.list eC (List.length l) (Enc.F eC (Enc.list eC (List.length l) (Enc.F eC l)))) s).3 (Enc.list eI (List.length (M.best (Enc.list eC (List.length l) (Enc.F eC (Enc.list eC (List.length l) (Enc.F eC l)))) s).4) (Enc.F eI (Enc.list eI (List.length (M.best (Enc.list eC (List.length l) (Enc.F eC (Enc.list eC (List.length l) (Enc.F eC l)))) s).4) (Enc.F eI (M.best (Enc.list eC (List.length l) (Enc.F eC (Enc.list eC (List.length l) (Enc.F eC l)))) s).4))))) == (M.best (Enc.list eC (List.length l) (Enc.F eC (Enc.list eC (List.length l) (Enc.F eC l)))) s).1 && (Prod.fst (Prod.snd (M.blendR (Enc.list eC (List.length l) (Enc.F eC (Enc.list eC (List.length l) (Enc.F eC l)))) s (M.best (Enc.list eC (List.length l) (Enc.F eC (Enc.list eC (List.length l) (Enc.F eC l)))) s).3 (Enc.list eI (List.length (M.best (Enc.list eC (List.length l) (Enc.F eC (Enc.list eC (List.length l) (Enc.F eC l)))) s).4) (Enc.F eI (Enc.list eI (List.length (M.best (Enc.list eC (List.length l) (Enc.F eC (Enc.list eC (List.length l) (Enc.F eC l)))) s).4) (Enc.F eI (M.best (Enc.list eC (List.length l) (Enc.F eC (Enc.list eC (List.length l) (Enc.F eC l)))) s).4)))))) == (M.best (Enc.list eC (List.length l) (Enc.F eC (Enc.list eC (List.length l) (Enc.F eC l)))) s).2 && true)) (T.ret [Ar.c (D.bool (Prod.fst (M.proves (Enc.list eC (List.length l) (Enc.F eC (Enc.list eC (List.length l) (Enc.F eC l)))) s { den := (BestR.w (M.best (Enc.list eC (List.length l) (Enc.F eC (Enc.list eC (List.length l) (Enc.F eC l)))) s)).1, each := (BestR.w (M.best (Enc.list eC (List.length l) (Enc.F eC (Enc.list eC (List.length l) (Enc.F eC l)))) s)).2, x0 := (BestR.w (M.best (Enc.list eC (List.length l) (Enc.F eC (Enc.list eC (List.length l) (Enc.F eC l)))) s)).3, x1 := (BestR.w (M.best (Enc.list eC (List.length l) (Enc.F eC (Enc.list eC (List.length l) (Enc.F eC l)))) s)).4, x2 := (BestR.w (M.best (Enc.list eC (List.length l) (Enc.F eC (Enc.list eC (List.length l) (Enc.F eC l)))) s)).5, x3 := (BestR.w (M.best (Enc.list eC (List.length l) (Enc.F eC (Enc.list eC (List.length l) (Enc.F eC l)))) s)).6, y0 := (BestR.w (M.best (Enc.list eC (List.length l) (Enc.F eC (Enc.list eC (List.length l) (Enc.F eC l)))) s)).7, y1 := (BestR.w (M.best (Enc.list eC (List.length l) (Enc.F eC (Enc.list eC (List.length l) (Enc.F eC l)))) s)).8, y2 := (BestR.w (M.best (Enc.list eC (List.length l) (Enc.F eC (Enc.list eC (List.length l) (Enc.F eC l)))) s)).9, y3 := (BestR.w (M.best (Enc.list eC (List.length l) (Enc.F eC (Enc.list eC (List.length l) (Enc.F eC l)))) s)).10, casks := Enc.list eI (List.length (BestR.w (M.best (Enc.list eC (List.length l) (Enc.F eC (Enc.list eC (List.length l) (Enc.F eC l)))) s)).11) (Enc.F eI (Enc.list eI (List.length (BestR.w (M.best (Enc.list eC (List.length l) (Enc.F eC (Enc.list eC (List.length l) (Enc.F eC l)))) s)).11) (Enc.F eI (BestR.w (M.best (Enc.list eC (List.length l) (Enc.F eC (Enc.list eC (List.length l) (Enc.F eC l)))) s)).11))) }) == (M.best (Enc.list eC (List.length l) (Enc.F eC (Enc.list eC (List.length l) (Enc.F eC l)))) s).1 && (Prod.fst (Prod.snd (M.proves (Enc.list eC (List.length l) (Enc.F eC (Enc.list eC (List.length l) (Enc.F eC l)))) s { den := (BestR.w (M.best (Enc.list eC (List.length l) (Enc.F eC (Enc.list eC (List.length l) (Enc.F eC l)))) s)).1, each := (BestR.w (M.best (Enc.list eC (List.length l) (Enc.F eC (Enc.list eC (List.length l) (Enc.F eC l)))) s)).2, x0 := (BestR.w (M.best (Enc.list eC (List.length l) (Enc.F eC (Enc.list eC (List.length l) (Enc.F eC l)))) s)).3, x1 := (BestR.w (M.best (Enc.list eC (List.length l) (Enc.F eC (Enc.list eC (List.length l) (Enc.F eC l)))) s)).4, x2 := (BestR.w (M.best (Enc.list eC (List.length l) (Enc.F eC (Enc.list eC (List.length l) (Enc.F eC l)))) s)).5, x3 := (BestR.w (M.best (Enc.list eC (List.length l) (Enc.F eC (Enc.list eC (List.length l) (Enc.F eC l)))) s)).6, y0 := (BestR.w (M.best (Enc.list eC (List.length l) (Enc.F eC (Enc.list eC (List.length l) (Enc.F eC l)))) s)).7, y1 := (BestR.w (M.best (Enc.list eC (List.length l) (Enc.F eC (Enc.list eC (List.length l) (Enc.F eC l)))) s)).8, y2 := (BestR.w (M.best (Enc.list eC (List.length l) (Enc.F eC (Enc.list eC (List.length l) (Enc.F eC l)))) s)).9, y3 := (BestR.w (M.best (Enc.list eC (List.length l) (Enc.F eC (Enc.list eC (List.length l) (Enc.F eC l)))) s)).10, casks := Enc.list eI (List.length (BestR.w (M.best (Enc.list eC (List.length l) (Enc.F eC (Enc.list eC (List.length l) (Enc.F eC l)))) s)).11) (Enc.F eI (Enc.list eI (List.length (BestR.w (M.best (Enc.list eC (List.length l) (Enc.F eC (Enc.list eC (List.length l) (Enc.F eC l)))) s)).11) (Enc.F eI (BestR.w (M.best (Enc.list eC (List.length l) (Enc.F eC (Enc.list eC (List.length l) (Enc.F eC l)))) s)).11))) })) == (M.best (Enc.list eC (List.length l) (Enc.F eC (Enc.list eC (List.length l) (Enc.F eC l)))) s).2 && true)))]) (T.ret [Ar.c (D.bool false)])) (T.ret [Ar.c (D.bool false)])) (T.ret [Ar.c (D.bool false)]))))))))))))))))))) (T.need (Enc.Is eC (List.length l) (Enc.F eC l)) (T.need (List.length (Enc.list eC (List.length l) (Enc.F eC l)) ≤ (1000000 : Nat)) (T.need (Enc.Is eI (List.length (Prod.fst (M.failure (Enc.list eC (List.length l) (Enc.F eC (Enc.list eC (List.length l) (Enc.F eC l)))) s)).11) (Enc.F eI (Prod.fst (M.failure (Enc.list eC (List.length l) (Enc.F eC (Enc.list eC (List.length l) (Enc.F eC l)))) s)).11)) (T.need (List.length (Enc.list eI (List.length (Prod.fst (M.failure (Enc.list eC (List.length l) (Enc.F eC (Enc.list eC (List.length l) (Enc.F eC l)))) s)).11) (Enc.F eI (Prod.fst (M.failure (Enc.list eC (List.length l) (Enc.F eC (Enc.list eC (List.length l) (Enc.F eC l)))) s)).11)) ≤ (1000000 : Nat)) (T.need (Enc.Is eC (List.length l) (Enc.F eC (Enc.list eC (List.length l) (Enc.F eC l)))) (T.need (Enc.Is eI (List.length (Prod.fst (M.failure (Enc.list eC (List.length l) (Enc.F eC (Enc.list eC (List.length l) (Enc.F eC l)))) s)).11) (Enc.F eI (Enc.list eI (List.length (Prod.fst (M.failure (Enc.list eC (List.length l) (Enc.F eC (Enc.list eC (List.length l) (Enc.F eC l)))) s)).11) (Enc.F eI (Prod.fst (M.failure (Enc.list eC (List.length l) (Enc.F eC (Enc.list eC (List.length l) (Enc.F eC l)))) s)).11)))) (T.need (∀ (c : Cask), c ∈ Enc.list eC (List.length l) (Enc.F eC (Enc.list eC (List.length l) (Enc.F eC l))) → ByteArray.size (Cask.nm c) ≤ (1000000 : Nat)) (T.need (List.length (Enc.list eI (List.length (Prod.fst (M.failure (Enc.list eC (List.length l) (Enc.F eC (Enc.list eC (List.length l) (Enc.F eC l)))) s)).11) (Enc.F eI (Enc.list eI (List.length (Prod.fst (M.failure (Enc.list eC (List.length l) (Enc.F eC (Enc.list eC (List.length l) (Enc.F eC l)))) s)).11) (Enc.F eI (Prod.fst (M.failure (Enc.list eC (List.length l) (Enc.F eC (Enc.list eC (List.length l) (Enc.F eC l)))) s)).11)))) ≤ (1000000 : Nat)) (T.need (List.length (Enc.list eC (List.length l) (Enc.F eC (Enc.list eC (List.length l) (Enc.F eC l)))) ≤ (1000000 : Nat)) (T.br (M.fails (Enc.list eC (List.length l) (Enc.F eC (Enc.list eC (List.length l) (Enc.F eC l)))) s { den := (Prod.fst (M.failure (Enc.list eC (List.length l) (Enc.F eC (Enc.list eC (List.length l) (Enc.F eC l)))) s)).1, each := (Prod.fst (M.failure (Enc.list eC (List.length l) (Enc.F eC (Enc.list eC (List.length l) (Enc.F eC l)))) s)).2, x0 := (Prod.fst (M.failure (Enc.list eC (List.length l) (Enc.F eC (Enc.list eC (List.length l) (Enc.F eC l)))) s)).3, x1 := (Prod.fst (M.failure (Enc.list eC (List.length l) (Enc.F eC (Enc.list eC (List.length l) (Enc.F eC l)))) s)).4, x2 := (Prod.fst (M.failure (Enc.list eC (List.length l) (Enc.F eC (Enc.list eC (List.length l) (Enc.F eC l)))) s)).5, x3 := (Prod.fst (M.failure (Enc.list eC (List.length l) (Enc.F eC (Enc.list eC (List.length l) (Enc.F eC l)))) s)).6, y0 := (Prod.fst (M.failure (Enc.list eC (List.length l) (Enc.F eC (Enc.list eC (List.length l) (Enc.F eC l)))) s)).7, y1 := (Prod.fst (M.failure (Enc.list eC (List.length l) (Enc.F eC (Enc.list eC (List.length l) (Enc.F eC l)))) s)).8, y2 := (Prod.fst (M.failure (Enc.list eC (List.length l) (Enc.F eC (Enc.list eC (List.length l) (Enc.F eC l)))) s)).9, y3 := (Prod.fst (M.failure (Enc.list eC (List.length l) (Enc.F eC (Enc.list eC (List.length l) (Enc.F eC l)))) s)).10, casks := Enc.list eI (List.length (Prod.fst (M.failure (Enc.list eC (List.length l) (Enc.F eC (Enc.list eC (List.length l) (Enc.F eC l)))) s)).11) (Enc.F eI (Enc.list eI (List.length (Prod.fst (M.failure (Enc.list eC (List.length l) (Enc.F eC (Enc.list eC (List.length l) (Enc.F eC l)))) s)).11) (Enc.F eI (Prod.fst (M.failure (Enc.list eC (List.length l) (Enc.F eC (Enc.list eC (List.length l) (Enc.F eC l)))) s)).11))) } != (0 : Int)) (T.ret [Ar.c (D.bool false)]) (T.need (Enc.Is eC (List.length l) (Enc.F eC l)) (T.need (List.length (Enc.list eC (List.length l) (Enc.F eC l)) ≤ (1000000 : Nat)) (T.need (Enc.Is eC (List.length l) (Enc.F eC (Enc.list eC (List.length l) (Enc.F eC l)))) (T.need (∀ (c : Cask), c ∈ Enc.list eC (List.length l) (Enc.F eC (Enc.list eC (List.length l) (Enc.F eC l))) → ByteArray.size (Cask.nm c) ≤ (1000000 : Nat)) (T.need (List.length (Enc.list eC (List.length l) (Enc.F eC (Enc.list eC (List.length l) (Enc.F eC l)))) ≤ (1000000 : Nat)) (T.br ((M.near (Enc.list eC (List.length l) (Enc.F eC (Enc.list eC (List.length l) (Enc.F eC l)))) s).5 != (0 : Int)) (T.ret [Ar.c (D.bool ((M.near (Enc.list eC (List.length l) (Enc.F eC (Enc.list eC (List.length l) (Enc.F eC l)))) s).5 == (24 : Int)))]) (T.br (decide ((Nat.cast (R := Int) (List.length (M.near (Enc.list eC (List.length l) (Enc.F eC (Enc.list eC (List.length l) (Enc.F eC l)))) s).2)) > (12 : Int))) (T.ret [Ar.c (D.bool false)]) (T.need (Enc.Is eC (List.length l) (Enc.F eC l)) (T.need (List.length (Enc.list eC (List.length l) (Enc.F eC l)) ≤ (1000000 : Nat)) (T.need (Enc.Is eI (List.length (M.near (Enc.list eC (List.length l) (Enc.F eC (Enc.list eC (List.length l) (Enc.F eC l)))) s).2) (Enc.F eI (M.near (Enc.list eC (List.length l) (Enc.F eC (Enc.list eC (List.length l) (Enc.F eC l)))) s).2)) (T.need (List.length (Enc.list eI (List.length (M.near (Enc.list eC (List.length l) (Enc.F eC (Enc.list eC (List.length l) (Enc.F eC l)))) s).2) (Enc.F eI (M.near (Enc.list eC (List.length l) (Enc.F eC (Enc.list eC (List.length l) (Enc.F eC l)))) s).2)) ≤ (1000000 : Nat)) (T.need (Enc.Is eC (List.length l) (Enc.F eC (Enc.list eC (List.length l) (Enc.F eC l)))) (T.need (Enc.Is eI (List.length (M.near (Enc.list eC (List.length l) (Enc.F eC (Enc.list eC (List.length l) (Enc.F eC l)))) s).2) (Enc.F eI (Enc.list eI (List.length (M.near (Enc.list eC (List.length l) (Enc.F eC (Enc.list eC (List.length l) (Enc.F eC l)))) s).2) (Enc.F eI (M.near (Enc.list eC (List.length l) (Enc.F eC (Enc.list eC (List.length l) (Enc.F eC l)))) s).2)))) (T.need (∀ (c : Cask), c ∈ Enc.list eC (List.length l) (Enc.F eC (Enc.list eC (List.length l) (Enc.F eC l))) → ByteArray.size (Cask.nm c) ≤ (1000000 : Nat)) (T.need (List.length (Enc.list eI (List.length (M.near (Enc.list eC (List.length l) (Enc.F eC (Enc.list eC (List.length l) (Enc.F eC l)))) s).2) (Enc.F eI (Enc.list eI (List.length (M.near (Enc.list eC (List.length l) (Enc.F eC (Enc.list eC (List.length l) (Enc.F eC l)))) s).2) (Enc.F eI (M.near (Enc.list eC (List.length l) (Enc.F eC (Enc.list eC (List.length l) (Enc.F eC l)))) s).2)))) ≤ (1000 : Nat)) (T.br (Prod.snd (Prod.snd (M.blendR (Enc.list eC (List.length l) (Enc.F eC (Enc.list eC (List.length l) (Enc.F eC l)))) s (M.near (Enc.list eC (List.length l) (Enc.F eC (Enc.list eC (List.length l) (Enc.F eC l)))) s).1 (Enc.list eI (List.length (M.near (Enc.list eC (List.length l) (Enc.F eC (Enc.list eC (List.length l) (Enc.F eC l)))) s).2) (Enc.F eI (Enc.list eI (List.length (M.near (Enc.list eC (List.length l) (Enc.F eC (Enc.list eC (List.length l) (Enc.F eC l)))) s).2) (Enc.F eI (M.near (Enc.list eC (List.length l) (Enc.F eC (Enc.list eC (List.length l) (Enc.F eC l)))) s).2)))))) == (13 : Int)) (T.ret [Ar.c (D.bool (decide ((M.near (Enc.list eC (List.length l) (Enc.F eC (Enc.list eC (List.length l) (Enc.F eC l)))) s).3 > (0 : Int))))]) (T.ret [Ar.c (D.bool false)]))))))))))))))))))))))))))))))))))))))))))))))
theorem t17 (q_l : Bool) (l : List Cask) (sv l0 h0 l1 h1 l2 h2 l3 h3 : Int) : runFnX Try.prog G0 (lookS [v60, v19, v22, v20f, v21, v59, v53, v51, v55, v56, v57, v26f]) (fun _ => []) [] 1 20 3 17 Try.f17 [.c (.sl q_l l.length 7 (eC.F l)), .agg [dI sv, dI l0, dI h0, dI l1, dI h1, dI l2, dI h2, dI l3, dI h3]] =
    tr17 l (⟨sv, ⟨l0, h0⟩, ⟨l1, h1⟩, ⟨l2, h2⟩, ⟨l3, h3⟩⟩ : Sample) := by kernel_rfl
theorem w17 (l : List Cask) (s : Sample) : (tr17 l s).wp (fun rs => rsEqv rs [rB true]) := by
  unfold tr17
  simp only [Enc.list_F]
  refine wp_br (fun hb => absurd hb (by decide)) (fun _ => ⟨Enc.is_F _ _ _, wp_br (fun _ => rsEqv_refl _) (fun hb => ?_)⟩)
  have hs : M.someN 4 l = true := by simpa using hb
  obtain ⟨hl, hn⟩ := someN_small hs
  have hn' : ∀ c, c ∈ l → c.nm.size ≤ 1000000 := fun c hc => Nat.le_trans (hn c hc) (by decide)
  have hl' : l.length ≤ 1000000 := by omega
  by_cases ht : M.taskErr l s = 0
  · have h4 := (task_right ht).n4
    have h120 : ((12 : Int) == 0) = false := rfl
    have h012 : ((0 : Int) == 12) = false := rfl
    have htf : (true == false) = false := rfl
    have hft : (false == true) = false := rfl
    have no : ∀ {k : Nat}, k ≤ 4 → decide (((k : Nat) : Int) > 12) = false := fun hk => decide_eq_false (by omega)
    rcases one_of_two ht with ⟨e1, e2⟩ | ⟨e1, e2, e3, e4⟩
    · rcases best_cases ht with ⟨x, hx, eb⟩ | ⟨_, eb⟩
      · have eb2 := bestC_eq (task_right ht) hx
        have hpl := hx.pl
        have hwl := hx.p.len
        have b1 := blend_best ht hx
        have b2 := proves_best ht hx
        rw [eb, eb2]
        have hz : M.zeroW.casks.length = 0 := rfl
        generalize M.wtsOf x l.length = W at *
        obtain ⟨a0, a1, a2, a3, a4, a5, a6, a7, a8, a9, cs⟩ := W
        simp only at hwl
        have k1 := no (k := x.pt.length) (by omega)
        have k2 := no (k := cs.length) (by omega)
        have k3 := no (k := 0) (by omega)
        have g1 : x.pt.length ≤ 1000000 := by omega
        have g2 : x.pt.length ≤ 1000 := by omega
        have g3 : cs.length ≤ 1000000 := by omega
        simp only [e2, ht, b1, b2, hz, k1, k2, k3, h120, h012, htf, hft, ne_false, beq_self_eq_true, bne_self_eq_false, Bool.and_self, Bool.and_true, Bool.not_true, wp_needE, wp_true, wp_false]
        repeat' first | exact Enc.is_F _ _ _ | assumption | exact rsEqv_refl _ | exact fun _ => rsEqv_refl _ | exact fun e => absurd e (by decide) | constructor
      · rw [eb] at e1; exact absurd e1 (by decide)
    · have e5 : M.best l s = ⟨0, 0, 0, [], M.zeroW, 12⟩ := by
        rcases best_cases ht with ⟨x, hx, eb⟩ | ⟨_, eb⟩
        · rw [eb] at e1; exact absurd e1 (show ¬ (0 : Int) = 12 by decide)
        · exact eb
      rw [e5]
      have hz : M.zeroW.casks.length = 0 := rfl
      generalize M.failure l s = F at *
      obtain ⟨⟨a0, a1, a2, a3, a4, a5, a6, a7, a8, a9, cs⟩, e⟩ := F
      simp only at e2 e3 e4
      subst e2
      have hcs : cs.length ≤ 1000000 := by omega
      have k1 := no (k := 0) (by omega)
      have k2 := no (k := cs.length) (by omega)
      rcases near_clash ht e1 with n1 | ⟨n1, n2, n3, n4⟩
      · have h24 : ((24 : Int) != 0) = true := rfl
        simp only [ht, e4, n1, hz, k1, k2, h24, List.length_nil, h120, h012, htf, hft, ne_false, beq_self_eq_true, bne_self_eq_false, Bool.and_self, Bool.and_true, Bool.not_true, wp_needE, wp_true, wp_false]
        repeat' first | exact Enc.is_F _ _ _ | assumption | exact rsEqv_refl _ | exact fun _ => rsEqv_refl _ | exact fun e => absurd e (by decide) | constructor
      · have k3 := no (k := (M.near l s).pt.length) (by omega)
        have g1 : (M.near l s).pt.length ≤ 1000000 := by omega
        have g2 : (M.near l s).pt.length ≤ 1000 := by omega
        have n5 : decide ((M.near l s).d0 > 0) = true := decide_eq_true n4
        simp only [ht, e4, n1, n3, n5, hz, k1, k2, k3, List.length_nil, h120, h012, htf, hft, ne_false, beq_self_eq_true, bne_self_eq_false, Bool.and_self, Bool.and_true, Bool.not_true, wp_needE, wp_true, wp_false]
        repeat' first | exact Enc.is_F _ _ _ | assumption | exact rsEqv_refl _ | exact fun _ => rsEqv_refl _ | exact fun e => absurd e (by decide) | constructor
  · rw [ne_true ht]
    simp only [ne_false, beq_self_eq_true, bne_self_eq_false, Bool.and_self, Bool.and_true, Bool.not_true, wp_needE, wp_true, wp_false]
    repeat' first | exact Enc.is_F _ _ _ | assumption | exact rsEqv_refl _ | exact fun _ => rsEqv_refl _ | exact fun e => absurd e (by decide) | constructor
def dom17 : DomF
  | [.c (.sl _ n_l st_l F_l), .agg [.int .i64 sv, .int .i64 l0, .int .i64 h0, .int .i64 l1, .int .i64 h1, .int .i64 l2, .int .i64 h2, .int .i64 l3, .int .i64 h3]] => (match Nat.beq st_l 7 with
    | true => some ([eC.Is n_l F_l], [rB true])
    | _ => none)
  | _ => none
theorem C17 : FOK Try.prog G0 gw 17 dom17 := by
  intro ags p r hd hp κ w xs hw hl hG hx
  unfold dom17 at hd
  split at hd
  · rename_i q_l n_l st_l F_l sv l0 h0 l1 h1 l2 h2 l3 h3
    split at hd
    · rename_i hst
      have g1 := hst
      have g1 := Nat.eq_of_beq_eq_true g1
      subst g1
      simp only [Option.some.injEq, Prod.mk.injEq] at hd
      obtain ⟨rfl, rfl⟩ := hd
      obtain ⟨hI_l, hp⟩ := hp
      have heq : agsEqv [.c (.sl q_l n_l 7 F_l), .agg [.int .i64 sv, .int .i64 l0, .int .i64 h0, .int .i64 l1, .int .i64 h1, .int .i64 l2, .int .i64 h2, .int .i64 l3, .int .i64 h3]] [.c (.sl q_l (eC.list n_l F_l).length 7 (eC.F (eC.list n_l F_l))), .agg [.int .i64 sv, .int .i64 l0, .int .i64 h0, .int .i64 l1, .int .i64 h1, .int .i64 l2, .int .i64 h2, .int .i64 l3, .int .i64 h3]] := ⟨eC.to id hI_l, Ag.eqv_refl _, trivial⟩
      have len_l : (eC.list n_l F_l).length = n_l := eC.list_len
      generalize eC.list n_l F_l = l at *
      subst len_l
      exact fokX_fin mixed gw_stable (sl := [v60, v19, v22, v20f, v21, v59, v53, v51, v55, v56, v57, v26f]) ⟨S60, S19, S22, S20f, S21, S59, S53, S51, S55, S56, S57, S26f, trivial⟩ Try.func17 hw hl hG hx heq rfl (t17 q_l l sv l0 h0 l1 h1 l2 h2 l3 h3) (w17 l _)
    · cases hd
  · cases hd
end Go.Bl
end

section
set_option linter.unusedVariables false
set_option linter.unusedSimpArgs false
namespace Go.Rw
open Go Go.ChangeShapes Go.WideShapes Go.RowKit Go.ChangeAt
open Go.V (F2 D fullK fullK_cell f2_append f2_len f2_get)
section
variable {H : Type} {enc : TypeId × Value → H} {P : Program} {w : World} {base : Nat} {sp : Nat → Bool} {hd : Bool}
theorem trodAll_below (hl : laidOutB P = true) {W W' : World} (hb : Below W.heap.size W W') : ∀ {ts : List TypeId} {vs : List Value} {ds : List (DataW H)} {ps : List MemPlace},
    (∀ t ∈ ts, P.readableRec t = true ∧ t < P.types.size) → DataW.TrodAll enc P W 0 (fun _ => true) true ts vs ds ps → (∀ x ∈ ps, x.block < W.heap.size) →
    DataW.TrodAll enc P W' 0 (fun b => decide (b < W.heap.size)) true ts vs ds ps
  | [], _, _, _, _, h, _ => by
    obtain ⟨rfl, rfl, rfl⟩ := trodAll_nil h
    exact trodAll_mk0
  | t :: ts, _, _, _, hr, h, hlt => by
    obtain ⟨v, vs1, d, ds1, a, b, rfl, rfl, rfl, h1, h2⟩ := trodAll_cons h
    refine ⟨a, b, ?_, trodAll_below hl hb (fun u hu => hr u (List.mem_cons_of_mem _ hu)) h2 fun x hx => hlt x (List.mem_append_right _ hx), rfl⟩
    have ht := hr t (List.mem_cons_self ..)
    exact Below.trod hl ht.1 ht.2 h1 hb fun x hx => hlt x (List.mem_append_left _ hx)
theorem law_post {fn : Func} {s : ChangeSpec} {apart fresh handsOn : Bool} {W W' : World} {args : Array Value} {ds gs : List (DataW H)} {before : List MemPlace} {tb : TypeId} (hl : laidOutB P = true)
    (hr : ∀ t ∈ fn.params.toList, P.readableRec t = true ∧ t < P.types.size) (hv : s.vars = []) (hrt : fn.resultTypes = #[tb]) (hbool : P.underlying tb = some .bool)
    (hfn : s.fn H ds = { results := [.lit (.bool true)], args := ds })
    (hW : DataW.Whole enc P fn.params.toList s.vars apart W args.toList ds gs before) (hb : Below W.heap.size W W') : s.post enc P fn apart fresh handsOn false W args (.bool true) W' := by
  have hW' := hW
  obtain ⟨p, q, hA, hV, rfl, _, _⟩ := hW'
  have hlt : ∀ x ∈ p ++ q, x.block < W.heap.size := fun x hx => hW.lt x hx
  rw [hv] at hV
  have hgs : gs = [] ∧ q = [] := by
    cases gs with
    | nil => exact ⟨rfl, hV⟩
    | cons g r => exact absurd hV (by intro h; cases h)
  obtain ⟨rfl, rfl⟩ := hgs
  have e : s.fn H (ds ++ []) = { results := [.lit (.bool true)], args := ds } := by rw [List.append_nil]; exact hfn
  refine ⟨ds, [], _, [], p, [], hW, ?_, ?_, ?_, hb.frame _, fun h => by cases h⟩
  · rw [e, hrt]
    exact trodAll_mk1 (shut_bool hbool true)
  · rw [e]
    exact trodAll_below hl hb hr hA fun x hx => hlt x (List.mem_append_left _ hx)
  · rw [e, hv]
    rfl
end
end Go.Rw
end

section
set_option linter.unusedVariables false
set_option linter.unusedSimpArgs false
namespace Go.Rw
open Go Go.ChangeShapes Go.WideShapes Go.RowKit Go.ChangeAt
open Go.V (F2 D fullK fullK_cell f2_append f2_len f2_get)
inductive SK where
  | i
  | s
  | sl (sh : List SK)
inductive DG : SK → D → Prop where
  | i (n : Int) : DG .i (.int .i64 n)
  | s (t : ByteArray) : DG .s (.str t)
  | sl (sh : List SK) (len : Nat) (F : Nat → Nat → D) (h : ∀ i j k, i < len → sh[j]? = some k → DG k (F i j)) : DG (.sl sh) (.sl false len sh.length F)
def MG (w : World) (k : SK) (v : Value) : Prop := ∃ d, DG k d ∧ D.rel (fullK w) d v
def sgFs (P : Program) (g : TypeId → Option (List SK)) : List Field → Nat → Nat → Option (List SK)
  | [], o, c => (match Nat.beq o c with | true => some [] | false => none)
  | f :: fs, o, c => (match Nat.beq f.offset o, g f.type, sgFs P g fs (o + P.cellsOf f.type) c with
    | true, some a, some b => some (a ++ b)
    | _, _, _ => none)
def sgArr (l : List SK) : Nat → List SK
  | 0 => []
  | n + 1 => l ++ sgArr l n
def sg (P : Program) : Nat → TypeId → Option (List SK)
  | 0, _ => none
  | k + 1, t => match P.underlying t with
    | some (.int .i64) => some [.i]
    | some .string => some [.s]
    | some (.struct fs) => sgFs P (sg P k) fs.toList 0 (P.cellsOf t)
    | some (.array n e) => (match sg P k e, Nat.beq (P.cellsOf t) (n * P.cellsOf e) with | some l, true => some (sgArr l n) | _, _ => none)
    | some (.slice e) => (match sg P k e with | some sh => (match Nat.beq (P.cellsOf e) sh.length && Nat.blt 0 sh.length with | true => some [.sl sh] | false => none) | none => none)
    | _ => none
section
variable {H : Type} {enc : TypeId × Value → H} {P : Program} {w : World} {base : Nat} {sp : Nat → Bool} {hd : Bool}
theorem sgFs_spec {R : SK → Value → Prop} {g : TypeId → Option (List SK)} : ∀ (fs : List Field) (o c : Nat) (cs : List Value) {l : List SK}, sgFs P g fs o c = some l → cs.length = c →
    (∀ f ∈ fs, ∀ l', g f.type = some l' → F2 R l' ((cs.drop f.offset).take (P.cellsOf f.type))) → F2 R l (cs.drop o)
  | [], o, c, cs, l, h, hl, _ => by
    unfold sgFs at h
    split at h
    · rename_i hb
      have : o = c := Nat.eq_of_beq_eq_true hb
      simp only [Option.some.injEq] at h
      subst h
      rw [this, ← hl, List.drop_length]
      exact .nil
    · cases h
  | f :: fs, o, c, cs, l, h, hl, hf => by
    simp only [sgFs] at h
    split at h
    · rename_i a b hb ha hrest
      have ho : f.offset = o := Nat.eq_of_beq_eq_true hb
      simp only [Option.some.injEq] at h
      subst h
      have h1 := hf f (List.mem_cons_self ..) a ha
      have h2 := sgFs_spec fs _ c cs hrest hl fun g hg => hf g (List.mem_cons_of_mem _ hg)
      rw [ho] at h1
      have e : cs.drop o = (cs.drop o).take (P.cellsOf f.type) ++ (cs.drop o).drop (P.cellsOf f.type) := (List.take_append_drop _ _).symm
      rw [e, List.drop_drop]
      exact f2_append h1 h2
    · cases h
theorem sgArr_spec {R : SK → Value → Prop} {l : List SK} {c : Nat} : ∀ (n : Nat) (cs : List Value), cs.length = n * c → (∀ i, i < n → F2 R l ((cs.drop (i * c)).take c)) → F2 R (sgArr l n) cs
  | 0, cs, h, _ => by
    have : cs = [] := List.length_eq_zero_iff.1 (by simpa using h)
    subst this
    exact .nil
  | n + 1, cs, h, hf => by
    have h0 := hf 0 (by omega)
    rw [Nat.zero_mul, List.drop_zero] at h0
    have hr := sgArr_spec (c := c) n (cs.drop c) (by rw [List.length_drop, h, Nat.succ_mul]; omega) fun i hi => by
      have := hf (i + 1) (by omega)
      rw [List.drop_drop, show c + i * c = (i + 1) * c by rw [Nat.succ_mul]; omega]
      exact this
    rw [← List.take_append_drop c cs]
    exact f2_append h0 hr
theorem trod_sg : ∀ (k fuel : Nat) (t : TypeId) (cs : List Value) (x : DataW H × List MemPlace) {l : List SK}, sg P k t = some l → DataW.trod enc P w base sp hd fuel t cs = some x → F2 (MG w) l cs
  | 0, _, _, _, _, _, h, _ => by cases h
  | k + 1, fuel, t, cs, x, l, h, hx => by
    unfold sg at h
    split at h
    · rename_i ht
      simp only [Option.some.injEq] at h
      subst h
      obtain ⟨n, rfl, rfl, _⟩ := DataW.trod_int ht hx
      exact .cons ⟨.int .i64 n, .i n, rfl⟩ .nil
    · rename_i ht
      simp only [Option.some.injEq] at h
      subst h
      obtain ⟨s, rfl, rfl, _⟩ := DataW.trod_string ht hx
      exact .cons ⟨.str s, .s s, rfl⟩ .nil
    · rename_i fs ht
      obtain ⟨xs, n, _, rfl, hl, hlen, hf⟩ := DataW.trod_struct ht hx
      have := sgFs_spec (P := P) (R := MG w) fs.toList 0 (P.cellsOf t) cs h hl (by
        intro f hm l' hl'
        obtain ⟨i, hi, hi'⟩ := List.getElem_of_mem hm
        have hgi : fs[i]? = some f := by rw [← Array.getElem?_toList, List.getElem?_eq_getElem hi, hi']
        have hlt : i < xs.length := by rw [hlen]; exact (Array.getElem?_eq_some_iff.1 hgi).1
        have hy : xs[i]? = some xs[i] := List.getElem?_eq_getElem hlt
        have := hf i f hgi
        rw [hy] at this
        exact trod_sg k n f.type _ _ hl' this)
      simpa using this
    · rename_i n e ht
      split at h
      · rename_i l' hl' hcb
        simp only [Option.some.injEq] at h
        subst h
        obtain ⟨xs, m, _, ex, hlen, hl, hel⟩ := DataW.trod_array ht hx
        have hcz : P.cellsOf t = n * P.cellsOf e := Nat.eq_of_beq_eq_true hcb
        refine sgArr_spec (c := P.cellsOf e) n cs (by rw [← hcz]; exact hlen) fun i hi => ?_
        have hlt : i < xs.length := by omega
        have hy : xs[i]? = some xs[i] := List.getElem?_eq_getElem hlt
        have := hel i hi
        rw [hy] at this
        exact trod_sg k m e _ _ hl' this
      · cases h
    · rename_i e ht
      split at h
      · rename_i sh hsh
        split at h
        · rename_i hc
          simp only [Option.some.injEq] at h
          subst h
          rw [Bool.and_eq_true] at hc
          have hn : P.cellsOf e = sh.length := Nat.eq_of_beq_eq_true hc.1
          have hn0 : 0 < sh.length := Nat.le_of_ble_eq_true hc.2
          rcases DataW.trod_slice ht hx with ⟨h1, _⟩ | ⟨a, len0, cap0, elems, rest, n', _, h1, _, _, hlc, _, hel, hget, _⟩
          · rw [h1]
            exact .cons ⟨.sl false 0 sh.length (fun _ _ => .nilp), .sl sh 0 _ (fun i j k hi => by omega), .inl ⟨rfl, rfl, rfl⟩⟩ .nil
          · rw [h1]
            rw [hn] at hget
            have each : ∀ i, i < len0 → ∀ j, j < sh.length → ∃ d, (∀ k', sh[j]? = some k' → DG k' d) ∧ ∃ y, w.cell? ((a.add (i * sh.length)).add j) = some y ∧ D.rel (fullK w) d y := by
              intro i hi j hj
              have hg := hget i hi
              have hlt : i < elems.length := by omega
              rw [List.getElem?_eq_getElem hlt] at hg
              simp only [Option.bind_eq_some_iff] at hg
              obtain ⟨cs, hcs, hx⟩ := hg
              have hF := trod_sg k n' e cs _ hsh hx
              obtain ⟨_, hl, hcell⟩ := World.cells?_some hcs
              obtain ⟨y, hy, hm⟩ := f2_get hF (i := j) (List.getElem?_eq_getElem hj)
              obtain ⟨d, hd1, hd2⟩ := hm
              have hcj := hcell j hj
              exact ⟨d, fun k' hk' => by rw [List.getElem?_eq_getElem hj] at hk'; cases hk'; exact hd1, y, by rw [hcj, hy], hd2⟩
            have spot0 : 0 < len0 → a.spot = none := by
              intro hp
              obtain ⟨_, _, y, hy, _⟩ := each 0 hp 0 hn0
              have := World.cell?_spot hy
              simpa [Addr.add] using this
            refine .cons ⟨.sl false len0 sh.length (fun i j => if h : i < len0 ∧ j < sh.length then Classical.choose (each i h.1 j h.2) else .nilp), .sl sh len0 _ (fun i j k' hi hk' => ?_), .inr ⟨a, cap0, rfl, hlc, spot0, fun i j hi hj => ?_⟩⟩ .nil
            · have hj : j < sh.length := (List.getElem?_eq_some_iff.1 hk').1
              simp only [dif_pos (And.intro hi hj)]
              exact (Classical.choose_spec (each i hi j hj)).1 k' hk'
            · obtain ⟨_, y, hy, hr⟩ := Classical.choose_spec (each i hi j hj)
              have hp : a.spot = none := spot0 (by omega)
              have e1 : (a.add (i * sh.length)).add j = ⟨a.block, a.off + i * sh.length + j, none⟩ := by
                obtain ⟨b, off, spot⟩ := a
                simp only at hp
                subst hp
                rw [Go.WideShapes.add_plain, Go.WideShapes.add_plain]
              rw [e1] at hy
              refine ⟨_, fullK_cell hy, ?_⟩
              simp only [dif_pos (And.intro hi hj)]
              exact hr
        · cases h
      · cases h
    · cases h
theorem open_sl {r : Reach} {b0 : Nat} {t e : TypeId} {v : Value} {d : DataW H} {p : List MemPlace} (k : Nat) {sh : List SK} (ht : P.underlying t = some (.slice e)) (ha : sg P k t = some [.sl sh])
    (hv : Value.okWide P w r b0 t v) (h : DataW.Trod enc P w base sp hd t v d p) : MG w (.sl sh) v := by
  obtain ⟨a0, len0, cap0, rfl⟩ := okWide_slice ht hv
  obtain ⟨fuel, hf⟩ := h
  have hc : (Value.slice a0 len0 cap0).cells.toList = [Value.slice a0 len0 cap0] := rfl
  rw [hc] at hf
  have := trod_sg k fuel t _ _ ha hf
  cases this with
  | cons h _ => exact h
theorem open_st {r : Reach} {b0 : Nat} {t : TypeId} {fs : Array Field} {v : Value} {d : DataW H} {p : List MemPlace} (k : Nat) {l : List SK} (ht : P.underlying t = some (.struct fs)) (ha : sg P k t = some l)
    (hv : Value.okWide P w r b0 t v) (h : DataW.Trod enc P w base sp hd t v d p) : ∃ cs : List Value, F2 (MG w) l cs ∧ v = .agg cs.toArray := by
  obtain ⟨cs, rfl, hsz⟩ := okWide_struct ht hv
  obtain ⟨fuel, hf⟩ := h
  have hF : F2 (MG w) l cs.toList := trod_sg k fuel t _ _ ha hf
  exact ⟨cs.toList, hF, by rw [Array.toArray_toList]⟩
theorem mg_i {v : Value} (h : MG w .i v) : ∃ n, v = .int .i64 n := by
  obtain ⟨d, hd, hr⟩ := h
  cases hd with
  | i n => exact ⟨n, hr⟩
theorem mg_sl {sh : List SK} {v : Value} (h : MG w (.sl sh) v) : ∃ (len : Nat) (F : Nat → Nat → D), (D.sl false len sh.length F).rel (fullK w) v ∧ ∀ i j k, i < len → sh[j]? = some k → DG k (F i j) := by
  obtain ⟨d, hd, hr⟩ := h
  cases hd with
  | sl _ len F hF => exact ⟨len, F, hr, hF⟩
theorem dg_i {d : D} (h : DG .i d) : ∃ n, d = .int .i64 n := by cases h with | i n => exact ⟨n, rfl⟩
theorem dg_s {d : D} (h : DG .s d) : ∃ n, d = .str n := by cases h with | s n => exact ⟨n, rfl⟩
end
end Go.Rw
end
