/- The parts of the engines, of their contracts and of the plain laws that the claim rests on: B7, B18, H1, B19, H3, H4, H2, K1, K2, K3, H5, H6, H7, H8, H9, H10, H11, H12, K4, K5, K6, K7, K8, K9, K10, K11, ZR0, ZRG. -/
import Derived.Test.YtdmmekepjabmnaaFG3
import Derived.Laws.Externs
import Derived.WalkKit
import Derived.ChangeSame
import Derived.ChangeVars
import Derived.ProofKit
import Derived.LaidMore
import Derived.OpenShut
import Derived.Carry
import Derived.ChangeArms
set_option linter.unusedVariables false
set_option linter.unusedSimpArgs false
section
set_option linter.unusedVariables false
set_option linter.unusedSimpArgs false
set_option maxRecDepth 100000
namespace Go.Bl
open Go.Gd
open Go.V Go.Proofs
theorem t64 (q : Bool) (l : List Int) : runFnX Try.prog G0 (lookS []) (fun _ => [(2, [.slot 7 (.int .i64)], none)]) [] 1 40 3 20 Try.f20 [.c (.sl q l.length 1 (eI.F l))] =
    T.loop (Int × PUnit) ((0 : Int), PUnit.unit) fun (x : Int × PUnit) => T.br (decide (Prod.fst x < (Nat.cast (R := Int) (List.length l)))) (T.need ((0 : Int) ≤ Prod.fst x) (T.need (Prod.fst x < (Nat.cast (R := Int) (List.length l))) (T.br (List.getD l (Int.toNat (Prod.fst x)) (0 : Int) != (0 : Int)) (T.ret (Sum.inr [Ar.c (D.int IntKind.i64 (List.getD l (Int.toNat (Prod.fst x)) (0 : Int)))])) (T.ret (Sum.inl (IntKind.wrap IntKind.i64 (Prod.fst x + (1 : Int)), PUnit.unit)))))) (T.ret (Sum.inr [Ar.c (D.int IntKind.i64 (0 : Int))])) := by kernel_rfl
theorem C64 : FOK Try.prog G0 gw 20 dom64 := by
  intro ags p r hd hp κ w xs hw hl hG hx
  unfold dom64 at hd
  split at hd
  · rename_i q len st F
    split at hd
    · rename_i l hst hls
      simp only [Bool.and_eq_true] at hst
      have h1 := Nat.eq_of_beq_eq_true hst.1
      have h2 := Nat.le_of_ble_eq_true hst.2
      subst h1
      obtain ⟨hlen, hF⟩ := intsL_spec hls
      simp only [Option.some.injEq, Prod.mk.injEq] at hd
      obtain ⟨rfl, rfl⟩ := hd
      subst hlen
      refine fokX_fin mixed gw_stable (sl := []) trivial Try.func20 hw hl hG hx (ags' := [.c (.sl q l.length 1 (eI.F l))]) ⟨⟨id, rfl, fun _ => rfl, fun i j hi hj => ?_⟩, trivial⟩ rfl (t64 q l) ?_
      · obtain rfl : j = 0 := by omega
        rw [hF i hi]; exact D.eqv_refl _
      · refine ⟨fun x => 0 ≤ x.1 ∧ x.1 ≤ l.length ∧ M.first l = M.first (l.drop x.1.toNat), fun x => l.length - x.1.toNat, ⟨Int.le_refl _, by simp, by simp⟩, fun x ⟨g1, g2, g3⟩ => ?_⟩
        obtain ⟨k, u⟩ := x
        simp only at g1 g2 g3
        simp only [T.wp, LoopP, decide_eq_true_eq, decide_eq_false_iff_not, bne_iff_ne, ne_eq, bne_eq_false_iff_eq]
        refine ⟨fun hlt => ⟨g1, hlt, fun hne => ?_, fun heq => ?_⟩, fun hge => ?_⟩
        · have hk : k.toNat < l.length := by omega
          rw [g3, getD_drop (d := 0) hk]
          have : (l.getD k.toNat 0 != 0) = true := by simpa using hne
          simp only [M.first, this, cond_true]
          exact rsEqv_refl _
        · have hk : k.toNat < l.length := by omega
          rw [wrap_id (by omega) (by omega)]
          refine ⟨⟨by omega, by omega, ?_⟩, by omega⟩
          rw [g3, getD_drop (d := 0) hk, show (k + 1).toNat = k.toNat + 1 by omega]
          simp only [M.first]
          rw [heq]; rfl
        · have hk : l.length ≤ k.toNat := by omega
          rw [g3, List.drop_of_length_le hk]
          exact rsEqv_refl _
    · cases hd
  · cases hd
theorem S64 : SumOK Try.prog G0 gw 20 (fokSm dom64) := fok_sum Try.func20 rfl C64
theorem t80 (b : Bool) (e : Int) : runFnX Try.prog G0 (lookS []) (fun _ => []) [] 1 40 3 21 Try.f21 [.c (.bool b), .c (dI e)] =
    T.br b (T.ret [Ar.c (D.int IntKind.i64 (0 : Int))]) (T.ret [Ar.c (D.int IntKind.i64 e)]) := by kernel_rfl
theorem C80 : FOK Try.prog G0 gw 21 dom80 := by
  intro ags p r hd hp κ w xs hw hl hG hx
  unfold dom80 at hd
  split at hd
  · rename_i b e
    simp only [Option.some.injEq, Prod.mk.injEq] at hd
    obtain ⟨rfl, rfl⟩ := hd
    refine fokX_fin mixed gw_stable (sl := []) trivial Try.func21 hw hl hG hx (agsEqv_refl _) rfl (t80 b e) ?_
    exact ⟨fun h => by subst h; exact rsEqv_refl _, fun h => by subst h; exact rsEqv_refl _⟩
  · cases hd
theorem S80 : SumOK Try.prog G0 gw 21 (fokSm dom80) := fok_sum Try.func21 rfl C80
theorem t102 (n lo hi : Int) : runFnX Try.prog G0 (lookS []) (fun _ => []) [] 1 40 3 35 Try.f35 [.c (dI n), .c (dI lo), .c (dI hi)] =
    T.br (decide (lo ≤ n)) (T.ret [Ar.c (D.bool (decide (n ≤ hi)))]) (T.ret [Ar.c (D.bool false)]) := by kernel_rfl
theorem C102 : FOK Try.prog G0 gw 35 dom102 := by
  intro ags p r hd hp κ w xs hw hl hG hx
  unfold dom102 at hd
  split at hd
  · rename_i n lo hi
    simp only [Option.some.injEq, Prod.mk.injEq] at hd
    obtain ⟨rfl, rfl⟩ := hd
    refine fokX_fin mixed gw_stable (sl := []) trivial Try.func35 hw hl hG hx (agsEqv_refl _) rfl (t102 n lo hi) ?_
    exact ⟨fun h => by unfold M.within; rw [h]; exact rsEqv_refl _, fun h => by unfold M.within; rw [h]; exact rsEqv_refl _⟩
  · cases hd
theorem S102 : SumOK Try.prog G0 gw 35 (fokSm dom102) := fok_sum Try.func35 rfl C102
end Go.Bl
end

section
set_option linter.unusedVariables false
set_option linter.unusedSimpArgs false
set_option maxRecDepth 100000
namespace Go.Bl
open Go.Gd
open Go.V Go.Proofs
theorem range_wp {S α : Type} {n : Nat} {s0 : S} {body : Int × S → T ((Int × S) ⊕ α)} {Q : α → Prop} (I : Nat → S → Prop) (h0 : I 0 s0)
    (h : ∀ (k : Nat) s, k ≤ n → I k s → (body ((k : Int), s)).wp (fun r => match r with | .inl y => k < n ∧ y.1 = ((k + 1 : Nat) : Int) ∧ I (k + 1) y.2 | .inr a => Q a)) :
    (T.loop (Int × S) ((0 : Int), s0) body).wp Q := by
  refine ⟨fun x => ∃ k : Nat, k ≤ n ∧ x.1 = k ∧ I k x.2, fun x => n - x.1.toNat, ⟨0, Nat.zero_le _, rfl, h0⟩, ?_⟩
  rintro ⟨x, s⟩ ⟨k, hk, hx, hI⟩
  simp only at hx hI
  subst hx
  refine T.wp_mono ?_ (h k s hk hI)
  intro r hr
  cases r with
  | inl y =>
    obtain ⟨y1, y2⟩ := y
    obtain ⟨h1, h2, h3⟩ := hr
    simp only at h2 h3
    refine ⟨⟨k + 1, by omega, h2, h3⟩, ?_⟩
    simp only [h2]
    omega
  | inr a => exact hr
theorem wp_br {α : Type} {b : Bool} {t e : T α} {Q : α → Prop} (h1 : b = true → t.wp Q) (h2 : b = false → e.wp Q) : (T.br b t e).wp Q := ⟨h1, h2⟩
theorem wrap_succ {k : Nat} (h : k < 1000000000) : IntKind.wrap IntKind.i64 ((k : Int) + 1) = ((k + 1 : Nat) : Int) := by rw [wrap_id (by omega) (by omega)]; omega
theorem lt_of_dec {k n : Nat} (h : decide ((k : Int) < (n : Int)) = true) : k < n := by simpa using h
theorem ge_of_dec {k n : Nat} (h : decide ((k : Int) < (n : Int)) = false) : n ≤ k := by simpa using h
namespace M
end M
namespace M
end M
namespace M
end M
end Go.Bl
end

section
set_option linter.unusedVariables false
set_option linter.unusedSimpArgs false
set_option maxRecDepth 100000
namespace Go.V
open Go.RowKit (Below)
section
variable {P : Program} {G : GT} {gw : World → Prop}
theorem lies_below {κ : Still} {w w' : World} (hl : Lies κ w) (hb : Below w.heap.size w w') : Lies κ w' := by
  intro b o v h
  obtain ⟨h1, h2⟩ := hl b o v h
  exact ⟨Nat.lt_of_lt_of_le h1 hb.size, (World.cell?_of_block (w := w) (hb.block b h1)).trans h2⟩
theorem fok_of {f : FuncId} {dom : DomF} (h : ∀ ags p r, dom ags = some (p, r) → All p → ∀ κ w xs, gw w → Lies κ w → F2 (Ag.rel P gw κ) ags xs →
    Calls P f xs.toArray w (fun e w' => ∃ x, e = .returned x ∧ Below w.heap.size w w' ∧ resRel κ r x)) : FOK P G gw f dom := by
  intro ags p r hd hp κ w xs hw hl _ hx
  refine (h ags p r hd hp κ w xs hw hl hx).mono ?_
  rintro e w' ⟨x, rfl, hb, hr⟩
  exact ⟨x, κ, rfl, fun _ _ _ h => h, lies_below hl hb, fun _ _ _ h => .inl h, hr, hb⟩
end
end Go.V
namespace Go.Ga
open Go.Gd
open Go.V Go.Proofs
open Go.RowKit (Below)
namespace M
def sqB (x : Nat) : Nat := (FloatKind.f64.format.sqrt x).getD 0
end M
theorem call60 (x r : Nat) (h : FloatKind.f64.format.sqrt x = some r) (w : World) : (callFunc 60 #[.float .f64 x]).run Try.prog w = .ok (.value (.float .f64 r)) w := by
  rw [run_callFunc_extern (e := Extern.MathSqrt.sqrt) Try.func60 (by kernel_rfl) (by kernel_rfl) (by kernel_rfl) (by kernel_rfl)]
  have : (Extern.MathSqrt.sqrt #[.float .f64 x]).run Try.prog w = .ok (.float .f64 r) w := by
    change Sem.run _ (match FloatKind.f64.format.sqrt x with
      | some r => pure (Value.float .f64 r)
      | none => do pure (Value.float .f64 (← choose (.nanBits .f64 x x)))) w = _
    rw [h]; rfl
  rw [this]; rfl
theorem c59 (x r : Nat) (h : FloatKind.f64.format.sqrt x = some r) (w : World) : Calls Try.prog 59 #[.float .f64 x] w (fun e w' => e = .returned (.float .f64 r) ∧ w' = w) := by
  have hd := call60 x r h w
  go_enter Try.func59, Try.ntmps59
  go_wp2
  go_ret
  exact ⟨rfl, rfl⟩
def dom59 : DomF
  | [.c (.op (.float .f64 x))] => some ([(FloatKind.f64.format.sqrt x).isSome = true], [.c (.op (.float .f64 (M.sqB x)))])
  | _ => none
def v59 : Nat × Sm := (59, fokSm dom59)
theorem C59 : FOK Try.prog G0 gw 59 dom59 := by
  refine fok_of fun ags p r hd hp κ w xs hw hl hx => ?_
  unfold dom59 at hd
  split at hd
  · rename_i s
    simp only [Option.some.injEq, Prod.mk.injEq] at hd
    obtain ⟨rfl, rfl⟩ := hd
    obtain ⟨h1, _⟩ := hp
    obtain ⟨r, hr⟩ := Option.isSome_iff_exists.1 h1
    have e : M.sqB s = r := by unfold M.sqB; rw [hr]; rfl
    cases hx with
    | cons hx h3 =>
      cases h3
      have hx : _ = Value.float .f64 s := hx.1
      subst hx
      refine (c59 s r hr w).mono ?_
      rintro e' w' ⟨rfl, rfl⟩
      rw [e]
      exact ⟨_, rfl, Below.refl _ _, rfl, rfl, (fun _ h => by cases h), (fun _ h => by cases h)⟩
  · cases hd
theorem S59 : SumOK Try.prog G0 gw 59 (fokSm dom59) := fok_sum Try.func59 rfl C59
end Go.Ga
end

section
set_option linter.unusedVariables false
set_option linter.unusedSimpArgs false
set_option maxRecDepth 100000
namespace Go.Bl
open Go.Gd
open Go.V Go.Proofs
namespace M
def OkB (k : Nat) (b : Int) : Prop := (97 ≤ b ∧ b ≤ 122) ∨ (65 ≤ b ∧ b ≤ 90) ∨ (k ≠ 0 ∧ (b = 45 ∨ (48 ≤ b ∧ b ≤ 57)))
instance (k : Nat) (b : Int) : Decidable (OkB k b) := by unfold OkB; infer_instance
def isName (s : ByteArray) : Bool := decide (1 ≤ s.size ∧ s.size ≤ 12 ∧ ∀ k, k < s.size → OkB k (byteAt s k))
end M
theorem name_no {s : ByteArray} (h : ¬ (1 ≤ s.size ∧ s.size ≤ 12 ∧ ∀ k, k < s.size → M.OkB k (byteAt s k))) : rsEqv [rB false] [rB (M.isName s)] := by
  have : M.isName s = false := decide_eq_false h
  rw [this]; exact rsEqv_refl _
theorem name_yes {s : ByteArray} (h : 1 ≤ s.size ∧ s.size ≤ 12 ∧ ∀ k, k < s.size → M.OkB k (byteAt s k)) : rsEqv [rB true] [rB (M.isName s)] := by
  have : M.isName s = true := decide_eq_true h
  rw [this]; exact rsEqv_refl _
theorem ba_loop (bs : ByteArray) : ∀ (d i : Nat) (r : List UInt8), bs.size - i = d → ByteArray.toList.loop bs i r = r.reverse ++ bs.data.toList.drop i := by
  intro d
  induction d with
  | zero =>
    intro i r h
    rw [ByteArray.toList.loop]
    have hs : bs.size = bs.data.toList.length := rfl
    rw [if_neg (by omega), List.drop_of_length_le (by omega), List.append_nil]
  | succ d ih =>
    intro i r h
    rw [ByteArray.toList.loop]
    have hs : bs.size = bs.data.toList.length := rfl
    rw [if_pos (by omega), ih (i + 1) _ (by omega)]
    have hi : i < bs.data.toList.length := by omega
    rw [List.drop_eq_getElem_cons hi, List.reverse_cons, List.append_assoc]
    congr 2
    have hi' : i < bs.data.size := hi
    simp only [List.singleton_append]
    congr 1
    show bs.data[i]! = _
    rw [getElem!_pos bs.data i hi']
    simp
theorem ba_toList (bs : ByteArray) : bs.toList = bs.data.toList := by
  unfold ByteArray.toList
  rw [ba_loop bs _ 0 [] rfl]
  simp
theorem ba_size (s : ByteArray) : s.size = s.data.toList.length := rfl
theorem ba_ne (s : ByteArray) : (!s.toList == ByteArray.toList { data := { toList := [] } }) = decide (s.size ≠ 0) := by
  rw [ba_toList, ba_toList, ba_size]
  cases s.data.toList <;> rfl
def tr104 (s : ByteArray) : T (List Ar) :=
    T.loop (Int × PUnit) ((0 : Int), PUnit.unit) fun (x : Int × PUnit) => T.br (decide (Prod.fst x < (Nat.cast (R := Int) (ByteArray.size s)))) (T.need ((0 : Int) ≤ Prod.fst x) (T.need (Prod.fst x < (Nat.cast (R := Int) (ByteArray.size s))) (T.br (decide ((byteAt s (Nat.cast (R := Int) (Int.toNat (Prod.fst x)))) ≥ (97 : Int))) (T.br (decide ((byteAt s (Nat.cast (R := Int) (Int.toNat (Prod.fst x)))) ≤ (122 : Int))) (T.ret (Sum.inl (IntKind.wrap IntKind.i64 (Prod.fst x + (1 : Int)), PUnit.unit))) (T.br (decide ((byteAt s (Nat.cast (R := Int) (Int.toNat (Prod.fst x)))) ≥ (65 : Int))) (T.br (!decide ((byteAt s (Nat.cast (R := Int) (Int.toNat (Prod.fst x)))) ≤ (90 : Int))) (T.br (Prod.fst x == (0 : Int)) (T.ret (Sum.inr [Ar.c (D.bool false)])) (T.br ((byteAt s (Nat.cast (R := Int) (Int.toNat (Prod.fst x)))) != (45 : Int)) (T.br (decide ((byteAt s (Nat.cast (R := Int) (Int.toNat (Prod.fst x)))) < (48 : Int))) (T.ret (Sum.inr [Ar.c (D.bool false)])) (T.br (decide ((byteAt s (Nat.cast (R := Int) (Int.toNat (Prod.fst x)))) > (57 : Int))) (T.ret (Sum.inr [Ar.c (D.bool false)])) (T.ret (Sum.inl (IntKind.wrap IntKind.i64 (Prod.fst x + (1 : Int)), PUnit.unit))))) (T.ret (Sum.inl (IntKind.wrap IntKind.i64 (Prod.fst x + (1 : Int)), PUnit.unit))))) (T.ret (Sum.inl (IntKind.wrap IntKind.i64 (Prod.fst x + (1 : Int)), PUnit.unit)))) (T.br (Prod.fst x == (0 : Int)) (T.ret (Sum.inr [Ar.c (D.bool false)])) (T.br ((byteAt s (Nat.cast (R := Int) (Int.toNat (Prod.fst x)))) != (45 : Int)) (T.br (decide ((byteAt s (Nat.cast (R := Int) (Int.toNat (Prod.fst x)))) < (48 : Int))) (T.ret (Sum.inr [Ar.c (D.bool false)])) (T.br (decide ((byteAt s (Nat.cast (R := Int) (Int.toNat (Prod.fst x)))) > (57 : Int))) (T.ret (Sum.inr [Ar.c (D.bool false)])) (T.ret (Sum.inl (IntKind.wrap IntKind.i64 (Prod.fst x + (1 : Int)), PUnit.unit))))) (T.ret (Sum.inl (IntKind.wrap IntKind.i64 (Prod.fst x + (1 : Int)), PUnit.unit))))))) (T.br (decide ((byteAt s (Nat.cast (R := Int) (Int.toNat (Prod.fst x)))) ≥ (65 : Int))) (T.br (!decide ((byteAt s (Nat.cast (R := Int) (Int.toNat (Prod.fst x)))) ≤ (90 : Int))) (T.br (Prod.fst x == (0 : Int)) (T.ret (Sum.inr [Ar.c (D.bool false)])) (T.br ((byteAt s (Nat.cast (R := Int) (Int.toNat (Prod.fst x)))) != (45 : Int)) (T.br (decide ((byteAt s (Nat.cast (R := Int) (Int.toNat (Prod.fst x)))) < (48 : Int))) (T.ret (Sum.inr [Ar.c (D.bool false)])) (T.br (decide ((byteAt s (Nat.cast (R := Int) (Int.toNat (Prod.fst x)))) > (57 : Int))) (T.ret (Sum.inr [Ar.c (D.bool false)])) (T.ret (Sum.inl (IntKind.wrap IntKind.i64 (Prod.fst x + (1 : Int)), PUnit.unit))))) (T.ret (Sum.inl (IntKind.wrap IntKind.i64 (Prod.fst x + (1 : Int)), PUnit.unit))))) (T.ret (Sum.inl (IntKind.wrap IntKind.i64 (Prod.fst x + (1 : Int)), PUnit.unit)))) (T.br (Prod.fst x == (0 : Int)) (T.ret (Sum.inr [Ar.c (D.bool false)])) (T.br ((byteAt s (Nat.cast (R := Int) (Int.toNat (Prod.fst x)))) != (45 : Int)) (T.br (decide ((byteAt s (Nat.cast (R := Int) (Int.toNat (Prod.fst x)))) < (48 : Int))) (T.ret (Sum.inr [Ar.c (D.bool false)])) (T.br (decide ((byteAt s (Nat.cast (R := Int) (Int.toNat (Prod.fst x)))) > (57 : Int))) (T.ret (Sum.inr [Ar.c (D.bool false)])) (T.ret (Sum.inl (IntKind.wrap IntKind.i64 (Prod.fst x + (1 : Int)), PUnit.unit))))) (T.ret (Sum.inl (IntKind.wrap IntKind.i64 (Prod.fst x + (1 : Int)), PUnit.unit))))))))) (T.br (!ByteArray.toList s == ByteArray.toList { data := { toList := [] } }) (T.ret (Sum.inr [Ar.c (D.bool (decide ((Nat.cast (R := Int) (ByteArray.size s)) ≤ (12 : Int))))])) (T.ret (Sum.inr [Ar.c (D.bool false)])))
theorem t104 (s : ByteArray) : runFnX Try.prog G0 (lookS []) (fun _ => [(2, [.slot 9 (.int .i64)], none)]) [] 1 40 3 42 Try.f42 [.c (.str s)] =
    tr104 s := by kernel_rfl
def tr105 (s : ByteArray) : T (List Ar) :=
    T.br (decide ((Nat.cast (R := Int) (ByteArray.size s)) < (1 : Int))) (T.ret [Ar.c (D.bool false)]) (T.br (decide ((Nat.cast (R := Int) (ByteArray.size s)) > (12 : Int))) (T.ret [Ar.c (D.bool false)]) (T.loop (Int × PUnit) ((0 : Int), PUnit.unit) fun (x : Int × PUnit) => T.br (decide (Prod.fst x < (Nat.cast (R := Int) (ByteArray.size s)))) (T.need ((0 : Int) ≤ Prod.fst x) (T.need (Prod.fst x < (Nat.cast (R := Int) (ByteArray.size s))) (T.br (decide ((byteAt s (Prod.fst x)) ≥ (97 : Int))) (T.br (decide ((byteAt s (Prod.fst x)) ≤ (122 : Int))) (T.ret (Sum.inl (IntKind.wrap IntKind.i64 (Prod.fst x + (1 : Int)), PUnit.unit))) (T.br (decide ((byteAt s (Prod.fst x)) ≥ (65 : Int))) (T.br (!decide ((byteAt s (Prod.fst x)) ≤ (90 : Int))) (T.br (Prod.fst x == (0 : Int)) (T.ret (Sum.inr [Ar.c (D.bool false)])) (T.br ((byteAt s (Prod.fst x)) != (45 : Int)) (T.br (decide ((byteAt s (Prod.fst x)) < (48 : Int))) (T.ret (Sum.inr [Ar.c (D.bool false)])) (T.br (decide ((byteAt s (Prod.fst x)) > (57 : Int))) (T.ret (Sum.inr [Ar.c (D.bool false)])) (T.ret (Sum.inl (IntKind.wrap IntKind.i64 (Prod.fst x + (1 : Int)), PUnit.unit))))) (T.ret (Sum.inl (IntKind.wrap IntKind.i64 (Prod.fst x + (1 : Int)), PUnit.unit))))) (T.ret (Sum.inl (IntKind.wrap IntKind.i64 (Prod.fst x + (1 : Int)), PUnit.unit)))) (T.br (Prod.fst x == (0 : Int)) (T.ret (Sum.inr [Ar.c (D.bool false)])) (T.br ((byteAt s (Prod.fst x)) != (45 : Int)) (T.br (decide ((byteAt s (Prod.fst x)) < (48 : Int))) (T.ret (Sum.inr [Ar.c (D.bool false)])) (T.br (decide ((byteAt s (Prod.fst x)) > (57 : Int))) (T.ret (Sum.inr [Ar.c (D.bool false)])) (T.ret (Sum.inl (IntKind.wrap IntKind.i64 (Prod.fst x + (1 : Int)), PUnit.unit))))) (T.ret (Sum.inl (IntKind.wrap IntKind.i64 (Prod.fst x + (1 : Int)), PUnit.unit))))))) (T.br (decide ((byteAt s (Prod.fst x)) ≥ (65 : Int))) (T.br (!decide ((byteAt s (Prod.fst x)) ≤ (90 : Int))) (T.br (Prod.fst x == (0 : Int)) (T.ret (Sum.inr [Ar.c (D.bool false)])) (T.br ((byteAt s (Prod.fst x)) != (45 : Int)) (T.br (decide ((byteAt s (Prod.fst x)) < (48 : Int))) (T.ret (Sum.inr [Ar.c (D.bool false)])) (T.br (decide ((byteAt s (Prod.fst x)) > (57 : Int))) (T.ret (Sum.inr [Ar.c (D.bool false)])) (T.ret (Sum.inl (IntKind.wrap IntKind.i64 (Prod.fst x + (1 : Int)), PUnit.unit))))) (T.ret (Sum.inl (IntKind.wrap IntKind.i64 (Prod.fst x + (1 : Int)), PUnit.unit))))) (T.ret (Sum.inl (IntKind.wrap IntKind.i64 (Prod.fst x + (1 : Int)), PUnit.unit)))) (T.br (Prod.fst x == (0 : Int)) (T.ret (Sum.inr [Ar.c (D.bool false)])) (T.br ((byteAt s (Prod.fst x)) != (45 : Int)) (T.br (decide ((byteAt s (Prod.fst x)) < (48 : Int))) (T.ret (Sum.inr [Ar.c (D.bool false)])) (T.br (decide ((byteAt s (Prod.fst x)) > (57 : Int))) (T.ret (Sum.inr [Ar.c (D.bool false)])) (T.ret (Sum.inl (IntKind.wrap IntKind.i64 (Prod.fst x + (1 : Int)), PUnit.unit))))) (T.ret (Sum.inl (IntKind.wrap IntKind.i64 (Prod.fst x + (1 : Int)), PUnit.unit))))))))) (T.ret (Sum.inr [Ar.c (D.bool true)]))))
theorem t105 (s : ByteArray) : runFnX Try.prog G0 (lookS []) (fun _ => [(4, [.slot 3 (.int .i64)], none)]) [] 1 40 3 26 Try.f26 [.c (.str s)] =
    tr105 s := by kernel_rfl
theorem loop_name {s : ByteArray} (h12 : s.size ≤ 1000000) {k : Nat} (hlt : k < s.size) (hI : ∀ j, j < k → M.OkB j (byteAt s j)) {b : Int} (hb : byteAt s k = b) (hok : M.OkB k b) : k < s.size ∧ IntKind.i64.wrap ((k : Int) + 1) = ((k + 1 : Nat) : Int) ∧ ∀ j, j < k + 1 → M.OkB j (byteAt s j) := by
  refine ⟨hlt, wrap_succ (by omega), fun j hj => ?_⟩
  rcases Nat.lt_or_ge j k with h | h
  · exact hI j h
  · obtain rfl : j = k := by omega
    rw [hb]; exact hok
theorem w104 (s : ByteArray) (h : s.size ≤ 1000000) : (tr104 s).wp (fun rs => rsEqv rs [rB (M.isName s)]) := by
  unfold tr104
  refine range_wp (n := s.size) (fun k _ => ∀ j, j < k → M.OkB j (byteAt s j)) (fun j hj => by omega) ?_
  rintro k u hk hI
  simp only [Int.toNat_natCast, ba_ne]
  refine ⟨fun hb => ?_, fun hb => ?_⟩
  · have hlt := lt_of_dec hb
    refine ⟨by omega, by omega, ?_⟩
    clear hb
    obtain ⟨b, hbb⟩ : ∃ b, byteAt s k = b := ⟨_, rfl⟩
    simp only [hbb]
    repeat' (refine wp_br (fun hh => ?_) (fun hh => ?_))
    all_goals (simp only [decide_eq_true_eq, decide_eq_false_iff_not, bne_iff_ne, ne_eq, beq_iff_eq, Bool.not_eq_true', bne_eq_false_iff_eq, beq_eq_false_iff_ne, Bool.not_eq_false', Int.natCast_eq_zero] at *)
    all_goals first
      | exact loop_name h hlt hI hbb (by unfold M.OkB; omega)
      | exact name_no (fun ⟨_, _, g⟩ => by have := g k hlt; rw [hbb] at this; unfold M.OkB at this; omega)
  · have hge := ge_of_dec hb
    obtain rfl : k = s.size := by omega
    clear hb
    refine ⟨fun h1 => ?_, fun h1 => ?_⟩
    · have h1 : s.size ≠ 0 := of_decide_eq_true h1
      by_cases h2 : s.size ≤ 12
      · have e : decide ((s.size : Int) ≤ 12) = true := by simpa using (by omega : (s.size : Int) ≤ 12)
        show rsEqv [rB (decide ((s.size : Int) ≤ 12))] _
        rw [e]
        exact name_yes ⟨by omega, h2, hI⟩
      · have e : decide ((s.size : Int) ≤ 12) = false := by simpa using (by omega : ¬ (s.size : Int) ≤ 12)
        show rsEqv [rB (decide ((s.size : Int) ≤ 12))] _
        rw [e]
        exact name_no (fun ⟨_, g, _⟩ => h2 g)
    · have h1 : s.size = 0 := Decidable.not_not.1 (of_decide_eq_false h1)
      exact name_no (fun ⟨g, _, _⟩ => by omega)
def dom104 : DomF
  | [.c (.str s)] => some ([s.size ≤ 1000000], [rB (M.isName s)])
  | _ => none
def v104 : Nat × Sm := (42, fokSm dom104)
theorem C104 : FOK Try.prog G0 gw 42 dom104 := by
  intro ags p r hd hp κ w xs hw hl hG hx
  unfold dom104 at hd
  split at hd
  · rename_i s
    simp only [Option.some.injEq, Prod.mk.injEq] at hd
    obtain ⟨rfl, rfl⟩ := hd
    exact fokX_fin mixed gw_stable (sl := []) trivial Try.func42 hw hl hG hx (agsEqv_refl _) rfl (t104 s) (w104 s hp.1)
  · cases hd
theorem S104 : SumOK Try.prog G0 gw 42 (fokSm dom104) := fok_sum Try.func42 rfl C104
theorem w105 (s : ByteArray) (h : s.size ≤ 1000000) : (tr105 s).wp (fun rs => rsEqv rs [rB (M.isName s)]) := by
  unfold tr105
  refine ⟨fun h1 => ?_, fun h1 => ?_⟩
  · have h1 : (s.size : Int) < 1 := by simpa using h1
    exact name_no (fun ⟨g, _, _⟩ => by omega)
  have h1 : ¬ (s.size : Int) < 1 := by simpa using h1
  refine ⟨fun h2 => ?_, fun h2 => ?_⟩
  · have h2 : (s.size : Int) > 12 := by simpa using h2
    exact name_no (fun ⟨_, g, _⟩ => by omega)
  have h2 : ¬ (s.size : Int) > 12 := by simpa using h2
  refine range_wp (n := s.size) (fun k _ => ∀ j, j < k → M.OkB j (byteAt s j)) (fun j hj => by omega) ?_
  rintro k u hk hI
  refine ⟨fun hb => ?_, fun hb => ?_⟩
  · have hlt := lt_of_dec hb
    refine ⟨by omega, by omega, ?_⟩
    clear hb
    obtain ⟨b, hbb⟩ : ∃ b, byteAt s k = b := ⟨_, rfl⟩
    simp only [hbb]
    repeat' (refine wp_br (fun hh => ?_) (fun hh => ?_))
    all_goals (simp only [decide_eq_true_eq, decide_eq_false_iff_not, bne_iff_ne, ne_eq, beq_iff_eq, Bool.not_eq_true', bne_eq_false_iff_eq, beq_eq_false_iff_ne, Bool.not_eq_false', Int.natCast_eq_zero] at *)
    all_goals first
      | exact loop_name h hlt hI hbb (by unfold M.OkB; omega)
      | exact name_no (fun ⟨_, _, g⟩ => by have := g k hlt; rw [hbb] at this; unfold M.OkB at this; omega)
  · have hge := ge_of_dec hb
    obtain rfl : k = s.size := by omega
    exact name_yes ⟨by omega, by omega, hI⟩
def dom105 : DomF
  | [.c (.str s)] => some ([s.size ≤ 1000000], [rB (M.isName s)])
  | _ => none
def v105 : Nat × Sm := (26, fokSm dom105)
theorem C105 : FOK Try.prog G0 gw 26 dom105 := by
  intro ags p r hd hp κ w xs hw hl hG hx
  unfold dom105 at hd
  split at hd
  · rename_i s
    simp only [Option.some.injEq, Prod.mk.injEq] at hd
    obtain ⟨rfl, rfl⟩ := hd
    exact fokX_fin mixed gw_stable (sl := []) trivial Try.func26 hw hl hG hx (agsEqv_refl _) rfl (t105 s) (w105 s hp.1)
  · cases hd
theorem S105 : SumOK Try.prog G0 gw 26 (fokSm dom105) := fok_sum Try.func26 rfl C105
end Go.Bl
end

section
set_option linter.unusedVariables false
set_option linter.unusedSimpArgs false
set_option maxRecDepth 100000
namespace Go.Ga
open Go.Gd
open Go.V Go.Proofs
open Go.Bl (rdI dI rI rB eI range_wp wrap_id)
def rdS (F : Nat → D) (j : Nat) : ByteArray := match F j with | .str s => s | _ => .empty
abbrev nilF : Nat → Nat → D := fun _ _ => .nilp
abbrev w64 (n : Int) : Int := IntKind.wrap IntKind.i64 n
theorem w64_id {n : Int} (h0 : -9223372036854775808 ≤ n) (h1 : n < 9223372036854775808) : w64 n = n := wrap_id h0 h1
theorem toE {α : Type} (E : Enc α) {k : Nat} (h1 : E.st = k) {q : Bool} {n st : Nat} {F : Nat → Nat → D} (hst : (Nat.beq st k || Nat.beq n 0) = true) (hI : E.Is n F) : (D.sl q n st F).eqv (.sl q (E.list n F).length k (E.F (E.list n F))) := by
  rw [Bool.or_eq_true] at hst
  rcases hst with h | h
  · have h := Nat.eq_of_beq_eq_true h
    subst h
    have := E.to (q := q) (q' := q) id hI
    rw [h1] at this
    exact this
  · have h := Nat.eq_of_beq_eq_true h
    subst h
    exact ⟨id, by simp [Enc.list], fun h => absurd h (Nat.lt_irrefl 0), fun i j hi => absurd hi (Nat.not_lt_zero i)⟩
structure St where
  at_ : Int
  inn : Int
  out : Int
structure Rd where
  nm : ByteArray
  day : Int
  lo : Int
  hi : Int
structure Mv where
  day : Int
  fr : ByteArray
  to : ByteArray
  vol : Int
structure Dp where
  day : Int
  dip : Int
  wr : Int
def encSt (s : St) : Nat → D
  | 0 => dI s.at_
  | 1 => dI s.inn
  | _ => dI s.out
def eSt : Enc St := ⟨3, encSt, fun F => ⟨rdI F 0, rdI F 1, rdI F 2⟩, ⟨0, 0, 0⟩, fun _ => rfl⟩
def encDp (s : Dp) : Nat → D
  | 0 => dI s.day
  | 1 => dI s.dip
  | _ => dI s.wr
def eDp : Enc Dp := ⟨3, encDp, fun F => ⟨rdI F 0, rdI F 1, rdI F 2⟩, ⟨0, 0, 0⟩, fun _ => rfl⟩
def encRd (s : Rd) : Nat → D
  | 0 => .str s.nm
  | 1 => dI s.day
  | 2 => dI s.lo
  | _ => dI s.hi
def eRd : Enc Rd := ⟨4, encRd, fun F => ⟨rdS F 0, rdI F 1, rdI F 2, rdI F 3⟩, ⟨.empty, 0, 0, 0⟩, fun _ => rfl⟩
def encMv (s : Mv) : Nat → D
  | 0 => dI s.day
  | 1 => .str s.fr
  | 2 => .str s.to
  | _ => dI s.vol
def eMv : Enc Mv := ⟨4, encMv, fun F => ⟨rdI F 0, rdS F 1, rdS F 2, rdI F 3⟩, ⟨0, .empty, .empty, 0⟩, fun _ => rfl⟩
end Go.Ga
end

section
set_option linter.unusedVariables false
set_option linter.unusedSimpArgs false
set_option maxRecDepth 100000
namespace Go.Ga
open Go.Gd
open Go.V Go.Proofs
open Go.RowKit (Below)
open Go.Bl (rdI dI rI rB eI range_wp wrap_id)
open Go.Bl.M (within unl isName first)
namespace M
def dayErr (n : Int) : Int := unl (within n 0 100000) 2
def rgErr (lo hi most : Int) : Int := cond (within lo 0 most) (cond (within hi 0 most) (cond (decide (lo > hi)) 9 0) 2) 2
def flo (n b : Int) : Int := n / b
def cei (n b : Int) : Int := -((-n) / b)
def isEnd (s : ByteArray) : Bool := decide (s = ByteArray.mk #[]) || isName s
end M
theorem flo_t {n b : Int} (hb : 0 < b) (hn : -4000000000000000000 ≤ n) (hn' : n ≤ 4000000000000000000) (h : n.tmod b < 0) : w64 (w64 (n.tdiv b) - 1) = n / b ∧ -4000000000000000000 ≤ n / b ∧ n / b ≤ 4000000000000000000 := by
  have h1 := Int.tdiv_eq_ediv (a := n) (b := b)
  have h2 : n.tmod b = n - b * n.tdiv b := by have := Int.mul_tdiv_add_tmod n b; omega
  have h3 := Int.mul_ediv_add_emod n b
  have h4 := Int.emod_nonneg n (show b ≠ 0 by omega)
  have h5 := Int.emod_lt_of_pos n hb
  have hneg : n < 0 := by
    apply Classical.byContradiction
    intro hc
    have := Int.tmod_nonneg b (show 0 ≤ n by omega)
    omega
  have hnd : ¬ b ∣ n := by
    intro hd
    obtain ⟨k, rfl⟩ := hd
    rw [Int.mul_tmod_right] at h
    omega
  have hs : b.sign = 1 := Int.sign_eq_one_of_pos hb
  rw [if_neg (by simp only [not_or]; exact ⟨by omega, hnd⟩), hs] at h1
  have h6 : -4000000000000000000 ≤ n / b := by
    have : -4000000000000000000 * b ≤ n := by
      have := Int.mul_le_mul_of_nonneg_left (show (1 : Int) ≤ b by omega) (show (0 : Int) ≤ 4000000000000000000 by omega)
      omega
    exact (Int.le_ediv_iff_mul_le hb).2 this
  have h7 : n / b < 0 := Int.ediv_neg_of_neg_of_pos hneg hb
  refine ⟨?_, h6, by omega⟩
  rw [w64_id (n := n.tdiv b) (by omega) (by omega), h1, w64_id (by omega) (by omega)]; omega
theorem flo_e {n b : Int} (hb : 0 < b) (hn : -4000000000000000000 ≤ n) (hn' : n ≤ 4000000000000000000) (h : ¬ n.tmod b < 0) : w64 (n.tdiv b) = n / b ∧ -4000000000000000000 ≤ n / b ∧ n / b ≤ 4000000000000000000 := by
  have h1 := Int.tdiv_eq_ediv (a := n) (b := b)
  have hs : b.sign = 1 := Int.sign_eq_one_of_pos hb
  have hor : 0 ≤ n ∨ b ∣ n := by
    apply Classical.byContradiction
    intro hc
    simp only [not_or] at hc
    have h6 : n.tmod b ≤ 0 := by
      have := Int.tmod_nonneg b (show 0 ≤ -n by omega)
      rw [Int.neg_tmod] at this; omega
    have h7 : n.tmod b = 0 := by omega
    exact hc.2 (Int.dvd_of_tmod_eq_zero h7)
  rw [if_pos hor] at h1
  have h6 : -4000000000000000000 ≤ n / b := by
    have : -4000000000000000000 * b ≤ n := by
      have := Int.mul_le_mul_of_nonneg_left (show (1 : Int) ≤ b by omega) (show (0 : Int) ≤ 4000000000000000000 by omega)
      omega
    exact (Int.le_ediv_iff_mul_le hb).2 this
  have h8 : n / b ≤ 4000000000000000000 := by
    rcases Int.lt_or_le n 0 with g | g
    · have := Int.ediv_neg_of_neg_of_pos g hb; omega
    · have := Int.ediv_le_self b g; omega
  refine ⟨?_, h6, h8⟩
  rw [h1, w64_id (by omega) (by omega)]; omega
theorem t10 (n : Int) (lo : Int) (hi : Int) : runFnX Try.prog G0 (lookS []) (fun _ => []) [] 0 60 3 10 Try.f10 [.c (dI n), .c (dI lo), .c (dI hi)] = T.br (decide (lo ≤ n)) (T.ret [rB (decide (n ≤ hi))]) (T.ret [rB false]) := by kernel_rfl
theorem w10 (n : Int) (lo : Int) (hi : Int)  : (T.br (decide (lo ≤ n)) (T.ret [rB (decide (n ≤ hi))]) (T.ret [rB false])).wp (fun zz => rsEqv zz [rB (within n lo hi)]) := by
  unfold within
  generalize decide (lo ≤ n) = b0 at *
  generalize decide (n ≤ hi) = b1 at *
  cases b0 <;> cases b1 <;> repeat (first | exact rsEqv_refl _ | refine ⟨fun _ => ?_, fun h => absurd h (by decide)⟩ | refine ⟨fun h => absurd h (by decide), fun _ => ?_⟩)
def dom10 : DomF
  | [.c (.int .i64 n), .c (.int .i64 lo), .c (.int .i64 hi)] => some ([], [rB (within n lo hi)])
  | _ => none
def v10 : Nat × Sm := (10, fokSm dom10)
theorem C10 : FOK Try.prog G0 gw 10 dom10 := by
  intro ags p r hd hp κ w xs hw hl hG hx
  unfold dom10 at hd
  split at hd
  · rename_i n lo hi
    simp only [Option.some.injEq, Prod.mk.injEq] at hd
    obtain ⟨rfl, rfl⟩ := hd
    have heq : agsEqv [.c (.int .i64 n), .c (.int .i64 lo), .c (.int .i64 hi)] [.c (.int .i64 n), .c (.int .i64 lo), .c (.int .i64 hi)] := ⟨rfl, rfl, rfl, trivial⟩
    exact fokX_fin mixed gw_stable (sl := []) trivial Try.func10 hw hl hG hx heq rfl (t10 n lo hi) (w10 n lo hi )
  · cases hd
theorem S10 : SumOK Try.prog G0 gw 10 (fokSm dom10) := fok_sum Try.func10 rfl C10
theorem t34 (n : Int) (m : Int) : runFnX Try.prog G0 (lookS [Go.Bl.v102]) (fun _ => []) [] 0 60 3 34 Try.f34 [.c (dI n), .c (dI m)] = T.ret [rB (within n 10 m)] := by kernel_rfl
theorem w34 (n : Int) (m : Int)  : (T.ret [rB (within n 10 m)]).wp (fun zz => rsEqv zz [rB (within n 10 m)]) := by
  exact rsEqv_refl _
def dom34 : DomF
  | [.c (.int .i64 n), .c (.int .i64 m)] => some ([], [rB (within n 10 m)])
  | _ => none
def v34 : Nat × Sm := (34, fokSm dom34)
theorem C34 : FOK Try.prog G0 gw 34 dom34 := by
  intro ags p r hd hp κ w xs hw hl hG hx
  unfold dom34 at hd
  split at hd
  · rename_i n m
    simp only [Option.some.injEq, Prod.mk.injEq] at hd
    obtain ⟨rfl, rfl⟩ := hd
    have heq : agsEqv [.c (.int .i64 n), .c (.int .i64 m)] [.c (.int .i64 n), .c (.int .i64 m)] := ⟨rfl, rfl, trivial⟩
    exact fokX_fin mixed gw_stable (sl := [Go.Bl.v102]) ⟨Go.Bl.S102, trivial⟩ Try.func34 hw hl hG hx heq rfl (t34 n m) (w34 n m )
  · cases hd
theorem S34 : SumOK Try.prog G0 gw 34 (fokSm dom34) := fok_sum Try.func34 rfl C34
theorem t24 (n : Int) : runFnX Try.prog G0 (lookS [Go.Bl.v102]) (fun _ => []) [] 0 60 3 24 Try.f24 [.c (dI n)] = T.ret [rB (within n 0 100000)] := by kernel_rfl
theorem w24 (n : Int)  : (T.ret [rB (within n 0 100000)]).wp (fun zz => rsEqv zz [rB (within n 0 100000)]) := by
  exact rsEqv_refl _
def dom24 : DomF
  | [.c (.int .i64 n)] => some ([], [rB (within n 0 100000)])
  | _ => none
def v24 : Nat × Sm := (24, fokSm dom24)
theorem C24 : FOK Try.prog G0 gw 24 dom24 := by
  intro ags p r hd hp κ w xs hw hl hG hx
  unfold dom24 at hd
  split at hd
  · rename_i n
    simp only [Option.some.injEq, Prod.mk.injEq] at hd
    obtain ⟨rfl, rfl⟩ := hd
    have heq : agsEqv [.c (.int .i64 n)] [.c (.int .i64 n)] := ⟨rfl, trivial⟩
    exact fokX_fin mixed gw_stable (sl := [Go.Bl.v102]) ⟨Go.Bl.S102, trivial⟩ Try.func24 hw hl hG hx heq rfl (t24 n) (w24 n )
  · cases hd
theorem S24 : SumOK Try.prog G0 gw 24 (fokSm dom24) := fok_sum Try.func24 rfl C24
theorem t56 (n : Int) : runFnX Try.prog G0 (lookS [Go.Bl.v102]) (fun _ => []) [] 0 60 3 56 Try.f56 [.c (dI n)] = T.ret [rB (within n 0 100000)] := by kernel_rfl
theorem w56 (n : Int)  : (T.ret [rB (within n 0 100000)]).wp (fun zz => rsEqv zz [rB (within n 0 100000)]) := by
  exact rsEqv_refl _
def dom56 : DomF
  | [.c (.int .i64 n)] => some ([], [rB (within n 0 100000)])
  | _ => none
def v56 : Nat × Sm := (56, fokSm dom56)
theorem C56 : FOK Try.prog G0 gw 56 dom56 := by
  intro ags p r hd hp κ w xs hw hl hG hx
  unfold dom56 at hd
  split at hd
  · rename_i n
    simp only [Option.some.injEq, Prod.mk.injEq] at hd
    obtain ⟨rfl, rfl⟩ := hd
    have heq : agsEqv [.c (.int .i64 n)] [.c (.int .i64 n)] := ⟨rfl, trivial⟩
    exact fokX_fin mixed gw_stable (sl := [Go.Bl.v102]) ⟨Go.Bl.S102, trivial⟩ Try.func56 hw hl hG hx heq rfl (t56 n) (w56 n )
  · cases hd
theorem S56 : SumOK Try.prog G0 gw 56 (fokSm dom56) := fok_sum Try.func56 rfl C56
theorem t25 (nm : ByteArray) (bung : Int) (q_st : Bool) (n_st s_st : Nat) (F_st : Nat → Nat → D) : runFnX Try.prog G0 (lookS []) (fun _ => []) [] 0 60 3 25 Try.f25 [.agg [.str nm, dI bung, .sl q_st n_st s_st F_st]] = T.ret [rI (w64 (2 * bung))] := by kernel_rfl
theorem w25 (nm : ByteArray) (bung : Int) (q_st : Bool) (n_st s_st : Nat) (F_st : Nat → Nat → D)  : (T.ret [rI (w64 (2 * bung))]).wp (fun zz => rsEqv zz [rI (w64 (2 * bung))]) := by
  exact rsEqv_refl _
def dom25 : DomF
  | [.agg [.str nm, .int .i64 bung, .sl q_st n_st s_st F_st]] => some ([], [rI (w64 (2 * bung))])
  | _ => none
def v25 : Nat × Sm := (25, fokSm dom25)
theorem C25 : FOK Try.prog G0 gw 25 dom25 := by
  intro ags p r hd hp κ w xs hw hl hG hx
  unfold dom25 at hd
  split at hd
  · rename_i nm bung q_st n_st s_st F_st
    simp only [Option.some.injEq, Prod.mk.injEq] at hd
    obtain ⟨rfl, rfl⟩ := hd
    have heq : agsEqv [.agg [.str nm, .int .i64 bung, .sl q_st n_st s_st F_st]] [.agg [.str nm, .int .i64 bung, .sl q_st n_st s_st F_st]] := ⟨⟨rfl, rfl, D.eqv_refl _, trivial⟩, trivial⟩
    exact fokX_fin mixed gw_stable (sl := []) trivial Try.func25 hw hl hG hx heq rfl (t25 nm bung q_st n_st s_st F_st) (w25 nm bung q_st n_st s_st F_st )
  · cases hd
theorem S25 : SumOK Try.prog G0 gw 25 (fokSm dom25) := fok_sum Try.func25 rfl C25
theorem t22 (nm : ByteArray) (bung : Int) (q_st : Bool) (n_st s_st : Nat) (F_st : Nat → Nat → D) (n : Int) : runFnX Try.prog G0 (lookS [Go.Bl.v102]) (fun _ => []) [25] 1 60 3 22 Try.f22 [.agg [.str nm, dI bung, .sl q_st n_st s_st F_st], .c (dI n)] = T.ret [rB (within n 0 (w64 (2 * bung)))] := by kernel_rfl
theorem w22 (nm : ByteArray) (bung : Int) (q_st : Bool) (n_st s_st : Nat) (F_st : Nat → Nat → D) (n : Int)  : (T.ret [rB (within n 0 (w64 (2 * bung)))]).wp (fun zz => rsEqv zz [rB (within n 0 (w64 (2 * bung)))]) := by
  exact rsEqv_refl _
def dom22 : DomF
  | [.agg [.str nm, .int .i64 bung, .sl q_st n_st s_st F_st], .c (.int .i64 n)] => some ([], [rB (within n 0 (w64 (2 * bung)))])
  | _ => none
def v22 : Nat × Sm := (22, fokSm dom22)
theorem C22 : FOK Try.prog G0 gw 22 dom22 := by
  intro ags p r hd hp κ w xs hw hl hG hx
  unfold dom22 at hd
  split at hd
  · rename_i nm bung q_st n_st s_st F_st n
    simp only [Option.some.injEq, Prod.mk.injEq] at hd
    obtain ⟨rfl, rfl⟩ := hd
    have heq : agsEqv [.agg [.str nm, .int .i64 bung, .sl q_st n_st s_st F_st], .c (.int .i64 n)] [.agg [.str nm, .int .i64 bung, .sl q_st n_st s_st F_st], .c (.int .i64 n)] := ⟨⟨rfl, rfl, D.eqv_refl _, trivial⟩, rfl, trivial⟩
    exact fokX_fin mixed gw_stable (sl := [Go.Bl.v102]) ⟨Go.Bl.S102, trivial⟩ Try.func22 hw hl hG hx heq rfl (t22 nm bung q_st n_st s_st F_st n) (w22 nm bung q_st n_st s_st F_st n )
  · cases hd
theorem S22 : SumOK Try.prog G0 gw 22 (fokSm dom22) := fok_sum Try.func22 rfl C22
theorem t38 (n : Int) (b : Int) : runFnX Try.prog G0 (lookS []) (fun _ => []) [] 0 60 3 38 Try.f38 [.c (dI n), .c (dI b)] = T.needs [b ≠ 0, b ≠ 0] (T.br (decide (Int.tmod n b < 0)) (T.ret [rI (w64 (w64 (Int.tdiv n b) - 1))]) (T.ret [rI (w64 (Int.tdiv n b))])) := by kernel_rfl
theorem w38 (n : Int) (b : Int) (h0 : 0 < b) (h1 : -4000000000000000000 ≤ n) (h2 : n ≤ 4000000000000000000) : (T.needs [b ≠ 0, b ≠ 0] (T.br (decide (Int.tmod n b < 0)) (T.ret [rI (w64 (w64 (Int.tdiv n b) - 1))]) (T.ret [rI (w64 (Int.tdiv n b))]))).wp (fun zz => rsEqv zz [rI (M.flo n b)]) := by
  refine ⟨by omega, by omega, fun h => ?_, fun h => ?_⟩
  · rw [(flo_t h0 h1 h2 (of_decide_eq_true h)).1]; exact rsEqv_refl _
  · rw [(flo_e h0 h1 h2 (of_decide_eq_false h)).1]; exact rsEqv_refl _
def dom38 : DomF
  | [.c (.int .i64 n), .c (.int .i64 b)] => some ([0 < b, -4000000000000000000 ≤ n, n ≤ 4000000000000000000], [rI (M.flo n b)])
  | _ => none
def v38 : Nat × Sm := (38, fokSm dom38)
theorem C38 : FOK Try.prog G0 gw 38 dom38 := by
  intro ags p r hd hp κ w xs hw hl hG hx
  unfold dom38 at hd
  split at hd
  · rename_i n b
    simp only [Option.some.injEq, Prod.mk.injEq] at hd
    obtain ⟨rfl, rfl⟩ := hd
    have heq : agsEqv [.c (.int .i64 n), .c (.int .i64 b)] [.c (.int .i64 n), .c (.int .i64 b)] := ⟨rfl, rfl, trivial⟩
    exact fokX_fin mixed gw_stable (sl := []) trivial Try.func38 hw hl hG hx heq rfl (t38 n b) (w38 n b hp.1 hp.2.1 hp.2.2.1)
  · cases hd
theorem S38 : SumOK Try.prog G0 gw 38 (fokSm dom38) := fok_sum Try.func38 rfl C38
theorem neg_w {n : Int} (h1 : -4000000000000000000 ≤ n) (h2 : n ≤ 4000000000000000000) : w64 (0 - n) = -n := by rw [w64_id (by omega) (by omega)]; omega
theorem t39 (n : Int) (b : Int) : runFnX Try.prog G0 (lookS []) (fun _ => []) [38] 1 60 3 39 Try.f39 [.c (dI n), .c (dI b)] = T.needs [b ≠ 0, b ≠ 0] (T.br (decide (Int.tmod (w64 (0 - n)) b < 0)) (T.ret [rI (w64 (0 - w64 (w64 (Int.tdiv (w64 (0 - n)) b) - 1)))]) (T.ret [rI (w64 (0 - w64 (Int.tdiv (w64 (0 - n)) b)))])) := by kernel_rfl
theorem w39 (n : Int) (b : Int) (h0 : 0 < b) (h1 : -4000000000000000000 ≤ n) (h2 : n ≤ 4000000000000000000) : (T.needs [b ≠ 0, b ≠ 0] (T.br (decide (Int.tmod (w64 (0 - n)) b < 0)) (T.ret [rI (w64 (0 - w64 (w64 (Int.tdiv (w64 (0 - n)) b) - 1)))]) (T.ret [rI (w64 (0 - w64 (Int.tdiv (w64 (0 - n)) b)))]))).wp (fun zz => rsEqv zz [rI (M.cei n b)]) := by
  rw [neg_w h1 h2]
  refine ⟨by omega, by omega, fun h => ?_, fun h => ?_⟩
  · obtain ⟨e, g1, g2⟩ := flo_t (n := -n) h0 (by omega) (by omega) (of_decide_eq_true h)
    rw [e, neg_w g1 g2]; exact rsEqv_refl _
  · obtain ⟨e, g1, g2⟩ := flo_e (n := -n) h0 (by omega) (by omega) (of_decide_eq_false h)
    rw [e, neg_w g1 g2]; exact rsEqv_refl _
def dom39 : DomF
  | [.c (.int .i64 n), .c (.int .i64 b)] => some ([0 < b, -4000000000000000000 ≤ n, n ≤ 4000000000000000000], [rI (M.cei n b)])
  | _ => none
def v39 : Nat × Sm := (39, fokSm dom39)
theorem C39 : FOK Try.prog G0 gw 39 dom39 := by
  intro ags p r hd hp κ w xs hw hl hG hx
  unfold dom39 at hd
  split at hd
  · rename_i n b
    simp only [Option.some.injEq, Prod.mk.injEq] at hd
    obtain ⟨rfl, rfl⟩ := hd
    have heq : agsEqv [.c (.int .i64 n), .c (.int .i64 b)] [.c (.int .i64 n), .c (.int .i64 b)] := ⟨rfl, rfl, trivial⟩
    exact fokX_fin mixed gw_stable (sl := []) trivial Try.func39 hw hl hG hx heq rfl (t39 n b) (w39 n b hp.1 hp.2.1 hp.2.2.1)
  · cases hd
theorem S39 : SumOK Try.prog G0 gw 39 (fokSm dom39) := fok_sum Try.func39 rfl C39
theorem t46 (lo : Int) (hi : Int) : runFnX Try.prog G0 (lookS [Go.Bl.v80]) (fun _ => []) [] 0 60 3 46 Try.f46 [.agg [dI lo, dI hi]] = T.ret [rI (unl (decide (lo ≤ hi)) 9)] := by kernel_rfl
theorem w46 (lo : Int) (hi : Int)  : (T.ret [rI (unl (decide (lo ≤ hi)) 9)]).wp (fun zz => rsEqv zz [rI (unl (decide (lo ≤ hi)) 9)]) := by
  exact rsEqv_refl _
def dom46 : DomF
  | [.agg [.int .i64 lo, .int .i64 hi]] => some ([], [rI (unl (decide (lo ≤ hi)) 9)])
  | _ => none
def v46 : Nat × Sm := (46, fokSm dom46)
theorem C46 : FOK Try.prog G0 gw 46 dom46 := by
  intro ags p r hd hp κ w xs hw hl hG hx
  unfold dom46 at hd
  split at hd
  · rename_i lo hi
    simp only [Option.some.injEq, Prod.mk.injEq] at hd
    obtain ⟨rfl, rfl⟩ := hd
    have heq : agsEqv [.agg [.int .i64 lo, .int .i64 hi]] [.agg [.int .i64 lo, .int .i64 hi]] := ⟨⟨rfl, rfl, trivial⟩, trivial⟩
    exact fokX_fin mixed gw_stable (sl := [Go.Bl.v80]) ⟨Go.Bl.S80, trivial⟩ Try.func46 hw hl hG hx heq rfl (t46 lo hi) (w46 lo hi )
  · cases hd
theorem S46 : SumOK Try.prog G0 gw 46 (fokSm dom46) := fok_sum Try.func46 rfl C46
theorem t44 (lo : Int) (hi : Int) : runFnX Try.prog G0 (lookS [v38, v39]) (fun _ => []) [] 0 60 3 44 Try.f44 [.agg [dI lo, dI hi]] = T.needs [(0 : Int) < 1000, -4000000000000000000 ≤ lo, lo ≤ 4000000000000000000, (0 : Int) < 1000, -4000000000000000000 ≤ hi, hi ≤ 4000000000000000000] (T.ret [.agg [dI (M.flo lo 1000), dI (M.cei hi 1000)]]) := by kernel_rfl
theorem w44 (lo : Int) (hi : Int) (h : All [-4000000000000000000 ≤ lo, lo ≤ 4000000000000000000, -4000000000000000000 ≤ hi, hi ≤ 4000000000000000000]) : (T.needs [(0 : Int) < 1000, -4000000000000000000 ≤ lo, lo ≤ 4000000000000000000, (0 : Int) < 1000, -4000000000000000000 ≤ hi, hi ≤ 4000000000000000000] (T.ret [.agg [dI (M.flo lo 1000), dI (M.cei hi 1000)]])).wp (fun zz => rsEqv zz [.agg [dI (M.flo lo 1000), dI (M.cei hi 1000)]]) := by
  exact ⟨by decide, h.1, h.2.1, by decide, h.2.2.1, h.2.2.2.1, rsEqv_refl _⟩
def dom44 : DomF
  | [.agg [.int .i64 lo, .int .i64 hi]] => some ([-4000000000000000000 ≤ lo, lo ≤ 4000000000000000000, -4000000000000000000 ≤ hi, hi ≤ 4000000000000000000], [.agg [dI (M.flo lo 1000), dI (M.cei hi 1000)]])
  | _ => none
def v44 : Nat × Sm := (44, fokSm dom44)
theorem C44 : FOK Try.prog G0 gw 44 dom44 := by
  intro ags p r hd hp κ w xs hw hl hG hx
  unfold dom44 at hd
  split at hd
  · rename_i lo hi
    simp only [Option.some.injEq, Prod.mk.injEq] at hd
    obtain ⟨rfl, rfl⟩ := hd
    have heq : agsEqv [.agg [.int .i64 lo, .int .i64 hi]] [.agg [.int .i64 lo, .int .i64 hi]] := ⟨⟨rfl, rfl, trivial⟩, trivial⟩
    exact fokX_fin mixed gw_stable (sl := [v38, v39]) ⟨S38, S39, trivial⟩ Try.func44 hw hl hG hx heq rfl (t44 lo hi) (w44 lo hi hp)
  · cases hd
theorem S44 : SumOK Try.prog G0 gw 44 (fokSm dom44) := fok_sum Try.func44 rfl C44
theorem t27 (n : Int) : runFnX Try.prog G0 (lookS []) (fun _ => []) [10] 1 60 3 27 Try.f27 [.c (dI n)] = T.br (decide (0 ≤ n)) (T.br (!decide (n ≤ 100000)) (T.ret [rI 2]) (T.ret [rI 0])) (T.ret [rI 2]) := by kernel_rfl
theorem w27 (n : Int)  : (T.br (decide (0 ≤ n)) (T.br (!decide (n ≤ 100000)) (T.ret [rI 2]) (T.ret [rI 0])) (T.ret [rI 2])).wp (fun zz => rsEqv zz [rI (M.dayErr n)]) := by
  unfold M.dayErr unl within
  generalize decide (0 ≤ n) = b0 at *
  generalize decide (n ≤ 100000) = b1 at *
  cases b0 <;> cases b1 <;> repeat (first | exact rsEqv_refl _ | refine ⟨fun _ => ?_, fun h => absurd h (by decide)⟩ | refine ⟨fun h => absurd h (by decide), fun _ => ?_⟩)
def dom27 : DomF
  | [.c (.int .i64 n)] => some ([], [rI (M.dayErr n)])
  | _ => none
def v27 : Nat × Sm := (27, fokSm dom27)
theorem C27 : FOK Try.prog G0 gw 27 dom27 := by
  intro ags p r hd hp κ w xs hw hl hG hx
  unfold dom27 at hd
  split at hd
  · rename_i n
    simp only [Option.some.injEq, Prod.mk.injEq] at hd
    obtain ⟨rfl, rfl⟩ := hd
    have heq : agsEqv [.c (.int .i64 n)] [.c (.int .i64 n)] := ⟨rfl, trivial⟩
    exact fokX_fin mixed gw_stable (sl := []) trivial Try.func27 hw hl hG hx heq rfl (t27 n) (w27 n )
  · cases hd
theorem S27 : SumOK Try.prog G0 gw 27 (fokSm dom27) := fok_sum Try.func27 rfl C27
theorem t28 (lo : Int) (hi : Int) (most : Int) : runFnX Try.prog G0 (lookS []) (fun _ => []) [10] 1 60 3 28 Try.f28 [.agg [dI lo, dI hi], .c (dI most)] = T.br (decide (0 ≤ lo)) (T.br (!decide (lo ≤ most)) (T.ret [rI 2]) (T.br (decide (0 ≤ hi)) (T.br (!decide (hi ≤ most)) (T.ret [rI 2]) (T.br (decide (lo > hi)) (T.ret [rI 9]) (T.ret [rI 0]))) (T.ret [rI 2]))) (T.ret [rI 2]) := by kernel_rfl
theorem w28 (lo : Int) (hi : Int) (most : Int)  : (T.br (decide (0 ≤ lo)) (T.br (!decide (lo ≤ most)) (T.ret [rI 2]) (T.br (decide (0 ≤ hi)) (T.br (!decide (hi ≤ most)) (T.ret [rI 2]) (T.br (decide (lo > hi)) (T.ret [rI 9]) (T.ret [rI 0]))) (T.ret [rI 2]))) (T.ret [rI 2])).wp (fun zz => rsEqv zz [rI (M.rgErr lo hi most)]) := by
  unfold M.rgErr within
  generalize decide (0 ≤ lo) = b0 at *
  generalize decide (lo ≤ most) = b1 at *
  generalize decide (0 ≤ hi) = b2 at *
  generalize decide (hi ≤ most) = b3 at *
  generalize decide (lo > hi) = b4 at *
  cases b0 <;> cases b1 <;> cases b2 <;> cases b3 <;> cases b4 <;> repeat (first | exact rsEqv_refl _ | refine ⟨fun _ => ?_, fun h => absurd h (by decide)⟩ | refine ⟨fun h => absurd h (by decide), fun _ => ?_⟩)
def dom28 : DomF
  | [.agg [.int .i64 lo, .int .i64 hi], .c (.int .i64 most)] => some ([], [rI (M.rgErr lo hi most)])
  | _ => none
def v28 : Nat × Sm := (28, fokSm dom28)
theorem C28 : FOK Try.prog G0 gw 28 dom28 := by
  intro ags p r hd hp κ w xs hw hl hG hx
  unfold dom28 at hd
  split at hd
  · rename_i lo hi most
    simp only [Option.some.injEq, Prod.mk.injEq] at hd
    obtain ⟨rfl, rfl⟩ := hd
    have heq : agsEqv [.agg [.int .i64 lo, .int .i64 hi], .c (.int .i64 most)] [.agg [.int .i64 lo, .int .i64 hi], .c (.int .i64 most)] := ⟨⟨rfl, rfl, trivial⟩, rfl, trivial⟩
    exact fokX_fin mixed gw_stable (sl := []) trivial Try.func28 hw hl hG hx heq rfl (t28 lo hi most) (w28 lo hi most )
  · cases hd
theorem S28 : SumOK Try.prog G0 gw 28 (fokSm dom28) := fok_sum Try.func28 rfl C28
theorem t7 (nm : ByteArray) (bung : Int) (q_st : Bool) (n_st s_st : Nat) (F_st : Nat → Nat → D) (n : Int) : runFnX Try.prog G0 (lookS []) (fun _ => []) [10] 1 60 3 7 Try.f7 [.agg [.str nm, dI bung, .sl q_st n_st s_st F_st], .c (dI n)] = T.br (decide (0 ≤ n)) (T.br (!decide (n ≤ w64 (2 * bung))) (T.ret [rI 2]) (T.ret [rI 0])) (T.ret [rI 2]) := by kernel_rfl
theorem w7 (nm : ByteArray) (bung : Int) (q_st : Bool) (n_st s_st : Nat) (F_st : Nat → Nat → D) (n : Int)  : (T.br (decide (0 ≤ n)) (T.br (!decide (n ≤ w64 (2 * bung))) (T.ret [rI 2]) (T.ret [rI 0])) (T.ret [rI 2])).wp (fun zz => rsEqv zz [rI (unl (within n 0 (w64 (2 * bung))) 2)]) := by
  unfold unl within
  generalize decide (0 ≤ n) = b0 at *
  generalize decide (n ≤ w64 (2 * bung)) = b1 at *
  cases b0 <;> cases b1 <;> repeat (first | exact rsEqv_refl _ | refine ⟨fun _ => ?_, fun h => absurd h (by decide)⟩ | refine ⟨fun h => absurd h (by decide), fun _ => ?_⟩)
def dom7 : DomF
  | [.agg [.str nm, .int .i64 bung, .sl q_st n_st s_st F_st], .c (.int .i64 n)] => some ([], [rI (unl (within n 0 (w64 (2 * bung))) 2)])
  | _ => none
def v7 : Nat × Sm := (7, fokSm dom7)
theorem C7 : FOK Try.prog G0 gw 7 dom7 := by
  intro ags p r hd hp κ w xs hw hl hG hx
  unfold dom7 at hd
  split at hd
  · rename_i nm bung q_st n_st s_st F_st n
    simp only [Option.some.injEq, Prod.mk.injEq] at hd
    obtain ⟨rfl, rfl⟩ := hd
    have heq : agsEqv [.agg [.str nm, .int .i64 bung, .sl q_st n_st s_st F_st], .c (.int .i64 n)] [.agg [.str nm, .int .i64 bung, .sl q_st n_st s_st F_st], .c (.int .i64 n)] := ⟨⟨rfl, rfl, D.eqv_refl _, trivial⟩, rfl, trivial⟩
    exact fokX_fin mixed gw_stable (sl := []) trivial Try.func7 hw hl hG hx heq rfl (t7 nm bung q_st n_st s_st F_st n) (w7 nm bung q_st n_st s_st F_st n )
  · cases hd
theorem S7 : SumOK Try.prog G0 gw 7 (fokSm dom7) := fok_sum Try.func7 rfl C7
theorem toL_inj {a b : ByteArray} (h : a.toList = b.toList) : a = b := by
  rw [Go.Bl.ba_toList, Go.Bl.ba_toList] at h
  cases a; cases b
  simp only at h
  congr 1
  exact Array.ext' h
theorem toL_nil (s : ByteArray) : (s.toList == (ByteArray.mk #[]).toList) = decide (s = ByteArray.mk #[]) := by
  by_cases h : s = ByteArray.mk #[]
  · subst h; simp
  · rw [decide_eq_false h, beq_eq_false_iff_ne]
    exact fun e => h (toL_inj e)
theorem t57 (s : ByteArray) : runFnX Try.prog G0 (lookS [Go.Bl.v104]) (fun _ => []) [] 0 60 3 57 Try.f57 [.c (.str s)] = T.br (s.toList == (ByteArray.mk #[]).toList) (T.ret [rB true]) (T.need (s.size ≤ 1000000) (T.ret [rB (isName s)])) := by kernel_rfl
theorem w57 (s : ByteArray) (hs : s.size ≤ 1000000) : (T.br (s.toList == (ByteArray.mk #[]).toList) (T.ret [rB true]) (T.need (s.size ≤ 1000000) (T.ret [rB (isName s)]))).wp (fun zz => rsEqv zz [rB (M.isEnd s)]) := by
  unfold M.isEnd
  rw [toL_nil]
  refine ⟨fun h => ?_, fun h => ⟨hs, ?_⟩⟩
  · rw [h]; exact rsEqv_refl _
  · rw [h]; exact rsEqv_refl _
def dom57 : DomF
  | [.c (.str s)] => some ([s.size ≤ 1000000], [rB (M.isEnd s)])
  | _ => none
def v57 : Nat × Sm := (57, fokSm dom57)
theorem C57 : FOK Try.prog G0 gw 57 dom57 := by
  intro ags p r hd hp κ w xs hw hl hG hx
  unfold dom57 at hd
  split at hd
  · rename_i s
    simp only [Option.some.injEq, Prod.mk.injEq] at hd
    obtain ⟨rfl, rfl⟩ := hd
    have heq : agsEqv [.c (.str s)] [.c (.str s)] := ⟨rfl, trivial⟩
    exact fokX_fin mixed gw_stable (sl := [Go.Bl.v104]) ⟨Go.Bl.S104, trivial⟩ Try.func57 hw hl hG hx heq rfl (t57 s) (w57 s hp.1)
  · cases hd
theorem S57 : SumOK Try.prog G0 gw 57 (fokSm dom57) := fok_sum Try.func57 rfl C57
theorem t31 (s : ByteArray) : runFnX Try.prog G0 (lookS [Go.Bl.v80, Go.Bl.v104]) (fun _ => []) [] 0 60 3 31 Try.f31 [.c (.str s)] = T.need (s.size ≤ 1000000) (T.ret [rI (unl (isName s) 4)]) := by kernel_rfl
theorem w31 (s : ByteArray) (hs : s.size ≤ 1000000) : (T.need (s.size ≤ 1000000) (T.ret [rI (unl (isName s) 4)])).wp (fun zz => rsEqv zz [rI (unl (isName s) 4)]) := by
  exact ⟨hs, rsEqv_refl _⟩
def dom31 : DomF
  | [.c (.str s)] => some ([s.size ≤ 1000000], [rI (unl (isName s) 4)])
  | _ => none
def v31 : Nat × Sm := (31, fokSm dom31)
theorem C31 : FOK Try.prog G0 gw 31 dom31 := by
  intro ags p r hd hp κ w xs hw hl hG hx
  unfold dom31 at hd
  split at hd
  · rename_i s
    simp only [Option.some.injEq, Prod.mk.injEq] at hd
    obtain ⟨rfl, rfl⟩ := hd
    have heq : agsEqv [.c (.str s)] [.c (.str s)] := ⟨rfl, trivial⟩
    exact fokX_fin mixed gw_stable (sl := [Go.Bl.v80, Go.Bl.v104]) ⟨Go.Bl.S80, Go.Bl.S104, trivial⟩ Try.func31 hw hl hG hx heq rfl (t31 s) (w31 s hp.1)
  · cases hd
theorem S31 : SumOK Try.prog G0 gw 31 (fokSm dom31) := fok_sum Try.func31 rfl C31
theorem t32 (n : Int) : runFnX Try.prog G0 (lookS [Go.Bl.v80, v24]) (fun _ => []) [] 0 60 3 32 Try.f32 [.c (dI n)] = T.ret [rI (unl (within n 0 100000) 2)] := by kernel_rfl
theorem w32 (n : Int)  : (T.ret [rI (unl (within n 0 100000) 2)]).wp (fun zz => rsEqv zz [rI (unl (within n 0 100000) 2)]) := by
  exact rsEqv_refl _
def dom32 : DomF
  | [.c (.int .i64 n)] => some ([], [rI (unl (within n 0 100000) 2)])
  | _ => none
def v32 : Nat × Sm := (32, fokSm dom32)
theorem C32 : FOK Try.prog G0 gw 32 dom32 := by
  intro ags p r hd hp κ w xs hw hl hG hx
  unfold dom32 at hd
  split at hd
  · rename_i n
    simp only [Option.some.injEq, Prod.mk.injEq] at hd
    obtain ⟨rfl, rfl⟩ := hd
    have heq : agsEqv [.c (.int .i64 n)] [.c (.int .i64 n)] := ⟨rfl, trivial⟩
    exact fokX_fin mixed gw_stable (sl := [Go.Bl.v80, v24]) ⟨Go.Bl.S80, S24, trivial⟩ Try.func32 hw hl hG hx heq rfl (t32 n) (w32 n )
  · cases hd
theorem S32 : SumOK Try.prog G0 gw 32 (fokSm dom32) := fok_sum Try.func32 rfl C32
end Go.Ga
end

section
set_option linter.unusedVariables false
set_option linter.unusedSimpArgs false
set_option maxRecDepth 100000
namespace Go.Ga
open Go.Gd
open Go.V Go.Proofs
namespace M
def r0 (n : Int) : Int := ftoi .f64 (sqB (FloatKind.nearest .f64 n))
end M
def okR (n : Nat) : Bool :=
  match FloatKind.f64.format.sqrt (FloatKind.nearest .f64 (n : Int)) with
  | some b => (match ((FloatKind.decode .f64 b).toInt .zero) with
    | some r => decide (0 ≤ r ∧ r * r ≤ (n : Int) ∧ (n : Int) < (r + 1) * (r + 1))
    | none => false)
  | none => false
def okFrom : Nat → Nat → Bool
  | _, 0 => true
  | a, k + 1 => okR (4 * a) && okFrom (a + 1) k
theorem okFrom_spec : ∀ {n a : Nat}, okFrom a n = true → ∀ k, a ≤ k → k < a + n → okR (4 * k) = true := by
  intro n
  induction n with
  | zero => intro a _ k h1 h2; omega
  | succ n ih =>
    intro a h k h1 h2
    unfold okFrom at h
    rw [Bool.and_eq_true] at h
    rcases Nat.lt_or_ge a k with g | g
    · exact ih h.2 k g (by omega)
    · obtain rfl : k = a := by omega
      exact h.1
theorem tab_a : okFrom 0 600 = true := by kernel_rfl
theorem tab_b : okFrom 600 600 = true := by kernel_rfl
theorem tab_c : okFrom 1200 600 = true := by kernel_rfl
theorem tab_d : okFrom 1800 600 = true := by kernel_rfl
theorem tab_e : okFrom 2400 600 = true := by kernel_rfl
theorem tab_f : okFrom 3000 601 = true := by kernel_rfl
theorem tab {k : Nat} (h : k ≤ 3600) : okR (4 * k) = true := by
  rcases Nat.lt_or_ge k 600 with g | g
  · exact okFrom_spec tab_a k (by omega) (by omega)
  rcases Nat.lt_or_ge k 1200 with g | g
  · exact okFrom_spec tab_b k (by omega) (by omega)
  rcases Nat.lt_or_ge k 1800 with g | g
  · exact okFrom_spec tab_c k (by omega) (by omega)
  rcases Nat.lt_or_ge k 2400 with g | g
  · exact okFrom_spec tab_d k (by omega) (by omega)
  rcases Nat.lt_or_ge k 3000 with g | g
  · exact okFrom_spec tab_e k (by omega) (by omega)
  · exact okFrom_spec tab_f k (by omega) (by omega)
theorem r0_spec {n : Int} (h0 : 0 ≤ n) (h1 : n ≤ 14400) (h2 : n % 4 = 0) :
    (FloatKind.f64.format.sqrt (FloatKind.nearest .f64 n)).isSome = true ∧ ((FloatKind.decode .f64 (M.sqB (FloatKind.nearest .f64 n))).toInt .zero).isSome = true ∧ 0 ≤ M.r0 n ∧ M.r0 n * M.r0 n ≤ n ∧ n < (M.r0 n + 1) * (M.r0 n + 1) := by
  obtain ⟨k, rfl⟩ : ∃ k : Nat, n = ((4 * k : Nat) : Int) := ⟨(n / 4).toNat, by omega⟩
  have h := tab (k := k) (by omega)
  unfold okR at h
  unfold M.r0 ftoi M.sqB
  split at h
  · rename_i b hb
    split at h
    · rename_i r hr
      have h := of_decide_eq_true h
      rw [hb]
      simp only [Option.getD_some]
      rw [hr]
      simp only [Option.getD_some]
      exact ⟨rfl, rfl, h⟩
    · cases h
  · cases h
end Go.Ga
end

section
set_option linter.unusedVariables false
set_option linter.unusedSimpArgs false
set_option maxRecDepth 100000
namespace Go.Ga
open Go.Gd
open Go.V Go.Proofs
open Go.RowKit (Below)
open Go.Bl (rdI dI rI rB eI range_wp wrap_id)
open Go.Bl.M (within unl isName first)
namespace M
def rU (n : Int) : Int := cond (r0 n * r0 n == n) (r0 n) (r0 n + 1)
end M
theorem sq_le {a b : Int} (h0 : 0 ≤ a) (h : a ≤ b) : a * a ≤ b * b := Int.mul_le_mul h h h0 (by omega)
theorem r0_le {n : Int} (h0 : 0 ≤ n) (h1 : n ≤ 14400) (h2 : n % 4 = 0) : M.r0 n ≤ 120 := by
  obtain ⟨_, _, a, b, _⟩ := r0_spec h0 h1 h2
  apply Classical.byContradiction
  intro h
  have := sq_le (a := 121) (b := M.r0 n) (by omega) (by omega)
  omega
theorem t58 (n : Int) : runFnX Try.prog G0 (lookS [v59]) (fun _ => [(2, [.slot 3 (.int .i64)], none), (4, [.slot 3 (.int .i64)], none)]) [] 0 60 3 58 Try.f58 [.c (dI n)] = T.needs [(FloatKind.f64.format.sqrt (FloatKind.nearest .f64 n)).isSome = true, ((FloatKind.decode .f64 (M.sqB (FloatKind.nearest .f64 n))).toInt .zero).isSome = true, -9223372036854775808 ≤ (ftoi .f64 (M.sqB (FloatKind.nearest .f64 n))), (ftoi .f64 (M.sqB (FloatKind.nearest .f64 n))) ≤ 9223372036854775807] (T.loop (Int × PUnit) ((ftoi .f64 (M.sqB (FloatKind.nearest .f64 n))), PUnit.unit) fun (x : Int × PUnit) => T.br (decide (w64 (x.1 * x.1) > n)) (T.ret (Sum.inl (w64 (x.1 - 1), PUnit.unit))) (T.loop (Int × PUnit) (x.1, PUnit.unit) fun (x : Int × PUnit) => T.br (decide (w64 (w64 (x.1 + 1) * w64 (x.1 + 1)) ≤ n)) (T.ret (Sum.inl (w64 (x.1 + 1), PUnit.unit))) (T.br (w64 (x.1 * x.1) == n) (T.ret (Sum.inr (Sum.inr [.agg [dI x.1, dI x.1]]))) (T.ret (Sum.inr (Sum.inr [.agg [dI x.1, dI (w64 (x.1 + 1))]])))))) := by kernel_rfl
theorem w58 (n : Int) (h0 : 0 ≤ n) (h1 : n ≤ 14400) (h2 : n % 4 = 0) : (T.needs [(FloatKind.f64.format.sqrt (FloatKind.nearest .f64 n)).isSome = true, ((FloatKind.decode .f64 (M.sqB (FloatKind.nearest .f64 n))).toInt .zero).isSome = true, -9223372036854775808 ≤ (ftoi .f64 (M.sqB (FloatKind.nearest .f64 n))), (ftoi .f64 (M.sqB (FloatKind.nearest .f64 n))) ≤ 9223372036854775807] (T.loop (Int × PUnit) ((ftoi .f64 (M.sqB (FloatKind.nearest .f64 n))), PUnit.unit) fun (x : Int × PUnit) => T.br (decide (w64 (x.1 * x.1) > n)) (T.ret (Sum.inl (w64 (x.1 - 1), PUnit.unit))) (T.loop (Int × PUnit) (x.1, PUnit.unit) fun (x : Int × PUnit) => T.br (decide (w64 (w64 (x.1 + 1) * w64 (x.1 + 1)) ≤ n)) (T.ret (Sum.inl (w64 (x.1 + 1), PUnit.unit))) (T.br (w64 (x.1 * x.1) == n) (T.ret (Sum.inr (Sum.inr [.agg [dI x.1, dI x.1]]))) (T.ret (Sum.inr (Sum.inr [.agg [dI x.1, dI (w64 (x.1 + 1))]]))))))).wp (fun zz => rsEqv zz [.agg [dI (M.r0 n), dI (M.rU n)]]) := by
  have hr := r0_le h0 h1 h2
  obtain ⟨s1, s2, a1, a2, a3⟩ := r0_spec h0 h1 h2
  have e0 : ftoi .f64 (M.sqB (FloatKind.nearest .f64 n)) = M.r0 n := rfl
  rw [e0]
  unfold M.rU
  refine ⟨s1, s2, by omega, by omega, ?_⟩
  generalize M.r0 n = r at *
  have w1 : w64 (r * r) = r * r := w64_id (by have := Int.mul_nonneg a1 a1; omega) (by omega)
  have w2 : w64 (r + 1) = r + 1 := w64_id (by omega) (by omega)
  have b1 := sq_le (a := r + 1) (b := 121) (by omega) (by omega)
  have w3 : w64 ((r + 1) * (r + 1)) = (r + 1) * (r + 1) := w64_id (by omega) (by omega)
  refine ⟨fun x => x.1 = r, fun _ => 0, rfl, ?_⟩
  rintro ⟨x, u⟩ hx
  have hx : x = r := hx
  subst hx
  refine ⟨fun h => ?_, fun _ => ?_⟩
  · have h := of_decide_eq_true h
    have h : w64 (x * x) > n := h
    rw [w1] at h; omega
  · refine ⟨fun y => y.1 = x, fun _ => 0, rfl, ?_⟩
    rintro ⟨y, v⟩ hy
    have hy : y = x := hy
    subst hy
    refine ⟨fun h => ?_, fun _ => ⟨fun h => ?_, fun h => ?_⟩⟩
    · have h := of_decide_eq_true h
      have h : w64 (w64 (y + 1) * w64 (y + 1)) ≤ n := h
      rw [w2, w3] at h; omega
    · have h : (w64 (y * y) == n) = true := h
      rw [w1] at h
      rw [h]; exact rsEqv_refl _
    · have h : (w64 (y * y) == n) = false := h
      rw [w1] at h
      rw [h]
      show rsEqv [.agg [dI y, dI (w64 (y + 1))]] _
      rw [w2]; exact rsEqv_refl _
def dom58 : DomF
  | [.c (.int .i64 n)] => some ([0 ≤ n, n ≤ 14400, n % 4 = 0], [.agg [dI (M.r0 n), dI (M.rU n)]])
  | _ => none
def v58 : Nat × Sm := (58, fokSm dom58)
theorem C58 : FOK Try.prog G0 gw 58 dom58 := by
  intro ags p r hd hp κ w xs hw hl hG hx
  unfold dom58 at hd
  split at hd
  · rename_i n
    simp only [Option.some.injEq, Prod.mk.injEq] at hd
    obtain ⟨rfl, rfl⟩ := hd
    have heq : agsEqv [.c (.int .i64 n)] [.c (.int .i64 n)] := ⟨rfl, trivial⟩
    exact fokX_fin mixed gw_stable (sl := [v59]) ⟨S59, trivial⟩ Try.func58 hw hl hG hx heq rfl (t58 n) (w58 n hp.1 hp.2.1 hp.2.2.1)
  · cases hd
theorem S58 : SumOK Try.prog G0 gw 58 (fokSm dom58) := fok_sum Try.func58 rfl C58
end Go.Ga
end

section
set_option linter.unusedVariables false
set_option linter.unusedSimpArgs false
set_option maxRecDepth 100000
namespace Go.Ga
open Go.Gd
open Go.V Go.Proofs
open Go.RowKit (Below)
open Go.Bl (rdI dI rI rB eI range_wp wrap_id)
open Go.Bl.M (within unl isName first)
namespace M
def sq (c y : Int) : Int := 4 * (c * c - y * y)
end M
theorem sq_abs {y c : Int} (h1 : -c ≤ y) (h2 : y ≤ c) : y * y ≤ c * c := by
  rcases Int.lt_or_le y 0 with h | h
  · have := sq_le (a := -y) (b := c) (by omega) (by omega)
    rwa [Int.neg_mul_neg] at this
  · exact sq_le h h2
theorem sq_nn (y : Int) : 0 ≤ y * y := by
  rcases Int.lt_or_le y 0 with h | h
  · have := Int.mul_nonneg (a := -y) (b := -y) (by omega) (by omega)
    rwa [Int.neg_mul_neg] at this
  · exact Int.mul_nonneg h h
theorem sq_ok {c y : Int} (h0 : 0 ≤ c) (h1 : c ≤ 60) (h2 : -c ≤ y) (h3 : y ≤ c) : w64 (4 * w64 (w64 (c * c) - w64 (y * y))) = M.sq c y ∧ 0 ≤ M.sq c y ∧ M.sq c y ≤ 14400 ∧ M.sq c y % 4 = 0 := by
  have a1 := sq_abs h2 h3
  have a2 := sq_nn y
  have a3 := sq_le (a := c) (b := 60) h0 h1
  have a4 := sq_nn c
  have e : w64 (4 * w64 (w64 (c * c) - w64 (y * y))) = M.sq c y := by
    unfold M.sq
    rw [w64_id (n := c * c) (by omega) (by omega), w64_id (n := y * y) (by omega) (by omega), w64_id (n := c * c - y * y) (by omega) (by omega), w64_id (by omega) (by omega)]
  refine ⟨e, ?_⟩
  unfold M.sq
  omega
theorem t55 (c : Int) (y : Int) : runFnX Try.prog G0 (lookS [v58]) (fun _ => []) [] 0 60 3 55 Try.f55 [.c (dI c), .c (dI y)] = T.needs [0 ≤ w64 (4 * w64 (w64 (c * c) - w64 (y * y))), w64 (4 * w64 (w64 (c * c) - w64 (y * y))) ≤ 14400, w64 (4 * w64 (w64 (c * c) - w64 (y * y))) % 4 = 0] (T.ret [.agg [dI (M.r0 (w64 (4 * w64 (w64 (c * c) - w64 (y * y))))), dI (M.rU (w64 (4 * w64 (w64 (c * c) - w64 (y * y)))))]]) := by kernel_rfl
theorem w55 (c : Int) (y : Int) (h0 : 0 ≤ c) (h1 : c ≤ 60) (h2 : -c ≤ y) (h3 : y ≤ c) : (T.needs [0 ≤ w64 (4 * w64 (w64 (c * c) - w64 (y * y))), w64 (4 * w64 (w64 (c * c) - w64 (y * y))) ≤ 14400, w64 (4 * w64 (w64 (c * c) - w64 (y * y))) % 4 = 0] (T.ret [.agg [dI (M.r0 (w64 (4 * w64 (w64 (c * c) - w64 (y * y))))), dI (M.rU (w64 (4 * w64 (w64 (c * c) - w64 (y * y)))))]])).wp (fun zz => rsEqv zz [.agg [dI (M.r0 (M.sq c y)), dI (M.rU (M.sq c y))]]) := by
  obtain ⟨e, g1, g2, g3⟩ := sq_ok h0 h1 h2 h3
  rw [e]
  exact ⟨g1, g2, g3, rsEqv_refl _⟩
def dom55 : DomF
  | [.c (.int .i64 c), .c (.int .i64 y)] => some ([0 ≤ c, c ≤ 60, -c ≤ y, y ≤ c], [.agg [dI (M.r0 (M.sq c y)), dI (M.rU (M.sq c y))]])
  | _ => none
def v55 : Nat × Sm := (55, fokSm dom55)
theorem C55 : FOK Try.prog G0 gw 55 dom55 := by
  intro ags p r hd hp κ w xs hw hl hG hx
  unfold dom55 at hd
  split at hd
  · rename_i c y
    simp only [Option.some.injEq, Prod.mk.injEq] at hd
    obtain ⟨rfl, rfl⟩ := hd
    have heq : agsEqv [.c (.int .i64 c), .c (.int .i64 y)] [.c (.int .i64 c), .c (.int .i64 y)] := ⟨rfl, rfl, trivial⟩
    exact fokX_fin mixed gw_stable (sl := [v58]) ⟨S58, trivial⟩ Try.func55 hw hl hG hx heq rfl (t55 c y) (w55 c y hp.1 hp.2.1 hp.2.2.1 hp.2.2.2.1)
  · cases hd
theorem S55 : SumOK Try.prog G0 gw 55 (fokSm dom55) := fok_sum Try.func55 rfl C55
end Go.Ga
end

section
set_option linter.unusedVariables false
set_option linter.unusedSimpArgs false
set_option maxRecDepth 100000
namespace Go.Ga
open Go.Gd
open Go.V Go.Proofs
open Go.RowKit (Below)
open Go.Bl (rdI dI rI rB eI range_wp wrap_id)
open Go.Bl.M (within unl isName first)
theorem off_wp {S α : Type} {n : Nat} {base i0 : Int} {s0 : S} {body : Int × S → T ((Int × S) ⊕ α)} {Q : α → Prop} (hi : i0 = base) (I : Nat → S → Prop) (h0 : I 0 s0)
    (h : ∀ (k : Nat) s, k ≤ n → I k s → (body (base + (k : Int), s)).wp (fun r => match r with | .inl y => k < n ∧ y.1 = base + ((k + 1 : Nat) : Int) ∧ I (k + 1) y.2 | .inr a => Q a)) :
    (T.loop (Int × S) (i0, s0) body).wp Q := by
  subst hi
  refine ⟨fun x => ∃ k : Nat, k ≤ n ∧ x.1 = i0 + (k : Int) ∧ I k x.2, fun x => n - (x.1 - i0).toNat, ⟨0, Nat.zero_le _, by simp, h0⟩, ?_⟩
  rintro ⟨x, s⟩ ⟨k, hk, hx, hI⟩
  simp only at hx hI
  subst hx
  refine T.wp_mono ?_ (h k s hk hI)
  intro r hr
  cases r with
  | inl y =>
    obtain ⟨y1, y2⟩ := y
    obtain ⟨h1, h2, h3⟩ := hr
    simp only at h2 h3
    refine ⟨⟨k + 1, by omega, h2, h3⟩, ?_⟩
    simp only [h2]
    omega
  | inr a => exact hr
namespace M
def sLo (c : Int) (k : Nat) : Int := if r0 (sq c (-c + ((k + 1 : Nat) : Int))) < r0 (sq c (-c + (k : Int))) then r0 (sq c (-c + ((k + 1 : Nat) : Int))) else r0 (sq c (-c + (k : Int)))
def sHi (c : Int) (k : Nat) : Int := if rU (sq c (-c + ((k + 1 : Nat) : Int))) > rU (sq c (-c + (k : Int))) then rU (sq c (-c + ((k + 1 : Nat) : Int))) else rU (sq c (-c + (k : Int)))
def arLo (c : Int) : Nat → Int
  | 0 => 0
  | n + 1 => arLo c n + sLo c n
def arHi (c : Int) : Nat → Int
  | 0 => 0
  | n + 1 => arHi c n + sHi c n
def cnt (c v : Int) : Nat := ((if c < v then c else v) + c).toNat
end M
theorem cnt_le2 {c v : Int} (h0 : 0 ≤ c) : (M.cnt c v : Int) ≤ 2 * c := by unfold M.cnt; split <;> omega
theorem sq_at {c : Int} (h0 : 0 ≤ c) (h1 : c ≤ 60) {k : Nat} (hk : (k : Int) ≤ 2 * c) : 0 ≤ M.sq c (-c + (k : Int)) ∧ M.sq c (-c + (k : Int)) ≤ 14400 ∧ M.sq c (-c + (k : Int)) % 4 = 0 := (sq_ok h0 h1 (by omega) (by omega)).2
theorem r0_nn {n : Int} (h0 : 0 ≤ n) (h1 : n ≤ 14400) (h2 : n % 4 = 0) : 0 ≤ M.r0 n := (r0_spec h0 h1 h2).2.2.1
theorem rU_ge {n : Int} : M.r0 n ≤ M.rU n := by unfold M.rU; cases h : (M.r0 n * M.r0 n == n) <;> simp only [cond_true, cond_false] <;> omega
theorem rU_le {n : Int} : M.rU n ≤ M.r0 n + 1 := by unfold M.rU; cases h : (M.r0 n * M.r0 n == n) <;> simp only [cond_true, cond_false] <;> omega
theorem s_bnd {c : Int} (h0 : 0 ≤ c) (h1 : c ≤ 60) {k : Nat} (hk : (k : Int) < 2 * c) : 0 ≤ M.sLo c k ∧ M.sLo c k ≤ 120 ∧ 0 ≤ M.sHi c k ∧ M.sHi c k ≤ 121 := by
  obtain ⟨a1, a2, a3⟩ := sq_at h0 h1 (k := k) (by omega)
  obtain ⟨b1, b2, b3⟩ := sq_at h0 h1 (k := k + 1) (by omega)
  have c1 := r0_nn a1 a2 a3
  have c2 := r0_le a1 a2 a3
  have c3 := r0_nn b1 b2 b3
  have c4 := r0_le b1 b2 b3
  have d1 := rU_ge (n := M.sq c (-c + (k : Int)))
  have d2 := rU_le (n := M.sq c (-c + (k : Int)))
  have d3 := rU_ge (n := M.sq c (-c + ((k + 1 : Nat) : Int)))
  have d4 := rU_le (n := M.sq c (-c + ((k + 1 : Nat) : Int)))
  unfold M.sLo M.sHi
  refine ⟨?_, ?_, ?_, ?_⟩ <;> split <;> omega
theorem ar_bnd {c : Int} (h0 : 0 ≤ c) (h1 : c ≤ 60) : ∀ {k : Nat}, (k : Int) ≤ 2 * c → 0 ≤ M.arLo c k ∧ M.arLo c k ≤ 120 * (k : Int) ∧ 0 ≤ M.arHi c k ∧ M.arHi c k ≤ 121 * (k : Int) := by
  intro k
  induction k with
  | zero => intro _; exact ⟨Int.le_refl _, by show (0 : Int) ≤ 120 * 0; decide, Int.le_refl _, by show (0 : Int) ≤ 121 * 0; decide⟩
  | succ k ih =>
    intro hk
    obtain ⟨a1, a2, a3, a4⟩ := ih (by omega)
    obtain ⟨b1, b2, b3, b4⟩ := s_bnd h0 h1 (k := k) (by omega)
    unfold M.arLo M.arHi
    refine ⟨?_, ?_, ?_, ?_⟩ <;> omega
theorem t36 (c : Int) (v : Int) : runFnX Try.prog G0 (lookS [v55]) (fun _ => [(2, [.slot 5 (.int .i64), .blk 4 [.int .i64, .int .i64], .blk (1000000 + 1) [.int .i64, .int .i64]], none)]) [45, 54] 2 60 6 36 Try.f36 [.c (dI c), .c (dI v)] = T.needs [0 ≤ c, c ≤ 60, -c ≤ w64 (0 - c), w64 (0 - c) ≤ c] (T.loop (Int × Int × Int × Int × Int × PUnit) (w64 (0 - c), M.r0 (M.sq c (w64 (0 - c))), M.rU (M.sq c (w64 (0 - c))), (0 : Int), (0 : Int), PUnit.unit) fun (x : Int × Int × Int × Int × Int × PUnit) => T.br (decide (x.1 < (if c < v then c else v))) (T.needs [0 ≤ c, c ≤ 60, -c ≤ w64 (x.1 + 1), w64 (x.1 + 1) ≤ c] (T.ret (Sum.inl (w64 (x.1 + 1), M.r0 (M.sq c (w64 (x.1 + 1))), M.rU (M.sq c (w64 (x.1 + 1))), w64 (x.2.2.2.1 + if M.r0 (M.sq c (w64 (x.1 + 1))) < x.2.1 then M.r0 (M.sq c (w64 (x.1 + 1))) else x.2.1), w64 (x.2.2.2.2.1 + if M.rU (M.sq c (w64 (x.1 + 1))) > x.2.2.1 then M.rU (M.sq c (w64 (x.1 + 1))) else x.2.2.1), PUnit.unit)))) (T.ret (Sum.inr [.agg [dI x.2.2.2.1, dI x.2.2.2.2.1]]))) := by kernel_rfl
theorem w36 (c : Int) (v : Int) (h0 : 0 ≤ c) (h1 : c ≤ 60) : (T.needs [0 ≤ c, c ≤ 60, -c ≤ w64 (0 - c), w64 (0 - c) ≤ c] (T.loop (Int × Int × Int × Int × Int × PUnit) (w64 (0 - c), M.r0 (M.sq c (w64 (0 - c))), M.rU (M.sq c (w64 (0 - c))), (0 : Int), (0 : Int), PUnit.unit) fun (x : Int × Int × Int × Int × Int × PUnit) => T.br (decide (x.1 < (if c < v then c else v))) (T.needs [0 ≤ c, c ≤ 60, -c ≤ w64 (x.1 + 1), w64 (x.1 + 1) ≤ c] (T.ret (Sum.inl (w64 (x.1 + 1), M.r0 (M.sq c (w64 (x.1 + 1))), M.rU (M.sq c (w64 (x.1 + 1))), w64 (x.2.2.2.1 + if M.r0 (M.sq c (w64 (x.1 + 1))) < x.2.1 then M.r0 (M.sq c (w64 (x.1 + 1))) else x.2.1), w64 (x.2.2.2.2.1 + if M.rU (M.sq c (w64 (x.1 + 1))) > x.2.2.1 then M.rU (M.sq c (w64 (x.1 + 1))) else x.2.2.1), PUnit.unit)))) (T.ret (Sum.inr [.agg [dI x.2.2.2.1, dI x.2.2.2.2.1]])))).wp (fun zz => rsEqv zz [.agg [dI (M.arLo c (M.cnt c v)), dI (M.arHi c (M.cnt c v))]]) := by
  have e : w64 (0 - c) = -c := by rw [w64_id (by omega) (by omega)]; omega
  rw [e]
  refine ⟨h0, h1, Int.le_refl _, by omega, ?_⟩
  refine off_wp (n := M.cnt c v) (base := -c) rfl (fun k s => s.1 = M.r0 (M.sq c (-c + (k : Int))) ∧ s.2.1 = M.rU (M.sq c (-c + (k : Int))) ∧ s.2.2.1 = M.arLo c k ∧ s.2.2.2.1 = M.arHi c k) ⟨by simp, by simp, rfl, rfl⟩ ?_
  rintro k ⟨s, z, p, q, u⟩ hk ⟨i1, i2, i3, i4⟩
  have i1 : s = M.r0 (M.sq c (-c + (k : Int))) := i1
  have i2 : z = M.rU (M.sq c (-c + (k : Int))) := i2
  have i3 : p = M.arLo c k := i3
  have i4 : q = M.arHi c k := i4
  subst i1 i2 i3 i4
  have hc2 := cnt_le2 (c := c) (v := v) h0
  refine ⟨fun hb => ?_, fun hb => ?_⟩
  · have hb : -c + (k : Int) < (if c < v then c else v) := of_decide_eq_true hb
    have hk1 : k < M.cnt c v := by unfold M.cnt; omega
    have hw : w64 (-c + (k : Int) + 1) = -c + ((k + 1 : Nat) : Int) := by rw [w64_id (by omega) (by omega)]; omega
    obtain ⟨a1, a2, a3, a4⟩ := ar_bnd h0 h1 (k := k) (by omega)
    obtain ⟨b1, b2, b3, b4⟩ := s_bnd h0 h1 (k := k) (by omega)
    refine ⟨h0, h1, by show -c ≤ w64 (-c + (k : Int) + 1); omega, by show w64 (-c + (k : Int) + 1) ≤ c; omega, hk1, hw, ?_⟩
    refine ⟨by show M.r0 (M.sq c (w64 (-c + (k : Int) + 1))) = _; rw [hw], by show M.rU (M.sq c (w64 (-c + (k : Int) + 1))) = _; rw [hw], ?_, ?_⟩
    · show w64 (M.arLo c k + if M.r0 (M.sq c (w64 (-c + (k : Int) + 1))) < M.r0 (M.sq c (-c + (k : Int))) then M.r0 (M.sq c (w64 (-c + (k : Int) + 1))) else M.r0 (M.sq c (-c + (k : Int)))) = M.arLo c k + M.sLo c k
      rw [hw]
      exact w64_id (by show _ ≤ M.arLo c k + M.sLo c k; omega) (by show M.arLo c k + M.sLo c k < _; omega)
    · show w64 (M.arHi c k + if M.rU (M.sq c (w64 (-c + (k : Int) + 1))) > M.rU (M.sq c (-c + (k : Int))) then M.rU (M.sq c (w64 (-c + (k : Int) + 1))) else M.rU (M.sq c (-c + (k : Int)))) = M.arHi c k + M.sHi c k
      rw [hw]
      exact w64_id (by show _ ≤ M.arHi c k + M.sHi c k; omega) (by show M.arHi c k + M.sHi c k < _; omega)
  · have hb : ¬ (-c + (k : Int) < (if c < v then c else v)) := of_decide_eq_false hb
    have hk1 : k = M.cnt c v := by
      have : M.cnt c v ≤ k := by unfold M.cnt; omega
      omega
    subst hk1
    exact rsEqv_refl _
def dom36 : DomF
  | [.c (.int .i64 c), .c (.int .i64 v)] => some ([0 ≤ c, c ≤ 60], [.agg [dI (M.arLo c (M.cnt c v)), dI (M.arHi c (M.cnt c v))]])
  | _ => none
def v36 : Nat × Sm := (36, fokSm dom36)
theorem C36 : FOK Try.prog G0 gw 36 dom36 := by
  intro ags p r hd hp κ w xs hw hl hG hx
  unfold dom36 at hd
  split at hd
  · rename_i c v
    simp only [Option.some.injEq, Prod.mk.injEq] at hd
    obtain ⟨rfl, rfl⟩ := hd
    have heq : agsEqv [.c (.int .i64 c), .c (.int .i64 v)] [.c (.int .i64 c), .c (.int .i64 v)] := ⟨rfl, rfl, trivial⟩
    exact fokX_fin mixed gw_stable (sl := [v55]) ⟨S55, trivial⟩ Try.func36 hw hl hG hx heq rfl (t36 c v) (w36 c v hp.1 hp.2.1)
  · cases hd
theorem S36 : SumOK Try.prog G0 gw 36 (fokSm dom36) := fok_sum Try.func36 rfl C36
end Go.Ga
end

section
set_option linter.unusedVariables false
set_option linter.unusedSimpArgs false
set_option maxRecDepth 100000
namespace Go.Ga
open Go.Gd
open Go.V Go.Proofs
open Go.RowKit (Below)
open Go.Bl (rdI dI rI rB eI range_wp wrap_id)
open Go.Bl.M (within unl isName first)
namespace M
def rdErr (nm : ByteArray) (day lo hi : Int) : Int := cond (isName nm) (cond (within day 0 100000) (rgErr lo hi 100000) 2) 4
def mvErr (day : Int) (fr to : ByteArray) (vol : Int) : Int := first [unl (within day 0 100000) 2, unl (isEnd fr && isEnd to) 4, unl (!decide (fr = to)) 3, unl (within vol 0 100000) 2]
end M
theorem toL_eq (a b : ByteArray) : (a.toList == b.toList) = decide (a = b) := by
  by_cases h : a = b
  · subst h; simp
  · rw [decide_eq_false h, beq_eq_false_iff_ne]
    exact fun e => h (toL_inj e)
theorem gt_le (a b : Int) : decide (a > b) = !decide (a ≤ b) := by
  by_cases h : a ≤ b
  · rw [decide_eq_true h, decide_eq_false (by omega)]; rfl
  · rw [decide_eq_false h, decide_eq_true (by omega)]; rfl
theorem t12 (nm : ByteArray) (day : Int) (lo : Int) (hi : Int) : runFnX Try.prog G0 (lookS [Go.Bl.v105, v27, v28]) (fun _ => []) [] 0 60 3 12 Try.f12 [.agg [.str nm, dI day, dI lo, dI hi]] = T.need (nm.size ≤ 1000000) (T.br (!isName nm) (T.ret [rI 4]) (T.br (M.dayErr day != 0) (T.ret [rI (M.dayErr day)]) (T.ret [rI (M.rgErr lo hi 100000)]))) := by kernel_rfl
theorem w12 (nm : ByteArray) (day : Int) (lo : Int) (hi : Int) (hs : nm.size ≤ 1000000) : (T.need (nm.size ≤ 1000000) (T.br (!isName nm) (T.ret [rI 4]) (T.br (M.dayErr day != 0) (T.ret [rI (M.dayErr day)]) (T.ret [rI (M.rgErr lo hi 100000)])))).wp (fun rs => rsEqv rs [rI (M.rdErr nm day lo hi)]) := by
  refine ⟨hs, ?_⟩
  unfold M.rdErr M.dayErr unl
  generalize isName nm = b0 at *
  generalize within day 0 100000 = b1 at *
  cases b0 <;> cases b1 <;> repeat (first | exact rsEqv_refl _ | refine ⟨fun _ => ?_, fun h => absurd h (by decide)⟩ | refine ⟨fun h => absurd h (by decide), fun _ => ?_⟩)
def dom12 : DomF
  | [.agg [.str nm, .int .i64 day, .int .i64 lo, .int .i64 hi]] => some ([nm.size ≤ 1000000], [rI (M.rdErr nm day lo hi)])
  | _ => none
def v12 : Nat × Sm := (12, fokSm dom12)
theorem C12 : FOK Try.prog G0 gw 12 dom12 := by
  intro ags p r hd hp κ w xs hw hl hG hx
  unfold dom12 at hd
  split at hd
  · rename_i nm day lo hi
    simp only [Option.some.injEq, Prod.mk.injEq] at hd
    obtain ⟨rfl, rfl⟩ := hd
    have heq : agsEqv [.agg [.str nm, .int .i64 day, .int .i64 lo, .int .i64 hi]] [.agg [.str nm, .int .i64 day, .int .i64 lo, .int .i64 hi]] := ⟨⟨rfl, rfl, rfl, rfl, trivial⟩, trivial⟩
    exact fokX_fin mixed gw_stable (sl := [Go.Bl.v105, v27, v28]) ⟨Go.Bl.S105, S27, S28, trivial⟩ Try.func12 hw hl hG hx heq rfl (t12 nm day lo hi) (w12 nm day lo hi hp.1)
  · cases hd
theorem S12 : SumOK Try.prog G0 gw 12 (fokSm dom12) := fok_sum Try.func12 rfl C12
theorem t48 (nm : ByteArray) (day : Int) (lo : Int) (hi : Int) : runFnX Try.prog G0 (lookS [Go.Bl.v64, Go.Bl.v80, Go.Bl.v104, v24, v56, v46]) (fun _ => []) [] 0 60 3 48 Try.f48 [.agg [.str nm, dI day, dI lo, dI hi]] = T.br (within day 0 100000) (T.br (within lo 0 100000) (T.need (nm.size ≤ 1000000) (T.ret [rI (first [unl (isName nm) 4, unl (within hi 0 100000) 2, unl (decide (lo ≤ hi)) 9])])) (T.need (nm.size ≤ 1000000) (T.ret [rI (first [unl (isName nm) 4, 2, unl (decide (lo ≤ hi)) 9])]))) (T.need (nm.size ≤ 1000000) (T.ret [rI (first [unl (isName nm) 4, 2, unl (decide (lo ≤ hi)) 9])])) := by kernel_rfl
theorem w48 (nm : ByteArray) (day : Int) (lo : Int) (hi : Int) (hs : nm.size ≤ 1000000) : (T.br (within day 0 100000) (T.br (within lo 0 100000) (T.need (nm.size ≤ 1000000) (T.ret [rI (first [unl (isName nm) 4, unl (within hi 0 100000) 2, unl (decide (lo ≤ hi)) 9])])) (T.need (nm.size ≤ 1000000) (T.ret [rI (first [unl (isName nm) 4, 2, unl (decide (lo ≤ hi)) 9])]))) (T.need (nm.size ≤ 1000000) (T.ret [rI (first [unl (isName nm) 4, 2, unl (decide (lo ≤ hi)) 9])]))).wp (fun rs => rsEqv rs [rI (M.rdErr nm day lo hi)]) := by
  unfold M.rdErr M.rgErr unl
  rw [gt_le]
  generalize isName nm = b0 at *
  generalize within day 0 100000 = b1 at *
  generalize within lo 0 100000 = b2 at *
  generalize within hi 0 100000 = b3 at *
  generalize decide (lo ≤ hi) = b4 at *
  cases b0 <;> cases b1 <;> cases b2 <;> cases b3 <;> cases b4 <;> repeat (first | exact ⟨hs, rsEqv_refl _⟩ | refine ⟨fun _ => ?_, fun h => absurd h (by decide)⟩ | refine ⟨fun h => absurd h (by decide), fun _ => ?_⟩)
def dom48 : DomF
  | [.agg [.str nm, .int .i64 day, .int .i64 lo, .int .i64 hi]] => some ([nm.size ≤ 1000000], [rI (M.rdErr nm day lo hi)])
  | _ => none
def v48 : Nat × Sm := (48, fokSm dom48)
theorem C48 : FOK Try.prog G0 gw 48 dom48 := by
  intro ags p r hd hp κ w xs hw hl hG hx
  unfold dom48 at hd
  split at hd
  · rename_i nm day lo hi
    simp only [Option.some.injEq, Prod.mk.injEq] at hd
    obtain ⟨rfl, rfl⟩ := hd
    have heq : agsEqv [.agg [.str nm, .int .i64 day, .int .i64 lo, .int .i64 hi]] [.agg [.str nm, .int .i64 day, .int .i64 lo, .int .i64 hi]] := ⟨⟨rfl, rfl, rfl, rfl, trivial⟩, trivial⟩
    exact fokX_fin mixed gw_stable (sl := [Go.Bl.v64, Go.Bl.v80, Go.Bl.v104, v24, v56, v46]) ⟨Go.Bl.S64, Go.Bl.S80, Go.Bl.S104, S24, S56, S46, trivial⟩ Try.func48 hw hl hG hx heq rfl (t48 nm day lo hi) (w48 nm day lo hi hp.1)
  · cases hd
theorem S48 : SumOK Try.prog G0 gw 48 (fokSm dom48) := fok_sum Try.func48 rfl C48
theorem t51 (day : Int) (fr : ByteArray) (to : ByteArray) (vol : Int) : runFnX Try.prog G0 (lookS [Go.Bl.v64, Go.Bl.v80, Go.Bl.v104, v24, v56, v57]) (fun _ => []) [] 0 60 3 51 Try.f51 [.agg [dI day, .str fr, .str to, dI vol]] = T.br (M.isEnd fr) (T.needs [fr.size ≤ 1000000, M.isEnd fr = true, to.size ≤ 1000000] (T.ret [rI (first [unl (within day 0 100000) 2, unl (M.isEnd to) 4, unl (!fr.toList == to.toList) 3, unl (within vol 0 100000) 2])])) (T.needs [fr.size ≤ 1000000, M.isEnd fr = false] (T.ret [rI (first [unl (within day 0 100000) 2, 4, unl (!fr.toList == to.toList) 3, unl (within vol 0 100000) 2])])) := by kernel_rfl
theorem w51 (day : Int) (fr : ByteArray) (to : ByteArray) (vol : Int) (h1 : fr.size ≤ 1000000) (h2 : to.size ≤ 1000000) : (T.br (M.isEnd fr) (T.needs [fr.size ≤ 1000000, M.isEnd fr = true, to.size ≤ 1000000] (T.ret [rI (first [unl (within day 0 100000) 2, unl (M.isEnd to) 4, unl (!fr.toList == to.toList) 3, unl (within vol 0 100000) 2])])) (T.needs [fr.size ≤ 1000000, M.isEnd fr = false] (T.ret [rI (first [unl (within day 0 100000) 2, 4, unl (!fr.toList == to.toList) 3, unl (within vol 0 100000) 2])]))).wp (fun rs => rsEqv rs [rI (M.mvErr day fr to vol)]) := by
  unfold M.mvErr
  rw [toL_eq]
  refine ⟨fun h => ⟨h1, h, h2, ?_⟩, fun h => ⟨h1, h, ?_⟩⟩
  · rw [h]; exact rsEqv_refl _
  · rw [h]; exact rsEqv_refl _
def dom51 : DomF
  | [.agg [.int .i64 day, .str fr, .str to, .int .i64 vol]] => some ([fr.size ≤ 1000000, to.size ≤ 1000000], [rI (M.mvErr day fr to vol)])
  | _ => none
def v51 : Nat × Sm := (51, fokSm dom51)
theorem C51 : FOK Try.prog G0 gw 51 dom51 := by
  intro ags p r hd hp κ w xs hw hl hG hx
  unfold dom51 at hd
  split at hd
  · rename_i day fr to vol
    simp only [Option.some.injEq, Prod.mk.injEq] at hd
    obtain ⟨rfl, rfl⟩ := hd
    have heq : agsEqv [.agg [.int .i64 day, .str fr, .str to, .int .i64 vol]] [.agg [.int .i64 day, .str fr, .str to, .int .i64 vol]] := ⟨⟨rfl, rfl, rfl, rfl, trivial⟩, trivial⟩
    exact fokX_fin mixed gw_stable (sl := [Go.Bl.v64, Go.Bl.v80, Go.Bl.v104, v24, v56, v57]) ⟨Go.Bl.S64, Go.Bl.S80, Go.Bl.S104, S24, S56, S57, trivial⟩ Try.func51 hw hl hG hx heq rfl (t51 day fr to vol) (w51 day fr to vol hp.1 hp.2.1)
  · cases hd
theorem S51 : SumOK Try.prog G0 gw 51 (fokSm dom51) := fok_sum Try.func51 rfl C51
theorem t49 (nm : ByteArray) (day : Int) (lo : Int) (hi : Int) : runFnX Try.prog G0 (lookS []) (fun _ => []) [] 0 60 3 49 Try.f49 [.agg [.str nm, dI day, dI lo, dI hi]] = T.ret [rI day] := by kernel_rfl
theorem w49 (nm : ByteArray) (day : Int) (lo : Int) (hi : Int)  : (T.ret [rI day]).wp (fun rs => rsEqv rs [rI day]) := by
  exact rsEqv_refl _
def dom49 : DomF
  | [.agg [.str nm, .int .i64 day, .int .i64 lo, .int .i64 hi]] => some ([], [rI day])
  | _ => none
def v49 : Nat × Sm := (49, fokSm dom49)
theorem C49 : FOK Try.prog G0 gw 49 dom49 := by
  intro ags p r hd hp κ w xs hw hl hG hx
  unfold dom49 at hd
  split at hd
  · rename_i nm day lo hi
    simp only [Option.some.injEq, Prod.mk.injEq] at hd
    obtain ⟨rfl, rfl⟩ := hd
    have heq : agsEqv [.agg [.str nm, .int .i64 day, .int .i64 lo, .int .i64 hi]] [.agg [.str nm, .int .i64 day, .int .i64 lo, .int .i64 hi]] := ⟨⟨rfl, rfl, rfl, rfl, trivial⟩, trivial⟩
    exact fokX_fin mixed gw_stable (sl := []) trivial Try.func49 hw hl hG hx heq rfl (t49 nm day lo hi) (w49 nm day lo hi )
  · cases hd
theorem S49 : SumOK Try.prog G0 gw 49 (fokSm dom49) := fok_sum Try.func49 rfl C49
theorem t52 (day : Int) (fr : ByteArray) (to : ByteArray) (vol : Int) : runFnX Try.prog G0 (lookS []) (fun _ => []) [] 0 60 3 52 Try.f52 [.agg [dI day, .str fr, .str to, dI vol]] = T.ret [rI day] := by kernel_rfl
theorem w52 (day : Int) (fr : ByteArray) (to : ByteArray) (vol : Int)  : (T.ret [rI day]).wp (fun rs => rsEqv rs [rI day]) := by
  exact rsEqv_refl _
def dom52 : DomF
  | [.agg [.int .i64 day, .str fr, .str to, .int .i64 vol]] => some ([], [rI day])
  | _ => none
def v52 : Nat × Sm := (52, fokSm dom52)
theorem C52 : FOK Try.prog G0 gw 52 dom52 := by
  intro ags p r hd hp κ w xs hw hl hG hx
  unfold dom52 at hd
  split at hd
  · rename_i day fr to vol
    simp only [Option.some.injEq, Prod.mk.injEq] at hd
    obtain ⟨rfl, rfl⟩ := hd
    have heq : agsEqv [.agg [.int .i64 day, .str fr, .str to, .int .i64 vol]] [.agg [.int .i64 day, .str fr, .str to, .int .i64 vol]] := ⟨⟨rfl, rfl, rfl, rfl, trivial⟩, trivial⟩
    exact fokX_fin mixed gw_stable (sl := []) trivial Try.func52 hw hl hG hx heq rfl (t52 day fr to vol) (w52 day fr to vol )
  · cases hd
theorem S52 : SumOK Try.prog G0 gw 52 (fokSm dom52) := fok_sum Try.func52 rfl C52
end Go.Ga
end

section
set_option linter.unusedVariables false
set_option linter.unusedSimpArgs false
set_option maxRecDepth 100000
namespace Go.Ga
open Go.Gd
open Go.V Go.Proofs
open Go.RowKit (Below)
open Go.Bl (rdI dI rI rB eI range_wp wrap_id)
open Go.Bl.M (within unl isName first)
abbrev dR : Rd := eRd.dflt
abbrev dM : Mv := eMv.dflt
abbrev RdE (r : Rd) : Int := M.rdErr r.nm r.day r.lo r.hi
abbrev MvE (r : Mv) : Int := M.mvErr r.day r.fr r.to r.vol
def M.OkR (l : List Rd) : Prop := l.length ≤ 40 ∧ ∀ k, k < l.length → (l.getD k dR).nm.size ≤ 1000000 ∧ RdE (l.getD k dR) = 0 ∧ (0 < k → (l.getD (k - 1) dR).day ≤ (l.getD k dR).day)
def M.OkM (l : List Mv) : Prop := l.length ≤ 60 ∧ ∀ k, k < l.length → ((l.getD k dM).fr.size ≤ 1000000 ∧ (l.getD k dM).to.size ≤ 1000000) ∧ MvE (l.getD k dM) = 0 ∧ (0 < k → (l.getD (k - 1) dM).day ≤ (l.getD k dM).day)
abbrev pv (x : Int) : Int := if w64 (x - 1) > 0 then w64 (x - 1) else 0
theorem pv_eq {k : Nat} (h0 : 0 < k) (h : k ≤ 1000000) : pv (k : Int) = ((k - 1 : Nat) : Int) := by
  unfold pv
  rw [w64_id (by omega) (by omega)]; split <;> omega
theorem w64_s {k : Nat} (h : k ≤ 1000000) : w64 ((k : Int) + 1) = ((k + 1 : Nat) : Int) := by rw [w64_id (by omega) (by omega)]; omega
def bd47 (l : List Rd) (x : Int) : T ((Int × PUnit.{1}) ⊕ List Ar) := T.br (decide (x < (l.length : Int))) (T.needs [0 ≤ x, x < (l.length : Int)] (T.br (x == 0) (T.needs [(l.getD x.toNat dR).nm.size ≤ 1000000, (x == 0) = true] (T.br (first [RdE (l.getD x.toNat dR), 0] != 0) (T.ret (Sum.inr [rI x, rI (first [RdE (l.getD x.toNat dR), 0])])) (T.ret (Sum.inl (w64 (x + 1), PUnit.unit))))) (T.needs [(l.getD x.toNat dR).nm.size ≤ 1000000, (x == 0) = false, 0 ≤ pv x, pv x < (l.length : Int)] (T.br (first [RdE (l.getD x.toNat dR), unl (decide ((l.getD x.toNat dR).day ≥ (l.getD (pv x).toNat dR).day)) 9] != 0) (T.ret (Sum.inr [rI x, rI (first [RdE (l.getD x.toNat dR), unl (decide ((l.getD x.toNat dR).day ≥ (l.getD (pv x).toNat dR).day)) 9])])) (T.ret (Sum.inl (w64 (x + 1), PUnit.unit))))))) (T.ret (Sum.inr [rI (-1), rI 0]))
theorem t47 (q_l : Bool) (l : List Rd) : runFnX Try.prog G0 (lookS [Go.Bl.v64, Go.Bl.v80, v48, v49]) (fun _ => [(2, [.slot 13 (.int .i64)], none)]) [] 1 60 3 47 Try.f47 [.c (.sl q_l l.length 4 (eRd.F l)), .c (.op (.func (.func 48) #[] #[])), .c (.op (.func (.func 49) #[] #[]))] = T.loop (Int × PUnit) ((0 : Int), PUnit.unit) fun x => bd47 l x.1 := by kernel_rfl
theorem w47 (l : List Rd) (hl : M.OkR l) : (T.loop (Int × PUnit) ((0 : Int), PUnit.unit) fun x => bd47 l x.1).wp (fun rs => rsEqv rs [rI (-1), rI 0]) := by
  obtain ⟨hn, hl⟩ := hl
  refine range_wp (n := l.length) (fun _ _ => True) trivial fun k u hk _ => ?_
  show T.wp (bd47 l (k : Int)) _
  unfold bd47
  simp only [Int.toNat_natCast]
  refine ⟨fun hb => ?_, fun _ => rsEqv_refl _⟩
  have hlt : (k : Int) < l.length := of_decide_eq_true hb
  have hk1 : k < l.length := by omega
  obtain ⟨h1, h2, h3⟩ := hl k hk1
  have hn1 : w64 ((k : Int) + 1) = ((k + 1 : Nat) : Int) := w64_s (by omega)
  refine ⟨by omega, hlt, fun h0 => ⟨h1, h0, fun hne => ?_, fun _ => ⟨hk1, hn1, trivial⟩⟩, fun h0 => ?_⟩
  · rw [h2] at hne; exact absurd hne (by decide)
  · have hk0 : 0 < k := by
      rcases Nat.eq_zero_or_pos k with e | e
      · subst e; exact absurd h0 (by decide)
      · exact e
    rw [pv_eq hk0 (by omega)]
    simp only [Int.toNat_natCast]
    refine ⟨h1, h0, by omega, by omega, fun hne => ?_, fun _ => ⟨hk1, hn1, trivial⟩⟩
    rw [h2, decide_eq_true (show (l.getD k dR).day ≥ (l.getD (k - 1) dR).day from h3 hk0)] at hne; exact absurd hne (by decide)
def dom47 : DomF
  | [.c (.sl q n st F), .c (.op (.func (.func g) a b)), .c (.op (.func (.func g2) a2 b2))] => (match (Nat.beq st 4 || Nat.beq n 0) && (Nat.beq g 48 && Nat.beq g2 49), a.toList, b.toList, a2.toList, b2.toList with
    | true, [], [], [], [] => some ([eRd.Is n F, M.OkR (eRd.list n F)], [rI (-1), rI 0])
    | _, _, _, _, _ => none)
  | _ => none
def v47 : Nat × Sm := (47, fokSm dom47)
theorem C47 : FOK Try.prog G0 gw 47 dom47 := by
  intro ags p r hd hp κ w xs hw hl hG hx
  unfold dom47 at hd
  split at hd
  · rename_i q n st F g a b g2 a2 b2
    split at hd
    · rename_i hst ha hb ha2 hb2
      rw [Bool.and_eq_true, Bool.and_eq_true] at hst
      obtain ⟨gz, h2, h3⟩ := hst
      have h2 := Nat.eq_of_beq_eq_true h2
      have h3 := Nat.eq_of_beq_eq_true h3
      have ea : a = #[] := by apply Array.ext'; simpa using ha
      have eb : b = #[] := by apply Array.ext'; simpa using hb
      have ea2 : a2 = #[] := by apply Array.ext'; simpa using ha2
      have eb2 : b2 = #[] := by apply Array.ext'; simpa using hb2
      subst h2 h3 ea eb ea2 eb2
      simp only [Option.some.injEq, Prod.mk.injEq] at hd
      obtain ⟨rfl, rfl⟩ := hd
      obtain ⟨hI, hp1, _⟩ := hp
      have heq : agsEqv [.c (.sl q n st F), .c (.op (.func (.func 48) #[] #[])), .c (.op (.func (.func 49) #[] #[]))] [.c (.sl q (eRd.list n F).length 4 (eRd.F (eRd.list n F))), .c (.op (.func (.func 48) #[] #[])), .c (.op (.func (.func 49) #[] #[]))] := ⟨toE eRd (k := 4) rfl gz hI, Ag.eqv_refl _, Ag.eqv_refl _, trivial⟩
      generalize eRd.list n F = l at *
      exact fokX_fin mixed gw_stable (sl := [Go.Bl.v64, Go.Bl.v80, v48, v49]) ⟨Go.Bl.S64, Go.Bl.S80, S48, S49, trivial⟩ Try.func47 hw hl hG hx heq rfl (t47 q l) (w47 l hp1)
    · cases hd
  · cases hd
theorem S47 : SumOK Try.prog G0 gw 47 (fokSm dom47) := fok_sum Try.func47 rfl C47
def bd50 (l : List Mv) (x : Int) : T ((Int × PUnit.{1}) ⊕ List Ar) := T.br (decide (x < (l.length : Int))) (T.needs [0 ≤ x, x < (l.length : Int)] (T.br (x == 0) (T.needs [(l.getD x.toNat dM).fr.size ≤ 1000000, (l.getD x.toNat dM).to.size ≤ 1000000, (x == 0) = true] (T.br (first [MvE (l.getD x.toNat dM), 0] != 0) (T.ret (Sum.inr [rI x, rI (first [MvE (l.getD x.toNat dM), 0])])) (T.ret (Sum.inl (w64 (x + 1), PUnit.unit))))) (T.needs [(l.getD x.toNat dM).fr.size ≤ 1000000, (l.getD x.toNat dM).to.size ≤ 1000000, (x == 0) = false, 0 ≤ pv x, pv x < (l.length : Int)] (T.br (first [MvE (l.getD x.toNat dM), unl (decide ((l.getD x.toNat dM).day ≥ (l.getD (pv x).toNat dM).day)) 9] != 0) (T.ret (Sum.inr [rI x, rI (first [MvE (l.getD x.toNat dM), unl (decide ((l.getD x.toNat dM).day ≥ (l.getD (pv x).toNat dM).day)) 9])])) (T.ret (Sum.inl (w64 (x + 1), PUnit.unit))))))) (T.ret (Sum.inr [rI (-1), rI 0]))
theorem t50 (q_l : Bool) (l : List Mv) : runFnX Try.prog G0 (lookS [Go.Bl.v64, Go.Bl.v80, v51, v52]) (fun _ => [(2, [.slot 13 (.int .i64)], none)]) [] 1 60 3 50 Try.f50 [.c (.sl q_l l.length 4 (eMv.F l)), .c (.op (.func (.func 51) #[] #[])), .c (.op (.func (.func 52) #[] #[]))] = T.loop (Int × PUnit) ((0 : Int), PUnit.unit) fun x => bd50 l x.1 := by kernel_rfl
theorem w50 (l : List Mv) (hl : M.OkM l) : (T.loop (Int × PUnit) ((0 : Int), PUnit.unit) fun x => bd50 l x.1).wp (fun rs => rsEqv rs [rI (-1), rI 0]) := by
  obtain ⟨hn, hl⟩ := hl
  refine range_wp (n := l.length) (fun _ _ => True) trivial fun k u hk _ => ?_
  show T.wp (bd50 l (k : Int)) _
  unfold bd50
  simp only [Int.toNat_natCast]
  refine ⟨fun hb => ?_, fun _ => rsEqv_refl _⟩
  have hlt : (k : Int) < l.length := of_decide_eq_true hb
  have hk1 : k < l.length := by omega
  obtain ⟨h1, h2, h3⟩ := hl k hk1
  have hn1 : w64 ((k : Int) + 1) = ((k + 1 : Nat) : Int) := w64_s (by omega)
  refine ⟨by omega, hlt, fun h0 => ⟨h1.1, h1.2, h0, fun hne => ?_, fun _ => ⟨hk1, hn1, trivial⟩⟩, fun h0 => ?_⟩
  · rw [h2] at hne; exact absurd hne (by decide)
  · have hk0 : 0 < k := by
      rcases Nat.eq_zero_or_pos k with e | e
      · subst e; exact absurd h0 (by decide)
      · exact e
    rw [pv_eq hk0 (by omega)]
    simp only [Int.toNat_natCast]
    refine ⟨h1.1, h1.2, h0, by omega, by omega, fun hne => ?_, fun _ => ⟨hk1, hn1, trivial⟩⟩
    rw [h2, decide_eq_true (show (l.getD k dM).day ≥ (l.getD (k - 1) dM).day from h3 hk0)] at hne; exact absurd hne (by decide)
def dom50 : DomF
  | [.c (.sl q n st F), .c (.op (.func (.func g) a b)), .c (.op (.func (.func g2) a2 b2))] => (match (Nat.beq st 4 || Nat.beq n 0) && (Nat.beq g 51 && Nat.beq g2 52), a.toList, b.toList, a2.toList, b2.toList with
    | true, [], [], [], [] => some ([eMv.Is n F, M.OkM (eMv.list n F)], [rI (-1), rI 0])
    | _, _, _, _, _ => none)
  | _ => none
def v50 : Nat × Sm := (50, fokSm dom50)
theorem C50 : FOK Try.prog G0 gw 50 dom50 := by
  intro ags p r hd hp κ w xs hw hl hG hx
  unfold dom50 at hd
  split at hd
  · rename_i q n st F g a b g2 a2 b2
    split at hd
    · rename_i hst ha hb ha2 hb2
      rw [Bool.and_eq_true, Bool.and_eq_true] at hst
      obtain ⟨gz, h2, h3⟩ := hst
      have h2 := Nat.eq_of_beq_eq_true h2
      have h3 := Nat.eq_of_beq_eq_true h3
      have ea : a = #[] := by apply Array.ext'; simpa using ha
      have eb : b = #[] := by apply Array.ext'; simpa using hb
      have ea2 : a2 = #[] := by apply Array.ext'; simpa using ha2
      have eb2 : b2 = #[] := by apply Array.ext'; simpa using hb2
      subst h2 h3 ea eb ea2 eb2
      simp only [Option.some.injEq, Prod.mk.injEq] at hd
      obtain ⟨rfl, rfl⟩ := hd
      obtain ⟨hI, hp1, _⟩ := hp
      have heq : agsEqv [.c (.sl q n st F), .c (.op (.func (.func 51) #[] #[])), .c (.op (.func (.func 52) #[] #[]))] [.c (.sl q (eMv.list n F).length 4 (eMv.F (eMv.list n F))), .c (.op (.func (.func 51) #[] #[])), .c (.op (.func (.func 52) #[] #[]))] := ⟨toE eMv (k := 4) rfl gz hI, Ag.eqv_refl _, Ag.eqv_refl _, trivial⟩
      generalize eMv.list n F = l at *
      exact fokX_fin mixed gw_stable (sl := [Go.Bl.v64, Go.Bl.v80, v51, v52]) ⟨Go.Bl.S64, Go.Bl.S80, S51, S52, trivial⟩ Try.func50 hw hl hG hx heq rfl (t50 q l) (w50 l hp1)
    · cases hd
  · cases hd
theorem S50 : SumOK Try.prog G0 gw 50 (fokSm dom50) := fok_sum Try.func50 rfl C50
end Go.Ga
end

section
set_option linter.unusedVariables false
set_option linter.unusedSimpArgs false
set_option maxRecDepth 100000
namespace Go.Ga
open Go.Gd
open Go.V Go.Proofs
open Go.RowKit (Below)
open Go.Bl (rdI dI rI rB eI range_wp wrap_id)
open Go.Bl.M (within unl isName first)
structure M.OkB (ll lh : Int) (rs : List Rd) (ms : List Mv) : Prop where
  l0 : 0 ≤ ll
  l1 : ll ≤ lh
  l2 : lh ≤ 100000
  r : M.OkR rs
  m : M.OkM ms
theorem within_yes {n a b : Int} (h1 : a ≤ n) (h2 : n ≤ b) : within n a b = true := by unfold within; rw [decide_eq_true h1, decide_eq_true h2]; rfl
theorem foldl_take {α β : Type} {f : β → α → β} {a : β} {l : List α} {d : α} {k : Nat} (h : k < l.length) : (l.take (k + 1)).foldl f a = f ((l.take k).foldl f a) (l.getD k d) := by
  rw [List.take_add_one, List.getElem?_eq_getElem h, List.foldl_append, List.getD_eq_getElem?_getD, List.getElem?_eq_getElem h]
  rfl
namespace M
def nst (c : ByteArray) (a b : Int) (s : Int) (m : Mv) : Int := cond (decide (m.day ≤ a)) s (cond (decide (m.day > b)) s (cond (decide (m.to = c)) (cond (decide (m.fr = c)) (w64 (w64 (s + m.vol) - m.vol)) (w64 (s + m.vol))) (cond (decide (m.fr = c)) (w64 (s - m.vol)) s)))
def net (ms : List Mv) (c : ByteArray) (a b : Int) : Int := ms.foldl (nst c a b) 0
end M
def en40 (rs : List Rd) (ms : List Mv) : T (List Ar) := T.needs [eRd.Is rs.length (eRd.F rs), M.OkR (eRd.list rs.length (eRd.F rs))] (T.br ((0 : Int) != 0) (T.ret [.agg [dI 1, dI (-1)], rI 0]) (T.needs [eMv.Is ms.length (eMv.F ms), M.OkM (eMv.list ms.length (eMv.F ms))] (T.br ((0 : Int) != 0) (T.ret [.agg [dI 2, dI (-1)], rI 0]) (T.ret [.agg [dI 0, dI 0], rI 0]))))
theorem t40 (ll : Int) (lh : Int) (q_rs : Bool) (rs : List Rd) (q_ms : Bool) (ms : List Mv) : runFnX Try.prog G0 (lookS [Go.Bl.v64, Go.Bl.v80, Go.Bl.v102, v46, v47, v50]) (fun _ => []) [] 0 60 3 40 Try.f40 [.agg [dI ll, dI lh, .sl q_rs rs.length 4 (eRd.F rs), .sl q_ms ms.length 4 (eMv.F ms)]] = T.br (within ll 0 100000) (T.br (decide ((rs.length : Int) ≤ 40)) (T.br (first [unl (within lh 0 100000) 2, unl (decide (ll ≤ lh)) 9, unl (decide ((ms.length : Int) ≤ 60)) 8] != 0) (T.ret [.agg [dI 0, dI 0], rI (first [unl (within lh 0 100000) 2, unl (decide (ll ≤ lh)) 9, unl (decide ((ms.length : Int) ≤ 60)) 8])]) (en40 rs ms)) (T.br (first [unl (within lh 0 100000) 2, unl (decide (ll ≤ lh)) 9, 8] != 0) (T.ret [.agg [dI 0, dI 0], rI (first [unl (within lh 0 100000) 2, unl (decide (ll ≤ lh)) 9, 8])]) (en40 rs ms))) (T.br (decide ((rs.length : Int) ≤ 40)) (T.br (first [2, unl (decide (ll ≤ lh)) 9, unl (decide ((ms.length : Int) ≤ 60)) 8] != 0) (T.ret [.agg [dI 0, dI 0], rI (first [2, unl (decide (ll ≤ lh)) 9, unl (decide ((ms.length : Int) ≤ 60)) 8])]) (en40 rs ms)) (T.br (first [2, unl (decide (ll ≤ lh)) 9, 8] != 0) (T.ret [.agg [dI 0, dI 0], rI (first [2, unl (decide (ll ≤ lh)) 9, 8])]) (en40 rs ms))) := by kernel_rfl
theorem w40 (ll : Int) (lh : Int) (q_rs : Bool) (rs : List Rd) (q_ms : Bool) (ms : List Mv) (h : M.OkB ll lh rs ms) : (T.br (within ll 0 100000) (T.br (decide ((rs.length : Int) ≤ 40)) (T.br (first [unl (within lh 0 100000) 2, unl (decide (ll ≤ lh)) 9, unl (decide ((ms.length : Int) ≤ 60)) 8] != 0) (T.ret [.agg [dI 0, dI 0], rI (first [unl (within lh 0 100000) 2, unl (decide (ll ≤ lh)) 9, unl (decide ((ms.length : Int) ≤ 60)) 8])]) (en40 rs ms)) (T.br (first [unl (within lh 0 100000) 2, unl (decide (ll ≤ lh)) 9, 8] != 0) (T.ret [.agg [dI 0, dI 0], rI (first [unl (within lh 0 100000) 2, unl (decide (ll ≤ lh)) 9, 8])]) (en40 rs ms))) (T.br (decide ((rs.length : Int) ≤ 40)) (T.br (first [2, unl (decide (ll ≤ lh)) 9, unl (decide ((ms.length : Int) ≤ 60)) 8] != 0) (T.ret [.agg [dI 0, dI 0], rI (first [2, unl (decide (ll ≤ lh)) 9, unl (decide ((ms.length : Int) ≤ 60)) 8])]) (en40 rs ms)) (T.br (first [2, unl (decide (ll ≤ lh)) 9, 8] != 0) (T.ret [.agg [dI 0, dI 0], rI (first [2, unl (decide (ll ≤ lh)) 9, 8])]) (en40 rs ms)))).wp (fun rs => rsEqv rs [.agg [dI 0, dI 0], rI 0]) := by
  obtain ⟨l0, l1, l2, hr, hm⟩ := h
  have h1 : within ll 0 100000 = true := within_yes l0 (by omega)
  have h2 : decide ((rs.length : Int) ≤ 40) = true := decide_eq_true (by have := hr.1; omega)
  have h3 : first [unl (within lh 0 100000) 2, unl (decide (ll ≤ lh)) 9, unl (decide ((ms.length : Int) ≤ 60)) 8] = 0 := by
    rw [within_yes (n := lh) (by omega) l2, decide_eq_true l1, decide_eq_true (show (ms.length : Int) ≤ 60 by have := hm.1; omega)]; rfl
  rw [h1, h2, h3]
  unfold en40
  rw [Enc.list_F, Enc.list_F]
  exact ⟨fun _ => ⟨fun _ => ⟨fun h => absurd h (by decide), fun _ => ⟨Enc.is_F _ _ _, hr, fun h => absurd h (by decide), fun _ => ⟨Enc.is_F _ _ _, hm, fun h => absurd h (by decide), fun _ => rsEqv_refl _⟩⟩⟩, fun h => absurd h (by decide)⟩, fun h => absurd h (by decide)⟩
def dom40 : DomF
  | [.agg [.int .i64 ll, .int .i64 lh, .sl q_rs n_rs st_rs F_rs, .sl q_ms n_ms st_ms F_ms]] => (match (Nat.beq st_rs 4 || Nat.beq n_rs 0) && (Nat.beq st_ms 4 || Nat.beq n_ms 0) with
    | true => some ([eRd.Is n_rs F_rs, eMv.Is n_ms F_ms, M.OkB ll lh (eRd.list n_rs F_rs) (eMv.list n_ms F_ms)], [.agg [dI 0, dI 0], rI 0])
    | _ => none)
  | _ => none
def v40 : Nat × Sm := (40, fokSm dom40)
theorem C40 : FOK Try.prog G0 gw 40 dom40 := by
  intro ags p r hd hp κ w xs hw hl hG hx
  unfold dom40 at hd
  split at hd
  · rename_i ll lh q_rs n_rs st_rs F_rs q_ms n_ms st_ms F_ms
    split at hd
    · rename_i hst
      rw [Bool.and_eq_true] at hst
      obtain ⟨gz_rs, gz_ms⟩ := hst
      simp only [Option.some.injEq, Prod.mk.injEq] at hd
      obtain ⟨rfl, rfl⟩ := hd
      obtain ⟨hI_rs, hI_ms, hp⟩ := hp
      have heq : agsEqv [.agg [.int .i64 ll, .int .i64 lh, .sl q_rs n_rs st_rs F_rs, .sl q_ms n_ms st_ms F_ms]] [.agg [.int .i64 ll, .int .i64 lh, .sl q_rs (eRd.list n_rs F_rs).length 4 (eRd.F (eRd.list n_rs F_rs)), .sl q_ms (eMv.list n_ms F_ms).length 4 (eMv.F (eMv.list n_ms F_ms))]] := ⟨⟨rfl, rfl, toE eRd (k := 4) rfl gz_rs hI_rs, toE eMv (k := 4) rfl gz_ms hI_ms, trivial⟩, trivial⟩
      generalize eRd.list n_rs F_rs = rs at *
      generalize eMv.list n_ms F_ms = ms at *
      exact fokX_fin mixed gw_stable (sl := [Go.Bl.v64, Go.Bl.v80, Go.Bl.v102, v46, v47, v50]) ⟨Go.Bl.S64, Go.Bl.S80, Go.Bl.S102, S46, S47, S50, trivial⟩ Try.func40 hw hl hG hx heq rfl (t40 ll lh q_rs rs q_ms ms) (w40 ll lh q_rs rs q_ms ms hp.1)
    · cases hd
  · cases hd
theorem S40 : SumOK Try.prog G0 gw 40 (fokSm dom40) := fok_sum Try.func40 rfl C40
theorem t53 (ll : Int) (lh : Int) (q_rs : Bool) (rs : List Rd) (q_ms : Bool) (ms : List Mv) (c : ByteArray) (a : Int) (b : Int) : runFnX Try.prog G0 (lookS []) (fun _ => [(3, [.slot 16 (.int .i64), .slot 9 (.int .i64)], none)]) [] 0 60 3 53 Try.f53 [.agg [dI ll, dI lh, .sl q_rs rs.length 4 (eRd.F rs), .sl q_ms ms.length 4 (eMv.F ms)], .c (.str c), .c (dI a), .c (dI b)] = T.loop (Int × Int × PUnit) ((0 : Int), (0 : Int), PUnit.unit) fun (x : Int × Int × PUnit) => T.br (decide (x.1 < (ms.length : Int))) (T.needs [0 ≤ x.1, x.1 < (ms.length : Int)] (T.br (decide ((ms.getD x.1.toNat (Enc.dflt eMv)).day ≤ a)) (T.ret (Sum.inl (w64 (x.1 + 1), x.2.1, PUnit.unit))) (T.br (decide ((ms.getD x.1.toNat (Enc.dflt eMv)).day > b)) (T.ret (Sum.inl (w64 (x.1 + 1), x.2.1, PUnit.unit))) (T.br ((ms.getD x.1.toNat (Enc.dflt eMv)).to.toList == c.toList) (T.br ((ms.getD x.1.toNat (Enc.dflt eMv)).fr.toList == c.toList) (T.ret (Sum.inl (w64 (x.1 + 1), w64 (w64 (x.2.1 + (ms.getD x.1.toNat (Enc.dflt eMv)).vol) - (ms.getD x.1.toNat (Enc.dflt eMv)).vol), PUnit.unit))) (T.ret (Sum.inl (w64 (x.1 + 1), w64 (x.2.1 + (ms.getD x.1.toNat (Enc.dflt eMv)).vol), PUnit.unit)))) (T.br ((ms.getD x.1.toNat (Enc.dflt eMv)).fr.toList == c.toList) (T.ret (Sum.inl (w64 (x.1 + 1), w64 (x.2.1 - (ms.getD x.1.toNat (Enc.dflt eMv)).vol), PUnit.unit))) (T.ret (Sum.inl (w64 (x.1 + 1), x.2.1, PUnit.unit)))))))) (T.ret (Sum.inr [rI x.2.1])) := by kernel_rfl
theorem w53 (ll : Int) (lh : Int) (q_rs : Bool) (rs : List Rd) (q_ms : Bool) (ms : List Mv) (c : ByteArray) (a : Int) (b : Int) (hl : ms.length ≤ 60) : (T.loop (Int × Int × PUnit) ((0 : Int), (0 : Int), PUnit.unit) fun (x : Int × Int × PUnit) => T.br (decide (x.1 < (ms.length : Int))) (T.needs [0 ≤ x.1, x.1 < (ms.length : Int)] (T.br (decide ((ms.getD x.1.toNat (Enc.dflt eMv)).day ≤ a)) (T.ret (Sum.inl (w64 (x.1 + 1), x.2.1, PUnit.unit))) (T.br (decide ((ms.getD x.1.toNat (Enc.dflt eMv)).day > b)) (T.ret (Sum.inl (w64 (x.1 + 1), x.2.1, PUnit.unit))) (T.br ((ms.getD x.1.toNat (Enc.dflt eMv)).to.toList == c.toList) (T.br ((ms.getD x.1.toNat (Enc.dflt eMv)).fr.toList == c.toList) (T.ret (Sum.inl (w64 (x.1 + 1), w64 (w64 (x.2.1 + (ms.getD x.1.toNat (Enc.dflt eMv)).vol) - (ms.getD x.1.toNat (Enc.dflt eMv)).vol), PUnit.unit))) (T.ret (Sum.inl (w64 (x.1 + 1), w64 (x.2.1 + (ms.getD x.1.toNat (Enc.dflt eMv)).vol), PUnit.unit)))) (T.br ((ms.getD x.1.toNat (Enc.dflt eMv)).fr.toList == c.toList) (T.ret (Sum.inl (w64 (x.1 + 1), w64 (x.2.1 - (ms.getD x.1.toNat (Enc.dflt eMv)).vol), PUnit.unit))) (T.ret (Sum.inl (w64 (x.1 + 1), x.2.1, PUnit.unit)))))))) (T.ret (Sum.inr [rI x.2.1]))).wp (fun rs => rsEqv rs [rI (M.net ms c a b)]) := by
  refine range_wp (n := ms.length) (fun k s => s.1 = (ms.take k).foldl (M.nst c a b) 0) rfl ?_
  rintro k ⟨s, u⟩ hk hI
  refine ⟨fun hb => ?_, fun hb => ?_⟩
  · have hlt : (k : Int) < ms.length := of_decide_eq_true hb
    have hk1 : k < ms.length := by omega
    have hs := foldl_take (f := M.nst c a b) (a := (0 : Int)) (l := ms) (d := dM) hk1
    have hI : s = (ms.take k).foldl (M.nst c a b) 0 := hI
    rw [← hI] at hs
    refine ⟨by show (0 : Int) ≤ k; omega, hlt, ?_⟩
    show T.wp (T.br (decide ((ms.getD k dM).day ≤ a)) _ (T.br (decide ((ms.getD k dM).day > b)) _ (T.br ((ms.getD k dM).to.toList == c.toList) (T.br ((ms.getD k dM).fr.toList == c.toList) _ _) (T.br ((ms.getD k dM).fr.toList == c.toList) _ _)))) _
    rw [toL_eq, toL_eq]
    refine ⟨fun e1 => ⟨hk1, w64_s (by omega), Eq.trans ?_ hs.symm⟩, fun e1 => ⟨fun e2 => ⟨hk1, w64_s (by omega), Eq.trans ?_ hs.symm⟩, fun e2 => ⟨fun e3 => ⟨fun e4 => ⟨hk1, w64_s (by omega), Eq.trans ?_ hs.symm⟩, fun e4 => ⟨hk1, w64_s (by omega), Eq.trans ?_ hs.symm⟩⟩, fun e3 => ⟨fun e4 => ⟨hk1, w64_s (by omega), Eq.trans ?_ hs.symm⟩, fun e4 => ⟨hk1, w64_s (by omega), Eq.trans ?_ hs.symm⟩⟩⟩⟩⟩ <;> unfold M.nst <;> simp only [e1, *, cond_true, cond_false, Int.toNat_natCast]
  · have hge : ¬ (k : Int) < ms.length := of_decide_eq_false hb
    have e : ms.take k = ms := List.take_of_length_le (by omega)
    have hI : s = (ms.take k).foldl (M.nst c a b) 0 := hI
    rw [e] at hI
    show rsEqv [rI s] _
    rw [hI]; exact rsEqv_refl _
def dom53 : DomF
  | [.agg [.int .i64 ll, .int .i64 lh, .sl q_rs n_rs st_rs F_rs, .sl q_ms n_ms st_ms F_ms], .c (.str c), .c (.int .i64 a), .c (.int .i64 b)] => (match (Nat.beq st_rs 4 || Nat.beq n_rs 0) && (Nat.beq st_ms 4 || Nat.beq n_ms 0) with
    | true => some ([eRd.Is n_rs F_rs, eMv.Is n_ms F_ms, (eMv.list n_ms F_ms).length ≤ 60], [rI (M.net (eMv.list n_ms F_ms) c a b)])
    | _ => none)
  | _ => none
def v53 : Nat × Sm := (53, fokSm dom53)
theorem C53 : FOK Try.prog G0 gw 53 dom53 := by
  intro ags p r hd hp κ w xs hw hl hG hx
  unfold dom53 at hd
  split at hd
  · rename_i ll lh q_rs n_rs st_rs F_rs q_ms n_ms st_ms F_ms c a b
    split at hd
    · rename_i hst
      rw [Bool.and_eq_true] at hst
      obtain ⟨gz_rs, gz_ms⟩ := hst
      simp only [Option.some.injEq, Prod.mk.injEq] at hd
      obtain ⟨rfl, rfl⟩ := hd
      obtain ⟨hI_rs, hI_ms, hp⟩ := hp
      have heq : agsEqv [.agg [.int .i64 ll, .int .i64 lh, .sl q_rs n_rs st_rs F_rs, .sl q_ms n_ms st_ms F_ms], .c (.str c), .c (.int .i64 a), .c (.int .i64 b)] [.agg [.int .i64 ll, .int .i64 lh, .sl q_rs (eRd.list n_rs F_rs).length 4 (eRd.F (eRd.list n_rs F_rs)), .sl q_ms (eMv.list n_ms F_ms).length 4 (eMv.F (eMv.list n_ms F_ms))], .c (.str c), .c (.int .i64 a), .c (.int .i64 b)] := ⟨⟨rfl, rfl, toE eRd (k := 4) rfl gz_rs hI_rs, toE eMv (k := 4) rfl gz_ms hI_ms, trivial⟩, rfl, rfl, rfl, trivial⟩
      generalize eRd.list n_rs F_rs = rs at *
      generalize eMv.list n_ms F_ms = ms at *
      exact fokX_fin mixed gw_stable (sl := []) trivial Try.func53 hw hl hG hx heq rfl (t53 ll lh q_rs rs q_ms ms c a b) (w53 ll lh q_rs rs q_ms ms c a b hp.1)
    · cases hd
  · cases hd
theorem S53 : SumOK Try.prog G0 gw 53 (fokSm dom53) := fok_sum Try.func53 rfl C53
end Go.Ga
end

section
set_option linter.unusedVariables false
set_option linter.unusedSimpArgs false
set_option maxRecDepth 100000
namespace Go.Ga
open Go.Gd
open Go.V Go.Proofs
open Go.RowKit (Below)
open Go.Bl (rdI dI rI rB eI range_wp wrap_id)
open Go.Bl.M (within unl isName first)
namespace M
def aLo (ll lh : Int) (ms : List Mv) (nm : ByteArray) (day lo : Int) (t : Int) : Int := cond (decide (w64 (t - day) ≥ 0)) (w64 (w64 (1000 * w64 (lo + net ms nm day t)) - w64 (lh * w64 (t - day)))) (w64 (w64 (1000 * w64 (lo - net ms nm t day)) + w64 (ll * w64 (day - t))))
def aHi (ll lh : Int) (ms : List Mv) (nm : ByteArray) (day hi : Int) (t : Int) : Int := cond (decide (w64 (t - day) ≥ 0)) (w64 (w64 (1000 * w64 (hi + net ms nm day t)) - w64 (ll * w64 (t - day)))) (w64 (w64 (1000 * w64 (hi - net ms nm t day)) + w64 (lh * w64 (day - t))))
end M
theorem t29 (ll : Int) (lh : Int) (q_rs : Bool) (rs : List Rd) (q_ms : Bool) (ms : List Mv) : runFnX Try.prog G0 (lookS [v40]) (fun _ => []) [] 0 60 3 29 Try.f29 [.agg [dI ll, dI lh, .sl q_rs rs.length 4 (eRd.F rs), .sl q_ms ms.length 4 (eMv.F ms)]] = T.needs [eRd.Is rs.length (eRd.F rs), eMv.Is ms.length (eMv.F ms), M.OkB ll lh (eRd.list rs.length (eRd.F rs)) (eMv.list ms.length (eMv.F ms))] (T.ret [.agg [dI ll, dI lh, .sl q_rs rs.length 4 (eRd.F rs), .sl q_ms ms.length 4 (eMv.F ms)], rI 0]) := by kernel_rfl
theorem w29 (ll : Int) (lh : Int) (q_rs : Bool) (rs : List Rd) (q_ms : Bool) (ms : List Mv) (h : M.OkB ll lh rs ms) : (T.needs [eRd.Is rs.length (eRd.F rs), eMv.Is ms.length (eMv.F ms), M.OkB ll lh (eRd.list rs.length (eRd.F rs)) (eMv.list ms.length (eMv.F ms))] (T.ret [.agg [dI ll, dI lh, .sl q_rs rs.length 4 (eRd.F rs), .sl q_ms ms.length 4 (eMv.F ms)], rI 0])).wp (fun zz => rsEqv zz [.agg [dI ll, dI lh, .sl q_rs rs.length 4 (eRd.F rs), .sl q_ms ms.length 4 (eMv.F ms)], rI 0]) := by
  rw [Enc.list_F, Enc.list_F]
  exact ⟨Enc.is_F _ _ _, Enc.is_F _ _ _, h, rsEqv_refl _⟩
def dom29 : DomF
  | [.agg [.int .i64 ll, .int .i64 lh, .sl q_rs n_rs st_rs F_rs, .sl q_ms n_ms st_ms F_ms]] => (match (Nat.beq st_rs 4 || Nat.beq n_rs 0) && (Nat.beq st_ms 4 || Nat.beq n_ms 0) with
    | true => some ([eRd.Is n_rs F_rs, eMv.Is n_ms F_ms, M.OkB ll lh (eRd.list n_rs F_rs) (eMv.list n_ms F_ms)], [.agg [dI ll, dI lh, .sl q_rs (eRd.list n_rs F_rs).length 4 (eRd.F (eRd.list n_rs F_rs)), .sl q_ms (eMv.list n_ms F_ms).length 4 (eMv.F (eMv.list n_ms F_ms))], rI 0])
    | _ => none)
  | _ => none
def v29 : Nat × Sm := (29, fokSm dom29)
theorem C29 : FOK Try.prog G0 gw 29 dom29 := by
  intro ags p r hd hp κ w xs hw hl hG hx
  unfold dom29 at hd
  split at hd
  · rename_i ll lh q_rs n_rs st_rs F_rs q_ms n_ms st_ms F_ms
    split at hd
    · rename_i hst
      rw [Bool.and_eq_true] at hst
      obtain ⟨gz_rs, gz_ms⟩ := hst
      simp only [Option.some.injEq, Prod.mk.injEq] at hd
      obtain ⟨rfl, rfl⟩ := hd
      obtain ⟨hI_rs, hI_ms, hp⟩ := hp
      have heq : agsEqv [.agg [.int .i64 ll, .int .i64 lh, .sl q_rs n_rs st_rs F_rs, .sl q_ms n_ms st_ms F_ms]] [.agg [.int .i64 ll, .int .i64 lh, .sl q_rs (eRd.list n_rs F_rs).length 4 (eRd.F (eRd.list n_rs F_rs)), .sl q_ms (eMv.list n_ms F_ms).length 4 (eMv.F (eMv.list n_ms F_ms))]] := ⟨⟨rfl, rfl, toE eRd (k := 4) rfl gz_rs hI_rs, toE eMv (k := 4) rfl gz_ms hI_ms, trivial⟩, trivial⟩
      generalize eRd.list n_rs F_rs = rs at *
      generalize eMv.list n_ms F_ms = ms at *
      exact fokX_fin mixed gw_stable (sl := [v40]) ⟨S40, trivial⟩ Try.func29 hw hl hG hx heq rfl (t29 ll lh q_rs rs q_ms ms) (w29 ll lh q_rs rs q_ms ms hp.1)
    · cases hd
  · cases hd
theorem S29 : SumOK Try.prog G0 gw 29 (fokSm dom29) := fok_sum Try.func29 rfl C29
theorem t43 (ll : Int) (lh : Int) (q_rs : Bool) (rs : List Rd) (q_ms : Bool) (ms : List Mv) (nm : ByteArray) (day : Int) (lo : Int) (hi : Int) (t : Int) : runFnX Try.prog G0 (lookS [v53]) (fun _ => []) [] 0 60 3 43 Try.f43 [.agg [dI ll, dI lh, .sl q_rs rs.length 4 (eRd.F rs), .sl q_ms ms.length 4 (eMv.F ms)], .agg [.str nm, dI day, dI lo, dI hi], .c (dI t)] = T.br (decide (w64 (t - day) ≥ 0)) (T.needs [eRd.Is rs.length (eRd.F rs), eMv.Is ms.length (eMv.F ms), (eMv.list ms.length (eMv.F ms)).length ≤ 60] (T.ret [.agg [dI (w64 (w64 (1000 * w64 (lo + M.net (eMv.list ms.length (eMv.F ms)) nm day t)) - w64 (lh * w64 (t - day)))), dI (w64 (w64 (1000 * w64 (hi + M.net (eMv.list ms.length (eMv.F ms)) nm day t)) - w64 (ll * w64 (t - day))))]])) (T.needs [eRd.Is rs.length (eRd.F rs), eMv.Is ms.length (eMv.F ms), (eMv.list ms.length (eMv.F ms)).length ≤ 60] (T.ret [.agg [dI (w64 (w64 (1000 * w64 (lo - M.net (eMv.list ms.length (eMv.F ms)) nm t day)) + w64 (ll * w64 (day - t)))), dI (w64 (w64 (1000 * w64 (hi - M.net (eMv.list ms.length (eMv.F ms)) nm t day)) + w64 (lh * w64 (day - t))))]])) := by kernel_rfl
theorem w43 (ll : Int) (lh : Int) (q_rs : Bool) (rs : List Rd) (q_ms : Bool) (ms : List Mv) (nm : ByteArray) (day : Int) (lo : Int) (hi : Int) (t : Int) (hl : ms.length ≤ 60) : (T.br (decide (w64 (t - day) ≥ 0)) (T.needs [eRd.Is rs.length (eRd.F rs), eMv.Is ms.length (eMv.F ms), (eMv.list ms.length (eMv.F ms)).length ≤ 60] (T.ret [.agg [dI (w64 (w64 (1000 * w64 (lo + M.net (eMv.list ms.length (eMv.F ms)) nm day t)) - w64 (lh * w64 (t - day)))), dI (w64 (w64 (1000 * w64 (hi + M.net (eMv.list ms.length (eMv.F ms)) nm day t)) - w64 (ll * w64 (t - day))))]])) (T.needs [eRd.Is rs.length (eRd.F rs), eMv.Is ms.length (eMv.F ms), (eMv.list ms.length (eMv.F ms)).length ≤ 60] (T.ret [.agg [dI (w64 (w64 (1000 * w64 (lo - M.net (eMv.list ms.length (eMv.F ms)) nm t day)) + w64 (ll * w64 (day - t)))), dI (w64 (w64 (1000 * w64 (hi - M.net (eMv.list ms.length (eMv.F ms)) nm t day)) + w64 (lh * w64 (day - t))))]]))).wp (fun zz => rsEqv zz [.agg [dI (M.aLo ll lh ms nm day lo t), dI (M.aHi ll lh ms nm day hi t)]]) := by
  rw [Enc.list_F]
  unfold M.aLo M.aHi
  refine ⟨fun h => ⟨Enc.is_F _ _ _, Enc.is_F _ _ _, hl, ?_⟩, fun h => ⟨Enc.is_F _ _ _, Enc.is_F _ _ _, hl, ?_⟩⟩
  · rw [h]; exact rsEqv_refl _
  · rw [h]; exact rsEqv_refl _
def dom43 : DomF
  | [.agg [.int .i64 ll, .int .i64 lh, .sl q_rs n_rs st_rs F_rs, .sl q_ms n_ms st_ms F_ms], .agg [.str nm, .int .i64 day, .int .i64 lo, .int .i64 hi], .c (.int .i64 t)] => (match (Nat.beq st_rs 4 || Nat.beq n_rs 0) && (Nat.beq st_ms 4 || Nat.beq n_ms 0) with
    | true => some ([eRd.Is n_rs F_rs, eMv.Is n_ms F_ms, (eMv.list n_ms F_ms).length ≤ 60], [.agg [dI (M.aLo ll lh (eMv.list n_ms F_ms) nm day lo t), dI (M.aHi ll lh (eMv.list n_ms F_ms) nm day hi t)]])
    | _ => none)
  | _ => none
def v43 : Nat × Sm := (43, fokSm dom43)
theorem C43 : FOK Try.prog G0 gw 43 dom43 := by
  intro ags p r hd hp κ w xs hw hl hG hx
  unfold dom43 at hd
  split at hd
  · rename_i ll lh q_rs n_rs st_rs F_rs q_ms n_ms st_ms F_ms nm day lo hi t
    split at hd
    · rename_i hst
      rw [Bool.and_eq_true] at hst
      obtain ⟨gz_rs, gz_ms⟩ := hst
      simp only [Option.some.injEq, Prod.mk.injEq] at hd
      obtain ⟨rfl, rfl⟩ := hd
      obtain ⟨hI_rs, hI_ms, hp⟩ := hp
      have heq : agsEqv [.agg [.int .i64 ll, .int .i64 lh, .sl q_rs n_rs st_rs F_rs, .sl q_ms n_ms st_ms F_ms], .agg [.str nm, .int .i64 day, .int .i64 lo, .int .i64 hi], .c (.int .i64 t)] [.agg [.int .i64 ll, .int .i64 lh, .sl q_rs (eRd.list n_rs F_rs).length 4 (eRd.F (eRd.list n_rs F_rs)), .sl q_ms (eMv.list n_ms F_ms).length 4 (eMv.F (eMv.list n_ms F_ms))], .agg [.str nm, .int .i64 day, .int .i64 lo, .int .i64 hi], .c (.int .i64 t)] := ⟨⟨rfl, rfl, toE eRd (k := 4) rfl gz_rs hI_rs, toE eMv (k := 4) rfl gz_ms hI_ms, trivial⟩, ⟨rfl, rfl, rfl, rfl, trivial⟩, rfl, trivial⟩
      generalize eRd.list n_rs F_rs = rs at *
      generalize eMv.list n_ms F_ms = ms at *
      exact fokX_fin mixed gw_stable (sl := [v53]) ⟨S53, trivial⟩ Try.func43 hw hl hG hx heq rfl (t43 ll lh q_rs rs q_ms ms nm day lo hi t) (w43 ll lh q_rs rs q_ms ms nm day lo hi t hp.1)
    · cases hd
  · cases hd
theorem S43 : SumOK Try.prog G0 gw 43 (fokSm dom43) := fok_sum Try.func43 rfl C43
end Go.Ga
end

section
set_option linter.unusedVariables false
set_option linter.unusedSimpArgs false
set_option maxRecDepth 100000
namespace Go.Ga
open Go.Gd
open Go.V Go.Proofs
open Go.RowKit (Below)
open Go.Bl (rdI dI rI rB eI range_wp wrap_id)
open Go.Bl.M (within unl isName first)
namespace M
def con (ll lh : Int) (ms : List Mv) (x y : Rd) : Bool := cond (decide (x.nm = y.nm)) (cond (decide (aLo ll lh ms x.nm x.day x.lo y.day > w64 (1000 * y.hi))) true (decide (aHi ll lh ms x.nm x.day x.hi y.day < w64 (1000 * y.lo)))) false
end M
theorem t41 (ll : Int) (lh : Int) (q_rs : Bool) (rs : List Rd) (q_ms : Bool) (ms : List Mv) (i : Int) (j : Int) : runFnX Try.prog G0 (lookS [v43]) (fun _ => []) [] 0 60 3 41 Try.f41 [.agg [dI ll, dI lh, .sl q_rs rs.length 4 (eRd.F rs), .sl q_ms ms.length 4 (eMv.F ms)], .c (dI i), .c (dI j)] = T.needs [0 ≤ i, i < (rs.length : Int), 0 ≤ j, j < (rs.length : Int), eRd.Is rs.length (eRd.F rs), eMv.Is ms.length (eMv.F ms), (eMv.list ms.length (eMv.F ms)).length ≤ 60] (T.br ((rs.getD i.toNat dR).nm.toList == (rs.getD j.toNat dR).nm.toList) (T.br (decide (M.aLo ll lh (eMv.list ms.length (eMv.F ms)) (rs.getD i.toNat dR).nm (rs.getD i.toNat dR).day (rs.getD i.toNat dR).lo (rs.getD j.toNat dR).day > w64 (1000 * (rs.getD j.toNat dR).hi))) (T.ret [rB true]) (T.ret [rB (decide (M.aHi ll lh (eMv.list ms.length (eMv.F ms)) (rs.getD i.toNat dR).nm (rs.getD i.toNat dR).day (rs.getD i.toNat dR).hi (rs.getD j.toNat dR).day < w64 (1000 * (rs.getD j.toNat dR).lo)))])) (T.ret [rB false])) := by kernel_rfl
theorem w41 (ll : Int) (lh : Int) (q_rs : Bool) (rs : List Rd) (q_ms : Bool) (ms : List Mv) (i : Int) (j : Int) (hl : ms.length ≤ 60) (h1 : 0 ≤ i) (h2 : i < (rs.length : Int)) (h3 : 0 ≤ j) (h4 : j < (rs.length : Int)) : (T.needs [0 ≤ i, i < (rs.length : Int), 0 ≤ j, j < (rs.length : Int), eRd.Is rs.length (eRd.F rs), eMv.Is ms.length (eMv.F ms), (eMv.list ms.length (eMv.F ms)).length ≤ 60] (T.br ((rs.getD i.toNat dR).nm.toList == (rs.getD j.toNat dR).nm.toList) (T.br (decide (M.aLo ll lh (eMv.list ms.length (eMv.F ms)) (rs.getD i.toNat dR).nm (rs.getD i.toNat dR).day (rs.getD i.toNat dR).lo (rs.getD j.toNat dR).day > w64 (1000 * (rs.getD j.toNat dR).hi))) (T.ret [rB true]) (T.ret [rB (decide (M.aHi ll lh (eMv.list ms.length (eMv.F ms)) (rs.getD i.toNat dR).nm (rs.getD i.toNat dR).day (rs.getD i.toNat dR).hi (rs.getD j.toNat dR).day < w64 (1000 * (rs.getD j.toNat dR).lo)))])) (T.ret [rB false]))).wp (fun zz => rsEqv zz [rB (M.con ll lh ms (rs.getD i.toNat dR) (rs.getD j.toNat dR))]) := by
  rw [Enc.list_F, toL_eq]
  unfold M.con
  refine ⟨h1, h2, h3, h4, Enc.is_F _ _ _, Enc.is_F _ _ _, hl, fun e1 => ⟨fun e2 => ?_, fun e2 => ?_⟩, fun e1 => ?_⟩
  · rw [e1, e2]; exact rsEqv_refl _
  · rw [e1, e2]; exact rsEqv_refl _
  · rw [e1]; exact rsEqv_refl _
def dom41 : DomF
  | [.agg [.int .i64 ll, .int .i64 lh, .sl q_rs n_rs st_rs F_rs, .sl q_ms n_ms st_ms F_ms], .c (.int .i64 i), .c (.int .i64 j)] => (match (Nat.beq st_rs 4 || Nat.beq n_rs 0) && (Nat.beq st_ms 4 || Nat.beq n_ms 0) with
    | true => some ([eRd.Is n_rs F_rs, eMv.Is n_ms F_ms, (eMv.list n_ms F_ms).length ≤ 60, 0 ≤ i, i < ((eRd.list n_rs F_rs).length : Int), 0 ≤ j, j < ((eRd.list n_rs F_rs).length : Int)], [rB (M.con ll lh (eMv.list n_ms F_ms) ((eRd.list n_rs F_rs).getD i.toNat dR) ((eRd.list n_rs F_rs).getD j.toNat dR))])
    | _ => none)
  | _ => none
def v41 : Nat × Sm := (41, fokSm dom41)
theorem C41 : FOK Try.prog G0 gw 41 dom41 := by
  intro ags p r hd hp κ w xs hw hl hG hx
  unfold dom41 at hd
  split at hd
  · rename_i ll lh q_rs n_rs st_rs F_rs q_ms n_ms st_ms F_ms i j
    split at hd
    · rename_i hst
      rw [Bool.and_eq_true] at hst
      obtain ⟨gz_rs, gz_ms⟩ := hst
      simp only [Option.some.injEq, Prod.mk.injEq] at hd
      obtain ⟨rfl, rfl⟩ := hd
      obtain ⟨hI_rs, hI_ms, hp⟩ := hp
      have heq : agsEqv [.agg [.int .i64 ll, .int .i64 lh, .sl q_rs n_rs st_rs F_rs, .sl q_ms n_ms st_ms F_ms], .c (.int .i64 i), .c (.int .i64 j)] [.agg [.int .i64 ll, .int .i64 lh, .sl q_rs (eRd.list n_rs F_rs).length 4 (eRd.F (eRd.list n_rs F_rs)), .sl q_ms (eMv.list n_ms F_ms).length 4 (eMv.F (eMv.list n_ms F_ms))], .c (.int .i64 i), .c (.int .i64 j)] := ⟨⟨rfl, rfl, toE eRd (k := 4) rfl gz_rs hI_rs, toE eMv (k := 4) rfl gz_ms hI_ms, trivial⟩, rfl, rfl, trivial⟩
      generalize eRd.list n_rs F_rs = rs at *
      generalize eMv.list n_ms F_ms = ms at *
      exact fokX_fin mixed gw_stable (sl := [v43]) ⟨S43, trivial⟩ Try.func41 hw hl hG hx heq rfl (t41 ll lh q_rs rs q_ms ms i j) (w41 ll lh q_rs rs q_ms ms i j hp.1 hp.2.1 hp.2.2.1 hp.2.2.2.1 hp.2.2.2.2.1)
    · cases hd
  · cases hd
theorem S41 : SumOK Try.prog G0 gw 41 (fokSm dom41) := fok_sum Try.func41 rfl C41
end Go.Ga
end

section
set_option linter.unusedVariables false
set_option linter.unusedSimpArgs false
set_option maxRecDepth 100000
namespace Go.Ga
open Go.Gd
open Go.V Go.Proofs
open Go.RowKit (Below)
open Go.Bl (rdI dI rI rB eI range_wp wrap_id)
open Go.Bl.M (within unl isName first)
theorem from_wp {S α : Type} {n a : Nat} {i0 : Int} {s0 : S} {body : Int × S → T ((Int × S) ⊕ α)} {Q : α → Prop} (hi : i0 = (a : Int)) (ha : a ≤ n) (I : Nat → S → Prop) (h0 : I a s0)
    (h : ∀ (k : Nat) s, a ≤ k → k ≤ n → I k s → (body ((k : Int), s)).wp (fun r => match r with | .inl y => k < n ∧ y.1 = ((k + 1 : Nat) : Int) ∧ I (k + 1) y.2 | .inr a => Q a)) :
    (T.loop (Int × S) (i0, s0) body).wp Q := by
  subst hi
  refine ⟨fun x => ∃ k : Nat, a ≤ k ∧ k ≤ n ∧ x.1 = k ∧ I k x.2, fun x => n - x.1.toNat, ⟨a, Nat.le_refl _, ha, rfl, h0⟩, ?_⟩
  rintro ⟨x, s⟩ ⟨k, ha, hk, hx, hI⟩
  simp only at hx hI
  subst hx
  refine T.wp_mono ?_ (h k s ha hk hI)
  intro r hr
  cases r with
  | inl y =>
    obtain ⟨y1, y2⟩ := y
    obtain ⟨h1, h2, h3⟩ := hr
    simp only at h2 h3
    refine ⟨⟨k + 1, by omega, by omega, h2, h3⟩, ?_⟩
    simp only [h2]
    omega
  | inr a => exact hr
def M.NoC (ll lh : Int) (ms : List Mv) (rs : List Rd) : Prop := ∀ i j, i < j → j < rs.length → M.con ll lh ms (rs.getD i dR) (rs.getD j dR) = false
theorem t30 (ll : Int) (lh : Int) (q_rs : Bool) (rs : List Rd) (q_ms : Bool) (ms : List Mv) : runFnX Try.prog G0 (lookS [v41]) (fun _ => [(3, [.slot 10 (.int .i64), .slot 3 .nsl], none), (6, [.slot 5 (.int .i64), .slot 3 .nsl], none)]) [] 0 60 3 30 Try.f30 [.agg [dI ll, dI lh, .sl q_rs rs.length 4 (eRd.F rs), .sl q_ms ms.length 4 (eMv.F ms)]] = T.loop (Int × PUnit × PUnit) ((0 : Int), PUnit.unit, PUnit.unit) fun (x : Int × PUnit × PUnit) => T.br (decide (x.1 < (rs.length : Int))) (T.loop (Int × PUnit × PUnit) (w64 (x.1 + 1), PUnit.unit, PUnit.unit) fun (y : Int × PUnit × PUnit) => T.br (decide (y.1 < (rs.length : Int))) (T.needs [eRd.Is rs.length (eRd.F rs), eMv.Is ms.length (eMv.F ms), (eMv.list ms.length (eMv.F ms)).length ≤ 60, 0 ≤ x.1, x.1 < ((eRd.list rs.length (eRd.F rs)).length : Int), 0 ≤ y.1, y.1 < ((eRd.list rs.length (eRd.F rs)).length : Int)] (T.br (M.con ll lh (eMv.list ms.length (eMv.F ms)) ((eRd.list rs.length (eRd.F rs)).getD x.1.toNat dR) ((eRd.list rs.length (eRd.F rs)).getD y.1.toNat dR)) (T.need ((1 : Nat) ≤ 1000000) T.fail) (T.ret (Sum.inl (w64 (y.1 + 1), PUnit.unit, PUnit.unit))))) (T.ret (Sum.inr (Sum.inl (w64 (x.1 + 1), PUnit.unit, PUnit.unit))))) (T.ret (Sum.inr [.c (.sl false 0 0 nilF)])) := by kernel_rfl
theorem w30 (ll : Int) (lh : Int) (q_rs : Bool) (rs : List Rd) (q_ms : Bool) (ms : List Mv) (hr : rs.length ≤ 40) (hm : ms.length ≤ 60) (hn : M.NoC ll lh ms rs) : (T.loop (Int × PUnit × PUnit) ((0 : Int), PUnit.unit, PUnit.unit) fun (x : Int × PUnit × PUnit) => T.br (decide (x.1 < (rs.length : Int))) (T.loop (Int × PUnit × PUnit) (w64 (x.1 + 1), PUnit.unit, PUnit.unit) fun (y : Int × PUnit × PUnit) => T.br (decide (y.1 < (rs.length : Int))) (T.needs [eRd.Is rs.length (eRd.F rs), eMv.Is ms.length (eMv.F ms), (eMv.list ms.length (eMv.F ms)).length ≤ 60, 0 ≤ x.1, x.1 < ((eRd.list rs.length (eRd.F rs)).length : Int), 0 ≤ y.1, y.1 < ((eRd.list rs.length (eRd.F rs)).length : Int)] (T.br (M.con ll lh (eMv.list ms.length (eMv.F ms)) ((eRd.list rs.length (eRd.F rs)).getD x.1.toNat dR) ((eRd.list rs.length (eRd.F rs)).getD y.1.toNat dR)) (T.need ((1 : Nat) ≤ 1000000) T.fail) (T.ret (Sum.inl (w64 (y.1 + 1), PUnit.unit, PUnit.unit))))) (T.ret (Sum.inr (Sum.inl (w64 (x.1 + 1), PUnit.unit, PUnit.unit))))) (T.ret (Sum.inr [.c (.sl false 0 0 nilF)]))).wp (fun zz => rsEqv zz [.c (.sl false 0 0 nilF)]) := by
  rw [Enc.list_F, Enc.list_F]
  refine range_wp (n := rs.length) (fun _ _ => True) trivial fun k u hk _ => ?_
  refine ⟨fun hb => ?_, fun hb => rsEqv_refl _⟩
  have hlt : (k : Int) < rs.length := of_decide_eq_true hb
  have hk1 : k < rs.length := by omega
  refine from_wp (n := rs.length) (a := k + 1) (w64_s (by omega)) hk1 (fun _ _ => True) trivial fun j v ha hj _ => ?_
  refine ⟨fun hb2 => ?_, fun hb2 => ⟨hk1, w64_s (by omega), trivial⟩⟩
  have hlt2 : (j : Int) < rs.length := of_decide_eq_true hb2
  have hj1 : j < rs.length := by omega
  refine ⟨Enc.is_F _ _ _, Enc.is_F _ _ _, hm, by show (0 : Int) ≤ k; omega, hlt, by show (0 : Int) ≤ j; omega, hlt2, fun hc => ?_, fun _ => ⟨hj1, w64_s (by omega), trivial⟩⟩
  have hc : M.con ll lh ms (rs.getD k dR) (rs.getD j dR) = true := hc
  rw [hn k j (by omega) hj1] at hc; cases hc
def dom30 : DomF
  | [.agg [.int .i64 ll, .int .i64 lh, .sl q_rs n_rs st_rs F_rs, .sl q_ms n_ms st_ms F_ms]] => (match (Nat.beq st_rs 4 || Nat.beq n_rs 0) && (Nat.beq st_ms 4 || Nat.beq n_ms 0) with
    | true => some ([eRd.Is n_rs F_rs, eMv.Is n_ms F_ms, (eRd.list n_rs F_rs).length ≤ 40, (eMv.list n_ms F_ms).length ≤ 60, M.NoC ll lh (eMv.list n_ms F_ms) (eRd.list n_rs F_rs)], [.c (.sl false 0 0 nilF)])
    | _ => none)
  | _ => none
def v30 : Nat × Sm := (30, fokSm dom30)
theorem C30 : FOK Try.prog G0 gw 30 dom30 := by
  intro ags p r hd hp κ w xs hw hl hG hx
  unfold dom30 at hd
  split at hd
  · rename_i ll lh q_rs n_rs st_rs F_rs q_ms n_ms st_ms F_ms
    split at hd
    · rename_i hst
      rw [Bool.and_eq_true] at hst
      obtain ⟨gz_rs, gz_ms⟩ := hst
      simp only [Option.some.injEq, Prod.mk.injEq] at hd
      obtain ⟨rfl, rfl⟩ := hd
      obtain ⟨hI_rs, hI_ms, hp⟩ := hp
      have heq : agsEqv [.agg [.int .i64 ll, .int .i64 lh, .sl q_rs n_rs st_rs F_rs, .sl q_ms n_ms st_ms F_ms]] [.agg [.int .i64 ll, .int .i64 lh, .sl q_rs (eRd.list n_rs F_rs).length 4 (eRd.F (eRd.list n_rs F_rs)), .sl q_ms (eMv.list n_ms F_ms).length 4 (eMv.F (eMv.list n_ms F_ms))]] := ⟨⟨rfl, rfl, toE eRd (k := 4) rfl gz_rs hI_rs, toE eMv (k := 4) rfl gz_ms hI_ms, trivial⟩, trivial⟩
      generalize eRd.list n_rs F_rs = rs at *
      generalize eMv.list n_ms F_ms = ms at *
      exact fokX_fin mixed gw_stable (sl := [v41]) ⟨S41, trivial⟩ Try.func30 hw hl hG hx heq rfl (t30 ll lh q_rs rs q_ms ms) (w30 ll lh q_rs rs q_ms ms hp.1 hp.2.1 hp.2.2.1)
    · cases hd
  · cases hd
theorem S30 : SumOK Try.prog G0 gw 30 (fokSm dom30) := fok_sum Try.func30 rfl C30
end Go.Ga
end

section
set_option linter.unusedVariables false
set_option linter.unusedSimpArgs false
set_option maxRecDepth 100000
namespace Go.Ga
open Go.Gd
open Go.V Go.Proofs
open Go.RowKit (Below)
open Go.Bl (rdI dI rI rB eI range_wp wrap_id)
open Go.Bl.M (within unl isName first)
namespace M
def ast (ll lh : Int) (ms : List Mv) (c : ByteArray) (t : Int) (s : Bool × Int × Int) (r : Rd) : Bool × Int × Int := cond (!decide (r.nm = c)) s (cond s.1 (true, (if s.2.1 > aLo ll lh ms r.nm r.day r.lo t then s.2.1 else aLo ll lh ms r.nm r.day r.lo t), (if s.2.2 < aHi ll lh ms r.nm r.day r.hi t then s.2.2 else aHi ll lh ms r.nm r.day r.hi t)) (true, aLo ll lh ms r.nm r.day r.lo t, aHi ll lh ms r.nm r.day r.hi t))
def atS (ll lh : Int) (ms : List Mv) (c : ByteArray) (t : Int) (rs : List Rd) : Bool × Int × Int := rs.foldl (ast ll lh ms c t) (false, 0, 0)
def AtOk (s : Bool × Int × Int) : Prop := s.1 = true ∧ (-4000000000000000000 ≤ s.2.1 ∧ s.2.1 ≤ 4000000000000000000) ∧ (-4000000000000000000 ≤ s.2.2 ∧ s.2.2 ≤ 4000000000000000000)
end M
theorem t33 (ll : Int) (lh : Int) (q_rs : Bool) (rs : List Rd) (q_ms : Bool) (ms : List Mv) (c : ByteArray) (t : Int) : runFnX Try.prog G0 (lookS [v30, v43, v44]) (fun _ => [(10, [.slot 38 (.int .i64), .slot 11 .bool, .blk 10 [.int .i64, .int .i64]], none)]) [] 0 60 3 33 Try.f33 [.agg [dI ll, dI lh, .sl q_rs rs.length 4 (eRd.F rs), .sl q_ms ms.length 4 (eMv.F ms)], .c (.str c), .c (dI t)] = T.needs [eRd.Is rs.length (eRd.F rs), eMv.Is ms.length (eMv.F ms), (eRd.list rs.length (eRd.F rs)).length ≤ 40, (eMv.list ms.length (eMv.F ms)).length ≤ 60, M.NoC ll lh (eMv.list ms.length (eMv.F ms)) (eRd.list rs.length (eRd.F rs))] (T.br (decide ((0 : Int) < 0)) T.fail (T.loop (Int × Bool × Int × Int × PUnit) ((0 : Int), false, (0 : Int), (0 : Int), PUnit.unit) fun (x : Int × Bool × Int × Int × PUnit) => T.br (decide (x.1 < (rs.length : Int))) (T.needs [0 ≤ x.1, x.1 < (rs.length : Int)] (T.br (!(rs.getD x.1.toNat (Enc.dflt eRd)).nm.toList == c.toList) (T.ret (Sum.inl (w64 (x.1 + 1), x.2.1, x.2.2.1, x.2.2.2.1, PUnit.unit))) (T.needs [eRd.Is rs.length (eRd.F rs), eMv.Is ms.length (eMv.F ms), (eMv.list ms.length (eMv.F ms)).length ≤ 60] (T.br x.2.1 (T.ret (Sum.inl (w64 (x.1 + 1), true, if x.2.2.1 > M.aLo ll lh (eMv.list ms.length (eMv.F ms)) (rs.getD x.1.toNat (Enc.dflt eRd)).nm (rs.getD x.1.toNat (Enc.dflt eRd)).day (rs.getD x.1.toNat (Enc.dflt eRd)).lo t then x.2.2.1 else M.aLo ll lh (eMv.list ms.length (eMv.F ms)) (rs.getD x.1.toNat (Enc.dflt eRd)).nm (rs.getD x.1.toNat (Enc.dflt eRd)).day (rs.getD x.1.toNat (Enc.dflt eRd)).lo t, if x.2.2.2.1 < M.aHi ll lh (eMv.list ms.length (eMv.F ms)) (rs.getD x.1.toNat (Enc.dflt eRd)).nm (rs.getD x.1.toNat (Enc.dflt eRd)).day (rs.getD x.1.toNat (Enc.dflt eRd)).hi t then x.2.2.2.1 else M.aHi ll lh (eMv.list ms.length (eMv.F ms)) (rs.getD x.1.toNat (Enc.dflt eRd)).nm (rs.getD x.1.toNat (Enc.dflt eRd)).day (rs.getD x.1.toNat (Enc.dflt eRd)).hi t, PUnit.unit))) (T.ret (Sum.inl (w64 (x.1 + 1), true, M.aLo ll lh (eMv.list ms.length (eMv.F ms)) (rs.getD x.1.toNat (Enc.dflt eRd)).nm (rs.getD x.1.toNat (Enc.dflt eRd)).day (rs.getD x.1.toNat (Enc.dflt eRd)).lo t, M.aHi ll lh (eMv.list ms.length (eMv.F ms)) (rs.getD x.1.toNat (Enc.dflt eRd)).nm (rs.getD x.1.toNat (Enc.dflt eRd)).day (rs.getD x.1.toNat (Enc.dflt eRd)).hi t, PUnit.unit))))))) (T.br (!x.2.1) (T.ret (Sum.inr [.agg [dI 0, dI 0], rI 12])) (T.needs [-4000000000000000000 ≤ x.2.2.1, x.2.2.1 ≤ 4000000000000000000, -4000000000000000000 ≤ x.2.2.2.1, x.2.2.2.1 ≤ 4000000000000000000] (T.ret (Sum.inr [.agg [dI (M.flo x.2.2.1 1000), dI (M.cei x.2.2.2.1 1000)], rI 0])))))) := by kernel_rfl
theorem w33 (ll : Int) (lh : Int) (q_rs : Bool) (rs : List Rd) (q_ms : Bool) (ms : List Mv) (c : ByteArray) (t : Int) (hr : rs.length ≤ 40) (hm : ms.length ≤ 60) (hn : M.NoC ll lh ms rs) (ha : M.AtOk (M.atS ll lh ms c t rs)) : (T.needs [eRd.Is rs.length (eRd.F rs), eMv.Is ms.length (eMv.F ms), (eRd.list rs.length (eRd.F rs)).length ≤ 40, (eMv.list ms.length (eMv.F ms)).length ≤ 60, M.NoC ll lh (eMv.list ms.length (eMv.F ms)) (eRd.list rs.length (eRd.F rs))] (T.br (decide ((0 : Int) < 0)) T.fail (T.loop (Int × Bool × Int × Int × PUnit) ((0 : Int), false, (0 : Int), (0 : Int), PUnit.unit) fun (x : Int × Bool × Int × Int × PUnit) => T.br (decide (x.1 < (rs.length : Int))) (T.needs [0 ≤ x.1, x.1 < (rs.length : Int)] (T.br (!(rs.getD x.1.toNat (Enc.dflt eRd)).nm.toList == c.toList) (T.ret (Sum.inl (w64 (x.1 + 1), x.2.1, x.2.2.1, x.2.2.2.1, PUnit.unit))) (T.needs [eRd.Is rs.length (eRd.F rs), eMv.Is ms.length (eMv.F ms), (eMv.list ms.length (eMv.F ms)).length ≤ 60] (T.br x.2.1 (T.ret (Sum.inl (w64 (x.1 + 1), true, if x.2.2.1 > M.aLo ll lh (eMv.list ms.length (eMv.F ms)) (rs.getD x.1.toNat (Enc.dflt eRd)).nm (rs.getD x.1.toNat (Enc.dflt eRd)).day (rs.getD x.1.toNat (Enc.dflt eRd)).lo t then x.2.2.1 else M.aLo ll lh (eMv.list ms.length (eMv.F ms)) (rs.getD x.1.toNat (Enc.dflt eRd)).nm (rs.getD x.1.toNat (Enc.dflt eRd)).day (rs.getD x.1.toNat (Enc.dflt eRd)).lo t, if x.2.2.2.1 < M.aHi ll lh (eMv.list ms.length (eMv.F ms)) (rs.getD x.1.toNat (Enc.dflt eRd)).nm (rs.getD x.1.toNat (Enc.dflt eRd)).day (rs.getD x.1.toNat (Enc.dflt eRd)).hi t then x.2.2.2.1 else M.aHi ll lh (eMv.list ms.length (eMv.F ms)) (rs.getD x.1.toNat (Enc.dflt eRd)).nm (rs.getD x.1.toNat (Enc.dflt eRd)).day (rs.getD x.1.toNat (Enc.dflt eRd)).hi t, PUnit.unit))) (T.ret (Sum.inl (w64 (x.1 + 1), true, M.aLo ll lh (eMv.list ms.length (eMv.F ms)) (rs.getD x.1.toNat (Enc.dflt eRd)).nm (rs.getD x.1.toNat (Enc.dflt eRd)).day (rs.getD x.1.toNat (Enc.dflt eRd)).lo t, M.aHi ll lh (eMv.list ms.length (eMv.F ms)) (rs.getD x.1.toNat (Enc.dflt eRd)).nm (rs.getD x.1.toNat (Enc.dflt eRd)).day (rs.getD x.1.toNat (Enc.dflt eRd)).hi t, PUnit.unit))))))) (T.br (!x.2.1) (T.ret (Sum.inr [.agg [dI 0, dI 0], rI 12])) (T.needs [-4000000000000000000 ≤ x.2.2.1, x.2.2.1 ≤ 4000000000000000000, -4000000000000000000 ≤ x.2.2.2.1, x.2.2.2.1 ≤ 4000000000000000000] (T.ret (Sum.inr [.agg [dI (M.flo x.2.2.1 1000), dI (M.cei x.2.2.2.1 1000)], rI 0]))))))).wp (fun zz => rsEqv zz [.agg [dI (M.flo (M.atS ll lh ms c t rs).2.1 1000), dI (M.cei (M.atS ll lh ms c t rs).2.2 1000)], rI 0]) := by
  rw [Enc.list_F, Enc.list_F]
  refine ⟨Enc.is_F _ _ _, Enc.is_F _ _ _, hr, hm, hn, fun h => absurd h (by decide), fun _ => ?_⟩
  refine range_wp (n := rs.length) (fun k s => (s.1, s.2.1, s.2.2.1) = (rs.take k).foldl (M.ast ll lh ms c t) (false, 0, 0)) rfl ?_
  rintro k ⟨b, s, z, u⟩ hk hI
  have hI : (b, s, z) = (rs.take k).foldl (M.ast ll lh ms c t) (false, 0, 0) := hI
  refine ⟨fun hb => ?_, fun hb => ?_⟩
  · have hlt : (k : Int) < rs.length := of_decide_eq_true hb
    have hk1 : k < rs.length := by omega
    have hs := foldl_take (f := M.ast ll lh ms c t) (a := ((false, 0, 0) : Bool × Int × Int)) (l := rs) (d := dR) hk1
    rw [← hI] at hs
    refine ⟨by show (0 : Int) ≤ k; omega, hlt, ?_⟩
    show T.wp (T.br (!(rs.getD k dR).nm.toList == c.toList) _ (T.needs _ (T.br b _ _))) _
    rw [toL_eq]
    refine ⟨fun e1 => ⟨hk1, w64_s (by omega), Eq.trans ?_ hs.symm⟩, fun e1 => ⟨Enc.is_F _ _ _, Enc.is_F _ _ _, hm, fun e2 => ⟨hk1, w64_s (by omega), Eq.trans ?_ hs.symm⟩, fun e2 => ⟨hk1, w64_s (by omega), Eq.trans ?_ hs.symm⟩⟩⟩ <;> unfold M.ast <;> first | simp only [e1, e2, cond_true, cond_false, Int.toNat_natCast] | simp only [e1, cond_true, cond_false, Int.toNat_natCast]
  · have hge : ¬ (k : Int) < rs.length := of_decide_eq_false hb
    have e : rs.take k = rs := List.take_of_length_le (by omega)
    rw [e] at hI
    have hI : (b, s, z) = M.atS ll lh ms c t rs := hI
    rw [← hI] at ha ⊢
    obtain ⟨a1, ⟨a2, a3⟩, a4, a5⟩ := ha
    have a1 : b = true := a1
    subst a1
    exact ⟨fun h => absurd (show (!true) = true from h) (by decide), fun _ => ⟨a2, a3, a4, a5, rsEqv_refl _⟩⟩
def dom33 : DomF
  | [.agg [.int .i64 ll, .int .i64 lh, .sl q_rs n_rs st_rs F_rs, .sl q_ms n_ms st_ms F_ms], .c (.str c), .c (.int .i64 t)] => (match (Nat.beq st_rs 4 || Nat.beq n_rs 0) && (Nat.beq st_ms 4 || Nat.beq n_ms 0) with
    | true => some ([eRd.Is n_rs F_rs, eMv.Is n_ms F_ms, (eRd.list n_rs F_rs).length ≤ 40, (eMv.list n_ms F_ms).length ≤ 60, M.NoC ll lh (eMv.list n_ms F_ms) (eRd.list n_rs F_rs), M.AtOk (M.atS ll lh (eMv.list n_ms F_ms) c t (eRd.list n_rs F_rs))], [.agg [dI (M.flo (M.atS ll lh (eMv.list n_ms F_ms) c t (eRd.list n_rs F_rs)).2.1 1000), dI (M.cei (M.atS ll lh (eMv.list n_ms F_ms) c t (eRd.list n_rs F_rs)).2.2 1000)], rI 0])
    | _ => none)
  | _ => none
def v33 : Nat × Sm := (33, fokSm dom33)
theorem C33 : FOK Try.prog G0 gw 33 dom33 := by
  intro ags p r hd hp κ w xs hw hl hG hx
  unfold dom33 at hd
  split at hd
  · rename_i ll lh q_rs n_rs st_rs F_rs q_ms n_ms st_ms F_ms c t
    split at hd
    · rename_i hst
      rw [Bool.and_eq_true] at hst
      obtain ⟨gz_rs, gz_ms⟩ := hst
      simp only [Option.some.injEq, Prod.mk.injEq] at hd
      obtain ⟨rfl, rfl⟩ := hd
      obtain ⟨hI_rs, hI_ms, hp⟩ := hp
      have heq : agsEqv [.agg [.int .i64 ll, .int .i64 lh, .sl q_rs n_rs st_rs F_rs, .sl q_ms n_ms st_ms F_ms], .c (.str c), .c (.int .i64 t)] [.agg [.int .i64 ll, .int .i64 lh, .sl q_rs (eRd.list n_rs F_rs).length 4 (eRd.F (eRd.list n_rs F_rs)), .sl q_ms (eMv.list n_ms F_ms).length 4 (eMv.F (eMv.list n_ms F_ms))], .c (.str c), .c (.int .i64 t)] := ⟨⟨rfl, rfl, toE eRd (k := 4) rfl gz_rs hI_rs, toE eMv (k := 4) rfl gz_ms hI_ms, trivial⟩, rfl, rfl, trivial⟩
      generalize eRd.list n_rs F_rs = rs at *
      generalize eMv.list n_ms F_ms = ms at *
      exact fokX_fin mixed gw_stable (sl := [v30, v43, v44]) ⟨S30, S43, S44, trivial⟩ Try.func33 hw hl hG hx heq rfl (t33 ll lh q_rs rs q_ms ms c t) (w33 ll lh q_rs rs q_ms ms c t hp.1 hp.2.1 hp.2.2.1 hp.2.2.2.1)
    · cases hd
  · cases hd
theorem S33 : SumOK Try.prog G0 gw 33 (fokSm dom33) := fok_sum Try.func33 rfl C33
theorem t13 (ll : Int) (lh : Int) (q_rs : Bool) (rs : List Rd) (q_ms : Bool) (ms : List Mv) : runFnX Try.prog G0 (lookS [v29, v30]) (fun _ => []) [] 0 60 3 13 Try.f13 [.agg [dI ll, dI lh, .sl q_rs rs.length 4 (eRd.F rs), .sl q_ms ms.length 4 (eMv.F ms)]] = T.needs [eRd.Is rs.length (eRd.F rs), eMv.Is ms.length (eMv.F ms), M.OkB ll lh (eRd.list rs.length (eRd.F rs)) (eMv.list ms.length (eMv.F ms))] (T.br ((0 : Int) != 0) (T.ret [.c (.sl false 0 0 nilF), rI 0]) (T.needs [eRd.Is (eRd.list rs.length (eRd.F rs)).length (eRd.F (eRd.list rs.length (eRd.F rs))), eMv.Is (eMv.list ms.length (eMv.F ms)).length (eMv.F (eMv.list ms.length (eMv.F ms))), (eRd.list (eRd.list rs.length (eRd.F rs)).length (eRd.F (eRd.list rs.length (eRd.F rs)))).length ≤ 40, (eMv.list (eMv.list ms.length (eMv.F ms)).length (eMv.F (eMv.list ms.length (eMv.F ms)))).length ≤ 60, M.NoC ll lh (eMv.list (eMv.list ms.length (eMv.F ms)).length (eMv.F (eMv.list ms.length (eMv.F ms)))) (eRd.list (eRd.list rs.length (eRd.F rs)).length (eRd.F (eRd.list rs.length (eRd.F rs))))] (T.ret [.c (.sl false 0 0 nilF), rI 0]))) := by kernel_rfl
theorem w13 (ll : Int) (lh : Int) (q_rs : Bool) (rs : List Rd) (q_ms : Bool) (ms : List Mv) (h : M.OkB ll lh rs ms) (hn : M.NoC ll lh ms rs) : (T.needs [eRd.Is rs.length (eRd.F rs), eMv.Is ms.length (eMv.F ms), M.OkB ll lh (eRd.list rs.length (eRd.F rs)) (eMv.list ms.length (eMv.F ms))] (T.br ((0 : Int) != 0) (T.ret [.c (.sl false 0 0 nilF), rI 0]) (T.needs [eRd.Is (eRd.list rs.length (eRd.F rs)).length (eRd.F (eRd.list rs.length (eRd.F rs))), eMv.Is (eMv.list ms.length (eMv.F ms)).length (eMv.F (eMv.list ms.length (eMv.F ms))), (eRd.list (eRd.list rs.length (eRd.F rs)).length (eRd.F (eRd.list rs.length (eRd.F rs)))).length ≤ 40, (eMv.list (eMv.list ms.length (eMv.F ms)).length (eMv.F (eMv.list ms.length (eMv.F ms)))).length ≤ 60, M.NoC ll lh (eMv.list (eMv.list ms.length (eMv.F ms)).length (eMv.F (eMv.list ms.length (eMv.F ms)))) (eRd.list (eRd.list rs.length (eRd.F rs)).length (eRd.F (eRd.list rs.length (eRd.F rs))))] (T.ret [.c (.sl false 0 0 nilF), rI 0])))).wp (fun zz => rsEqv zz [.c (.sl false 0 0 nilF), rI 0]) := by
  simp only [Enc.list_F]
  exact ⟨Enc.is_F _ _ _, Enc.is_F _ _ _, h, fun e => absurd e (by decide), fun _ => ⟨Enc.is_F _ _ _, Enc.is_F _ _ _, h.r.1, h.m.1, hn, rsEqv_refl _⟩⟩
def dom13 : DomF
  | [.agg [.int .i64 ll, .int .i64 lh, .sl q_rs n_rs st_rs F_rs, .sl q_ms n_ms st_ms F_ms]] => (match (Nat.beq st_rs 4 || Nat.beq n_rs 0) && (Nat.beq st_ms 4 || Nat.beq n_ms 0) with
    | true => some ([eRd.Is n_rs F_rs, eMv.Is n_ms F_ms, M.OkB ll lh (eRd.list n_rs F_rs) (eMv.list n_ms F_ms), M.NoC ll lh (eMv.list n_ms F_ms) (eRd.list n_rs F_rs)], [.c (.sl false 0 0 nilF), rI 0])
    | _ => none)
  | _ => none
def v13 : Nat × Sm := (13, fokSm dom13)
theorem C13 : FOK Try.prog G0 gw 13 dom13 := by
  intro ags p r hd hp κ w xs hw hl hG hx
  unfold dom13 at hd
  split at hd
  · rename_i ll lh q_rs n_rs st_rs F_rs q_ms n_ms st_ms F_ms
    split at hd
    · rename_i hst
      rw [Bool.and_eq_true] at hst
      obtain ⟨gz_rs, gz_ms⟩ := hst
      simp only [Option.some.injEq, Prod.mk.injEq] at hd
      obtain ⟨rfl, rfl⟩ := hd
      obtain ⟨hI_rs, hI_ms, hp⟩ := hp
      have heq : agsEqv [.agg [.int .i64 ll, .int .i64 lh, .sl q_rs n_rs st_rs F_rs, .sl q_ms n_ms st_ms F_ms]] [.agg [.int .i64 ll, .int .i64 lh, .sl q_rs (eRd.list n_rs F_rs).length 4 (eRd.F (eRd.list n_rs F_rs)), .sl q_ms (eMv.list n_ms F_ms).length 4 (eMv.F (eMv.list n_ms F_ms))]] := ⟨⟨rfl, rfl, toE eRd (k := 4) rfl gz_rs hI_rs, toE eMv (k := 4) rfl gz_ms hI_ms, trivial⟩, trivial⟩
      generalize eRd.list n_rs F_rs = rs at *
      generalize eMv.list n_ms F_ms = ms at *
      exact fokX_fin mixed gw_stable (sl := [v29, v30]) ⟨S29, S30, trivial⟩ Try.func13 hw hl hG hx heq rfl (t13 ll lh q_rs rs q_ms ms) (w13 ll lh q_rs rs q_ms ms hp.1 hp.2.1)
    · cases hd
  · cases hd
theorem S13 : SumOK Try.prog G0 gw 13 (fokSm dom13) := fok_sum Try.func13 rfl C13
end Go.Ga
end

section
set_option linter.unusedVariables false
set_option linter.unusedSimpArgs false
set_option maxRecDepth 100000
namespace Go.Ga
open Go.Gd
open Go.V Go.Proofs
open Go.RowKit (Below)
open Go.Bl (rdI dI rI rB eI range_wp wrap_id)
open Go.Bl.M (within unl isName first)
theorem t15 (ll : Int) (lh : Int) (q_rs : Bool) (rs : List Rd) (q_ms : Bool) (ms : List Mv) (c : ByteArray) (t : Int) : runFnX Try.prog G0 (lookS [v29, Go.Bl.v64, v31, v32, v33]) (fun _ => []) [] 0 60 3 15 Try.f15 [.agg [dI ll, dI lh, .sl q_rs rs.length 4 (eRd.F rs), .sl q_ms ms.length 4 (eMv.F ms)], .c (.str c), .c (dI t)] = T.needs [eRd.Is rs.length (eRd.F rs), eMv.Is ms.length (eMv.F ms), M.OkB ll lh (eRd.list rs.length (eRd.F rs)) (eMv.list ms.length (eMv.F ms)), c.size ≤ 1000000] (T.br (first [0, unl (isName c) 4, unl (within t 0 100000) 2] != 0) (T.ret [.agg [dI 0, dI 0], rI (first [0, unl (isName c) 4, unl (within t 0 100000) 2])]) (T.needs [eRd.Is (eRd.list rs.length (eRd.F rs)).length (eRd.F (eRd.list rs.length (eRd.F rs))), eMv.Is (eMv.list ms.length (eMv.F ms)).length (eMv.F (eMv.list ms.length (eMv.F ms))), (eRd.list (eRd.list rs.length (eRd.F rs)).length (eRd.F (eRd.list rs.length (eRd.F rs)))).length ≤ 40, (eMv.list (eMv.list ms.length (eMv.F ms)).length (eMv.F (eMv.list ms.length (eMv.F ms)))).length ≤ 60, M.NoC ll lh (eMv.list (eMv.list ms.length (eMv.F ms)).length (eMv.F (eMv.list ms.length (eMv.F ms)))) (eRd.list (eRd.list rs.length (eRd.F rs)).length (eRd.F (eRd.list rs.length (eRd.F rs)))), M.AtOk (M.atS ll lh (eMv.list (eMv.list ms.length (eMv.F ms)).length (eMv.F (eMv.list ms.length (eMv.F ms)))) c t (eRd.list (eRd.list rs.length (eRd.F rs)).length (eRd.F (eRd.list rs.length (eRd.F rs)))))] (T.ret [.agg [dI (M.flo (M.atS ll lh (eMv.list (eMv.list ms.length (eMv.F ms)).length (eMv.F (eMv.list ms.length (eMv.F ms)))) c t (eRd.list (eRd.list rs.length (eRd.F rs)).length (eRd.F (eRd.list rs.length (eRd.F rs))))).2.1 1000), dI (M.cei (M.atS ll lh (eMv.list (eMv.list ms.length (eMv.F ms)).length (eMv.F (eMv.list ms.length (eMv.F ms)))) c t (eRd.list (eRd.list rs.length (eRd.F rs)).length (eRd.F (eRd.list rs.length (eRd.F rs))))).2.2 1000)], rI 0]))) := by kernel_rfl
theorem w15 (ll : Int) (lh : Int) (q_rs : Bool) (rs : List Rd) (q_ms : Bool) (ms : List Mv) (c : ByteArray) (t : Int) (h : M.OkB ll lh rs ms) (hn : M.NoC ll lh ms rs) (ha : M.AtOk (M.atS ll lh ms c t rs)) (hs : c.size ≤ 1000000) (h1 : isName c = true) (h2 : within t 0 100000 = true) : (T.needs [eRd.Is rs.length (eRd.F rs), eMv.Is ms.length (eMv.F ms), M.OkB ll lh (eRd.list rs.length (eRd.F rs)) (eMv.list ms.length (eMv.F ms)), c.size ≤ 1000000] (T.br (first [0, unl (isName c) 4, unl (within t 0 100000) 2] != 0) (T.ret [.agg [dI 0, dI 0], rI (first [0, unl (isName c) 4, unl (within t 0 100000) 2])]) (T.needs [eRd.Is (eRd.list rs.length (eRd.F rs)).length (eRd.F (eRd.list rs.length (eRd.F rs))), eMv.Is (eMv.list ms.length (eMv.F ms)).length (eMv.F (eMv.list ms.length (eMv.F ms))), (eRd.list (eRd.list rs.length (eRd.F rs)).length (eRd.F (eRd.list rs.length (eRd.F rs)))).length ≤ 40, (eMv.list (eMv.list ms.length (eMv.F ms)).length (eMv.F (eMv.list ms.length (eMv.F ms)))).length ≤ 60, M.NoC ll lh (eMv.list (eMv.list ms.length (eMv.F ms)).length (eMv.F (eMv.list ms.length (eMv.F ms)))) (eRd.list (eRd.list rs.length (eRd.F rs)).length (eRd.F (eRd.list rs.length (eRd.F rs)))), M.AtOk (M.atS ll lh (eMv.list (eMv.list ms.length (eMv.F ms)).length (eMv.F (eMv.list ms.length (eMv.F ms)))) c t (eRd.list (eRd.list rs.length (eRd.F rs)).length (eRd.F (eRd.list rs.length (eRd.F rs)))))] (T.ret [.agg [dI (M.flo (M.atS ll lh (eMv.list (eMv.list ms.length (eMv.F ms)).length (eMv.F (eMv.list ms.length (eMv.F ms)))) c t (eRd.list (eRd.list rs.length (eRd.F rs)).length (eRd.F (eRd.list rs.length (eRd.F rs))))).2.1 1000), dI (M.cei (M.atS ll lh (eMv.list (eMv.list ms.length (eMv.F ms)).length (eMv.F (eMv.list ms.length (eMv.F ms)))) c t (eRd.list (eRd.list rs.length (eRd.F rs)).length (eRd.F (eRd.list rs.length (eRd.F rs))))).2.2 1000)], rI 0])))).wp (fun zz => rsEqv zz [.agg [dI (M.flo (M.atS ll lh ms c t rs).2.1 1000), dI (M.cei (M.atS ll lh ms c t rs).2.2 1000)], rI 0]) := by
  simp only [Enc.list_F]
  rw [h1, h2]
  exact ⟨Enc.is_F _ _ _, Enc.is_F _ _ _, h, hs, fun e => absurd e (by decide), fun _ => ⟨Enc.is_F _ _ _, Enc.is_F _ _ _, h.r.1, h.m.1, hn, ha, rsEqv_refl _⟩⟩
def dom15 : DomF
  | [.agg [.int .i64 ll, .int .i64 lh, .sl q_rs n_rs st_rs F_rs, .sl q_ms n_ms st_ms F_ms], .c (.str c), .c (.int .i64 t)] => (match (Nat.beq st_rs 4 || Nat.beq n_rs 0) && (Nat.beq st_ms 4 || Nat.beq n_ms 0) with
    | true => some ([eRd.Is n_rs F_rs, eMv.Is n_ms F_ms, M.OkB ll lh (eRd.list n_rs F_rs) (eMv.list n_ms F_ms), M.NoC ll lh (eMv.list n_ms F_ms) (eRd.list n_rs F_rs), M.AtOk (M.atS ll lh (eMv.list n_ms F_ms) c t (eRd.list n_rs F_rs)), c.size ≤ 1000000, isName c = true, within t 0 100000 = true], [.agg [dI (M.flo (M.atS ll lh (eMv.list n_ms F_ms) c t (eRd.list n_rs F_rs)).2.1 1000), dI (M.cei (M.atS ll lh (eMv.list n_ms F_ms) c t (eRd.list n_rs F_rs)).2.2 1000)], rI 0])
    | _ => none)
  | _ => none
def v15 : Nat × Sm := (15, fokSm dom15)
theorem C15 : FOK Try.prog G0 gw 15 dom15 := by
  intro ags p r hd hp κ w xs hw hl hG hx
  unfold dom15 at hd
  split at hd
  · rename_i ll lh q_rs n_rs st_rs F_rs q_ms n_ms st_ms F_ms c t
    split at hd
    · rename_i hst
      rw [Bool.and_eq_true] at hst
      obtain ⟨gz_rs, gz_ms⟩ := hst
      simp only [Option.some.injEq, Prod.mk.injEq] at hd
      obtain ⟨rfl, rfl⟩ := hd
      obtain ⟨hI_rs, hI_ms, hp⟩ := hp
      have heq : agsEqv [.agg [.int .i64 ll, .int .i64 lh, .sl q_rs n_rs st_rs F_rs, .sl q_ms n_ms st_ms F_ms], .c (.str c), .c (.int .i64 t)] [.agg [.int .i64 ll, .int .i64 lh, .sl q_rs (eRd.list n_rs F_rs).length 4 (eRd.F (eRd.list n_rs F_rs)), .sl q_ms (eMv.list n_ms F_ms).length 4 (eMv.F (eMv.list n_ms F_ms))], .c (.str c), .c (.int .i64 t)] := ⟨⟨rfl, rfl, toE eRd (k := 4) rfl gz_rs hI_rs, toE eMv (k := 4) rfl gz_ms hI_ms, trivial⟩, rfl, rfl, trivial⟩
      generalize eRd.list n_rs F_rs = rs at *
      generalize eMv.list n_ms F_ms = ms at *
      exact fokX_fin mixed gw_stable (sl := [v29, Go.Bl.v64, v31, v32, v33]) ⟨S29, Go.Bl.S64, S31, S32, S33, trivial⟩ Try.func15 hw hl hG hx heq rfl (t15 ll lh q_rs rs q_ms ms c t) (w15 ll lh q_rs rs q_ms ms c t hp.1 hp.2.1 hp.2.2.1 hp.2.2.2.1 hp.2.2.2.2.1 hp.2.2.2.2.2.1)
    · cases hd
  · cases hd
theorem S15 : SumOK Try.prog G0 gw 15 (fokSm dom15) := fok_sum Try.func15 rfl C15
theorem copy_is {α : Type} (E : Enc α) (F : Nat → Nat → D) (l : List α) {st : Nat} : (D.sl true (0 + l.length) st (joinF 0 F (E.F l))).eqv (.sl true l.length st (E.F l)) := by
  refine ⟨id, by omega, fun _ => rfl, fun i j hi hj => ?_⟩
  unfold joinF
  rw [show i.blt 0 = false from rfl]
  exact D.eqv_refl _
theorem t14 (ll : Int) (lh : Int) (q_rs : Bool) (rs : List Rd) (q_ms : Bool) (ms : List Mv) : runFnX Try.prog G0 (lookS []) (fun _ => []) [] 0 60 3 14 Try.f14 [.agg [dI ll, dI lh, .sl q_rs rs.length 4 (eRd.F rs), .sl q_ms ms.length 4 (eMv.F ms)]] = T.needs [0 + rs.length ≤ 1000000, 0 + ms.length ≤ 1000000, 0 + rs.length ≤ 0 + rs.length, 0 + ms.length ≤ 0 + ms.length] (T.ret [.agg [dI ll, dI lh, .sl true (0 + rs.length) 4 (joinF 0 (fun (i j : Nat) => List.getD [] (i * (4 : Nat) + j) D.nilp) (eRd.F rs)), .sl true (0 + ms.length) 4 (joinF 0 (fun (i j : Nat) => List.getD [] (i * (4 : Nat) + j) D.nilp) (eMv.F ms))]]) := by kernel_rfl
theorem w14 (ll : Int) (lh : Int) (q_rs : Bool) (rs : List Rd) (q_ms : Bool) (ms : List Mv) (h1 : rs.length ≤ 1000000) (h2 : ms.length ≤ 1000000) : (T.needs [0 + rs.length ≤ 1000000, 0 + ms.length ≤ 1000000, 0 + rs.length ≤ 0 + rs.length, 0 + ms.length ≤ 0 + ms.length] (T.ret [.agg [dI ll, dI lh, .sl true (0 + rs.length) 4 (joinF 0 (fun (i j : Nat) => List.getD [] (i * (4 : Nat) + j) D.nilp) (eRd.F rs)), .sl true (0 + ms.length) 4 (joinF 0 (fun (i j : Nat) => List.getD [] (i * (4 : Nat) + j) D.nilp) (eMv.F ms))]])).wp (fun zz => rsEqv zz [.agg [dI ll, dI lh, .sl true rs.length 4 (eRd.F rs), .sl true ms.length 4 (eMv.F ms)]]) := by
  exact ⟨by omega, by omega, Nat.le_refl _, Nat.le_refl _, ⟨rfl, rfl, copy_is _ _ _, copy_is _ _ _, trivial⟩, trivial⟩
def dom14 : DomF
  | [.agg [.int .i64 ll, .int .i64 lh, .sl q_rs n_rs st_rs F_rs, .sl q_ms n_ms st_ms F_ms]] => (match (Nat.beq st_rs 4 || Nat.beq n_rs 0) && (Nat.beq st_ms 4 || Nat.beq n_ms 0) with
    | true => some ([eRd.Is n_rs F_rs, eMv.Is n_ms F_ms, (eRd.list n_rs F_rs).length ≤ 1000000, (eMv.list n_ms F_ms).length ≤ 1000000], [.agg [dI ll, dI lh, .sl true (eRd.list n_rs F_rs).length 4 (eRd.F (eRd.list n_rs F_rs)), .sl true (eMv.list n_ms F_ms).length 4 (eMv.F (eMv.list n_ms F_ms))]])
    | _ => none)
  | _ => none
def v14 : Nat × Sm := (14, fokSm dom14)
theorem C14 : FOK Try.prog G0 gw 14 dom14 := by
  intro ags p r hd hp κ w xs hw hl hG hx
  unfold dom14 at hd
  split at hd
  · rename_i ll lh q_rs n_rs st_rs F_rs q_ms n_ms st_ms F_ms
    split at hd
    · rename_i hst
      rw [Bool.and_eq_true] at hst
      obtain ⟨gz_rs, gz_ms⟩ := hst
      simp only [Option.some.injEq, Prod.mk.injEq] at hd
      obtain ⟨rfl, rfl⟩ := hd
      obtain ⟨hI_rs, hI_ms, hp⟩ := hp
      have heq : agsEqv [.agg [.int .i64 ll, .int .i64 lh, .sl q_rs n_rs st_rs F_rs, .sl q_ms n_ms st_ms F_ms]] [.agg [.int .i64 ll, .int .i64 lh, .sl q_rs (eRd.list n_rs F_rs).length 4 (eRd.F (eRd.list n_rs F_rs)), .sl q_ms (eMv.list n_ms F_ms).length 4 (eMv.F (eMv.list n_ms F_ms))]] := ⟨⟨rfl, rfl, toE eRd (k := 4) rfl gz_rs hI_rs, toE eMv (k := 4) rfl gz_ms hI_ms, trivial⟩, trivial⟩
      generalize eRd.list n_rs F_rs = rs at *
      generalize eMv.list n_ms F_ms = ms at *
      exact fokX_fin mixed gw_stable (sl := []) trivial Try.func14 hw hl hG hx heq rfl (t14 ll lh q_rs rs q_ms ms) (w14 ll lh q_rs rs q_ms ms hp.1 hp.2.1)
    · cases hd
  · cases hd
theorem S14 : SumOK Try.prog G0 gw 14 (fokSm dom14) := fok_sum Try.func14 rfl C14
abbrev butt : ByteArray := ByteArray.mk #[98, 117, 116, 116]
def bkR : List Rd := [⟨butt, 0, 500, 500⟩, ⟨butt, 10, 480, 480⟩]
def bkM : List Mv := [⟨5, butt, ⟨#[]⟩, 5⟩]
theorem t17  : runFnX Try.prog G0 (lookS []) (fun _ => []) [] 0 60 3 17 Try.f17 [] = T.ret [.agg [dI 1000, dI 2000, .sl true 2 4 (fun (i j : Nat) => List.getD [D.str butt, dI 0, dI 500, dI 500, D.str butt, dI 10, dI 480, dI 480] (i * 4 + j) D.nilp), .sl true 1 4 (fun (i j : Nat) => List.getD [dI 5, D.str butt, D.str ⟨#[]⟩, dI 5] (i * 4 + j) D.nilp)]] := by kernel_rfl
theorem w17   : (T.ret [.agg [dI 1000, dI 2000, .sl true 2 4 (fun (i j : Nat) => List.getD [D.str butt, dI 0, dI 500, dI 500, D.str butt, dI 10, dI 480, dI 480] (i * 4 + j) D.nilp), .sl true 1 4 (fun (i j : Nat) => List.getD [dI 5, D.str butt, D.str ⟨#[]⟩, dI 5] (i * 4 + j) D.nilp)]]).wp (fun zz => rsEqv zz [.agg [dI 1000, dI 2000, .sl true 2 4 (eRd.F bkR), .sl true 1 4 (eMv.F bkM)]]) := by
  refine ⟨⟨rfl, rfl, ⟨id, rfl, fun _ => rfl, fun i j hi hj => ?_⟩, ⟨id, rfl, fun _ => rfl, fun i j hi hj => ?_⟩, trivial⟩, trivial⟩
  · rcases (show i = 0 ∨ i = 1 by omega) with rfl | rfl <;> rcases (show j = 0 ∨ j = 1 ∨ j = 2 ∨ j = 3 by omega) with rfl | rfl | rfl | rfl <;> exact D.eqv_refl _
  · obtain rfl : i = 0 := by omega
    rcases (show j = 0 ∨ j = 1 ∨ j = 2 ∨ j = 3 by omega) with rfl | rfl | rfl | rfl <;> exact D.eqv_refl _
def dom17 : DomF
  | [] => some ([], [.agg [dI 1000, dI 2000, .sl true 2 4 (eRd.F bkR), .sl true 1 4 (eMv.F bkM)]])
  | _ => none
def v17 : Nat × Sm := (17, fokSm dom17)
theorem C17 : FOK Try.prog G0 gw 17 dom17 := by
  intro ags p r hd hp κ w xs hw hl hG hx
  unfold dom17 at hd
  split at hd
  · skip
    simp only [Option.some.injEq, Prod.mk.injEq] at hd
    obtain ⟨rfl, rfl⟩ := hd
    have heq : agsEqv [] [] := trivial
    exact fokX_fin mixed gw_stable (sl := []) trivial Try.func17 hw hl hG hx heq rfl (t17 ) (w17  )
  · cases hd
theorem S17 : SumOK Try.prog G0 gw 17 (fokSm dom17) := fok_sum Try.func17 rfl C17
end Go.Ga
end

section
set_option linter.unusedVariables false
set_option linter.unusedSimpArgs false
set_option maxRecDepth 100000
namespace Go.Ga
open Go.Gd
open Go.V Go.Proofs
open Go.RowKit (Below)
open Go.Bl (rdI dI rI rB eI range_wp wrap_id)
open Go.Bl.M (within unl isName first)
abbrev dS : St := eSt.dflt
structure M.OkC (nm : ByteArray) (bung : Int) (st : List St) : Prop where
  sz : nm.size ≤ 1000000
  nm : isName nm = true
  b0 : 10 ≤ bung
  b1 : bung ≤ 800
  n0 : 2 ≤ st.length
  n1 : st.length ≤ 12
  s : ∀ k, k < st.length → (0 ≤ (st.getD k dS).at_ ∧ (st.getD k dS).at_ ≤ 3000) ∧ (10 ≤ (st.getD k dS).inn ∧ (st.getD k dS).inn ≤ (st.getD k dS).out ∧ (st.getD k dS).out ≤ bung) ∧ (0 < k → (st.getD (k - 1) dS).at_ < (st.getD k dS).at_)
namespace M
def scanC (bung : Int) (st : List St) : Nat → Nat → Int
  | 0, _ => 0
  | n + 1, i => cond (!within (st.getD i dS).at_ 0 3000) 2 (cond (!within (st.getD i dS).inn 10 bung) 2 (cond (!within (st.getD i dS).out 10 bung) 2 (cond (decide ((st.getD i dS).inn > (st.getD i dS).out)) 9 (cond (decide (i > 0) && decide ((st.getD i dS).at_ ≤ (st.getD (i - 1) dS).at_)) 9 (scanC bung st n (i + 1))))))
def ckErr (nm : ByteArray) (bung : Int) (st : List St) : Int := cond (isName nm) (cond (within bung 10 800) (cond (decide ((st.length : Int) < 2)) 10 (cond (decide ((st.length : Int) > 12)) 8 (scanC bung st st.length 0))) 2) 4
def small (nm : ByteArray) (bung : Int) (st : List St) : Bool := cond (decide ((nm.size : Int) ≤ 20)) (cond (cond (decide ((st.length : Int) ≤ 4)) true (cond (decide ((st.length : Int) > 12)) (decide ((st.length : Int) ≤ 14)) false)) (cond (decide (bung ≤ 60)) true (decide (bung > 800))) false) false
end M
theorem within_of {n a b : Int} (h : within n a b = true) : a ≤ n ∧ n ≤ b := by
  unfold within at h
  rw [Bool.and_eq_true] at h
  exact ⟨of_decide_eq_true h.1, of_decide_eq_true h.2⟩
theorem scan_ok {bung : Int} {st : List St} : ∀ {n i : Nat}, M.scanC bung st n i = 0 → ∀ k, i ≤ k → k < i + n → (0 ≤ (st.getD k dS).at_ ∧ (st.getD k dS).at_ ≤ 3000) ∧ (10 ≤ (st.getD k dS).inn ∧ (st.getD k dS).inn ≤ (st.getD k dS).out ∧ (st.getD k dS).out ≤ bung) ∧ (0 < k → (st.getD (k - 1) dS).at_ < (st.getD k dS).at_) := by
  intro n
  induction n with
  | zero => intro i _ k h1 h2; omega
  | succ n ih =>
    intro i h k h1 h2
    unfold M.scanC at h
    cases e1 : within (st.getD i dS).at_ 0 3000 with
    | false => rw [e1] at h; exact absurd (show (2 : Int) = 0 from h) (by decide)
    | true =>
    cases e2 : within (st.getD i dS).inn 10 bung with
    | false => rw [e1, e2] at h; exact absurd (show (2 : Int) = 0 from h) (by decide)
    | true =>
    cases e3 : within (st.getD i dS).out 10 bung with
    | false => rw [e1, e2, e3] at h; exact absurd (show (2 : Int) = 0 from h) (by decide)
    | true =>
    cases e4 : decide ((st.getD i dS).inn > (st.getD i dS).out) with
    | true => rw [e1, e2, e3, e4] at h; exact absurd (show (9 : Int) = 0 from h) (by decide)
    | false =>
    cases e5 : (decide (i > 0) && decide ((st.getD i dS).at_ ≤ (st.getD (i - 1) dS).at_)) with
    | true => rw [e1, e2, e3, e4, e5] at h; exact absurd (show (9 : Int) = 0 from h) (by decide)
    | false =>
      rw [e1, e2, e3, e4, e5] at h
      rcases Nat.lt_or_ge i k with g | g
      · exact ih (show M.scanC bung st n (i + 1) = 0 from h) k g (by omega)
      · obtain rfl : k = i := by omega
        have a1 := within_of e1
        have a2 := within_of e2
        have a3 := within_of e3
        have a4 := of_decide_eq_false e4
        refine ⟨a1, ⟨a2.1, by omega, a3.2⟩, fun hk => ?_⟩
        rw [decide_eq_true (show k > 0 from hk), Bool.true_and] at e5
        have := of_decide_eq_false e5
        omega
theorem ok_of {nm : ByteArray} {bung : Int} {st : List St} (hs : nm.size ≤ 1000000) (h : M.ckErr nm bung st = 0) : M.OkC nm bung st := by
  unfold M.ckErr at h
  cases e1 : isName nm with
  | false => rw [e1] at h; exact absurd (show (4 : Int) = 0 from h) (by decide)
  | true =>
  cases e2 : within bung 10 800 with
  | false => rw [e1, e2] at h; exact absurd (show (2 : Int) = 0 from h) (by decide)
  | true =>
  cases e3 : decide ((st.length : Int) < 2) with
  | true => rw [e1, e2, e3] at h; exact absurd (show (10 : Int) = 0 from h) (by decide)
  | false =>
  cases e4 : decide ((st.length : Int) > 12) with
  | true => rw [e1, e2, e3, e4] at h; exact absurd (show (8 : Int) = 0 from h) (by decide)
  | false =>
    rw [e1, e2, e3, e4] at h
    have a2 := within_of e2
    have a3 := of_decide_eq_false e3
    have a4 := of_decide_eq_false e4
    exact ⟨hs, e1, a2.1, a2.2, by omega, by omega, fun k hk => scan_ok (i := 0) h k (Nat.zero_le _) (by omega)⟩
theorem small_of {nm : ByteArray} {bung : Int} {st : List St} (h : M.small nm bung st = true) (hc : M.OkC nm bung st) : st.length ≤ 4 ∧ bung ≤ 60 := by
  unfold M.small at h
  have n1 := hc.n1
  have b1 := hc.b1
  rw [decide_eq_false (show ¬ ((st.length : Int) > 12) by omega), decide_eq_false (show ¬ (bung > 800) by omega)] at h
  cases e1 : decide ((nm.size : Int) ≤ 20) with
  | false => rw [e1] at h; cases h
  | true =>
  cases e2 : decide ((st.length : Int) ≤ 4) with
  | false => rw [e1, e2] at h; cases h
  | true =>
  cases e3 : decide (bung ≤ 60) with
  | false => rw [e1, e2, e3] at h; cases h
  | true =>
    have := of_decide_eq_true e2
    exact ⟨by omega, of_decide_eq_true e3⟩
theorem t16 (c : Int) (v : Int) : runFnX Try.prog G0 (lookS [v34, Go.Bl.v102, v36]) (fun _ => []) [] 0 60 3 16 Try.f16 [.c (dI c), .c (dI v)] = T.br (!within c 10 800) (T.ret [.agg [dI 0, dI 0], rI 2]) (T.br (!within v (w64 (0 - c)) c) (T.ret [.agg [dI 0, dI 0], rI 2]) (T.needs [0 ≤ c, c ≤ 60] (T.ret [.agg [dI (M.arLo c (M.cnt c v)), dI (M.arHi c (M.cnt c v))], rI 0]))) := by kernel_rfl
theorem w16 (c : Int) (v : Int) (h0 : 10 ≤ c) (h1 : c ≤ 60) (h2 : -c ≤ v) (h3 : v ≤ c) : (T.br (!within c 10 800) (T.ret [.agg [dI 0, dI 0], rI 2]) (T.br (!within v (w64 (0 - c)) c) (T.ret [.agg [dI 0, dI 0], rI 2]) (T.needs [0 ≤ c, c ≤ 60] (T.ret [.agg [dI (M.arLo c (M.cnt c v)), dI (M.arHi c (M.cnt c v))], rI 0])))).wp (fun zz => rsEqv zz [.agg [dI (M.arLo c (M.cnt c v)), dI (M.arHi c (M.cnt c v))], rI 0]) := by
  rw [show w64 (0 - c) = -c by rw [w64_id (by omega) (by omega)]; omega, within_yes h2 h3, within_yes h0 (show c ≤ 800 by omega)]
  exact ⟨fun h => absurd h (by decide), fun _ => ⟨fun h => absurd h (by decide), fun _ => ⟨by omega, h1, rsEqv_refl _⟩⟩⟩
def dom16 : DomF
  | [.c (.int .i64 c), .c (.int .i64 v)] => some ([10 ≤ c, c ≤ 60, -c ≤ v, v ≤ c], [.agg [dI (M.arLo c (M.cnt c v)), dI (M.arHi c (M.cnt c v))], rI 0])
  | _ => none
def v16 : Nat × Sm := (16, fokSm dom16)
theorem C16 : FOK Try.prog G0 gw 16 dom16 := by
  intro ags p r hd hp κ w xs hw hl hG hx
  unfold dom16 at hd
  split at hd
  · rename_i c v
    simp only [Option.some.injEq, Prod.mk.injEq] at hd
    obtain ⟨rfl, rfl⟩ := hd
    have heq : agsEqv [.c (.int .i64 c), .c (.int .i64 v)] [.c (.int .i64 c), .c (.int .i64 v)] := ⟨rfl, rfl, trivial⟩
    exact fokX_fin mixed gw_stable (sl := [v34, Go.Bl.v102, v36]) ⟨S34, Go.Bl.S102, S36, trivial⟩ Try.func16 hw hl hG hx heq rfl (t16 c v) (w16 c v hp.1 hp.2.1 hp.2.2.1 hp.2.2.2.1)
  · cases hd
theorem S16 : SumOK Try.prog G0 gw 16 (fokSm dom16) := fok_sum Try.func16 rfl C16
theorem t5 (nm : ByteArray) (bung : Int) (q_st : Bool) (st : List St) : runFnX Try.prog G0 (lookS []) (fun _ => []) [] 0 60 3 5 Try.f5 [.agg [.str nm, dI bung, .sl q_st st.length 3 (eSt.F st)]] = T.br (decide ((nm.size : Int) ≤ 20)) (T.br (decide ((st.length : Int) ≤ 4)) (T.br (decide (bung ≤ 60)) (T.ret [rB true]) (T.ret [rB (decide (bung > 800))])) (T.br (decide ((st.length : Int) > 12)) (T.br (decide ((st.length : Int) ≤ 14)) (T.br (decide (bung ≤ 60)) (T.ret [rB true]) (T.ret [rB (decide (bung > 800))])) (T.ret [rB false])) (T.ret [rB false]))) (T.ret [rB false]) := by kernel_rfl
theorem w5 (nm : ByteArray) (bung : Int) (q_st : Bool) (st : List St)  : (T.br (decide ((nm.size : Int) ≤ 20)) (T.br (decide ((st.length : Int) ≤ 4)) (T.br (decide (bung ≤ 60)) (T.ret [rB true]) (T.ret [rB (decide (bung > 800))])) (T.br (decide ((st.length : Int) > 12)) (T.br (decide ((st.length : Int) ≤ 14)) (T.br (decide (bung ≤ 60)) (T.ret [rB true]) (T.ret [rB (decide (bung > 800))])) (T.ret [rB false])) (T.ret [rB false]))) (T.ret [rB false])).wp (fun zz => rsEqv zz [rB (M.small nm bung st)]) := by
  unfold M.small
  generalize decide ((nm.size : Int) ≤ 20) = b0 at *
  generalize decide ((st.length : Int) ≤ 4) = b1 at *
  generalize decide ((st.length : Int) > 12) = b2 at *
  generalize decide ((st.length : Int) ≤ 14) = b3 at *
  generalize decide (bung ≤ 60) = b4 at *
  generalize decide (bung > 800) = b5 at *
  cases b0 <;> cases b1 <;> cases b2 <;> cases b3 <;> cases b4 <;> cases b5 <;> repeat (first | exact rsEqv_refl _ | refine ⟨fun _ => ?_, fun h => absurd h (by decide)⟩ | refine ⟨fun h => absurd h (by decide), fun _ => ?_⟩)
def dom5 : DomF
  | [.agg [.str nm, .int .i64 bung, .sl q_st n_st st_st F_st]] => (match (Nat.beq st_st 3 || Nat.beq n_st 0) with
    | true => some ([eSt.Is n_st F_st], [rB (M.small nm bung (eSt.list n_st F_st))])
    | _ => none)
  | _ => none
def v5 : Nat × Sm := (5, fokSm dom5)
theorem C5 : FOK Try.prog G0 gw 5 dom5 := by
  intro ags p r hd hp κ w xs hw hl hG hx
  unfold dom5 at hd
  split at hd
  · rename_i nm bung q_st n_st st_st F_st
    split at hd
    · rename_i hst
      have gz_st := hst
      simp only [Option.some.injEq, Prod.mk.injEq] at hd
      obtain ⟨rfl, rfl⟩ := hd
      obtain ⟨hI_st, hp⟩ := hp
      have heq : agsEqv [.agg [.str nm, .int .i64 bung, .sl q_st n_st st_st F_st]] [.agg [.str nm, .int .i64 bung, .sl q_st (eSt.list n_st F_st).length 3 (eSt.F (eSt.list n_st F_st))]] := ⟨⟨rfl, rfl, toE eSt (k := 3) rfl gz_st hI_st, trivial⟩, trivial⟩
      generalize eSt.list n_st F_st = st at *
      exact fokX_fin mixed gw_stable (sl := []) trivial Try.func5 hw hl hG hx heq rfl (t5 nm bung q_st st) (w5 nm bung q_st st )
    · cases hd
  · cases hd
theorem S5 : SumOK Try.prog G0 gw 5 (fokSm dom5) := fok_sum Try.func5 rfl C5
theorem t9 (nm : ByteArray) (bung : Int) (q_st : Bool) (st : List St) : runFnX Try.prog G0 (lookS []) (fun _ => []) [] 0 60 3 9 Try.f9 [.agg [.str nm, dI bung, .sl q_st st.length 3 (eSt.F st)]] = T.needs [0 + st.length ≤ 1000000, 0 + st.length ≤ 0 + st.length] (T.ret [.agg [.str nm, dI bung, .sl true (0 + st.length) 3 (joinF 0 (fun (i j : Nat) => List.getD [] (i * (3 : Nat) + j) D.nilp) (eSt.F st))]]) := by kernel_rfl
theorem w9 (nm : ByteArray) (bung : Int) (q_st : Bool) (st : List St) (h1 : st.length ≤ 1000000) : (T.needs [0 + st.length ≤ 1000000, 0 + st.length ≤ 0 + st.length] (T.ret [.agg [.str nm, dI bung, .sl true (0 + st.length) 3 (joinF 0 (fun (i j : Nat) => List.getD [] (i * (3 : Nat) + j) D.nilp) (eSt.F st))]])).wp (fun zz => rsEqv zz [.agg [.str nm, dI bung, .sl true st.length 3 (eSt.F st)]]) := by
  exact ⟨by omega, Nat.le_refl _, ⟨rfl, rfl, copy_is _ _ _, trivial⟩, trivial⟩
def dom9 : DomF
  | [.agg [.str nm, .int .i64 bung, .sl q_st n_st st_st F_st]] => (match (Nat.beq st_st 3 || Nat.beq n_st 0) with
    | true => some ([eSt.Is n_st F_st, (eSt.list n_st F_st).length ≤ 1000000], [.agg [.str nm, dI bung, .sl true (eSt.list n_st F_st).length 3 (eSt.F (eSt.list n_st F_st))]])
    | _ => none)
  | _ => none
def v9 : Nat × Sm := (9, fokSm dom9)
theorem C9 : FOK Try.prog G0 gw 9 dom9 := by
  intro ags p r hd hp κ w xs hw hl hG hx
  unfold dom9 at hd
  split at hd
  · rename_i nm bung q_st n_st st_st F_st
    split at hd
    · rename_i hst
      have gz_st := hst
      simp only [Option.some.injEq, Prod.mk.injEq] at hd
      obtain ⟨rfl, rfl⟩ := hd
      obtain ⟨hI_st, hp⟩ := hp
      have heq : agsEqv [.agg [.str nm, .int .i64 bung, .sl q_st n_st st_st F_st]] [.agg [.str nm, .int .i64 bung, .sl q_st (eSt.list n_st F_st).length 3 (eSt.F (eSt.list n_st F_st))]] := ⟨⟨rfl, rfl, toE eSt (k := 3) rfl gz_st hI_st, trivial⟩, trivial⟩
      generalize eSt.list n_st F_st = st at *
      exact fokX_fin mixed gw_stable (sl := []) trivial Try.func9 hw hl hG hx heq rfl (t9 nm bung q_st st) (w9 nm bung q_st st hp.1)
    · cases hd
  · cases hd
theorem S9 : SumOK Try.prog G0 gw 9 (fokSm dom9) := fok_sum Try.func9 rfl C9
end Go.Ga
end

section
set_option linter.unusedVariables false
set_option linter.unusedSimpArgs false
set_option maxRecDepth 100000
namespace Go.Ga
open Go.Gd
open Go.V Go.Proofs
open Go.RowKit (Below)
open Go.Bl (rdI dI rI rB eI range_wp wrap_id)
open Go.Bl.M (within unl isName first)
theorem scan_from {bung : Int} {st : List St} {n k : Nat} (h : k < n) : M.scanC bung st (n - k) k = cond (!within (st.getD k dS).at_ 0 3000) 2 (cond (!within (st.getD k dS).inn 10 bung) 2 (cond (!within (st.getD k dS).out 10 bung) 2 (cond (decide ((st.getD k dS).inn > (st.getD k dS).out)) 9 (cond (decide (k > 0) && decide ((st.getD k dS).at_ ≤ (st.getD (k - 1) dS).at_)) 9 (M.scanC bung st (n - (k + 1)) (k + 1)))))) := by
  rw [show n - k = (n - (k + 1)) + 1 by omega]
  rfl
def bd6 (bung : Int) (st : List St) (x : Int) : T ((Int × PUnit.{1}) ⊕ List Ar) := T.br (decide (x < (st.length : Int))) (T.needs [0 ≤ x, x < (st.length : Int)] (T.br (!within (st.getD x.toNat dS).at_ 0 3000) (T.ret (Sum.inr [rI 2])) (T.br (!within (st.getD x.toNat dS).inn 10 bung) (T.ret (Sum.inr [rI 2])) (T.br (!within (st.getD x.toNat dS).out 10 bung) (T.ret (Sum.inr [rI 2])) (T.br (decide ((st.getD x.toNat dS).inn > (st.getD x.toNat dS).out)) (T.need ((decide ((st.getD x.toNat dS).inn > (st.getD x.toNat dS).out)) = true) (T.ret (Sum.inr [rI 9]))) (T.br (decide (x > 0)) (T.needs [(decide ((st.getD x.toNat dS).inn > (st.getD x.toNat dS).out)) = false, decide (x > 0) = true, 0 ≤ w64 (x - 1), w64 (x - 1) < (st.length : Int)] (T.br (decide ((st.getD x.toNat dS).at_ ≤ (st.getD (w64 (x - 1)).toNat dS).at_)) (T.ret (Sum.inr [rI 9])) (T.ret (Sum.inl (w64 (x + 1), PUnit.unit))))) (T.needs [(decide ((st.getD x.toNat dS).inn > (st.getD x.toNat dS).out)) = false, decide (x > 0) = false] (T.ret (Sum.inl (w64 (x + 1), PUnit.unit)))))))))) (T.ret (Sum.inr [rI 0]))
theorem w6i (bung : Int) (st : List St) (hl : st.length ≤ 1000) : (T.loop (Int × PUnit) ((0 : Int), PUnit.unit) fun x => bd6 bung st x.1).wp (fun zz => rsEqv zz [rI (M.scanC bung st st.length 0)]) := by
  refine range_wp (n := st.length) (fun k _ => M.scanC bung st (st.length - k) k = M.scanC bung st st.length 0) rfl fun k u hk hI => ?_
  show T.wp (bd6 bung st (k : Int)) _
  unfold bd6
  simp only [Int.toNat_natCast]
  refine ⟨fun hb => ?_, fun hb => ?_⟩
  · have hlt : (k : Int) < st.length := of_decide_eq_true hb
    have hk1 : k < st.length := by omega
    have hs := scan_from (bung := bung) (st := st) hk1
    rw [hI] at hs
    have hw : w64 ((k : Int) + 1) = ((k + 1 : Nat) : Int) := w64_s (by omega)
    refine ⟨by omega, hlt, fun e1 => ?_, fun e1 => ⟨fun e2 => ?_, fun e2 => ⟨fun e3 => ?_, fun e3 => ⟨fun e4 => ⟨e4, ?_⟩, fun e4 => ⟨fun e5 => ⟨e4, e5, ?_⟩, fun e5 => ⟨e4, e5, hk1, hw, ?_⟩⟩⟩⟩⟩⟩
    · rw [hs, e1]; exact rsEqv_refl _
    · rw [hs, e1, e2]; exact rsEqv_refl _
    · rw [hs, e1, e2, e3]; exact rsEqv_refl _
    · rw [hs, e1, e2, e3, e4]; exact rsEqv_refl _
    · have h0 : (k : Int) > 0 := of_decide_eq_true e5
      have hp : w64 ((k : Int) - 1) = ((k - 1 : Nat) : Int) := by rw [w64_id (by omega) (by omega)]; omega
      rw [hp]
      simp only [Int.toNat_natCast]
      rw [e1, e2, e3, e4, decide_eq_true (show k > 0 by omega), Bool.true_and] at hs
      refine ⟨by omega, by omega, fun e6 => ?_, fun e6 => ⟨hk1, hw, ?_⟩⟩
      · rw [hs, e6]; exact rsEqv_refl _
      · rw [hs, e6]; rfl
    · have h0 : ¬ (k : Int) > 0 := of_decide_eq_false e5
      rw [e1, e2, e3, e4, decide_eq_false (show ¬ k > 0 by omega), Bool.false_and] at hs
      rw [hs]; rfl
  · have hge : ¬ (k : Int) < st.length := of_decide_eq_false hb
    have e : st.length - k = 0 := by omega
    rw [e] at hI
    rw [← hI]; exact rsEqv_refl _
theorem t6 (nm : ByteArray) (bung : Int) (q_st : Bool) (st : List St) : runFnX Try.prog G0 (lookS [v10, Go.Bl.v105]) (fun _ => [(10, [.slot 4 (.int .i64)], none)]) [18] 1 60 4 6 Try.f6 [.agg [.str nm, dI bung, .sl q_st st.length 3 (eSt.F st)]] = T.need (nm.size ≤ 1000000) (T.br (!isName nm) (T.ret [rI 4]) (T.br (!within bung 10 800) (T.ret [rI 2]) (T.br (decide ((st.length : Int) < 2)) (T.ret [rI 10]) (T.br (decide ((st.length : Int) > 12)) (T.ret [rI 8]) (T.loop (Int × PUnit) ((0 : Int), PUnit.unit) fun x => bd6 bung st x.1))))) := by kernel_rfl
theorem w6 (nm : ByteArray) (bung : Int) (q_st : Bool) (st : List St) (hs : nm.size ≤ 1000000) : (T.need (nm.size ≤ 1000000) (T.br (!isName nm) (T.ret [rI 4]) (T.br (!within bung 10 800) (T.ret [rI 2]) (T.br (decide ((st.length : Int) < 2)) (T.ret [rI 10]) (T.br (decide ((st.length : Int) > 12)) (T.ret [rI 8]) (T.loop (Int × PUnit) ((0 : Int), PUnit.unit) fun x => bd6 bung st x.1)))))).wp (fun zz => rsEqv zz [rI (M.ckErr nm bung st)]) := by
  unfold M.ckErr
  refine ⟨hs, fun e1 => ?_, fun e1 => ⟨fun e2 => ?_, fun e2 => ⟨fun e3 => ?_, fun e3 => ⟨fun e4 => ?_, fun e4 => ?_⟩⟩⟩⟩
  · cases e : isName nm with
    | true => rw [e] at e1; cases e1
    | false => exact rsEqv_refl _
  all_goals
    have e1 : isName nm = true := by
      cases e : isName nm with
      | true => rfl
      | false => rw [e] at e1; cases e1
    rw [e1]
  · cases e : within bung 10 800 with
    | true => rw [e] at e2; cases e2
    | false => exact rsEqv_refl _
  all_goals
    have e2 : within bung 10 800 = true := by
      cases e : within bung 10 800 with
      | true => rfl
      | false => rw [e] at e2; cases e2
    rw [e2]
  · rw [e3]; exact rsEqv_refl _
  · rw [e3, e4]; exact rsEqv_refl _
  · rw [e3, e4]
    have := of_decide_eq_false e4
    exact w6i bung st (by omega)
def dom6 : DomF
  | [.agg [.str nm, .int .i64 bung, .sl q_st n_st st_st F_st]] => (match (Nat.beq st_st 3 || Nat.beq n_st 0) with
    | true => some ([eSt.Is n_st F_st, nm.size ≤ 1000000], [rI (M.ckErr nm bung (eSt.list n_st F_st))])
    | _ => none)
  | _ => none
def v6 : Nat × Sm := (6, fokSm dom6)
theorem C6 : FOK Try.prog G0 gw 6 dom6 := by
  intro ags p r hd hp κ w xs hw hl hG hx
  unfold dom6 at hd
  split at hd
  · rename_i nm bung q_st n_st st_st F_st
    split at hd
    · rename_i hst
      have gz_st := hst
      simp only [Option.some.injEq, Prod.mk.injEq] at hd
      obtain ⟨rfl, rfl⟩ := hd
      obtain ⟨hI_st, hp⟩ := hp
      have heq : agsEqv [.agg [.str nm, .int .i64 bung, .sl q_st n_st st_st F_st]] [.agg [.str nm, .int .i64 bung, .sl q_st (eSt.list n_st F_st).length 3 (eSt.F (eSt.list n_st F_st))]] := ⟨⟨rfl, rfl, toE eSt (k := 3) rfl gz_st hI_st, trivial⟩, trivial⟩
      generalize eSt.list n_st F_st = st at *
      exact fokX_fin mixed gw_stable (sl := [v10, Go.Bl.v105]) ⟨S10, Go.Bl.S105, trivial⟩ Try.func6 hw hl hG hx heq rfl (t6 nm bung q_st st) (w6 nm bung q_st st hp.1)
    · cases hd
  · cases hd
theorem S6 : SumOK Try.prog G0 gw 6 (fokSm dom6) := fok_sum Try.func6 rfl C6
def in37 (st : List St) (x e1 : Int) : T ((Int × PUnit.{1}) ⊕ List Ar) := T.br (x == 0) (T.need ((x == 0) = true) (T.br (decide ((st.getD x.toNat dS).inn ≤ (st.getD x.toNat dS).out)) (T.need ((decide ((st.getD x.toNat dS).inn ≤ (st.getD x.toNat dS).out)) = true) (T.br (first [e1, 0] != 0) (T.ret (Sum.inr [rI x, rI (first [e1, 0])])) (T.ret (Sum.inl (w64 (x + 1), PUnit.unit))))) (T.need ((decide ((st.getD x.toNat dS).inn ≤ (st.getD x.toNat dS).out)) = false) (T.br (first [e1, 9] != 0) (T.ret (Sum.inr [rI x, rI (first [e1, 9])])) (T.ret (Sum.inl (w64 (x + 1), PUnit.unit))))))) (T.needs [(x == 0) = false, 0 ≤ pv x, pv x < (st.length : Int)] (T.br (decide ((st.getD x.toNat dS).inn ≤ (st.getD x.toNat dS).out)) (T.need ((decide ((st.getD x.toNat dS).inn ≤ (st.getD x.toNat dS).out)) = true) (T.br (first [e1, unl (decide ((st.getD x.toNat dS).at_ > (st.getD (pv x).toNat dS).at_)) 9] != 0) (T.ret (Sum.inr [rI x, rI (first [e1, unl (decide ((st.getD x.toNat dS).at_ > (st.getD (pv x).toNat dS).at_)) 9])])) (T.ret (Sum.inl (w64 (x + 1), PUnit.unit))))) (T.need ((decide ((st.getD x.toNat dS).inn ≤ (st.getD x.toNat dS).out)) = false) (T.br (first [e1, 9] != 0) (T.ret (Sum.inr [rI x, rI (first [e1, 9])])) (T.ret (Sum.inl (w64 (x + 1), PUnit.unit)))))))
def bd37 (bung : Int) (st : List St) (x : Int) : T ((Int × PUnit.{1}) ⊕ List Ar) := T.br (decide (x < (st.length : Int))) (T.needs [0 ≤ x, x < (st.length : Int)] (T.br (within (st.getD x.toNat dS).at_ 0 3000) (T.br (within (st.getD x.toNat dS).inn 10 bung) (in37 st x (unl (within (st.getD x.toNat dS).out 10 bung) 2)) (in37 st x 2)) (in37 st x 2))) (T.ret (Sum.inr [rI 0, rI 0]))
theorem t37 (nm : ByteArray) (bung : Int) (q_st : Bool) (st : List St) : runFnX Try.prog G0 (lookS [Go.Bl.v104, Go.Bl.v80, Go.Bl.v64, v34, Go.Bl.v102]) (fun _ => [(6, [.slot 36 (.int .i64)], none)]) [] 0 60 3 37 Try.f37 [.agg [.str nm, dI bung, .sl q_st st.length 3 (eSt.F st)]] = T.need (nm.size ≤ 1000000) (T.br (first [unl (isName nm) 4, unl (within bung 10 800) 2, unl (decide ((st.length : Int) > 1)) 10, unl (decide ((st.length : Int) ≤ 12)) 8] != 0) (T.ret [rI 0, rI (first [unl (isName nm) 4, unl (within bung 10 800) 2, unl (decide ((st.length : Int) > 1)) 10, unl (decide ((st.length : Int) ≤ 12)) 8])]) (T.loop (Int × PUnit) ((0 : Int), PUnit.unit) fun x => bd37 bung st x.1)) := by kernel_rfl
theorem w37 (nm : ByteArray) (bung : Int) (q_st : Bool) (st : List St) (h : M.OkC nm bung st) : (T.need (nm.size ≤ 1000000) (T.br (first [unl (isName nm) 4, unl (within bung 10 800) 2, unl (decide ((st.length : Int) > 1)) 10, unl (decide ((st.length : Int) ≤ 12)) 8] != 0) (T.ret [rI 0, rI (first [unl (isName nm) 4, unl (within bung 10 800) 2, unl (decide ((st.length : Int) > 1)) 10, unl (decide ((st.length : Int) ≤ 12)) 8])]) (T.loop (Int × PUnit) ((0 : Int), PUnit.unit) fun x => bd37 bung st x.1))).wp (fun zz => rsEqv zz [rI 0, rI 0]) := by
  have hn0 := h.n0
  have hn1 := h.n1
  have e : first [unl (isName nm) 4, unl (within bung 10 800) 2, unl (decide ((st.length : Int) > 1)) 10, unl (decide ((st.length : Int) ≤ 12)) 8] = 0 := by
    rw [h.nm, within_yes h.b0 h.b1, decide_eq_true (show (st.length : Int) > 1 by omega), decide_eq_true (show (st.length : Int) ≤ 12 by omega)]; rfl
  rw [e]
  refine ⟨h.sz, fun e => absurd e (by decide), fun _ => ?_⟩
  refine range_wp (n := st.length) (fun _ _ => True) trivial fun k u hk _ => ?_
  show T.wp (bd37 bung st (k : Int)) _
  unfold bd37
  refine ⟨fun hb => ?_, fun _ => rsEqv_refl _⟩
  have hlt : (k : Int) < st.length := of_decide_eq_true hb
  have hk1 : k < st.length := by omega
  have hw : w64 ((k : Int) + 1) = ((k + 1 : Nat) : Int) := w64_s (by omega)
  obtain ⟨⟨g1, g2⟩, ⟨g3, g4, g5⟩, g6⟩ := h.s k hk1
  unfold in37
  simp only [Int.toNat_natCast]
  rw [within_yes g1 g2, within_yes (n := (st.getD k dS).inn) g3 (by omega), within_yes (n := (st.getD k dS).out) (by omega) g5, decide_eq_true g4]
  refine ⟨by omega, hlt, fun _ => ⟨fun _ => ⟨fun h0 => ⟨h0, fun _ => ⟨by trivial, fun e => absurd e (by decide), fun _ => ⟨hk1, hw, trivial⟩⟩, fun e => absurd e (by decide)⟩, fun h0 => ?_⟩, fun e => absurd e (by decide)⟩, fun e => absurd e (by decide)⟩
  have hk0 : 0 < k := by
    rcases Nat.eq_zero_or_pos k with e | e
    · subst e; exact absurd h0 (by decide)
    · exact e
  rw [pv_eq hk0 (by omega)]
  simp only [Int.toNat_natCast]
  rw [decide_eq_true (show (st.getD k dS).at_ > (st.getD (k - 1) dS).at_ from g6 hk0)]
  exact ⟨h0, by omega, by omega, fun _ => ⟨by trivial, fun e => absurd e (by decide), fun _ => ⟨hk1, hw, trivial⟩⟩, fun e => absurd e (by decide)⟩
def dom37 : DomF
  | [.agg [.str nm, .int .i64 bung, .sl q_st n_st st_st F_st]] => (match (Nat.beq st_st 3 || Nat.beq n_st 0) with
    | true => some ([eSt.Is n_st F_st, M.OkC nm bung (eSt.list n_st F_st)], [rI 0, rI 0])
    | _ => none)
  | _ => none
def v37 : Nat × Sm := (37, fokSm dom37)
theorem C37 : FOK Try.prog G0 gw 37 dom37 := by
  intro ags p r hd hp κ w xs hw hl hG hx
  unfold dom37 at hd
  split at hd
  · rename_i nm bung q_st n_st st_st F_st
    split at hd
    · rename_i hst
      have gz_st := hst
      simp only [Option.some.injEq, Prod.mk.injEq] at hd
      obtain ⟨rfl, rfl⟩ := hd
      obtain ⟨hI_st, hp⟩ := hp
      have heq : agsEqv [.agg [.str nm, .int .i64 bung, .sl q_st n_st st_st F_st]] [.agg [.str nm, .int .i64 bung, .sl q_st (eSt.list n_st F_st).length 3 (eSt.F (eSt.list n_st F_st))]] := ⟨⟨rfl, rfl, toE eSt (k := 3) rfl gz_st hI_st, trivial⟩, trivial⟩
      generalize eSt.list n_st F_st = st at *
      exact fokX_fin mixed gw_stable (sl := [Go.Bl.v104, Go.Bl.v80, Go.Bl.v64, v34, Go.Bl.v102]) ⟨Go.Bl.S104, Go.Bl.S80, Go.Bl.S64, S34, Go.Bl.S102, trivial⟩ Try.func37 hw hl hG hx heq rfl (t37 nm bung q_st st) (w37 nm bung q_st st hp.1)
    · cases hd
  · cases hd
theorem S37 : SumOK Try.prog G0 gw 37 (fokSm dom37) := fok_sum Try.func37 rfl C37
end Go.Ga
end

section
set_option linter.unusedVariables false
set_option linter.unusedSimpArgs false
set_option maxRecDepth 100000
namespace Go.Ga
open Go.Gd
open Go.V Go.Proofs
open Go.RowKit (Below)
open Go.Bl (rdI dI rI rB eI range_wp wrap_id)
open Go.Bl.M (within unl isName first)
theorem t19 (nm : ByteArray) (bung : Int) (q_st : Bool) (st : List St) : runFnX Try.prog G0 (lookS [v37]) (fun _ => []) [] 0 60 3 19 Try.f19 [.agg [.str nm, dI bung, .sl q_st st.length 3 (eSt.F st)]] = T.needs [eSt.Is st.length (eSt.F st), M.OkC nm bung (eSt.list st.length (eSt.F st))] (T.ret [.agg [.str nm, dI bung, .sl q_st st.length 3 (eSt.F st)], rI 0]) := by kernel_rfl
theorem w19 (nm : ByteArray) (bung : Int) (q_st : Bool) (st : List St) (h : M.OkC nm bung st) : (T.needs [eSt.Is st.length (eSt.F st), M.OkC nm bung (eSt.list st.length (eSt.F st))] (T.ret [.agg [.str nm, dI bung, .sl q_st st.length 3 (eSt.F st)], rI 0])).wp (fun zz => rsEqv zz [.agg [.str nm, dI bung, .sl q_st st.length 3 (eSt.F st)], rI 0]) := by
  rw [Enc.list_F]
  exact ⟨Enc.is_F _ _ _, h, rsEqv_refl _⟩
def dom19 : DomF
  | [.agg [.str nm, .int .i64 bung, .sl q_st n_st st_st F_st]] => (match (Nat.beq st_st 3 || Nat.beq n_st 0) with
    | true => some ([eSt.Is n_st F_st, M.OkC nm bung (eSt.list n_st F_st)], [.agg [.str nm, dI bung, .sl q_st (eSt.list n_st F_st).length 3 (eSt.F (eSt.list n_st F_st))], rI 0])
    | _ => none)
  | _ => none
def v19 : Nat × Sm := (19, fokSm dom19)
theorem C19 : FOK Try.prog G0 gw 19 dom19 := by
  intro ags p r hd hp κ w xs hw hl hG hx
  unfold dom19 at hd
  split at hd
  · rename_i nm bung q_st n_st st_st F_st
    split at hd
    · rename_i hst
      have gz_st := hst
      simp only [Option.some.injEq, Prod.mk.injEq] at hd
      obtain ⟨rfl, rfl⟩ := hd
      obtain ⟨hI_st, hp⟩ := hp
      have heq : agsEqv [.agg [.str nm, .int .i64 bung, .sl q_st n_st st_st F_st]] [.agg [.str nm, .int .i64 bung, .sl q_st (eSt.list n_st F_st).length 3 (eSt.F (eSt.list n_st F_st))]] := ⟨⟨rfl, rfl, toE eSt (k := 3) rfl gz_st hI_st, trivial⟩, trivial⟩
      generalize eSt.list n_st F_st = st at *
      exact fokX_fin mixed gw_stable (sl := [v37]) ⟨S37, trivial⟩ Try.func19 hw hl hG hx heq rfl (t19 nm bung q_st st) (w19 nm bung q_st st hp.1)
    · cases hd
  · cases hd
theorem S19 : SumOK Try.prog G0 gw 19 (fokSm dom19) := fok_sum Try.func19 rfl C19
namespace M
def inr (st : List St) (k : Nat) : Int := if (st.getD (1 + k) dS).inn < (st.getD k dS).inn then (st.getD (1 + k) dS).inn else (st.getD k dS).inn
def our (st : List St) (k : Nat) : Int := if (st.getD (1 + k) dS).out > (st.getD k dS).out then (st.getD (1 + k) dS).out else (st.getD k dS).out
def vLo (st : List St) (v : Int) : Nat → Int
  | 0 => 0
  | k + 1 => vLo st v k + ((st.getD (1 + k) dS).at_ - (st.getD k dS).at_) * arLo (inr st k) (cnt (inr st k) v)
def vHi (st : List St) (v : Int) : Nat → Int
  | 0 => 0
  | k + 1 => vHi st v k + ((st.getD (1 + k) dS).at_ - (st.getD k dS).at_) * arHi (our st k) (cnt (our st k) v)
def toLo (bung : Int) (st : List St) (dip : Int) : Int := flo (vLo st (dip - bung) (st.length - 1)) 100000
def toHi (bung : Int) (st : List St) (dip : Int) : Int := cei (vHi st (dip - bung) (st.length - 1)) 100000
end M
theorem rad_ok {nm : ByteArray} {bung : Int} {st : List St} (h : M.OkC nm bung st) (hb : bung ≤ 60) {k : Nat} (hk : 1 + k < st.length) : 10 ≤ M.inr st k ∧ M.inr st k ≤ M.our st k ∧ M.our st k ≤ 60 ∧ 0 ≤ (st.getD (1 + k) dS).at_ - (st.getD k dS).at_ ∧ (st.getD (1 + k) dS).at_ - (st.getD k dS).at_ ≤ 3000 := by
  obtain ⟨a1, a2, a3⟩ := h.s k (by omega)
  obtain ⟨b1, b2, b3⟩ := h.s (1 + k) hk
  have b3 := b3 (by omega)
  rw [show 1 + k - 1 = k by omega] at b3
  unfold M.inr M.our
  refine ⟨?_, ?_, ?_, by omega, by omega⟩
  · split <;> omega
  · split <;> split <;> omega
  · split <;> omega
theorem part_bnd {a x : Int} (h0 : 0 ≤ a) (h1 : a ≤ 3000) (h2 : 0 ≤ x) (h3 : x ≤ 15000) : 0 ≤ a * x ∧ a * x ≤ 45000000 := by
  refine ⟨Int.mul_nonneg h0 h2, ?_⟩
  have := Int.mul_le_mul h1 h3 h2 (by omega)
  omega
theorem v_bnd {nm : ByteArray} {bung : Int} {st : List St} (h : M.OkC nm bung st) (hb : bung ≤ 60) (v : Int) : ∀ {k : Nat}, k + 1 ≤ st.length → (0 ≤ M.vLo st v k ∧ M.vLo st v k ≤ 45000000 * (k : Int)) ∧ (0 ≤ M.vHi st v k ∧ M.vHi st v k ≤ 45000000 * (k : Int)) := by
  intro k
  induction k with
  | zero => intro _; exact ⟨⟨Int.le_refl _, by show (0 : Int) ≤ 45000000 * 0; decide⟩, Int.le_refl _, by show (0 : Int) ≤ 45000000 * 0; decide⟩
  | succ k ih =>
    intro hk
    obtain ⟨⟨i1, i2⟩, i3, i4⟩ := ih (by omega)
    obtain ⟨r1, r2, r3, r4, r5⟩ := rad_ok h hb (k := k) (by omega)
    have c1 := cnt_le2 (c := M.inr st k) (v := v) (by omega)
    have c2 := cnt_le2 (c := M.our st k) (v := v) (by omega)
    obtain ⟨a1, a2, _, _⟩ := ar_bnd (c := M.inr st k) (by omega) (by omega) c1
    obtain ⟨_, _, a3, a4⟩ := ar_bnd (c := M.our st k) (by omega) (by omega) c2
    have p1 := part_bnd r4 r5 a1 (by omega)
    have p2 := part_bnd r4 r5 a3 (by omega)
    show (0 ≤ M.vLo st v k + _ ∧ M.vLo st v k + _ ≤ _) ∧ (0 ≤ M.vHi st v k + _ ∧ M.vHi st v k + _ ≤ _)
    omega
theorem t23 (nm : ByteArray) (bung : Int) (q_st : Bool) (st : List St) (dip : Int) : runFnX Try.prog G0 (lookS [v36, v38, v39]) (fun _ => [(3, [.slot 16 (.int .i64), .blk 5 [.int .i64, .int .i64]], none)]) [] 0 60 3 23 Try.f23 [.agg [.str nm, dI bung, .sl q_st st.length 3 (eSt.F st)], .c (dI dip)] = T.needs [(0 : Int) ≤ 1, 1 ≤ (st.length : Int), (st.length : Int) ≤ (st.length : Int)] (T.loop (Int × Int × Int × PUnit) ((0 : Int), (0 : Int), (0 : Int), PUnit.unit) fun (x : Int × Int × Int × PUnit) => T.br (decide (x.1 < ((((st.length : Int) - 1).toNat : Nat) : Int))) (T.needs [0 ≤ x.1, x.1 < ((((st.length : Int) - 1).toNat : Nat) : Int), 0 ≤ x.1, x.1 < (st.length : Int), 0 ≤ (if (st.getD (1 + x.1.toNat) dS).inn < (st.getD x.1.toNat dS).inn then (st.getD (1 + x.1.toNat) dS).inn else (st.getD x.1.toNat dS).inn), (if (st.getD (1 + x.1.toNat) dS).inn < (st.getD x.1.toNat dS).inn then (st.getD (1 + x.1.toNat) dS).inn else (st.getD x.1.toNat dS).inn) ≤ 60, 0 ≤ (if (st.getD (1 + x.1.toNat) dS).out > (st.getD x.1.toNat dS).out then (st.getD (1 + x.1.toNat) dS).out else (st.getD x.1.toNat dS).out), (if (st.getD (1 + x.1.toNat) dS).out > (st.getD x.1.toNat dS).out then (st.getD (1 + x.1.toNat) dS).out else (st.getD x.1.toNat dS).out) ≤ 60] (T.ret (Sum.inl (w64 (x.1 + 1), w64 (x.2.1 + w64 (w64 ((st.getD (1 + x.1.toNat) dS).at_ - (st.getD x.1.toNat dS).at_) * M.arLo (if (st.getD (1 + x.1.toNat) dS).inn < (st.getD x.1.toNat dS).inn then (st.getD (1 + x.1.toNat) dS).inn else (st.getD x.1.toNat dS).inn) (M.cnt (if (st.getD (1 + x.1.toNat) dS).inn < (st.getD x.1.toNat dS).inn then (st.getD (1 + x.1.toNat) dS).inn else (st.getD x.1.toNat dS).inn) (w64 (dip - bung))))), w64 (x.2.2.1 + w64 (w64 ((st.getD (1 + x.1.toNat) dS).at_ - (st.getD x.1.toNat dS).at_) * M.arHi (if (st.getD (1 + x.1.toNat) dS).out > (st.getD x.1.toNat dS).out then (st.getD (1 + x.1.toNat) dS).out else (st.getD x.1.toNat dS).out) (M.cnt (if (st.getD (1 + x.1.toNat) dS).out > (st.getD x.1.toNat dS).out then (st.getD (1 + x.1.toNat) dS).out else (st.getD x.1.toNat dS).out) (w64 (dip - bung))))), PUnit.unit)))) (T.needs [(0 : Int) < 100000, -4000000000000000000 ≤ x.2.1, x.2.1 ≤ 4000000000000000000, (0 : Int) < 100000, -4000000000000000000 ≤ x.2.2.1, x.2.2.1 ≤ 4000000000000000000] (T.ret (Sum.inr [.agg [dI (M.flo x.2.1 100000), dI (M.cei x.2.2.1 100000)]])))) := by kernel_rfl
theorem w23 (nm : ByteArray) (bung : Int) (q_st : Bool) (st : List St) (dip : Int) (h : M.OkC nm bung st) (hb : bung ≤ 60) (hl : st.length ≤ 4) (d0 : 0 ≤ dip) (d1 : dip ≤ 2 * bung) : (T.needs [(0 : Int) ≤ 1, 1 ≤ (st.length : Int), (st.length : Int) ≤ (st.length : Int)] (T.loop (Int × Int × Int × PUnit) ((0 : Int), (0 : Int), (0 : Int), PUnit.unit) fun (x : Int × Int × Int × PUnit) => T.br (decide (x.1 < ((((st.length : Int) - 1).toNat : Nat) : Int))) (T.needs [0 ≤ x.1, x.1 < ((((st.length : Int) - 1).toNat : Nat) : Int), 0 ≤ x.1, x.1 < (st.length : Int), 0 ≤ (if (st.getD (1 + x.1.toNat) dS).inn < (st.getD x.1.toNat dS).inn then (st.getD (1 + x.1.toNat) dS).inn else (st.getD x.1.toNat dS).inn), (if (st.getD (1 + x.1.toNat) dS).inn < (st.getD x.1.toNat dS).inn then (st.getD (1 + x.1.toNat) dS).inn else (st.getD x.1.toNat dS).inn) ≤ 60, 0 ≤ (if (st.getD (1 + x.1.toNat) dS).out > (st.getD x.1.toNat dS).out then (st.getD (1 + x.1.toNat) dS).out else (st.getD x.1.toNat dS).out), (if (st.getD (1 + x.1.toNat) dS).out > (st.getD x.1.toNat dS).out then (st.getD (1 + x.1.toNat) dS).out else (st.getD x.1.toNat dS).out) ≤ 60] (T.ret (Sum.inl (w64 (x.1 + 1), w64 (x.2.1 + w64 (w64 ((st.getD (1 + x.1.toNat) dS).at_ - (st.getD x.1.toNat dS).at_) * M.arLo (if (st.getD (1 + x.1.toNat) dS).inn < (st.getD x.1.toNat dS).inn then (st.getD (1 + x.1.toNat) dS).inn else (st.getD x.1.toNat dS).inn) (M.cnt (if (st.getD (1 + x.1.toNat) dS).inn < (st.getD x.1.toNat dS).inn then (st.getD (1 + x.1.toNat) dS).inn else (st.getD x.1.toNat dS).inn) (w64 (dip - bung))))), w64 (x.2.2.1 + w64 (w64 ((st.getD (1 + x.1.toNat) dS).at_ - (st.getD x.1.toNat dS).at_) * M.arHi (if (st.getD (1 + x.1.toNat) dS).out > (st.getD x.1.toNat dS).out then (st.getD (1 + x.1.toNat) dS).out else (st.getD x.1.toNat dS).out) (M.cnt (if (st.getD (1 + x.1.toNat) dS).out > (st.getD x.1.toNat dS).out then (st.getD (1 + x.1.toNat) dS).out else (st.getD x.1.toNat dS).out) (w64 (dip - bung))))), PUnit.unit)))) (T.needs [(0 : Int) < 100000, -4000000000000000000 ≤ x.2.1, x.2.1 ≤ 4000000000000000000, (0 : Int) < 100000, -4000000000000000000 ≤ x.2.2.1, x.2.2.1 ≤ 4000000000000000000] (T.ret (Sum.inr [.agg [dI (M.flo x.2.1 100000), dI (M.cei x.2.2.1 100000)]]))))).wp (fun zz => rsEqv zz [.agg [dI (M.toLo bung st dip), dI (M.toHi bung st dip)]]) := by
  have n0 := h.n0
  have b0 := h.b0
  have hv : w64 (dip - bung) = dip - bung := w64_id (by omega) (by omega)
  rw [hv, show ((((st.length : Int) - 1).toNat : Nat) : Int) = ((st.length - 1 : Nat) : Int) by omega]
  refine ⟨by decide, by omega, Int.le_refl _, ?_⟩
  refine range_wp (n := st.length - 1) (fun k s => s.1 = M.vLo st (dip - bung) k ∧ s.2.1 = M.vHi st (dip - bung) k) ⟨rfl, rfl⟩ ?_
  rintro k ⟨s, z, u⟩ hk ⟨i1, i2⟩
  have i1 : s = M.vLo st (dip - bung) k := i1
  have i2 : z = M.vHi st (dip - bung) k := i2
  subst i1 i2
  obtain ⟨⟨v1, v2⟩, v3, v4⟩ := v_bnd h hb (dip - bung) (k := k) (by omega)
  refine ⟨fun hb1 => ?_, fun hb1 => ?_⟩
  · have hlt : (k : Int) < ((st.length - 1 : Nat) : Int) := of_decide_eq_true hb1
    have hk1 : k < st.length - 1 := by omega
    obtain ⟨r1, r2, r3, r4, r5⟩ := rad_ok h hb (k := k) (by omega)
    obtain ⟨⟨t1, t2⟩, t3, t4⟩ := v_bnd h hb (dip - bung) (k := k + 1) (by omega)
    have c1 := cnt_le2 (c := M.inr st k) (v := dip - bung) (by omega)
    have c2 := cnt_le2 (c := M.our st k) (v := dip - bung) (by omega)
    obtain ⟨a1, a2, _, _⟩ := ar_bnd (c := M.inr st k) (by omega) (by omega) c1
    obtain ⟨_, _, a3, a4⟩ := ar_bnd (c := M.our st k) (by omega) (by omega) c2
    have p1 := part_bnd r4 r5 a1 (by omega)
    have p2 := part_bnd r4 r5 a3 (by omega)
    have hd : w64 ((st.getD (1 + k) dS).at_ - (st.getD k dS).at_) = (st.getD (1 + k) dS).at_ - (st.getD k dS).at_ := w64_id (by omega) (by omega)
    refine ⟨by show (0 : Int) ≤ k; omega, hlt, by show (0 : Int) ≤ k; omega, by show (k : Int) < st.length; omega, by show 0 ≤ M.inr st k; omega, by show M.inr st k ≤ 60; omega, by show 0 ≤ M.our st k; omega, by show M.our st k ≤ 60; omega, hk1, w64_s (by omega), ?_, ?_⟩
    · show w64 (M.vLo st (dip - bung) k + w64 (w64 ((st.getD (1 + k) dS).at_ - (st.getD k dS).at_) * M.arLo (M.inr st k) (M.cnt (M.inr st k) (dip - bung)))) = M.vLo st (dip - bung) k + ((st.getD (1 + k) dS).at_ - (st.getD k dS).at_) * M.arLo (M.inr st k) (M.cnt (M.inr st k) (dip - bung))
      rw [hd, w64_id (n := _ * _) (by omega) (by omega), w64_id (by omega) (by omega)]
    · show w64 (M.vHi st (dip - bung) k + w64 (w64 ((st.getD (1 + k) dS).at_ - (st.getD k dS).at_) * M.arHi (M.our st k) (M.cnt (M.our st k) (dip - bung)))) = M.vHi st (dip - bung) k + ((st.getD (1 + k) dS).at_ - (st.getD k dS).at_) * M.arHi (M.our st k) (M.cnt (M.our st k) (dip - bung))
      rw [hd, w64_id (n := _ * _) (by omega) (by omega), w64_id (by omega) (by omega)]
  · have hge : ¬ (k : Int) < ((st.length - 1 : Nat) : Int) := of_decide_eq_false hb1
    obtain rfl : k = st.length - 1 := by omega
    exact ⟨by decide, by show _ ≤ M.vLo st (dip - bung) (st.length - 1); omega, by show M.vLo st (dip - bung) (st.length - 1) ≤ _; omega, by decide, by show _ ≤ M.vHi st (dip - bung) (st.length - 1); omega, by show M.vHi st (dip - bung) (st.length - 1) ≤ _; omega, rsEqv_refl _⟩
def dom23 : DomF
  | [.agg [.str nm, .int .i64 bung, .sl q_st n_st st_st F_st], .c (.int .i64 dip)] => (match (Nat.beq st_st 3 || Nat.beq n_st 0) with
    | true => some ([eSt.Is n_st F_st, M.OkC nm bung (eSt.list n_st F_st), bung ≤ 60, (eSt.list n_st F_st).length ≤ 4, 0 ≤ dip, dip ≤ 2 * bung], [.agg [dI (M.toLo bung (eSt.list n_st F_st) dip), dI (M.toHi bung (eSt.list n_st F_st) dip)]])
    | _ => none)
  | _ => none
def v23 : Nat × Sm := (23, fokSm dom23)
theorem C23 : FOK Try.prog G0 gw 23 dom23 := by
  intro ags p r hd hp κ w xs hw hl hG hx
  unfold dom23 at hd
  split at hd
  · rename_i nm bung q_st n_st st_st F_st dip
    split at hd
    · rename_i hst
      have gz_st := hst
      simp only [Option.some.injEq, Prod.mk.injEq] at hd
      obtain ⟨rfl, rfl⟩ := hd
      obtain ⟨hI_st, hp⟩ := hp
      have heq : agsEqv [.agg [.str nm, .int .i64 bung, .sl q_st n_st st_st F_st], .c (.int .i64 dip)] [.agg [.str nm, .int .i64 bung, .sl q_st (eSt.list n_st F_st).length 3 (eSt.F (eSt.list n_st F_st))], .c (.int .i64 dip)] := ⟨⟨rfl, rfl, toE eSt (k := 3) rfl gz_st hI_st, trivial⟩, rfl, trivial⟩
      generalize eSt.list n_st F_st = st at *
      exact fokX_fin mixed gw_stable (sl := [v36, v38, v39]) ⟨S36, S38, S39, trivial⟩ Try.func23 hw hl hG hx heq rfl (t23 nm bung q_st st dip) (w23 nm bung q_st st dip hp.1 hp.2.1 hp.2.2.1 hp.2.2.2.1 hp.2.2.2.2.1)
    · cases hd
  · cases hd
theorem S23 : SumOK Try.prog G0 gw 23 (fokSm dom23) := fok_sum Try.func23 rfl C23
end Go.Ga
end

section
set_option linter.unusedVariables false
set_option linter.unusedSimpArgs false
set_option maxRecDepth 100000
namespace Go.Ga
open Go.Gd
open Go.V Go.Proofs
open Go.RowKit (Below)
open Go.Bl (rdI dI rI rB eI range_wp wrap_id)
open Go.Bl.M (within unl isName first)
namespace M
def dLo (dip wr : Int) : Int := if dip - wr > 0 then dip - wr else 0
def dHi (bung dip wr : Int) : Int := if dip + wr < 2 * bung then dip + wr else 2 * bung
def big (bung : Int) (st : List St) (dip wr : Int) : Bool := decide (toHi bung st (dHi bung dip wr) > 100000)
end M
theorem t8 (nm : ByteArray) (bung : Int) (q_st : Bool) (st : List St) (dip : Int) : runFnX Try.prog G0 (lookS [v19, v22, Go.Bl.v80, Go.Bl.v64, v23]) (fun _ => []) [] 0 60 3 8 Try.f8 [.agg [.str nm, dI bung, .sl q_st st.length 3 (eSt.F st)], .c (dI dip)] = T.needs [eSt.Is st.length (eSt.F st), M.OkC nm bung (eSt.list st.length (eSt.F st))] (T.br (first [0, unl (within dip 0 (w64 (2 * bung))) 2] != 0) (T.ret [.agg [dI 0, dI 0], rI (first [0, unl (within dip 0 (w64 (2 * bung))) 2])]) (T.needs [eSt.Is (eSt.list st.length (eSt.F st)).length (eSt.F (eSt.list st.length (eSt.F st))), M.OkC nm bung (eSt.list (eSt.list st.length (eSt.F st)).length (eSt.F (eSt.list st.length (eSt.F st)))), bung ≤ 60, (eSt.list (eSt.list st.length (eSt.F st)).length (eSt.F (eSt.list st.length (eSt.F st)))).length ≤ 4, 0 ≤ dip, dip ≤ 2 * bung] (T.ret [.agg [dI (M.toLo bung (eSt.list (eSt.list st.length (eSt.F st)).length (eSt.F (eSt.list st.length (eSt.F st)))) dip), dI (M.toHi bung (eSt.list (eSt.list st.length (eSt.F st)).length (eSt.F (eSt.list st.length (eSt.F st)))) dip)], rI 0]))) := by kernel_rfl
theorem w8 (nm : ByteArray) (bung : Int) (q_st : Bool) (st : List St) (dip : Int) (h : M.OkC nm bung st) (hb : bung ≤ 60) (hl : st.length ≤ 4) (d0 : 0 ≤ dip) (d1 : dip ≤ 2 * bung) : (T.needs [eSt.Is st.length (eSt.F st), M.OkC nm bung (eSt.list st.length (eSt.F st))] (T.br (first [0, unl (within dip 0 (w64 (2 * bung))) 2] != 0) (T.ret [.agg [dI 0, dI 0], rI (first [0, unl (within dip 0 (w64 (2 * bung))) 2])]) (T.needs [eSt.Is (eSt.list st.length (eSt.F st)).length (eSt.F (eSt.list st.length (eSt.F st))), M.OkC nm bung (eSt.list (eSt.list st.length (eSt.F st)).length (eSt.F (eSt.list st.length (eSt.F st)))), bung ≤ 60, (eSt.list (eSt.list st.length (eSt.F st)).length (eSt.F (eSt.list st.length (eSt.F st)))).length ≤ 4, 0 ≤ dip, dip ≤ 2 * bung] (T.ret [.agg [dI (M.toLo bung (eSt.list (eSt.list st.length (eSt.F st)).length (eSt.F (eSt.list st.length (eSt.F st)))) dip), dI (M.toHi bung (eSt.list (eSt.list st.length (eSt.F st)).length (eSt.F (eSt.list st.length (eSt.F st)))) dip)], rI 0])))).wp (fun zz => rsEqv zz [.agg [dI (M.toLo bung st dip), dI (M.toHi bung st dip)], rI 0]) := by
  have b0 := h.b0
  simp only [Enc.list_F]
  rw [show w64 (2 * bung) = 2 * bung from w64_id (by omega) (by omega), within_yes d0 d1]
  exact ⟨Enc.is_F _ _ _, h, fun e => absurd e (by decide), fun _ => ⟨Enc.is_F _ _ _, h, hb, hl, d0, d1, rsEqv_refl _⟩⟩
def dom8 : DomF
  | [.agg [.str nm, .int .i64 bung, .sl q_st n_st st_st F_st], .c (.int .i64 dip)] => (match (Nat.beq st_st 3 || Nat.beq n_st 0) with
    | true => some ([eSt.Is n_st F_st, M.OkC nm bung (eSt.list n_st F_st), bung ≤ 60, (eSt.list n_st F_st).length ≤ 4, 0 ≤ dip, dip ≤ 2 * bung], [.agg [dI (M.toLo bung (eSt.list n_st F_st) dip), dI (M.toHi bung (eSt.list n_st F_st) dip)], rI 0])
    | _ => none)
  | _ => none
def v8 : Nat × Sm := (8, fokSm dom8)
theorem C8 : FOK Try.prog G0 gw 8 dom8 := by
  intro ags p r hd hp κ w xs hw hl hG hx
  unfold dom8 at hd
  split at hd
  · rename_i nm bung q_st n_st st_st F_st dip
    split at hd
    · rename_i hst
      have gz_st := hst
      simp only [Option.some.injEq, Prod.mk.injEq] at hd
      obtain ⟨rfl, rfl⟩ := hd
      obtain ⟨hI_st, hp⟩ := hp
      have heq : agsEqv [.agg [.str nm, .int .i64 bung, .sl q_st n_st st_st F_st], .c (.int .i64 dip)] [.agg [.str nm, .int .i64 bung, .sl q_st (eSt.list n_st F_st).length 3 (eSt.F (eSt.list n_st F_st))], .c (.int .i64 dip)] := ⟨⟨rfl, rfl, toE eSt (k := 3) rfl gz_st hI_st, trivial⟩, rfl, trivial⟩
      generalize eSt.list n_st F_st = st at *
      exact fokX_fin mixed gw_stable (sl := [v19, v22, Go.Bl.v80, Go.Bl.v64, v23]) ⟨S19, S22, Go.Bl.S80, Go.Bl.S64, S23, trivial⟩ Try.func8 hw hl hG hx heq rfl (t8 nm bung q_st st dip) (w8 nm bung q_st st dip hp.1 hp.2.1 hp.2.2.1 hp.2.2.2.1 hp.2.2.2.2.1)
    · cases hd
  · cases hd
theorem S8 : SumOK Try.prog G0 gw 8 (fokSm dom8) := fok_sum Try.func8 rfl C8
def en11 (nm : ByteArray) (bung : Int) (st : List St) (day dip wr : Int) : T (List Ar) := T.needs [eSt.Is (eSt.list st.length (eSt.F st)).length (eSt.F (eSt.list st.length (eSt.F st))), M.OkC nm bung (eSt.list (eSt.list st.length (eSt.F st)).length (eSt.F (eSt.list st.length (eSt.F st)))), bung ≤ 60, (eSt.list (eSt.list st.length (eSt.F st)).length (eSt.F (eSt.list st.length (eSt.F st)))).length ≤ 4, 0 ≤ (if w64 (dip - wr) > 0 then w64 (dip - wr) else 0), (if w64 (dip - wr) > 0 then w64 (dip - wr) else 0) ≤ 2 * bung, eSt.Is (eSt.list st.length (eSt.F st)).length (eSt.F (eSt.list st.length (eSt.F st))), M.OkC nm bung (eSt.list (eSt.list st.length (eSt.F st)).length (eSt.F (eSt.list st.length (eSt.F st)))), bung ≤ 60, (eSt.list (eSt.list st.length (eSt.F st)).length (eSt.F (eSt.list st.length (eSt.F st)))).length ≤ 4, 0 ≤ (if w64 (dip + wr) < w64 (2 * bung) then w64 (dip + wr) else w64 (2 * bung)), (if w64 (dip + wr) < w64 (2 * bung) then w64 (dip + wr) else w64 (2 * bung)) ≤ 2 * bung] (T.br (decide (M.toHi bung (eSt.list (eSt.list st.length (eSt.F st)).length (eSt.F (eSt.list st.length (eSt.F st)))) (if w64 (dip + wr) < w64 (2 * bung) then w64 (dip + wr) else w64 (2 * bung)) > 100000)) (T.ret [.agg [.str ⟨#[]⟩, dI 0, dI 0, dI 0], rI 8]) (T.ret [.agg [.str nm, dI day, dI (M.toLo bung (eSt.list (eSt.list st.length (eSt.F st)).length (eSt.F (eSt.list st.length (eSt.F st)))) (if w64 (dip - wr) > 0 then w64 (dip - wr) else 0)), dI (M.toHi bung (eSt.list (eSt.list st.length (eSt.F st)).length (eSt.F (eSt.list st.length (eSt.F st)))) (if w64 (dip + wr) < w64 (2 * bung) then w64 (dip + wr) else w64 (2 * bung)))], rI 0]))
theorem t11 (nm : ByteArray) (bung : Int) (q_st : Bool) (st : List St) (day : Int) (dip : Int) (wr : Int) : runFnX Try.prog G0 (lookS [v19, v24, v22, Go.Bl.v80, Go.Bl.v64, v23, v25]) (fun _ => []) [] 0 60 3 11 Try.f11 [.agg [.str nm, dI bung, .sl q_st st.length 3 (eSt.F st)], .agg [dI day, dI dip, dI wr]] = T.needs [eSt.Is st.length (eSt.F st), M.OkC nm bung (eSt.list st.length (eSt.F st))] (T.br (within day 0 100000) (T.br (within dip 0 (w64 (2 * bung))) (T.br (first [0, unl (within wr 0 (w64 (2 * bung))) 2] != 0) (T.ret [.agg [.str ⟨#[]⟩, dI 0, dI 0, dI 0], rI (first [0, unl (within wr 0 (w64 (2 * bung))) 2])]) (en11 nm bung st day dip wr)) (T.br ((2 : Int) != 0) (T.ret [.agg [.str ⟨#[]⟩, dI 0, dI 0, dI 0], rI 2]) (en11 nm bung st day dip wr))) (T.br ((2 : Int) != 0) (T.ret [.agg [.str ⟨#[]⟩, dI 0, dI 0, dI 0], rI 2]) (en11 nm bung st day dip wr))) := by kernel_rfl
theorem w11 (nm : ByteArray) (bung : Int) (q_st : Bool) (st : List St) (day : Int) (dip : Int) (wr : Int) (h : M.OkC nm bung st) (hb : bung ≤ 60) (hl : st.length ≤ 4) (hd : 0 ≤ day ∧ day ≤ 100000) (hi : 0 ≤ dip ∧ dip ≤ 2 * bung) (hw : 0 ≤ wr ∧ wr ≤ 2 * bung) : (T.needs [eSt.Is st.length (eSt.F st), M.OkC nm bung (eSt.list st.length (eSt.F st))] (T.br (within day 0 100000) (T.br (within dip 0 (w64 (2 * bung))) (T.br (first [0, unl (within wr 0 (w64 (2 * bung))) 2] != 0) (T.ret [.agg [.str ⟨#[]⟩, dI 0, dI 0, dI 0], rI (first [0, unl (within wr 0 (w64 (2 * bung))) 2])]) (en11 nm bung st day dip wr)) (T.br ((2 : Int) != 0) (T.ret [.agg [.str ⟨#[]⟩, dI 0, dI 0, dI 0], rI 2]) (en11 nm bung st day dip wr))) (T.br ((2 : Int) != 0) (T.ret [.agg [.str ⟨#[]⟩, dI 0, dI 0, dI 0], rI 2]) (en11 nm bung st day dip wr)))).wp (fun zz => rsEqv zz [.agg [.str (cond (M.big bung st dip wr) ⟨#[]⟩ nm), dI (cond (M.big bung st dip wr) 0 day), dI (cond (M.big bung st dip wr) 0 (M.toLo bung st (M.dLo dip wr))), dI (cond (M.big bung st dip wr) 0 (M.toHi bung st (M.dHi bung dip wr)))], rI (cond (M.big bung st dip wr) 8 0)]) := by
  have b0 := h.b0
  have e1 : w64 (2 * bung) = 2 * bung := w64_id (by omega) (by omega)
  unfold en11
  simp only [Enc.list_F]
  rw [e1, within_yes hd.1 hd.2, within_yes hi.1 hi.2, within_yes hw.1 hw.2]
  have e2 : w64 (dip - wr) = dip - wr := w64_id (by omega) (by omega)
  have e3 : w64 (dip + wr) = dip + wr := w64_id (by omega) (by omega)
  rw [e2, e3]
  refine ⟨Enc.is_F _ _ _, h, fun _ => ⟨fun _ => ⟨fun e => absurd e (by decide), fun _ => ⟨Enc.is_F _ _ _, h, hb, hl, by split <;> omega, by split <;> omega, Enc.is_F _ _ _, h, hb, hl, by split <;> omega, by split <;> omega, fun e => ?_, fun e => ?_⟩⟩, fun e => absurd e (by decide)⟩, fun e => absurd e (by decide)⟩
  · have e : M.big bung st dip wr = true := e
    rw [e]; exact rsEqv_refl _
  · have e : M.big bung st dip wr = false := e
    rw [e]; exact rsEqv_refl _
def dom11 : DomF
  | [.agg [.str nm, .int .i64 bung, .sl q_st n_st st_st F_st], .agg [.int .i64 day, .int .i64 dip, .int .i64 wr]] => (match (Nat.beq st_st 3 || Nat.beq n_st 0) with
    | true => some ([eSt.Is n_st F_st, M.OkC nm bung (eSt.list n_st F_st), bung ≤ 60, (eSt.list n_st F_st).length ≤ 4, (0 ≤ day ∧ day ≤ 100000), (0 ≤ dip ∧ dip ≤ 2 * bung), (0 ≤ wr ∧ wr ≤ 2 * bung)], [.agg [.str (cond (M.big bung (eSt.list n_st F_st) dip wr) ⟨#[]⟩ nm), dI (cond (M.big bung (eSt.list n_st F_st) dip wr) 0 day), dI (cond (M.big bung (eSt.list n_st F_st) dip wr) 0 (M.toLo bung (eSt.list n_st F_st) (M.dLo dip wr))), dI (cond (M.big bung (eSt.list n_st F_st) dip wr) 0 (M.toHi bung (eSt.list n_st F_st) (M.dHi bung dip wr)))], rI (cond (M.big bung (eSt.list n_st F_st) dip wr) 8 0)])
    | _ => none)
  | _ => none
def v11 : Nat × Sm := (11, fokSm dom11)
theorem C11 : FOK Try.prog G0 gw 11 dom11 := by
  intro ags p r hd hp κ w xs hw hl hG hx
  unfold dom11 at hd
  split at hd
  · rename_i nm bung q_st n_st st_st F_st day dip wr
    split at hd
    · rename_i hst
      have gz_st := hst
      simp only [Option.some.injEq, Prod.mk.injEq] at hd
      obtain ⟨rfl, rfl⟩ := hd
      obtain ⟨hI_st, hp⟩ := hp
      have heq : agsEqv [.agg [.str nm, .int .i64 bung, .sl q_st n_st st_st F_st], .agg [.int .i64 day, .int .i64 dip, .int .i64 wr]] [.agg [.str nm, .int .i64 bung, .sl q_st (eSt.list n_st F_st).length 3 (eSt.F (eSt.list n_st F_st))], .agg [.int .i64 day, .int .i64 dip, .int .i64 wr]] := ⟨⟨rfl, rfl, toE eSt (k := 3) rfl gz_st hI_st, trivial⟩, ⟨rfl, rfl, rfl, trivial⟩, trivial⟩
      generalize eSt.list n_st F_st = st at *
      exact fokX_fin mixed gw_stable (sl := [v19, v24, v22, Go.Bl.v80, Go.Bl.v64, v23, v25]) ⟨S19, S24, S22, Go.Bl.S80, Go.Bl.S64, S23, S25, trivial⟩ Try.func11 hw hl hG hx heq rfl (t11 nm bung q_st st day dip wr) (w11 nm bung q_st st day dip wr hp.1 hp.2.1 hp.2.2.1 hp.2.2.2.1 hp.2.2.2.2.1 hp.2.2.2.2.2.1)
    · cases hd
  · cases hd
theorem S11 : SumOK Try.prog G0 gw 11 (fokSm dom11) := fok_sum Try.func11 rfl C11
end Go.Ga
end

section
set_option linter.unusedVariables false
set_option linter.unusedSimpArgs false
set_option maxRecDepth 100000
namespace Go.Ga
open Go.Gd
open Go.V Go.Proofs
open Go.RowKit (Below)
open Go.Bl (rdI dI rI rB eI range_wp wrap_id)
open Go.Bl.M (within unl isName first)
theorem bk_at : M.atS 1000 2000 bkM butt 4 bkR = (true, 492000, 496000) := by kernel_rfl
theorem bk_con : M.con 1000 2000 bkM (bkR.getD 0 dR) (bkR.getD 1 dR) = false := by kernel_rfl
theorem bk_ok : M.OkB 1000 2000 bkR bkM := by
  refine ⟨by decide, by decide, by decide, ⟨by decide, fun k hk => ?_⟩, ⟨by decide, fun k hk => ?_⟩⟩
  · have hk : k < 2 := hk
    rcases (show k = 0 ∨ k = 1 by omega) with rfl | rfl
    · exact ⟨by decide, by kernel_rfl, fun h => absurd h (by decide)⟩
    · exact ⟨by decide, by kernel_rfl, fun _ => by decide⟩
  · have hk : k < 1 := hk
    obtain rfl : k = 0 := by omega
    exact ⟨⟨by decide, by decide⟩, by kernel_rfl, fun h => absurd h (by decide)⟩
theorem bk_no : M.NoC 1000 2000 bkM bkR := by
  intro i j h1 h2
  have h2 : j < 2 := h2
  obtain rfl : i = 0 := by omega
  obtain rfl : j = 1 := by omega
  exact bk_con
theorem bk_name : isName butt = true := by kernel_rfl
theorem t4  : runFnX Try.prog G0 (lookS [v16, v17, v15]) (fun _ => []) [] 0 60 3 4 Try.f4 [] = T.needs [(10 : Int) ≤ 10, (10 : Int) ≤ 60, (-10 : Int) ≤ -8, (-8 : Int) ≤ 10, eRd.Is bkR.length (eRd.F bkR), eMv.Is bkM.length (eMv.F bkM), M.OkB 1000 2000 (eRd.list bkR.length (eRd.F bkR)) (eMv.list bkM.length (eMv.F bkM)), M.NoC 1000 2000 (eMv.list bkM.length (eMv.F bkM)) (eRd.list bkR.length (eRd.F bkR)), M.AtOk (M.atS 1000 2000 (eMv.list bkM.length (eMv.F bkM)) butt 4 (eRd.list bkR.length (eRd.F bkR))), (4 : Nat) ≤ 1000000, isName butt = true, within 4 0 100000 = true] (T.br ((0 : Int) == 0) (T.br ((8 : Int) == 8 && ((21 : Int) == 21 && true)) (T.br ((0 : Int) == 0) (T.ret [rB ((492 : Int) == 492 && ((496 : Int) == 496 && true))]) (T.ret [rB false])) (T.ret [rB false])) (T.ret [rB false])) := by kernel_rfl
theorem w4   : (T.needs [(10 : Int) ≤ 10, (10 : Int) ≤ 60, (-10 : Int) ≤ -8, (-8 : Int) ≤ 10, eRd.Is bkR.length (eRd.F bkR), eMv.Is bkM.length (eMv.F bkM), M.OkB 1000 2000 (eRd.list bkR.length (eRd.F bkR)) (eMv.list bkM.length (eMv.F bkM)), M.NoC 1000 2000 (eMv.list bkM.length (eMv.F bkM)) (eRd.list bkR.length (eRd.F bkR)), M.AtOk (M.atS 1000 2000 (eMv.list bkM.length (eMv.F bkM)) butt 4 (eRd.list bkR.length (eRd.F bkR))), (4 : Nat) ≤ 1000000, isName butt = true, within 4 0 100000 = true] (T.br ((0 : Int) == 0) (T.br ((8 : Int) == 8 && ((21 : Int) == 21 && true)) (T.br ((0 : Int) == 0) (T.ret [rB ((492 : Int) == 492 && ((496 : Int) == 496 && true))]) (T.ret [rB false])) (T.ret [rB false])) (T.ret [rB false]))).wp (fun zz => rsEqv zz [rB true]) := by
  rw [Enc.list_F, Enc.list_F, bk_at]
  exact ⟨by decide, by decide, by decide, by decide, Enc.is_F _ _ _, Enc.is_F _ _ _, bk_ok, bk_no, ⟨rfl, ⟨by decide, by decide⟩, by decide, by decide⟩, by decide, bk_name, by decide, fun _ => ⟨fun _ => ⟨fun _ => rsEqv_refl _, fun e => absurd e (by decide)⟩, fun e => absurd e (by decide)⟩, fun e => absurd e (by decide)⟩
def dom4 : DomF
  | [] => some ([], [rB true])
  | _ => none
def v4 : Nat × Sm := (4, fokSm dom4)
theorem C4 : FOK Try.prog G0 gw 4 dom4 := by
  intro ags p r hd hp κ w xs hw hl hG hx
  unfold dom4 at hd
  split at hd
  · skip
    simp only [Option.some.injEq, Prod.mk.injEq] at hd
    obtain ⟨rfl, rfl⟩ := hd
    have heq : agsEqv [] [] := trivial
    exact fokX_fin mixed gw_stable (sl := [v16, v17, v15]) ⟨S16, S17, S15, trivial⟩ Try.func4 hw hl hG hx heq rfl (t4 ) (w4  )
  · cases hd
theorem S4 : SumOK Try.prog G0 gw 4 (fokSm dom4) := fok_sum Try.func4 rfl C4
end Go.Ga
end

section
set_option linter.unusedVariables false
set_option linter.unusedSimpArgs false
set_option maxRecDepth 100000
namespace Go.Ga
open Go.Gd
open Go.V Go.Proofs
open Go.RowKit (Below)
open Go.Bl (rdI dI rI rB eI range_wp wrap_id)
open Go.Bl.M (within unl isName first)
theorem r0_mono {n m : Int} (h0 : 0 ≤ n) (h1 : m ≤ 14400) (h2 : n % 4 = 0) (h3 : m % 4 = 0) (h : n ≤ m) : M.r0 n ≤ M.r0 m := by
  obtain ⟨_, _, a1, a2, a3⟩ := r0_spec h0 (by omega) h2
  obtain ⟨_, _, b1, b2, b3⟩ := r0_spec (n := m) (by omega) h1 h3
  apply Classical.byContradiction
  intro hc
  have := sq_le (a := M.r0 m + 1) (b := M.r0 n) (by omega) (by omega)
  omega
theorem s_le {a b : Int} (h0 : 0 ≤ a) (h1 : a ≤ b) (h2 : b ≤ 60) {n d : Nat} (hd : (d : Int) = b - a) (hn : (n : Int) < 2 * a) : M.sLo a n ≤ M.sHi b (n + d) := by
  obtain ⟨p1, p2, p3⟩ := sq_at (c := a) h0 (by omega) (k := n) (by omega)
  obtain ⟨q1, q2, q3⟩ := sq_at (c := b) (by omega) h2 (k := n + d) (by omega)
  have e : -b + ((n + d : Nat) : Int) = -a + (n : Int) := by omega
  have hm : M.sq a (-a + (n : Int)) ≤ M.sq b (-b + ((n + d : Nat) : Int)) := by
    rw [e]
    have := sq_le (a := a) (b := b) h0 h1
    unfold M.sq
    omega
  have hr := r0_mono p1 q2 p3 q3 hm
  have hu := rU_ge (n := M.sq b (-b + ((n + d : Nat) : Int)))
  unfold M.sLo M.sHi
  split <;> split <;> omega
theorem ar_le {a b : Int} (h0 : 0 ≤ a) (h1 : a ≤ b) (h2 : b ≤ 60) {d : Nat} (hd : (d : Int) = b - a) : ∀ {n : Nat}, (n : Int) ≤ 2 * a → M.arLo a n ≤ M.arHi b (n + d) := by
  intro n
  induction n with
  | zero =>
    intro _
    rw [Nat.zero_add]
    exact (ar_bnd (c := b) (by omega) h2 (k := d) (by omega)).2.2.1
  | succ n ih =>
    intro hn
    have i := ih (by omega)
    have s := s_le h0 h1 h2 hd (n := n) (by omega)
    rw [show n + 1 + d = (n + d) + 1 by omega]
    show M.arLo a n + M.sLo a n ≤ M.arHi b (n + d) + M.sHi b (n + d)
    omega
theorem ar_mono {c : Int} (h0 : 0 ≤ c) (h1 : c ≤ 60) {n m : Nat} (h : n ≤ m) (hm : (m : Int) ≤ 2 * c) : M.arLo c n ≤ M.arLo c m ∧ M.arHi c n ≤ M.arHi c m := by
  induction m with
  | zero => obtain rfl : n = 0 := by omega
            exact ⟨Int.le_refl _, Int.le_refl _⟩
  | succ m ih =>
    rcases Nat.lt_or_ge m n with g | g
    · obtain rfl : n = m + 1 := by omega
      exact ⟨Int.le_refl _, Int.le_refl _⟩
    · have i := ih g (by omega)
      obtain ⟨s1, _, s3, _⟩ := s_bnd h0 h1 (k := m) (by omega)
      show M.arLo c n ≤ M.arLo c m + M.sLo c m ∧ M.arHi c n ≤ M.arHi c m + M.sHi c m
      omega
theorem cnt_mono {c v w : Int} (h : v ≤ w) : M.cnt c v ≤ M.cnt c w := by unfold M.cnt; split <;> split <;> omega
theorem cnt_add {a b v : Int} (h0 : 0 ≤ a) (h1 : a ≤ b) {d : Nat} (hd : (d : Int) = b - a) : M.cnt a v = 0 ∨ M.cnt a v + d ≤ M.cnt b v := by unfold M.cnt; split <;> split <;> omega
theorem area_le {a b v : Int} (h0 : 0 ≤ a) (h1 : a ≤ b) (h2 : b ≤ 60) : M.arLo a (M.cnt a v) ≤ M.arHi b (M.cnt b v) := by
  have hd : (((b - a).toNat : Nat) : Int) = b - a := by omega
  have hb := cnt_le2 (c := b) (v := v) (by omega)
  rcases cnt_add (v := v) h0 h1 hd with e | e
  · rw [e]; exact (ar_bnd (c := b) (by omega) h2 hb).2.2.1
  · have g1 := ar_le h0 h1 h2 hd (n := M.cnt a v) (cnt_le2 h0)
    have g2 := (ar_mono (c := b) (by omega) h2 e hb).2
    omega
section
variable {nm : ByteArray} {bung : Int} {st : List St}
theorem v_le (h : M.OkC nm bung st) (hb : bung ≤ 60) (v : Int) : ∀ {k : Nat}, k + 1 ≤ st.length → M.vLo st v k ≤ M.vHi st v k := by
  intro k
  induction k with
  | zero => intro _; exact Int.le_refl _
  | succ k ih =>
    intro hk
    have i := ih (by omega)
    obtain ⟨r1, r2, r3, r4, r5⟩ := rad_ok h hb (k := k) (by omega)
    have a := area_le (a := M.inr st k) (b := M.our st k) (v := v) (by omega) r2 r3
    have m := Int.mul_le_mul_of_nonneg_left a r4
    show M.vLo st v k + _ ≤ M.vHi st v k + _
    omega
theorem v_mono (h : M.OkC nm bung st) (hb : bung ≤ 60) {v w : Int} (hv : v ≤ w) : ∀ {k : Nat}, k + 1 ≤ st.length → M.vLo st v k ≤ M.vLo st w k ∧ M.vHi st v k ≤ M.vHi st w k := by
  intro k
  induction k with
  | zero => intro _; exact ⟨Int.le_refl _, Int.le_refl _⟩
  | succ k ih =>
    intro hk
    have i := ih (by omega)
    obtain ⟨r1, r2, r3, r4, r5⟩ := rad_ok h hb (k := k) (by omega)
    have a := (ar_mono (c := M.inr st k) (by omega) (by omega) (cnt_mono hv) (cnt_le2 (by omega))).1
    have b := (ar_mono (c := M.our st k) (by omega) (by omega) (cnt_mono hv) (cnt_le2 (by omega))).2
    have m1 := Int.mul_le_mul_of_nonneg_left a r4
    have m2 := Int.mul_le_mul_of_nonneg_left b r4
    show M.vLo st v k + _ ≤ M.vLo st w k + _ ∧ M.vHi st v k + _ ≤ M.vHi st w k + _
    omega
theorem to_ok (h : M.OkC nm bung st) (hb : bung ≤ 60) {d : Int} : 0 ≤ M.toLo bung st d ∧ M.toLo bung st d ≤ M.toHi bung st d := by
  have n0 := h.n0
  have hk : st.length - 1 + 1 ≤ st.length := by omega
  have a := v_le h hb (d - bung) hk
  obtain ⟨⟨b, _⟩, _⟩ := v_bnd h hb (d - bung) hk
  unfold M.toLo M.toHi M.flo M.cei
  omega
theorem to_mono (h : M.OkC nm bung st) (hb : bung ≤ 60) {d e : Int} (hd : d ≤ e) : M.toLo bung st d ≤ M.toLo bung st e ∧ M.toHi bung st d ≤ M.toHi bung st e := by
  have n0 := h.n0
  have hk : st.length - 1 + 1 ≤ st.length := by omega
  have a := v_mono h hb (v := d - bung) (w := e - bung) (by omega) hk
  unfold M.toLo M.toHi M.flo M.cei
  omega
end
structure M.Holds (nm : ByteArray) (lo hi : Int) (r : Rd) : Prop where
  nm : r.nm = nm
  d0 : 0 ≤ r.day
  d1 : r.day ≤ 1000
  l0 : 0 ≤ r.lo
  l1 : r.lo ≤ lo
  h0 : hi ≤ r.hi
  h1 : r.hi ≤ 100000
theorem aLo_eq {nm : ByteArray} {day lo t : Int} (h0 : 0 ≤ lo) (h1 : lo ≤ 100000) : M.aLo 0 0 [] nm day lo t = 1000 * lo := by
  unfold M.aLo
  have e1 : M.net [] nm day t = 0 := rfl
  have e2 : M.net [] nm t day = 0 := rfl
  rw [e1, e2]
  have z1 : ∀ x : Int, w64 (0 * x) = 0 := fun x => by rw [Int.zero_mul]; rfl
  rw [z1, z1]
  simp only [Int.add_zero, Int.sub_zero]
  rw [w64_id (n := lo) (by omega) (by omega), w64_id (n := 1000 * lo) (by omega) (by omega), w64_id (n := 1000 * lo) (by omega) (by omega)]
  cases decide (w64 (t - day) ≥ 0) <;> rfl
theorem aHi_eq {nm : ByteArray} {day hi t : Int} (h0 : 0 ≤ hi) (h1 : hi ≤ 100000) : M.aHi 0 0 [] nm day hi t = 1000 * hi := by
  unfold M.aHi
  have e1 : M.net [] nm day t = 0 := rfl
  have e2 : M.net [] nm t day = 0 := rfl
  rw [e1, e2]
  have z1 : ∀ x : Int, w64 (0 * x) = 0 := fun x => by rw [Int.zero_mul]; rfl
  rw [z1, z1]
  simp only [Int.add_zero, Int.sub_zero]
  rw [w64_id (n := hi) (by omega) (by omega), w64_id (n := 1000 * hi) (by omega) (by omega), w64_id (n := 1000 * hi) (by omega) (by omega)]
  cases decide (w64 (t - day) ≥ 0) <;> rfl
section
variable {nm : ByteArray} {lo hi : Int} {rs : List Rd}
theorem no_con (hlh : lo ≤ hi) (hrs : ∀ k, k < rs.length → M.Holds nm lo hi (rs.getD k dR)) : M.NoC 0 0 [] rs := by
  intro i j hij hj
  have a := hrs i (by omega)
  have b := hrs j hj
  have a1 := a.l0; have a2 := a.l1; have a3 := a.h0; have a4 := a.h1
  have b1 := b.l0; have b2 := b.l1; have b3 := b.h0; have b4 := b.h1
  unfold M.con
  rw [aLo_eq a1 (by omega), aHi_eq (by omega) a4, w64_id (n := 1000 * (rs.getD j dR).hi) (by omega) (by omega), w64_id (n := 1000 * (rs.getD j dR).lo) (by omega) (by omega), decide_eq_false (show ¬ (1000 * (rs.getD i dR).lo > 1000 * (rs.getD j dR).hi) by omega), decide_eq_false (show ¬ (1000 * (rs.getD i dR).hi < 1000 * (rs.getD j dR).lo) by omega)]
  cases decide ((rs.getD i dR).nm = (rs.getD j dR).nm) <;> rfl
theorem at_ok (hlh : lo ≤ hi) (hrs : ∀ k, k < rs.length → M.Holds nm lo hi (rs.getD k dR)) {t : Int} : ∀ {k : Nat}, k ≤ rs.length → 0 < k → ((rs.take k).foldl (M.ast 0 0 [] nm t) (false, 0, 0)).1 = true ∧ (0 ≤ ((rs.take k).foldl (M.ast 0 0 [] nm t) (false, 0, 0)).2.1 ∧ ((rs.take k).foldl (M.ast 0 0 [] nm t) (false, 0, 0)).2.1 ≤ 1000 * lo) ∧ (1000 * hi ≤ ((rs.take k).foldl (M.ast 0 0 [] nm t) (false, 0, 0)).2.2 ∧ ((rs.take k).foldl (M.ast 0 0 [] nm t) (false, 0, 0)).2.2 ≤ 100000000) := by
  intro k
  induction k with
  | zero => intro _ h; exact absurd h (Nat.lt_irrefl 0)
  | succ k ih =>
    intro hk _
    have hs := foldl_take (f := M.ast 0 0 [] nm t) (a := ((false, 0, 0) : Bool × Int × Int)) (l := rs) (d := dR) (k := k) (by omega)
    rw [hs]
    have a := hrs k (by omega)
    have a1 := a.l0; have a2 := a.l1; have a3 := a.h0; have a4 := a.h1
    rcases Nat.eq_zero_or_pos k with e | e
    · subst e
      show (M.ast 0 0 [] nm t (false, 0, 0) (rs.getD 0 dR)).1 = true ∧ (0 ≤ (M.ast 0 0 [] nm t (false, 0, 0) (rs.getD 0 dR)).2.1 ∧ (M.ast 0 0 [] nm t (false, 0, 0) (rs.getD 0 dR)).2.1 ≤ _) ∧ (_ ≤ (M.ast 0 0 [] nm t (false, 0, 0) (rs.getD 0 dR)).2.2 ∧ (M.ast 0 0 [] nm t (false, 0, 0) (rs.getD 0 dR)).2.2 ≤ _)
      unfold M.ast
      rw [aLo_eq a1 (by omega), aHi_eq (by omega) a4, decide_eq_true a.nm]
      show true = true ∧ (0 ≤ 1000 * (rs.getD 0 dR).lo ∧ 1000 * (rs.getD 0 dR).lo ≤ _) ∧ (_ ≤ 1000 * (rs.getD 0 dR).hi ∧ 1000 * (rs.getD 0 dR).hi ≤ _)
      exact ⟨rfl, by omega, by omega⟩
    · obtain ⟨i1, i2, i3⟩ := ih (by omega) e
      generalize (rs.take k).foldl (M.ast 0 0 [] nm t) (false, 0, 0) = s at *
      unfold M.ast
      rw [aLo_eq a1 (by omega), aHi_eq (by omega) a4, decide_eq_true a.nm, i1]
      show true = true ∧ (0 ≤ (if s.2.1 > 1000 * (rs.getD k dR).lo then s.2.1 else 1000 * (rs.getD k dR).lo) ∧ (if s.2.1 > 1000 * (rs.getD k dR).lo then s.2.1 else 1000 * (rs.getD k dR).lo) ≤ _) ∧ (_ ≤ (if s.2.2 < 1000 * (rs.getD k dR).hi then s.2.2 else 1000 * (rs.getD k dR).hi) ∧ (if s.2.2 < 1000 * (rs.getD k dR).hi then s.2.2 else 1000 * (rs.getD k dR).hi) ≤ _)
      refine ⟨rfl, ?_, ?_⟩ <;> split <;> omega
theorem at_all (hlh : lo ≤ hi) (hrs : ∀ k, k < rs.length → M.Holds nm lo hi (rs.getD k dR)) {t : Int} (h0 : 0 < rs.length) (l0 : 0 ≤ lo) (l1 : hi ≤ 100000) : M.AtOk (M.atS 0 0 [] nm t rs) ∧ M.flo (M.atS 0 0 [] nm t rs).2.1 1000 ≤ lo ∧ hi ≤ M.cei (M.atS 0 0 [] nm t rs).2.2 1000 := by
  have g := at_ok hlh hrs (t := t) (Nat.le_refl _) h0
  rw [List.take_of_length_le (Nat.le_refl _)] at g
  obtain ⟨g1, g2, g3⟩ := g
  unfold M.AtOk M.atS M.flo M.cei
  exact ⟨⟨g1, by omega, by omega⟩, by omega, by omega⟩
theorem rd_ok (hlh : lo ≤ hi) (hrs : ∀ k, k < rs.length → M.Holds nm lo hi (rs.getD k dR)) (hn : isName nm = true) (hz : nm.size ≤ 1000000) {k : Nat} (hk : k < rs.length) : RdE (rs.getD k dR) = 0 ∧ (rs.getD k dR).nm.size ≤ 1000000 := by
  have a := hrs k hk
  have a1 := a.l0; have a2 := a.l1; have a3 := a.h0; have a4 := a.h1
  refine ⟨?_, by rw [a.nm]; exact hz⟩
  unfold RdE M.rdErr M.rgErr
  rw [a.nm, hn, within_yes a.d0 (by have := a.d1; omega), within_yes a1 (by omega), within_yes (n := (rs.getD k dR).hi) (by omega) a4, decide_eq_false (by omega)]
  rfl
theorem book_ok (hlh : lo ≤ hi) (hrs : ∀ k, k < rs.length → M.Holds nm lo hi (rs.getD k dR)) (hn : isName nm = true) (hz : nm.size ≤ 1000000) (hl : rs.length ≤ 40) (hday : ∀ k, k < rs.length → 0 < k → (rs.getD (k - 1) dR).day ≤ (rs.getD k dR).day) : M.OkB 0 0 rs [] :=
  ⟨Int.le_refl _, Int.le_refl _, by decide, ⟨hl, fun k hk => ⟨(rd_ok hlh hrs hn hz hk).2, (rd_ok hlh hrs hn hz hk).1, hday k hk⟩⟩, ⟨by decide, fun k hk => absurd hk (Nat.not_lt_zero _)⟩⟩
end
end Go.Ga
end

section
set_option linter.unusedVariables false
set_option linter.unusedSimpArgs false
set_option maxRecDepth 100000
namespace Go.Ga
open Go.Gd
open Go.V Go.Proofs
open Go.RowKit (Below)
open Go.Bl (rdI dI rI rB eI range_wp wrap_id)
open Go.Bl.M (within unl isName first)
abbrev dD : Dp := eDp.dflt
abbrev lS (st : List St) : List St := eSt.list st.length (eSt.F st)
abbrev XF := Int × Int × Int × PUnit.{1} × PUnit.{1} × PUnit.{1}
abbrev YF := Int × Int × Int × List Rd × PUnit.{1} × PUnit.{1}
abbrev RT := T ((XF ⊕ YF) ⊕ List Ar)
def yes3 : RT := T.ret (.inr [rB true])
def no3 : RT := T.ret (.inr [rB false])
def G3 (nm : ByteArray) (bung : Int) (st : List St) (l : List Dp) (x : Int) : Nat → Nat → D := fun i j => List.getD [D.str (cond (M.big bung (lS (lS st)) (l.getD x.toNat dD).dip (l.getD x.toNat dD).wr) ⟨#[]⟩ nm), dI (cond (M.big bung (lS (lS st)) (l.getD x.toNat dD).dip (l.getD x.toNat dD).wr) 0 (l.getD x.toNat dD).day), dI (cond (M.big bung (lS (lS st)) (l.getD x.toNat dD).dip (l.getD x.toNat dD).wr) 0 (M.toLo bung (lS (lS st)) (M.dLo (l.getD x.toNat dD).dip (l.getD x.toNat dD).wr))), dI (cond (M.big bung (lS (lS st)) (l.getD x.toNat dD).dip (l.getD x.toNat dD).wr) 0 (M.toHi bung (lS (lS st)) (M.dHi bung (l.getD x.toNat dD).dip (l.getD x.toNat dD).wr)))] (i * 4 + j) D.nilp
def cr3 (nm : ByteArray) (bung : Int) (st : List St) (dip : Int) (l : List Dp) (x : Int) (nx : RT) : RT := T.br (!within dip (w64 ((l.getD x.toNat dD).dip - (l.getD x.toNat dD).wr)) (w64 ((l.getD x.toNat dD).dip + (l.getD x.toNat dD).wr))) yes3 (T.needs [eSt.Is st.length (eSt.F st), (lS st).length ≤ 1000000, 0 ≤ x, x < (l.length : Int), eSt.Is (lS st).length (eSt.F (lS st)), M.OkC nm bung (lS (lS st)), bung ≤ 60, (lS (lS st)).length ≤ 4, 0 ≤ (l.getD x.toNat dD).day ∧ (l.getD x.toNat dD).day ≤ 100000, 0 ≤ (l.getD x.toNat dD).dip ∧ (l.getD x.toNat dD).dip ≤ 2 * bung, 0 ≤ (l.getD x.toNat dD).wr ∧ (l.getD x.toNat dD).wr ≤ 2 * bung] (T.br ((cond (M.big bung (lS (lS st)) (l.getD x.toNat dD).dip (l.getD x.toNat dD).wr) (8 : Int) 0) == 8) yes3 (T.br ((cond (M.big bung (lS (lS st)) (l.getD x.toNat dD).dip (l.getD x.toNat dD).wr) (8 : Int) 0) != 0) no3 (T.need ((cond (M.big bung (lS (lS st)) (l.getD x.toNat dD).dip (l.getD x.toNat dD).wr) ⟨#[]⟩ nm).size ≤ 1000000) (T.br (M.rdErr (cond (M.big bung (lS (lS st)) (l.getD x.toNat dD).dip (l.getD x.toNat dD).wr) ⟨#[]⟩ nm) (cond (M.big bung (lS (lS st)) (l.getD x.toNat dD).dip (l.getD x.toNat dD).wr) 0 (l.getD x.toNat dD).day) (cond (M.big bung (lS (lS st)) (l.getD x.toNat dD).dip (l.getD x.toNat dD).wr) 0 (M.toLo bung (lS (lS st)) (M.dLo (l.getD x.toNat dD).dip (l.getD x.toNat dD).wr))) (cond (M.big bung (lS (lS st)) (l.getD x.toNat dD).dip (l.getD x.toNat dD).wr) 0 (M.toHi bung (lS (lS st)) (M.dHi bung (l.getD x.toNat dD).dip (l.getD x.toNat dD).wr))) != 0) no3 nx)))))
def bd3 (nm : ByteArray) (bung : Int) (st : List St) (dip : Int) (l : List Dp) (x : Int) (nx ex : RT) : RT := T.br (decide (x < (l.length : Int))) (T.br (!within (l.getD x.toNat dD).day 0 1000) (T.needs [0 ≤ x, x < (l.length : Int), (!within (l.getD x.toNat dD).day 0 1000) = true] yes3) (T.br (decide (x > 0)) (T.br (decide ((l.getD x.toNat dD).day < (l.getD (w64 (x - 1)).toNat dD).day)) (T.needs [0 ≤ x, x < (l.length : Int), (!within (l.getD x.toNat dD).day 0 1000) = false, (decide (x > 0)) = true, 0 ≤ x, x < (l.length : Int), 0 ≤ w64 (x - 1), w64 (x - 1) < (l.length : Int), (decide ((l.getD x.toNat dD).day < (l.getD (w64 (x - 1)).toNat dD).day)) = true] yes3) (T.br (unl (within (l.getD x.toNat dD).dip 0 (w64 (2 * bung))) 2 != 0) (T.needs [0 ≤ x, x < (l.length : Int), (!within (l.getD x.toNat dD).day 0 1000) = false, (decide (x > 0)) = true, 0 ≤ x, x < (l.length : Int), 0 ≤ w64 (x - 1), w64 (x - 1) < (l.length : Int), (decide ((l.getD x.toNat dD).day < (l.getD (w64 (x - 1)).toNat dD).day)) = false, 0 ≤ x, x < (l.length : Int), (unl (within (l.getD x.toNat dD).dip 0 (w64 (2 * bung))) 2 != 0) = true] yes3) (T.br (unl (within (l.getD x.toNat dD).wr 0 (w64 (2 * bung))) 2 != 0) (T.needs [0 ≤ x, x < (l.length : Int), (!within (l.getD x.toNat dD).day 0 1000) = false, (decide (x > 0)) = true, 0 ≤ x, x < (l.length : Int), 0 ≤ w64 (x - 1), w64 (x - 1) < (l.length : Int), (decide ((l.getD x.toNat dD).day < (l.getD (w64 (x - 1)).toNat dD).day)) = false, 0 ≤ x, x < (l.length : Int), (unl (within (l.getD x.toNat dD).dip 0 (w64 (2 * bung))) 2 != 0) = false, 0 ≤ x, x < (l.length : Int), (unl (within (l.getD x.toNat dD).wr 0 (w64 (2 * bung))) 2 != 0) = true] yes3) (T.needs [0 ≤ x, x < (l.length : Int), (!within (l.getD x.toNat dD).day 0 1000) = false, (decide (x > 0)) = true, 0 ≤ x, x < (l.length : Int), 0 ≤ w64 (x - 1), w64 (x - 1) < (l.length : Int), (decide ((l.getD x.toNat dD).day < (l.getD (w64 (x - 1)).toNat dD).day)) = false, 0 ≤ x, x < (l.length : Int), (unl (within (l.getD x.toNat dD).dip 0 (w64 (2 * bung))) 2 != 0) = false, 0 ≤ x, x < (l.length : Int), (unl (within (l.getD x.toNat dD).wr 0 (w64 (2 * bung))) 2 != 0) = false, 0 ≤ x, x < (l.length : Int), 0 ≤ x, x < (l.length : Int), 0 ≤ x, x < (l.length : Int), 0 ≤ x, x < (l.length : Int)] (cr3 nm bung st dip l x nx))))) (T.br (unl (within (l.getD x.toNat dD).dip 0 (w64 (2 * bung))) 2 != 0) (T.needs [0 ≤ x, x < (l.length : Int), (!within (l.getD x.toNat dD).day 0 1000) = false, (decide (x > 0)) = false, 0 ≤ x, x < (l.length : Int), (unl (within (l.getD x.toNat dD).dip 0 (w64 (2 * bung))) 2 != 0) = true] yes3) (T.br (unl (within (l.getD x.toNat dD).wr 0 (w64 (2 * bung))) 2 != 0) (T.needs [0 ≤ x, x < (l.length : Int), (!within (l.getD x.toNat dD).day 0 1000) = false, (decide (x > 0)) = false, 0 ≤ x, x < (l.length : Int), (unl (within (l.getD x.toNat dD).dip 0 (w64 (2 * bung))) 2 != 0) = false, 0 ≤ x, x < (l.length : Int), (unl (within (l.getD x.toNat dD).wr 0 (w64 (2 * bung))) 2 != 0) = true] yes3) (T.needs [0 ≤ x, x < (l.length : Int), (!within (l.getD x.toNat dD).day 0 1000) = false, (decide (x > 0)) = false, 0 ≤ x, x < (l.length : Int), (unl (within (l.getD x.toNat dD).dip 0 (w64 (2 * bung))) 2 != 0) = false, 0 ≤ x, x < (l.length : Int), (unl (within (l.getD x.toNat dD).wr 0 (w64 (2 * bung))) 2 != 0) = false, 0 ≤ x, x < (l.length : Int), 0 ≤ x, x < (l.length : Int), 0 ≤ x, x < (l.length : Int), 0 ≤ x, x < (l.length : Int)] (cr3 nm bung st dip l x nx)))))) ex
def nx3x (nm : ByteArray) (bung : Int) (st : List St) (l : List Dp) (x a b : Int) : RT := T.needs [(1 : Nat) ≤ 1000000, eRd.Is 1 (joinF 0 nilF (G3 nm bung st l x)), (1 : Nat) ≤ 1] (T.ret (.inl (.inr (w64 (x + 1), a, b, eRd.list 1 (joinF 0 nilF (G3 nm bung st l x)), PUnit.unit, PUnit.unit))))
def nx3y (nm : ByteArray) (bung : Int) (st : List St) (l : List Dp) (x a b : Int) (rs : List Rd) : RT := T.needs [rs.length + 1 ≤ 1000000, rs.length ≤ rs.length, eRd.Is (rs.length + 1) (joinF rs.length (eRd.F rs) (G3 nm bung st l x)), rs.length + 1 ≤ rs.length + 1] (T.ret (.inl (.inr (w64 (x + 1), a, b, eRd.list (rs.length + 1) (joinF rs.length (eRd.F rs) (G3 nm bung st l x)), PUnit.unit, PUnit.unit))))
def ex3x (nm : ByteArray) (bung : Int) (st : List St) (dip a b : Int) : RT := (T.needs [eRd.Is 0 nilF, eMv.Is 0 nilF, (eRd.list 0 nilF).length ≤ 1000000, (0 : Nat) ≤ 1000000, eRd.Is (eRd.list 0 nilF).length (eRd.F (eRd.list 0 nilF)), eMv.Is 0 (eMv.F (eMv.list 0 nilF)), M.OkB a b (eRd.list (eRd.list 0 nilF).length (eRd.F (eRd.list 0 nilF))) (eMv.list 0 (eMv.F (eMv.list 0 nilF))), M.NoC a b (eMv.list 0 (eMv.F (eMv.list 0 nilF))) (eRd.list (eRd.list 0 nilF).length (eRd.F (eRd.list 0 nilF))), eRd.Is 0 nilF, eMv.Is 0 nilF, M.OkB a b (eRd.list 0 nilF) (eMv.list 0 nilF), M.NoC a b (eMv.list 0 nilF) (eRd.list 0 nilF), M.AtOk (M.atS a b (eMv.list 0 nilF) nm 500 (eRd.list 0 nilF)), nm.size ≤ 1000000, isName nm = true, within 500 0 100000 = true] (T.br ((0 : Int) == 0) (T.br ((0 : Int) == 0) (T.br ((0 : Int) == 0) (T.br (decide (M.flo (M.atS a b (eMv.list 0 nilF) nm 500 (eRd.list 0 nilF)).2.1 1000 ≤ M.toLo bung (lS (lS st)) dip)) (T.ret (.inr [rB (decide (M.toHi bung (lS (lS st)) dip ≤ M.cei (M.atS a b (eMv.list 0 nilF) nm 500 (eRd.list 0 nilF)).2.2 1000))])) no3) no3) no3) no3))
def ex3y (nm : ByteArray) (bung : Int) (st : List St) (dip a b : Int) (rs : List Rd) : RT := (T.needs [rs.length ≤ rs.length, eRd.Is rs.length (eRd.F rs), eMv.Is 0 nilF, (eRd.list rs.length (eRd.F rs)).length ≤ 1000000, (0 : Nat) ≤ 1000000, eRd.Is (eRd.list rs.length (eRd.F rs)).length (eRd.F (eRd.list rs.length (eRd.F rs))), eMv.Is 0 (eMv.F (eMv.list 0 nilF)), M.OkB a b (eRd.list (eRd.list rs.length (eRd.F rs)).length (eRd.F (eRd.list rs.length (eRd.F rs)))) (eMv.list 0 (eMv.F (eMv.list 0 nilF))), M.NoC a b (eMv.list 0 (eMv.F (eMv.list 0 nilF))) (eRd.list (eRd.list rs.length (eRd.F rs)).length (eRd.F (eRd.list rs.length (eRd.F rs)))), rs.length ≤ rs.length, eRd.Is rs.length (eRd.F rs), eMv.Is 0 nilF, M.OkB a b (eRd.list rs.length (eRd.F rs)) (eMv.list 0 nilF), M.NoC a b (eMv.list 0 nilF) (eRd.list rs.length (eRd.F rs)), M.AtOk (M.atS a b (eMv.list 0 nilF) nm 500 (eRd.list rs.length (eRd.F rs))), nm.size ≤ 1000000, isName nm = true, within 500 0 100000 = true] (T.br ((0 : Int) == 0) (T.br ((0 : Int) == 0) (T.br ((0 : Int) == 0) (T.br (decide (M.flo (M.atS a b (eMv.list 0 nilF) nm 500 (eRd.list rs.length (eRd.F rs))).2.1 1000 ≤ M.toLo bung (lS (lS st)) dip)) (T.ret (.inr [rB (decide (M.toHi bung (lS (lS st)) dip ≤ M.cei (M.atS a b (eMv.list 0 nilF) nm 500 (eRd.list rs.length (eRd.F rs))).2.2 1000))])) no3) no3) no3) no3))
def lp3 (nm : ByteArray) (bung : Int) (st : List St) (dip : Int) (l : List Dp) : T (List Ar) := .loop2 XF YF (.inl (0, 0, 0, PUnit.unit, PUnit.unit, PUnit.unit)) (fun x => bd3 nm bung st dip l x.1 (nx3x nm bung st l x.1 x.2.1 x.2.2.1) (ex3x nm bung st dip x.2.1 x.2.2.1)) (fun y => bd3 nm bung st dip l y.1 (nx3y nm bung st l y.1 y.2.1 y.2.2.1 y.2.2.2.1) (ex3y nm bung st dip y.2.1 y.2.2.1 y.2.2.2.1))
def tr3 (nm : ByteArray) (bung : Int) (st : List St) (dip : Int) (l : List Dp) : T (List Ar) := T.br (!true) (T.ret [rB false]) (T.need (eSt.Is st.length (eSt.F st)) (T.br (!M.small nm bung (lS st)) (T.ret [rB true]) (T.needs [eSt.Is st.length (eSt.F st), nm.size ≤ 1000000] (T.br (M.ckErr nm bung (lS st) != 0) (T.ret [rB true]) (T.br (unl (within dip 0 (w64 (2 * bung))) 2 != 0) (T.ret [rB true]) (T.br ((l.length : Int) == 0) (T.ret [rB true]) (T.br (decide ((l.length : Int) > 6)) (T.ret [rB true]) (T.needs [eSt.Is st.length (eSt.F st), (lS st).length ≤ 1000000, eSt.Is (lS st).length (eSt.F (lS st)), M.OkC nm bung (lS (lS st)), bung ≤ 60, (lS (lS st)).length ≤ 4, 0 ≤ dip, dip ≤ 2 * bung] (T.br ((0 : Int) != 0) (T.ret [rB ((0 : Int) == 0)]) (T.br (decide (M.toHi bung (lS (lS st)) dip > 100000)) (T.ret [rB ((0 : Int) == 0)]) (lp3 nm bung st dip l)))))))))))
theorem t3 (nm : ByteArray) (bung : Int) (q_st : Bool) (st : List St) (dip : Int) (q_l : Bool) (l : List Dp) : runFnX Try.prog G0 (lookS [v4, v5, v6, v7, v9, v8, v10, v11, v12, v14, v13, v15]) (fun _ => [(10, [.slot 10 (.int .i64), .blk 9 [.int .i64, .int .i64, .nsl, .nsl]], some [.slot 10 (.int .i64), .blk 9 [.int .i64, .int .i64, .rowE 44 eRd, .nsl]])]) [] 0 80 3 3 Try.f3 [.agg [.str nm, dI bung, .sl q_st st.length 3 (eSt.F st)], .c (dI dip), .c (.sl q_l l.length 3 (eDp.F l))] = tr3 nm bung st dip l := by kernel_rfl
end Go.Ga
end

section
set_option linter.unusedVariables false
set_option linter.unusedSimpArgs false
set_option maxRecDepth 100000
namespace Go.Ga
open Go.Gd
open Go.V Go.Proofs
open Go.RowKit (Below)
open Go.Bl (rdI dI rI rB eI range_wp wrap_id)
open Go.Bl.M (within unl isName first)
theorem lS_eq (st : List St) : lS st = st := Enc.list_F eSt st
theorem unl_z {b : Bool} (h : (unl b 2 != 0) = false) : b = true := by
  cases b with
  | true => rfl
  | false => exact absurd h (by decide)
theorem not_f {b : Bool} (h : (!b) = false) : b = true := by cases b <;> first | rfl | exact absurd h (by decide)
theorem join0 {F F' G : Nat → Nat → D} : joinF 0 F G = joinF 0 F' G := by
  funext i j
  unfold joinF
  rw [show i.blt 0 = false from rfl]
abbrev rdOf (nm : ByteArray) (bung : Int) (st : List St) (d : Dp) : Rd := ⟨nm, d.day, M.toLo bung st (M.dLo d.dip d.wr), M.toHi bung st (M.dHi bung d.dip d.wr)⟩
structure M.OkD (bung dip : Int) (st : List St) (d : Dp) : Prop where
  d0 : 0 ≤ d.day
  d1 : d.day ≤ 1000
  i0 : 0 ≤ d.dip
  i1 : d.dip ≤ 2 * bung
  w0 : 0 ≤ d.wr
  w1 : d.wr ≤ 2 * bung
  t0 : d.dip - d.wr ≤ dip
  t1 : dip ≤ d.dip + d.wr
  big : M.big bung st d.dip d.wr = false
section
variable {nm : ByteArray} {bung : Int} {st : List St} {dip : Int} {l : List Dp}
theorem holds_of (h : M.OkC nm bung st) (hb : bung ≤ 60) (p0 : 0 ≤ dip) (p1 : dip ≤ 2 * bung) {d : Dp} (hd : M.OkD bung dip st d) : M.Holds nm (M.toLo bung st dip) (M.toHi bung st dip) (rdOf nm bung st d) := by
  have i0 := hd.i0; have i1 := hd.i1; have w0 := hd.w0; have w1 := hd.w1; have t0 := hd.t0; have t1 := hd.t1
  have a1 : M.dLo d.dip d.wr ≤ dip := by unfold M.dLo; split <;> omega
  have a2 : dip ≤ M.dHi bung d.dip d.wr := by unfold M.dHi; split <;> omega
  refine ⟨rfl, hd.d0, hd.d1, (to_ok h hb).1, (to_mono h hb a1).1, (to_mono h hb a2).2, ?_⟩
  have := of_decide_eq_false hd.big
  show M.toHi bung st (M.dHi bung d.dip d.wr) ≤ 100000
  omega
theorem err_of (h : M.OkC nm bung st) (hb : bung ≤ 60) (p0 : 0 ≤ dip) (p1 : dip ≤ 2 * bung) {d : Dp} (hd : M.OkD bung dip st d) : M.rdErr nm d.day (M.toLo bung st (M.dLo d.dip d.wr)) (M.toHi bung st (M.dHi bung d.dip d.wr)) = 0 := by
  have hh := holds_of h hb p0 p1 hd
  have := (rd_ok (rs := [rdOf nm bung st d]) (to_ok h hb (d := dip)).2 (fun k hk => by
    have hk : k < 1 := hk
    obtain rfl : k = 0 := by omega
    exact hh) h.nm h.sz (k := 0) (Nat.zero_lt_one)).1
  exact this
theorem cr_wp (h : M.OkC nm bung st) (hb : bung ≤ 60) (hl : st.length ≤ 4) (p0 : 0 ≤ dip) (p1 : dip ≤ 2 * bung) {k : Nat} (hk : k < l.length) {nx : RT} {Q : (XF ⊕ YF) ⊕ List Ar → Prop} (hy : Q (.inr [rB true])) (d0 : 0 ≤ (l.getD k dD).day) (d1 : (l.getD k dD).day ≤ 1000) (i0 : 0 ≤ (l.getD k dD).dip) (i1 : (l.getD k dD).dip ≤ 2 * bung) (w0 : 0 ≤ (l.getD k dD).wr) (w1 : (l.getD k dD).wr ≤ 2 * bung)
    (hn : M.OkD bung dip st (l.getD k dD) → nx.wp Q) : (cr3 nm bung st dip l (k : Int) nx).wp Q := by
  have b0 := h.b0
  have n1 := h.n1
  unfold cr3
  simp only [lS_eq, Int.toNat_natCast]
  rw [w64_id (n := (l.getD k dD).dip - (l.getD k dD).wr) (by omega) (by omega), w64_id (n := (l.getD k dD).dip + (l.getD k dD).wr) (by omega) (by omega)]
  refine ⟨fun _ => hy, fun e => ⟨Enc.is_F _ _ _, by omega, by omega, by omega, Enc.is_F _ _ _, h, hb, hl, ⟨d0, by omega⟩, ⟨i0, i1⟩, ⟨w0, w1⟩, ?_⟩⟩
  obtain ⟨t0, t1⟩ := within_of (not_f e)
  cases hbig : M.big bung st (l.getD k dD).dip (l.getD k dD).wr with
  | true => exact ⟨fun _ => hy, fun e => absurd e (by decide)⟩
  | false =>
    have hd : M.OkD bung dip st (l.getD k dD) := ⟨d0, d1, i0, i1, w0, w1, t0, t1, hbig⟩
    refine ⟨fun e => absurd e (by decide), fun _ => ⟨fun e => absurd e (by decide), fun _ => ⟨h.sz, fun e => ?_, fun _ => hn hd⟩⟩⟩
    have e : (M.rdErr nm (l.getD k dD).day (M.toLo bung st (M.dLo (l.getD k dD).dip (l.getD k dD).wr)) (M.toHi bung st (M.dHi bung (l.getD k dD).dip (l.getD k dD).wr)) != 0) = true := e
    rw [err_of h hb p0 p1 hd] at e
    exact absurd e (by decide)
theorem bd_wp (h : M.OkC nm bung st) (hb : bung ≤ 60) (hl : st.length ≤ 4) (p0 : 0 ≤ dip) (p1 : dip ≤ 2 * bung) {k : Nat} (hk : k ≤ l.length) (hl6 : l.length ≤ 6) {nx ex : RT} {Q : (XF ⊕ YF) ⊕ List Ar → Prop} (hy : Q (.inr [rB true])) (hex : k = l.length → ex.wp Q)
    (hn : k < l.length → M.OkD bung dip st (l.getD k dD) → (0 < k → (l.getD (k - 1) dD).day ≤ (l.getD k dD).day) → nx.wp Q) : (bd3 nm bung st dip l (k : Int) nx ex).wp Q := by
  have b0 := h.b0
  unfold bd3
  simp only [Int.toNat_natCast]
  rw [show w64 (2 * bung) = 2 * bung from w64_id (by omega) (by omega)]
  refine ⟨fun hb1 => ?_, fun hb1 => hex ?_⟩
  · have hlt : (k : Int) < l.length := of_decide_eq_true hb1
    have hk1 : k < l.length := by omega
    have z : (0 : Int) ≤ k := by omega
    refine ⟨fun e1 => ⟨z, hlt, e1, hy⟩, fun e1 => ⟨fun e2 => ?_, fun e2 => ?_⟩⟩
    · have hk0 : (k : Int) > 0 := of_decide_eq_true e2
      have hp : w64 ((k : Int) - 1) = ((k - 1 : Nat) : Int) := by rw [w64_id (by omega) (by omega)]; omega
      rw [hp]
      simp only [Int.toNat_natCast]
      have q0 : (0 : Int) ≤ ((k - 1 : Nat) : Int) := by omega
      have q1 : ((k - 1 : Nat) : Int) < (l.length : Int) := by omega
      refine ⟨fun e3 => ⟨z, hlt, e1, e2, z, hlt, q0, q1, e3, hy⟩, fun e3 => ⟨fun e4 => ⟨z, hlt, e1, e2, z, hlt, q0, q1, e3, z, hlt, e4, hy⟩, fun e4 => ⟨fun e5 => ⟨z, hlt, e1, e2, z, hlt, q0, q1, e3, z, hlt, e4, z, hlt, e5, hy⟩, fun e5 => ⟨z, hlt, e1, e2, z, hlt, q0, q1, e3, z, hlt, e4, z, hlt, e5, z, hlt, z, hlt, z, hlt, z, hlt, ?_⟩⟩⟩⟩
      obtain ⟨a1, a2⟩ := within_of (not_f e1)
      obtain ⟨a3, a4⟩ := within_of (unl_z e4)
      obtain ⟨a5, a6⟩ := within_of (unl_z e5)
      have a7 := of_decide_eq_false e3
      exact cr_wp h hb hl p0 p1 hk1 hy a1 a2 a3 a4 a5 a6 fun hd => hn hk1 hd fun _ => by omega
    · have hk0 : ¬ (k : Int) > 0 := of_decide_eq_false e2
      refine ⟨fun e4 => ⟨z, hlt, e1, e2, z, hlt, e4, hy⟩, fun e4 => ⟨fun e5 => ⟨z, hlt, e1, e2, z, hlt, e4, z, hlt, e5, hy⟩, fun e5 => ⟨z, hlt, e1, e2, z, hlt, e4, z, hlt, e5, z, hlt, z, hlt, z, hlt, z, hlt, ?_⟩⟩⟩
      obtain ⟨a1, a2⟩ := within_of (not_f e1)
      obtain ⟨a3, a4⟩ := within_of (unl_z e4)
      obtain ⟨a5, a6⟩ := within_of (unl_z e5)
      exact cr_wp h hb hl p0 p1 hk1 hy a1 a2 a3 a4 a5 a6 fun hd => hn hk1 hd fun _ => by omega
  · have hge : ¬ (k : Int) < l.length := of_decide_eq_false hb1
    omega
structure M.Inv (nm : ByteArray) (bung dip : Int) (st : List St) (l : List Dp) (k : Nat) (rs : List Rd) : Prop where
  n : rs.length = k
  r : ∀ j, j < k → M.Holds nm (M.toLo bung st dip) (M.toHi bung st dip) (rs.getD j dR) ∧ (rs.getD j dR).day = (l.getD j dD).day
  d : ∀ j, 0 < j → j < k → (l.getD (j - 1) dD).day ≤ (l.getD j dD).day
theorem G3_eq {k : Nat} (hd : M.OkD bung dip st (l.getD k dD)) : (∀ j, j < eRd.st → (G3 nm bung st l (k : Int) 0 j).eqv (eRd.enc (rdOf nm bung st (l.getD k dD)) j)) ∧ eRd.rd (G3 nm bung st l (k : Int) 0) = rdOf nm bung st (l.getD k dD) := by
  have e : ∀ j, G3 nm bung st l (k : Int) 0 j = List.getD [D.str nm, dI (l.getD k dD).day, dI (M.toLo bung st (M.dLo (l.getD k dD).dip (l.getD k dD).wr)), dI (M.toHi bung st (M.dHi bung (l.getD k dD).dip (l.getD k dD).wr))] (0 * 4 + j) D.nilp := by
    intro j
    unfold G3
    simp only [lS_eq, Int.toNat_natCast]
    rw [hd.big]
    rfl
  constructor
  · intro j hj
    have hj : j < 4 := hj
    rw [e j]
    rcases (show j = 0 ∨ j = 1 ∨ j = 2 ∨ j = 3 by omega) with rfl | rfl | rfl | rfl <;> exact D.eqv_refl _
  · have : G3 nm bung st l (k : Int) 0 = fun j => List.getD [D.str nm, dI (l.getD k dD).day, dI (M.toLo bung st (M.dLo (l.getD k dD).dip (l.getD k dD).wr)), dI (M.toHi bung st (M.dHi bung (l.getD k dD).dip (l.getD k dD).wr))] (0 * 4 + j) D.nilp := funext e
    rw [this]
    rfl
theorem inv_push (h : M.OkC nm bung st) (hb : bung ≤ 60) (p0 : 0 ≤ dip) (p1 : dip ≤ 2 * bung) {k : Nat} {rs : List Rd} (hi : M.Inv nm bung dip st l k rs) (hd : M.OkD bung dip st (l.getD k dD)) (hm : 0 < k → (l.getD (k - 1) dD).day ≤ (l.getD k dD).day) : M.Inv nm bung dip st l (k + 1) (rs ++ [rdOf nm bung st (l.getD k dD)]) := by
  refine ⟨by simp [hi.n], fun j hj => ?_, fun j h0 hj => ?_⟩
  · rcases Nat.lt_or_ge j k with g | g
    · have e : (rs ++ [rdOf nm bung st (l.getD k dD)]).getD j dR = rs.getD j dR := by
        rw [List.getD_eq_getElem?_getD, List.getElem?_append_left (by rw [hi.n]; exact g), ← List.getD_eq_getElem?_getD]
      rw [e]; exact hi.r j g
    · obtain rfl : j = k := by omega
      have e : (rs ++ [rdOf nm bung st (l.getD j dD)]).getD j dR = rdOf nm bung st (l.getD j dD) := by
        rw [List.getD_eq_getElem?_getD, List.getElem?_append_right (by rw [hi.n]; exact Nat.le_refl _), hi.n, Nat.sub_self]; rfl
      rw [e]; exact ⟨holds_of h hb p0 p1 hd, rfl⟩
  · rcases Nat.lt_or_ge j k with g | g
    · exact hi.d j h0 g
    · obtain rfl : j = k := by omega
      exact hm h0
theorem lp_wp (h : M.OkC nm bung st) (hb : bung ≤ 60) (hl : st.length ≤ 4) (p0 : 0 ≤ dip) (p1 : dip ≤ 2 * bung) (hne : l.length ≠ 0) (hl6 : l.length ≤ 6) (hhi : M.toHi bung st dip ≤ 100000) : (lp3 nm bung st dip l).wp (fun zz => rsEqv zz [rB true]) := by
  refine ⟨fun z => match z with
      | .inl x => x.1 = 0 ∧ x.2.1 = 0 ∧ x.2.2.1 = 0
      | .inr y => ∃ k : Nat, 0 < k ∧ k ≤ l.length ∧ y.1 = (k : Int) ∧ y.2.1 = 0 ∧ y.2.2.1 = 0 ∧ M.Inv nm bung dip st l k y.2.2.2.1,
    fun z => match z with
      | .inl _ => l.length + 1
      | .inr y => l.length - y.1.toNat, ⟨rfl, rfl, rfl⟩, ?_, ?_⟩
  · rintro ⟨x, a, b, u⟩ ⟨hx, ha, hb'⟩
    have hx : x = ((0 : Nat) : Int) := hx
    have ha : a = 0 := ha
    have hb' : b = 0 := hb'
    subst hx ha hb'
    refine bd_wp h hb hl p0 p1 (k := 0) (Nat.zero_le _) hl6 (rsEqv_refl _) (fun e => absurd e.symm hne) fun hk hd hm => ?_
    obtain ⟨g1, g2⟩ := G3_eq (nm := nm) hd
    have hp := Enc.push eRd (l := []) g1 g2
    have j0 : joinF 0 nilF (G3 nm bung st l ((0 : Nat) : Int)) = joinF ([] : List Rd).length (eRd.F []) (G3 nm bung st l ((0 : Nat) : Int)) := join0
    have hi0 : M.Inv nm bung dip st l 0 [] := ⟨rfl, fun j hj => absurd hj (Nat.not_lt_zero _), fun j _ hj => absurd hj (Nat.not_lt_zero _)⟩
    have hi1 := inv_push h hb p0 p1 hi0 hd hm
    show T.wp (nx3x nm bung st l ((0 : Nat) : Int) 0 0) _
    unfold nx3x
    rw [j0]
    have e1 : eRd.list 1 (joinF ([] : List Rd).length (eRd.F []) (G3 nm bung st l ((0 : Nat) : Int))) = [] ++ [rdOf nm bung st (l.getD 0 dD)] := hp.2
    rw [e1]
    exact ⟨by decide, hp.1, Nat.le_refl _, ⟨1, by decide, by omega, w64_s (k := 0) (by omega), rfl, rfl, hi1⟩, by show l.length - (w64 (((0 : Nat) : Int) + 1)).toNat < l.length + 1; omega⟩
  · rintro ⟨y, a, b, rs, u⟩ ⟨k, hk0, hk, hy, ha, hb', hi⟩
    have hy : y = (k : Int) := hy
    have ha : a = 0 := ha
    have hb' : b = 0 := hb'
    have hi : M.Inv nm bung dip st l k rs := hi
    subst hy ha hb'
    refine bd_wp h hb hl p0 p1 (k := k) hk hl6 (rsEqv_refl _) (fun e => ?_) fun hk1 hd hm => ?_
    · subst e
      show T.wp (ex3y nm bung st dip 0 0 rs) _
      unfold ex3y
      have hlh := (to_ok h hb (d := dip)).2
      have hrs : ∀ j, j < rs.length → M.Holds nm (M.toLo bung st dip) (M.toHi bung st dip) (rs.getD j dR) := fun j hj => (hi.r j (by rw [← hi.n]; exact hj)).1
      have hl40 : rs.length ≤ 40 := by rw [hi.n]; omega
      have hbk := book_ok hlh hrs h.nm h.sz hl40 fun j hj h0 => by
        have hj' : j < l.length := by rw [← hi.n]; exact hj
        rw [(hi.r (j - 1) (by omega)).2, (hi.r j hj').2]
        exact hi.d j h0 hj'
      have hno := no_con hlh hrs
      obtain ⟨c1, c2, c3⟩ := at_all hlh hrs (t := 500) (by rw [hi.n]; exact hk0) (to_ok h hb).1 hhi
      have m1 : eMv.list 0 nilF = [] := rfl
      simp only [lS_eq, Enc.list_F, m1]
      have m2 : eMv.list 0 (eMv.F []) = [] := rfl
      rw [m2]
      refine ⟨Nat.le_refl _, Enc.is_F _ _ _, fun i j hi => absurd hi (Nat.not_lt_zero i), by omega, by decide, Enc.is_F _ _ _, fun i j hi => absurd hi (Nat.not_lt_zero i), hbk, hno, Nat.le_refl _, Enc.is_F _ _ _, fun i j hi => absurd hi (Nat.not_lt_zero i), hbk, hno, c1, h.sz, h.nm, by decide, fun _ => ⟨fun _ => ⟨fun _ => ⟨fun _ => ?_, fun e => ?_⟩, fun e => absurd e (by decide)⟩, fun e => absurd e (by decide)⟩, fun e => absurd e (by decide)⟩
      · rw [decide_eq_true c3]; exact rsEqv_refl _
      · exact absurd c2 (of_decide_eq_false e)
    · obtain ⟨g1, g2⟩ := G3_eq (nm := nm) hd
      have hp := Enc.push eRd (l := rs) g1 g2
      have hi1 := inv_push h hb p0 p1 hi hd hm
      show T.wp (nx3y nm bung st l (k : Int) 0 0 rs) _
      unfold nx3y
      rw [hp.2]
      have hn := hi.n
      have hw := w64_s (k := k) (by omega)
      have hn : rs.length = k := hn
      have hz : rs.length + 1 ≤ 1000000 := by omega
      exact ⟨hz, Nat.le_refl _, hp.1, Nat.le_refl _, ⟨k + 1, by omega, by omega, hw, rfl, rfl, hi1⟩, by show l.length - (w64 ((k : Int) + 1)).toNat < l.length - ((k : Int)).toNat; rw [hw]; omega⟩
end
theorem w3 (nm : ByteArray) (bung : Int) (st : List St) (dip : Int) (l : List Dp) : (tr3 nm bung st dip l).wp (fun zz => rsEqv zz [rB true]) := by
  unfold tr3
  simp only [lS_eq]
  refine ⟨fun e => absurd e (by decide), fun _ => ⟨Enc.is_F _ _ _, fun _ => rsEqv_refl _, fun e1 => ?_⟩⟩
  have e1 := not_f e1
  have hz : nm.size ≤ 1000000 := by
    unfold M.small at e1
    cases e : decide ((nm.size : Int) ≤ 20) with
    | false => rw [e] at e1; cases e1
    | true => have := of_decide_eq_true e; omega
  refine ⟨Enc.is_F _ _ _, hz, fun _ => rsEqv_refl _, fun e2 => ?_⟩
  have e2 : M.ckErr nm bung st = 0 := by simpa using e2
  have h := ok_of hz e2
  obtain ⟨hl, hb⟩ := small_of e1 h
  have b0 := h.b0
  rw [show w64 (2 * bung) = 2 * bung from w64_id (by omega) (by omega)]
  refine ⟨fun _ => rsEqv_refl _, fun e3 => ⟨fun _ => rsEqv_refl _, fun e4 => ⟨fun _ => rsEqv_refl _, fun e5 => ?_⟩⟩⟩
  obtain ⟨p0, p1⟩ := within_of (unl_z e3)
  have e4 : l.length ≠ 0 := by intro hc; rw [hc] at e4; exact absurd e4 (by decide)
  have e5 := of_decide_eq_false e5
  refine ⟨Enc.is_F _ _ _, by omega, Enc.is_F _ _ _, h, hb, hl, p0, p1, fun e => absurd e (by decide), fun _ => ⟨fun _ => rsEqv_refl _, fun e6 => ?_⟩⟩
  have e6 := of_decide_eq_false e6
  exact lp_wp h hb hl p0 p1 e4 (by omega) (by omega)
def dom3 : DomF
  | [.agg [.str nm, .int .i64 bung, .sl q_st n_st st_st F_st], .c (.int .i64 dip), .c (.sl q_l n_l st_l F_l)] => (match (Nat.beq st_st 3 || Nat.beq n_st 0) && (Nat.beq st_l 3 || Nat.beq n_l 0) with
    | true => some ([eSt.Is n_st F_st, eDp.Is n_l F_l], [rB true])
    | _ => none)
  | _ => none
theorem C3 : FOK Try.prog G0 gw 3 dom3 := by
  intro ags p r hd hp κ w xs hw hl hG hx
  unfold dom3 at hd
  split at hd
  · rename_i nm bung q_st n_st st_st F_st dip q_l n_l st_l F_l
    split at hd
    · rename_i hst
      rw [Bool.and_eq_true] at hst
      obtain ⟨gz_st, gz_l⟩ := hst
      simp only [Option.some.injEq, Prod.mk.injEq] at hd
      obtain ⟨rfl, rfl⟩ := hd
      obtain ⟨hI_st, hI_l, hp⟩ := hp
      have heq : agsEqv [.agg [.str nm, .int .i64 bung, .sl q_st n_st st_st F_st], .c (.int .i64 dip), .c (.sl q_l n_l st_l F_l)] [.agg [.str nm, .int .i64 bung, .sl q_st (eSt.list n_st F_st).length 3 (eSt.F (eSt.list n_st F_st))], .c (.int .i64 dip), .c (.sl q_l (eDp.list n_l F_l).length 3 (eDp.F (eDp.list n_l F_l)))] := ⟨⟨rfl, rfl, toE eSt (k := 3) rfl gz_st hI_st, trivial⟩, rfl, toE eDp (k := 3) rfl gz_l hI_l, trivial⟩
      generalize eSt.list n_st F_st = st at *
      generalize eDp.list n_l F_l = l at *
      exact fokX_fin mixed gw_stable (sl := [v4, v5, v6, v7, v9, v8, v10, v11, v12, v14, v13, v15]) ⟨S4, S5, S6, S7, S9, S8, S10, S11, S12, S14, S13, S15, trivial⟩ Try.func3 hw hl hG hx heq rfl (t3 nm bung q_st st dip q_l l) (w3 nm bung st dip l)
    · cases hd
  · cases hd
end Go.Ga
end

section
set_option linter.unusedVariables false
set_option linter.unusedSimpArgs false
namespace Go.Rw
open Go Go.ChangeShapes Go.WideShapes Go.RowKit Go.ChangeAt
open Go.V (F2 D fullK fullK_cell f2_append f2_len f2_get)
section
variable {H : Type} {enc : TypeId × Value → H} {P : Program} {w : World} {base : Nat} {sp : Nat → Bool} {hd : Bool}
theorem trodAll_below (hl : laidOutB P = true) {W W' : World} (hb : Below W.heap.size W W') : ∀ {ts : List TypeId} {vs : List Value} {ds : List (DataW H)} {ps : List MemPlace},
    (∀ t ∈ ts, P.readableRec t = true ∧ t < P.types.size) → DataW.TrodAll enc P W 0 (fun _ => true) true ts vs ds ps → (∀ x ∈ ps, x.block < W.heap.size) →
    DataW.TrodAll enc P W' 0 (fun b => decide (b < W.heap.size)) true ts vs ds ps
  | [], _, _, _, _, h, _ => by
    obtain ⟨rfl, rfl, rfl⟩ := trodAll_nil h
    exact trodAll_mk0
  | t :: ts, _, _, _, hr, h, hlt => by
    obtain ⟨v, vs1, d, ds1, a, b, rfl, rfl, rfl, h1, h2⟩ := trodAll_cons h
    refine ⟨a, b, ?_, trodAll_below hl hb (fun u hu => hr u (List.mem_cons_of_mem _ hu)) h2 fun x hx => hlt x (List.mem_append_right _ hx), rfl⟩
    have ht := hr t (List.mem_cons_self ..)
    exact Below.trod hl ht.1 ht.2 h1 hb fun x hx => hlt x (List.mem_append_left _ hx)
theorem law_post {fn : Func} {s : ChangeSpec} {apart fresh handsOn : Bool} {W W' : World} {args : Array Value} {ds gs : List (DataW H)} {before : List MemPlace} {tb : TypeId} (hl : laidOutB P = true)
    (hr : ∀ t ∈ fn.params.toList, P.readableRec t = true ∧ t < P.types.size) (hv : s.vars = []) (hrt : fn.resultTypes = #[tb]) (hbool : P.underlying tb = some .bool)
    (hfn : s.fn H ds = { results := [.lit (.bool true)], args := ds })
    (hW : DataW.Whole enc P fn.params.toList s.vars apart W args.toList ds gs before) (hb : Below W.heap.size W W') : s.post enc P fn apart fresh handsOn false W args (.bool true) W' := by
  have hW' := hW
  obtain ⟨p, q, hA, hV, rfl, _, _⟩ := hW'
  have hlt : ∀ x ∈ p ++ q, x.block < W.heap.size := fun x hx => hW.lt x hx
  rw [hv] at hV
  have hgs : gs = [] ∧ q = [] := by
    cases gs with
    | nil => exact ⟨rfl, hV⟩
    | cons g r => exact absurd hV (by intro h; cases h)
  obtain ⟨rfl, rfl⟩ := hgs
  have e : s.fn H (ds ++ []) = { results := [.lit (.bool true)], args := ds } := by rw [List.append_nil]; exact hfn
  refine ⟨ds, [], _, [], p, [], hW, ?_, ?_, ?_, hb.frame _, fun h => by cases h⟩
  · rw [e, hrt]
    exact trodAll_mk1 (shut_bool hbool true)
  · rw [e]
    exact trodAll_below hl hb hr hA fun x hx => hlt x (List.mem_append_left _ hx)
  · rw [e, hv]
    rfl
end
end Go.Rw
end

section
set_option linter.unusedVariables false
set_option linter.unusedSimpArgs false
namespace Go.Rw
open Go Go.ChangeShapes Go.WideShapes Go.RowKit Go.ChangeAt
open Go.V (F2 D fullK fullK_cell f2_append f2_len f2_get)
inductive SK where
  | i
  | s
  | sl (sh : List SK)
theorem wf_i64 {n : Int} (h : (Lit.int .i64 n).wf = true) : -9223372036854775808 ≤ n ∧ n ≤ 9223372036854775807 := by
  unfold Lit.wf at h
  rw [Bool.and_eq_true] at h
  have h1 : IntKind.i64.min ≤ n := of_decide_eq_true h.1
  have h2 : n ≤ IntKind.i64.max := of_decide_eq_true h.2
  rw [show IntKind.i64.min = -9223372036854775808 by decide] at h1
  rw [show IntKind.i64.max = 9223372036854775807 by decide] at h2
  exact ⟨h1, h2⟩
inductive DG : SK → D → Prop where
  | i (n : Int) (h : -9223372036854775808 ≤ n ∧ n ≤ 9223372036854775807) : DG .i (.int .i64 n)
  | s (t : ByteArray) : DG .s (.str t)
  | sl (sh : List SK) (len : Nat) (F : Nat → Nat → D) (h : ∀ i j k, i < len → sh[j]? = some k → DG k (F i j)) : DG (.sl sh) (.sl false len sh.length F)
def MG (w : World) (k : SK) (v : Value) : Prop := ∃ d, DG k d ∧ D.rel (fullK w) d v
def sgFs (P : Program) (g : TypeId → Option (List SK)) : List Field → Nat → Nat → Option (List SK)
  | [], o, c => (match Nat.beq o c with | true => some [] | false => none)
  | f :: fs, o, c => (match Nat.beq f.offset o, g f.type, sgFs P g fs (o + P.cellsOf f.type) c with
    | true, some a, some b => some (a ++ b)
    | _, _, _ => none)
def sgArr (l : List SK) : Nat → List SK
  | 0 => []
  | n + 1 => l ++ sgArr l n
def sg (P : Program) : Nat → TypeId → Option (List SK)
  | 0, _ => none
  | k + 1, t => match P.underlying t with
    | some (.int .i64) => some [.i]
    | some .string => some [.s]
    | some (.struct fs) => sgFs P (sg P k) fs.toList 0 (P.cellsOf t)
    | some (.array n e) => (match sg P k e, Nat.beq (P.cellsOf t) (n * P.cellsOf e) with | some l, true => some (sgArr l n) | _, _ => none)
    | some (.slice e) => (match sg P k e with | some sh => (match Nat.beq (P.cellsOf e) sh.length && Nat.blt 0 sh.length with | true => some [.sl sh] | false => none) | none => none)
    | _ => none
section
variable {H : Type} {enc : TypeId × Value → H} {P : Program} {w : World} {base : Nat} {sp : Nat → Bool} {hd : Bool}
theorem sgFs_spec {R : SK → Value → Prop} {g : TypeId → Option (List SK)} : ∀ (fs : List Field) (o c : Nat) (cs : List Value) {l : List SK}, sgFs P g fs o c = some l → cs.length = c →
    (∀ f ∈ fs, ∀ l', g f.type = some l' → F2 R l' ((cs.drop f.offset).take (P.cellsOf f.type))) → F2 R l (cs.drop o)
  | [], o, c, cs, l, h, hl, _ => by
    unfold sgFs at h
    split at h
    · rename_i hb
      have : o = c := Nat.eq_of_beq_eq_true hb
      simp only [Option.some.injEq] at h
      subst h
      rw [this, ← hl, List.drop_length]
      exact .nil
    · cases h
  | f :: fs, o, c, cs, l, h, hl, hf => by
    simp only [sgFs] at h
    split at h
    · rename_i a b hb ha hrest
      have ho : f.offset = o := Nat.eq_of_beq_eq_true hb
      simp only [Option.some.injEq] at h
      subst h
      have h1 := hf f (List.mem_cons_self ..) a ha
      have h2 := sgFs_spec fs _ c cs hrest hl fun g hg => hf g (List.mem_cons_of_mem _ hg)
      rw [ho] at h1
      have e : cs.drop o = (cs.drop o).take (P.cellsOf f.type) ++ (cs.drop o).drop (P.cellsOf f.type) := (List.take_append_drop _ _).symm
      rw [e, List.drop_drop]
      exact f2_append h1 h2
    · cases h
theorem sgArr_spec {R : SK → Value → Prop} {l : List SK} {c : Nat} : ∀ (n : Nat) (cs : List Value), cs.length = n * c → (∀ i, i < n → F2 R l ((cs.drop (i * c)).take c)) → F2 R (sgArr l n) cs
  | 0, cs, h, _ => by
    have : cs = [] := List.length_eq_zero_iff.1 (by simpa using h)
    subst this
    exact .nil
  | n + 1, cs, h, hf => by
    have h0 := hf 0 (by omega)
    rw [Nat.zero_mul, List.drop_zero] at h0
    have hr := sgArr_spec (c := c) n (cs.drop c) (by rw [List.length_drop, h, Nat.succ_mul]; omega) fun i hi => by
      have := hf (i + 1) (by omega)
      rw [List.drop_drop, show c + i * c = (i + 1) * c by rw [Nat.succ_mul]; omega]
      exact this
    rw [← List.take_append_drop c cs]
    exact f2_append h0 hr
theorem trod_sg : ∀ (k fuel : Nat) (t : TypeId) (cs : List Value) (x : DataW H × List MemPlace) {l : List SK}, sg P k t = some l → DataW.trod enc P w base sp hd fuel t cs = some x → F2 (MG w) l cs
  | 0, _, _, _, _, _, h, _ => by cases h
  | k + 1, fuel, t, cs, x, l, h, hx => by
    unfold sg at h
    split at h
    · rename_i ht
      simp only [Option.some.injEq] at h
      subst h
      obtain ⟨n, rfl, rfl, hwf⟩ := DataW.trod_int ht hx
      exact .cons ⟨.int .i64 n, .i n (wf_i64 hwf), rfl⟩ .nil
    · rename_i ht
      simp only [Option.some.injEq] at h
      subst h
      obtain ⟨s, rfl, rfl, _⟩ := DataW.trod_string ht hx
      exact .cons ⟨.str s, .s s, rfl⟩ .nil
    · rename_i fs ht
      obtain ⟨xs, n, _, rfl, hl, hlen, hf⟩ := DataW.trod_struct ht hx
      have := sgFs_spec (P := P) (R := MG w) fs.toList 0 (P.cellsOf t) cs h hl (by
        intro f hm l' hl'
        obtain ⟨i, hi, hi'⟩ := List.getElem_of_mem hm
        have hgi : fs[i]? = some f := by rw [← Array.getElem?_toList, List.getElem?_eq_getElem hi, hi']
        have hlt : i < xs.length := by rw [hlen]; exact (Array.getElem?_eq_some_iff.1 hgi).1
        have hy : xs[i]? = some xs[i] := List.getElem?_eq_getElem hlt
        have := hf i f hgi
        rw [hy] at this
        exact trod_sg k n f.type _ _ hl' this)
      simpa using this
    · rename_i n e ht
      split at h
      · rename_i l' hl' hcb
        simp only [Option.some.injEq] at h
        subst h
        obtain ⟨xs, m, _, ex, hlen, hl, hel⟩ := DataW.trod_array ht hx
        have hcz : P.cellsOf t = n * P.cellsOf e := Nat.eq_of_beq_eq_true hcb
        refine sgArr_spec (c := P.cellsOf e) n cs (by rw [← hcz]; exact hlen) fun i hi => ?_
        have hlt : i < xs.length := by omega
        have hy : xs[i]? = some xs[i] := List.getElem?_eq_getElem hlt
        have := hel i hi
        rw [hy] at this
        exact trod_sg k m e _ _ hl' this
      · cases h
    · rename_i e ht
      split at h
      · rename_i sh hsh
        split at h
        · rename_i hc
          simp only [Option.some.injEq] at h
          subst h
          rw [Bool.and_eq_true] at hc
          have hn : P.cellsOf e = sh.length := Nat.eq_of_beq_eq_true hc.1
          have hn0 : 0 < sh.length := Nat.le_of_ble_eq_true hc.2
          rcases DataW.trod_slice ht hx with ⟨h1, _⟩ | ⟨a, len0, cap0, elems, rest, n', _, h1, _, _, hlc, _, hel, hget, _⟩
          · rw [h1]
            exact .cons ⟨.sl false 0 sh.length (fun _ _ => .nilp), .sl sh 0 _ (fun i j k hi => by omega), .inl ⟨rfl, rfl, rfl⟩⟩ .nil
          · rw [h1]
            rw [hn] at hget
            have each : ∀ i, i < len0 → ∀ j, j < sh.length → ∃ d, (∀ k', sh[j]? = some k' → DG k' d) ∧ ∃ y, w.cell? ((a.add (i * sh.length)).add j) = some y ∧ D.rel (fullK w) d y := by
              intro i hi j hj
              have hg := hget i hi
              have hlt : i < elems.length := by omega
              rw [List.getElem?_eq_getElem hlt] at hg
              simp only [Option.bind_eq_some_iff] at hg
              obtain ⟨cs, hcs, hx⟩ := hg
              have hF := trod_sg k n' e cs _ hsh hx
              obtain ⟨_, hl, hcell⟩ := World.cells?_some hcs
              obtain ⟨y, hy, hm⟩ := f2_get hF (i := j) (List.getElem?_eq_getElem hj)
              obtain ⟨d, hd1, hd2⟩ := hm
              have hcj := hcell j hj
              exact ⟨d, fun k' hk' => by rw [List.getElem?_eq_getElem hj] at hk'; cases hk'; exact hd1, y, by rw [hcj, hy], hd2⟩
            have spot0 : 0 < len0 → a.spot = none := by
              intro hp
              obtain ⟨_, _, y, hy, _⟩ := each 0 hp 0 hn0
              have := World.cell?_spot hy
              simpa [Addr.add] using this
            refine .cons ⟨.sl false len0 sh.length (fun i j => if h : i < len0 ∧ j < sh.length then Classical.choose (each i h.1 j h.2) else .nilp), .sl sh len0 _ (fun i j k' hi hk' => ?_), .inr ⟨a, cap0, rfl, hlc, spot0, fun i j hi hj => ?_⟩⟩ .nil
            · have hj : j < sh.length := (List.getElem?_eq_some_iff.1 hk').1
              simp only [dif_pos (And.intro hi hj)]
              exact (Classical.choose_spec (each i hi j hj)).1 k' hk'
            · obtain ⟨_, y, hy, hr⟩ := Classical.choose_spec (each i hi j hj)
              have hp : a.spot = none := spot0 (by omega)
              have e1 : (a.add (i * sh.length)).add j = ⟨a.block, a.off + i * sh.length + j, none⟩ := by
                obtain ⟨b, off, spot⟩ := a
                simp only at hp
                subst hp
                rw [Go.WideShapes.add_plain, Go.WideShapes.add_plain]
              rw [e1] at hy
              refine ⟨_, fullK_cell hy, ?_⟩
              simp only [dif_pos (And.intro hi hj)]
              exact hr
        · cases h
      · cases h
    · cases h
theorem open_sl {r : Reach} {b0 : Nat} {t e : TypeId} {v : Value} {d : DataW H} {p : List MemPlace} (k : Nat) {sh : List SK} (ht : P.underlying t = some (.slice e)) (ha : sg P k t = some [.sl sh])
    (hv : Value.okWide P w r b0 t v) (h : DataW.Trod enc P w base sp hd t v d p) : MG w (.sl sh) v := by
  obtain ⟨a0, len0, cap0, rfl⟩ := okWide_slice ht hv
  obtain ⟨fuel, hf⟩ := h
  have hc : (Value.slice a0 len0 cap0).cells.toList = [Value.slice a0 len0 cap0] := rfl
  rw [hc] at hf
  have := trod_sg k fuel t _ _ ha hf
  cases this with
  | cons h _ => exact h
theorem open_st {r : Reach} {b0 : Nat} {t : TypeId} {fs : Array Field} {v : Value} {d : DataW H} {p : List MemPlace} (k : Nat) {l : List SK} (ht : P.underlying t = some (.struct fs)) (ha : sg P k t = some l)
    (hv : Value.okWide P w r b0 t v) (h : DataW.Trod enc P w base sp hd t v d p) : ∃ cs : List Value, F2 (MG w) l cs ∧ v = .agg cs.toArray := by
  obtain ⟨cs, rfl, hsz⟩ := okWide_struct ht hv
  obtain ⟨fuel, hf⟩ := h
  have hF : F2 (MG w) l cs.toList := trod_sg k fuel t _ _ ha hf
  exact ⟨cs.toList, hF, by rw [Array.toArray_toList]⟩
theorem mg_i {v : Value} (h : MG w .i v) : ∃ n, v = .int .i64 n ∧ -9223372036854775808 ≤ n ∧ n ≤ 9223372036854775807 := by
  obtain ⟨d, hd, hr⟩ := h
  cases hd with
  | i n hn => exact ⟨n, hr, hn⟩
theorem mg_sl {sh : List SK} {v : Value} (h : MG w (.sl sh) v) : ∃ (len : Nat) (F : Nat → Nat → D), (D.sl false len sh.length F).rel (fullK w) v ∧ ∀ i j k, i < len → sh[j]? = some k → DG k (F i j) := by
  obtain ⟨d, hd, hr⟩ := h
  cases hd with
  | sl _ len F hF => exact ⟨len, F, hr, hF⟩
theorem dg_i {d : D} (h : DG .i d) : ∃ n, d = .int .i64 n ∧ -9223372036854775808 ≤ n ∧ n ≤ 9223372036854775807 := by cases h with | i n hn => exact ⟨n, rfl, hn⟩
end
end Go.Rw
end
