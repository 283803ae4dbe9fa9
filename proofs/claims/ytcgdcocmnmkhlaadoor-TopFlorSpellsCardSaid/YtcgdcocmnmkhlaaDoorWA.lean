/- Chapter 3 with the second engine: spells and measurements: contracts, plain laws; FlorSpells and FlorFollows answer true, whatever the input. -/
import Derived.Test.YtcgdcocmnmkhlaaDoorVE
import Derived.Test.YtcgdcocmnmkhlaaDoorD2
import Derived.Test.YtcgdcocmnmkhlaaDoorD3
import Derived.Test.YtcgdcocmnmkhlaaDoorF13
import Derived.Test.YtcgdcocmnmkhlaaDoorF12
import Derived.Test.YtcgdcocmnmkhlaaDoorL6
set_option linter.unusedVariables false
set_option linter.unusedSimpArgs false
section
/- Chapter 3 with the second engine: how its values lie; the domains of contracts. -/
set_option linter.unusedVariables false
set_option linter.unusedSimpArgs false
namespace Go.Fl2
open Go.V Go.Fl

def G0 : GT := fun _ => none
def rdI (F : Nat → D) (j : Nat) : Int := match F j with | .int _ n => n | _ => 0
abbrev dI (n : Int) : D := .int .i64 n
abbrev dB (b : Bool) : D := .bool b
abbrev rI (n : Int) : Ar := .c (.int .i64 n)
abbrev rB (b : Bool) : Ar := .c (.bool b)
abbrev dsRg (r : M.Rg) : List D := [dI r.lo, dI r.hi]
abbrev dsW (w : M.Wine) : List D := [dI w.v0, dI w.v1, dI w.s0, dI w.s1, dI w.c0, dI w.c1]
abbrev dsR (r : M.Rate) : List D := [dI r.a, dI r.b, dI r.c, dI r.d]
structure Spell where
  r : M.Rate
  d : Int
structure Meas where
  day : Int
  w : M.Wine
def eI : Enc Int := ⟨1, fun n _ => dI n, fun F => rdI F 0, 0, fun _ => rfl⟩
def encS (s : Spell) : Nat → D
  | 0 => dI s.r.a
  | 1 => dI s.r.b
  | 2 => dI s.r.c
  | 3 => dI s.r.d
  | _ => dI s.d
def eS : Enc Spell := ⟨5, encS, fun F => ⟨⟨rdI F 0, rdI F 1, rdI F 2, rdI F 3⟩, rdI F 4⟩, ⟨⟨0, 0, 0, 0⟩, 0⟩, fun _ => rfl⟩
def encW (w : M.Wine) : Nat → D
  | 0 => dI w.v0
  | 1 => dI w.v1
  | 2 => dI w.s0
  | 3 => dI w.s1
  | 4 => dI w.c0
  | _ => dI w.c1
def eW : Enc M.Wine := ⟨6, encW, fun F => ⟨rdI F 0, rdI F 1, rdI F 2, rdI F 3, rdI F 4, rdI F 5⟩, ⟨0, 0, 0, 0, 0, 0⟩, fun _ => rfl⟩
def encM (m : Meas) : Nat → D
  | 0 => dI m.day
  | 1 => dI m.w.v0
  | 2 => dI m.w.v1
  | 3 => dI m.w.s0
  | 4 => dI m.w.s1
  | 5 => dI m.w.c0
  | _ => dI m.w.c1
def eM : Enc Meas := ⟨7, encM, fun F => ⟨rdI F 0, ⟨rdI F 1, rdI F 2, rdI F 3, rdI F 4, rdI F 5, rdI F 6⟩⟩, ⟨0, ⟨0, 0, 0, 0, 0, 0⟩⟩, fun _ => rfl⟩

/-- A short list of numbers. -/
def intsL : Nat → (Nat → Nat → D) → Option (List Int)
  | 0, _ => some []
  | n + 1, F => match F 0 0, intsL n (fun i => F (i + 1)) with | .int .i64 x, some l => some (x :: l) | _, _ => none
theorem intsL_spec : ∀ {n : Nat} {F : Nat → Nat → D} {l : List Int}, intsL n F = some l → l.length = n ∧ ∀ i, i < n → F i 0 = dI (l.getD i 0) := by
  intro n
  induction n with
  | zero => intro F l h; simp [intsL] at h; subst h; exact ⟨rfl, fun i hi => by omega⟩
  | succ n ih =>
    intro F l h
    simp only [intsL] at h
    split at h
    · rename_i x k hx hk
      simp only [Option.some.injEq] at h; subst h
      obtain ⟨h1, h2⟩ := ih hk
      refine ⟨by simp [h1], fun i hi => ?_⟩
      cases i with
      | zero => simpa using hx
      | succ i => simpa using h2 i (by omega)
    · cases h

def dom76 : DomF
  | [.c (.sl q len st F)] => (match Nat.beq st 1 && Nat.ble len 1000, intsL len F with
    | true, some l => some ([], [rI (M.first l)])
    | _, _ => none)
  | _ => none
def v76 : Nat × Sm := (76, fokSm dom76)

/- The plain models of functions over lists. -/
/-- The wine behind spells, from the i-th one on. -/
def overFrom : M.Wine → List Spell → Int → M.Wine × Int × Int
  | w, [], _ => (w, 0, 0)
  | w, s :: l, i => cond ((M.After w s.r s.d).2 != 0) (M.wine0, i, (M.After w s.r s.d).2) (overFrom (M.After w s.r s.d).1 l (i + 1))
def overErr (w : M.Wine) (l : List Spell) : Int := M.first [M.checkWine w, M.unl (decide ((l.length : Int) ≤ 20)) 8]
def over (w : M.Wine) (l : List Spell) : M.Wine × Int × Int := cond (overErr w l != 0) (M.wine0, 0, overErr w l) (overFrom w l 0)
def dom36 : DomF
  | [.agg [.int .i64 v0, .int .i64 v1, .int .i64 s0, .int .i64 s1, .int .i64 c0, .int .i64 c1], .c (.sl _ len st F)] => (match Nat.beq st 5 with
    | true => some ([eS.Is len F, len ≤ 1000000], [.agg (dsW (over ⟨v0, v1, s0, s1, c0, c1⟩ (eS.list len F)).1), rI (over ⟨v0, v1, s0, s1, c0, c1⟩ (eS.list len F)).2.1, rI (over ⟨v0, v1, s0, s1, c0, c1⟩ (eS.list len F)).2.2])
    | false => none)
  | _ => none
def v36 : Nat × Sm := (36, fokSm dom36)
def bs (n : Nat) (sh : List Eng.Shp) (d : Eng.DomG) : Nat × Sm := (n, fokSm (bdom sh d))
def v21 := bs 21 [.agg] d21
def v22 := bs 22 [.agg] d22
def v24 := bs 24 [.agg] d24
def v23 := bs 23 [.agg] d23
def v85 := bs 85 [.c, .c] d85
def v27 := bs 27 [.agg, .agg, .c] d27
def v29 := bs 29 [.agg, .agg, .c] d29
def v30 := bs 30 [.agg, .agg, .c] d30
def v51 := bs 51 [.agg, .agg] d51
def v95 := bs 95 [.agg] d95
def v96 := bs 96 [.agg, .agg] d96
def v97 := bs 97 [.agg, .agg] d97
def v98 := bs 98 [.agg] d98
def v99 := bs 99 [.agg, .agg] d99
end Go.Fl2
end

section
/- Chapter 3 with the second engine: the first error of a list; the wine behind spells. -/
set_option linter.unusedVariables false
set_option linter.unusedSimpArgs false
set_option maxRecDepth 100000
namespace Go.Fl2
open Go.V Go.Fl Go.Proofs

theorem wrap_id {n : Int} (h0 : -9223372036854775808 ≤ n) (h1 : n < 9223372036854775808) : IntKind.wrap IntKind.i64 n = n := by rw [IntKind.wrap_i64]; omega
theorem getD_drop {α : Type} {l : List α} {d : α} {k : Nat} (h : k < l.length) : l.drop k = l.getD k d :: l.drop (k + 1) := by
  rw [List.drop_eq_getElem_cons h]; simp [h]
theorem G0_in (κ : Still) : GIn G0 κ := by intro g n F h; cases h
theorem t76 (q : Bool) (l : List Int) : runFn Tryd.prog G0 (lookS []) [(2, [.slot 7 (.int .i64)], none)] 40 Tryd.f76 [.c (.sl q l.length 1 (eI.F l))] =
    T.loop (Int × PUnit) ((0 : Int), PUnit.unit) fun (x : Int × PUnit) => T.br (decide (Prod.fst x < ↑(List.length l))) (T.need ((0 : Int) ≤ Prod.fst x) (T.need (Prod.fst x < ↑(List.length l)) (T.br (List.getD l (Int.toNat (Prod.fst x)) (0 : Int) != (0 : Int)) (T.ret (Sum.inr [Ar.c (D.int IntKind.i64 (List.getD l (Int.toNat (Prod.fst x)) (0 : Int)))])) (T.ret (Sum.inl (IntKind.wrap IntKind.i64 (Prod.fst x + (1 : Int)), PUnit.unit)))))) (T.ret (Sum.inr [Ar.c (D.int IntKind.i64 (0 : Int))])) := by kernel_rfl
theorem C76v : FOK Tryd.prog G0 gw 76 dom76 := by
  intro ags p r hd hp κ w xs hw hl hG hx
  unfold dom76 at hd
  split at hd
  · rename_i q len st F
    split at hd
    · rename_i l hst hls
      simp only [Bool.and_eq_true] at hst
      have h1 := Nat.eq_of_beq_eq_true hst.1
      have h2 := Nat.le_of_ble_eq_true hst.2
      subst h1
      obtain ⟨hlen, hF⟩ := intsL_spec hls
      simp only [Option.some.injEq, Prod.mk.injEq] at hd
      obtain ⟨rfl, rfl⟩ := hd
      subst hlen
      refine fok_fin mixed gw_stable (sl := []) trivial Tryd.func76 hw hl hG hx (ags' := [.c (.sl q l.length 1 (eI.F l))]) ⟨⟨id, rfl, fun _ => rfl, fun i j hi hj => ?_⟩, trivial⟩ rfl (t76 q l) ?_
      · obtain rfl : j = 0 := by omega
        rw [hF i hi]; exact D.eqv_refl _
      · refine ⟨fun x => 0 ≤ x.1 ∧ x.1 ≤ l.length ∧ M.first l = M.first (l.drop x.1.toNat), fun x => l.length - x.1.toNat, ⟨Int.le_refl _, by simp, by simp⟩, fun x ⟨g1, g2, g3⟩ => ?_⟩
        obtain ⟨k, u⟩ := x
        simp only at g1 g2 g3
        simp only [T.wp, LoopP, decide_eq_true_eq, decide_eq_false_iff_not, bne_iff_ne, ne_eq, bne_eq_false_iff_eq]
        refine ⟨fun hlt => ⟨g1, hlt, fun hne => ?_, fun heq => ?_⟩, fun hge => ?_⟩
        · have hk : k.toNat < l.length := by omega
          rw [g3, getD_drop (d := 0) hk]
          have : (l.getD k.toNat 0 != 0) = true := by simpa using hne
          simp only [M.first, this, cond_true]
          exact rsEqv_refl _
        · have hk : k.toNat < l.length := by omega
          rw [wrap_id (by omega) (by omega)]
          refine ⟨⟨by omega, by omega, ?_⟩, by omega⟩
          rw [g3, getD_drop (d := 0) hk, show (k + 1).toNat = k.toNat + 1 by omega]
          simp only [M.first]
          rw [heq]; rfl
        · have hk : l.length ≤ k.toNat := by omega
          rw [g3, List.drop_of_length_le hk]
          exact rsEqv_refl _
    · cases hd
  · cases hd
theorem S76v : SumOK Tryd.prog G0 gw 76 (fokSm dom76) := fok_sum Tryd.func76 rfl C76v
theorem S21v : SumOK Tryd.prog G0 gw 21 (fokSm (bdom [.agg] d21)) := fok_sum Tryd.func21 rfl (bridge C21)
theorem S22v : SumOK Tryd.prog G0 gw 22 (fokSm (bdom [.agg] d22)) := fok_sum Tryd.func22 rfl (bridge C22)
theorem S23v : SumOK Tryd.prog G0 gw 23 (fokSm (bdom [.agg] d23)) := fok_sum Tryd.func23 rfl (bridge C23)
theorem S24v : SumOK Tryd.prog G0 gw 24 (fokSm (bdom [.agg] d24)) := fok_sum Tryd.func24 rfl (bridge C24)
theorem S85v : SumOK Tryd.prog G0 gw 85 (fokSm (bdom [.c, .c] d85)) := fok_sum Tryd.func85 rfl (bridge C85)
theorem S27v : SumOK Tryd.prog G0 gw 27 (fokSm (bdom [.agg, .agg, .c] d27)) := fok_sum Tryd.func27 rfl (bridge C27)
theorem S29v : SumOK Tryd.prog G0 gw 29 (fokSm (bdom [.agg, .agg, .c] d29)) := fok_sum Tryd.func29 rfl (bridge C29)
theorem S30v : SumOK Tryd.prog G0 gw 30 (fokSm (bdom [.agg, .agg, .c] d30)) := fok_sum Tryd.func30 rfl (bridge C30)
theorem S51v : SumOK Tryd.prog G0 gw 51 (fokSm (bdom [.agg, .agg] d51)) := fok_sum Tryd.func51 rfl (bridge C51)
theorem S95v : SumOK Tryd.prog G0 gw 95 (fokSm (bdom [.agg] d95)) := fok_sum Tryd.func95 rfl (bridge C95)
theorem S96v : SumOK Tryd.prog G0 gw 96 (fokSm (bdom [.agg, .agg] d96)) := fok_sum Tryd.func96 rfl (bridge C96)
theorem S97v : SumOK Tryd.prog G0 gw 97 (fokSm (bdom [.agg, .agg] d97)) := fok_sum Tryd.func97 rfl (bridge C97)
theorem S98v : SumOK Tryd.prog G0 gw 98 (fokSm (bdom [.agg] d98)) := fok_sum Tryd.func98 rfl (bridge C98)
theorem S99v : SumOK Tryd.prog G0 gw 99 (fokSm (bdom [.agg, .agg] d99)) := fok_sum Tryd.func99 rfl (bridge C99)
theorem t36 (v0 v1 s0 s1 c0 c1 : Int) (q : Bool) (l : List Spell) : runFn Tryd.prog G0 (lookS [v21, v85, v27, v76]) [(5, [.slot 26 (.int .i64), .blk 2 [.int .i64, .int .i64, .int .i64, .int .i64, .int .i64, .int .i64], .blk 4 [.int .i64, .int .i64, .int .i64, .int .i64, .int .i64, .int .i64]], none)] 40 Tryd.f36 [.agg [dI v0, dI v1, dI s0, dI s1, dI c0, dI c1], .c (.sl q l.length 5 (eS.F l))] =
    T.br (M.first [M.checkWine { v0 := v0, v1 := v1, s0 := s0, s1 := s1, c0 := c0, c1 := c1 }, M.unl (decide (↑(List.length l) ≤ (20 : Int))) (8 : Int)] != (0 : Int)) (T.ret [Ar.agg [D.int IntKind.i64 (0 : Int), D.int IntKind.i64 (0 : Int), D.int IntKind.i64 (0 : Int), D.int IntKind.i64 (0 : Int), D.int IntKind.i64 (0 : Int), D.int IntKind.i64 (0 : Int)], Ar.c (D.int IntKind.i64 (0 : Int)), Ar.c (D.int IntKind.i64 (M.first [M.checkWine { v0 := v0, v1 := v1, s0 := s0, s1 := s1, c0 := c0, c1 := c1 }, M.unl (decide (↑(List.length l) ≤ (20 : Int))) (8 : Int)]))])
  (T.loop (Int × Int × Int × Int × Int × Int × Int × Int × Int × Int × Int × Int × Int × PUnit) ((0 : Int), v0, v1, s0, s1, c0, c1, (0 : Int), (0 : Int), (0 : Int), (0 : Int), (0 : Int), (0 : Int), PUnit.unit) fun (x : Int × Int × Int × Int × Int × Int × Int × Int × Int × Int × Int × Int × Int × PUnit) =>
    T.br (decide (Prod.fst x < ↑(List.length l)))
      (T.need ((0 : Int) ≤ Prod.fst x)
        (T.need (Prod.fst x < ↑(List.length l))
          (T.br (Prod.snd (M.After { v0 := Prod.fst (Prod.snd x), v1 := Prod.fst (Prod.snd (Prod.snd x)), s0 := Prod.fst (Prod.snd (Prod.snd (Prod.snd x))), s1 := Prod.fst (Prod.snd (Prod.snd (Prod.snd (Prod.snd x)))), c0 := Prod.fst (Prod.snd (Prod.snd (Prod.snd (Prod.snd (Prod.snd x))))), c1 := Prod.fst (Prod.snd (Prod.snd (Prod.snd (Prod.snd (Prod.snd (Prod.snd x)))))) } { a := M.Rate.a (List.getD l (Int.toNat (Prod.fst x)) (Enc.dflt eS)).1, b := M.Rate.b (List.getD l (Int.toNat (Prod.fst x)) (Enc.dflt eS)).1, c := M.Rate.c (List.getD l (Int.toNat (Prod.fst x)) (Enc.dflt eS)).1, d := M.Rate.d (List.getD l (Int.toNat (Prod.fst x)) (Enc.dflt eS)).1 } (List.getD l (Int.toNat (Prod.fst x)) (Enc.dflt eS)).2) != (0 : Int)) (T.ret (Sum.inr [Ar.agg [D.int IntKind.i64 (0 : Int), D.int IntKind.i64 (0 : Int), D.int IntKind.i64 (0 : Int), D.int IntKind.i64 (0 : Int), D.int IntKind.i64 (0 : Int), D.int IntKind.i64 (0 : Int)], Ar.c (D.int IntKind.i64 (Prod.fst x)), Ar.c (D.int IntKind.i64 (Prod.snd (M.After { v0 := Prod.fst (Prod.snd x), v1 := Prod.fst (Prod.snd (Prod.snd x)), s0 := Prod.fst (Prod.snd (Prod.snd (Prod.snd x))), s1 := Prod.fst (Prod.snd (Prod.snd (Prod.snd (Prod.snd x)))), c0 := Prod.fst (Prod.snd (Prod.snd (Prod.snd (Prod.snd (Prod.snd x))))), c1 := Prod.fst (Prod.snd (Prod.snd (Prod.snd (Prod.snd (Prod.snd (Prod.snd x)))))) } { a := M.Rate.a (List.getD l (Int.toNat (Prod.fst x)) (Enc.dflt eS)).1, b := M.Rate.b (List.getD l (Int.toNat (Prod.fst x)) (Enc.dflt eS)).1, c := M.Rate.c (List.getD l (Int.toNat (Prod.fst x)) (Enc.dflt eS)).1, d := M.Rate.d (List.getD l (Int.toNat (Prod.fst x)) (Enc.dflt eS)).1 } (List.getD l (Int.toNat (Prod.fst x)) (Enc.dflt eS)).2)))]))
            (T.ret
              (Sum.inl
                (IntKind.wrap IntKind.i64 (Prod.fst x + (1 : Int)), M.Wine.v0 (Prod.fst (M.After { v0 := Prod.fst (Prod.snd x), v1 := Prod.fst (Prod.snd (Prod.snd x)), s0 := Prod.fst (Prod.snd (Prod.snd (Prod.snd x))), s1 := Prod.fst (Prod.snd (Prod.snd (Prod.snd (Prod.snd x)))), c0 := Prod.fst (Prod.snd (Prod.snd (Prod.snd (Prod.snd (Prod.snd x))))), c1 := Prod.fst (Prod.snd (Prod.snd (Prod.snd (Prod.snd (Prod.snd (Prod.snd x)))))) } { a := M.Rate.a (List.getD l (Int.toNat (Prod.fst x)) (Enc.dflt eS)).1, b := M.Rate.b (List.getD l (Int.toNat (Prod.fst x)) (Enc.dflt eS)).1, c := M.Rate.c (List.getD l (Int.toNat (Prod.fst x)) (Enc.dflt eS)).1, d := M.Rate.d (List.getD l (Int.toNat (Prod.fst x)) (Enc.dflt eS)).1 } (List.getD l (Int.toNat (Prod.fst x)) (Enc.dflt eS)).2)), M.Wine.v1 (Prod.fst (M.After { v0 := Prod.fst (Prod.snd x), v1 := Prod.fst (Prod.snd (Prod.snd x)), s0 := Prod.fst (Prod.snd (Prod.snd (Prod.snd x))), s1 := Prod.fst (Prod.snd (Prod.snd (Prod.snd (Prod.snd x)))), c0 := Prod.fst (Prod.snd (Prod.snd (Prod.snd (Prod.snd (Prod.snd x))))), c1 := Prod.fst (Prod.snd (Prod.snd (Prod.snd (Prod.snd (Prod.snd (Prod.snd x)))))) } { a := M.Rate.a (List.getD l (Int.toNat (Prod.fst x)) (Enc.dflt eS)).1, b := M.Rate.b (List.getD l (Int.toNat (Prod.fst x)) (Enc.dflt eS)).1, c := M.Rate.c (List.getD l (Int.toNat (Prod.fst x)) (Enc.dflt eS)).1, d := M.Rate.d (List.getD l (Int.toNat (Prod.fst x)) (Enc.dflt eS)).1 } (List.getD l (Int.toNat (Prod.fst x)) (Enc.dflt eS)).2)), M.Wine.s0 (Prod.fst (M.After { v0 := Prod.fst (Prod.snd x), v1 := Prod.fst (Prod.snd (Prod.snd x)), s0 := Prod.fst (Prod.snd (Prod.snd (Prod.snd x))), s1 := Prod.fst (Prod.snd (Prod.snd (Prod.snd (Prod.snd x)))), c0 := Prod.fst (Prod.snd (Prod.snd (Prod.snd (Prod.snd (Prod.snd x))))), c1 := Prod.fst (Prod.snd (Prod.snd (Prod.snd (Prod.snd (Prod.snd (Prod.snd x)))))) } { a := M.Rate.a (List.getD l (Int.toNat (Prod.fst x)) (Enc.dflt eS)).1, b := M.Rate.b (List.getD l (Int.toNat (Prod.fst x)) (Enc.dflt eS)).1, c := M.Rate.c (List.getD l (Int.toNat (Prod.fst x)) (Enc.dflt eS)).1, d := M.Rate.d (List.getD l (Int.toNat (Prod.fst x)) (Enc.dflt eS)).1 } (List.getD l (Int.toNat (Prod.fst x)) (Enc.dflt eS)).2)), M.Wine.s1 (Prod.fst (M.After { v0 := Prod.fst (Prod.snd x), v1 := Prod.fst (Prod.snd (Prod.snd x)), s0 := Prod.fst (Prod.snd (Prod.snd (Prod.snd x))), s1 := Prod.fst (Prod.snd (Prod.snd (Prod.snd (Prod.snd x)))), c0 := Prod.fst (Prod.snd (Prod.snd (Prod.snd (Prod.snd (Prod.snd x))))), c1 := Prod.fst (Prod.snd (Prod.snd (Prod.snd (Prod.snd (Prod.snd (Prod.snd x)))))) } { a := M.Rate.a (List.getD l (Int.toNat (Prod.fst x)) (Enc.dflt eS)).1, b := M.Rate.b (List.getD l (Int.toNat (Prod.fst x)) (Enc.dflt eS)).1, c := M.Rate.c (List.getD l (Int.toNat (Prod.fst x)) (Enc.dflt eS)).1, d := M.Rate.d (List.getD l (Int.toNat (Prod.fst x)) (Enc.dflt eS)).1 } (List.getD l (Int.toNat (Prod.fst x)) (Enc.dflt eS)).2)),
                  M.Wine.c0 (Prod.fst (M.After { v0 := Prod.fst (Prod.snd x), v1 := Prod.fst (Prod.snd (Prod.snd x)), s0 := Prod.fst (Prod.snd (Prod.snd (Prod.snd x))), s1 := Prod.fst (Prod.snd (Prod.snd (Prod.snd (Prod.snd x)))), c0 := Prod.fst (Prod.snd (Prod.snd (Prod.snd (Prod.snd (Prod.snd x))))), c1 := Prod.fst (Prod.snd (Prod.snd (Prod.snd (Prod.snd (Prod.snd (Prod.snd x)))))) } { a := M.Rate.a (List.getD l (Int.toNat (Prod.fst x)) (Enc.dflt eS)).1, b := M.Rate.b (List.getD l (Int.toNat (Prod.fst x)) (Enc.dflt eS)).1, c := M.Rate.c (List.getD l (Int.toNat (Prod.fst x)) (Enc.dflt eS)).1, d := M.Rate.d (List.getD l (Int.toNat (Prod.fst x)) (Enc.dflt eS)).1 } (List.getD l (Int.toNat (Prod.fst x)) (Enc.dflt eS)).2)), M.Wine.c1 (Prod.fst (M.After { v0 := Prod.fst (Prod.snd x), v1 := Prod.fst (Prod.snd (Prod.snd x)), s0 := Prod.fst (Prod.snd (Prod.snd (Prod.snd x))), s1 := Prod.fst (Prod.snd (Prod.snd (Prod.snd (Prod.snd x)))), c0 := Prod.fst (Prod.snd (Prod.snd (Prod.snd (Prod.snd (Prod.snd x))))), c1 := Prod.fst (Prod.snd (Prod.snd (Prod.snd (Prod.snd (Prod.snd (Prod.snd x)))))) } { a := M.Rate.a (List.getD l (Int.toNat (Prod.fst x)) (Enc.dflt eS)).1, b := M.Rate.b (List.getD l (Int.toNat (Prod.fst x)) (Enc.dflt eS)).1, c := M.Rate.c (List.getD l (Int.toNat (Prod.fst x)) (Enc.dflt eS)).1, d := M.Rate.d (List.getD l (Int.toNat (Prod.fst x)) (Enc.dflt eS)).1 } (List.getD l (Int.toNat (Prod.fst x)) (Enc.dflt eS)).2)), Prod.fst (Prod.snd (Prod.snd (Prod.snd (Prod.snd (Prod.snd (Prod.snd (Prod.snd x))))))), Prod.fst (Prod.snd (Prod.snd (Prod.snd (Prod.snd (Prod.snd (Prod.snd (Prod.snd (Prod.snd x)))))))), Prod.fst (Prod.snd (Prod.snd (Prod.snd (Prod.snd (Prod.snd (Prod.snd (Prod.snd (Prod.snd (Prod.snd x))))))))), Prod.fst (Prod.snd (Prod.snd (Prod.snd (Prod.snd (Prod.snd (Prod.snd (Prod.snd (Prod.snd (Prod.snd (Prod.snd x)))))))))), Prod.fst (Prod.snd (Prod.snd (Prod.snd (Prod.snd (Prod.snd (Prod.snd (Prod.snd (Prod.snd (Prod.snd (Prod.snd (Prod.snd x))))))))))), Prod.fst (Prod.snd (Prod.snd (Prod.snd (Prod.snd (Prod.snd (Prod.snd (Prod.snd (Prod.snd (Prod.snd (Prod.snd (Prod.snd (Prod.snd x)))))))))))), PUnit.unit))))))
      (T.ret (Sum.inr [Ar.agg [D.int IntKind.i64 (Prod.fst (Prod.snd x)), D.int IntKind.i64 (Prod.fst (Prod.snd (Prod.snd x))), D.int IntKind.i64 (Prod.fst (Prod.snd (Prod.snd (Prod.snd x)))), D.int IntKind.i64 (Prod.fst (Prod.snd (Prod.snd (Prod.snd (Prod.snd x))))), D.int IntKind.i64 (Prod.fst (Prod.snd (Prod.snd (Prod.snd (Prod.snd (Prod.snd x)))))), D.int IntKind.i64 (Prod.fst (Prod.snd (Prod.snd (Prod.snd (Prod.snd (Prod.snd (Prod.snd x)))))))], Ar.c (D.int IntKind.i64 (0 : Int)), Ar.c (D.int IntKind.i64 (0 : Int))]))) := by kernel_rfl
theorem C36v : FOK Tryd.prog G0 gw 36 dom36 := by
  intro ags p r hd hp κ w xs hw hl hG hx
  unfold dom36 at hd
  split at hd
  · rename_i v0 v1 s0 s1 c0 c1 q len st F
    split at hd
    · rename_i hst
      have h1 := Nat.eq_of_beq_eq_true hst
      subst h1
      simp only [Option.some.injEq, Prod.mk.injEq] at hd
      obtain ⟨rfl, rfl⟩ := hd
      obtain ⟨hIs, hle, _⟩ := hp
      have hto := eS.to (q := q) (q' := q) id hIs
      have hln : (eS.list len F).length = len := eS.list_len
      generalize eS.list len F = l at *
      refine fok_fin mixed gw_stable (sl := [v21, v85, v27, v76]) ⟨S21v, S85v, S27v, S76v, trivial⟩ Tryd.func36 hw hl hG hx (ags' := [.agg [dI v0, dI v1, dI s0, dI s1, dI c0, dI c1], .c (.sl q l.length 5 (eS.F l))]) ⟨dsEqv_refl _, hto, trivial⟩ rfl (t36 v0 v1 s0 s1 c0 c1 q l) ?_
      have ew : ∀ (a b c d e f : Int), (⟨a, b, c, d, e, f⟩ : M.Wine) = ⟨a, b, c, d, e, f⟩ := fun _ _ _ _ _ _ => rfl
      refine ⟨fun he => ?_, fun he => ?_⟩
      · have : over ⟨v0, v1, s0, s1, c0, c1⟩ l = (M.wine0, 0, overErr ⟨v0, v1, s0, s1, c0, c1⟩ l) := by unfold over; rw [show (overErr ⟨v0, v1, s0, s1, c0, c1⟩ l != 0) = true from he]; rfl
        rw [this]; exact rsEqv_refl _
      · have hov : over ⟨v0, v1, s0, s1, c0, c1⟩ l = overFrom ⟨v0, v1, s0, s1, c0, c1⟩ l 0 := by unfold over; rw [show (overErr ⟨v0, v1, s0, s1, c0, c1⟩ l != 0) = false from he]; rfl
        rw [hov]
        refine ⟨fun x => 0 ≤ x.1 ∧ x.1 ≤ l.length ∧ overFrom ⟨v0, v1, s0, s1, c0, c1⟩ l 0 = overFrom ⟨x.2.1, x.2.2.1, x.2.2.2.1, x.2.2.2.2.1, x.2.2.2.2.2.1, x.2.2.2.2.2.2.1⟩ (l.drop x.1.toNat) x.1, fun x => l.length - x.1.toNat, ⟨Int.le_refl _, by simp, by simp⟩, fun x ⟨g1, g2, g3⟩ => ?_⟩
        obtain ⟨k, a0, a1, a2, a3, a4, a5, rest⟩ := x
        simp only at g1 g2 g3
        refine ⟨fun hlt => ?_, fun hge => ?_⟩
        · have hlt' : k < (l.length : Int) := by simpa using hlt
          have hk : k.toNat < l.length := by omega
          rw [getD_drop (d := eS.dflt) hk] at g3
          refine ⟨g1, hlt', fun hne => ?_, fun heq => ?_⟩
          · simp only [overFrom] at g3
            rw [show ((M.After ⟨a0, a1, a2, a3, a4, a5⟩ (l.getD k.toNat eS.dflt).r (l.getD k.toNat eS.dflt).d).2 != 0) = true from hne] at g3
            simp only [LoopP]
            rw [g3]
            exact rsEqv_refl _
          · simp only [overFrom] at g3
            rw [show ((M.After ⟨a0, a1, a2, a3, a4, a5⟩ (l.getD k.toNat eS.dflt).r (l.getD k.toNat eS.dflt).d).2 != 0) = false from heq] at g3
            simp only [T.wp, LoopP]
            rw [wrap_id (by omega) (by omega)]
            refine ⟨⟨by omega, by omega, ?_⟩, by omega⟩
            rw [g3, show (k + 1).toNat = k.toNat + 1 by omega]
            rfl
        · have hk : l.length ≤ k.toNat := by have : ¬ k < (l.length : Int) := by simpa using hge
                                             omega
          rw [List.drop_of_length_le hk] at g3
          simp only [T.wp, LoopP]
          rw [g3]
          exact rsEqv_refl _
    · cases hd
  · cases hd
theorem S36v : SumOK Tryd.prog G0 gw 36 (fokSm dom36) := fok_sum Tryd.func36 rfl C36v
end Go.Fl2
end

section
/- Chapter 3 with the second engine: further domains: copies, the reference's spells, what follows measurements. -/
set_option linter.unusedVariables false
set_option linter.unusedSimpArgs false
namespace Go.Fl2
open Go.V Go.Fl

def domCopy (k : Nat) : DomF
  | [.c (.sl _ len st F)] => (match Nat.beq st k with
    | true => some ([len ≤ 1000000], [.c (.sl true len k F)])
    | false => none)
  | _ => none
def v37 : Nat × Sm := (37, fokSm (domCopy 5))
def v48 : Nat × Sm := (48, fokSm (domCopy 7))
def v53 : Nat × Sm := (53, fokSm (domCopy 6))

def rOverFrom : M.Wine → List Spell → Int → M.Wine × Int × Int
  | w, [], _ => (w, 0, 0)
  | w, s :: l, i => cond (M.rTaskErr w s.r s.d != 0) (M.wine0, i, M.rTaskErr w s.r s.d)
      (cond ((M.rAfter w s.r s.d).2 != 0) (M.wine0, i, (M.rAfter w s.r s.d).2) (rOverFrom (M.rAfter w s.r s.d).1 l (i + 1)))
def rOver (w : M.Wine) (l : List Spell) : M.Wine × Int × Int :=
  cond (M.rCheckWine w != 0) (M.wine0, 0, M.rCheckWine w) (cond (decide ((l.length : Int) > 20)) (M.wine0, 0, 8) (rOverFrom w l 0))
def dom38 : DomF
  | [.agg [.int .i64 v0, .int .i64 v1, .int .i64 s0, .int .i64 s1, .int .i64 c0, .int .i64 c1], .c (.sl _ len st F)] => (match Nat.beq st 5 with
    | true => some ([eS.Is len F, len ≤ 1000000], [.agg (dsW (rOver ⟨v0, v1, s0, s1, c0, c1⟩ (eS.list len F)).1), rI (rOver ⟨v0, v1, s0, s1, c0, c1⟩ (eS.list len F)).2.1, rI (rOver ⟨v0, v1, s0, s1, c0, c1⟩ (eS.list len F)).2.2])
    | false => none)
  | _ => none
def v38 : Nat × Sm := (38, fokSm dom38)

def sameW : List M.Wine → List M.Wine → Bool
  | [], [] => true
  | a :: l, b :: k => cond (M.wEq a b) (sameW l k) false
  | _, _ => false
def dom50 : DomF
  | [.c (.sl _ n st F), .c (.sl _ m st' F')] => (match Nat.beq st 6 && Nat.beq st' 6 with
    | true => some ([eW.Is n F, eW.Is m F', n ≤ 1000000, m ≤ 1000000], [rB (sameW (eW.list n F) (eW.list m F'))])
    | false => none)
  | _ => none
def v50 : Nat × Sm := (50, fokSm dom50)

def gm (l : List Meas) (k : Nat) : Meas := l.getD k eM.dflt
def chkF (l : List Meas) (k : Nat) : Int :=
  cond (decide ((k : Int) > 0)) (cond (M.measureErr (gm l k).day (gm l k).w == 0) (M.betweenErr (gm l (k - 1)).day (gm l k).day) (M.measureErr (gm l k).day (gm l k).w)) (M.measureErr (gm l k).day (gm l k).w)
def chkR (l : List Meas) (k : Nat) : Int :=
  cond (M.rMeasureErr (gm l k).day (gm l k).w == 0) (cond (decide ((k : Int) > 0)) (M.rBetweenErr (gm l (k - 1)).day (gm l k).day) (M.rMeasureErr (gm l k).day (gm l k).w)) (M.rMeasureErr (gm l k).day (gm l k).w)
def firstBad (f : Nat → Int) : Nat → Nat → Option (Int × Int)
  | _, 0 => none
  | k, n + 1 => cond (f k != 0) (some ((k : Int), f k)) (firstBad f (k + 1) n)
def fol (aft : M.Wine → M.Rate → Int → M.Wine × Int) (r : M.Rate) (l : List Meas) : Nat → List M.Wine → Nat → List M.Wine × Int × Int
  | _, acc, 0 => (acc, 0, 0)
  | k, acc, n + 1 =>
    cond ((aft (acc.getD (k - 1) eW.dflt) r (M.W ((gm l k).day - (gm l (k - 1)).day))).2 != 0) ([], (k : Int), (aft (acc.getD (k - 1) eW.dflt) r (M.W ((gm l k).day - (gm l (k - 1)).day))).2)
      (cond (M.wOk (M.commonW (aft (acc.getD (k - 1) eW.dflt) r (M.W ((gm l k).day - (gm l (k - 1)).day))).1 (gm l k).w))
        (fol aft r l (k + 1) (acc ++ [M.commonW (aft (acc.getD (k - 1) eW.dflt) r (M.W ((gm l k).day - (gm l (k - 1)).day))).1 (gm l k).w]) n)
        ([], (k : Int), 13))
def folErr (r : M.Rate) (l : List Meas) : Int := M.first [M.checkRate r, M.unl (decide ((l.length : Int) > 0)) 10, M.unl (decide ((l.length : Int) ≤ 40)) 8]
def folRest (aft : M.Wine → M.Rate → Int → M.Wine × Int) (chk : List Meas → Nat → Int) (r : M.Rate) (l : List Meas) : List M.Wine × Int × Int :=
  match firstBad (chk l) 0 l.length with
  | some (k, e) => ([], k, e)
  | none => fol aft r l 1 [(gm l 0).w] (l.length - 1)
def followed (r : M.Rate) (l : List Meas) : List M.Wine × Int × Int := cond (folErr r l != 0) ([], 0, folErr r l) (folRest M.After chkF r l)
def rFollowed (r : M.Rate) (l : List Meas) : List M.Wine × Int × Int :=
  cond (M.rCheckRate r != 0) ([], 0, M.rCheckRate r) (cond ((l.length : Int) == 0) ([], 0, 10) (cond (decide ((l.length : Int) > 40)) ([], 0, 8) (folRest M.rAfter chkR r l)))
abbrev rWs (l : List M.Wine) : Ar := .c (.sl false l.length 6 (eW.F l))
def dom47 : DomF
  | [.agg [.int .i64 ra, .int .i64 rb, .int .i64 rc, .int .i64 rd], .c (.sl _ len st F)] => (match Nat.beq st 7 with
    | true => some ([eM.Is len F, len ≤ 1000000], [rWs (followed ⟨ra, rb, rc, rd⟩ (eM.list len F)).1, rI (followed ⟨ra, rb, rc, rd⟩ (eM.list len F)).2.1, rI (followed ⟨ra, rb, rc, rd⟩ (eM.list len F)).2.2])
    | false => none)
  | _ => none
def v47 : Nat × Sm := (47, fokSm dom47)
def dom49 : DomF
  | [.agg [.int .i64 ra, .int .i64 rb, .int .i64 rc, .int .i64 rd], .c (.sl _ len st F)] => (match Nat.beq st 7 with
    | true => some ([eM.Is len F, len ≤ 1000000], [rWs (rFollowed ⟨ra, rb, rc, rd⟩ (eM.list len F)).1, rI (rFollowed ⟨ra, rb, rc, rd⟩ (eM.list len F)).2.1, rI (rFollowed ⟨ra, rb, rc, rd⟩ (eM.list len F)).2.2])
    | false => none)
  | _ => none
def v49 : Nat × Sm := (49, fokSm dom49)
end Go.Fl2
end

section
/- Chapter 3 with the second engine: copies; equal wines; the reference's spells; what follows measurements. -/
set_option linter.unusedVariables false
set_option linter.unusedSimpArgs false
set_option maxRecDepth 100000
namespace Go.Fl2
open Go.V Go.Fl Go.Proofs

theorem wlit (X : M.Wine) : (∀ j, j < eW.st → ((fun (i j : Nat) => List.getD [dI X.v0, dI X.v1, dI X.s0, dI X.s1, dI X.c0, dI X.c1] (i * 6 + j) D.nilp) 0 j).eqv (eW.enc X j)) ∧ eW.rd ((fun (i j : Nat) => List.getD [dI X.v0, dI X.v1, dI X.s0, dI X.s1, dI X.c0, dI X.c1] (i * 6 + j) D.nilp) 0) = X := by
  refine ⟨fun j hj => ?_, rfl⟩
  match j, hj with
  | 0, _ => rfl
  | 1, _ => rfl
  | 2, _ => rfl
  | 3, _ => rfl
  | 4, _ => rfl
  | 5, _ => rfl
  | j + 6, hj => exact absurd hj (by show ¬ j + 6 < 6; omega)
theorem wlit1 (X : M.Wine) : eW.Is 1 (fun (i j : Nat) => List.getD [dI X.v0, dI X.v1, dI X.s0, dI X.s1, dI X.c0, dI X.c1] (i * 6 + j) D.nilp) ∧ eW.list 1 (fun (i j : Nat) => List.getD [dI X.v0, dI X.v1, dI X.s0, dI X.s1, dI X.c0, dI X.c1] (i * 6 + j) D.nilp) = [X] := by
  constructor
  · intro i j hi hj
    obtain rfl : i = 0 := by omega
    rw [(wlit X).2]; exact (wlit X).1 j hj
  · rfl
theorem wpush (l : List M.Wine) (X : M.Wine) : eW.Is (l.length + 1) (joinF l.length (eW.F l) fun (i j : Nat) => List.getD [dI X.v0, dI X.v1, dI X.s0, dI X.s1, dI X.c0, dI X.c1] (i * 6 + j) D.nilp) ∧
    eW.list (l.length + 1) (joinF l.length (eW.F l) fun (i j : Nat) => List.getD [dI X.v0, dI X.v1, dI X.s0, dI X.s1, dI X.c0, dI X.c1] (i * 6 + j) D.nilp) = l ++ [X] := eW.push (wlit X).1 (wlit X).2
theorem join0 (F F' : Nat → Nat → D) (i j : Nat) : joinF 0 F F' i j = F' i j := by
  have hb : Nat.blt i 0 = false := by rw [← Bool.not_eq_true, Nat.blt_eq]; omega
  simp only [joinF, hb, Nat.sub_zero]
theorem sucW (k : Nat) (h : k < 1000001) : IntKind.wrap IntKind.i64 ((k : Int) + 1) = ((k + 1 : Nat) : Int) := by rw [wrap_id (by omega) (by omega)]; omega
theorem predW (k : Nat) (h : k < 1000001) (h1 : 1 ≤ k) : IntKind.wrap IntKind.i64 ((k : Int) - 1) = ((k - 1 : Nat) : Int) := by rw [wrap_id (by omega) (by omega)]; omega
theorem t37 (q : Bool) (n : Nat) (F : Nat → Nat → D) : runFn Tryd.prog G0 (lookS []) [] 40 Tryd.f37 [.c (.sl q n 5 F)] =
    T.need ((0 : Nat) + n ≤ (1000000 : Nat)) (T.need ((0 : Nat) + n ≤ (0 : Nat) + n) (T.ret [Ar.c (D.sl true ((0 : Nat) + n) (5 : Nat) (joinF (0 : Nat) (fun (i j : Nat) => List.getD [] (i * (5 : Nat) + j) D.nilp) F))])) := by kernel_rfl
theorem C37v : FOK Tryd.prog G0 gw 37 (domCopy 5) := by
  intro ags p r hd hp κ w xs hw hl hG hx
  unfold domCopy at hd
  split at hd
  · rename_i q len st F
    split at hd
    · rename_i hst
      have h1 := Nat.eq_of_beq_eq_true hst
      subst h1
      simp only [Option.some.injEq, Prod.mk.injEq] at hd
      obtain ⟨rfl, rfl⟩ := hd
      refine fok_fin mixed gw_stable (sl := []) trivial Tryd.func37 hw hl hG hx (agsEqv_refl _) rfl (t37 q len F) ?_
      have h2 := hp.1
      refine ⟨by omega, Nat.le_refl _, ⟨⟨id, by omega, fun _ => rfl, fun i j _ _ => ?_⟩, trivial⟩⟩
      rw [join0]; exact D.eqv_refl _
    · cases hd
  · cases hd
theorem S37v : SumOK Tryd.prog G0 gw 37 (fokSm (domCopy 5)) := fok_sum Tryd.func37 rfl C37v
theorem t48 (q : Bool) (n : Nat) (F : Nat → Nat → D) : runFn Tryd.prog G0 (lookS []) [] 40 Tryd.f48 [.c (.sl q n 7 F)] =
    T.need ((0 : Nat) + n ≤ (1000000 : Nat)) (T.need ((0 : Nat) + n ≤ (0 : Nat) + n) (T.ret [Ar.c (D.sl true ((0 : Nat) + n) (7 : Nat) (joinF (0 : Nat) (fun (i j : Nat) => List.getD [] (i * (7 : Nat) + j) D.nilp) F))])) := by kernel_rfl
theorem C48v : FOK Tryd.prog G0 gw 48 (domCopy 7) := by
  intro ags p r hd hp κ w xs hw hl hG hx
  unfold domCopy at hd
  split at hd
  · rename_i q len st F
    split at hd
    · rename_i hst
      have h1 := Nat.eq_of_beq_eq_true hst
      subst h1
      simp only [Option.some.injEq, Prod.mk.injEq] at hd
      obtain ⟨rfl, rfl⟩ := hd
      refine fok_fin mixed gw_stable (sl := []) trivial Tryd.func48 hw hl hG hx (agsEqv_refl _) rfl (t48 q len F) ?_
      have h2 := hp.1
      refine ⟨by omega, Nat.le_refl _, ⟨⟨id, by omega, fun _ => rfl, fun i j _ _ => ?_⟩, trivial⟩⟩
      rw [join0]; exact D.eqv_refl _
    · cases hd
  · cases hd
theorem S48v : SumOK Tryd.prog G0 gw 48 (fokSm (domCopy 7)) := fok_sum Tryd.func48 rfl C48v
theorem t53 (q : Bool) (n : Nat) (F : Nat → Nat → D) : runFn Tryd.prog G0 (lookS []) [] 40 Tryd.f53 [.c (.sl q n 6 F)] =
    T.need ((0 : Nat) + n ≤ (1000000 : Nat)) (T.need ((0 : Nat) + n ≤ (0 : Nat) + n) (T.ret [Ar.c (D.sl true ((0 : Nat) + n) (6 : Nat) (joinF (0 : Nat) (fun (i j : Nat) => List.getD [] (i * (6 : Nat) + j) D.nilp) F))])) := by kernel_rfl
theorem C53v : FOK Tryd.prog G0 gw 53 (domCopy 6) := by
  intro ags p r hd hp κ w xs hw hl hG hx
  unfold domCopy at hd
  split at hd
  · rename_i q len st F
    split at hd
    · rename_i hst
      have h1 := Nat.eq_of_beq_eq_true hst
      subst h1
      simp only [Option.some.injEq, Prod.mk.injEq] at hd
      obtain ⟨rfl, rfl⟩ := hd
      refine fok_fin mixed gw_stable (sl := []) trivial Tryd.func53 hw hl hG hx (agsEqv_refl _) rfl (t53 q len F) ?_
      have h2 := hp.1
      refine ⟨by omega, Nat.le_refl _, ⟨⟨id, by omega, fun _ => rfl, fun i j _ _ => ?_⟩, trivial⟩⟩
      rw [join0]; exact D.eqv_refl _
    · cases hd
  · cases hd
theorem S53v : SumOK Tryd.prog G0 gw 53 (fokSm (domCopy 6)) := fok_sum Tryd.func53 rfl C53v
theorem t50 (q q2 : Bool) (l k : List M.Wine) : runFn Tryd.prog G0 (lookS []) [(4, [.slot 5 (.int .i64)], none)] 40 Tryd.f50 [.c (.sl q l.length 6 (eW.F l)), .c (.sl q2 k.length 6 (eW.F k))] =
    T.br (Nat.cast (R := Int) (List.length l) != Nat.cast (R := Int) (List.length k)) (T.ret [Ar.c (D.bool false)]) (T.loop (Int × PUnit) ((0 : Int), PUnit.unit) fun (x : Int × PUnit) => T.br (decide (Prod.fst x < Nat.cast (R := Int) (List.length l))) (T.need ((0 : Int) ≤ Prod.fst x) (T.need (Prod.fst x < Nat.cast (R := Int) (List.length l)) (T.need ((0 : Int) ≤ Prod.fst x) (T.need (Prod.fst x < Nat.cast (R := Int) (List.length k)) (T.br (!(M.Wine.v0 (List.getD l (Int.toNat (Prod.fst x)) { v0 := (0 : Int), v1 := (0 : Int), s0 := (0 : Int), s1 := (0 : Int), c0 := (0 : Int), c1 := (0 : Int) }) == M.Wine.v0 (List.getD k (Int.toNat (Prod.fst x)) { v0 := (0 : Int), v1 := (0 : Int), s0 := (0 : Int), s1 := (0 : Int), c0 := (0 : Int), c1 := (0 : Int) }) && (M.Wine.v1 (List.getD l (Int.toNat (Prod.fst x)) { v0 := (0 : Int), v1 := (0 : Int), s0 := (0 : Int), s1 := (0 : Int), c0 := (0 : Int), c1 := (0 : Int) }) == M.Wine.v1 (List.getD k (Int.toNat (Prod.fst x)) { v0 := (0 : Int), v1 := (0 : Int), s0 := (0 : Int), s1 := (0 : Int), c0 := (0 : Int), c1 := (0 : Int) }) && true) && (M.Wine.s0 (List.getD l (Int.toNat (Prod.fst x)) { v0 := (0 : Int), v1 := (0 : Int), s0 := (0 : Int), s1 := (0 : Int), c0 := (0 : Int), c1 := (0 : Int) }) == M.Wine.s0 (List.getD k (Int.toNat (Prod.fst x)) { v0 := (0 : Int), v1 := (0 : Int), s0 := (0 : Int), s1 := (0 : Int), c0 := (0 : Int), c1 := (0 : Int) }) && (M.Wine.s1 (List.getD l (Int.toNat (Prod.fst x)) { v0 := (0 : Int), v1 := (0 : Int), s0 := (0 : Int), s1 := (0 : Int), c0 := (0 : Int), c1 := (0 : Int) }) == M.Wine.s1 (List.getD k (Int.toNat (Prod.fst x)) { v0 := (0 : Int), v1 := (0 : Int), s0 := (0 : Int), s1 := (0 : Int), c0 := (0 : Int), c1 := (0 : Int) }) && true) && (M.Wine.c0 (List.getD l (Int.toNat (Prod.fst x)) { v0 := (0 : Int), v1 := (0 : Int), s0 := (0 : Int), s1 := (0 : Int), c0 := (0 : Int), c1 := (0 : Int) }) == M.Wine.c0 (List.getD k (Int.toNat (Prod.fst x)) { v0 := (0 : Int), v1 := (0 : Int), s0 := (0 : Int), s1 := (0 : Int), c0 := (0 : Int), c1 := (0 : Int) }) && (M.Wine.c1 (List.getD l (Int.toNat (Prod.fst x)) { v0 := (0 : Int), v1 := (0 : Int), s0 := (0 : Int), s1 := (0 : Int), c0 := (0 : Int), c1 := (0 : Int) }) == M.Wine.c1 (List.getD k (Int.toNat (Prod.fst x)) { v0 := (0 : Int), v1 := (0 : Int), s0 := (0 : Int), s1 := (0 : Int), c0 := (0 : Int), c1 := (0 : Int) }) && true) && true)))) (T.ret (Sum.inr [Ar.c (D.bool false)])) (T.ret (Sum.inl (IntKind.wrap IntKind.i64 (Prod.fst x + (1 : Int)), PUnit.unit)))))))) (T.ret (Sum.inr [Ar.c (D.bool true)]))) := by kernel_rfl
theorem sameW_len : ∀ {l k : List M.Wine}, sameW l k = true → l.length = k.length
  | [], [], _ => rfl
  | a :: l, b :: k, h => by
    simp only [sameW] at h
    cases hab : M.wEq a b with
    | false => rw [hab] at h; cases h
    | true => rw [hab] at h; simp [sameW_len (l := l) (k := k) h]
  | [], _ :: _, h => by simp [sameW] at h
  | _ :: _, [], h => by simp [sameW] at h
theorem C50v : FOK Tryd.prog G0 gw 50 dom50 := by
  intro ags p r hd hp κ w xs hw hl hG hx
  unfold dom50 at hd
  split at hd
  · rename_i q n st F q2 m st' F'
    split at hd
    · rename_i hst
      simp only [Bool.and_eq_true] at hst
      have h1 := Nat.eq_of_beq_eq_true hst.1
      have h2 := Nat.eq_of_beq_eq_true hst.2
      subst h1 h2
      simp only [Option.some.injEq, Prod.mk.injEq] at hd
      obtain ⟨rfl, rfl⟩ := hd
      obtain ⟨i1, i2, i3, i4, _⟩ := hp
      have t1 := eW.to (q := q) (q' := q) id i1
      have t2 := eW.to (q := q2) (q' := q2) id i2
      have l1 : (eW.list n F).length = n := eW.list_len
      have l2 : (eW.list m F').length = m := eW.list_len
      generalize eW.list n F = l at *
      generalize eW.list m F' = k at *
      refine fok_fin mixed gw_stable (sl := []) trivial Tryd.func50 hw hl hG hx (ags' := [.c (.sl q l.length 6 (eW.F l)), .c (.sl q2 k.length 6 (eW.F k))]) ⟨t1, t2, trivial⟩ rfl (t50 q q2 l k) ?_
      refine ⟨fun he => ?_, fun he => ?_⟩
      · have hne : l.length ≠ k.length := by have h9 := he; simp only [Bool.not_eq_true', decide_eq_false_iff_not, decide_eq_true_eq, bne_iff_ne, ne_eq, Bool.not_eq_true, beq_eq_false_iff_ne] at h9; omega
        have : sameW l k = false := by
          cases hs : sameW l k with
          | false => rfl
          | true => exact absurd (sameW_len hs) hne
        rw [this]; exact rsEqv_refl _
      · have hlk : l.length = k.length := by have h9 := he; simp only [Bool.not_eq_false', decide_eq_false_iff_not, decide_eq_true_eq, bne_eq_false_iff_eq, beq_iff_eq, Bool.not_eq_false] at h9; omega
        refine ⟨fun x => ∃ i : Nat, x.1 = (i : Int) ∧ i ≤ l.length ∧ sameW l k = sameW (l.drop i) (k.drop i), fun x => l.length - x.1.toNat, ⟨0, rfl, by omega, by simp⟩, ?_⟩
        rintro ⟨x, u⟩ ⟨i, hi, g2, g3⟩
        simp only at hi
        subst hi
        refine ⟨fun hlt => ?_, fun hge => ?_⟩
        · have hlt' : i < l.length := by simpa using hlt
          rw [getD_drop (d := eW.dflt) hlt', getD_drop (d := eW.dflt) (by omega : i < k.length)] at g3
          refine ⟨by omega, by omega, by omega, by omega, fun hne => ?_, fun heq => ?_⟩
          · simp only [sameW] at g3
            have : M.wEq (l.getD i eW.dflt) (k.getD i eW.dflt) = false := by
              rw [← Bool.not_eq_true']; exact hne
            rw [this] at g3
            simp only [LoopP, T.wp]
            rw [g3]; exact rsEqv_refl _
          · simp only [sameW] at g3
            have : M.wEq (l.getD i eW.dflt) (k.getD i eW.dflt) = true := by
              rw [← Bool.not_eq_false']; exact heq
            rw [this] at g3
            simp only [T.wp, LoopP]
            rw [sucW i (by omega)]
            exact ⟨⟨i + 1, rfl, by omega, g3⟩, by omega⟩
        · have hge' : l.length ≤ i := by simpa using hge
          rw [List.drop_of_length_le hge', List.drop_of_length_le (by omega : k.length ≤ i)] at g3
          simp only [T.wp, LoopP]
          rw [g3]; exact rsEqv_refl _
    · cases hd
  · cases hd
theorem S50v : SumOK Tryd.prog G0 gw 50 (fokSm dom50) := fok_sum Tryd.func50 rfl C50v
theorem t38 (v0 v1 s0 s1 c0 c1 : Int) (q : Bool) (l : List Spell) : runFn Tryd.prog G0 (lookS [v22, v29, v30]) [(7, [.slot 8 (.int .i64), .blk 2 [.int .i64, .int .i64, .int .i64, .int .i64, .int .i64, .int .i64], .blk 4 [.int .i64, .int .i64, .int .i64, .int .i64, .int .i64, .int .i64]], none)] 40 Tryd.f38 [.agg [dI v0, dI v1, dI s0, dI s1, dI c0, dI c1], .c (.sl q l.length 5 (eS.F l))] =
    T.br (M.rCheckWine { v0 := v0, v1 := v1, s0 := s0, s1 := s1, c0 := c0, c1 := c1 } != (0 : Int)) (T.ret [Ar.agg [D.int IntKind.i64 (0 : Int), D.int IntKind.i64 (0 : Int), D.int IntKind.i64 (0 : Int), D.int IntKind.i64 (0 : Int), D.int IntKind.i64 (0 : Int), D.int IntKind.i64 (0 : Int)], Ar.c (D.int IntKind.i64 (0 : Int)), Ar.c (D.int IntKind.i64 (M.rCheckWine { v0 := v0, v1 := v1, s0 := s0, s1 := s1, c0 := c0, c1 := c1 }))])
  (T.br (decide (Nat.cast (R := Int) (List.length l) > (20 : Int))) (T.ret [Ar.agg [D.int IntKind.i64 (0 : Int), D.int IntKind.i64 (0 : Int), D.int IntKind.i64 (0 : Int), D.int IntKind.i64 (0 : Int), D.int IntKind.i64 (0 : Int), D.int IntKind.i64 (0 : Int)], Ar.c (D.int IntKind.i64 (0 : Int)), Ar.c (D.int IntKind.i64 (8 : Int))])
    (T.loop (Int × Int × Int × Int × Int × Int × Int × Int × Int × Int × Int × Int × Int × PUnit) ((0 : Int), v0, v1, s0, s1, c0, c1, (0 : Int), (0 : Int), (0 : Int), (0 : Int), (0 : Int), (0 : Int), PUnit.unit) fun (x : Int × Int × Int × Int × Int × Int × Int × Int × Int × Int × Int × Int × Int × PUnit) =>
      T.br (decide (Prod.fst x < Nat.cast (R := Int) (List.length l)))
        (T.need ((0 : Int) ≤ Prod.fst x)
          (T.need (Prod.fst x < Nat.cast (R := Int) (List.length l))
            (T.need ((0 : Int) ≤ Prod.fst x)
              (T.need (Prod.fst x < Nat.cast (R := Int) (List.length l))
                (T.br (M.rTaskErr { v0 := Prod.fst (Prod.snd x), v1 := Prod.fst (Prod.snd (Prod.snd x)), s0 := Prod.fst (Prod.snd (Prod.snd (Prod.snd x))), s1 := Prod.fst (Prod.snd (Prod.snd (Prod.snd (Prod.snd x)))), c0 := Prod.fst (Prod.snd (Prod.snd (Prod.snd (Prod.snd (Prod.snd x))))), c1 := Prod.fst (Prod.snd (Prod.snd (Prod.snd (Prod.snd (Prod.snd (Prod.snd x)))))) } (List.getD l (Int.toNat (Prod.fst x)) (Enc.dflt eS)).1 (List.getD l (Int.toNat (Prod.fst x)) (Enc.dflt eS)).2 == (0 : Int))
                  (T.need ((0 : Int) ≤ Prod.fst x)
                    (T.need (Prod.fst x < Nat.cast (R := Int) (List.length l))
                      (T.need ((0 : Int) ≤ Prod.fst x)
                        (T.need (Prod.fst x < Nat.cast (R := Int) (List.length l))
                          (T.need (M.Rg.hi (M.left (M.Rate.w (List.getD l (Int.toNat (Prod.fst x)) (Enc.dflt eS)).1) (List.getD l (Int.toNat (Prod.fst x)) (Enc.dflt eS)).2) ≠ (0 : Int))
                            (T.need (M.Rg.lo (M.left (M.Rate.w (List.getD l (Int.toNat (Prod.fst x)) (Enc.dflt eS)).1) (List.getD l (Int.toNat (Prod.fst x)) (Enc.dflt eS)).2) ≠ (0 : Int))
                              (T.br (Prod.snd (M.rAfter { v0 := Prod.fst (Prod.snd x), v1 := Prod.fst (Prod.snd (Prod.snd x)), s0 := Prod.fst (Prod.snd (Prod.snd (Prod.snd x))), s1 := Prod.fst (Prod.snd (Prod.snd (Prod.snd (Prod.snd x)))), c0 := Prod.fst (Prod.snd (Prod.snd (Prod.snd (Prod.snd (Prod.snd x))))), c1 := Prod.fst (Prod.snd (Prod.snd (Prod.snd (Prod.snd (Prod.snd (Prod.snd x)))))) } (List.getD l (Int.toNat (Prod.fst x)) (Enc.dflt eS)).1 (List.getD l (Int.toNat (Prod.fst x)) (Enc.dflt eS)).2) != (0 : Int)) (T.ret (Sum.inr [Ar.agg [D.int IntKind.i64 (0 : Int), D.int IntKind.i64 (0 : Int), D.int IntKind.i64 (0 : Int), D.int IntKind.i64 (0 : Int), D.int IntKind.i64 (0 : Int), D.int IntKind.i64 (0 : Int)], Ar.c (D.int IntKind.i64 (Prod.fst x)), Ar.c (D.int IntKind.i64 (Prod.snd (M.rAfter { v0 := Prod.fst (Prod.snd x), v1 := Prod.fst (Prod.snd (Prod.snd x)), s0 := Prod.fst (Prod.snd (Prod.snd (Prod.snd x))), s1 := Prod.fst (Prod.snd (Prod.snd (Prod.snd (Prod.snd x)))), c0 := Prod.fst (Prod.snd (Prod.snd (Prod.snd (Prod.snd (Prod.snd x))))), c1 := Prod.fst (Prod.snd (Prod.snd (Prod.snd (Prod.snd (Prod.snd (Prod.snd x)))))) } (List.getD l (Int.toNat (Prod.fst x)) (Enc.dflt eS)).1 (List.getD l (Int.toNat (Prod.fst x)) (Enc.dflt eS)).2)))]))
                                (T.ret
                                  (Sum.inl
                                    (IntKind.wrap IntKind.i64 (Prod.fst x + (1 : Int)), M.Wine.v0 (Prod.fst (M.rAfter { v0 := Prod.fst (Prod.snd x), v1 := Prod.fst (Prod.snd (Prod.snd x)), s0 := Prod.fst (Prod.snd (Prod.snd (Prod.snd x))), s1 := Prod.fst (Prod.snd (Prod.snd (Prod.snd (Prod.snd x)))), c0 := Prod.fst (Prod.snd (Prod.snd (Prod.snd (Prod.snd (Prod.snd x))))), c1 := Prod.fst (Prod.snd (Prod.snd (Prod.snd (Prod.snd (Prod.snd (Prod.snd x)))))) } (List.getD l (Int.toNat (Prod.fst x)) (Enc.dflt eS)).1 (List.getD l (Int.toNat (Prod.fst x)) (Enc.dflt eS)).2)), M.Wine.v1 (Prod.fst (M.rAfter { v0 := Prod.fst (Prod.snd x), v1 := Prod.fst (Prod.snd (Prod.snd x)), s0 := Prod.fst (Prod.snd (Prod.snd (Prod.snd x))), s1 := Prod.fst (Prod.snd (Prod.snd (Prod.snd (Prod.snd x)))), c0 := Prod.fst (Prod.snd (Prod.snd (Prod.snd (Prod.snd (Prod.snd x))))), c1 := Prod.fst (Prod.snd (Prod.snd (Prod.snd (Prod.snd (Prod.snd (Prod.snd x)))))) } (List.getD l (Int.toNat (Prod.fst x)) (Enc.dflt eS)).1 (List.getD l (Int.toNat (Prod.fst x)) (Enc.dflt eS)).2)), M.Wine.s0 (Prod.fst (M.rAfter { v0 := Prod.fst (Prod.snd x), v1 := Prod.fst (Prod.snd (Prod.snd x)), s0 := Prod.fst (Prod.snd (Prod.snd (Prod.snd x))), s1 := Prod.fst (Prod.snd (Prod.snd (Prod.snd (Prod.snd x)))), c0 := Prod.fst (Prod.snd (Prod.snd (Prod.snd (Prod.snd (Prod.snd x))))), c1 := Prod.fst (Prod.snd (Prod.snd (Prod.snd (Prod.snd (Prod.snd (Prod.snd x)))))) } (List.getD l (Int.toNat (Prod.fst x)) (Enc.dflt eS)).1 (List.getD l (Int.toNat (Prod.fst x)) (Enc.dflt eS)).2)), M.Wine.s1 (Prod.fst (M.rAfter { v0 := Prod.fst (Prod.snd x), v1 := Prod.fst (Prod.snd (Prod.snd x)), s0 := Prod.fst (Prod.snd (Prod.snd (Prod.snd x))), s1 := Prod.fst (Prod.snd (Prod.snd (Prod.snd (Prod.snd x)))), c0 := Prod.fst (Prod.snd (Prod.snd (Prod.snd (Prod.snd (Prod.snd x))))), c1 := Prod.fst (Prod.snd (Prod.snd (Prod.snd (Prod.snd (Prod.snd (Prod.snd x)))))) } (List.getD l (Int.toNat (Prod.fst x)) (Enc.dflt eS)).1 (List.getD l (Int.toNat (Prod.fst x)) (Enc.dflt eS)).2)), M.Wine.c0 (Prod.fst (M.rAfter { v0 := Prod.fst (Prod.snd x), v1 := Prod.fst (Prod.snd (Prod.snd x)), s0 := Prod.fst (Prod.snd (Prod.snd (Prod.snd x))), s1 := Prod.fst (Prod.snd (Prod.snd (Prod.snd (Prod.snd x)))), c0 := Prod.fst (Prod.snd (Prod.snd (Prod.snd (Prod.snd (Prod.snd x))))), c1 := Prod.fst (Prod.snd (Prod.snd (Prod.snd (Prod.snd (Prod.snd (Prod.snd x)))))) } (List.getD l (Int.toNat (Prod.fst x)) (Enc.dflt eS)).1 (List.getD l (Int.toNat (Prod.fst x)) (Enc.dflt eS)).2)), M.Wine.c1 (Prod.fst (M.rAfter { v0 := Prod.fst (Prod.snd x), v1 := Prod.fst (Prod.snd (Prod.snd x)), s0 := Prod.fst (Prod.snd (Prod.snd (Prod.snd x))), s1 := Prod.fst (Prod.snd (Prod.snd (Prod.snd (Prod.snd x)))), c0 := Prod.fst (Prod.snd (Prod.snd (Prod.snd (Prod.snd (Prod.snd x))))), c1 := Prod.fst (Prod.snd (Prod.snd (Prod.snd (Prod.snd (Prod.snd (Prod.snd x)))))) } (List.getD l (Int.toNat (Prod.fst x)) (Enc.dflt eS)).1 (List.getD l (Int.toNat (Prod.fst x)) (Enc.dflt eS)).2)),
                                      Prod.fst (Prod.snd (Prod.snd (Prod.snd (Prod.snd (Prod.snd (Prod.snd (Prod.snd x))))))), Prod.fst (Prod.snd (Prod.snd (Prod.snd (Prod.snd (Prod.snd (Prod.snd (Prod.snd (Prod.snd x)))))))), Prod.fst (Prod.snd (Prod.snd (Prod.snd (Prod.snd (Prod.snd (Prod.snd (Prod.snd (Prod.snd (Prod.snd x))))))))), Prod.fst (Prod.snd (Prod.snd (Prod.snd (Prod.snd (Prod.snd (Prod.snd (Prod.snd (Prod.snd (Prod.snd (Prod.snd x)))))))))), Prod.fst (Prod.snd (Prod.snd (Prod.snd (Prod.snd (Prod.snd (Prod.snd (Prod.snd (Prod.snd (Prod.snd (Prod.snd (Prod.snd x))))))))))), Prod.fst (Prod.snd (Prod.snd (Prod.snd (Prod.snd (Prod.snd (Prod.snd (Prod.snd (Prod.snd (Prod.snd (Prod.snd (Prod.snd (Prod.snd x)))))))))))), PUnit.unit))))))))))
                  (T.br (M.rTaskErr { v0 := Prod.fst (Prod.snd x), v1 := Prod.fst (Prod.snd (Prod.snd x)), s0 := Prod.fst (Prod.snd (Prod.snd (Prod.snd x))), s1 := Prod.fst (Prod.snd (Prod.snd (Prod.snd (Prod.snd x)))), c0 := Prod.fst (Prod.snd (Prod.snd (Prod.snd (Prod.snd (Prod.snd x))))), c1 := Prod.fst (Prod.snd (Prod.snd (Prod.snd (Prod.snd (Prod.snd (Prod.snd x)))))) } (List.getD l (Int.toNat (Prod.fst x)) (Enc.dflt eS)).1 (List.getD l (Int.toNat (Prod.fst x)) (Enc.dflt eS)).2 != (0 : Int)) (T.ret (Sum.inr [Ar.agg [D.int IntKind.i64 (0 : Int), D.int IntKind.i64 (0 : Int), D.int IntKind.i64 (0 : Int), D.int IntKind.i64 (0 : Int), D.int IntKind.i64 (0 : Int), D.int IntKind.i64 (0 : Int)], Ar.c (D.int IntKind.i64 (Prod.fst x)), Ar.c (D.int IntKind.i64 (M.rTaskErr { v0 := Prod.fst (Prod.snd x), v1 := Prod.fst (Prod.snd (Prod.snd x)), s0 := Prod.fst (Prod.snd (Prod.snd (Prod.snd x))), s1 := Prod.fst (Prod.snd (Prod.snd (Prod.snd (Prod.snd x)))), c0 := Prod.fst (Prod.snd (Prod.snd (Prod.snd (Prod.snd (Prod.snd x))))), c1 := Prod.fst (Prod.snd (Prod.snd (Prod.snd (Prod.snd (Prod.snd (Prod.snd x)))))) } (List.getD l (Int.toNat (Prod.fst x)) (Enc.dflt eS)).1 (List.getD l (Int.toNat (Prod.fst x)) (Enc.dflt eS)).2))])) (T.ret (Sum.inl (IntKind.wrap IntKind.i64 (Prod.fst x + (1 : Int)), Prod.fst (Prod.snd x), Prod.fst (Prod.snd (Prod.snd x)), Prod.fst (Prod.snd (Prod.snd (Prod.snd x))), Prod.fst (Prod.snd (Prod.snd (Prod.snd (Prod.snd x)))), Prod.fst (Prod.snd (Prod.snd (Prod.snd (Prod.snd (Prod.snd x))))), Prod.fst (Prod.snd (Prod.snd (Prod.snd (Prod.snd (Prod.snd (Prod.snd x)))))), Prod.fst (Prod.snd (Prod.snd (Prod.snd (Prod.snd (Prod.snd (Prod.snd (Prod.snd x))))))), Prod.fst (Prod.snd (Prod.snd (Prod.snd (Prod.snd (Prod.snd (Prod.snd (Prod.snd (Prod.snd x)))))))), Prod.fst (Prod.snd (Prod.snd (Prod.snd (Prod.snd (Prod.snd (Prod.snd (Prod.snd (Prod.snd (Prod.snd x))))))))), Prod.fst (Prod.snd (Prod.snd (Prod.snd (Prod.snd (Prod.snd (Prod.snd (Prod.snd (Prod.snd (Prod.snd (Prod.snd x)))))))))), Prod.fst (Prod.snd (Prod.snd (Prod.snd (Prod.snd (Prod.snd (Prod.snd (Prod.snd (Prod.snd (Prod.snd (Prod.snd (Prod.snd x))))))))))), Prod.fst (Prod.snd (Prod.snd (Prod.snd (Prod.snd (Prod.snd (Prod.snd (Prod.snd (Prod.snd (Prod.snd (Prod.snd (Prod.snd (Prod.snd x)))))))))))), PUnit.unit)))))))))
        (T.ret (Sum.inr [Ar.agg [D.int IntKind.i64 (Prod.fst (Prod.snd x)), D.int IntKind.i64 (Prod.fst (Prod.snd (Prod.snd x))), D.int IntKind.i64 (Prod.fst (Prod.snd (Prod.snd (Prod.snd x)))), D.int IntKind.i64 (Prod.fst (Prod.snd (Prod.snd (Prod.snd (Prod.snd x))))), D.int IntKind.i64 (Prod.fst (Prod.snd (Prod.snd (Prod.snd (Prod.snd (Prod.snd x)))))), D.int IntKind.i64 (Prod.fst (Prod.snd (Prod.snd (Prod.snd (Prod.snd (Prod.snd (Prod.snd x)))))))], Ar.c (D.int IntKind.i64 (0 : Int)), Ar.c (D.int IntKind.i64 (0 : Int))])))) := by kernel_rfl
theorem C38v : FOK Tryd.prog G0 gw 38 dom38 := by
  intro ags p r hd hp κ w xs hw hl hG hx
  unfold dom38 at hd
  split at hd
  · rename_i v0 v1 s0 s1 c0 c1 q len st F
    split at hd
    · rename_i hst
      have h1 := Nat.eq_of_beq_eq_true hst
      subst h1
      simp only [Option.some.injEq, Prod.mk.injEq] at hd
      obtain ⟨rfl, rfl⟩ := hd
      obtain ⟨hIs, hle, _⟩ := hp
      have hto := eS.to (q := q) (q' := q) id hIs
      have hln : (eS.list len F).length = len := eS.list_len
      generalize eS.list len F = l at *
      refine fok_fin mixed gw_stable (sl := [v22, v29, v30]) ⟨S22v, S29v, S30v, trivial⟩ Tryd.func38 hw hl hG hx (ags' := [.agg [dI v0, dI v1, dI s0, dI s1, dI c0, dI c1], .c (.sl q l.length 5 (eS.F l))]) ⟨dsEqv_refl _, hto, trivial⟩ rfl (t38 v0 v1 s0 s1 c0 c1 q l) ?_
      refine ⟨fun he => ?_, fun he => ⟨fun he2 => ?_, fun he2 => ?_⟩⟩
      · unfold rOver; rw [show (M.rCheckWine ⟨v0, v1, s0, s1, c0, c1⟩ != 0) = true from he]; exact rsEqv_refl _
      · unfold rOver; rw [show (M.rCheckWine ⟨v0, v1, s0, s1, c0, c1⟩ != 0) = false from he, show decide ((l.length : Int) > 20) = true from he2]; exact rsEqv_refl _
      · have hov : rOver ⟨v0, v1, s0, s1, c0, c1⟩ l = rOverFrom ⟨v0, v1, s0, s1, c0, c1⟩ l 0 := by unfold rOver; rw [show (M.rCheckWine ⟨v0, v1, s0, s1, c0, c1⟩ != 0) = false from he, show decide ((l.length : Int) > 20) = false from he2]; rfl
        rw [hov]
        refine ⟨fun x => ∃ k : Nat, x.1 = (k : Int) ∧ k ≤ l.length ∧ rOverFrom ⟨v0, v1, s0, s1, c0, c1⟩ l 0 = rOverFrom ⟨x.2.1, x.2.2.1, x.2.2.2.1, x.2.2.2.2.1, x.2.2.2.2.2.1, x.2.2.2.2.2.2.1⟩ (l.drop k) x.1, fun x => l.length - x.1.toNat, ⟨0, rfl, by omega, by simp⟩, ?_⟩
        rintro ⟨x, a0, a1, a2, a3, a4, a5, rest⟩ ⟨k, hk, g2, g3⟩
        simp only at hk g3
        subst hk
        refine ⟨fun hlt => ?_, fun hge => ?_⟩
        · have hlt' : k < l.length := by simpa using hlt
          rw [getD_drop (d := eS.dflt) hlt'] at g3
          simp only [rOverFrom] at g3
          refine ⟨by omega, by omega, by omega, by omega, ?_⟩
          simp only [T.wp, LoopP, Int.toNat_natCast]
          refine ⟨fun heq => ⟨by omega, by omega, by omega, by omega, ?_⟩, fun hne => ?_⟩
          · have h0 : M.rTaskErr ⟨a0, a1, a2, a3, a4, a5⟩ (l.getD k eS.dflt).r (l.getD k eS.dflt).d = 0 := by simpa using heq
            have h00 := h0
            rw [L.rTaskErr_eq, L.taskErr_zero] at h00
            obtain ⟨n1, n2⟩ := L.task_left h00.2.1 h00.2.2
            refine ⟨n1, n2, ?_⟩
            rw [h0] at g3
            refine ⟨fun hne2 => ?_, fun heq2 => ?_⟩
            · rw [show ((M.rAfter ⟨a0, a1, a2, a3, a4, a5⟩ (l.getD k eS.dflt).r (l.getD k eS.dflt).d).2 != 0) = true from hne2] at g3
              rw [g3]; exact rsEqv_refl _
            · rw [show ((M.rAfter ⟨a0, a1, a2, a3, a4, a5⟩ (l.getD k eS.dflt).r (l.getD k eS.dflt).d).2 != 0) = false from heq2] at g3
              rw [sucW k (by omega)]
              refine ⟨⟨k + 1, rfl, by omega, ?_⟩, by omega⟩
              rw [g3]; rfl
          · have h0 : (M.rTaskErr ⟨a0, a1, a2, a3, a4, a5⟩ (l.getD k eS.dflt).r (l.getD k eS.dflt).d != 0) = true := by
              have : ¬ M.rTaskErr ⟨a0, a1, a2, a3, a4, a5⟩ (l.getD k eS.dflt).r (l.getD k eS.dflt).d = 0 := by simpa using hne
              simpa using this
            rw [h0] at g3
            refine ⟨fun _ => ?_, fun hf => ?_⟩
            · rw [g3]; exact rsEqv_refl _
            · rw [show (M.rTaskErr ⟨a0, a1, a2, a3, a4, a5⟩ (l.getD k eS.dflt).r (l.getD k eS.dflt).d != 0) = false from hf] at h0; cases h0
        · have hge' : l.length ≤ k := by simpa using hge
          rw [List.drop_of_length_le hge'] at g3
          simp only [T.wp, LoopP]
          rw [g3]; exact rsEqv_refl _
    · cases hd
  · cases hd
theorem S38v : SumOK Tryd.prog G0 gw 38 (fokSm dom38) := fok_sum Tryd.func38 rfl C38v
end Go.Fl2
end

section
/- Chapter 3 with the second engine: what follows measurements. -/
set_option linter.unusedVariables false
set_option linter.unusedSimpArgs false
set_option maxRecDepth 100000
namespace Go.Fl2
open Go.V Go.Fl Go.Proofs

theorem firstBad_step {f : Nat → Int} {k n : Nat} (h : k < n) : firstBad f k (n - k) = cond (f k != 0) (some ((k : Int), f k)) (firstBad f (k + 1) (n - (k + 1))) := by
  rw [show n - k = (n - (k + 1)) + 1 by omega]; rfl
theorem firstBad_none {f : Nat → Int} : ∀ {n k : Nat}, firstBad f k n = none → ∀ j, k ≤ j → j < k + n → f j = 0 := by
  intro n
  induction n with
  | zero => intro k _ j h1 h2; omega
  | succ n ih =>
    intro k h j h1 h2
    simp only [firstBad] at h
    cases hk : (f k != 0) with
    | true => rw [hk] at h; cases h
    | false =>
      rw [hk] at h
      rcases Nat.lt_or_ge k j with hlt | hge
      · exact ih h j hlt (by omega)
      · obtain rfl : k = j := by omega
        simpa using hk
theorem fol_step {aft : M.Wine → M.Rate → Int → M.Wine × Int} {r : M.Rate} {l : List Meas} {k n : Nat} {acc : List M.Wine} (h : k < n) : fol aft r l k acc (n - k) =
    cond ((aft (acc.getD (k - 1) eW.dflt) r (M.W ((gm l k).day - (gm l (k - 1)).day))).2 != 0) ([], (k : Int), (aft (acc.getD (k - 1) eW.dflt) r (M.W ((gm l k).day - (gm l (k - 1)).day))).2)
      (cond (M.wOk (M.commonW (aft (acc.getD (k - 1) eW.dflt) r (M.W ((gm l k).day - (gm l (k - 1)).day))).1 (gm l k).w))
        (fol aft r l (k + 1) (acc ++ [M.commonW (aft (acc.getD (k - 1) eW.dflt) r (M.W ((gm l k).day - (gm l (k - 1)).day))).1 (gm l k).w]) (n - (k + 1)))
        ([], (k : Int), 13)) := by
  rw [show n - k = (n - (k + 1)) + 1 by omega]; rfl
theorem nil_eqv (F : Nat → Nat → D) (n e : Int) : rsEqv [.c (.sl false 0 0 F), rI n, rI e] [rWs [], rI n, rI e] :=
  ⟨⟨id, rfl, fun h => absurd h (by decide), fun i j hi => absurd hi (by omega)⟩, rfl, rfl, trivial⟩
theorem list_eqv {l : List M.Wine} (n e : Int) : rsEqv [.c (.sl true l.length 6 (eW.F l)), rI n, rI e] [rWs l, rI n, rI e] :=
  ⟨⟨fun h => (by cases h), rfl, fun _ => rfl, fun i j _ _ => D.eqv_refl _⟩, rfl, rfl, trivial⟩
theorem t47 (ra rb rc rd : Int) (q : Bool) (l : List Meas) : runFn Tryd.prog G0 (lookS [v23, v85, v76, v95, v96, v27, v97]) [(5, [.slot 34 (.int .i64)], none), (15, [.slot 12 (.int .i64), .slot 11 (.rowE 25 eW)], none)] 40 Tryd.f47 [.agg [dI ra, dI rb, dI rc, dI rd], .c (.sl q l.length 7 (eM.F l))] =
    T.br (M.first [M.checkRate { a := ra, b := rb, c := rc, d := rd }, M.unl (decide (Nat.cast (R := Int) (List.length l) > (0 : Int))) (10 : Int), M.unl (decide (Nat.cast (R := Int) (List.length l) ≤ (40 : Int))) (8 : Int)] != (0 : Int)) (T.ret [Ar.c (D.sl false (0 : Nat) (0 : Nat) fun (x x_1 : Nat) => D.nilp), Ar.c (D.int IntKind.i64 (0 : Int)), Ar.c (D.int IntKind.i64 (M.first [M.checkRate { a := ra, b := rb, c := rc, d := rd }, M.unl (decide (Nat.cast (R := Int) (List.length l) > (0 : Int))) (10 : Int), M.unl (decide (Nat.cast (R := Int) (List.length l) ≤ (40 : Int))) (8 : Int)]))])
  (T.loop (Int × PUnit) ((0 : Int), PUnit.unit) fun (x : Int × PUnit) =>
    T.br (decide (Prod.fst x < Nat.cast (R := Int) (List.length l))) (T.need ((0 : Int) ≤ Prod.fst x) (T.need (Prod.fst x < Nat.cast (R := Int) (List.length l)) (T.br (decide (Prod.fst x > (0 : Int))) (T.need (decide (Prod.fst x > (0 : Int)) = true) (T.br (M.measureErr (List.getD l (Int.toNat (Prod.fst x)) (Enc.dflt eM)).1 (List.getD l (Int.toNat (Prod.fst x)) (Enc.dflt eM)).2 == (0 : Int)) (T.need ((0 : Int) ≤ IntKind.wrap IntKind.i64 (Prod.fst x - (1 : Int))) (T.need (IntKind.wrap IntKind.i64 (Prod.fst x - (1 : Int)) < Nat.cast (R := Int) (List.length l)) (T.br (M.betweenErr (List.getD l (Int.toNat (IntKind.wrap IntKind.i64 (Prod.fst x - (1 : Int)))) (Enc.dflt eM)).1 (List.getD l (Int.toNat (Prod.fst x)) (Enc.dflt eM)).1 != (0 : Int)) (T.ret (Sum.inr [Ar.c (D.sl false (0 : Nat) (0 : Nat) fun (x x_1 : Nat) => D.nilp), Ar.c (D.int IntKind.i64 (Prod.fst x)), Ar.c (D.int IntKind.i64 (M.betweenErr (List.getD l (Int.toNat (IntKind.wrap IntKind.i64 (Prod.fst x - (1 : Int)))) (Enc.dflt eM)).1 (List.getD l (Int.toNat (Prod.fst x)) (Enc.dflt eM)).1))])) (T.ret (Sum.inl (IntKind.wrap IntKind.i64 (Prod.fst x + (1 : Int)), PUnit.unit)))))) (T.br (M.measureErr (List.getD l (Int.toNat (Prod.fst x)) (Enc.dflt eM)).1 (List.getD l (Int.toNat (Prod.fst x)) (Enc.dflt eM)).2 != (0 : Int)) (T.ret (Sum.inr [Ar.c (D.sl false (0 : Nat) (0 : Nat) fun (x x_1 : Nat) => D.nilp), Ar.c (D.int IntKind.i64 (Prod.fst x)), Ar.c (D.int IntKind.i64 (M.measureErr (List.getD l (Int.toNat (Prod.fst x)) (Enc.dflt eM)).1 (List.getD l (Int.toNat (Prod.fst x)) (Enc.dflt eM)).2))])) (T.ret (Sum.inl (IntKind.wrap IntKind.i64 (Prod.fst x + (1 : Int)), PUnit.unit)))))) (T.need (decide (Prod.fst x > (0 : Int)) = false) (T.br (M.measureErr (List.getD l (Int.toNat (Prod.fst x)) (Enc.dflt eM)).1 (List.getD l (Int.toNat (Prod.fst x)) (Enc.dflt eM)).2 != (0 : Int)) (T.ret (Sum.inr [Ar.c (D.sl false (0 : Nat) (0 : Nat) fun (x x_1 : Nat) => D.nilp), Ar.c (D.int IntKind.i64 (Prod.fst x)), Ar.c (D.int IntKind.i64 (M.measureErr (List.getD l (Int.toNat (Prod.fst x)) (Enc.dflt eM)).1 (List.getD l (Int.toNat (Prod.fst x)) (Enc.dflt eM)).2))])) (T.ret (Sum.inl (IntKind.wrap IntKind.i64 (Prod.fst x + (1 : Int)), PUnit.unit))))))))
      (T.need ((0 : Int) ≤ (0 : Int))
        (T.need ((0 : Int) < Nat.cast (R := Int) (List.length l))
          (T.need (Enc.Is eW (1 : Nat) fun (i j : Nat) => List.getD [D.int IntKind.i64 (M.Wine.v0 (List.getD l (Int.toNat (0 : Int)) (Enc.dflt eM)).2), D.int IntKind.i64 (M.Wine.v1 (List.getD l (Int.toNat (0 : Int)) (Enc.dflt eM)).2), D.int IntKind.i64 (M.Wine.s0 (List.getD l (Int.toNat (0 : Int)) (Enc.dflt eM)).2), D.int IntKind.i64 (M.Wine.s1 (List.getD l (Int.toNat (0 : Int)) (Enc.dflt eM)).2), D.int IntKind.i64 (M.Wine.c0 (List.getD l (Int.toNat (0 : Int)) (Enc.dflt eM)).2), D.int IntKind.i64 (M.Wine.c1 (List.getD l (Int.toNat (0 : Int)) (Enc.dflt eM)).2)] (i * (6 : Nat) + j) D.nilp)
            (T.loop (Int × List M.Wine × PUnit) ((1 : Int), Enc.list eW (1 : Nat) fun (i j : Nat) => List.getD [D.int IntKind.i64 (M.Wine.v0 (List.getD l (Int.toNat (0 : Int)) (Enc.dflt eM)).2), D.int IntKind.i64 (M.Wine.v1 (List.getD l (Int.toNat (0 : Int)) (Enc.dflt eM)).2), D.int IntKind.i64 (M.Wine.s0 (List.getD l (Int.toNat (0 : Int)) (Enc.dflt eM)).2), D.int IntKind.i64 (M.Wine.s1 (List.getD l (Int.toNat (0 : Int)) (Enc.dflt eM)).2), D.int IntKind.i64 (M.Wine.c0 (List.getD l (Int.toNat (0 : Int)) (Enc.dflt eM)).2), D.int IntKind.i64 (M.Wine.c1 (List.getD l (Int.toNat (0 : Int)) (Enc.dflt eM)).2)] (i * (6 : Nat) + j) D.nilp, PUnit.unit) fun (x : Int × List M.Wine × PUnit) =>
              T.br (decide (Prod.fst x < Nat.cast (R := Int) (List.length l)))
                (T.need ((0 : Int) ≤ IntKind.wrap IntKind.i64 (Prod.fst x - (1 : Int)))
                  (T.need (IntKind.wrap IntKind.i64 (Prod.fst x - (1 : Int)) < Nat.cast (R := Int) (List.length (Prod.fst (Prod.snd x))))
                    (T.need (Int.toNat (IntKind.wrap IntKind.i64 (Prod.fst x - (1 : Int))) < List.length (Prod.fst (Prod.snd x)))
                      (T.need ((0 : Int) ≤ Prod.fst x)
                        (T.need (Prod.fst x < Nat.cast (R := Int) (List.length l))
                          (T.need ((0 : Int) ≤ IntKind.wrap IntKind.i64 (Prod.fst x - (1 : Int)))
                            (T.need (IntKind.wrap IntKind.i64 (Prod.fst x - (1 : Int)) < Nat.cast (R := Int) (List.length l))
                              (T.br (Prod.snd (M.After (List.getD (Prod.fst (Prod.snd x)) (Int.toNat (IntKind.wrap IntKind.i64 (Prod.fst x - (1 : Int)))) { v0 := (0 : Int), v1 := (0 : Int), s0 := (0 : Int), s1 := (0 : Int), c0 := (0 : Int), c1 := (0 : Int) }) { a := ra, b := rb, c := rc, d := rd } (IntKind.wrap IntKind.i64 ((List.getD l (Int.toNat (Prod.fst x)) (Enc.dflt eM)).1 - (List.getD l (Int.toNat (IntKind.wrap IntKind.i64 (Prod.fst x - (1 : Int)))) (Enc.dflt eM)).1))) != (0 : Int)) (T.ret (Sum.inr (Sum.inr [Ar.c (D.sl false (0 : Nat) (0 : Nat) fun (x x_1 : Nat) => D.nilp), Ar.c (D.int IntKind.i64 (Prod.fst x)), Ar.c (D.int IntKind.i64 (Prod.snd (M.After (List.getD (Prod.fst (Prod.snd x)) (Int.toNat (IntKind.wrap IntKind.i64 (Prod.fst x - (1 : Int)))) { v0 := (0 : Int), v1 := (0 : Int), s0 := (0 : Int), s1 := (0 : Int), c0 := (0 : Int), c1 := (0 : Int) }) { a := ra, b := rb, c := rc, d := rd } (IntKind.wrap IntKind.i64 ((List.getD l (Int.toNat (Prod.fst x)) (Enc.dflt eM)).1 - (List.getD l (Int.toNat (IntKind.wrap IntKind.i64 (Prod.fst x - (1 : Int)))) (Enc.dflt eM)).1)))))])))
                                (T.need ((0 : Int) ≤ Prod.fst x)
                                  (T.need (Prod.fst x < Nat.cast (R := Int) (List.length l))
                                    (T.br (!M.wOk (M.commonW (Prod.fst (M.After (List.getD (Prod.fst (Prod.snd x)) (Int.toNat (IntKind.wrap IntKind.i64 (Prod.fst x - (1 : Int)))) { v0 := (0 : Int), v1 := (0 : Int), s0 := (0 : Int), s1 := (0 : Int), c0 := (0 : Int), c1 := (0 : Int) }) { a := ra, b := rb, c := rc, d := rd } (IntKind.wrap IntKind.i64 ((List.getD l (Int.toNat (Prod.fst x)) (Enc.dflt eM)).1 - (List.getD l (Int.toNat (IntKind.wrap IntKind.i64 (Prod.fst x - (1 : Int)))) (Enc.dflt eM)).1)))) (List.getD l (Int.toNat (Prod.fst x)) (Enc.dflt eM)).2)) (T.ret (Sum.inr (Sum.inr [Ar.c (D.sl false (0 : Nat) (0 : Nat) fun (x x_1 : Nat) => D.nilp), Ar.c (D.int IntKind.i64 (Prod.fst x)), Ar.c (D.int IntKind.i64 (13 : Int))])))
                                      (T.need (List.length (Prod.fst (Prod.snd x)) + (1 : Nat) ≤ (1000000 : Nat))
                                        (T.need (List.length (Prod.fst (Prod.snd x)) ≤ List.length (Prod.fst (Prod.snd x)))
                                          (T.need
                                            (Enc.Is eW (List.length (Prod.fst (Prod.snd x)) + (1 : Nat))
                                              (joinF (List.length (Prod.fst (Prod.snd x))) (Enc.F eW (Prod.fst (Prod.snd x))) fun (i j : Nat) =>
                                                List.getD
                                                  [D.int IntKind.i64 (M.Wine.v0 (M.commonW (Prod.fst (M.After (List.getD (Prod.fst (Prod.snd x)) (Int.toNat (IntKind.wrap IntKind.i64 (Prod.fst x - (1 : Int)))) { v0 := (0 : Int), v1 := (0 : Int), s0 := (0 : Int), s1 := (0 : Int), c0 := (0 : Int), c1 := (0 : Int) }) { a := ra, b := rb, c := rc, d := rd } (IntKind.wrap IntKind.i64 ((List.getD l (Int.toNat (Prod.fst x)) (Enc.dflt eM)).1 - (List.getD l (Int.toNat (IntKind.wrap IntKind.i64 (Prod.fst x - (1 : Int)))) (Enc.dflt eM)).1)))) (List.getD l (Int.toNat (Prod.fst x)) (Enc.dflt eM)).2)), D.int IntKind.i64 (M.Wine.v1 (M.commonW (Prod.fst (M.After (List.getD (Prod.fst (Prod.snd x)) (Int.toNat (IntKind.wrap IntKind.i64 (Prod.fst x - (1 : Int)))) { v0 := (0 : Int), v1 := (0 : Int), s0 := (0 : Int), s1 := (0 : Int), c0 := (0 : Int), c1 := (0 : Int) }) { a := ra, b := rb, c := rc, d := rd } (IntKind.wrap IntKind.i64 ((List.getD l (Int.toNat (Prod.fst x)) (Enc.dflt eM)).1 - (List.getD l (Int.toNat (IntKind.wrap IntKind.i64 (Prod.fst x - (1 : Int)))) (Enc.dflt eM)).1)))) (List.getD l (Int.toNat (Prod.fst x)) (Enc.dflt eM)).2)), D.int IntKind.i64 (M.Wine.s0 (M.commonW (Prod.fst (M.After (List.getD (Prod.fst (Prod.snd x)) (Int.toNat (IntKind.wrap IntKind.i64 (Prod.fst x - (1 : Int)))) { v0 := (0 : Int), v1 := (0 : Int), s0 := (0 : Int), s1 := (0 : Int), c0 := (0 : Int), c1 := (0 : Int) }) { a := ra, b := rb, c := rc, d := rd } (IntKind.wrap IntKind.i64 ((List.getD l (Int.toNat (Prod.fst x)) (Enc.dflt eM)).1 - (List.getD l (Int.toNat (IntKind.wrap IntKind.i64 (Prod.fst x - (1 : Int)))) (Enc.dflt eM)).1)))) (List.getD l (Int.toNat (Prod.fst x)) (Enc.dflt eM)).2)), D.int IntKind.i64 (M.Wine.s1 (M.commonW (Prod.fst (M.After (List.getD (Prod.fst (Prod.snd x)) (Int.toNat (IntKind.wrap IntKind.i64 (Prod.fst x - (1 : Int)))) { v0 := (0 : Int), v1 := (0 : Int), s0 := (0 : Int), s1 := (0 : Int), c0 := (0 : Int), c1 := (0 : Int) }) { a := ra, b := rb, c := rc, d := rd } (IntKind.wrap IntKind.i64 ((List.getD l (Int.toNat (Prod.fst x)) (Enc.dflt eM)).1 - (List.getD l (Int.toNat (IntKind.wrap IntKind.i64 (Prod.fst x - (1 : Int)))) (Enc.dflt eM)).1)))) (List.getD l (Int.toNat (Prod.fst x)) (Enc.dflt eM)).2)), D.int IntKind.i64 (M.Wine.c0 (M.commonW (Prod.fst (M.After (List.getD (Prod.fst (Prod.snd x)) (Int.toNat (IntKind.wrap IntKind.i64 (Prod.fst x - (1 : Int)))) { v0 := (0 : Int), v1 := (0 : Int), s0 := (0 : Int), s1 := (0 : Int), c0 := (0 : Int), c1 := (0 : Int) }) { a := ra, b := rb, c := rc, d := rd } (IntKind.wrap IntKind.i64 ((List.getD l (Int.toNat (Prod.fst x)) (Enc.dflt eM)).1 - (List.getD l (Int.toNat (IntKind.wrap IntKind.i64 (Prod.fst x - (1 : Int)))) (Enc.dflt eM)).1)))) (List.getD l (Int.toNat (Prod.fst x)) (Enc.dflt eM)).2)),
                                                    D.int IntKind.i64 (M.Wine.c1 (M.commonW (Prod.fst (M.After (List.getD (Prod.fst (Prod.snd x)) (Int.toNat (IntKind.wrap IntKind.i64 (Prod.fst x - (1 : Int)))) { v0 := (0 : Int), v1 := (0 : Int), s0 := (0 : Int), s1 := (0 : Int), c0 := (0 : Int), c1 := (0 : Int) }) { a := ra, b := rb, c := rc, d := rd } (IntKind.wrap IntKind.i64 ((List.getD l (Int.toNat (Prod.fst x)) (Enc.dflt eM)).1 - (List.getD l (Int.toNat (IntKind.wrap IntKind.i64 (Prod.fst x - (1 : Int)))) (Enc.dflt eM)).1)))) (List.getD l (Int.toNat (Prod.fst x)) (Enc.dflt eM)).2))]
                                                  (i * (6 : Nat) + j) D.nilp))
                                            (T.need (List.length (Prod.fst (Prod.snd x)) + (1 : Nat) ≤ List.length (Prod.fst (Prod.snd x)) + (1 : Nat))
                                              (T.ret
                                                (Sum.inl
                                                  (IntKind.wrap IntKind.i64 (Prod.fst x + (1 : Int)),
                                                    Enc.list eW (List.length (Prod.fst (Prod.snd x)) + (1 : Nat))
                                                      (joinF (List.length (Prod.fst (Prod.snd x))) (Enc.F eW (Prod.fst (Prod.snd x))) fun (i j : Nat) =>
                                                        List.getD
                                                          [D.int IntKind.i64 (M.Wine.v0 (M.commonW (Prod.fst (M.After (List.getD (Prod.fst (Prod.snd x)) (Int.toNat (IntKind.wrap IntKind.i64 (Prod.fst x - (1 : Int)))) { v0 := (0 : Int), v1 := (0 : Int), s0 := (0 : Int), s1 := (0 : Int), c0 := (0 : Int), c1 := (0 : Int) }) { a := ra, b := rb, c := rc, d := rd } (IntKind.wrap IntKind.i64 ((List.getD l (Int.toNat (Prod.fst x)) (Enc.dflt eM)).1 - (List.getD l (Int.toNat (IntKind.wrap IntKind.i64 (Prod.fst x - (1 : Int)))) (Enc.dflt eM)).1)))) (List.getD l (Int.toNat (Prod.fst x)) (Enc.dflt eM)).2)), D.int IntKind.i64 (M.Wine.v1 (M.commonW (Prod.fst (M.After (List.getD (Prod.fst (Prod.snd x)) (Int.toNat (IntKind.wrap IntKind.i64 (Prod.fst x - (1 : Int)))) { v0 := (0 : Int), v1 := (0 : Int), s0 := (0 : Int), s1 := (0 : Int), c0 := (0 : Int), c1 := (0 : Int) }) { a := ra, b := rb, c := rc, d := rd } (IntKind.wrap IntKind.i64 ((List.getD l (Int.toNat (Prod.fst x)) (Enc.dflt eM)).1 - (List.getD l (Int.toNat (IntKind.wrap IntKind.i64 (Prod.fst x - (1 : Int)))) (Enc.dflt eM)).1)))) (List.getD l (Int.toNat (Prod.fst x)) (Enc.dflt eM)).2)), D.int IntKind.i64 (M.Wine.s0 (M.commonW (Prod.fst (M.After (List.getD (Prod.fst (Prod.snd x)) (Int.toNat (IntKind.wrap IntKind.i64 (Prod.fst x - (1 : Int)))) { v0 := (0 : Int), v1 := (0 : Int), s0 := (0 : Int), s1 := (0 : Int), c0 := (0 : Int), c1 := (0 : Int) }) { a := ra, b := rb, c := rc, d := rd } (IntKind.wrap IntKind.i64 ((List.getD l (Int.toNat (Prod.fst x)) (Enc.dflt eM)).1 - (List.getD l (Int.toNat (IntKind.wrap IntKind.i64 (Prod.fst x - (1 : Int)))) (Enc.dflt eM)).1)))) (List.getD l (Int.toNat (Prod.fst x)) (Enc.dflt eM)).2)), D.int IntKind.i64 (M.Wine.s1 (M.commonW (Prod.fst (M.After (List.getD (Prod.fst (Prod.snd x)) (Int.toNat (IntKind.wrap IntKind.i64 (Prod.fst x - (1 : Int)))) { v0 := (0 : Int), v1 := (0 : Int), s0 := (0 : Int), s1 := (0 : Int), c0 := (0 : Int), c1 := (0 : Int) }) { a := ra, b := rb, c := rc, d := rd } (IntKind.wrap IntKind.i64 ((List.getD l (Int.toNat (Prod.fst x)) (Enc.dflt eM)).1 - (List.getD l (Int.toNat (IntKind.wrap IntKind.i64 (Prod.fst x - (1 : Int)))) (Enc.dflt eM)).1)))) (List.getD l (Int.toNat (Prod.fst x)) (Enc.dflt eM)).2)), D.int IntKind.i64 (M.Wine.c0 (M.commonW (Prod.fst (M.After (List.getD (Prod.fst (Prod.snd x)) (Int.toNat (IntKind.wrap IntKind.i64 (Prod.fst x - (1 : Int)))) { v0 := (0 : Int), v1 := (0 : Int), s0 := (0 : Int), s1 := (0 : Int), c0 := (0 : Int), c1 := (0 : Int) }) { a := ra, b := rb, c := rc, d := rd } (IntKind.wrap IntKind.i64 ((List.getD l (Int.toNat (Prod.fst x)) (Enc.dflt eM)).1 - (List.getD l (Int.toNat (IntKind.wrap IntKind.i64 (Prod.fst x - (1 : Int)))) (Enc.dflt eM)).1)))) (List.getD l (Int.toNat (Prod.fst x)) (Enc.dflt eM)).2)),
                                                            D.int IntKind.i64 (M.Wine.c1 (M.commonW (Prod.fst (M.After (List.getD (Prod.fst (Prod.snd x)) (Int.toNat (IntKind.wrap IntKind.i64 (Prod.fst x - (1 : Int)))) { v0 := (0 : Int), v1 := (0 : Int), s0 := (0 : Int), s1 := (0 : Int), c0 := (0 : Int), c1 := (0 : Int) }) { a := ra, b := rb, c := rc, d := rd } (IntKind.wrap IntKind.i64 ((List.getD l (Int.toNat (Prod.fst x)) (Enc.dflt eM)).1 - (List.getD l (Int.toNat (IntKind.wrap IntKind.i64 (Prod.fst x - (1 : Int)))) (Enc.dflt eM)).1)))) (List.getD l (Int.toNat (Prod.fst x)) (Enc.dflt eM)).2))]
                                                          (i * (6 : Nat) + j) D.nilp),
                                                    PUnit.unit))))))))))))))))))
                (T.need (List.length (Prod.fst (Prod.snd x)) ≤ List.length (Prod.fst (Prod.snd x))) (T.ret (Sum.inr (Sum.inr [Ar.c (D.sl true (List.length (Prod.fst (Prod.snd x))) (6 : Nat) (Enc.F eW (Prod.fst (Prod.snd x)))), Ar.c (D.int IntKind.i64 (0 : Int)), Ar.c (D.int IntKind.i64 (0 : Int))]))))))))) := by kernel_rfl
theorem C47v : FOK Tryd.prog G0 gw 47 dom47 := by
  intro ags p r hd hp κ w xs hw hl hG hx
  unfold dom47 at hd
  split at hd
  · rename_i ra rb rc rd q len st F
    split at hd
    · rename_i hst
      have h1 := Nat.eq_of_beq_eq_true hst
      subst h1
      simp only [Option.some.injEq, Prod.mk.injEq] at hd
      obtain ⟨rfl, rfl⟩ := hd
      obtain ⟨hIs, hle, _⟩ := hp
      have hto := eM.to (q := q) (q' := q) id hIs
      have hln : (eM.list len F).length = len := eM.list_len
      generalize eM.list len F = l at *
      refine fok_fin mixed gw_stable (sl := [v23, v85, v76, v95, v96, v27, v97]) ⟨S23v, S85v, S76v, S95v, S96v, S27v, S97v, trivial⟩ Tryd.func47 hw hl hG hx (ags' := [.agg [dI ra, dI rb, dI rc, dI rd], .c (.sl q l.length 7 (eM.F l))]) ⟨dsEqv_refl _, hto, trivial⟩ rfl (t47 ra rb rc rd q l) ?_
      refine ⟨fun he => ?_, fun he => ?_⟩
      · unfold followed; rw [show (folErr ⟨ra, rb, rc, rd⟩ l != 0) = true from he]; exact nil_eqv _ _ _
      · have hfo : followed ⟨ra, rb, rc, rd⟩ l = folRest M.After chkF ⟨ra, rb, rc, rd⟩ l := by unfold followed; rw [show (folErr ⟨ra, rb, rc, rd⟩ l != 0) = false from he]; rfl
        have hpos : 0 < l.length := by
          have h0 : M.first [M.checkRate ⟨ra, rb, rc, rd⟩, M.unl (decide ((l.length : Int) > 0)) 10, M.unl (decide ((l.length : Int) ≤ 40)) 8] = 0 := by simpa using he
          rw [L.first_nil] at h0
          have := h0 (M.unl (decide ((l.length : Int) > 0)) 10) (by simp)
          rw [L.unl_zero (by decide)] at this
          have := of_decide_eq_true this
          omega
        rw [hfo]
        refine ⟨fun x => ∃ k : Nat, x.1 = (k : Int) ∧ k ≤ l.length ∧ firstBad (chkF l) 0 l.length = firstBad (chkF l) k (l.length - k), fun x => l.length - x.1.toNat, ⟨0, rfl, by omega, by simp⟩, ?_⟩
        rintro ⟨x, u⟩ ⟨k, hk, g2, g3⟩
        simp only at hk
        subst hk
        -- a bad one
        have bad : ∀ e, k < l.length → chkF l k = e → e ≠ 0 → folRest M.After chkF ⟨ra, rb, rc, rd⟩ l = ([], (k : Int), e) := by
          intro e hlt hc hne
          unfold folRest
          rw [g3, firstBad_step hlt, hc, show (e != 0) = true by simpa using hne]; rfl
        have good : k < l.length → chkF l k = 0 → firstBad (chkF l) 0 l.length = firstBad (chkF l) (k + 1) (l.length - (k + 1)) := by
          intro hlt hc
          rw [g3, firstBad_step hlt, hc]; rfl
        refine ⟨fun hlt => ?_, fun hge => ?_⟩
        · have hlt' : k < l.length := by simpa using hlt
          refine ⟨by omega, by omega, ?_⟩
          simp only [Int.toNat_natCast]
          have next : chkF l k = 0 → LoopP (fun x : Int × PUnit => ∃ k : Nat, x.1 = (k : Int) ∧ k ≤ l.length ∧ firstBad (chkF l) 0 l.length = firstBad (chkF l) k (l.length - k)) (fun x => l.length - x.1.toNat) (l.length - k)
              (fun rs => rsEqv rs [rWs (folRest M.After chkF ⟨ra, rb, rc, rd⟩ l).1, rI (folRest M.After chkF ⟨ra, rb, rc, rd⟩ l).2.1, rI (folRest M.After chkF ⟨ra, rb, rc, rd⟩ l).2.2]) (Sum.inl (IntKind.wrap IntKind.i64 ((k : Int) + 1), PUnit.unit)) := by
            intro hc
            rw [sucW k (by omega)]
            exact ⟨⟨k + 1, rfl, by omega, good hlt' hc⟩, by simp only [Int.toNat_natCast]; omega⟩
          refine ⟨fun hpos' => ⟨hpos', ?_⟩, fun hz => ⟨hz, ?_⟩⟩
          · have hk1 : 1 ≤ k := by have := of_decide_eq_true hpos'; omega
            rw [predW k (by omega) hk1]
            refine ⟨fun hm => ⟨by omega, by omega, ?_⟩, fun hm => ?_⟩
            · have hck : chkF l k = M.betweenErr (gm l (k - 1)).day (gm l k).day := by
                unfold chkF
                rw [show decide ((k : Int) > 0) = true from hpos', show (M.measureErr (gm l k).day (gm l k).w == 0) = true from hm]; rfl
              refine ⟨fun hb => ?_, fun hb => ?_⟩
              · have := bad _ hlt' hck (bne_iff_ne.1 hb)
                simp only [T.wp, LoopP]
                rw [this]; exact nil_eqv _ _ _
              · exact next (hck.trans (bne_eq_false_iff_eq.1 hb))
            · have hck : chkF l k = M.measureErr (gm l k).day (gm l k).w := by
                unfold chkF
                rw [show decide ((k : Int) > 0) = true from hpos', show (M.measureErr (gm l k).day (gm l k).w == 0) = false from hm]; rfl
              refine ⟨fun hb => ?_, fun hb => ?_⟩
              · have := bad _ hlt' hck (bne_iff_ne.1 hb)
                simp only [T.wp, LoopP]
                rw [this]; exact nil_eqv _ _ _
              · exact next (hck.trans (bne_eq_false_iff_eq.1 hb))
          · have hck : chkF l k = M.measureErr (gm l k).day (gm l k).w := by
              unfold chkF
              rw [show decide ((k : Int) > 0) = false from hz]; rfl
            refine ⟨fun hb => ?_, fun hb => ?_⟩
            · have := bad _ hlt' hck (bne_iff_ne.1 hb)
              simp only [T.wp, LoopP]
              rw [this]; exact nil_eqv _ _ _
            · exact next (hck.trans (bne_eq_false_iff_eq.1 hb))
        · have hge' : l.length ≤ k := by simpa using hge
          have hnone : firstBad (chkF l) 0 l.length = none := by rw [g3, show l.length - k = 0 by omega]; rfl
          have hrest : folRest M.After chkF ⟨ra, rb, rc, rd⟩ l = fol M.After ⟨ra, rb, rc, rd⟩ l 1 [(gm l 0).w] (l.length - 1) := by unfold folRest; rw [hnone]
          obtain ⟨w1, w2⟩ := wlit1 (gm l 0).w
          refine ⟨by omega, by omega, w1, ?_⟩
          rw [hrest]
          refine ⟨fun x => ∃ k : Nat, x.1 = (k : Int) ∧ 1 ≤ k ∧ k ≤ l.length ∧ x.2.1.length = k ∧ fol M.After ⟨ra, rb, rc, rd⟩ l 1 [(gm l 0).w] (l.length - 1) = fol M.After ⟨ra, rb, rc, rd⟩ l k x.2.1 (l.length - k), fun x => l.length - x.1.toNat,
            ⟨1, rfl, by omega, by omega, congrArg List.length w2, (congrArg (fun a => fol M.After ⟨ra, rb, rc, rd⟩ l 1 a (l.length - 1)) w2).symm⟩, ?_⟩
          rintro ⟨x, acc, u⟩ ⟨k, hk, j1, j2, j3, j4⟩
          simp only at hk j3 j4
          subst hk
          refine ⟨fun hlt => ?_, fun hge => ?_⟩
          · have hlt' : k < l.length := by simpa using hlt
            rw [fol_step hlt'] at j4
            simp only [predW k (by omega) j1, Int.toNat_natCast]
            refine ⟨by omega, by omega, by omega, by omega, by omega, by omega, by omega, fun hne => ?_, fun heq => ⟨by omega, by omega, fun hno => ?_, fun hyes => ⟨by omega, Nat.le_refl _, (wpush acc _).1, Nat.le_refl _, ?_⟩⟩⟩
            · rw [show ((M.After (acc.getD (k - 1) eW.dflt) ⟨ra, rb, rc, rd⟩ (M.W ((gm l k).day - (gm l (k - 1)).day))).2 != 0) = true from hne] at j4
              simp only [T.wp, LoopP]
              rw [j4]; exact nil_eqv _ _ _
            · rw [show ((M.After (acc.getD (k - 1) eW.dflt) ⟨ra, rb, rc, rd⟩ (M.W ((gm l k).day - (gm l (k - 1)).day))).2 != 0) = false from heq] at j4
              rw [show M.wOk (M.commonW (M.After (acc.getD (k - 1) eW.dflt) ⟨ra, rb, rc, rd⟩ (M.W ((gm l k).day - (gm l (k - 1)).day))).1 (gm l k).w) = false by rw [← Bool.not_eq_true']; exact hno] at j4
              simp only [T.wp, LoopP]
              rw [j4]; exact nil_eqv _ _ _
            · rw [show ((M.After (acc.getD (k - 1) eW.dflt) ⟨ra, rb, rc, rd⟩ (M.W ((gm l k).day - (gm l (k - 1)).day))).2 != 0) = false from heq] at j4
              rw [show M.wOk (M.commonW (M.After (acc.getD (k - 1) eW.dflt) ⟨ra, rb, rc, rd⟩ (M.W ((gm l k).day - (gm l (k - 1)).day))).1 (gm l k).w) = true by rw [← Bool.not_eq_false']; exact hyes] at j4
              simp only [T.wp, LoopP]
              rw [sucW k (by omega), show (eW.list (acc.length + 1) _) = _ from (wpush acc _).2]
              refine ⟨⟨k + 1, rfl, by omega, by omega, by simp [j3], j4⟩, by simp only [Int.toNat_natCast]; omega⟩
          · have hge' : l.length ≤ k := by simpa using hge
            rw [show l.length - k = 0 by omega] at j4
            simp only [fol] at j4
            refine ⟨Nat.le_refl _, ?_⟩
            simp only [T.wp, LoopP]
            rw [j4]; exact list_eqv _ _
    · cases hd
  · cases hd
theorem S47v : SumOK Tryd.prog G0 gw 47 (fokSm dom47) := fok_sum Tryd.func47 rfl C47v
end Go.Fl2
end

section
/- Chapter 3 with the second engine: what follows measurements, in the reference's words. -/
set_option linter.unusedVariables false
set_option linter.unusedSimpArgs false
set_option maxRecDepth 100000
namespace Go.Fl2
open Go.V Go.Fl Go.Proofs

/-- A checked pair of days leaves a task that is defined. -/
theorem chkR_days {l : List Meas} {k : Nat} (hk : 1 ≤ k) (h : chkR l k = 0) (h' : M.rMeasureErr (gm l (k - 1)).day (gm l (k - 1)).w = 0) :
    M.rMeasureErr (gm l k).day (gm l k).w = 0 ∧ M.W ((gm l k).day - (gm l (k - 1)).day) = (gm l k).day - (gm l (k - 1)).day ∧ 0 ≤ (gm l k).day - (gm l (k - 1)).day ∧ (gm l k).day - (gm l (k - 1)).day ≤ 365 := by
  unfold chkR at h
  cases hm : (M.rMeasureErr (gm l k).day (gm l k).w == 0) with
  | false => rw [hm] at h; rw [show M.rMeasureErr (gm l k).day (gm l k).w = 0 from h] at hm; cases hm
  | true =>
    have hm' : M.rMeasureErr (gm l k).day (gm l k).w = 0 := eq_of_beq hm
    rw [hm, cond_true, show decide ((k : Int) > 0) = true from decide_eq_true (by omega), cond_true] at h
    rw [L.rMeasureErr_eq, L.measureErr_zero] at hm' h'
    have e : M.W ((gm l k).day - (gm l (k - 1)).day) = (gm l k).day - (gm l (k - 1)).day := L.W_id (by omega) (by omega)
    refine ⟨by rw [L.rMeasureErr_eq, L.measureErr_zero]; exact hm', e, ?_⟩
    unfold M.rBetweenErr at h
    by_cases h1 : (gm l k).day ≤ (gm l (k - 1)).day
    · rw [decide_eq_true h1] at h; cases h
    · rw [decide_eq_false h1, cond_false] at h
      by_cases h2 : M.W ((gm l k).day - (gm l (k - 1)).day) > 365
      · rw [decide_eq_true h2] at h; cases h
      · omega
theorem chkR_meas {l : List Meas} {k : Nat} (h : chkR l k = 0) : M.rMeasureErr (gm l k).day (gm l k).w = 0 := by
  unfold chkR at h
  cases hm : (M.rMeasureErr (gm l k).day (gm l k).w == 0) with
  | false => rw [hm] at h; exact h
  | true => exact eq_of_beq hm
theorem t49 (ra rb rc rd : Int) (q : Bool) (l : List Meas) : runFn Tryd.prog G0 (lookS [v24, v98, v99, v30, v51]) [(9, [.slot 8 (.int .i64)], none), (18, [.slot 11 (.int .i64), .slot 10 (.rowE 25 eW)], none)] 40 Tryd.f49 [.agg [dI ra, dI rb, dI rc, dI rd], .c (.sl q l.length 7 (eM.F l))] =
    T.br (M.rCheckRate { a := ra, b := rb, c := rc, d := rd } != (0 : Int)) (T.ret [Ar.c (D.sl false (0 : Nat) (0 : Nat) fun (x x_1 : Nat) => D.nilp), Ar.c (D.int IntKind.i64 (0 : Int)), Ar.c (D.int IntKind.i64 (M.rCheckRate { a := ra, b := rb, c := rc, d := rd }))])
  (T.br (Nat.cast (R := Int) (List.length l) == (0 : Int)) (T.ret [Ar.c (D.sl false (0 : Nat) (0 : Nat) fun (x x_1 : Nat) => D.nilp), Ar.c (D.int IntKind.i64 (0 : Int)), Ar.c (D.int IntKind.i64 (10 : Int))])
    (T.br (decide (Nat.cast (R := Int) (List.length l) > (40 : Int))) (T.ret [Ar.c (D.sl false (0 : Nat) (0 : Nat) fun (x x_1 : Nat) => D.nilp), Ar.c (D.int IntKind.i64 (0 : Int)), Ar.c (D.int IntKind.i64 (8 : Int))])
      (T.loop (Int × PUnit) ((0 : Int), PUnit.unit) fun (x : Int × PUnit) =>
        T.br (decide (Prod.fst x < Nat.cast (R := Int) (List.length l))) (T.need ((0 : Int) ≤ Prod.fst x) (T.need (Prod.fst x < Nat.cast (R := Int) (List.length l)) (T.br (M.rMeasureErr (List.getD l (Int.toNat (Prod.fst x)) (Enc.dflt eM)).1 (List.getD l (Int.toNat (Prod.fst x)) (Enc.dflt eM)).2 == (0 : Int)) (T.need ((M.rMeasureErr (List.getD l (Int.toNat (Prod.fst x)) (Enc.dflt eM)).1 (List.getD l (Int.toNat (Prod.fst x)) (Enc.dflt eM)).2 == (0 : Int)) = true) (T.br (decide (Prod.fst x > (0 : Int))) (T.need ((0 : Int) ≤ IntKind.wrap IntKind.i64 (Prod.fst x - (1 : Int))) (T.need (IntKind.wrap IntKind.i64 (Prod.fst x - (1 : Int)) < Nat.cast (R := Int) (List.length l)) (T.need ((0 : Int) ≤ Prod.fst x) (T.need (Prod.fst x < Nat.cast (R := Int) (List.length l)) (T.br (M.rBetweenErr (List.getD l (Int.toNat (IntKind.wrap IntKind.i64 (Prod.fst x - (1 : Int)))) (Enc.dflt eM)).1 (List.getD l (Int.toNat (Prod.fst x)) (Enc.dflt eM)).1 != (0 : Int)) (T.ret (Sum.inr [Ar.c (D.sl false (0 : Nat) (0 : Nat) fun (x x_1 : Nat) => D.nilp), Ar.c (D.int IntKind.i64 (Prod.fst x)), Ar.c (D.int IntKind.i64 (M.rBetweenErr (List.getD l (Int.toNat (IntKind.wrap IntKind.i64 (Prod.fst x - (1 : Int)))) (Enc.dflt eM)).1 (List.getD l (Int.toNat (Prod.fst x)) (Enc.dflt eM)).1))])) (T.ret (Sum.inl (IntKind.wrap IntKind.i64 (Prod.fst x + (1 : Int)), PUnit.unit)))))))) (T.br (M.rMeasureErr (List.getD l (Int.toNat (Prod.fst x)) (Enc.dflt eM)).1 (List.getD l (Int.toNat (Prod.fst x)) (Enc.dflt eM)).2 != (0 : Int)) (T.ret (Sum.inr [Ar.c (D.sl false (0 : Nat) (0 : Nat) fun (x x_1 : Nat) => D.nilp), Ar.c (D.int IntKind.i64 (Prod.fst x)), Ar.c (D.int IntKind.i64 (M.rMeasureErr (List.getD l (Int.toNat (Prod.fst x)) (Enc.dflt eM)).1 (List.getD l (Int.toNat (Prod.fst x)) (Enc.dflt eM)).2))])) (T.ret (Sum.inl (IntKind.wrap IntKind.i64 (Prod.fst x + (1 : Int)), PUnit.unit)))))) (T.need ((M.rMeasureErr (List.getD l (Int.toNat (Prod.fst x)) (Enc.dflt eM)).1 (List.getD l (Int.toNat (Prod.fst x)) (Enc.dflt eM)).2 == (0 : Int)) = false) (T.br (M.rMeasureErr (List.getD l (Int.toNat (Prod.fst x)) (Enc.dflt eM)).1 (List.getD l (Int.toNat (Prod.fst x)) (Enc.dflt eM)).2 != (0 : Int)) (T.ret (Sum.inr [Ar.c (D.sl false (0 : Nat) (0 : Nat) fun (x x_1 : Nat) => D.nilp), Ar.c (D.int IntKind.i64 (Prod.fst x)), Ar.c (D.int IntKind.i64 (M.rMeasureErr (List.getD l (Int.toNat (Prod.fst x)) (Enc.dflt eM)).1 (List.getD l (Int.toNat (Prod.fst x)) (Enc.dflt eM)).2))])) (T.ret (Sum.inl (IntKind.wrap IntKind.i64 (Prod.fst x + (1 : Int)), PUnit.unit))))))))
          (T.need ((0 : Int) ≤ (0 : Int))
            (T.need ((0 : Int) < Nat.cast (R := Int) (List.length l))
              (T.need (Enc.Is eW (1 : Nat) fun (i j : Nat) => List.getD [D.int IntKind.i64 (M.Wine.v0 (List.getD l (Int.toNat (0 : Int)) (Enc.dflt eM)).2), D.int IntKind.i64 (M.Wine.v1 (List.getD l (Int.toNat (0 : Int)) (Enc.dflt eM)).2), D.int IntKind.i64 (M.Wine.s0 (List.getD l (Int.toNat (0 : Int)) (Enc.dflt eM)).2), D.int IntKind.i64 (M.Wine.s1 (List.getD l (Int.toNat (0 : Int)) (Enc.dflt eM)).2), D.int IntKind.i64 (M.Wine.c0 (List.getD l (Int.toNat (0 : Int)) (Enc.dflt eM)).2), D.int IntKind.i64 (M.Wine.c1 (List.getD l (Int.toNat (0 : Int)) (Enc.dflt eM)).2)] (i * (6 : Nat) + j) D.nilp)
                (T.loop (Int × List M.Wine × PUnit) ((1 : Int), Enc.list eW (1 : Nat) fun (i j : Nat) => List.getD [D.int IntKind.i64 (M.Wine.v0 (List.getD l (Int.toNat (0 : Int)) (Enc.dflt eM)).2), D.int IntKind.i64 (M.Wine.v1 (List.getD l (Int.toNat (0 : Int)) (Enc.dflt eM)).2), D.int IntKind.i64 (M.Wine.s0 (List.getD l (Int.toNat (0 : Int)) (Enc.dflt eM)).2), D.int IntKind.i64 (M.Wine.s1 (List.getD l (Int.toNat (0 : Int)) (Enc.dflt eM)).2), D.int IntKind.i64 (M.Wine.c0 (List.getD l (Int.toNat (0 : Int)) (Enc.dflt eM)).2), D.int IntKind.i64 (M.Wine.c1 (List.getD l (Int.toNat (0 : Int)) (Enc.dflt eM)).2)] (i * (6 : Nat) + j) D.nilp, PUnit.unit) fun (x : Int × List M.Wine × PUnit) =>
                  T.br (decide (Prod.fst x < Nat.cast (R := Int) (List.length l)))
                    (T.need ((0 : Int) ≤ IntKind.wrap IntKind.i64 (Prod.fst x - (1 : Int)))
                      (T.need (IntKind.wrap IntKind.i64 (Prod.fst x - (1 : Int)) < Nat.cast (R := Int) (List.length (Prod.fst (Prod.snd x))))
                        (T.need (Int.toNat (IntKind.wrap IntKind.i64 (Prod.fst x - (1 : Int))) < List.length (Prod.fst (Prod.snd x)))
                          (T.need ((0 : Int) ≤ Prod.fst x)
                            (T.need (Prod.fst x < Nat.cast (R := Int) (List.length l))
                              (T.need ((0 : Int) ≤ IntKind.wrap IntKind.i64 (Prod.fst x - (1 : Int)))
                                (T.need (IntKind.wrap IntKind.i64 (Prod.fst x - (1 : Int)) < Nat.cast (R := Int) (List.length l))
                                  (T.need (M.Rg.hi (M.left (M.Rate.w { a := ra, b := rb, c := rc, d := rd }) (IntKind.wrap IntKind.i64 ((List.getD l (Int.toNat (Prod.fst x)) (Enc.dflt eM)).1 - (List.getD l (Int.toNat (IntKind.wrap IntKind.i64 (Prod.fst x - (1 : Int)))) (Enc.dflt eM)).1))) ≠ (0 : Int))
                                    (T.need (M.Rg.lo (M.left (M.Rate.w { a := ra, b := rb, c := rc, d := rd }) (IntKind.wrap IntKind.i64 ((List.getD l (Int.toNat (Prod.fst x)) (Enc.dflt eM)).1 - (List.getD l (Int.toNat (IntKind.wrap IntKind.i64 (Prod.fst x - (1 : Int)))) (Enc.dflt eM)).1))) ≠ (0 : Int))
                                      (T.br (Prod.snd (M.rAfter (List.getD (Prod.fst (Prod.snd x)) (Int.toNat (IntKind.wrap IntKind.i64 (Prod.fst x - (1 : Int)))) { v0 := (0 : Int), v1 := (0 : Int), s0 := (0 : Int), s1 := (0 : Int), c0 := (0 : Int), c1 := (0 : Int) }) { a := ra, b := rb, c := rc, d := rd } (IntKind.wrap IntKind.i64 ((List.getD l (Int.toNat (Prod.fst x)) (Enc.dflt eM)).1 - (List.getD l (Int.toNat (IntKind.wrap IntKind.i64 (Prod.fst x - (1 : Int)))) (Enc.dflt eM)).1))) != (0 : Int)) (T.ret (Sum.inr (Sum.inr [Ar.c (D.sl false (0 : Nat) (0 : Nat) fun (x x_1 : Nat) => D.nilp), Ar.c (D.int IntKind.i64 (Prod.fst x)), Ar.c (D.int IntKind.i64 (Prod.snd (M.rAfter (List.getD (Prod.fst (Prod.snd x)) (Int.toNat (IntKind.wrap IntKind.i64 (Prod.fst x - (1 : Int)))) { v0 := (0 : Int), v1 := (0 : Int), s0 := (0 : Int), s1 := (0 : Int), c0 := (0 : Int), c1 := (0 : Int) }) { a := ra, b := rb, c := rc, d := rd } (IntKind.wrap IntKind.i64 ((List.getD l (Int.toNat (Prod.fst x)) (Enc.dflt eM)).1 - (List.getD l (Int.toNat (IntKind.wrap IntKind.i64 (Prod.fst x - (1 : Int)))) (Enc.dflt eM)).1)))))])))
                                        (T.need ((0 : Int) ≤ Prod.fst x)
                                          (T.need (Prod.fst x < Nat.cast (R := Int) (List.length l))
                                            (T.br (!M.wOk (M.commonW (Prod.fst (M.rAfter (List.getD (Prod.fst (Prod.snd x)) (Int.toNat (IntKind.wrap IntKind.i64 (Prod.fst x - (1 : Int)))) { v0 := (0 : Int), v1 := (0 : Int), s0 := (0 : Int), s1 := (0 : Int), c0 := (0 : Int), c1 := (0 : Int) }) { a := ra, b := rb, c := rc, d := rd } (IntKind.wrap IntKind.i64 ((List.getD l (Int.toNat (Prod.fst x)) (Enc.dflt eM)).1 - (List.getD l (Int.toNat (IntKind.wrap IntKind.i64 (Prod.fst x - (1 : Int)))) (Enc.dflt eM)).1)))) (List.getD l (Int.toNat (Prod.fst x)) (Enc.dflt eM)).2)) (T.ret (Sum.inr (Sum.inr [Ar.c (D.sl false (0 : Nat) (0 : Nat) fun (x x_1 : Nat) => D.nilp), Ar.c (D.int IntKind.i64 (Prod.fst x)), Ar.c (D.int IntKind.i64 (13 : Int))])))
                                              (T.need (List.length (Prod.fst (Prod.snd x)) + (1 : Nat) ≤ (1000000 : Nat))
                                                (T.need (List.length (Prod.fst (Prod.snd x)) ≤ List.length (Prod.fst (Prod.snd x)))
                                                  (T.need
                                                    (Enc.Is eW (List.length (Prod.fst (Prod.snd x)) + (1 : Nat))
                                                      (joinF (List.length (Prod.fst (Prod.snd x))) (Enc.F eW (Prod.fst (Prod.snd x))) fun (i j : Nat) =>
                                                        List.getD
                                                          [D.int IntKind.i64 (M.Wine.v0 (M.commonW (Prod.fst (M.rAfter (List.getD (Prod.fst (Prod.snd x)) (Int.toNat (IntKind.wrap IntKind.i64 (Prod.fst x - (1 : Int)))) { v0 := (0 : Int), v1 := (0 : Int), s0 := (0 : Int), s1 := (0 : Int), c0 := (0 : Int), c1 := (0 : Int) }) { a := ra, b := rb, c := rc, d := rd } (IntKind.wrap IntKind.i64 ((List.getD l (Int.toNat (Prod.fst x)) (Enc.dflt eM)).1 - (List.getD l (Int.toNat (IntKind.wrap IntKind.i64 (Prod.fst x - (1 : Int)))) (Enc.dflt eM)).1)))) (List.getD l (Int.toNat (Prod.fst x)) (Enc.dflt eM)).2)), D.int IntKind.i64 (M.Wine.v1 (M.commonW (Prod.fst (M.rAfter (List.getD (Prod.fst (Prod.snd x)) (Int.toNat (IntKind.wrap IntKind.i64 (Prod.fst x - (1 : Int)))) { v0 := (0 : Int), v1 := (0 : Int), s0 := (0 : Int), s1 := (0 : Int), c0 := (0 : Int), c1 := (0 : Int) }) { a := ra, b := rb, c := rc, d := rd } (IntKind.wrap IntKind.i64 ((List.getD l (Int.toNat (Prod.fst x)) (Enc.dflt eM)).1 - (List.getD l (Int.toNat (IntKind.wrap IntKind.i64 (Prod.fst x - (1 : Int)))) (Enc.dflt eM)).1)))) (List.getD l (Int.toNat (Prod.fst x)) (Enc.dflt eM)).2)), D.int IntKind.i64 (M.Wine.s0 (M.commonW (Prod.fst (M.rAfter (List.getD (Prod.fst (Prod.snd x)) (Int.toNat (IntKind.wrap IntKind.i64 (Prod.fst x - (1 : Int)))) { v0 := (0 : Int), v1 := (0 : Int), s0 := (0 : Int), s1 := (0 : Int), c0 := (0 : Int), c1 := (0 : Int) }) { a := ra, b := rb, c := rc, d := rd } (IntKind.wrap IntKind.i64 ((List.getD l (Int.toNat (Prod.fst x)) (Enc.dflt eM)).1 - (List.getD l (Int.toNat (IntKind.wrap IntKind.i64 (Prod.fst x - (1 : Int)))) (Enc.dflt eM)).1)))) (List.getD l (Int.toNat (Prod.fst x)) (Enc.dflt eM)).2)), D.int IntKind.i64 (M.Wine.s1 (M.commonW (Prod.fst (M.rAfter (List.getD (Prod.fst (Prod.snd x)) (Int.toNat (IntKind.wrap IntKind.i64 (Prod.fst x - (1 : Int)))) { v0 := (0 : Int), v1 := (0 : Int), s0 := (0 : Int), s1 := (0 : Int), c0 := (0 : Int), c1 := (0 : Int) }) { a := ra, b := rb, c := rc, d := rd } (IntKind.wrap IntKind.i64 ((List.getD l (Int.toNat (Prod.fst x)) (Enc.dflt eM)).1 - (List.getD l (Int.toNat (IntKind.wrap IntKind.i64 (Prod.fst x - (1 : Int)))) (Enc.dflt eM)).1)))) (List.getD l (Int.toNat (Prod.fst x)) (Enc.dflt eM)).2)), D.int IntKind.i64 (M.Wine.c0 (M.commonW (Prod.fst (M.rAfter (List.getD (Prod.fst (Prod.snd x)) (Int.toNat (IntKind.wrap IntKind.i64 (Prod.fst x - (1 : Int)))) { v0 := (0 : Int), v1 := (0 : Int), s0 := (0 : Int), s1 := (0 : Int), c0 := (0 : Int), c1 := (0 : Int) }) { a := ra, b := rb, c := rc, d := rd } (IntKind.wrap IntKind.i64 ((List.getD l (Int.toNat (Prod.fst x)) (Enc.dflt eM)).1 - (List.getD l (Int.toNat (IntKind.wrap IntKind.i64 (Prod.fst x - (1 : Int)))) (Enc.dflt eM)).1)))) (List.getD l (Int.toNat (Prod.fst x)) (Enc.dflt eM)).2)),
                                                            D.int IntKind.i64 (M.Wine.c1 (M.commonW (Prod.fst (M.rAfter (List.getD (Prod.fst (Prod.snd x)) (Int.toNat (IntKind.wrap IntKind.i64 (Prod.fst x - (1 : Int)))) { v0 := (0 : Int), v1 := (0 : Int), s0 := (0 : Int), s1 := (0 : Int), c0 := (0 : Int), c1 := (0 : Int) }) { a := ra, b := rb, c := rc, d := rd } (IntKind.wrap IntKind.i64 ((List.getD l (Int.toNat (Prod.fst x)) (Enc.dflt eM)).1 - (List.getD l (Int.toNat (IntKind.wrap IntKind.i64 (Prod.fst x - (1 : Int)))) (Enc.dflt eM)).1)))) (List.getD l (Int.toNat (Prod.fst x)) (Enc.dflt eM)).2))]
                                                          (i * (6 : Nat) + j) D.nilp))
                                                    (T.need (List.length (Prod.fst (Prod.snd x)) + (1 : Nat) ≤ List.length (Prod.fst (Prod.snd x)) + (1 : Nat))
                                                      (T.ret
                                                        (Sum.inl
                                                          (IntKind.wrap IntKind.i64 (Prod.fst x + (1 : Int)),
                                                            Enc.list eW (List.length (Prod.fst (Prod.snd x)) + (1 : Nat))
                                                              (joinF (List.length (Prod.fst (Prod.snd x))) (Enc.F eW (Prod.fst (Prod.snd x))) fun (i j : Nat) =>
                                                                List.getD
                                                                  [D.int IntKind.i64 (M.Wine.v0 (M.commonW (Prod.fst (M.rAfter (List.getD (Prod.fst (Prod.snd x)) (Int.toNat (IntKind.wrap IntKind.i64 (Prod.fst x - (1 : Int)))) { v0 := (0 : Int), v1 := (0 : Int), s0 := (0 : Int), s1 := (0 : Int), c0 := (0 : Int), c1 := (0 : Int) }) { a := ra, b := rb, c := rc, d := rd } (IntKind.wrap IntKind.i64 ((List.getD l (Int.toNat (Prod.fst x)) (Enc.dflt eM)).1 - (List.getD l (Int.toNat (IntKind.wrap IntKind.i64 (Prod.fst x - (1 : Int)))) (Enc.dflt eM)).1)))) (List.getD l (Int.toNat (Prod.fst x)) (Enc.dflt eM)).2)), D.int IntKind.i64 (M.Wine.v1 (M.commonW (Prod.fst (M.rAfter (List.getD (Prod.fst (Prod.snd x)) (Int.toNat (IntKind.wrap IntKind.i64 (Prod.fst x - (1 : Int)))) { v0 := (0 : Int), v1 := (0 : Int), s0 := (0 : Int), s1 := (0 : Int), c0 := (0 : Int), c1 := (0 : Int) }) { a := ra, b := rb, c := rc, d := rd } (IntKind.wrap IntKind.i64 ((List.getD l (Int.toNat (Prod.fst x)) (Enc.dflt eM)).1 - (List.getD l (Int.toNat (IntKind.wrap IntKind.i64 (Prod.fst x - (1 : Int)))) (Enc.dflt eM)).1)))) (List.getD l (Int.toNat (Prod.fst x)) (Enc.dflt eM)).2)), D.int IntKind.i64 (M.Wine.s0 (M.commonW (Prod.fst (M.rAfter (List.getD (Prod.fst (Prod.snd x)) (Int.toNat (IntKind.wrap IntKind.i64 (Prod.fst x - (1 : Int)))) { v0 := (0 : Int), v1 := (0 : Int), s0 := (0 : Int), s1 := (0 : Int), c0 := (0 : Int), c1 := (0 : Int) }) { a := ra, b := rb, c := rc, d := rd } (IntKind.wrap IntKind.i64 ((List.getD l (Int.toNat (Prod.fst x)) (Enc.dflt eM)).1 - (List.getD l (Int.toNat (IntKind.wrap IntKind.i64 (Prod.fst x - (1 : Int)))) (Enc.dflt eM)).1)))) (List.getD l (Int.toNat (Prod.fst x)) (Enc.dflt eM)).2)), D.int IntKind.i64 (M.Wine.s1 (M.commonW (Prod.fst (M.rAfter (List.getD (Prod.fst (Prod.snd x)) (Int.toNat (IntKind.wrap IntKind.i64 (Prod.fst x - (1 : Int)))) { v0 := (0 : Int), v1 := (0 : Int), s0 := (0 : Int), s1 := (0 : Int), c0 := (0 : Int), c1 := (0 : Int) }) { a := ra, b := rb, c := rc, d := rd } (IntKind.wrap IntKind.i64 ((List.getD l (Int.toNat (Prod.fst x)) (Enc.dflt eM)).1 - (List.getD l (Int.toNat (IntKind.wrap IntKind.i64 (Prod.fst x - (1 : Int)))) (Enc.dflt eM)).1)))) (List.getD l (Int.toNat (Prod.fst x)) (Enc.dflt eM)).2)), D.int IntKind.i64 (M.Wine.c0 (M.commonW (Prod.fst (M.rAfter (List.getD (Prod.fst (Prod.snd x)) (Int.toNat (IntKind.wrap IntKind.i64 (Prod.fst x - (1 : Int)))) { v0 := (0 : Int), v1 := (0 : Int), s0 := (0 : Int), s1 := (0 : Int), c0 := (0 : Int), c1 := (0 : Int) }) { a := ra, b := rb, c := rc, d := rd } (IntKind.wrap IntKind.i64 ((List.getD l (Int.toNat (Prod.fst x)) (Enc.dflt eM)).1 - (List.getD l (Int.toNat (IntKind.wrap IntKind.i64 (Prod.fst x - (1 : Int)))) (Enc.dflt eM)).1)))) (List.getD l (Int.toNat (Prod.fst x)) (Enc.dflt eM)).2)),
                                                                    D.int IntKind.i64 (M.Wine.c1 (M.commonW (Prod.fst (M.rAfter (List.getD (Prod.fst (Prod.snd x)) (Int.toNat (IntKind.wrap IntKind.i64 (Prod.fst x - (1 : Int)))) { v0 := (0 : Int), v1 := (0 : Int), s0 := (0 : Int), s1 := (0 : Int), c0 := (0 : Int), c1 := (0 : Int) }) { a := ra, b := rb, c := rc, d := rd } (IntKind.wrap IntKind.i64 ((List.getD l (Int.toNat (Prod.fst x)) (Enc.dflt eM)).1 - (List.getD l (Int.toNat (IntKind.wrap IntKind.i64 (Prod.fst x - (1 : Int)))) (Enc.dflt eM)).1)))) (List.getD l (Int.toNat (Prod.fst x)) (Enc.dflt eM)).2))]
                                                                  (i * (6 : Nat) + j) D.nilp),
                                                            PUnit.unit))))))))))))))))))))
                    (T.need (List.length (Prod.fst (Prod.snd x)) ≤ List.length (Prod.fst (Prod.snd x))) (T.ret (Sum.inr (Sum.inr [Ar.c (D.sl true (List.length (Prod.fst (Prod.snd x))) (6 : Nat) (Enc.F eW (Prod.fst (Prod.snd x)))), Ar.c (D.int IntKind.i64 (0 : Int)), Ar.c (D.int IntKind.i64 (0 : Int))]))))))))))) := by kernel_rfl
theorem C49v : FOK Tryd.prog G0 gw 49 dom49 := by
  intro ags p r hd hp κ w xs hw hl hG hx
  unfold dom49 at hd
  split at hd
  · rename_i ra rb rc rd q len st F
    split at hd
    · rename_i hst
      have h1 := Nat.eq_of_beq_eq_true hst
      subst h1
      simp only [Option.some.injEq, Prod.mk.injEq] at hd
      obtain ⟨rfl, rfl⟩ := hd
      obtain ⟨hIs, hle, _⟩ := hp
      have hto := eM.to (q := q) (q' := q) id hIs
      have hln : (eM.list len F).length = len := eM.list_len
      generalize eM.list len F = l at *
      refine fok_fin mixed gw_stable (sl := [v24, v98, v99, v30, v51]) ⟨S24v, S98v, S99v, S30v, S51v, trivial⟩ Tryd.func49 hw hl hG hx (ags' := [.agg [dI ra, dI rb, dI rc, dI rd], .c (.sl q l.length 7 (eM.F l))]) ⟨dsEqv_refl _, hto, trivial⟩ rfl (t49 ra rb rc rd q l) ?_
      refine ⟨fun he => ?_, fun he => ⟨fun he2 => ?_, fun he2 => ⟨fun he3 => ?_, fun he3 => ?_⟩⟩⟩
      · unfold rFollowed; rw [show (M.rCheckRate ⟨ra, rb, rc, rd⟩ != 0) = true from he]; exact nil_eqv _ _ _
      · unfold rFollowed; rw [show (M.rCheckRate ⟨ra, rb, rc, rd⟩ != 0) = false from he, show ((l.length : Int) == 0) = true from he2]; exact nil_eqv _ _ _
      · unfold rFollowed; rw [show (M.rCheckRate ⟨ra, rb, rc, rd⟩ != 0) = false from he, show ((l.length : Int) == 0) = false from he2, show decide ((l.length : Int) > 40) = true from he3]; exact nil_eqv _ _ _
      · have hfo : rFollowed ⟨ra, rb, rc, rd⟩ l = folRest M.rAfter chkR ⟨ra, rb, rc, rd⟩ l := by unfold rFollowed; rw [show (M.rCheckRate ⟨ra, rb, rc, rd⟩ != 0) = false from he, show ((l.length : Int) == 0) = false from he2, show decide ((l.length : Int) > 40) = false from he3]; rfl
        have hrate : L.OkR ⟨ra, rb, rc, rd⟩ := by
          have := bne_eq_false_iff_eq.1 he
          rw [L.rCheckRate_eq, L.checkRate_zero] at this; exact this
        have hpos : 0 < l.length := by
          have := beq_eq_false_iff_ne.1 he2
          omega
        rw [hfo]
        refine ⟨fun x => ∃ k : Nat, x.1 = (k : Int) ∧ k ≤ l.length ∧ firstBad (chkR l) 0 l.length = firstBad (chkR l) k (l.length - k), fun x => l.length - x.1.toNat, ⟨0, rfl, by omega, by simp⟩, ?_⟩
        rintro ⟨x, u⟩ ⟨k, hk, g2, g3⟩
        simp only at hk
        subst hk
        -- a bad one
        have bad : ∀ e, k < l.length → chkR l k = e → e ≠ 0 → folRest M.rAfter chkR ⟨ra, rb, rc, rd⟩ l = ([], (k : Int), e) := by
          intro e hlt hc hne
          unfold folRest
          rw [g3, firstBad_step hlt, hc, show (e != 0) = true by simpa using hne]; rfl
        have good : k < l.length → chkR l k = 0 → firstBad (chkR l) 0 l.length = firstBad (chkR l) (k + 1) (l.length - (k + 1)) := by
          intro hlt hc
          rw [g3, firstBad_step hlt, hc]; rfl
        refine ⟨fun hlt => ?_, fun hge => ?_⟩
        · have hlt' : k < l.length := by simpa using hlt
          refine ⟨by omega, by omega, ?_⟩
          simp only [Int.toNat_natCast]
          have next : chkR l k = 0 → LoopP (fun x : Int × PUnit => ∃ k : Nat, x.1 = (k : Int) ∧ k ≤ l.length ∧ firstBad (chkR l) 0 l.length = firstBad (chkR l) k (l.length - k)) (fun x => l.length - x.1.toNat) (l.length - k)
              (fun rs => rsEqv rs [rWs (folRest M.rAfter chkR ⟨ra, rb, rc, rd⟩ l).1, rI (folRest M.rAfter chkR ⟨ra, rb, rc, rd⟩ l).2.1, rI (folRest M.rAfter chkR ⟨ra, rb, rc, rd⟩ l).2.2]) (Sum.inl (IntKind.wrap IntKind.i64 ((k : Int) + 1), PUnit.unit)) := by
            intro hc
            rw [sucW k (by omega)]
            exact ⟨⟨k + 1, rfl, by omega, good hlt' hc⟩, by simp only [Int.toNat_natCast]; omega⟩
          refine ⟨fun hm => ⟨hm, fun hpos' => ?_, fun hz => ?_⟩, fun hm => ⟨hm, ?_⟩⟩
          · have hk1 : 1 ≤ k := by have := of_decide_eq_true hpos'; omega
            rw [predW k (by omega) hk1]
            have hck : chkR l k = M.rBetweenErr (gm l (k - 1)).day (gm l k).day := by
              unfold chkR
              rw [show (M.rMeasureErr (gm l k).day (gm l k).w == 0) = true from hm, show decide ((k : Int) > 0) = true from hpos']; rfl
            refine ⟨by omega, by omega, by omega, by omega, fun hb => ?_, fun hb => ?_⟩
            · have := bad _ hlt' hck (bne_iff_ne.1 hb)
              simp only [T.wp, LoopP]
              rw [this]; exact nil_eqv _ _ _
            · exact next (hck.trans (bne_eq_false_iff_eq.1 hb))
          · have hck : chkR l k = M.rMeasureErr (gm l k).day (gm l k).w := by
              unfold chkR
              rw [show (M.rMeasureErr (gm l k).day (gm l k).w == 0) = true from hm, show decide ((k : Int) > 0) = false from hz]; rfl
            refine ⟨fun hb => ?_, fun hb => ?_⟩
            · have := bad _ hlt' hck (bne_iff_ne.1 hb)
              simp only [T.wp, LoopP]
              rw [this]; exact nil_eqv _ _ _
            · exact next (hck.trans (bne_eq_false_iff_eq.1 hb))
          · have hck : chkR l k = M.rMeasureErr (gm l k).day (gm l k).w := by
              unfold chkR
              rw [show (M.rMeasureErr (gm l k).day (gm l k).w == 0) = false from hm]; rfl
            refine ⟨fun hb => ?_, fun hb => ?_⟩
            · have := bad _ hlt' hck (bne_iff_ne.1 hb)
              simp only [T.wp, LoopP]
              rw [this]; exact nil_eqv _ _ _
            · exact next (hck.trans (bne_eq_false_iff_eq.1 hb))
        · have hge' : l.length ≤ k := by simpa using hge
          have hnone : firstBad (chkR l) 0 l.length = none := by rw [g3, show l.length - k = 0 by omega]; rfl
          have hall := firstBad_none hnone
          have hrest : folRest M.rAfter chkR ⟨ra, rb, rc, rd⟩ l = fol M.rAfter ⟨ra, rb, rc, rd⟩ l 1 [(gm l 0).w] (l.length - 1) := by unfold folRest; rw [hnone]
          obtain ⟨w1, w2⟩ := wlit1 (gm l 0).w
          refine ⟨by omega, by omega, w1, ?_⟩
          rw [hrest]
          refine ⟨fun x => ∃ k : Nat, x.1 = (k : Int) ∧ 1 ≤ k ∧ k ≤ l.length ∧ x.2.1.length = k ∧ fol M.rAfter ⟨ra, rb, rc, rd⟩ l 1 [(gm l 0).w] (l.length - 1) = fol M.rAfter ⟨ra, rb, rc, rd⟩ l k x.2.1 (l.length - k), fun x => l.length - x.1.toNat,
            ⟨1, rfl, by omega, by omega, congrArg List.length w2, (congrArg (fun a => fol M.rAfter ⟨ra, rb, rc, rd⟩ l 1 a (l.length - 1)) w2).symm⟩, ?_⟩
          rintro ⟨x, acc, u⟩ ⟨k, hk, j1, j2, j3, j4⟩
          simp only at hk j3 j4
          subst hk
          refine ⟨fun hlt => ?_, fun hge => ?_⟩
          · have hlt' : k < l.length := by simpa using hlt
            obtain ⟨_, d2, d3, d4⟩ := chkR_days j1 (hall k (by omega) (by omega)) (chkR_meas (hall (k - 1) (by omega) (by omega)))
            obtain ⟨n1, n2⟩ := L.task_left hrate ⟨d3, d4⟩
            rw [← d2] at n1 n2
            rw [fol_step hlt'] at j4
            simp only [predW k (by omega) j1, Int.toNat_natCast]
            refine ⟨by omega, by omega, by omega, by omega, by omega, by omega, by omega, n1, n2, fun hne => ?_, fun heq => ⟨by omega, by omega, fun hno => ?_, fun hyes => ⟨by omega, Nat.le_refl _, (wpush acc _).1, Nat.le_refl _, ?_⟩⟩⟩
            · rw [show ((M.rAfter (acc.getD (k - 1) eW.dflt) ⟨ra, rb, rc, rd⟩ (M.W ((gm l k).day - (gm l (k - 1)).day))).2 != 0) = true from hne] at j4
              simp only [T.wp, LoopP]
              rw [j4]; exact nil_eqv _ _ _
            · rw [show ((M.rAfter (acc.getD (k - 1) eW.dflt) ⟨ra, rb, rc, rd⟩ (M.W ((gm l k).day - (gm l (k - 1)).day))).2 != 0) = false from heq] at j4
              rw [show M.wOk (M.commonW (M.rAfter (acc.getD (k - 1) eW.dflt) ⟨ra, rb, rc, rd⟩ (M.W ((gm l k).day - (gm l (k - 1)).day))).1 (gm l k).w) = false by rw [← Bool.not_eq_true']; exact hno] at j4
              simp only [T.wp, LoopP]
              rw [j4]; exact nil_eqv _ _ _
            · rw [show ((M.rAfter (acc.getD (k - 1) eW.dflt) ⟨ra, rb, rc, rd⟩ (M.W ((gm l k).day - (gm l (k - 1)).day))).2 != 0) = false from heq] at j4
              rw [show M.wOk (M.commonW (M.rAfter (acc.getD (k - 1) eW.dflt) ⟨ra, rb, rc, rd⟩ (M.W ((gm l k).day - (gm l (k - 1)).day))).1 (gm l k).w) = true by rw [← Bool.not_eq_false']; exact hyes] at j4
              simp only [T.wp, LoopP]
              rw [sucW k (by omega), show (eW.list (acc.length + 1) _) = _ from (wpush acc _).2]
              refine ⟨⟨k + 1, rfl, by omega, by omega, by simp [j3], j4⟩, by simp only [Int.toNat_natCast]; omega⟩
          · have hge' : l.length ≤ k := by simpa using hge
            rw [show l.length - k = 0 by omega] at j4
            simp only [fol] at j4
            refine ⟨Nat.le_refl _, ?_⟩
            simp only [T.wp, LoopP]
            rw [j4]; exact list_eqv _ _
    · cases hd
  · cases hd
theorem S49v : SumOK Tryd.prog G0 gw 49 (fokSm dom49) := fok_sum Tryd.func49 rfl C49v
end Go.Fl2
end

section
/- Chapter 3 with the second engine: more contracts of the first engine as contracts of the second one; the domains of the laws on spells and on measurements. -/
set_option linter.unusedVariables false
set_option linter.unusedSimpArgs false
namespace Go.Fl2
open Go.V Go.Fl Go.Proofs

def v20 := bs 20 [] d20
def v61 := bs 61 [] d61
def v43 := bs 43 [.agg, .agg, .c] d43
def v55 := bs 55 [.c, .c, .c] d55
def v62 := bs 62 [.c] d62
def v63 := bs 63 [.agg, .c] d63
def v64 := bs 64 [.c, .c, .agg] d64
def v67 := bs 67 [.c, .c] d67
def v68 := bs 68 [.c, .c] d68
def v69 := bs 69 [.c, .c] d69
theorem S20v : SumOK Tryd.prog G0 gw 20 (fokSm (bdom [] d20)) := fok_sum Tryd.func20 rfl (bridge C20)
theorem S61v : SumOK Tryd.prog G0 gw 61 (fokSm (bdom [] d61)) := fok_sum Tryd.func61 rfl (bridge C61)
theorem S43v : SumOK Tryd.prog G0 gw 43 (fokSm (bdom [.agg, .agg, .c] d43)) := fok_sum Tryd.func43 rfl (bridge C43)
theorem S55v : SumOK Tryd.prog G0 gw 55 (fokSm (bdom [.c, .c, .c] d55)) := fok_sum Tryd.func55 rfl (bridge C55)
theorem S62v : SumOK Tryd.prog G0 gw 62 (fokSm (bdom [.c] d62)) := fok_sum Tryd.func62 rfl (bridge C62)
theorem S63v : SumOK Tryd.prog G0 gw 63 (fokSm (bdom [.agg, .c] d63)) := fok_sum Tryd.func63 rfl (bridge C63)
theorem S64v : SumOK Tryd.prog G0 gw 64 (fokSm (bdom [.c, .c, .agg] d64)) := fok_sum Tryd.func64 rfl (bridge C64)
theorem S67v : SumOK Tryd.prog G0 gw 67 (fokSm (bdom [.c, .c] d67)) := fok_sum Tryd.func67 rfl (bridge C67)
theorem S68v : SumOK Tryd.prog G0 gw 68 (fokSm (bdom [.c, .c] d68)) := fok_sum Tryd.func68 rfl (bridge C68)
theorem S69v : SumOK Tryd.prog G0 gw 69 (fokSm (bdom [.c, .c] d69)) := fok_sum Tryd.func69 rfl (bridge C69)
def dom7 : DomF
  | [.agg [.int .i64 v0, .int .i64 v1, .int .i64 s0, .int .i64 s1, .int .i64 c0, .int .i64 c1], .c (.sl _ len st F)] => (match Nat.beq st 5 with
    | true => some ([eS.Is len F], [rB true])
    | false => none)
  | _ => none
def dom11 : DomF
  | [.agg [.int .i64 ra, .int .i64 rb, .int .i64 rc, .int .i64 rd], .c (.sl _ len st F)] => (match Nat.beq st 7 with
    | true => some ([eM.Is len F], [rB true])
    | false => none)
  | _ => none
end Go.Fl2
end

section
/- Chapter 3: plain laws of lists of spells and of measurements: the program's words and the reference's words say the same. -/
set_option linter.unusedVariables false
set_option linter.unusedSimpArgs false
namespace Go.Fl2
open Go.V Go.Fl

theorem bne_t {e : Int} (h : e ≠ 0) : (e != 0) = true := by simpa using h
theorem bne_f {e : Int} (h : e = 0) : (e != 0) = false := by simpa using h
theorem rOverFrom_eq : ∀ (l : List Spell) (w : M.Wine) (i : Int), rOverFrom w l i = overFrom w l i
  | [], _, _ => rfl
  | s :: l, w, i => by
    simp only [rOverFrom, overFrom]
    rw [L.rTaskErr_eq]
    by_cases h : M.taskErr w s.r s.d = 0
    · rw [bne_f h, cond_false, L.after_eq h, rOverFrom_eq l]
    · rw [L.after_err h, bne_t h]; rfl
theorem rOver_eq (w : M.Wine) (l : List Spell) : rOver w l = over w l := by
  unfold rOver over overErr
  rw [L.rCheckWine_eq]
  simp only [M.first]
  by_cases h : M.checkWine w = 0
  · rw [bne_f h, cond_false, cond_false]
    by_cases h2 : (l.length : Int) ≤ 20
    · rw [decide_eq_false (by omega), decide_eq_true h2, cond_false, rOverFrom_eq]; rfl
    · rw [decide_eq_true (by omega : (l.length : Int) > 20), decide_eq_false h2]; rfl
  · rw [bne_t h, cond_true, cond_true, bne_t h]; rfl

theorem firstBad_eq {l : List Meas} : ∀ (n k : Nat), (k = 0 ∨ M.measureErr (gm l (k - 1)).day (gm l (k - 1)).w = 0) → firstBad (chkF l) k n = firstBad (chkR l) k n
  | 0, _, _ => rfl
  | n + 1, k, h => by
    have hk : chkF l k = chkR l k ∧ (chkF l k = 0 → M.measureErr (gm l k).day (gm l k).w = 0) := by
      unfold chkF chkR
      rw [L.rMeasureErr_eq]
      by_cases hm : M.measureErr (gm l k).day (gm l k).w = 0
      · rw [hm]
        rcases Nat.eq_zero_or_pos k with rfl | hp
        · exact ⟨rfl, fun _ => rfl⟩
        · have h9 := h.resolve_left (by omega)
          rw [L.measureErr_zero] at h9 hm
          rw [decide_eq_true (by omega : (k : Int) > 0), L.between_eq _ _ (by omega) (by omega)]
          exact ⟨rfl, fun _ => rfl⟩
      · rw [show (M.measureErr (gm l k).day (gm l k).w == 0) = false by simpa using hm, cond_false, cond_false]
        cases decide ((k : Int) > 0) <;> exact ⟨rfl, fun e => e⟩
    simp only [firstBad]
    rw [hk.1]
    by_cases hz : chkR l k = 0
    · rw [bne_f hz, cond_false, cond_false]
      exact firstBad_eq n (k + 1) (.inr (hk.2 (hk.1.trans hz)))
    · rw [bne_t hz]; rfl
/-- What is common with a narrowed wine. -/
theorem rg_absorb (a b : M.Rg) : M.common (M.common a b) b = M.common a b := by
  unfold M.common M.maxI M.minI
  simp only [M.Rg.mk.injEq]
  constructor
  · by_cases h : b.lo > a.lo
    · rw [if_pos h, if_neg (by omega)]
    · rw [if_neg h, if_neg h]
  · by_cases h : b.hi < a.hi
    · rw [if_pos h, if_neg (by omega)]
    · rw [if_neg h, if_neg h]
theorem w_absorb (a b : M.Wine) : M.commonW (M.commonW a b) b = M.commonW a b := by
  have h1 := rg_absorb a.v b.v
  have h2 := rg_absorb a.s b.s
  have h3 := rg_absorb a.c b.c
  show M.Wine.mk3 (M.common (M.common a.v b.v) b.v) (M.common (M.common a.s b.s) b.s) (M.common (M.common a.c b.c) b.c) = _
  rw [h1, h2, h3]; rfl
theorem rg_ok {a b : M.Rg} {m : Int} (h : M.rgOk (M.common a b) = true) (h0 : 0 ≤ b.lo) (h1 : b.hi ≤ m) : 0 ≤ (M.common a b).lo ∧ (M.common a b).lo ≤ (M.common a b).hi ∧ (M.common a b).hi ≤ m := by
  have h2 : (M.common a b).lo ≤ (M.common a b).hi := of_decide_eq_true h
  refine ⟨?_, h2, ?_⟩
  · show 0 ≤ M.maxI _ _
    unfold M.maxI; split <;> omega
  · show M.minI _ _ ≤ m
    unfold M.minI; split <;> omega
theorem w_ok {a b : M.Wine} (hb : L.OkW b) (h : M.wOk (M.commonW a b) = true) : L.OkW (M.commonW a b) := by
  have h' : M.rgOk (M.common a.v b.v) = true ∧ M.rgOk (M.common a.s b.s) = true ∧ M.rgOk (M.common a.c b.c) = true := by
    have h9 : cond (M.rgOk (M.common a.v b.v)) (cond (M.rgOk (M.common a.s b.s)) (M.rgOk (M.common a.c b.c)) false) false = true := h
    cases e1 : M.rgOk (M.common a.v b.v) with
    | false => rw [e1] at h9; cases h9
    | true =>
      rw [e1] at h9
      cases e2 : M.rgOk (M.common a.s b.s) with
      | false => rw [e2] at h9; cases h9
      | true => rw [e2] at h9; exact ⟨rfl, rfl, h9⟩
  obtain ⟨k1, k2, k3⟩ := h'
  have q1 := rg_ok k1 hb.v0 hb.v1
  have q2 := rg_ok k2 hb.s0 hb.s1
  have q3 := rg_ok k3 hb.c0 hb.c1
  exact ⟨q1.1, q1.2.1, q1.2.2, q2.1, q2.2.1, q2.2.2, q3.1, q3.2.1, q3.2.2⟩
theorem ok_wOk {w : M.Wine} (h : L.OkW w) : M.wOk w = true := by
  have h1 : M.rgOk w.v = true := decide_eq_true h.v
  have h2 : M.rgOk w.s = true := decide_eq_true h.s
  have h3 : M.rgOk w.c = true := decide_eq_true h.c
  show cond (M.rgOk w.v) (cond (M.rgOk w.s) (M.rgOk w.c) false) false = true
  rw [h1, h2, h3]; rfl
theorem w_self (w : M.Wine) : M.commonW w w = w := by
  have h1 := L.common_self w.v
  have h2 := L.common_self w.s
  have h3 := L.common_self w.c
  show M.Wine.mk3 (M.common w.v w.v) (M.common w.s w.s) (M.common w.c w.c) = w
  rw [h1, h2, h3]; rfl
/-- What is followed lies in what was measured. -/
def Narrow (l : List Meas) (xs : List M.Wine) : Prop := ∀ i, i < xs.length → M.commonW (xs.getD i eW.dflt) (gm l i).w = xs.getD i eW.dflt ∧ M.wOk (xs.getD i eW.dflt) = true ∧ L.OkW (xs.getD i eW.dflt)
theorem narrow_push {l : List Meas} {acc : List M.Wine} {x : M.Wine} (h : Narrow l acc) (h1 : M.commonW x (gm l acc.length).w = x) (h2 : M.wOk x = true) (h3 : L.OkW x) : Narrow l (acc ++ [x]) := by
  intro i hi
  simp only [List.length_append, List.length_singleton] at hi
  rcases Nat.lt_or_ge i acc.length with hlt | hge
  · have e : (acc ++ [x]).getD i eW.dflt = acc.getD i eW.dflt := by simp [List.getD, List.getElem?_append_left hlt]
    rw [e]; exact h i hlt
  · obtain rfl : i = acc.length := by omega
    have e : (acc ++ [x]).getD acc.length eW.dflt = x := by simp [List.getD]
    rw [e]; exact ⟨h1, h2, h3⟩
theorem fol_eq {r : M.Rate} {l : List Meas} (hr : L.OkR r) (hm : ∀ j, j < l.length → chkR l j = 0) : ∀ (n k : Nat) (acc : List M.Wine), 1 ≤ k → k + n ≤ l.length → acc.length = k → Narrow l acc →
    fol M.After r l k acc n = fol M.rAfter r l k acc n ∧ (fol M.After r l k acc n).1.length ≤ k + n ∧ Narrow l (fol M.After r l k acc n).1 := by
  intro n
  induction n with
  | zero => intro k acc hk1 hk ha hN; exact ⟨rfl, by simp [fol, ha], hN⟩
  | succ n ih =>
    intro k acc hk1 hk ha hN
    obtain ⟨m1, d2, d3, d4⟩ := chkR_days hk1 (hm k (by omega)) (chkR_meas (hm (k - 1) (by omega)))
    have hw : L.OkW (gm l k).w := by rw [L.rMeasureErr_eq, L.measureErr_zero] at m1; exact m1.2
    have ht : M.taskErr (acc.getD (k - 1) eW.dflt) r (M.W ((gm l k).day - (gm l (k - 1)).day)) = 0 := by
      rw [L.taskErr_zero, d2]
      exact ⟨(hN (k - 1) (by omega)).2.2, hr, d3, d4⟩
    simp only [fol]
    rw [L.after_eq ht]
    have nil : Narrow l [] := fun i hi => absurd hi (by simp)
    cases h1 : ((M.rAfter (acc.getD (k - 1) eW.dflt) r (M.W ((gm l k).day - (gm l (k - 1)).day))).2 != 0) with
    | true => exact ⟨rfl, Nat.zero_le _, nil⟩
    | false =>
      rw [cond_false, cond_false]
      cases h2 : M.wOk (M.commonW (M.rAfter (acc.getD (k - 1) eW.dflt) r (M.W ((gm l k).day - (gm l (k - 1)).day))).1 (gm l k).w) with
      | false => exact ⟨rfl, Nat.zero_le _, nil⟩
      | true =>
        rw [cond_true, cond_true]
        have := ih (k + 1) (acc ++ [M.commonW (M.rAfter (acc.getD (k - 1) eW.dflt) r (M.W ((gm l k).day - (gm l (k - 1)).day))).1 (gm l k).w]) (by omega) (by omega) (by simp [ha])
          (narrow_push hN (by rw [ha]; exact w_absorb _ _) h2 (w_ok hw h2))
        exact ⟨this.1, by have := this.2.1; omega, this.2.2⟩
theorem followed_eq (r : M.Rate) (l : List Meas) : followed r l = rFollowed r l ∧ (followed r l).1.length ≤ l.length ∧ Narrow l (followed r l).1 := by
  have nil : Narrow l [] := fun i hi => absurd hi (by simp)
  unfold followed rFollowed folErr
  rw [L.rCheckRate_eq]
  simp only [M.first]
  by_cases h : M.checkRate r = 0
  · rw [bne_f h]
    simp only [cond_false]
    rcases Nat.eq_zero_or_pos l.length with h0 | hp
    · rw [h0]; exact ⟨rfl, Nat.zero_le _, nil⟩
    · rw [decide_eq_true (by omega : (l.length : Int) > 0), show ((l.length : Int) == 0) = false from beq_eq_false_iff_ne.2 (by omega)]
      by_cases h2 : (l.length : Int) ≤ 40
      · rw [decide_eq_false (by omega : ¬ (l.length : Int) > 40), decide_eq_true h2]
        show folRest M.After chkF r l = folRest M.rAfter chkR r l ∧ (folRest M.After chkF r l).1.length ≤ _ ∧ Narrow l (folRest M.After chkF r l).1
        unfold folRest
        rw [firstBad_eq _ _ (.inl rfl)]
        cases hb : firstBad (chkR l) 0 l.length with
        | some p => exact ⟨rfl, Nat.zero_le _, nil⟩
        | none =>
          have hall := firstBad_none hb
          have h0 := chkR_meas (hall 0 (by omega) (by omega))
          rw [L.rMeasureErr_eq, L.measureErr_zero] at h0
          have := fol_eq (L.checkRate_zero.1 h) (fun j hj => hall j (by omega) (by omega)) (l.length - 1) 1 [(gm l 0).w] (by omega) (by omega) rfl
            (narrow_push (acc := []) nil (w_self _) (ok_wOk h0.2) h0.2)
          exact ⟨this.1, Nat.le_trans this.2.1 (by omega), this.2.2⟩
      · rw [decide_eq_true (by omega : (l.length : Int) > 40), decide_eq_false h2]; exact ⟨rfl, Nat.zero_le _, nil⟩
  · rw [bne_t h]
    simp only [cond_true]
    rw [bne_t h]
    exact ⟨rfl, Nat.zero_le _, nil⟩
theorem sameW_self : ∀ l : List M.Wine, sameW l l = true
  | [] => rfl
  | a :: l => by
    simp only [sameW]
    rw [show M.wEq a a = true by simp [M.wEq], cond_true, sameW_self l]
end Go.Fl2
end

section
/- Chapter 3 with the second engine: the laws FlorSpells and FlorFollows answer true. -/
set_option linter.unusedVariables false
set_option linter.unusedSimpArgs false
set_option maxRecDepth 100000
namespace Go.Fl2
open Go.V Go.Fl Go.Proofs

theorem t7 (v0 v1 s0 s1 c0 c1 : Int) (q : Bool) (l : List Spell) : runFn Tryd.prog G0 (lookS [v20, v37, v36, v38]) [] 40 Tryd.f7 [.agg [dI v0, dI v1, dI s0, dI s1, dI c0, dI c1], .c (.sl q l.length 5 (eS.F l))] =
    T.br (!true) (T.ret [Ar.c (D.bool false)])
  (T.br (decide (Nat.cast (R := Int) (List.length l) > (22 : Int))) (T.ret [Ar.c (D.bool true)])
    (T.need (List.length l ≤ (1000000 : Nat))
      (T.need (Enc.Is eS (List.length l) (Enc.F eS l))
        (T.need (List.length l ≤ (1000000 : Nat))
          (T.need (Enc.Is eS (List.length l) (Enc.F eS l))
            (T.need (List.length l ≤ (1000000 : Nat))
              (T.br (Prod.snd (Prod.snd (over { v0 := v0, v1 := v1, s0 := s0, s1 := s1, c0 := c0, c1 := c1 } (Enc.list eS (List.length l) (Enc.F eS l)))) == Prod.snd (Prod.snd (rOver { v0 := v0, v1 := v1, s0 := s0, s1 := s1, c0 := c0, c1 := c1 } (Enc.list eS (List.length l) (Enc.F eS l)))))
                (T.br (Prod.fst (Prod.snd (over { v0 := v0, v1 := v1, s0 := s0, s1 := s1, c0 := c0, c1 := c1 } (Enc.list eS (List.length l) (Enc.F eS l)))) == Prod.fst (Prod.snd (rOver { v0 := v0, v1 := v1, s0 := s0, s1 := s1, c0 := c0, c1 := c1 } (Enc.list eS (List.length l) (Enc.F eS l))))) (T.need ((Prod.snd (Prod.snd (over { v0 := v0, v1 := v1, s0 := s0, s1 := s1, c0 := c0, c1 := c1 } (Enc.list eS (List.length l) (Enc.F eS l)))) == Prod.snd (Prod.snd (rOver { v0 := v0, v1 := v1, s0 := s0, s1 := s1, c0 := c0, c1 := c1 } (Enc.list eS (List.length l) (Enc.F eS l))))) = true) (T.need ((Prod.fst (Prod.snd (over { v0 := v0, v1 := v1, s0 := s0, s1 := s1, c0 := c0, c1 := c1 } (Enc.list eS (List.length l) (Enc.F eS l)))) == Prod.fst (Prod.snd (rOver { v0 := v0, v1 := v1, s0 := s0, s1 := s1, c0 := c0, c1 := c1 } (Enc.list eS (List.length l) (Enc.F eS l))))) = true) (T.ret [Ar.c (D.bool (M.Wine.v0 (Prod.fst (over { v0 := v0, v1 := v1, s0 := s0, s1 := s1, c0 := c0, c1 := c1 } (Enc.list eS (List.length l) (Enc.F eS l)))) == M.Wine.v0 (Prod.fst (rOver { v0 := v0, v1 := v1, s0 := s0, s1 := s1, c0 := c0, c1 := c1 } (Enc.list eS (List.length l) (Enc.F eS l)))) && (M.Wine.v1 (Prod.fst (over { v0 := v0, v1 := v1, s0 := s0, s1 := s1, c0 := c0, c1 := c1 } (Enc.list eS (List.length l) (Enc.F eS l)))) == M.Wine.v1 (Prod.fst (rOver { v0 := v0, v1 := v1, s0 := s0, s1 := s1, c0 := c0, c1 := c1 } (Enc.list eS (List.length l) (Enc.F eS l)))) && true) && (M.Wine.s0 (Prod.fst (over { v0 := v0, v1 := v1, s0 := s0, s1 := s1, c0 := c0, c1 := c1 } (Enc.list eS (List.length l) (Enc.F eS l)))) == M.Wine.s0 (Prod.fst (rOver { v0 := v0, v1 := v1, s0 := s0, s1 := s1, c0 := c0, c1 := c1 } (Enc.list eS (List.length l) (Enc.F eS l)))) && (M.Wine.s1 (Prod.fst (over { v0 := v0, v1 := v1, s0 := s0, s1 := s1, c0 := c0, c1 := c1 } (Enc.list eS (List.length l) (Enc.F eS l)))) == M.Wine.s1 (Prod.fst (rOver { v0 := v0, v1 := v1, s0 := s0, s1 := s1, c0 := c0, c1 := c1 } (Enc.list eS (List.length l) (Enc.F eS l)))) && true) && (M.Wine.c0 (Prod.fst (over { v0 := v0, v1 := v1, s0 := s0, s1 := s1, c0 := c0, c1 := c1 } (Enc.list eS (List.length l) (Enc.F eS l)))) == M.Wine.c0 (Prod.fst (rOver { v0 := v0, v1 := v1, s0 := s0, s1 := s1, c0 := c0, c1 := c1 } (Enc.list eS (List.length l) (Enc.F eS l)))) && (M.Wine.c1 (Prod.fst (over { v0 := v0, v1 := v1, s0 := s0, s1 := s1, c0 := c0, c1 := c1 } (Enc.list eS (List.length l) (Enc.F eS l)))) == M.Wine.c1 (Prod.fst (rOver { v0 := v0, v1 := v1, s0 := s0, s1 := s1, c0 := c0, c1 := c1 } (Enc.list eS (List.length l) (Enc.F eS l)))) && true) && true))))])))
                  (T.need ((Prod.snd (Prod.snd (over { v0 := v0, v1 := v1, s0 := s0, s1 := s1, c0 := c0, c1 := c1 } (Enc.list eS (List.length l) (Enc.F eS l)))) == Prod.snd (Prod.snd (rOver { v0 := v0, v1 := v1, s0 := s0, s1 := s1, c0 := c0, c1 := c1 } (Enc.list eS (List.length l) (Enc.F eS l))))) = true) (T.need ((Prod.fst (Prod.snd (over { v0 := v0, v1 := v1, s0 := s0, s1 := s1, c0 := c0, c1 := c1 } (Enc.list eS (List.length l) (Enc.F eS l)))) == Prod.fst (Prod.snd (rOver { v0 := v0, v1 := v1, s0 := s0, s1 := s1, c0 := c0, c1 := c1 } (Enc.list eS (List.length l) (Enc.F eS l))))) = false) (T.ret [Ar.c (D.bool false)]))))
                (T.need ((Prod.snd (Prod.snd (over { v0 := v0, v1 := v1, s0 := s0, s1 := s1, c0 := c0, c1 := c1 } (Enc.list eS (List.length l) (Enc.F eS l)))) == Prod.snd (Prod.snd (rOver { v0 := v0, v1 := v1, s0 := s0, s1 := s1, c0 := c0, c1 := c1 } (Enc.list eS (List.length l) (Enc.F eS l))))) = false) (T.ret [Ar.c (D.bool false)]))))))))) := by kernel_rfl
theorem C7v : FOK Tryd.prog G0 gw 7 dom7 := by
  intro ags p r hd hp κ w xs hw hl hG hx
  unfold dom7 at hd
  split at hd
  · rename_i v0 v1 s0 s1 c0 c1 q len st F
    split at hd
    · rename_i hst
      have h1 := Nat.eq_of_beq_eq_true hst
      subst h1
      simp only [Option.some.injEq, Prod.mk.injEq] at hd
      obtain ⟨rfl, rfl⟩ := hd
      obtain ⟨hIs, _⟩ := hp
      have hto := eS.to (q := q) (q' := q) id hIs
      generalize eS.list len F = l at *
      refine fok_fin mixed gw_stable (sl := [v20, v37, v36, v38]) ⟨S20v, S37v, S36v, S38v, trivial⟩ Tryd.func7 hw hl hG hx (ags' := [.agg [dI v0, dI v1, dI s0, dI s1, dI c0, dI c1], .c (.sl q l.length 5 (eS.F l))]) ⟨dsEqv_refl _, hto, trivial⟩ rfl (t7 v0 v1 s0 s1 c0 c1 q l) ?_
      rw [eS.list_F, rOver_eq]
      generalize over ⟨v0, v1, s0, s1, c0, c1⟩ l = X
      refine ⟨fun h => by simp at h, fun _ => ⟨fun _ => rsEqv_refl _, fun hlt => ?_⟩⟩
      have hlen : l.length ≤ 22 := by
        have := of_decide_eq_false hlt
        omega
      have hs := eS.is_F l l.length
      refine ⟨by omega, hs, by omega, hs, by omega, fun _ => ⟨fun _ => ⟨beq_self_eq_true _, beq_self_eq_true _, ?_⟩, fun h => by rw [beq_self_eq_true] at h; cases h⟩, fun h => by rw [beq_self_eq_true] at h; cases h⟩
      simp only [beq_self_eq_true, Bool.and_true, T.wp]
      exact rsEqv_refl _
    · cases hd
  · cases hd
theorem t11 (ra rb rc rd : Int) (q : Bool) (l : List Meas) : runFn Tryd.prog G0 (lookS [v20, v48, v47, v49, v50, v51]) [(10, [.slot 11 (.int .i64)], none)] 40 Tryd.f11 [.agg [dI ra, dI rb, dI rc, dI rd], .c (.sl q l.length 7 (eM.F l))] =
    T.br (!true) (T.ret [Ar.c (D.bool false)])
  (T.br (decide (Nat.cast (R := Int) (List.length l) > (6 : Int)))
    (T.br (decide (Nat.cast (R := Int) (List.length l) ≤ (40 : Int))) (T.need (decide (Nat.cast (R := Int) (List.length l) > (6 : Int)) = true) (T.need (decide (Nat.cast (R := Int) (List.length l) ≤ (40 : Int)) = true) (T.ret [Ar.c (D.bool true)])))
      (T.need (decide (Nat.cast (R := Int) (List.length l) > (6 : Int)) = true)
        (T.need (decide (Nat.cast (R := Int) (List.length l) ≤ (40 : Int)) = false)
          (T.br (decide (Nat.cast (R := Int) (List.length l) > (42 : Int))) (T.ret [Ar.c (D.bool true)])
            (T.need (List.length l ≤ (1000000 : Nat))
              (T.need (Enc.Is eM (List.length l) (Enc.F eM l))
                (T.need (List.length l ≤ (1000000 : Nat))
                  (T.need (Enc.Is eM (List.length l) (Enc.F eM l))
                    (T.need (List.length l ≤ (1000000 : Nat))
                      (T.br (Prod.snd (Prod.snd (followed { a := ra, b := rb, c := rc, d := rd } (Enc.list eM (List.length l) (Enc.F eM l)))) != Prod.snd (Prod.snd (rFollowed { a := ra, b := rb, c := rc, d := rd } (Enc.list eM (List.length l) (Enc.F eM l))))) (T.need ((Prod.snd (Prod.snd (followed { a := ra, b := rb, c := rc, d := rd } (Enc.list eM (List.length l) (Enc.F eM l)))) != Prod.snd (Prod.snd (rFollowed { a := ra, b := rb, c := rc, d := rd } (Enc.list eM (List.length l) (Enc.F eM l))))) = true) (T.ret [Ar.c (D.bool false)]))
                        (T.br (Prod.fst (Prod.snd (followed { a := ra, b := rb, c := rc, d := rd } (Enc.list eM (List.length l) (Enc.F eM l)))) != Prod.fst (Prod.snd (rFollowed { a := ra, b := rb, c := rc, d := rd } (Enc.list eM (List.length l) (Enc.F eM l))))) (T.need ((Prod.snd (Prod.snd (followed { a := ra, b := rb, c := rc, d := rd } (Enc.list eM (List.length l) (Enc.F eM l)))) != Prod.snd (Prod.snd (rFollowed { a := ra, b := rb, c := rc, d := rd } (Enc.list eM (List.length l) (Enc.F eM l))))) = false) (T.need ((Prod.fst (Prod.snd (followed { a := ra, b := rb, c := rc, d := rd } (Enc.list eM (List.length l) (Enc.F eM l)))) != Prod.fst (Prod.snd (rFollowed { a := ra, b := rb, c := rc, d := rd } (Enc.list eM (List.length l) (Enc.F eM l))))) = true) (T.ret [Ar.c (D.bool false)])))
                          (T.need ((Prod.snd (Prod.snd (followed { a := ra, b := rb, c := rc, d := rd } (Enc.list eM (List.length l) (Enc.F eM l)))) != Prod.snd (Prod.snd (rFollowed { a := ra, b := rb, c := rc, d := rd } (Enc.list eM (List.length l) (Enc.F eM l))))) = false)
                            (T.need ((Prod.fst (Prod.snd (followed { a := ra, b := rb, c := rc, d := rd } (Enc.list eM (List.length l) (Enc.F eM l)))) != Prod.fst (Prod.snd (rFollowed { a := ra, b := rb, c := rc, d := rd } (Enc.list eM (List.length l) (Enc.F eM l))))) = false)
                              (T.need (Enc.Is eW (List.length (Prod.fst (followed { a := ra, b := rb, c := rc, d := rd } (Enc.list eM (List.length l) (Enc.F eM l))))) (Enc.F eW (Prod.fst (followed { a := ra, b := rb, c := rc, d := rd } (Enc.list eM (List.length l) (Enc.F eM l))))))
                                (T.need (Enc.Is eW (List.length (Prod.fst (rFollowed { a := ra, b := rb, c := rc, d := rd } (Enc.list eM (List.length l) (Enc.F eM l))))) (Enc.F eW (Prod.fst (rFollowed { a := ra, b := rb, c := rc, d := rd } (Enc.list eM (List.length l) (Enc.F eM l))))))
                                  (T.need (List.length (Prod.fst (followed { a := ra, b := rb, c := rc, d := rd } (Enc.list eM (List.length l) (Enc.F eM l)))) ≤ (1000000 : Nat))
                                    (T.need (List.length (Prod.fst (rFollowed { a := ra, b := rb, c := rc, d := rd } (Enc.list eM (List.length l) (Enc.F eM l)))) ≤ (1000000 : Nat))
                                      (T.br (!sameW (Enc.list eW (List.length (Prod.fst (followed { a := ra, b := rb, c := rc, d := rd } (Enc.list eM (List.length l) (Enc.F eM l))))) (Enc.F eW (Prod.fst (followed { a := ra, b := rb, c := rc, d := rd } (Enc.list eM (List.length l) (Enc.F eM l)))))) (Enc.list eW (List.length (Prod.fst (rFollowed { a := ra, b := rb, c := rc, d := rd } (Enc.list eM (List.length l) (Enc.F eM l))))) (Enc.F eW (Prod.fst (rFollowed { a := ra, b := rb, c := rc, d := rd } (Enc.list eM (List.length l) (Enc.F eM l))))))) (T.ret [Ar.c (D.bool false)])
                                        (T.loop (Int × PUnit) ((0 : Int), PUnit.unit) fun (x : Int × PUnit) =>
                                          T.br (decide (Prod.fst x < Nat.cast (R := Int) (List.length (Prod.fst (followed { a := ra, b := rb, c := rc, d := rd } (Enc.list eM (List.length l) (Enc.F eM l)))))))
                                            (T.need ((0 : Int) ≤ Prod.fst x)
                                              (T.need (Prod.fst x < Nat.cast (R := Int) (List.length (Prod.fst (followed { a := ra, b := rb, c := rc, d := rd } (Enc.list eM (List.length l) (Enc.F eM l))))))
                                                (T.need ((0 : Int) ≤ Prod.fst x)
                                                  (T.need (Prod.fst x < Nat.cast (R := Int) (List.length l))
                                                    (T.br (!M.wOk (M.commonW (List.getD (Prod.fst (followed { a := ra, b := rb, c := rc, d := rd } (Enc.list eM (List.length l) (Enc.F eM l)))) (Int.toNat (Prod.fst x)) { v0 := (0 : Int), v1 := (0 : Int), s0 := (0 : Int), s1 := (0 : Int), c0 := (0 : Int), c1 := (0 : Int) }) (List.getD l (Int.toNat (Prod.fst x)) (Enc.dflt eM)).2)) (T.need ((!M.wOk (M.commonW (List.getD (Prod.fst (followed { a := ra, b := rb, c := rc, d := rd } (Enc.list eM (List.length l) (Enc.F eM l)))) (Int.toNat (Prod.fst x)) { v0 := (0 : Int), v1 := (0 : Int), s0 := (0 : Int), s1 := (0 : Int), c0 := (0 : Int), c1 := (0 : Int) }) (List.getD l (Int.toNat (Prod.fst x)) (Enc.dflt eM)).2)) = true) (T.ret (Sum.inr [Ar.c (D.bool false)])))
                                                      (T.need ((!M.wOk (M.commonW (List.getD (Prod.fst (followed { a := ra, b := rb, c := rc, d := rd } (Enc.list eM (List.length l) (Enc.F eM l)))) (Int.toNat (Prod.fst x)) { v0 := (0 : Int), v1 := (0 : Int), s0 := (0 : Int), s1 := (0 : Int), c0 := (0 : Int), c1 := (0 : Int) }) (List.getD l (Int.toNat (Prod.fst x)) (Enc.dflt eM)).2)) = false)
                                                        (T.need ((0 : Int) ≤ Prod.fst x)
                                                          (T.need (Prod.fst x < Nat.cast (R := Int) (List.length (Prod.fst (followed { a := ra, b := rb, c := rc, d := rd } (Enc.list eM (List.length l) (Enc.F eM l))))))
                                                            (T.br
                                                              (!(M.Wine.v0 (M.commonW (List.getD (Prod.fst (followed { a := ra, b := rb, c := rc, d := rd } (Enc.list eM (List.length l) (Enc.F eM l)))) (Int.toNat (Prod.fst x)) { v0 := (0 : Int), v1 := (0 : Int), s0 := (0 : Int), s1 := (0 : Int), c0 := (0 : Int), c1 := (0 : Int) }) (List.getD l (Int.toNat (Prod.fst x)) (Enc.dflt eM)).2) == M.Wine.v0 (List.getD (Prod.fst (followed { a := ra, b := rb, c := rc, d := rd } (Enc.list eM (List.length l) (Enc.F eM l)))) (Int.toNat (Prod.fst x)) { v0 := (0 : Int), v1 := (0 : Int), s0 := (0 : Int), s1 := (0 : Int), c0 := (0 : Int), c1 := (0 : Int) }) && (M.Wine.v1 (M.commonW (List.getD (Prod.fst (followed { a := ra, b := rb, c := rc, d := rd } (Enc.list eM (List.length l) (Enc.F eM l)))) (Int.toNat (Prod.fst x)) { v0 := (0 : Int), v1 := (0 : Int), s0 := (0 : Int), s1 := (0 : Int), c0 := (0 : Int), c1 := (0 : Int) }) (List.getD l (Int.toNat (Prod.fst x)) (Enc.dflt eM)).2) == M.Wine.v1 (List.getD (Prod.fst (followed { a := ra, b := rb, c := rc, d := rd } (Enc.list eM (List.length l) (Enc.F eM l)))) (Int.toNat (Prod.fst x)) { v0 := (0 : Int), v1 := (0 : Int), s0 := (0 : Int), s1 := (0 : Int), c0 := (0 : Int), c1 := (0 : Int) }) && true) &&
                                                                  (M.Wine.s0 (M.commonW (List.getD (Prod.fst (followed { a := ra, b := rb, c := rc, d := rd } (Enc.list eM (List.length l) (Enc.F eM l)))) (Int.toNat (Prod.fst x)) { v0 := (0 : Int), v1 := (0 : Int), s0 := (0 : Int), s1 := (0 : Int), c0 := (0 : Int), c1 := (0 : Int) }) (List.getD l (Int.toNat (Prod.fst x)) (Enc.dflt eM)).2) == M.Wine.s0 (List.getD (Prod.fst (followed { a := ra, b := rb, c := rc, d := rd } (Enc.list eM (List.length l) (Enc.F eM l)))) (Int.toNat (Prod.fst x)) { v0 := (0 : Int), v1 := (0 : Int), s0 := (0 : Int), s1 := (0 : Int), c0 := (0 : Int), c1 := (0 : Int) }) && (M.Wine.s1 (M.commonW (List.getD (Prod.fst (followed { a := ra, b := rb, c := rc, d := rd } (Enc.list eM (List.length l) (Enc.F eM l)))) (Int.toNat (Prod.fst x)) { v0 := (0 : Int), v1 := (0 : Int), s0 := (0 : Int), s1 := (0 : Int), c0 := (0 : Int), c1 := (0 : Int) }) (List.getD l (Int.toNat (Prod.fst x)) (Enc.dflt eM)).2) == M.Wine.s1 (List.getD (Prod.fst (followed { a := ra, b := rb, c := rc, d := rd } (Enc.list eM (List.length l) (Enc.F eM l)))) (Int.toNat (Prod.fst x)) { v0 := (0 : Int), v1 := (0 : Int), s0 := (0 : Int), s1 := (0 : Int), c0 := (0 : Int), c1 := (0 : Int) }) && true) && (M.Wine.c0 (M.commonW (List.getD (Prod.fst (followed { a := ra, b := rb, c := rc, d := rd } (Enc.list eM (List.length l) (Enc.F eM l)))) (Int.toNat (Prod.fst x)) { v0 := (0 : Int), v1 := (0 : Int), s0 := (0 : Int), s1 := (0 : Int), c0 := (0 : Int), c1 := (0 : Int) }) (List.getD l (Int.toNat (Prod.fst x)) (Enc.dflt eM)).2) == M.Wine.c0 (List.getD (Prod.fst (followed { a := ra, b := rb, c := rc, d := rd } (Enc.list eM (List.length l) (Enc.F eM l)))) (Int.toNat (Prod.fst x)) { v0 := (0 : Int), v1 := (0 : Int), s0 := (0 : Int), s1 := (0 : Int), c0 := (0 : Int), c1 := (0 : Int) }) && (M.Wine.c1 (M.commonW (List.getD (Prod.fst (followed { a := ra, b := rb, c := rc, d := rd } (Enc.list eM (List.length l) (Enc.F eM l)))) (Int.toNat (Prod.fst x)) { v0 := (0 : Int), v1 := (0 : Int), s0 := (0 : Int), s1 := (0 : Int), c0 := (0 : Int), c1 := (0 : Int) }) (List.getD l (Int.toNat (Prod.fst x)) (Enc.dflt eM)).2) == M.Wine.c1 (List.getD (Prod.fst (followed { a := ra, b := rb, c := rc, d := rd } (Enc.list eM (List.length l) (Enc.F eM l)))) (Int.toNat (Prod.fst x)) { v0 := (0 : Int), v1 := (0 : Int), s0 := (0 : Int), s1 := (0 : Int), c0 := (0 : Int), c1 := (0 : Int) }) && true) && true))))
                                                              (T.ret (Sum.inr [Ar.c (D.bool false)])) (T.ret (Sum.inl (IntKind.wrap IntKind.i64 (Prod.fst x + (1 : Int)), PUnit.unit))))))))))))
                                            (T.ret (Sum.inr [Ar.c (D.bool true)])))))))))))))))))))))
    (T.need (decide (Nat.cast (R := Int) (List.length l) > (6 : Int)) = false)
      (T.br (decide (Nat.cast (R := Int) (List.length l) > (42 : Int))) (T.ret [Ar.c (D.bool true)])
        (T.need (List.length l ≤ (1000000 : Nat))
          (T.need (Enc.Is eM (List.length l) (Enc.F eM l))
            (T.need (List.length l ≤ (1000000 : Nat))
              (T.need (Enc.Is eM (List.length l) (Enc.F eM l))
                (T.need (List.length l ≤ (1000000 : Nat))
                  (T.br (Prod.snd (Prod.snd (followed { a := ra, b := rb, c := rc, d := rd } (Enc.list eM (List.length l) (Enc.F eM l)))) != Prod.snd (Prod.snd (rFollowed { a := ra, b := rb, c := rc, d := rd } (Enc.list eM (List.length l) (Enc.F eM l))))) (T.need ((Prod.snd (Prod.snd (followed { a := ra, b := rb, c := rc, d := rd } (Enc.list eM (List.length l) (Enc.F eM l)))) != Prod.snd (Prod.snd (rFollowed { a := ra, b := rb, c := rc, d := rd } (Enc.list eM (List.length l) (Enc.F eM l))))) = true) (T.ret [Ar.c (D.bool false)]))
                    (T.br (Prod.fst (Prod.snd (followed { a := ra, b := rb, c := rc, d := rd } (Enc.list eM (List.length l) (Enc.F eM l)))) != Prod.fst (Prod.snd (rFollowed { a := ra, b := rb, c := rc, d := rd } (Enc.list eM (List.length l) (Enc.F eM l))))) (T.need ((Prod.snd (Prod.snd (followed { a := ra, b := rb, c := rc, d := rd } (Enc.list eM (List.length l) (Enc.F eM l)))) != Prod.snd (Prod.snd (rFollowed { a := ra, b := rb, c := rc, d := rd } (Enc.list eM (List.length l) (Enc.F eM l))))) = false) (T.need ((Prod.fst (Prod.snd (followed { a := ra, b := rb, c := rc, d := rd } (Enc.list eM (List.length l) (Enc.F eM l)))) != Prod.fst (Prod.snd (rFollowed { a := ra, b := rb, c := rc, d := rd } (Enc.list eM (List.length l) (Enc.F eM l))))) = true) (T.ret [Ar.c (D.bool false)])))
                      (T.need ((Prod.snd (Prod.snd (followed { a := ra, b := rb, c := rc, d := rd } (Enc.list eM (List.length l) (Enc.F eM l)))) != Prod.snd (Prod.snd (rFollowed { a := ra, b := rb, c := rc, d := rd } (Enc.list eM (List.length l) (Enc.F eM l))))) = false)
                        (T.need ((Prod.fst (Prod.snd (followed { a := ra, b := rb, c := rc, d := rd } (Enc.list eM (List.length l) (Enc.F eM l)))) != Prod.fst (Prod.snd (rFollowed { a := ra, b := rb, c := rc, d := rd } (Enc.list eM (List.length l) (Enc.F eM l))))) = false)
                          (T.need (Enc.Is eW (List.length (Prod.fst (followed { a := ra, b := rb, c := rc, d := rd } (Enc.list eM (List.length l) (Enc.F eM l))))) (Enc.F eW (Prod.fst (followed { a := ra, b := rb, c := rc, d := rd } (Enc.list eM (List.length l) (Enc.F eM l))))))
                            (T.need (Enc.Is eW (List.length (Prod.fst (rFollowed { a := ra, b := rb, c := rc, d := rd } (Enc.list eM (List.length l) (Enc.F eM l))))) (Enc.F eW (Prod.fst (rFollowed { a := ra, b := rb, c := rc, d := rd } (Enc.list eM (List.length l) (Enc.F eM l))))))
                              (T.need (List.length (Prod.fst (followed { a := ra, b := rb, c := rc, d := rd } (Enc.list eM (List.length l) (Enc.F eM l)))) ≤ (1000000 : Nat))
                                (T.need (List.length (Prod.fst (rFollowed { a := ra, b := rb, c := rc, d := rd } (Enc.list eM (List.length l) (Enc.F eM l)))) ≤ (1000000 : Nat))
                                  (T.br (!sameW (Enc.list eW (List.length (Prod.fst (followed { a := ra, b := rb, c := rc, d := rd } (Enc.list eM (List.length l) (Enc.F eM l))))) (Enc.F eW (Prod.fst (followed { a := ra, b := rb, c := rc, d := rd } (Enc.list eM (List.length l) (Enc.F eM l)))))) (Enc.list eW (List.length (Prod.fst (rFollowed { a := ra, b := rb, c := rc, d := rd } (Enc.list eM (List.length l) (Enc.F eM l))))) (Enc.F eW (Prod.fst (rFollowed { a := ra, b := rb, c := rc, d := rd } (Enc.list eM (List.length l) (Enc.F eM l))))))) (T.ret [Ar.c (D.bool false)])
                                    (T.loop (Int × PUnit) ((0 : Int), PUnit.unit) fun (x : Int × PUnit) =>
                                      T.br (decide (Prod.fst x < Nat.cast (R := Int) (List.length (Prod.fst (followed { a := ra, b := rb, c := rc, d := rd } (Enc.list eM (List.length l) (Enc.F eM l)))))))
                                        (T.need ((0 : Int) ≤ Prod.fst x)
                                          (T.need (Prod.fst x < Nat.cast (R := Int) (List.length (Prod.fst (followed { a := ra, b := rb, c := rc, d := rd } (Enc.list eM (List.length l) (Enc.F eM l))))))
                                            (T.need ((0 : Int) ≤ Prod.fst x)
                                              (T.need (Prod.fst x < Nat.cast (R := Int) (List.length l))
                                                (T.br (!M.wOk (M.commonW (List.getD (Prod.fst (followed { a := ra, b := rb, c := rc, d := rd } (Enc.list eM (List.length l) (Enc.F eM l)))) (Int.toNat (Prod.fst x)) { v0 := (0 : Int), v1 := (0 : Int), s0 := (0 : Int), s1 := (0 : Int), c0 := (0 : Int), c1 := (0 : Int) }) (List.getD l (Int.toNat (Prod.fst x)) (Enc.dflt eM)).2)) (T.need ((!M.wOk (M.commonW (List.getD (Prod.fst (followed { a := ra, b := rb, c := rc, d := rd } (Enc.list eM (List.length l) (Enc.F eM l)))) (Int.toNat (Prod.fst x)) { v0 := (0 : Int), v1 := (0 : Int), s0 := (0 : Int), s1 := (0 : Int), c0 := (0 : Int), c1 := (0 : Int) }) (List.getD l (Int.toNat (Prod.fst x)) (Enc.dflt eM)).2)) = true) (T.ret (Sum.inr [Ar.c (D.bool false)])))
                                                  (T.need ((!M.wOk (M.commonW (List.getD (Prod.fst (followed { a := ra, b := rb, c := rc, d := rd } (Enc.list eM (List.length l) (Enc.F eM l)))) (Int.toNat (Prod.fst x)) { v0 := (0 : Int), v1 := (0 : Int), s0 := (0 : Int), s1 := (0 : Int), c0 := (0 : Int), c1 := (0 : Int) }) (List.getD l (Int.toNat (Prod.fst x)) (Enc.dflt eM)).2)) = false)
                                                    (T.need ((0 : Int) ≤ Prod.fst x)
                                                      (T.need (Prod.fst x < Nat.cast (R := Int) (List.length (Prod.fst (followed { a := ra, b := rb, c := rc, d := rd } (Enc.list eM (List.length l) (Enc.F eM l))))))
                                                        (T.br
                                                          (!(M.Wine.v0 (M.commonW (List.getD (Prod.fst (followed { a := ra, b := rb, c := rc, d := rd } (Enc.list eM (List.length l) (Enc.F eM l)))) (Int.toNat (Prod.fst x)) { v0 := (0 : Int), v1 := (0 : Int), s0 := (0 : Int), s1 := (0 : Int), c0 := (0 : Int), c1 := (0 : Int) }) (List.getD l (Int.toNat (Prod.fst x)) (Enc.dflt eM)).2) == M.Wine.v0 (List.getD (Prod.fst (followed { a := ra, b := rb, c := rc, d := rd } (Enc.list eM (List.length l) (Enc.F eM l)))) (Int.toNat (Prod.fst x)) { v0 := (0 : Int), v1 := (0 : Int), s0 := (0 : Int), s1 := (0 : Int), c0 := (0 : Int), c1 := (0 : Int) }) && (M.Wine.v1 (M.commonW (List.getD (Prod.fst (followed { a := ra, b := rb, c := rc, d := rd } (Enc.list eM (List.length l) (Enc.F eM l)))) (Int.toNat (Prod.fst x)) { v0 := (0 : Int), v1 := (0 : Int), s0 := (0 : Int), s1 := (0 : Int), c0 := (0 : Int), c1 := (0 : Int) }) (List.getD l (Int.toNat (Prod.fst x)) (Enc.dflt eM)).2) == M.Wine.v1 (List.getD (Prod.fst (followed { a := ra, b := rb, c := rc, d := rd } (Enc.list eM (List.length l) (Enc.F eM l)))) (Int.toNat (Prod.fst x)) { v0 := (0 : Int), v1 := (0 : Int), s0 := (0 : Int), s1 := (0 : Int), c0 := (0 : Int), c1 := (0 : Int) }) && true) &&
                                                              (M.Wine.s0 (M.commonW (List.getD (Prod.fst (followed { a := ra, b := rb, c := rc, d := rd } (Enc.list eM (List.length l) (Enc.F eM l)))) (Int.toNat (Prod.fst x)) { v0 := (0 : Int), v1 := (0 : Int), s0 := (0 : Int), s1 := (0 : Int), c0 := (0 : Int), c1 := (0 : Int) }) (List.getD l (Int.toNat (Prod.fst x)) (Enc.dflt eM)).2) == M.Wine.s0 (List.getD (Prod.fst (followed { a := ra, b := rb, c := rc, d := rd } (Enc.list eM (List.length l) (Enc.F eM l)))) (Int.toNat (Prod.fst x)) { v0 := (0 : Int), v1 := (0 : Int), s0 := (0 : Int), s1 := (0 : Int), c0 := (0 : Int), c1 := (0 : Int) }) && (M.Wine.s1 (M.commonW (List.getD (Prod.fst (followed { a := ra, b := rb, c := rc, d := rd } (Enc.list eM (List.length l) (Enc.F eM l)))) (Int.toNat (Prod.fst x)) { v0 := (0 : Int), v1 := (0 : Int), s0 := (0 : Int), s1 := (0 : Int), c0 := (0 : Int), c1 := (0 : Int) }) (List.getD l (Int.toNat (Prod.fst x)) (Enc.dflt eM)).2) == M.Wine.s1 (List.getD (Prod.fst (followed { a := ra, b := rb, c := rc, d := rd } (Enc.list eM (List.length l) (Enc.F eM l)))) (Int.toNat (Prod.fst x)) { v0 := (0 : Int), v1 := (0 : Int), s0 := (0 : Int), s1 := (0 : Int), c0 := (0 : Int), c1 := (0 : Int) }) && true) && (M.Wine.c0 (M.commonW (List.getD (Prod.fst (followed { a := ra, b := rb, c := rc, d := rd } (Enc.list eM (List.length l) (Enc.F eM l)))) (Int.toNat (Prod.fst x)) { v0 := (0 : Int), v1 := (0 : Int), s0 := (0 : Int), s1 := (0 : Int), c0 := (0 : Int), c1 := (0 : Int) }) (List.getD l (Int.toNat (Prod.fst x)) (Enc.dflt eM)).2) == M.Wine.c0 (List.getD (Prod.fst (followed { a := ra, b := rb, c := rc, d := rd } (Enc.list eM (List.length l) (Enc.F eM l)))) (Int.toNat (Prod.fst x)) { v0 := (0 : Int), v1 := (0 : Int), s0 := (0 : Int), s1 := (0 : Int), c0 := (0 : Int), c1 := (0 : Int) }) && (M.Wine.c1 (M.commonW (List.getD (Prod.fst (followed { a := ra, b := rb, c := rc, d := rd } (Enc.list eM (List.length l) (Enc.F eM l)))) (Int.toNat (Prod.fst x)) { v0 := (0 : Int), v1 := (0 : Int), s0 := (0 : Int), s1 := (0 : Int), c0 := (0 : Int), c1 := (0 : Int) }) (List.getD l (Int.toNat (Prod.fst x)) (Enc.dflt eM)).2) == M.Wine.c1 (List.getD (Prod.fst (followed { a := ra, b := rb, c := rc, d := rd } (Enc.list eM (List.length l) (Enc.F eM l)))) (Int.toNat (Prod.fst x)) { v0 := (0 : Int), v1 := (0 : Int), s0 := (0 : Int), s1 := (0 : Int), c0 := (0 : Int), c1 := (0 : Int) }) && true) && true))))
                                                          (T.ret (Sum.inr [Ar.c (D.bool false)])) (T.ret (Sum.inl (IntKind.wrap IntKind.i64 (Prod.fst x + (1 : Int)), PUnit.unit))))))))))))
                                        (T.ret (Sum.inr [Ar.c (D.bool true)])))))))))))))))))))) := by kernel_rfl

theorem C11v : FOK Tryd.prog G0 gw 11 dom11 := by
  intro ags p r hd hp κ w xs hw hl hG hx
  unfold dom11 at hd
  split at hd
  · rename_i ra rb rc rd q len st F
    split at hd
    · rename_i hst
      have h1 := Nat.eq_of_beq_eq_true hst
      subst h1
      simp only [Option.some.injEq, Prod.mk.injEq] at hd
      obtain ⟨rfl, rfl⟩ := hd
      obtain ⟨hIs, _⟩ := hp
      have hto := eM.to (q := q) (q' := q) id hIs
      generalize eM.list len F = l at *
      refine fok_fin mixed gw_stable (sl := [v20, v48, v47, v49, v50, v51]) ⟨S20v, S48v, S47v, S49v, S50v, S51v, trivial⟩ Tryd.func11 hw hl hG hx (ags' := [.agg [dI ra, dI rb, dI rc, dI rd], .c (.sl q l.length 7 (eM.F l))]) ⟨dsEqv_refl _, hto, trivial⟩ rfl (t11 ra rb rc rd q l) ?_
      obtain ⟨e, hle, hN⟩ := followed_eq ⟨ra, rb, rc, rd⟩ l
      rw [e] at hle hN
      rw [eM.list_F, e]
      rw [eW.list_F]
      generalize rFollowed ⟨ra, rb, rc, rd⟩ l = X at *
      have hs := eM.is_F l l.length
      have hs2 := eW.is_F X.1 X.1.length
      refine ⟨fun h => by simp at h, fun _ => ⟨fun h6 => ⟨fun h40 => ⟨h6, h40, rsEqv_refl _⟩, fun h40 => ⟨h6, h40, fun _ => rsEqv_refl _, fun h42 => ?_⟩⟩, fun h6 => ⟨h6, fun _ => rsEqv_refl _, fun h42 => ?_⟩⟩⟩
      all_goals
        have hlen : l.length ≤ 42 := by
          have := of_decide_eq_false h42
          omega
        refine ⟨by omega, hs, by omega, hs, by omega, fun h => (by rw [bne_self_eq_false] at h; cases h), fun _ => ⟨fun h => (by rw [bne_self_eq_false] at h; cases h), fun _ => ⟨bne_self_eq_false _, bne_self_eq_false _, hs2, hs2, by omega, by omega, fun h => (by rw [sameW_self] at h; cases h), fun _ => ?_⟩⟩⟩
        refine ⟨fun x => ∃ k : Nat, x.1 = (k : Int) ∧ k ≤ X.1.length, fun x => X.1.length - x.1.toNat, ⟨0, rfl, by omega⟩, ?_⟩
        rintro ⟨x, u⟩ ⟨k, hk, hkl⟩
        simp only at hk
        subst hk
        refine ⟨fun hlt => ?_, fun hge => ?_⟩
        · have hlt' : k < X.1.length := by have := of_decide_eq_true hlt; omega
          obtain ⟨n1, n2, _⟩ := hN k hlt'
          refine ⟨by omega, by omega, by omega, by omega, ?_⟩
          simp only [Int.toNat_natCast]
          have n1' : M.commonW (X.1.getD k ⟨0, 0, 0, 0, 0, 0⟩) (l.getD k eM.dflt).w = X.1.getD k ⟨0, 0, 0, 0, 0, 0⟩ := n1
          have n2' : M.wOk (X.1.getD k ⟨0, 0, 0, 0, 0, 0⟩) = true := n2
          rw [show (l.getD k eM.dflt).2 = (l.getD k eM.dflt).w from rfl, n1', n2']
          refine ⟨fun h => (by cases h), fun _ => ⟨rfl, by omega, by omega, ?_⟩⟩
          refine ⟨fun h => by simp at h, fun _ => ?_⟩
          simp only [T.wp, LoopP]
          rw [sucW k (by omega)]
          exact ⟨⟨k + 1, rfl, by omega⟩, by simp only [Int.toNat_natCast]; omega⟩
        · simp only [T.wp, LoopP]
          exact rsEqv_refl _
    · cases hd
  · cases hd
theorem isI5 {len : Nat} (f : Nat → Nat → Int) : eS.Is len fun i j => .int .i64 (f i j) := by
  intro i j hi hj
  match j, hj with
  | 0, _ => rfl
  | 1, _ => rfl
  | 2, _ => rfl
  | 3, _ => rfl
  | 4, _ => rfl
  | j + 5, hj => exact absurd hj (by show ¬ j + 5 < 5; omega)
theorem isI7 {len : Nat} (f : Nat → Nat → Int) : eM.Is len fun i j => .int .i64 (f i j) := by
  intro i j hi hj
  match j, hj with
  | 0, _ => rfl
  | 1, _ => rfl
  | 2, _ => rfl
  | 3, _ => rfl
  | 4, _ => rfl
  | 5, _ => rfl
  | 6, _ => rfl
  | j + 7, hj => exact absurd hj (by show ¬ j + 7 < 7; omega)
theorem isI6 {len : Nat} (f : Nat → Nat → Int) : eW.Is len fun i j => .int .i64 (f i j) := by
  intro i j hi hj
  match j, hj with
  | 0, _ => rfl
  | 1, _ => rfl
  | 2, _ => rfl
  | 3, _ => rfl
  | 4, _ => rfl
  | 5, _ => rfl
  | j + 6, hj => exact absurd hj (by show ¬ j + 6 < 6; omega)
end Go.Fl2
end
