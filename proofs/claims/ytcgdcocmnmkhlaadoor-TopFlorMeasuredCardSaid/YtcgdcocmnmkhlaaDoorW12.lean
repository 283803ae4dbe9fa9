/- Chapter 3 with the second engine: the law TopFlorMeasured answers true, whatever the input. -/
import Derived.Test.YtcgdcocmnmkhlaaDoorW11
set_option linter.unusedVariables false
set_option linter.unusedSimpArgs false
set_option maxRecDepth 100000
namespace Go.Fl2
open Go.V Go.Fl Go.Proofs

def ptM (v0 v1 s0 s1 c0 c1 dd : Int) (YY : M.Wine) : Nat → Nat → D := fun (i j : Nat) => List.getD [dI 10, dI v0, dI v1, dI s0, dI s1, dI c0, dI c1, dI (M.W (10 + dd)), dI YY.v0, dI YY.v1, dI YY.s0, dI YY.s1, dI YY.c0, dI YY.c1] (i * 7 + j) D.nilp
theorem litM (v0 v1 s0 s1 c0 c1 dd : Int) (YY : M.Wine) : eM.Is 2 (ptM v0 v1 s0 s1 c0 c1 dd YY) ∧ eM.list 2 (ptM v0 v1 s0 s1 c0 c1 dd YY) = [⟨10, ⟨v0, v1, s0, s1, c0, c1⟩⟩, ⟨M.W (10 + dd), YY⟩] := by
  refine ⟨fun i j hi hj => ?_, rfl⟩
  match i, hi, j, hj with
  | 0, _, 0, _ => rfl
  | 0, _, 1, _ => rfl
  | 0, _, 2, _ => rfl
  | 0, _, 3, _ => rfl
  | 0, _, 4, _ => rfl
  | 0, _, 5, _ => rfl
  | 0, _, 6, _ => rfl
  | 1, _, 0, _ => rfl
  | 1, _, 1, _ => rfl
  | 1, _, 2, _ => rfl
  | 1, _, 3, _ => rfl
  | 1, _, 4, _ => rfl
  | 1, _, 5, _ => rfl
  | 1, _, 6, _ => rfl
  | i + 2, hi, _, _ => exact absurd hi (by omega)
  | _, _, j + 7, hj => exact absurd hj (by show ¬ j + 7 < 7; omega)
def tr18 (v0 v1 s0 s1 c0 c1 ra rb rc rd dd vv ss cc ff gg LE ST : Int) (YY : M.Wine) (PT : Nat → Nat → D) (FO : List M.Wine × Int × Int) : T (List Ar) :=
    T.br (!true) (T.ret [Ar.c (D.bool false)]) (T.br (M.rCheckWine (⟨v0, v1, s0, s1, c0, c1⟩ : M.Wine) != (0 : Int)) (T.need ((M.rCheckWine (⟨v0, v1, s0, s1, c0, c1⟩ : M.Wine) != (0 : Int)) = true) (T.ret [Ar.c (D.bool true)])) (T.br (M.rCheckRate (⟨ra, rb, rc, rd⟩ : M.Rate) != (0 : Int)) (T.need ((M.rCheckWine (⟨v0, v1, s0, s1, c0, c1⟩ : M.Wine) != (0 : Int)) = false) (T.need ((M.rCheckRate (⟨ra, rb, rc, rd⟩ : M.Rate) != (0 : Int)) = true) (T.ret [Ar.c (D.bool true)]))) (T.br (!M.within dd (1 : Int) (365 : Int)) (T.need ((M.rCheckWine (⟨v0, v1, s0, s1, c0, c1⟩ : M.Wine) != (0 : Int)) = false) (T.need ((M.rCheckRate (⟨ra, rb, rc, rd⟩ : M.Rate) != (0 : Int)) = false) (T.need ((!M.within dd (1 : Int) (365 : Int)) = true) (T.ret [Ar.c (D.bool true)])))) (T.br (v0 == (0 : Int)) (T.need ((M.rCheckWine (⟨v0, v1, s0, s1, c0, c1⟩ : M.Wine) != (0 : Int)) = false) (T.need ((M.rCheckRate (⟨ra, rb, rc, rd⟩ : M.Rate) != (0 : Int)) = false) (T.need ((!M.within dd (1 : Int) (365 : Int)) = false) (T.need ((v0 == (0 : Int)) = true) (T.ret [Ar.c (D.bool true)]))))) (T.need ((M.rCheckWine (⟨v0, v1, s0, s1, c0, c1⟩ : M.Wine) != (0 : Int)) = false) (T.need ((M.rCheckRate (⟨ra, rb, rc, rd⟩ : M.Rate) != (0 : Int)) = false) (T.need ((!M.within dd (1 : Int) (365 : Int)) = false) (T.need ((v0 == (0 : Int)) = false) (T.br (s0 == (0 : Int)) (T.ret [Ar.c (D.bool true)]) (T.need (M.W (M.W (v1 - v0) + (1 : Int)) ≠ (0 : Int)) (T.need (M.W (M.W (s1 - s0) + (1 : Int)) ≠ (0 : Int)) (T.need (M.W (M.W (c1 - c0) + (1 : Int)) ≠ (0 : Int)) (T.need (M.W (M.W (rb - ra) + (1 : Int)) ≠ (0 : Int)) (T.need (M.W (M.W (rd - rc) + (1 : Int)) ≠ (0 : Int)) (T.need ((10 : Int) ≠ (0 : Int)) (T.need ((1000000 : Int) ≠ (0 : Int)) (T.need ((1000000 : Int) ≠ (0 : Int)) (T.need (LE ≠ (0 : Int)) (T.need (LE ≠ (0 : Int)) (T.need (LE ≠ (0 : Int)) (T.need (LE ≠ (0 : Int)) (T.br (M.rCheckWine YY != (0 : Int)) (T.ret [Ar.c (D.bool true)]) (T.need (Enc.Is eM (2 : Nat) PT) (T.need ((2 : Nat) ≤ (1000000 : Nat)) (T.br (Prod.snd (Prod.snd FO) == (8 : Int)) (T.br (Prod.fst (Prod.snd FO) == (1 : Int)) (T.need ((Prod.fst (Prod.snd FO) == (1 : Int)) = true) (T.ret [Ar.c (D.bool (Nat.cast (R := Int) (List.length (Prod.fst FO)) == (0 : Int)))])) (T.need ((Prod.fst (Prod.snd FO) == (1 : Int)) = false) (T.ret [Ar.c (D.bool false)]))) (T.br (Prod.snd (Prod.snd FO) != (0 : Int)) (T.need ((Prod.snd (Prod.snd FO) != (0 : Int)) = true) (T.ret [Ar.c (D.bool false)])) (T.br (Nat.cast (R := Int) (List.length (Prod.fst FO)) != (2 : Int)) (T.need ((Prod.snd (Prod.snd FO) != (0 : Int)) = false) (T.need ((Nat.cast (R := Int) (List.length (Prod.fst FO)) != (2 : Int)) = true) (T.ret [Ar.c (D.bool false)]))) (T.need ((Prod.snd (Prod.snd FO) != (0 : Int)) = false) (T.need ((Nat.cast (R := Int) (List.length (Prod.fst FO)) != (2 : Int)) = false) (T.need ((0 : Int) ≤ (0 : Int)) (T.need ((0 : Int) < Nat.cast (R := Int) (List.length (Prod.fst FO))) (T.br (!(M.Wine.v0 (List.getD (Prod.fst FO) (Int.toNat (0 : Int)) (⟨0, 0, 0, 0, 0, 0⟩ : M.Wine)) == v0 && (M.Wine.v1 (List.getD (Prod.fst FO) (Int.toNat (0 : Int)) (⟨0, 0, 0, 0, 0, 0⟩ : M.Wine)) == v1 && true) && (M.Wine.s0 (List.getD (Prod.fst FO) (Int.toNat (0 : Int)) (⟨0, 0, 0, 0, 0, 0⟩ : M.Wine)) == s0 && (M.Wine.s1 (List.getD (Prod.fst FO) (Int.toNat (0 : Int)) (⟨0, 0, 0, 0, 0, 0⟩ : M.Wine)) == s1 && true) && (M.Wine.c0 (List.getD (Prod.fst FO) (Int.toNat (0 : Int)) (⟨0, 0, 0, 0, 0, 0⟩ : M.Wine)) == c0 && (M.Wine.c1 (List.getD (Prod.fst FO) (Int.toNat (0 : Int)) (⟨0, 0, 0, 0, 0, 0⟩ : M.Wine)) == c1 && true) && true)))) (T.ret [Ar.c (D.bool false)]) (T.br (!M.between (M.W (vv * LE)) (1000000 : Int) { lo := M.Wine.v0 (List.getD (Prod.fst FO) (Int.toNat (1 : Int)) (⟨0, 0, 0, 0, 0, 0⟩ : M.Wine)), hi := M.Wine.v1 (List.getD (Prod.fst FO) (Int.toNat (1 : Int)) (⟨0, 0, 0, 0, 0, 0⟩ : M.Wine)) }) (T.need ((0 : Int) ≤ (1 : Int)) (T.need ((1 : Int) < Nat.cast (R := Int) (List.length (Prod.fst FO))) (T.need ((1000000 : Int) ≠ (0 : Int)) (T.need (M.W (M.Wine.v0 (List.getD (Prod.fst FO) (Int.toNat (1 : Int)) (⟨0, 0, 0, 0, 0, 0⟩ : M.Wine))) = M.Wine.v0 (List.getD (Prod.fst FO) (Int.toNat (1 : Int)) (⟨0, 0, 0, 0, 0, 0⟩ : M.Wine))) (T.need (M.W (M.Wine.v1 (List.getD (Prod.fst FO) (Int.toNat (1 : Int)) (⟨0, 0, 0, 0, 0, 0⟩ : M.Wine))) = M.Wine.v1 (List.getD (Prod.fst FO) (Int.toNat (1 : Int)) (⟨0, 0, 0, 0, 0, 0⟩ : M.Wine))) (T.need ((!M.between (M.W (vv * LE)) (1000000 : Int) { lo := M.Wine.v0 (List.getD (Prod.fst FO) (Int.toNat (1 : Int)) (⟨0, 0, 0, 0, 0, 0⟩ : M.Wine)), hi := M.Wine.v1 (List.getD (Prod.fst FO) (Int.toNat (1 : Int)) (⟨0, 0, 0, 0, 0, 0⟩ : M.Wine)) }) = true) (T.ret [Ar.c (D.bool false)]))))))) (T.br (!M.between (M.W (ss * ST)) LE { lo := M.Wine.s0 (List.getD (Prod.fst FO) (Int.toNat (1 : Int)) (⟨0, 0, 0, 0, 0, 0⟩ : M.Wine)), hi := M.Wine.s1 (List.getD (Prod.fst FO) (Int.toNat (1 : Int)) (⟨0, 0, 0, 0, 0, 0⟩ : M.Wine)) }) (T.need ((0 : Int) ≤ (1 : Int)) (T.need ((1 : Int) < Nat.cast (R := Int) (List.length (Prod.fst FO))) (T.need ((1000000 : Int) ≠ (0 : Int)) (T.need (M.W (M.Wine.v0 (List.getD (Prod.fst FO) (Int.toNat (1 : Int)) (⟨0, 0, 0, 0, 0, 0⟩ : M.Wine))) = M.Wine.v0 (List.getD (Prod.fst FO) (Int.toNat (1 : Int)) (⟨0, 0, 0, 0, 0, 0⟩ : M.Wine))) (T.need (M.W (M.Wine.v1 (List.getD (Prod.fst FO) (Int.toNat (1 : Int)) (⟨0, 0, 0, 0, 0, 0⟩ : M.Wine))) = M.Wine.v1 (List.getD (Prod.fst FO) (Int.toNat (1 : Int)) (⟨0, 0, 0, 0, 0, 0⟩ : M.Wine))) (T.need ((!M.between (M.W (vv * LE)) (1000000 : Int) { lo := M.Wine.v0 (List.getD (Prod.fst FO) (Int.toNat (1 : Int)) (⟨0, 0, 0, 0, 0, 0⟩ : M.Wine)), hi := M.Wine.v1 (List.getD (Prod.fst FO) (Int.toNat (1 : Int)) (⟨0, 0, 0, 0, 0, 0⟩ : M.Wine)) }) = false) (T.need ((0 : Int) ≤ (1 : Int)) (T.need ((1 : Int) < Nat.cast (R := Int) (List.length (Prod.fst FO))) (T.need (LE ≠ (0 : Int)) (T.need (M.W (M.Wine.s0 (List.getD (Prod.fst FO) (Int.toNat (1 : Int)) (⟨0, 0, 0, 0, 0, 0⟩ : M.Wine))) = M.Wine.s0 (List.getD (Prod.fst FO) (Int.toNat (1 : Int)) (⟨0, 0, 0, 0, 0, 0⟩ : M.Wine))) (T.need (M.W (M.Wine.s1 (List.getD (Prod.fst FO) (Int.toNat (1 : Int)) (⟨0, 0, 0, 0, 0, 0⟩ : M.Wine))) = M.Wine.s1 (List.getD (Prod.fst FO) (Int.toNat (1 : Int)) (⟨0, 0, 0, 0, 0, 0⟩ : M.Wine))) (T.need ((!M.between (M.W (ss * ST)) LE { lo := M.Wine.s0 (List.getD (Prod.fst FO) (Int.toNat (1 : Int)) (⟨0, 0, 0, 0, 0, 0⟩ : M.Wine)), hi := M.Wine.s1 (List.getD (Prod.fst FO) (Int.toNat (1 : Int)) (⟨0, 0, 0, 0, 0, 0⟩ : M.Wine)) }) = true) (T.ret [Ar.c (D.bool false)]))))))))))))) (T.need ((0 : Int) ≤ (1 : Int)) (T.need ((1 : Int) < Nat.cast (R := Int) (List.length (Prod.fst FO))) (T.need ((1000000 : Int) ≠ (0 : Int)) (T.need (M.W (M.Wine.v0 (List.getD (Prod.fst FO) (Int.toNat (1 : Int)) (⟨0, 0, 0, 0, 0, 0⟩ : M.Wine))) = M.Wine.v0 (List.getD (Prod.fst FO) (Int.toNat (1 : Int)) (⟨0, 0, 0, 0, 0, 0⟩ : M.Wine))) (T.need (M.W (M.Wine.v1 (List.getD (Prod.fst FO) (Int.toNat (1 : Int)) (⟨0, 0, 0, 0, 0, 0⟩ : M.Wine))) = M.Wine.v1 (List.getD (Prod.fst FO) (Int.toNat (1 : Int)) (⟨0, 0, 0, 0, 0, 0⟩ : M.Wine))) (T.need ((!M.between (M.W (vv * LE)) (1000000 : Int) { lo := M.Wine.v0 (List.getD (Prod.fst FO) (Int.toNat (1 : Int)) (⟨0, 0, 0, 0, 0, 0⟩ : M.Wine)), hi := M.Wine.v1 (List.getD (Prod.fst FO) (Int.toNat (1 : Int)) (⟨0, 0, 0, 0, 0, 0⟩ : M.Wine)) }) = false) (T.need ((0 : Int) ≤ (1 : Int)) (T.need ((1 : Int) < Nat.cast (R := Int) (List.length (Prod.fst FO))) (T.need (LE ≠ (0 : Int)) (T.need (M.W (M.Wine.s0 (List.getD (Prod.fst FO) (Int.toNat (1 : Int)) (⟨0, 0, 0, 0, 0, 0⟩ : M.Wine))) = M.Wine.s0 (List.getD (Prod.fst FO) (Int.toNat (1 : Int)) (⟨0, 0, 0, 0, 0, 0⟩ : M.Wine))) (T.need (M.W (M.Wine.s1 (List.getD (Prod.fst FO) (Int.toNat (1 : Int)) (⟨0, 0, 0, 0, 0, 0⟩ : M.Wine))) = M.Wine.s1 (List.getD (Prod.fst FO) (Int.toNat (1 : Int)) (⟨0, 0, 0, 0, 0, 0⟩ : M.Wine))) (T.need ((!M.between (M.W (ss * ST)) LE { lo := M.Wine.s0 (List.getD (Prod.fst FO) (Int.toNat (1 : Int)) (⟨0, 0, 0, 0, 0, 0⟩ : M.Wine)), hi := M.Wine.s1 (List.getD (Prod.fst FO) (Int.toNat (1 : Int)) (⟨0, 0, 0, 0, 0, 0⟩ : M.Wine)) }) = false) (T.need ((0 : Int) ≤ (1 : Int)) (T.need ((1 : Int) < Nat.cast (R := Int) (List.length (Prod.fst FO))) (T.need (LE ≠ (0 : Int)) (T.need (M.W (M.Wine.c0 (List.getD (Prod.fst FO) (Int.toNat (1 : Int)) (⟨0, 0, 0, 0, 0, 0⟩ : M.Wine))) = M.Wine.c0 (List.getD (Prod.fst FO) (Int.toNat (1 : Int)) (⟨0, 0, 0, 0, 0, 0⟩ : M.Wine))) (T.need (M.W (M.Wine.c1 (List.getD (Prod.fst FO) (Int.toNat (1 : Int)) (⟨0, 0, 0, 0, 0, 0⟩ : M.Wine))) = M.Wine.c1 (List.getD (Prod.fst FO) (Int.toNat (1 : Int)) (⟨0, 0, 0, 0, 0, 0⟩ : M.Wine))) (T.br (!M.between (M.W (cc * (1000000 : Int))) LE { lo := M.Wine.c0 (List.getD (Prod.fst FO) (Int.toNat (1 : Int)) (⟨0, 0, 0, 0, 0, 0⟩ : M.Wine)), hi := M.Wine.c1 (List.getD (Prod.fst FO) (Int.toNat (1 : Int)) (⟨0, 0, 0, 0, 0, 0⟩ : M.Wine)) }) (T.ret [Ar.c (D.bool false)]) (T.br (Prod.snd (M.RatesOf (⟨v0, v1, s0, s1, c0, c1⟩ : M.Wine) YY dd) == (0 : Int)) (T.br (M.within (ff) (M.Rate.a (Prod.fst (M.RatesOf (⟨v0, v1, s0, s1, c0, c1⟩ : M.Wine) YY dd))) (M.Rate.b (Prod.fst (M.RatesOf (⟨v0, v1, s0, s1, c0, c1⟩ : M.Wine) YY dd)))) (T.need ((Prod.snd (M.RatesOf (⟨v0, v1, s0, s1, c0, c1⟩ : M.Wine) YY dd) == (0 : Int)) = true) (T.need (M.within (ff) (M.Rate.a (Prod.fst (M.RatesOf (⟨v0, v1, s0, s1, c0, c1⟩ : M.Wine) YY dd))) (M.Rate.b (Prod.fst (M.RatesOf (⟨v0, v1, s0, s1, c0, c1⟩ : M.Wine) YY dd))) = true) (T.ret [Ar.c (D.bool (M.within (gg) (M.Rate.c (Prod.fst (M.RatesOf (⟨v0, v1, s0, s1, c0, c1⟩ : M.Wine) YY dd))) (M.Rate.d (Prod.fst (M.RatesOf (⟨v0, v1, s0, s1, c0, c1⟩ : M.Wine) YY dd)))))]))) (T.need ((Prod.snd (M.RatesOf (⟨v0, v1, s0, s1, c0, c1⟩ : M.Wine) YY dd) == (0 : Int)) = true) (T.need (M.within (ff) (M.Rate.a (Prod.fst (M.RatesOf (⟨v0, v1, s0, s1, c0, c1⟩ : M.Wine) YY dd))) (M.Rate.b (Prod.fst (M.RatesOf (⟨v0, v1, s0, s1, c0, c1⟩ : M.Wine) YY dd))) = false) (T.ret [Ar.c (D.bool false)])))) (T.need ((Prod.snd (M.RatesOf (⟨v0, v1, s0, s1, c0, c1⟩ : M.Wine) YY dd) == (0 : Int)) = false) (T.ret [Ar.c (D.bool false)])))))))))))))))))))))))))))))))))))))))))))))))))))))))
def yy (vv ss cc LE ST BY : Int) : M.Wine := ⟨L.wideLo (M.W (vv * LE)) 1000000 BY, L.wideHi (M.W (vv * LE)) 1000000 BY, L.wideLo (M.W (ss * ST)) LE BY, L.wideHi (M.W (ss * ST)) LE BY, L.wideLo (M.W (cc * 1000000)) LE BY, L.wideHi (M.W (cc * 1000000)) LE BY⟩
def tq18 (v0 v1 s0 s1 c0 c1 ra rb rc rd dd vv ss cc ff gg BY : Int) : T (List Ar) :=
  tr18 v0 v1 s0 s1 c0 c1 ra rb rc rd dd vv ss cc ff gg (M.W (1000000 - M.W (ff * dd))) (M.W (1000000 - M.W (gg * dd))) (yy vv ss cc (M.W (1000000 - M.W (ff * dd))) (M.W (1000000 - M.W (gg * dd))) BY)
    (ptM v0 v1 s0 s1 c0 c1 dd (yy vv ss cc (M.W (1000000 - M.W (ff * dd))) (M.W (1000000 - M.W (gg * dd))) BY))
    (followed ⟨ra, rb, rc, rd⟩ (eM.list 2 (ptM v0 v1 s0 s1 c0 c1 dd (yy vv ss cc (M.W (1000000 - M.W (ff * dd))) (M.W (1000000 - M.W (gg * dd))) BY))))
theorem t18 (v0 v1 s0 s1 c0 c1 : Int) (ra rb rc rd dd tv ts tc tw ta wi : Int) : runFn Tryd.prog G0 (lookS [v61, v22, v24, v43, v47, v55, v63, v64, v67, v68, v69]) [] 40 Tryd.f18 [.agg [dI v0, dI v1, dI s0, dI s1, dI c0, dI c1], .agg [dI ra, dI rb, dI rc, dI rd], .agg [dI dd, dI tv, dI ts, dI tc, dI tw, dI ta, dI wi]] =
    tq18 v0 v1 s0 s1 c0 c1 ra rb rc rd dd (M.pick ⟨v0, v1⟩ tv) (M.pick ⟨s0, s1⟩ ts) (M.pick ⟨c0, c1⟩ tc) (M.pick ⟨ra, rb⟩ tw) (M.pick ⟨rc, rd⟩ ta) (M.mod wi 10) := by kernel_rfl
def dom18 : DomF
  | [.agg [.int .i64 v0, .int .i64 v1, .int .i64 s0, .int .i64 s1, .int .i64 c0, .int .i64 c1], .agg [.int .i64 ra, .int .i64 rb, .int .i64 rc, .int .i64 rd],
     .agg [.int .i64 dd, .int .i64 tv, .int .i64 ts, .int .i64 tc, .int .i64 tw, .int .i64 ta, .int .i64 wi]] => some ([], [rB true])
  | _ => none
theorem law18 {v0 v1 s0 s1 c0 c1 ra rb rc rd dd vv ss cc ff gg BY : Int} (hpv : L.OkW ⟨v0, v1, s0, s1, c0, c1⟩ → v0 ≤ vv ∧ vv ≤ v1 ∧ s0 ≤ ss ∧ ss ≤ s1 ∧ c0 ≤ cc ∧ cc ≤ c1 ∧ M.W (M.W (v1 - v0) + 1) ≠ 0 ∧ M.W (M.W (s1 - s0) + 1) ≠ 0 ∧ M.W (M.W (c1 - c0) + 1) ≠ 0)
    (hpr : L.OkR ⟨ra, rb, rc, rd⟩ → ra ≤ ff ∧ ff ≤ rb ∧ rc ≤ gg ∧ gg ≤ rd ∧ M.W (M.W (rb - ra) + 1) ≠ 0 ∧ M.W (M.W (rd - rc) + 1) ≠ 0) (hB : 0 ≤ BY ∧ BY ≤ 9) :
    (tq18 v0 v1 s0 s1 c0 c1 ra rb rc rd dd vv ss cc ff gg BY).wp fun rs => rsEqv rs [rB true] := by
  unfold tq18
  generalize hLE : M.W (1000000 - M.W (ff * dd)) = LE
  generalize hST : M.W (1000000 - M.W (gg * dd)) = ST
  generalize hY : yy vv ss cc LE ST BY = YY
  obtain ⟨hI, hL⟩ := litM v0 v1 s0 s1 c0 c1 dd YY
  rw [hL]
  generalize ptM v0 v1 s0 s1 c0 c1 dd YY = PT at *
  generalize hFO : followed ⟨ra, rb, rc, rd⟩ [⟨10, ⟨v0, v1, s0, s1, c0, c1⟩⟩, ⟨M.W (10 + dd), YY⟩] = FO
  unfold tr18
  refine ⟨fun h => by simp at h, fun _ => ⟨fun h => ⟨h, rsEqv_refl _⟩, fun k1 => ⟨fun h => ⟨k1, h, rsEqv_refl _⟩, fun k2 => ⟨fun h => ⟨k1, k2, h, rsEqv_refl _⟩, fun k3 => ⟨fun h => ⟨k1, k2, k3, h, rsEqv_refl _⟩, fun k4 => ⟨k1, k2, k3, k4, fun h => rsEqv_refl _, fun k5 => ?_⟩⟩⟩⟩⟩⟩
  have ow : L.OkW ⟨v0, v1, s0, s1, c0, c1⟩ := by have := L.ne_false.1 k1; rwa [L.rCheckWine_eq, L.checkWine_zero] at this
  have or : L.OkR ⟨ra, rb, rc, rd⟩ := by have := L.ne_false.1 k2; rwa [L.rCheckRate_eq, L.checkRate_zero] at this
  have od : 1 ≤ dd ∧ dd ≤ 365 := by
    have h9 : M.within dd 1 365 = true := by
      cases h : M.within dd 1 365 with
      | true => rfl
      | false => rw [h] at k3; cases k3
    exact L.within_iff.1 h9
  have nv : v0 ≠ 0 := beq_eq_false_iff_ne.1 k4
  have ns : s0 ≠ 0 := beq_eq_false_iff_ne.1 k5
  obtain ⟨p1, p2, p3, p4, p5, p6, q1, q2, q3⟩ := hpv ow
  obtain ⟨p7, p8, p9, p10, q4, q5⟩ := hpr or
  have w1 := ow.v0; have w2 := ow.v; have w3 := ow.v1; have w4 := ow.s0; have w5 := ow.s; have w6 := ow.s1; have w7 := ow.c0; have w8 := ow.c; have w9 := ow.c1
  have r1 := or.a; have r2 := or.b; have r3 := or.b1; have r4 := or.c; have r5 := or.d; have r6 := or.d1
  simp only at w1 w2 w3 w4 w5 w6 w7 w8 w9 r1 r2 r3 r4 r5 r6
  have f1 := (L.rate_day r1 p7 p8 r3 (by omega : 0 ≤ dd) od.2).2.2
  have f2 := (L.rate_day r4 p9 p10 r6 (by omega : 0 ≤ dd) od.2).2.2
  have eL : LE = 1000000 - ff * dd := by rw [← hLE, L.W_id (n := ff * dd) (by omega) (by omega), L.W_id (by omega) (by omega)]
  have eS' : ST = 1000000 - gg * dd := by rw [← hST, L.W_id (n := gg * dd) (by omega) (by omega), L.W_id (by omega) (by omega)]
  have b1 := L.mul_le (by omega : 0 ≤ vv) (by omega : vv ≤ 100000) (by omega : 0 ≤ LE) (by omega : LE ≤ 1000000)
  have b2 := L.mul_le (by omega : 0 ≤ ss) (by omega : ss ≤ 10000) (by omega : 0 ≤ ST) (by omega : ST ≤ 1000000)
  have x1 : M.W (vv * LE) = vv * LE := L.W_id (by omega) (by omega)
  have x2 : M.W (ss * ST) = ss * ST := L.W_id (by omega) (by omega)
  have x3 : M.W (cc * 1000000) = cc * 1000000 := L.W_id (by omega) (by omega)
  have nL : LE ≠ 0 := by omega
  refine ⟨q1, q2, q3, q4, q5, by decide, by decide, by decide, nL, nL, nL, nL, fun _ => rsEqv_refl _, fun k6 => ⟨hI, by decide, ?_⟩⟩
  have oy : L.OkW YY := by have := L.ne_false.1 k6; rwa [L.rCheckWine_eq, L.checkWine_zero] at this
  have g1 := L.wide (n := vv * LE) (d := 1000000) (by decide) b1.1 (by omega) hB
  have g2 := L.wide (n := ss * ST) (d := LE) (by omega) b2.1 (by omega) hB
  have g3 := L.wide (n := cc * 1000000) (d := LE) (by omega) (by omega) (by omega) hB
  have tY : L.TrueAt YY (vv * LE) 1000000 (ss * ST) LE (cc * 1000000) LE := by
    rw [← hY]
    unfold yy
    rw [x1, x2, x3]
    exact ⟨by decide, by omega, by omega, g1.1, g1.2, g2.1, g2.2, g3.1, g3.2⟩
  have h1 : M.taskErr ⟨v0, v1, s0, s1, c0, c1⟩ ⟨ra, rb, rc, rd⟩ dd = 0 := L.taskErr_zero.2 ⟨ow, or, by omega⟩
  have t0 : L.TrueAt ⟨v0, v1, s0, s1, c0, c1⟩ vv 1 ss 1 cc 1 := ⟨by decide, by decide, by decide, by show v0 * 1 ≤ vv; omega, by show vv ≤ v1 * 1; omega, by show s0 * 1 ≤ ss; omega, by show ss ≤ s1 * 1; omega, by show c0 * 1 ≤ cc; omega, by show cc ≤ c1 * 1; omega⟩
  have t1 := L.true_step (p := ff) (q := gg) h1 t0 ⟨p7, p8⟩ ⟨p9, p10⟩
  rw [Int.one_mul, Int.one_mul, ← eL, ← eS'] at t1
  have tC := L.true_common t1 tY
  have R := L.rates_true (w := ⟨v0, v1, s0, s1, c0, c1⟩) (y := YY) (d := dd) (v := vv) (s := ss) (c := cc) (f := ff) (g := gg) ow oy od nv ns ⟨p1, p2⟩ ⟨p3, p4⟩ (by omega) (by omega) (by rw [← eL, ← eS']; exact tY)
  rcases meas ow oy or od tY t1 with hm | hm
  · rw [hFO] at hm
    rw [hm]
    exact ⟨fun _ => ⟨fun _ => ⟨rfl, rsEqv_refl _⟩, fun h => (by cases h)⟩, fun h => (by cases h)⟩
  · rw [hFO] at hm
    have okC := w_ok (a := M.after ⟨v0, v1, s0, s1, c0, c1⟩ ⟨ra, rb, rc, rd⟩ dd) oy (L.true_wOk tC)
    generalize M.commonW (M.after ⟨v0, v1, s0, s1, c0, c1⟩ ⟨ra, rb, rc, rd⟩ dd) YY = X at *
    rw [hm]
    have z1 := okC.v0; have z2 := okC.v; have z3 := okC.v1; have z4 := okC.s0; have z5 := okC.s; have z6 := okC.s1; have z7 := okC.c0; have z8 := okC.c; have z9 := okC.c1
    have y1 : M.W X.v0 = X.v0 := L.W_id (by omega) (by omega)
    have y2 : M.W X.v1 = X.v1 := L.W_id (by omega) (by omega)
    have y3 : M.W X.s0 = X.s0 := L.W_id (by omega) (by omega)
    have y4 : M.W X.s1 = X.s1 := L.W_id (by omega) (by omega)
    have y5 : M.W X.c0 = X.c0 := L.W_id (by omega) (by omega)
    have y6 : M.W X.c1 = X.c1 := L.W_id (by omega) (by omega)
    have d1 : M.between (M.W (vv * LE)) 1000000 ⟨X.v0, X.v1⟩ = true := by rw [x1]; exact L.between_true (by decide) (by omega) (by omega) (by decide) tC.V0 tC.V1
    have d2 : M.between (M.W (ss * ST)) LE ⟨X.s0, X.s1⟩ = true := by rw [x2]; exact L.between_true (by omega) (by omega) (by omega) (by omega) tC.S0 tC.S1
    have d3 : M.between (M.W (cc * 1000000)) LE ⟨X.c0, X.c1⟩ = true := by rw [x3]; exact L.between_true (by omega) (by omega) (by omega) (by omega) tC.C0 tC.C1
    have n1 : (!M.between (M.W (vv * LE)) 1000000 ⟨X.v0, X.v1⟩) = false := by rw [d1]; rfl
    have n2 : (!M.between (M.W (ss * ST)) LE ⟨X.s0, X.s1⟩) = false := by rw [d2]; rfl
    have n3 : (!M.between (M.W (cc * 1000000)) LE ⟨X.c0, X.c1⟩) = false := by rw [d3]; rfl
    refine ⟨fun h => (by cases h), fun _ => ⟨fun h => (by cases h), fun _ => ⟨fun h => (by cases h), fun _ => ⟨rfl, rfl, by decide, by show (0 : Int) < 2; decide, ?_⟩⟩⟩⟩
    refine ⟨fun h => ?_, fun _ => ⟨fun h => absurd (n1.symm.trans h) (by decide), fun _ => ⟨fun h => absurd (n2.symm.trans h) (by decide), fun _ =>
      ⟨by decide, by show (1 : Int) < 2; decide, by decide, y1, y2, n1, by decide, by show (1 : Int) < 2; decide, nL, y3, y4, n2, by decide, by show (1 : Int) < 2; decide, nL, y5, y6, fun h => absurd (n3.symm.trans h) (by decide), fun _ => ?_⟩⟩⟩⟩
    · have : (!((v0 == v0 && (v1 == v1 && true)) && ((s0 == s0 && (s1 == s1 && true)) && ((c0 == c0 && (c1 == c1 && true)) && true)))) = true := h
      simp at this
    · obtain ⟨r0, ra', rb', rc', rd'⟩ := R
      have i1 : M.within ff (M.RatesOf ⟨v0, v1, s0, s1, c0, c1⟩ YY dd).1.a (M.RatesOf ⟨v0, v1, s0, s1, c0, c1⟩ YY dd).1.b = true := L.within_iff.2 ⟨ra', rb'⟩
      have i2 : M.within gg (M.RatesOf ⟨v0, v1, s0, s1, c0, c1⟩ YY dd).1.c (M.RatesOf ⟨v0, v1, s0, s1, c0, c1⟩ YY dd).1.d = true := L.within_iff.2 ⟨rc', rd'⟩
      have i0 : ((M.RatesOf ⟨v0, v1, s0, s1, c0, c1⟩ YY dd).2 == 0) = true := by rw [r0]; rfl
      refine ⟨fun _ => ⟨fun _ => ⟨i0, i1, ?_⟩, fun h => absurd (i1.symm.trans h) (by decide)⟩, fun h => absurd (i0.symm.trans h) (by decide)⟩
      simp only [T.wp]
      rw [i2]; exact rsEqv_refl _
theorem C18v : FOK Tryd.prog G0 gw 18 dom18 := by
  intro ags p r hd hp κ w xs hw hl hG hx
  unfold dom18 at hd
  split at hd
  · rename_i v0 v1 s0 s1 c0 c1 ra rb rc rd dd tv ts tc tw ta wi
    simp only [Option.some.injEq, Prod.mk.injEq] at hd
    obtain ⟨rfl, rfl⟩ := hd
    refine fok_fin mixed gw_stable (sl := [v61, v22, v24, v43, v47, v55, v63, v64, v67, v68, v69]) ⟨S61v, S22v, S24v, S43v, S47v, S55v, S63v, S64v, S67v, S68v, S69v, trivial⟩ Tryd.func18 hw hl hG hx (agsEqv_refl _) rfl (t18 v0 v1 s0 s1 c0 c1 ra rb rc rd dd tv ts tc tw ta wi) ?_
    refine law18 (fun ow => ?_) (fun or => ?_) ?_
    · have w1 := ow.v0; have w2 := ow.v; have w3 := ow.v1; have w4 := ow.s0; have w5 := ow.s; have w6 := ow.s1; have w7 := ow.c0; have w8 := ow.c; have w9 := ow.c1
      have a1 := L.pick_bd (r := ⟨v0, v1⟩) (b := tv) w1 w2 (Int.le_trans w3 (by decide))
      have a2 := L.pick_bd (r := ⟨s0, s1⟩) (b := ts) w4 w5 (Int.le_trans w6 (by decide))
      have a3 := L.pick_bd (r := ⟨c0, c1⟩) (b := tc) w7 w8 (Int.le_trans w9 (by decide))
      exact ⟨a1.1, a1.2, a2.1, a2.2, a3.1, a3.2, L.pick_ne (r := ⟨v0, v1⟩) w1 w2 (Int.le_trans w3 (by decide)), L.pick_ne (r := ⟨s0, s1⟩) w4 w5 (Int.le_trans w6 (by decide)), L.pick_ne (r := ⟨c0, c1⟩) w7 w8 (Int.le_trans w9 (by decide))⟩
    · have r1 := or.a; have r2 := or.b; have r3 := or.b1; have r4 := or.c; have r5 := or.d; have r6 := or.d1
      have a1 := L.pick_bd (r := ⟨ra, rb⟩) (b := tw) r1 r2 (Int.le_trans r3 (by decide))
      have a2 := L.pick_bd (r := ⟨rc, rd⟩) (b := ta) r4 r5 (Int.le_trans r6 (by decide))
      exact ⟨a1.1, a1.2, a2.1, a2.2, L.pick_ne (r := ⟨ra, rb⟩) r1 r2 (Int.le_trans r3 (by decide)), L.pick_ne (r := ⟨rc, rd⟩) r4 r5 (Int.le_trans r6 (by decide))⟩
    · have := L.mod_bd (n := wi) (b := 10) (by decide) (by decide)
      omega
  · cases hd
end Go.Fl2
