/- The engine, part 12: from a function's tree to its contract. -/
import Derived.Test.YtcgdcocmnmkhlaaDoorE11
namespace Go.Eng
open Go.RowKit (Below)

def V.pv : V → Option Value
  | .a y => y.pv
  | .tup ys => match pvA ys with | some l => some (.tuple l.toArray) | none => none
theorem V.pv_rel {ρ : Ren} {v : V} {x : Value} (h : v.pv = some x) : v.rel ρ x := by
  cases v with
  | a y => exact A.pv_rel h
  | tup ys =>
    simp only [V.pv] at h
    split at h
    · rename_i l hl
      simp only [Option.some.injEq] at h; subst h
      exact ⟨l, pvA_rel hl, rfl⟩
    · cases h

theorem grp_fin {P : Program} {G : Nat} {sl : List (Nat × Sm)} {gw : World → Prop} {gb : List Blk} (hmix : P.follows .mixedOrders = true) (hst : ∀ w w', gw w → Below w.heap.size w w' → gw w') (hgb : Glob G gw gb) (hS : AllS P gw sl)
    {f : FuncId} {fn : Func} (hf : P.funcs[f]? = some fn) {n0 fuel : Nat} {sh : List Shp} {gs : List (List Value)} {args : List A} {bs bl : List Blk} {xs : List Value} {w : World} {v : V} {x' : Value} {t : T Value}
    (hgw : gw w) (hx : GRel w sh gs xs) (hm : mkArgs sh gs G = some (args, bs)) (hbl : gb ++ bs = bl) (hn : bl.length = n0) (hlen : Nat.ble args.length fn.ntmps = true)
    (ht : runFn P G n0 (lookS sl) fuel fn args bl = t) (hv : v.pv = some x') (h : t.wp (fun x => x = x')) :
    Calls P f xs.toArray w (fun e w' => ∃ x, e = .returned x ∧ (∀ ρ, v.rel ρ x) ∧ Below w.heap.size w w') := by
  subst hbl hn
  have E : Env P G (lookS sl) gw := ⟨hmix, fun f σ hs => lookS_ok hS f σ hs, hst⟩
  refine (grp_run E hgb hf fuel hgw hx hm hlen (by rw [ht]; exact h)).mono ?_
  rintro e w' ⟨x, he, rfl, hb⟩
  exact ⟨_, he, fun ρ => V.pv_rel hv, hb⟩
end Go.Eng
