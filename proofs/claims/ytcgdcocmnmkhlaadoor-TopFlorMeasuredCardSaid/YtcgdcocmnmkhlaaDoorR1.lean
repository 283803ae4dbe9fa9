/- The laws of chapter 3 as rows: what the listed variable gives; a start that fits. -/
import Derived.Test.YtcgdcocmnmkhlaaDoorF11
import Derived.Test.YtcgdcocmnmkhlaaDoorR0
import Derived.Test.YtcgdcocmnmkhlaaDoorRows
import Derived.Stop.Joined
namespace Go.Proofs.YtcgdcocmnmkhlaaDoor
open Go.ChangeShapes Go.WideShapes Go.ChangeAt Go.RowKit Go.Eng Go.Fl

theorem own : ownKnob Tryd.prog.godebug = none := by kernel_rfl
theorem laidOut : laidOutB Tryd.prog = true := by kernel_rfl
theorem gLimits : Tryd.prog.globalNamed "criadera/flor.limits" = some 0 := by kernel_rfl
theorem tLimits : (Tryd.prog.globals[0]?).map (·.type) = some 134 := by kernel_rfl
def laid1 : List (String × DataW Unit) := [("criadera/flor.limits", Rows.laid_criadera_flor_limits)]
theorem door_met (os : Os) (args : Array Value) : laidMetH Tryd.prog laid1 ((World.doorLaid Tryd.prog 400 os).forCall (fun _ _ => 0) ⟨#[], args, []⟩).memory :=
  laidMetH_of_parts3 (fuel := 8) (laidMet_of_run' 8 (by kernel_rfl) (by kernel_rfl)) (by kernel_rfl) (by kernel_rfl)

theorem gw_of_laid {W : World} (h : laidMetH Tryd.prog laid1 W) : gw W := by
  have h1 : laidMet Tryd.prog laid1 W := h
  obtain ⟨ps, ⟨g0, t0, cs0, f0, p0, q0, hg0, ht0, hv0, hd0, _, _⟩, _, _⟩ := h1
  obtain rfl := Option.some.inj (gLimits.symm.trans hg0)
  obtain rfl := Option.some.inj (tLimits.symm.trans ht0)
  obtain ⟨xs, m1, rfl, hx1, hlen, hn3, hel⟩ := DataW.trod_array Tryd.underlying134 hd0
  have c3 : Tryd.prog.cellsOf 3 = 1 := by kernel_rfl
  have c134 : Tryd.prog.cellsOf 134 = 3 := by kernel_rfl
  have k0 := hel 0 (by decide)
  have k1 := hel 1 (by decide)
  have k2 := hel 2 (by decide)
  simp only [c3] at k0 k1 k2
  have hlen : cs0.toList.length = 3 := hlen.trans c134
  obtain ⟨c0, c1, c2, hc⟩ := list3 hlen
  obtain ⟨x0, x1, x2, hxs⟩ := list3 hn3
  subst hxs
  rw [hc] at k0 k1 k2
  have hx2 : [x0.1, x1.1, x2.1] = [.lit (.int .i64 100000), .lit (.int .i64 10000), .lit (.int .i64 100000)] := by
    simpa [Rows.laid_criadera_flor_limits] using (congrArg Prod.fst hx1).symm
  simp only [List.cons.injEq, and_true] at hx2
  obtain ⟨a0, e0, f0', _⟩ := DataW.trod_int Tryd.underlying3 (show DataW.trod _ Tryd.prog W 0 _ false m1 3 [c0] = some x0 from k0)
  obtain ⟨a1, e1, f1, _⟩ := DataW.trod_int Tryd.underlying3 (show DataW.trod _ Tryd.prog W 0 _ false m1 3 [c1] = some x1 from k1)
  obtain ⟨a2, e2, f2, _⟩ := DataW.trod_int Tryd.underlying3 (show DataW.trod _ Tryd.prog W 0 _ false m1 3 [c2] = some x2 from k2)
  have g0 : a0 = 100000 := by have := hx2.1; rw [f0'] at this; simpa using this
  have g1 : a1 = 10000 := by have := hx2.2.1; rw [f1] at this; simpa using this
  have g2 : a2 = 100000 := by have := hx2.2.2; rw [f2] at this; simpa using this
  subst g0 g1 g2
  simp only [List.cons.injEq, and_true] at e0 e1 e2
  subst e0 e1 e2
  have z0 := World.var?_cell hg0 hv0 0
  have z1 := World.var?_cell hg0 hv0 1
  have z2 := World.var?_cell hg0 hv0 2
  rw [← Array.getElem?_toList, hc] at z0 z1 z2
  refine ⟨?_, z0, z1, z2⟩
  apply Classical.byContradiction
  intro hn
  have hs : W.heap[0]? = none := Array.getElem?_eq_none (by omega)
  simp [World.cell?, hs] at z0
end Go.Proofs.YtcgdcocmnmkhlaaDoor
