/- The engine, part 5: the values of operations are the model's. -/
import Derived.Test.YtcgdcocmnmkhlaaDoorE4
namespace Go.Eng

section
variable {P : Program} {G : Nat} {ρ : Ren} {s : S} {a : Act} {w : World}

theorem eval_of {x : Operand} {v : V} (h : View G ρ s a w) (e : look G s x = some v) : v.rel ρ (a.eval x) := look_rel h e

theorem run_loadVar_agg {t : TypeId} {d : TypeDesc} {i : TypeInfo} (hd : P.underlying t = some d) (hi : P.info? t = some i) (hg : isAggD d = true) {ad : Addr} {xs : List Value} (hl : xs.length = i.size)
    (hc : ∀ j v, xs[j]? = some v → w.cell? (ad.add j) = some v) : (loadVar t ad).run P w = .ok (.agg xs.toArray) w := by
  unfold loadVar
  simp only [Sem.run_bind, run_isAgg P hd, Result.andThen_ok, hg, if_true, run_sizeOf' P hi]
  rw [← hl, run_loadCells_list w ad xs hc]
  simp
theorem run_loadVar_one {t : TypeId} {d : TypeDesc} (hd : P.underlying t = some d) (hg : isAggD d = false) {ad : Addr} {x : Value} (hc : w.cell? ad = some x) : (loadVar t ad).run P w = .ok x w := by
  unfold loadVar
  simp only [Sem.run_bind, run_isAgg P hd, Result.andThen_ok, hg, Bool.false_eq_true, if_false]
  simp [run_load, hc]

theorem effV_binOp_div {o : Oper} {op : BinOp} {t yt : TypeId} {x y : Operand} (ho : o.op = .binOp op t x y yt) {k : IntKind} {m n : Int} {c : Value} (hx : a.eval x = .int k m) (hy : a.eval y = .int k n)
    (hc : (Op.intDiv op k m n).run P w = .ok c w) (hop : op = .quo ∨ op = .rem) : (execOp a.eval o).run P w = .ok (.value c) w := by
  rcases hop with rfl | rfl <;> simp [execOp, ho, hx, hy, eqGuard_at_int, binOp_quo, binOp_rem, hc]

theorem effV_sound (h : View G ρ s a w) {o : Oper} {v : V} {p : List Prop} (e : effV P G o s = some (v, p)) (hp : All p) :
    ∃ x, (execOp a.eval o).run P w = .ok (.value x) w ∧ v.rel ρ x := by
  have pure_case : (∀ cs b, o.op ≠ .select cs b) → (match effPure P G o s with | some v => some (v, []) | none => none) = some (v, p) → ∃ x, (execOp a.eval o).run P w = .ok (.value x) w ∧ v.rel ρ x := by
    intro hs e
    split at e
    · rename_i v' hv
      simp at e; obtain ⟨rfl, _⟩ := e
      exact effPure_sound P G h hs hv
    · cases e
  unfold effV at e
  split at e
  case h_1 x ho =>
    split at e
    · rename_i v' hv
      simp at e; obtain ⟨rfl, _⟩ := e
      exact ⟨a.eval x, by simp [execOp, ho], look_rel h hv⟩
    · cases e
  case h_2 x ho =>
    split at e
    · rename_i v' hv
      simp at e; obtain ⟨rfl, _⟩ := e
      exact ⟨a.eval x, by simp [execOp, ho], look_rel h hv⟩
    · cases e
  case h_3 c x y ho =>
    split at e
    · rename_i hc
      have hcv : a.eval c = .bool true := look_rel h hc
      split at e
      · rename_i v' hv
        simp at e; obtain ⟨rfl, _⟩ := e
        exact ⟨a.eval x, by simp [execOp, ho, hcv, asBool], look_rel h hv⟩
      · cases e
    · rename_i hc
      have hcv : a.eval c = .bool false := look_rel h hc
      split at e
      · rename_i v' hv
        simp at e; obtain ⟨rfl, _⟩ := e
        exact ⟨a.eval y, by simp [execOp, ho, hcv, asBool], look_rel h hv⟩
      · cases e
    · cases e
  case h_4 t i ho =>
    split at e
    · rename_i xs hx
      obtain ⟨ys, hf, hy⟩ := look_rel h hx
      split at e
      · rename_i c hc
        simp at e; obtain ⟨rfl, _⟩ := e
        obtain ⟨z, hz, hr⟩ := f2_get hf hc
        exact ⟨z, by simp [execOp, ho, hy, Instr.extract, hz], hr⟩
      · cases e
    · cases e
  case h_5 t x f ho =>
    split at e
    · rename_i cs fs hx hu
      obtain ⟨xs, hf, hv⟩ := look_rel h hx
      split at e
      · rename_i fd hfd
        split at e
        · rename_i q hq
          simp at e; obtain ⟨rfl, _⟩ := e
          obtain ⟨z, hz, hr⟩ := partA_sound P hq hf w
          exact ⟨z, by simp [execOp, ho, hv, Instr.field, run_underlying hu, hfd, asAgg, hz], hr⟩
        · cases e
      · cases e
    · cases e
  case h_6 t x f ho =>
    split at e
    · rename_i m off fs hx hu
      obtain ⟨b, hb, hv⟩ := look_rel h hx
      split at e
      · rename_i fd hfd
        split at e
        · rename_i i hi
          split at e
          · cases e
          · rename_i hsz
            simp at e; obtain ⟨rfl, _⟩ := e
            have hne : i.size ≠ 0 := fun h0 => by rw [h0] at hsz; simp at hsz
            refine ⟨_, ?_, b, hb, rfl⟩
            simp [execOp, ho, hv, Instr.fieldAt, run_underlying hu, hfd, Instr.sureAddr, fieldPlace, run_sizeOf' P hi, hne, Addr.add_lit]
        · cases e
      · cases e
    · cases e
  case h_7 t x ix ho =>
    split at e
    · rename_i m off k n len el hx hix hu
      obtain ⟨b, hb, hv⟩ := look_rel h hx
      have hn : a.eval ix = .int k n := look_rel h hix
      split at e
      · rename_i i hi hd
        simp at e; obtain ⟨rfl, _⟩ := e
        have hd' := of_decide_eq_true hd
        refine ⟨_, ?_, b, hb, rfl⟩
        simp [execOp, ho, hv, hn, Instr.indexAt, asIntOf, run_underlying hu, Instr.sureAddr, hd', run_sizeOf' P hi, Addr.add_lit]
      · cases e
    · rename_i m off len cap k n el hx hix hu
      obtain ⟨b, hb, hv⟩ := look_rel h hx
      have hn : a.eval ix = .int k n := look_rel h hix
      split at e
      · rename_i i hi hd
        simp at e; obtain ⟨rfl, _⟩ := e
        have hd' := of_decide_eq_true hd
        refine ⟨_, ?_, b, hb, rfl⟩
        simp [execOp, ho, hv, hn, Instr.indexAt, asIntOf, run_underlying hu, hd', run_sizeOf' P hi, Addr.add_lit]
      · cases e
    · cases e
  case h_8 t x ho =>
    split at e
    · rename_i m off d i hx hd hi
      obtain ⟨b, hb, hv⟩ := look_rel h hx
      split at e
      · rename_i k hk
        obtain ⟨b', hb', hlt, hrel⟩ := h.hp m k hk
        simp only at hb
        rw [hb] at hb'; cases hb'
        split at e
        · rename_i hg
          split at e
          · rename_i cs hcs
            simp at e; obtain ⟨rfl, _⟩ := e
            obtain ⟨xs, hf, hl, hc⟩ := readN_sound hrel hcs
            refine ⟨.agg xs.toArray, ?_, xs, hf, rfl⟩
            simp [execOp, ho, hv, Instr.loadAt, Instr.sureAddr, run_loadVar_agg hd hi hg hl hc]
          · cases e
        · rename_i hg
          split at e
          · rename_i c hc
            simp at e; obtain ⟨rfl, _⟩ := e
            obtain ⟨z, hz, hcell⟩ := Blk.rel_cell hrel hc
            refine ⟨z, ?_, hz⟩
            simp [execOp, ho, hv, Instr.loadAt, Instr.sureAddr, run_loadVar_one hd hg hcell]
          · cases e
      · cases e
    · cases e
  case h_9 t parts ho =>
    split at e
    · rename_i q hq
      simp at e; obtain ⟨rfl, _⟩ := e
      obtain ⟨z, hz, hr⟩ := buildA_sound P G h hq
      exact ⟨z, by simp [execOp, ho, hz], hr⟩
    · cases e
  case h_10 x ho =>
    split at e
    · rename_i m off hx
      simp at e; obtain ⟨rfl, _⟩ := e
      obtain ⟨b, hb, hv⟩ := look_rel h hx
      exact ⟨_, by simp [execOp, ho, hv], b, hb, rfl⟩
    · cases e
  case h_11 op t x y yt ho =>
    have hs : ∀ cs b, o.op ≠ .select cs b := by simp [ho]
    split at e
    · rename_i xs ys hx hy
      have hvx := look_rel h hx
      have hvy := look_rel h hy
      split at e
      · rename_i r hg he
        simp at e; obtain ⟨rfl, _⟩ := e
        have hrun := eqT_sound P w _ _ _ _ _ _ _ he hvx hvy
        obtain ⟨us, _, hux⟩ := hvx
        obtain ⟨vs, _, huy⟩ := hvy
        refine ⟨.bool r, ?_, rfl⟩
        rw [hux, huy] at hrun
        simp only [execOp, ho, hux, huy, Sem.run_bind, run_eqGuard_agg w _ _ _ _ _ _ hg, Result.andThen_ok, run_eql_struct, hrun, Sem.run_pure]
      · rename_i r hg he
        simp at e; obtain ⟨rfl, _⟩ := e
        have hrun := eqT_sound P w _ _ _ _ _ _ _ he hvx hvy
        obtain ⟨us, _, hux⟩ := hvx
        obtain ⟨vs, _, huy⟩ := hvy
        refine ⟨.bool (!r), ?_, rfl⟩
        rw [hux, huy] at hrun
        simp only [execOp, ho, hux, huy, Sem.run_bind, run_eqGuard_agg w _ _ _ _ _ _ hg, Result.andThen_ok, run_neq_struct, hrun, Sem.run_pure]
      · cases e
    · rename_i c k' n hx hy
      have hvy : a.eval y = .int k' n := look_rel h hy
      split at e
      · rename_i k m hm
        split at e
        · rename_i hk
          simp only [Option.some.injEq, Prod.mk.injEq] at e; obtain ⟨rfl, rfl⟩ := e
          replace hp := hp.1
          have hk' := of_decide_eq_true hk; subst hk'
          have hvx : a.eval x = .int k m := C.val_rel hm (look_rel h hx)
          refine ⟨_, effV_binOp_div ho hvx hvy ?_ (.inl rfl), rfl⟩
          simp [Op.intDiv, hp]
        · cases e
      · rename_i k m hm
        split at e
        · rename_i hk
          simp only [Option.some.injEq, Prod.mk.injEq] at e; obtain ⟨rfl, rfl⟩ := e
          replace hp := hp.1
          have hk' := of_decide_eq_true hk; subst hk'
          have hvx : a.eval x = .int k m := C.val_rel hm (look_rel h hx)
          refine ⟨_, effV_binOp_div ho hvx hvy ?_ (.inr rfl), rfl⟩
          simp [Op.intDiv, hp]
        · cases e
      · rename_i k m hm
        simp only [Option.some.injEq, Prod.mk.injEq] at e; obtain ⟨rfl, rfl⟩ := e
        replace hp := hp.1
        have hvx : a.eval x = .int k m := C.val_rel hm (look_rel h hx)
        refine ⟨_, ?_, rfl⟩
        have : ¬ n < 0 := by omega
        simp [execOp, ho, hvx, hvy, eqGuard_at_int, binOp_shl, Op.shift, this]
      · rename_i k m hm
        simp only [Option.some.injEq, Prod.mk.injEq] at e; obtain ⟨rfl, rfl⟩ := e
        replace hp := hp.1
        have hvx : a.eval x = .int k m := C.val_rel hm (look_rel h hx)
        refine ⟨_, ?_, rfl⟩
        have : ¬ n < 0 := by omega
        simp [execOp, ho, hvx, hvy, eqGuard_at_int, binOp_shr, Op.shift, this]
      · exact pure_case hs e
    · exact pure_case hs e
  case h_12 f first caps ho =>
    split at e
    · rename_i ps hfirst hps
      split at e
      · rename_i l hl
        simp at e; obtain ⟨rfl, _⟩ := e
        have := ptrs_rel hl (lookAll_rel G h hps)
        have hf0 : first = #[] := by cases first; simp_all
        refine ⟨.func (.func f) #[] (caps.map a.eval), ?_, caps.toList.map a.eval, this, ?_⟩
        · simp [execOp, ho, Instr.makeFunc, hf0]
        · congr 1; apply Array.ext'; simp
      · cases e
    · cases e
  case h_13 c ho =>
    have hs : ∀ cs b, o.op ≠ .select cs b := by simp [ho]
    split at e
    · rename_i x hcal hargs
      have ha : c.args = #[x] := by apply Array.ext'; simpa using hargs
      split at e
      · rename_i m off len cap t hx ht
        split at e
        · rename_i el hu
          simp at e; obtain ⟨rfl, _⟩ := e
          obtain ⟨b, hb, hv⟩ := look_rel h hx
          have hat : c.argTypes = #[t] := by apply Array.ext'; simpa using ht
          refine ⟨.int .i64 len, ?_, rfl⟩
          simp [execOp, ho, resolve, hcal, ha, hv, invoke, builtin, Builtin.len_, hat, run_underlying hu, goInt]
        · cases e
      · rename_i m len t hx ht
        split at e
        · rename_i el hu
          simp at e; obtain ⟨rfl, _⟩ := e
          obtain ⟨b, hb, hv⟩ := look_rel h hx
          have hat : c.argTypes = #[t] := by apply Array.ext'; simpa using ht
          refine ⟨.int .i64 len, ?_, rfl⟩
          simp [execOp, ho, resolve, hcal, ha, hv, invoke, builtin, Builtin.len_, hat, run_underlying hu, goInt]
        · cases e
      · exact pure_case hs e
    · exact pure_case hs e
    · cases e
  case h_14 ho => exact pure_case (by simp [ho]) e
  case h_15 ho => exact pure_case (by simp [ho]) e
  case h_16 ho => exact pure_case (by simp [ho]) e
  case h_17 ho => exact pure_case (by simp [ho]) e
  case h_18 => cases e
end
end Go.Eng
