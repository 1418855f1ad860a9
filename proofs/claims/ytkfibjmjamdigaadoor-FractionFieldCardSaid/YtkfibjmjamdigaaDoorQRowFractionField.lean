/- Whatever the input: FractionField returns true, and the input reads afterwards as it read before (the row lists three tables of the library; the card ties them to the program's text). No further condition. -/
import Derived.Test.YtkfibjmjamdigaaDoorQLaid
import Derived.Test.YtkfibjmjamdigaaDoorQF4
import Derived.Test.YtkfibjmjamdigaaDoorQPureFractionField
import Derived.ShutString
import Derived.SizedLaws
import Derived.ChangeOld
import Derived.Below
import Derived.SevenTiedAt
namespace Go.Proofs.YtkfibjmjamdigaaDoor.fractionField
open Go.ChangeShapes Go.WideShapes Go.ChangeAt Go.RowKit Go.Proofs.YtkfibjmjamdigaaDoor.Q
open Go.ChangeMaps (open_string shut_string)
open Go.Joins (open_agg2)
set_option linter.unusedVariables false
theorem cells23 : Tryd.prog.cellsOf 23 = 2 := by kernel_rfl
set_option maxRecDepth 100000 in
theorem contract (H : Type) (enc : TypeId × Value → H) (W : World) (base : Nat) (args : Array Value) (ds gs : List (DataW H)) (before : List MemPlace)
    (hval : ∀ (j : Nat) t v, Tryd.f4.params[j]? = some t → args[j]? = some v → Value.okWide Tryd.prog W .any base t v)
    (hW : DataW.Whole enc Tryd.prog Tryd.f4.params.toList Rows.fractionFieldSpec.vars false W args.toList ds gs before) (hL : laidMetH Tryd.prog Rows.fractionFieldRow.laid W) :
    Calls Tryd.prog 4 args W fun e W' => ∃ v, e = .returned v ∧ Rows.fractionFieldSpec.post enc Tryd.prog Tryd.f4 false true false false W args v W' := by
  have hW' := hW
  obtain ⟨p, q, hA0, hV, rfl, hfz, hnd⟩ := hW
  have hA : DataW.TrodAll enc Tryd.prog W 0 (fun _ => true) true Tryd.f4.params.toList args.toList ds p := hA0
  rw [Tryd.params4] at hA hval
  obtain ⟨v0, vs0, d0, ds0, p0, q0, hargs, rfl, rfl, h0, r0⟩ := trodAll_cons hA
  obtain ⟨v1, vs1, d1, ds1, p1, q1, rfl, rfl, rfl, h1, r1⟩ := trodAll_cons r0
  obtain ⟨v2, vs2, d2, ds2, p2, q2, rfl, rfl, rfl, h2, r2⟩ := trodAll_cons r1
  obtain ⟨rfl, rfl, rfl⟩ := trodAll_nil r2
  obtain rfl : args = #[v0, v1, v2] := by cases args; simp_all
  obtain ⟨rfl, rfl⟩ := trodVars_none hV
  have k0 := h0
  have lt0 : ∀ x ∈ p0, x.block < W.heap.size := by obtain ⟨m, hm⟩ := k0; exact DataW.trod_lt m _ _ _ hm
  obtain ⟨c0, e0, y0, z0, m0, rfl, hd0, hp0, hy0, hz0⟩ := open_agg2 Tryd.underlying23 (by kernel_rfl) cells23 (hval 0 23 v0 rfl rfl) h0
  obtain ⟨a0, g0, _, wa0⟩ := DataW.trod_int Tryd.underlying3 hy0
  obtain ⟨b0, l0, _, wb0⟩ := DataW.trod_int Tryd.underlying3 hz0
  simp only [List.cons.injEq, and_true] at g0 l0
  subst g0 l0
  have k1 := h1
  have lt1 : ∀ x ∈ p1, x.block < W.heap.size := by obtain ⟨m, hm⟩ := k1; exact DataW.trod_lt m _ _ _ hm
  obtain ⟨c1, e1, y1, z1, m1, rfl, hd1, hp1, hy1, hz1⟩ := open_agg2 Tryd.underlying23 (by kernel_rfl) cells23 (hval 1 23 v1 rfl rfl) h1
  obtain ⟨a1, g1, _, wa1⟩ := DataW.trod_int Tryd.underlying3 hy1
  obtain ⟨b1, l1, _, wb1⟩ := DataW.trod_int Tryd.underlying3 hz1
  simp only [List.cons.injEq, and_true] at g1 l1
  subst g1 l1
  have k2 := h2
  have lt2 : ∀ x ∈ p2, x.block < W.heap.size := by obtain ⟨m, hm⟩ := k2; exact DataW.trod_lt m _ _ _ hm
  obtain ⟨c2, e2, y2, z2, m2, rfl, hd2, hp2, hy2, hz2⟩ := open_agg2 Tryd.underlying23 (by kernel_rfl) cells23 (hval 2 23 v2 rfl rfl) h2
  obtain ⟨a2, g2, _, wa2⟩ := DataW.trod_int Tryd.underlying3 hy2
  obtain ⟨b2, l2, _, wb2⟩ := DataW.trod_int Tryd.underlying3 hz2
  simp only [List.cons.injEq, and_true] at g2 l2
  subst g2 l2
  obtain ⟨k, hk⟩ := pure_FractionField a0 b0 a1 b1 a2 b2 wa0 wb0 wa1 wb1 wa2 wb2
  refine (assessorlaw46_FractionField.calls k a0 b0 a1 b1 a2 b2 true W ⟨rfl⟩ (tab_of_laid hL) hk).mono fun e W' ⟨he, bel⟩ => ?_
  subst he
  exact ⟨_, rfl, _, _, _, [], _, [], hW', trodAll_mk1 (shut_bool Tryd.underlying4 _), (trodAll_cons_mk (Below.trod laidOut (by kernel_rfl) (of_decide_eq_true (by kernel_rfl)) k0 bel lt0) (trodAll_cons_mk (Below.trod laidOut (by kernel_rfl) (of_decide_eq_true (by kernel_rfl)) k1 bel lt1) (trodAll_cons_mk (Below.trod laidOut (by kernel_rfl) (of_decide_eq_true (by kernel_rfl)) k2 bel lt2) trodAll_mk0))), rfl, bel.frame _, fun h => by cases h⟩
theorem reads (os : Os) {H : Type} (enc : TypeId × Value → H) : ∃ places, DataW.whole enc Tryd.prog ((laidWorld os).forCall (fun _ _ => 0) ⟨#[], #[Value.agg #[.int .i64 0, .int .i64 0], Value.agg #[.int .i64 0, .int .i64 0], Value.agg #[.int .i64 0, .int .i64 0]], []⟩).memory Tryd.f4.params.toList Rows.fractionFieldSpec.vars false (#[Value.agg #[.int .i64 0, .int .i64 0], Value.agg #[.int .i64 0, .int .i64 0], Value.agg #[.int .i64 0, .int .i64 0]] : Array Value).toList 8 = some ([DataW.agg [.lit (.int .i64 0), .lit (.int .i64 0)], DataW.agg [.lit (.int .i64 0), .lit (.int .i64 0)], DataW.agg [.lit (.int .i64 0), .lit (.int .i64 0)]], [], places) :=
  ⟨[], by kernel_rfl⟩
set_option maxRecDepth 100000 in
theorem lifted (os : Os) (started : os.Started) (H : Type) (enc : TypeId × Value → H) (F : Stop.Interp) :
    ReturnsInHanded {} Tryd.checked os 4 .any ((OpenSpec.ofChange Rows.fractionFieldSpec).preRow enc Tryd.prog Tryd.f4 Rows.fractionFieldRow.domain false Rows.fractionFieldRow.laid) (((OpenSpec.ofChange Rows.fractionFieldSpec).at F).post enc Tryd.prog Tryd.f4 false true false false) := by
  obtain ⟨places, hx⟩ := reads os enc
  refine returnsInHanded_of_row (C := Tryd.checked) (s := OpenSpec.ofChange Rows.fractionFieldSpec) own started (by kernel_rfl) Tryd.func4
    (witness_row_at (enc := enc) (C := Tryd.checked) false (laidWorld os) #[Value.agg #[.int .i64 0, .int .i64 0], Value.agg #[.int .i64 0, .int .i64 0], Value.agg #[.int .i64 0, .int .i64 0]] rfl (by kernel_rfl) (by kernel_rfl) (by kernel_rfl)
      (OpenSpec.preRow_of_cond 8 hx (by kernel_rfl) (fun k hk => by cases hk) (by kernel_rfl) (laid_met os _))) ?_
  intro W base args ds gs before hval hW _ _ _ hL _ _
  exact contract H enc W base args ds gs before hval hW hL
theorem said : Rows.FractionFieldSaid :=
  OpenClaim.holds_of_cond 4 Tryd.f4 rfl rfl rfl rfl rfl rfl rfl ⟨rfl, rfl, rfl, rfl, rfl⟩ rfl rfl rfl rfl rfl (by kernel_rfl) Tryd.func4 (by kernel_rfl)
    (of_decide_eq_true (by kernel_rfl)) (by unfold Func.isWrapper; first | (rw [if_pos (by decide +kernel)]; kernel_rfl) | (rw [if_neg (by decide +kernel)]; exact ⟨rfl, rfl⟩))
    (fun os started H enc _ F => by rw [OpenClaim.pre_eq_preRow]; exact lifted os started H enc F)
theorem plain (f : FuncId) (fn : Func) (hf : Tryd.pinned.checked.prog.funcNamed "assessor/assessorlaw46.FractionField" = some f) (hfn : Tryd.pinned.checked.prog.funcs[f]? = some fn) :
    true = Tryd.pinned.checked.prog.looks [] ∧ ∀ (j : Nat) t, fn.params[j]? = some t → Tryd.pinned.checked.prog.wantsStandIn t = false := by
  obtain rfl : f = 4 := Option.some.inj ((show Tryd.prog.funcNamed "assessor/assessorlaw46.FractionField" = some 4 by kernel_rfl).symm.trans hf) |>.symm
  obtain rfl : fn = Tryd.f4 := (Option.some.inj (Tryd.func4.symm.trans hfn)).symm
  refine ⟨by kernel_rfl, fun j t ht => ?_⟩
  rw [Tryd.params4] at ht
  have hm : t ∈ [23] := by simpa using Array.mem_of_getElem? ht
  have hall : ([23].all fun u => !Tryd.prog.wantsStandIn u) = true := by kernel_rfl
  exact (show Tryd.prog.wantsStandIn t = false by simpa using List.all_eq_true.1 hall t hm)
theorem card : Rows.FractionFieldCardSaid :=
  Claim7.holds_tied_plain_at .later [] _ _ _ _ said (fun _ h => by cases h) (by kernel_rfl) (fun _ h => by cases h) fractionField_row_tie rfl ⟨rfl, rfl⟩ (by kernel_rfl) rfl plain (by kernel_rfl)
end Go.Proofs.YtkfibjmjamdigaaDoor.fractionField
namespace Go.Proofs.YtkfibjmjamdigaaDoor
/-- The card, under a short name, for the claim. -/
theorem fractionField_card_holds : Rows.FractionFieldCardSaid := fractionField.card
#print axioms fractionField_card_holds
end Go.Proofs.YtkfibjmjamdigaaDoor

