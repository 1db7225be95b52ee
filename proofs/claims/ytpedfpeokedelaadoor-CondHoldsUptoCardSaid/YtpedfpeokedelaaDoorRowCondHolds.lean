/- CondHolds returns true for every two conditions and every tag: both hold as the document says. Conditions: what comes in is of bulk at most 1048576; the listed variables hold what the program lays. -/
import Derived.Test.YtpedfpeokedelaaDoorXCondHoldsx4
import Derived.Test.YtpedfpeokedelaaDoorPureCondHolds
import Derived.Test.YtpedfpeokedelaaDoorRt
import Derived.Test.YtpedfpeokedelaaDoorWi
import Derived.Test.YtpedfpeokedelaaDoorJo
import Derived.SevenTiedAt
import Derived.WalkKit
import Derived.ProofKit
import Derived.OpenShut
import Derived.ShutString
import Derived.ChangeOld
import Derived.Below
import Derived.SizedLaws
namespace Go.Proofs.YtpedfpeokedelaaDoor.condHolds
open Go.ChangeShapes Go.WideShapes Go.ChangeAt Go.RowKit Go.Joins
open Go.ChangeMaps (open_string shut_string)
open Go.Proofs.YtpedfpeokedelaaDoorW.PrintWords Go.Proofs.YtpedfpeokedelaaDoor.Rg
set_option linter.unusedVariables false
theorem own : ownKnob Tryd.prog.godebug = none := by kernel_rfl
theorem laidOut : laidOutB Tryd.prog = true := by kernel_rfl
set_option maxRecDepth 100000 in
theorem lifted (os : Os) (started : os.Started) (H : Type) (enc : TypeId × Value → H) (F : Stop.Interp) :
    ReturnsInHanded {} Tryd.checked os 13 .any ((Rows.OpenSpec.upto Rows.condHoldsSpec).preRow enc Tryd.prog Tryd.f13 Rows.condHoldsUptoRow.domain false Rows.condHoldsUptoRow.laid) (((Rows.OpenSpec.upto Rows.condHoldsSpec).at F).post enc Tryd.prog Tryd.f13 false true false false) := by
  refine returnsInHanded_of_row (C := Tryd.checked) (s := Rows.OpenSpec.upto Rows.condHoldsSpec) own started (by kernel_rfl) Tryd.func13
    (wit os #[.string ByteArray.empty, .string ByteArray.empty, .int .i64 0] (by kernel_rfl) (OpenSpec.preRow_of_cond 8 (x := ([.lit (.string []), .lit (.string []), .lit (.int .i64 0)], [], [])) (by kernel_rfl) (by kernel_rfl) (fun k hk => by cases hk; kernel_rfl) (by kernel_rfl) (met os _))) ?_
  intro W base args ds gs before hval0 hW _ hk0 _ hL _ _
  have hk : Rows.uptoSmall H (ds ++ gs) = true := hk0 _ rfl
  have hval : ∀ (j : Nat) t v, Tryd.f13.params[j]? = some t → args[j]? = some v → Value.okWide Tryd.prog W .any base t v := hval0
  have hW' := hW
  obtain ⟨p, q, hA0, hV, rfl, hfz, hnd⟩ := hW
  have hA : DataW.TrodAll enc Tryd.prog W 0 (fun _ => true) true Tryd.f13.params.toList args.toList ds p := hA0
  rw [Tryd.params13] at hA hval
  obtain ⟨v0, vs0, d0, ds0, p0, q0, hargs, rfl, rfl, h0, r0⟩ := trodAll_cons hA
  obtain ⟨v1, vs1, d1, ds1, p1, q1, rfl, rfl, rfl, h1, r1⟩ := trodAll_cons r0
  obtain ⟨v2, vs2, d2, ds2, p2, q2, rfl, rfl, rfl, h2, r2⟩ := trodAll_cons r1
  obtain ⟨rfl, rfl, rfl⟩ := trodAll_nil r2
  obtain rfl : args = #[v0, v1, v2] := by cases args; simp_all
  obtain ⟨rfl, rfl⟩ := trodVars_none hV
  have k0 := h0
  have lt0 : ∀ x ∈ p0, x.block < W.heap.size := by obtain ⟨m, hm⟩ := k0; exact DataW.trod_lt m _ _ _ hm
  have k1 := h1
  have lt1 : ∀ x ∈ p1, x.block < W.heap.size := by obtain ⟨m, hm⟩ := k1; exact DataW.trod_lt m _ _ _ hm
  have k2 := h2
  have lt2 : ∀ x ∈ p2, x.block < W.heap.size := by obtain ⟨m, hm⟩ := k2; exact DataW.trod_lt m _ _ _ hm
  have hbulk := bulks.bound hk
  simp only [List.append_nil, Rows.uptoBulkAll] at hbulk
  obtain ⟨a0, rfl, rfl, rfl, y0⟩ := open_string Tryd.underlying9 (hval 0 9 v0 rfl rfl) h0
  have z0 := bulks.string_eq (H := H) a0.data.toList
  rw [Array.length_toList] at z0
  have z0 : Rows.uptoBulk (DataW.lit (H := H) (.string a0.data.toList)) = a0.size + 1 := z0
  obtain ⟨a1, rfl, rfl, rfl, y1⟩ := open_string Tryd.underlying9 (hval 1 9 v1 rfl rfl) h1
  have z1 := bulks.string_eq (H := H) a1.data.toList
  rw [Array.length_toList] at z1
  have z1 : Rows.uptoBulk (DataW.lit (H := H) (.string a1.data.toList)) = a1.size + 1 := z1
  obtain ⟨a2, rfl, rfl, rfl, w2⟩ := open_int Tryd.underlying3 (hval 2 3 v2 rfl rfl) h2
  obtain ⟨kk, hkk⟩ := PureCondHolds.CondHolds a0 a1 a2 (by omega) (by omega)
  refine (XCondHolds.calepinlaw10_CondHolds.calls kk a0 a1 a2 true W (tabs_of hL) hkk).mono fun e W' ⟨he, bel⟩ => ?_
  subst he
  exact ⟨_, rfl, _, _, _, [], _, [], hW', trodAll_mk1 (shut_bool Tryd.underlying4 _), (trodAll_cons_mk (Below.trod laidOut (by kernel_rfl) (of_decide_eq_true (by kernel_rfl)) k0 bel lt0) (trodAll_cons_mk (Below.trod laidOut (by kernel_rfl) (of_decide_eq_true (by kernel_rfl)) k1 bel lt1) (trodAll_cons_mk (Below.trod laidOut (by kernel_rfl) (of_decide_eq_true (by kernel_rfl)) k2 bel lt2) trodAll_mk0))), rfl, bel.frame _, fun h => by cases h⟩
theorem j1 : (Rows.condHoldsUptoRow.inPlace == Tryd.pinned.checked.prog.inPlace 13) = true := by kernel_rfl
theorem j2 : (Rows.condHoldsUptoRow.unfollowed == Tryd.pinned.checked.prog.unfollowed 13) = true := by kernel_rfl
theorem j3 : (Rows.condHoldsUptoRow.recurses == Tryd.pinned.checked.prog.recurses 13) = true := by kernel_rfl
theorem j4 : (Rows.condHoldsUptoRow.named == Tryd.pinned.checked.prog.varsNamed 13) = true := by kernel_rfl
theorem closed : joinedFacts Tryd.pinned.checked.prog 13 Tryd.f13 (Rows.OpenSpec.upto Rows.condHoldsSpec).bare Rows.condHoldsUptoRow = true := by
  simp only [joinedFacts, Bool.and_eq_true]
  and_intros
  all_goals first
    | with_reducible exact Jo.laid
    | with_reducible exact Jo.maps
    | with_reducible exact Jo.heard
    | with_reducible exact Jo.enter
    | with_reducible exact j1
    | with_reducible exact j2
    | with_reducible exact j3
    | with_reducible exact j4
    | kernel_rfl
theorem said : Rows.CondHoldsUptoSaid :=
  OpenClaim.holds_of_cond 13 Tryd.f13 rfl rfl rfl rfl rfl rfl rfl ⟨rfl, rfl, rfl, rfl, rfl⟩ rfl rfl rfl rfl rfl (by kernel_rfl) Tryd.func13 closed
    (of_decide_eq_true (by kernel_rfl)) (by unfold Func.isWrapper; first | (rw [if_pos (by decide +kernel)]; kernel_rfl) | (rw [if_neg (by decide +kernel)]; exact ⟨rfl, rfl⟩))
    (fun os started H enc _ F => by rw [OpenClaim.pre_eq_preRow]; exact lifted os started H enc F)
theorem plain (f : FuncId) (fn : Func) (hf : Tryd.pinned.checked.prog.funcNamed "calepin/calepinlaw10.CondHolds" = some f) (hfn : Tryd.pinned.checked.prog.funcs[f]? = some fn) :
    true = Tryd.pinned.checked.prog.looks [] ∧ ∀ (j : Nat) t, fn.params[j]? = some t → Tryd.pinned.checked.prog.wantsStandIn t = false := by
  obtain rfl : f = 13 := Option.some.inj ((show Tryd.prog.funcNamed "calepin/calepinlaw10.CondHolds" = some 13 by kernel_rfl).symm.trans hf) |>.symm
  obtain rfl : fn = Tryd.f13 := (Option.some.inj (Tryd.func13.symm.trans hfn)).symm
  refine ⟨by kernel_rfl, fun j t ht => ?_⟩
  rw [Tryd.params13] at ht
  have hm := Array.mem_of_getElem? ht
  simp only [Array.mem_def, List.mem_cons, List.not_mem_nil, or_false] at hm
  rcases hm with rfl | rfl | rfl
  · exact (show Tryd.prog.wantsStandIn 9 = false by kernel_rfl)
  · exact (show Tryd.prog.wantsStandIn 9 = false by kernel_rfl)
  · exact (show Tryd.prog.wantsStandIn 3 = false by kernel_rfl)
end Go.Proofs.YtpedfpeokedelaaDoor.condHolds
namespace Go.Proofs.YtpedfpeokedelaaDoor
/-- The card, under a short name, for the claim. -/
theorem condHolds_card : Rows.CondHoldsUptoCardSaid :=
  Claim7.holds_tied_plain_at .later [] _ _ _ _ condHolds.said (fun _ h => by cases h) (by kernel_rfl) (fun _ h => by cases h) condHoldsUpto_row_tie rfl ⟨rfl, rfl⟩ (by kernel_rfl) rfl condHolds.plain (by kernel_rfl)
#print axioms condHolds_card
end Go.Proofs.YtpedfpeokedelaaDoor
