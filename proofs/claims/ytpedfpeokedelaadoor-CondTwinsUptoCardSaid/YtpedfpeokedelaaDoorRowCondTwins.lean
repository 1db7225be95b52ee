/- CondTwins returns true for every condition and every tag: the two conditions are each other's opposite. Conditions: what comes in is of bulk at most 1048576; the listed variables hold what the program lays. -/
import Derived.Test.YtpedfpeokedelaaDoorXCondTwinsx2
import Derived.Test.YtpedfpeokedelaaDoorPureCondTwins
import Derived.Test.YtpedfpeokedelaaDoorRt
import Derived.Test.YtpedfpeokedelaaDoorWi
import Derived.Test.YtpedfpeokedelaaDoorJo
import Derived.SevenTiedAt
import Derived.WalkKit
import Derived.ProofKit
import Derived.OpenShut
import Derived.ShutString
import Derived.ChangeOld
import Derived.Below
import Derived.SizedLaws
namespace Go.Proofs.YtpedfpeokedelaaDoor.condTwins
open Go.ChangeShapes Go.WideShapes Go.ChangeAt Go.RowKit Go.Joins
open Go.ChangeMaps (open_string shut_string)
open Go.Proofs.YtpedfpeokedelaaDoorW.PrintWords Go.Proofs.YtpedfpeokedelaaDoor.Rg
set_option linter.unusedVariables false
theorem own : ownKnob Tryd.prog.godebug = none := by kernel_rfl
theorem laidOut : laidOutB Tryd.prog = true := by kernel_rfl
set_option maxRecDepth 100000 in
theorem lifted (os : Os) (started : os.Started) (H : Type) (enc : TypeId × Value → H) (F : Stop.Interp) :
    ReturnsInHanded {} Tryd.checked os 14 .any ((Rows.OpenSpec.upto Rows.condTwinsSpec).preRow enc Tryd.prog Tryd.f14 Rows.condTwinsUptoRow.domain false Rows.condTwinsUptoRow.laid) (((Rows.OpenSpec.upto Rows.condTwinsSpec).at F).post enc Tryd.prog Tryd.f14 false true false false) := by
  refine returnsInHanded_of_row (C := Tryd.checked) (s := Rows.OpenSpec.upto Rows.condTwinsSpec) own started (by kernel_rfl) Tryd.func14
    (wit os #[.string ByteArray.empty, .int .i64 0] (by kernel_rfl) (OpenSpec.preRow_of_cond 8 (x := ([.lit (.string []), .lit (.int .i64 0)], [], [])) (by kernel_rfl) (by kernel_rfl) (fun k hk => by cases hk; kernel_rfl) (by kernel_rfl) (met os _))) ?_
  intro W base args ds gs before hval0 hW _ hk0 _ hL _ _
  have hk : Rows.uptoSmall H (ds ++ gs) = true := hk0 _ rfl
  have hval : ∀ (j : Nat) t v, Tryd.f14.params[j]? = some t → args[j]? = some v → Value.okWide Tryd.prog W .any base t v := hval0
  have hW' := hW
  obtain ⟨p, q, hA0, hV, rfl, hfz, hnd⟩ := hW
  have hA : DataW.TrodAll enc Tryd.prog W 0 (fun _ => true) true Tryd.f14.params.toList args.toList ds p := hA0
  rw [Tryd.params14] at hA hval
  obtain ⟨v0, vs0, d0, ds0, p0, q0, hargs, rfl, rfl, h0, r0⟩ := trodAll_cons hA
  obtain ⟨v1, vs1, d1, ds1, p1, q1, rfl, rfl, rfl, h1, r1⟩ := trodAll_cons r0
  obtain ⟨rfl, rfl, rfl⟩ := trodAll_nil r1
  obtain rfl : args = #[v0, v1] := by cases args; simp_all
  obtain ⟨rfl, rfl⟩ := trodVars_none hV
  have k0 := h0
  have lt0 : ∀ x ∈ p0, x.block < W.heap.size := by obtain ⟨m, hm⟩ := k0; exact DataW.trod_lt m _ _ _ hm
  have k1 := h1
  have lt1 : ∀ x ∈ p1, x.block < W.heap.size := by obtain ⟨m, hm⟩ := k1; exact DataW.trod_lt m _ _ _ hm
  have hbulk := bulks.bound hk
  simp only [List.append_nil, Rows.uptoBulkAll] at hbulk
  obtain ⟨a0, rfl, rfl, rfl, y0⟩ := open_string Tryd.underlying9 (hval 0 9 v0 rfl rfl) h0
  have z0 := bulks.string_eq (H := H) a0.data.toList
  rw [Array.length_toList] at z0
  have z0 : Rows.uptoBulk (DataW.lit (H := H) (.string a0.data.toList)) = a0.size + 1 := z0
  obtain ⟨a1, rfl, rfl, rfl, w1⟩ := open_int Tryd.underlying3 (hval 1 3 v1 rfl rfl) h1
  obtain ⟨kk, hkk⟩ := PureCondTwins.CondTwins a0 a1 (by omega)
  refine (XCondTwins.calepinlaw10_CondTwins.calls kk a0 a1 true W (tabs_of hL) hkk).mono fun e W' ⟨he, bel⟩ => ?_
  subst he
  exact ⟨_, rfl, _, _, _, [], _, [], hW', trodAll_mk1 (shut_bool Tryd.underlying4 _), (trodAll_cons_mk (Below.trod laidOut (by kernel_rfl) (of_decide_eq_true (by kernel_rfl)) k0 bel lt0) (trodAll_cons_mk (Below.trod laidOut (by kernel_rfl) (of_decide_eq_true (by kernel_rfl)) k1 bel lt1) trodAll_mk0)), rfl, bel.frame _, fun h => by cases h⟩
theorem j1 : (Rows.condTwinsUptoRow.inPlace == Tryd.pinned.checked.prog.inPlace 14) = true := by kernel_rfl
theorem j2 : (Rows.condTwinsUptoRow.unfollowed == Tryd.pinned.checked.prog.unfollowed 14) = true := by kernel_rfl
theorem j3 : (Rows.condTwinsUptoRow.recurses == Tryd.pinned.checked.prog.recurses 14) = true := by kernel_rfl
theorem j4 : (Rows.condTwinsUptoRow.named == Tryd.pinned.checked.prog.varsNamed 14) = true := by kernel_rfl
theorem closed : joinedFacts Tryd.pinned.checked.prog 14 Tryd.f14 (Rows.OpenSpec.upto Rows.condTwinsSpec).bare Rows.condTwinsUptoRow = true := by
  simp only [joinedFacts, Bool.and_eq_true]
  and_intros
  all_goals first
    | with_reducible exact Jo.laid
    | with_reducible exact Jo.maps
    | with_reducible exact Jo.heard
    | with_reducible exact Jo.enter
    | with_reducible exact j1
    | with_reducible exact j2
    | with_reducible exact j3
    | with_reducible exact j4
    | kernel_rfl
theorem said : Rows.CondTwinsUptoSaid :=
  OpenClaim.holds_of_cond 14 Tryd.f14 rfl rfl rfl rfl rfl rfl rfl ⟨rfl, rfl, rfl, rfl, rfl⟩ rfl rfl rfl rfl rfl (by kernel_rfl) Tryd.func14 closed
    (of_decide_eq_true (by kernel_rfl)) (by unfold Func.isWrapper; first | (rw [if_pos (by decide +kernel)]; kernel_rfl) | (rw [if_neg (by decide +kernel)]; exact ⟨rfl, rfl⟩))
    (fun os started H enc _ F => by rw [OpenClaim.pre_eq_preRow]; exact lifted os started H enc F)
theorem plain (f : FuncId) (fn : Func) (hf : Tryd.pinned.checked.prog.funcNamed "calepin/calepinlaw10.CondTwins" = some f) (hfn : Tryd.pinned.checked.prog.funcs[f]? = some fn) :
    true = Tryd.pinned.checked.prog.looks [] ∧ ∀ (j : Nat) t, fn.params[j]? = some t → Tryd.pinned.checked.prog.wantsStandIn t = false := by
  obtain rfl : f = 14 := Option.some.inj ((show Tryd.prog.funcNamed "calepin/calepinlaw10.CondTwins" = some 14 by kernel_rfl).symm.trans hf) |>.symm
  obtain rfl : fn = Tryd.f14 := (Option.some.inj (Tryd.func14.symm.trans hfn)).symm
  refine ⟨by kernel_rfl, fun j t ht => ?_⟩
  rw [Tryd.params14] at ht
  have hm := Array.mem_of_getElem? ht
  simp only [Array.mem_def, List.mem_cons, List.not_mem_nil, or_false] at hm
  rcases hm with rfl | rfl
  · exact (show Tryd.prog.wantsStandIn 9 = false by kernel_rfl)
  · exact (show Tryd.prog.wantsStandIn 3 = false by kernel_rfl)
end Go.Proofs.YtpedfpeokedelaaDoor.condTwins
namespace Go.Proofs.YtpedfpeokedelaaDoor
/-- The card, under a short name, for the claim. -/
theorem condTwins_card : Rows.CondTwinsUptoCardSaid :=
  Claim7.holds_tied_plain_at .later [] _ _ _ _ condTwins.said (fun _ h => by cases h) (by kernel_rfl) (fun _ h => by cases h) condTwinsUpto_row_tie rfl ⟨rfl, rfl⟩ (by kernel_rfl) rfl condTwins.plain (by kernel_rfl)
#print axioms condTwins_card
end Go.Proofs.YtpedfpeokedelaaDoor
