/- HttpFields returns true for every request, place and padding: fields come through in order, however blanks stand around their values. Condition: the listed variables hold what the program lays. -/
import Derived.Test.YtpedfpeokedelaaDoorXHttpFieldsx7
import Derived.Test.YtpedfpeokedelaaDoorPureHttpFields
import Derived.Test.YtpedfpeokedelaaDoorRtz
import Derived.Test.YtpedfpeokedelaaDoorWi
import Derived.Test.YtpedfpeokedelaaDoorLm
import Derived.Test.YtpedfpeokedelaaDoorJo
import Derived.SevenTiedAt
import Derived.WalkKit
import Derived.ProofKit
import Derived.OpenShut
import Derived.ShutString
import Derived.ChangeOld
import Derived.Below
import Derived.SizedLaws
namespace Go.Proofs.YtpedfpeokedelaaDoor.httpFields
open Go.ChangeShapes Go.WideShapes Go.ChangeAt Go.RowKit Go.Joins
open Go.ChangeMaps (open_string shut_string)
open Go.Proofs.YtpedfpeokedelaaDoorW.PrintWords Go.Proofs.YtpedfpeokedelaaDoor.Rz
set_option linter.unusedVariables false
theorem own : ownKnob Tryd.prog.godebug = none := by kernel_rfl
theorem laidOut : laidOutB Tryd.prog = true := by kernel_rfl
set_option maxHeartbeats 2000000 in
set_option maxRecDepth 100000 in
theorem lifted (os : Os) (started : os.Started) (H : Type) (enc : TypeId × Value → H) (F : Stop.Interp) :
    ReturnsInHanded {} Tryd.checked os 18 .any ((OpenSpec.ofChange Rows.httpFieldsSpec).preRow enc Tryd.prog Tryd.f18 Rows.httpFieldsRow.domain false Rows.httpFieldsRow.laid) (((OpenSpec.ofChange Rows.httpFieldsSpec).at F).post enc Tryd.prog Tryd.f18 false true false false) := by
  refine returnsInHanded_of_row (C := Tryd.checked) (s := OpenSpec.ofChange Rows.httpFieldsSpec) own started (by kernel_rfl) Tryd.func18
    (wit os #[.agg #[.string ByteArray.empty, .string ByteArray.empty, .slice none 0 0, .string ByteArray.empty], .int .i64 0, .slice none 0 0] (by kernel_rfl) (OpenSpec.preRow_of_cond 8 (x := ([.agg [.lit (.string []), .lit (.string []), .nil, .lit (.string [])], .lit (.int .i64 0), .nil], [], [])) (by kernel_rfl) (by kernel_rfl) (fun k hk => by cases hk) (by kernel_rfl) (met os _))) ?_
  intro W base args ds gs before hval0 hW _ _ hsz0 hL hSh _
  have hsz : (DataW.weightsEach Tryd.prog (Tryd.f18.params.toList ++ Rows.httpFieldsSpec.plain.varTypes Tryd.prog) (ds ++ gs)).all (· ≤ reachBytes) = true := hsz0
  have hval : ∀ (j : Nat) t v, Tryd.f18.params[j]? = some t → args[j]? = some v → Value.okWide Tryd.prog W .any base t v := hval0
  have hW' := hW
  obtain ⟨p, q, hA0, hV, rfl, hfz, hnd⟩ := hW
  have hA : DataW.TrodAll enc Tryd.prog W 0 (fun _ => true) true Tryd.f18.params.toList args.toList ds p := hA0
  rw [Tryd.params18] at hA hval hsz
  obtain ⟨v0, vs0, d0, ds0, p0, q0, hargs, rfl, rfl, h0, r0⟩ := trodAll_cons hA
  obtain ⟨v1, vs1, d1, ds1, p1, q1, rfl, rfl, rfl, h1, r1⟩ := trodAll_cons r0
  obtain ⟨v2, vs2, d2, ds2, p2, q2, rfl, rfl, rfl, h2, r2⟩ := trodAll_cons r1
  obtain ⟨rfl, rfl, rfl⟩ := trodAll_nil r2
  obtain rfl : args = #[v0, v1, v2] := by cases args; simp_all
  obtain ⟨rfl, rfl⟩ := trodVars_none hV
  have k0 := h0
  have lt0 : ∀ x ∈ p0, x.block < W.heap.size := by obtain ⟨m, hm⟩ := k0; exact DataW.trod_lt m _ _ _ hm
  have k1 := h1
  have lt1 : ∀ x ∈ p1, x.block < W.heap.size := by obtain ⟨m, hm⟩ := k1; exact DataW.trod_lt m _ _ _ hm
  have k2 := h2
  have lt2 : ∀ x ∈ p2, x.block < W.heap.size := by obtain ⟨m, hm⟩ := k2; exact DataW.trod_lt m _ _ _ hm
  have e0 := sized_each hsz (j := 0) (t := 65) rfl rfl
  have e2 := sized_each hsz (j := 2) (t := 68) rfl rfl
  obtain ⟨cs0, rfl, hz0⟩ := okWide_struct Tryd.underlying65 (hval 0 65 v0 rfl rfl)
  obtain ⟨fuel0, hf0⟩ := h0
  obtain ⟨u0, hK0, hok0⟩ := rd65.read _ _ _ hf0 e0
  obtain ⟨A0, c0, hcs0, hl0, hC0⟩ := open65 hK0
  obtain ⟨cs0⟩ := cs0
  have hcs0 : cs0 = _ := hcs0
  subst hcs0
  obtain ⟨b0_0, b0_1, l0, b0_3⟩ := u0
  obtain ⟨o0_0, o0_1, o0_2, o0_3⟩ := hok0
  have q0 := o0_2.1
  obtain ⟨m0, em0⟩ : ∃ m : List XHttpFields.S74, m = l0.map (fun p => (⟨p.1, p.2⟩ : XHttpFields.S74)) := ⟨_, rfl⟩
  have hm0 : Kd.C XHttpFields.k74 W A0 m0.length m0 := by rw [em0]; exact C_iso_map (fun x : XHttpFields.S74 => (x.f0, x.f1)) (fun p => (⟨p.1, p.2⟩ : XHttpFields.S74)) (fun _ => rfl) hC0
  have el0 : l0.length = m0.length := by rw [em0, List.length_map]
  have f0 : ∀ x ∈ m0, x.f0.size ≤ 140737488351232 := by
    intro x hx
    rw [em0] at hx
    obtain ⟨y, hy, rfl⟩ := List.mem_map.1 hx
    exact (o0_2.2 y hy).1
  have v0f : ∀ x ∈ m0, x.f1.size ≤ 140737488351232 := by
    intro x hx
    rw [em0] at hx
    obtain ⟨y, hy, rfl⟩ := List.mem_map.1 hx
    exact (o0_2.2 y hy).2
  change l0.length ≤ c0 at hl0
  change l0.length * 32 ≤ _ at q0
  rw [el0] at q0
  have g0 : b0_0.size ≤ 140737488351232 ∧ b0_1.size ≤ 140737488351232 ∧ b0_3.size ≤ 140737488351232 := ⟨o0_0, o0_1, o0_3⟩
  have n0 : m0.length * 32 ≤ 140737488351232 ∧ (∀ x ∈ m0, x.f0.size ≤ 140737488351232) ∧ ∀ x ∈ m0, x.f1.size ≤ 140737488351232 := ⟨q0, f0, v0f⟩
  obtain ⟨a1, rfl, rfl, rfl, w1⟩ := open_int Tryd.underlying3 (hval 1 3 v1 rfl rfl) h1
  obtain ⟨Aa2, len2, cap2, rfl⟩ := okWide_slice Tryd.underlying68 (hval 2 68 v2 rfl rfl)
  obtain ⟨fuel2, hf2⟩ := h2
  obtain ⟨l2, ⟨A2, c2, hcs2, hl2, hC2⟩, hok2⟩ := rd68.read _ _ _ hf2 e2
  have hcs2 := (List.cons.inj hcs2).1
  obtain ⟨rfl, rfl, rfl⟩ := Value.slice.inj hcs2
  have n2 := hok2
  obtain ⟨kk, hkk⟩ := PureHttpFields.HttpFields b0_0 b0_1 m0 b0_3 a1 l2 g0 n0 w1 n2
  have hcall := XHttpFields.calepinlaw08_HttpFields.calls kk b0_0 b0_1 A0 c0 m0 b0_3 a1 Aa2 cap2 l2 true W hm0 (by rw [← el0]; exact hl0) hC2 hl2 (laidM_of hL hSh) hkk
  rw [← el0] at hcall
  refine hcall.mono fun e W' ⟨he, bel⟩ => ?_
  subst he
  exact ⟨_, rfl, _, _, _, [], _, [], hW', trodAll_mk1 (shut_bool Tryd.underlying4 _), (trodAll_cons_mk (Below.trod laidOut (by kernel_rfl) (of_decide_eq_true (by kernel_rfl)) k0 bel lt0) (trodAll_cons_mk (Below.trod laidOut (by kernel_rfl) (of_decide_eq_true (by kernel_rfl)) k1 bel lt1) (trodAll_cons_mk (Below.trod laidOut (by kernel_rfl) (of_decide_eq_true (by kernel_rfl)) k2 bel lt2) trodAll_mk0))), rfl, bel.frame _, fun h => by cases h⟩
theorem j1 : (Rows.httpFieldsRow.inPlace == Tryd.pinned.checked.prog.inPlace 18) = true := by kernel_rfl
theorem j2 : (Rows.httpFieldsRow.unfollowed == Tryd.pinned.checked.prog.unfollowed 18) = true := by kernel_rfl
theorem j3 : (Rows.httpFieldsRow.recurses == Tryd.pinned.checked.prog.recurses 18) = true := by kernel_rfl
theorem j4 : (Rows.httpFieldsRow.named == Tryd.pinned.checked.prog.varsNamed 18) = true := by kernel_rfl
theorem closed : joinedFacts Tryd.pinned.checked.prog 18 Tryd.f18 (OpenSpec.ofChange Rows.httpFieldsSpec).bare Rows.httpFieldsRow = true := by
  simp only [joinedFacts, Bool.and_eq_true]
  and_intros
  all_goals first
    | with_reducible exact Jo.laid
    | with_reducible exact Jo.maps
    | with_reducible exact Jo.heard
    | with_reducible exact Jo.enter
    | with_reducible exact j1
    | with_reducible exact j2
    | with_reducible exact j3
    | with_reducible exact j4
    | kernel_rfl
theorem said : Rows.HttpFieldsSaid :=
  OpenClaim.holds_of_cond 18 Tryd.f18 rfl rfl rfl rfl rfl rfl rfl ⟨rfl, rfl, rfl, rfl, rfl⟩ rfl rfl rfl rfl rfl (by kernel_rfl) Tryd.func18 closed
    (of_decide_eq_true (by kernel_rfl)) (by unfold Func.isWrapper; first | (rw [if_pos (by decide +kernel)]; kernel_rfl) | (rw [if_neg (by decide +kernel)]; exact ⟨rfl, rfl⟩))
    (fun os started H enc _ F => by rw [OpenClaim.pre_eq_preRow]; exact lifted os started H enc F)
theorem plain (f : FuncId) (fn : Func) (hf : Tryd.pinned.checked.prog.funcNamed "calepin/calepinlaw08.HttpFields" = some f) (hfn : Tryd.pinned.checked.prog.funcs[f]? = some fn) :
    true = Tryd.pinned.checked.prog.looks [] ∧ ∀ (j : Nat) t, fn.params[j]? = some t → Tryd.pinned.checked.prog.wantsStandIn t = false := by
  obtain rfl : f = 18 := Option.some.inj ((show Tryd.prog.funcNamed "calepin/calepinlaw08.HttpFields" = some 18 by kernel_rfl).symm.trans hf) |>.symm
  obtain rfl : fn = Tryd.f18 := (Option.some.inj (Tryd.func18.symm.trans hfn)).symm
  refine ⟨by kernel_rfl, fun j t ht => ?_⟩
  rw [Tryd.params18] at ht
  have hm := Array.mem_of_getElem? ht
  simp only [Array.mem_def, List.mem_cons, List.not_mem_nil, or_false] at hm
  rcases hm with rfl | rfl | rfl
  · exact (show Tryd.prog.wantsStandIn 65 = false by kernel_rfl)
  · exact (show Tryd.prog.wantsStandIn 3 = false by kernel_rfl)
  · exact (show Tryd.prog.wantsStandIn 68 = false by kernel_rfl)
end Go.Proofs.YtpedfpeokedelaaDoor.httpFields
namespace Go.Proofs.YtpedfpeokedelaaDoor
/-- The card, under a short name, for the claim. -/
theorem httpFields_card : Rows.HttpFieldsCardSaid :=
  Claim7.holds_tied_plain_at .later [] _ _ _ _ httpFields.said (fun _ h => by cases h) (by kernel_rfl) (fun _ h => by cases h) httpFields_row_tie rfl ⟨rfl, rfl⟩ (by kernel_rfl) rfl httpFields.plain (by kernel_rfl)
#print axioms httpFields_card
end Go.Proofs.YtpedfpeokedelaaDoor
