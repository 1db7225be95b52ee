/- HttpGets returns true for all fields and every name: the first field of that name is told. Condition: the listed variables hold what the program lays. -/
import Derived.Test.YtpedfpeokedelaaDoorXHttpGetsx5
import Derived.Test.YtpedfpeokedelaaDoorPureHttpGets
import Derived.Test.YtpedfpeokedelaaDoorRtz
import Derived.Test.YtpedfpeokedelaaDoorWi
import Derived.Test.YtpedfpeokedelaaDoorLm
import Derived.Test.YtpedfpeokedelaaDoorJo
import Derived.SevenTiedAt
import Derived.WalkKit
import Derived.ProofKit
import Derived.OpenShut
import Derived.ShutString
import Derived.ChangeOld
import Derived.Below
import Derived.SizedLaws
namespace Go.Proofs.YtpedfpeokedelaaDoor.httpGets
open Go.ChangeShapes Go.WideShapes Go.ChangeAt Go.RowKit Go.Joins
open Go.ChangeMaps (open_string shut_string)
open Go.Proofs.YtpedfpeokedelaaDoorW.PrintWords Go.Proofs.YtpedfpeokedelaaDoor.Rz
set_option linter.unusedVariables false
theorem own : ownKnob Tryd.prog.godebug = none := by kernel_rfl
theorem laidOut : laidOutB Tryd.prog = true := by kernel_rfl
set_option maxHeartbeats 2000000 in
set_option maxRecDepth 100000 in
theorem lifted (os : Os) (started : os.Started) (H : Type) (enc : TypeId × Value → H) (F : Stop.Interp) :
    ReturnsInHanded {} Tryd.checked os 19 .any ((OpenSpec.ofChange Rows.httpGetsSpec).preRow enc Tryd.prog Tryd.f19 Rows.httpGetsRow.domain false Rows.httpGetsRow.laid) (((OpenSpec.ofChange Rows.httpGetsSpec).at F).post enc Tryd.prog Tryd.f19 false true false false) := by
  refine returnsInHanded_of_row (C := Tryd.checked) (s := OpenSpec.ofChange Rows.httpGetsSpec) own started (by kernel_rfl) Tryd.func19
    (wit os #[.slice none 0 0, .string ByteArray.empty] (by kernel_rfl) (OpenSpec.preRow_of_cond 8 (x := ([.nil, .lit (.string [])], [], [])) (by kernel_rfl) (by kernel_rfl) (fun k hk => by cases hk) (by kernel_rfl) (met os _))) ?_
  intro W base args ds gs before hval0 hW _ _ hsz0 hL hSh _
  have hsz : (DataW.weightsEach Tryd.prog (Tryd.f19.params.toList ++ Rows.httpGetsSpec.plain.varTypes Tryd.prog) (ds ++ gs)).all (· ≤ reachBytes) = true := hsz0
  have hval : ∀ (j : Nat) t v, Tryd.f19.params[j]? = some t → args[j]? = some v → Value.okWide Tryd.prog W .any base t v := hval0
  have hW' := hW
  obtain ⟨p, q, hA0, hV, rfl, hfz, hnd⟩ := hW
  have hA : DataW.TrodAll enc Tryd.prog W 0 (fun _ => true) true Tryd.f19.params.toList args.toList ds p := hA0
  rw [Tryd.params19] at hA hval hsz
  obtain ⟨v0, vs0, d0, ds0, p0, q0, hargs, rfl, rfl, h0, r0⟩ := trodAll_cons hA
  obtain ⟨v1, vs1, d1, ds1, p1, q1, rfl, rfl, rfl, h1, r1⟩ := trodAll_cons r0
  obtain ⟨rfl, rfl, rfl⟩ := trodAll_nil r1
  obtain rfl : args = #[v0, v1] := by cases args; simp_all
  obtain ⟨rfl, rfl⟩ := trodVars_none hV
  have k0 := h0
  have lt0 : ∀ x ∈ p0, x.block < W.heap.size := by obtain ⟨m, hm⟩ := k0; exact DataW.trod_lt m _ _ _ hm
  have k1 := h1
  have lt1 : ∀ x ∈ p1, x.block < W.heap.size := by obtain ⟨m, hm⟩ := k1; exact DataW.trod_lt m _ _ _ hm
  have e0 := sized_each hsz (j := 0) (t := 63) rfl rfl
  have e1 := sized_each hsz (j := 1) (t := 9) rfl rfl
  obtain ⟨Aa0, len0, cap0, rfl⟩ := okWide_slice Tryd.underlying63 (hval 0 63 v0 rfl rfl)
  obtain ⟨fuel0, hf0⟩ := h0
  obtain ⟨l0, ⟨A0, c0, hcs0, hl0, hC0⟩, hok0⟩ := rd63.read _ _ _ hf0 e0
  have hcs0 := (List.cons.inj hcs0).1
  obtain ⟨rfl, rfl, rfl⟩ := Value.slice.inj hcs0
  have q0 := hok0.1
  obtain ⟨m0, em0⟩ : ∃ m : List XHttpGets.S74, m = l0.map (fun p => (⟨p.1, p.2⟩ : XHttpGets.S74)) := ⟨_, rfl⟩
  have hm0 : Kd.C XHttpGets.k74 W Aa0 m0.length m0 := by rw [em0]; exact C_iso_map (fun x : XHttpGets.S74 => (x.f0, x.f1)) (fun p => (⟨p.1, p.2⟩ : XHttpGets.S74)) (fun _ => rfl) hC0
  have el0 : l0.length = m0.length := by rw [em0, List.length_map]
  have f0 : ∀ x ∈ m0, x.f0.size ≤ 140737488351232 := by
    intro x hx
    rw [em0] at hx
    obtain ⟨y, hy, rfl⟩ := List.mem_map.1 hx
    exact (hok0.2 y hy).1
  have v0f : ∀ x ∈ m0, x.f1.size ≤ 140737488351232 := by
    intro x hx
    rw [em0] at hx
    obtain ⟨y, hy, rfl⟩ := List.mem_map.1 hx
    exact (hok0.2 y hy).2
  rw [el0] at q0
  obtain ⟨a1, rfl, rfl, rfl, y1⟩ := open_string Tryd.underlying9 (hval 1 9 v1 rfl rfl) h1
  have s1 : a1.size ≤ 140737488351232 := by
    have z := sized_string hsz (j := 1) (t := 9) rfl rfl
    rw [Array.length_toList] at z
    exact z
  obtain ⟨kk, hkk⟩ := PureHttpGets.HttpGets m0 a1 (by omega) f0 s1
  have hcall := XHttpGets.calepinlaw08_HttpGets.calls kk Aa0 cap0 m0 a1 true W hm0 (by rw [← el0]; exact hl0) (laidM_of hL hSh) hkk
  rw [← el0] at hcall
  refine hcall.mono fun e W' ⟨he, bel⟩ => ?_
  subst he
  exact ⟨_, rfl, _, _, _, [], _, [], hW', trodAll_mk1 (shut_bool Tryd.underlying4 _), (trodAll_cons_mk (Below.trod laidOut (by kernel_rfl) (of_decide_eq_true (by kernel_rfl)) k0 bel lt0) (trodAll_cons_mk (Below.trod laidOut (by kernel_rfl) (of_decide_eq_true (by kernel_rfl)) k1 bel lt1) trodAll_mk0)), rfl, bel.frame _, fun h => by cases h⟩
theorem j1 : (Rows.httpGetsRow.inPlace == Tryd.pinned.checked.prog.inPlace 19) = true := by kernel_rfl
theorem j2 : (Rows.httpGetsRow.unfollowed == Tryd.pinned.checked.prog.unfollowed 19) = true := by kernel_rfl
theorem j3 : (Rows.httpGetsRow.recurses == Tryd.pinned.checked.prog.recurses 19) = true := by kernel_rfl
theorem j4 : (Rows.httpGetsRow.named == Tryd.pinned.checked.prog.varsNamed 19) = true := by kernel_rfl
theorem closed : joinedFacts Tryd.pinned.checked.prog 19 Tryd.f19 (OpenSpec.ofChange Rows.httpGetsSpec).bare Rows.httpGetsRow = true := by
  simp only [joinedFacts, Bool.and_eq_true]
  and_intros
  all_goals first
    | with_reducible exact Jo.laid
    | with_reducible exact Jo.maps
    | with_reducible exact Jo.heard
    | with_reducible exact Jo.enter
    | with_reducible exact j1
    | with_reducible exact j2
    | with_reducible exact j3
    | with_reducible exact j4
    | kernel_rfl
theorem said : Rows.HttpGetsSaid :=
  OpenClaim.holds_of_cond 19 Tryd.f19 rfl rfl rfl rfl rfl rfl rfl ⟨rfl, rfl, rfl, rfl, rfl⟩ rfl rfl rfl rfl rfl (by kernel_rfl) Tryd.func19 closed
    (of_decide_eq_true (by kernel_rfl)) (by unfold Func.isWrapper; first | (rw [if_pos (by decide +kernel)]; kernel_rfl) | (rw [if_neg (by decide +kernel)]; exact ⟨rfl, rfl⟩))
    (fun os started H enc _ F => by rw [OpenClaim.pre_eq_preRow]; exact lifted os started H enc F)
theorem plain (f : FuncId) (fn : Func) (hf : Tryd.pinned.checked.prog.funcNamed "calepin/calepinlaw08.HttpGets" = some f) (hfn : Tryd.pinned.checked.prog.funcs[f]? = some fn) :
    true = Tryd.pinned.checked.prog.looks [] ∧ ∀ (j : Nat) t, fn.params[j]? = some t → Tryd.pinned.checked.prog.wantsStandIn t = false := by
  obtain rfl : f = 19 := Option.some.inj ((show Tryd.prog.funcNamed "calepin/calepinlaw08.HttpGets" = some 19 by kernel_rfl).symm.trans hf) |>.symm
  obtain rfl : fn = Tryd.f19 := (Option.some.inj (Tryd.func19.symm.trans hfn)).symm
  refine ⟨by kernel_rfl, fun j t ht => ?_⟩
  rw [Tryd.params19] at ht
  have hm := Array.mem_of_getElem? ht
  simp only [Array.mem_def, List.mem_cons, List.not_mem_nil, or_false] at hm
  rcases hm with rfl | rfl
  · exact (show Tryd.prog.wantsStandIn 63 = false by kernel_rfl)
  · exact (show Tryd.prog.wantsStandIn 9 = false by kernel_rfl)
end Go.Proofs.YtpedfpeokedelaaDoor.httpGets
namespace Go.Proofs.YtpedfpeokedelaaDoor
/-- The card, under a short name, for the claim. -/
theorem httpGets_card : Rows.HttpGetsCardSaid :=
  Claim7.holds_tied_plain_at .later [] _ _ _ _ httpGets.said (fun _ h => by cases h) (by kernel_rfl) (fun _ h => by cases h) httpGets_row_tie rfl ⟨rfl, rfl⟩ (by kernel_rfl) rfl httpGets.plain (by kernel_rfl)
#print axioms httpGets_card
end Go.Proofs.YtpedfpeokedelaaDoor
