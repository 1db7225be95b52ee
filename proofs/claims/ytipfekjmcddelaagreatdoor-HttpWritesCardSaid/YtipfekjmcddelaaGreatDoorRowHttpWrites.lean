/- HttpWrites returns true for every request, response and text: which can be printed, what their bytes are, and that they are parsed as themselves, whatever stands behind. Condition: the listed variables hold what the program lays. -/
import Derived.Test.YtipfekjmcddelaaGreatDoorXHttpWritesx11
import Derived.Test.YtipfekjmcddelaaGreatDoorHwE
import Derived.Test.YtipfekjmcddelaaGreatDoorRtz
import Derived.Test.YtipfekjmcddelaaGreatDoorWi
import Derived.Test.YtipfekjmcddelaaGreatDoorLm
import Derived.Test.YtipfekjmcddelaaGreatDoorJo
import Derived.SevenTiedAt
import Derived.WalkKit
import Derived.ProofKit
import Derived.OpenShut
import Derived.ShutString
import Derived.ChangeOld
import Derived.Below
import Derived.SizedLaws
namespace Go.Proofs.YtipfekjmcddelaaGreatDoor.httpWrites
open Go.ChangeShapes Go.WideShapes Go.ChangeAt Go.RowKit Go.Joins
open Go.ChangeMaps (open_string shut_string)
open Go.Proofs.YtipfekjmcddelaaGreatDoorW.zgo Go.Proofs.YtipfekjmcddelaaGreatDoor.Rz
set_option linter.unusedVariables false
theorem own : ownKnob Tryz.prog.godebug = none := by kernel_rfl
theorem laidOut : laidOutB Tryz.prog = true := by kernel_rfl
set_option maxHeartbeats 2000000 in
set_option maxRecDepth 100000 in
theorem lifted (os : Os) (started : os.Started) (H : Type) (enc : TypeId × Value → H) (F : Stop.Interp) :
    ReturnsInHanded {} Tryz.checked os 4 .any ((OpenSpec.ofChange Rows.httpWritesSpec).preRow enc Tryz.prog Tryz.f4 Rows.httpWritesRow.domain false Rows.httpWritesRow.laid) (((OpenSpec.ofChange Rows.httpWritesSpec).at F).post enc Tryz.prog Tryz.f4 false true false false) := by
  refine returnsInHanded_of_row (C := Tryz.checked) (s := OpenSpec.ofChange Rows.httpWritesSpec) own started (by kernel_rfl) Tryz.func4
    (wit os #[.agg #[.string ByteArray.empty, .string ByteArray.empty, .slice none 0 0, .string ByteArray.empty], .agg #[.int .i64 0, .slice none 0 0, .string ByteArray.empty], .string ByteArray.empty] (by kernel_rfl) (OpenSpec.preRow_of_cond 8 (x := ([.agg [.lit (.string []), .lit (.string []), .nil, .lit (.string [])], .agg [.lit (.int .i64 0), .nil, .lit (.string [])], .lit (.string [])], [], [])) (by kernel_rfl) (by kernel_rfl) (fun k hk => by cases hk) (by kernel_rfl) (met os _))) ?_
  intro W base args ds gs before hval0 hW _ _ hsz0 hL hSh _
  have hsz : (DataW.weightsEach Tryz.prog (Tryz.f4.params.toList ++ Rows.httpWritesSpec.plain.varTypes Tryz.prog) (ds ++ gs)).all (· ≤ reachBytes) = true := hsz0
  have hval : ∀ (j : Nat) t v, Tryz.f4.params[j]? = some t → args[j]? = some v → Value.okWide Tryz.prog W .any base t v := hval0
  have hW' := hW
  obtain ⟨p, q, hA0, hV, rfl, hfz, hnd⟩ := hW
  have hA : DataW.TrodAll enc Tryz.prog W 0 (fun _ => true) true Tryz.f4.params.toList args.toList ds p := hA0
  rw [Tryz.params4] at hA hval hsz
  obtain ⟨v0, vs0, d0, ds0, p0, q0, hargs, rfl, rfl, h0, r0⟩ := trodAll_cons hA
  obtain ⟨v1, vs1, d1, ds1, p1, q1, rfl, rfl, rfl, h1, r1⟩ := trodAll_cons r0
  obtain ⟨v2, vs2, d2, ds2, p2, q2, rfl, rfl, rfl, h2, r2⟩ := trodAll_cons r1
  obtain ⟨rfl, rfl, rfl⟩ := trodAll_nil r2
  obtain rfl : args = #[v0, v1, v2] := by cases args; simp_all
  obtain ⟨rfl, rfl⟩ := trodVars_none hV
  have k0 := h0
  have lt0 : ∀ x ∈ p0, x.block < W.heap.size := by obtain ⟨m, hm⟩ := k0; exact DataW.trod_lt m _ _ _ hm
  have k1 := h1
  have lt1 : ∀ x ∈ p1, x.block < W.heap.size := by obtain ⟨m, hm⟩ := k1; exact DataW.trod_lt m _ _ _ hm
  have k2 := h2
  have lt2 : ∀ x ∈ p2, x.block < W.heap.size := by obtain ⟨m, hm⟩ := k2; exact DataW.trod_lt m _ _ _ hm
  have e0 := sized_each hsz (j := 0) (t := 25) rfl rfl
  have e1 := sized_each hsz (j := 1) (t := 33) rfl rfl
  obtain ⟨cs0, rfl, hz0⟩ := okWide_struct Tryz.underlying25 (hval 0 25 v0 rfl rfl)
  obtain ⟨fuel0, hf0⟩ := h0
  obtain ⟨u0, hK0, hok0⟩ := rR.read _ _ _ hf0 e0
  obtain ⟨A0, c0, hcs0, hl0, hC0⟩ := openR hK0
  obtain ⟨cs0⟩ := cs0
  have hcs0 : cs0 = _ := hcs0
  subst hcs0
  obtain ⟨b0_0, b0_1, l0, b0_3⟩ := u0
  obtain ⟨o0_0, o0_1, o0_2, o0_3⟩ := hok0
  have q0 := o0_2.1
  obtain ⟨m0, em0⟩ : ∃ m : List XHttpWrites.S62, m = l0.map (fun p => (⟨p.1, p.2⟩ : XHttpWrites.S62)) := ⟨_, rfl⟩
  have hm0 : Kd.C XHttpWrites.k62 W A0 m0.length m0 := by rw [em0]; exact C_iso_map (fun x : XHttpWrites.S62 => (x.f0, x.f1)) (fun p => (⟨p.1, p.2⟩ : XHttpWrites.S62)) (fun _ => rfl) hC0
  have el0 : l0.length = m0.length := by rw [em0, List.length_map]
  have f0 : ∀ x ∈ m0, x.f0.size ≤ 140737488351232 := by
    intro x hx
    rw [em0] at hx
    obtain ⟨y, hy, rfl⟩ := List.mem_map.1 hx
    exact (o0_2.2 y hy).1
  have v0f : ∀ x ∈ m0, x.f1.size ≤ 140737488351232 := by
    intro x hx
    rw [em0] at hx
    obtain ⟨y, hy, rfl⟩ := List.mem_map.1 hx
    exact (o0_2.2 y hy).2
  change l0.length ≤ c0 at hl0
  change l0.length * 32 ≤ _ at q0
  rw [el0] at q0
  have n0 : m0.length * 32 ≤ 140737488351232 ∧ (∀ x ∈ m0, x.f0.size ≤ 140737488351232) ∧ ∀ x ∈ m0, x.f1.size ≤ 140737488351232 := ⟨q0, f0, v0f⟩
  have g0 : b0_0.size ≤ 140737488351232 ∧ b0_1.size ≤ 140737488351232 ∧ b0_3.size ≤ 140737488351232 := ⟨o0_0, o0_1, o0_3⟩
  obtain ⟨cs1, rfl, hz1⟩ := okWide_struct Tryz.underlying33 (hval 1 33 v1 rfl rfl)
  obtain ⟨fuel1, hf1⟩ := h1
  obtain ⟨u1, hK1, hok1⟩ := rY.read _ _ _ hf1 e1
  obtain ⟨A1, c1, hcs1, hl1, hC1⟩ := openY hK1
  obtain ⟨cs1⟩ := cs1
  have hcs1 : cs1 = _ := hcs1
  subst hcs1
  obtain ⟨b1_0, l1, b1_2⟩ := u1
  obtain ⟨o1_0, o1_1, o1_2⟩ := hok1
  have q1 := o1_1.1
  obtain ⟨m1, em1⟩ : ∃ m : List XHttpWrites.S62, m = l1.map (fun p => (⟨p.1, p.2⟩ : XHttpWrites.S62)) := ⟨_, rfl⟩
  have hm1 : Kd.C XHttpWrites.k62 W A1 m1.length m1 := by rw [em1]; exact C_iso_map (fun x : XHttpWrites.S62 => (x.f0, x.f1)) (fun p => (⟨p.1, p.2⟩ : XHttpWrites.S62)) (fun _ => rfl) hC1
  have el1 : l1.length = m1.length := by rw [em1, List.length_map]
  have f1 : ∀ x ∈ m1, x.f0.size ≤ 140737488351232 := by
    intro x hx
    rw [em1] at hx
    obtain ⟨y, hy, rfl⟩ := List.mem_map.1 hx
    exact (o1_1.2 y hy).1
  have v1f : ∀ x ∈ m1, x.f1.size ≤ 140737488351232 := by
    intro x hx
    rw [em1] at hx
    obtain ⟨y, hy, rfl⟩ := List.mem_map.1 hx
    exact (o1_1.2 y hy).2
  change l1.length ≤ c1 at hl1
  change l1.length * 32 ≤ _ at q1
  rw [el1] at q1
  have n1 : m1.length * 32 ≤ 140737488351232 ∧ (∀ x ∈ m1, x.f0.size ≤ 140737488351232) ∧ ∀ x ∈ m1, x.f1.size ≤ 140737488351232 := ⟨q1, f1, v1f⟩
  obtain ⟨a2, rfl, rfl, rfl, y2⟩ := open_string Tryz.underlying9 (hval 2 9 v2 rfl rfl) h2
  obtain ⟨kk, hkk⟩ := PureHttpWrites.HttpWritesP b0_0 b0_1 m0 b0_3 b1_0 m1 b1_2 a2 g0 n0 o1_0 o1_2 n1
  have hcall := XHttpWrites.zaj.calls kk b0_0 b0_1 A0 c0 m0 b0_3 b1_0 A1 c1 m1 b1_2 a2 true W hm0 (by rw [← el0]; exact hl0) hm1 (by rw [← el1]; exact hl1) (laidM_of hL hSh) hkk
  rw [← el0, ← el1] at hcall
  refine hcall.mono fun e W' ⟨he, bel⟩ => ?_
  subst he
  exact ⟨_, rfl, _, _, _, [], _, [], hW', trodAll_mk1 (shut_bool Tryz.underlying4 _), (trodAll_cons_mk (Below.trod laidOut (by kernel_rfl) (of_decide_eq_true (by kernel_rfl)) k0 bel lt0) (trodAll_cons_mk (Below.trod laidOut (by kernel_rfl) (of_decide_eq_true (by kernel_rfl)) k1 bel lt1) (trodAll_cons_mk (Below.trod laidOut (by kernel_rfl) (of_decide_eq_true (by kernel_rfl)) k2 bel lt2) trodAll_mk0))), rfl, bel.frame _, fun h => by cases h⟩
theorem j1 : (Rows.httpWritesRow.inPlace == Tryz.pinned.checked.prog.inPlace 4) = true := by kernel_rfl
theorem j2 : (Rows.httpWritesRow.unfollowed == Tryz.pinned.checked.prog.unfollowed 4) = true := by kernel_rfl
theorem j3 : (Rows.httpWritesRow.recurses == Tryz.pinned.checked.prog.recurses 4) = true := by kernel_rfl
theorem j4 : (Rows.httpWritesRow.named == Tryz.pinned.checked.prog.varsNamed 4) = true := by kernel_rfl
theorem closed : joinedFacts Tryz.pinned.checked.prog 4 Tryz.f4 (OpenSpec.ofChange Rows.httpWritesSpec).bare Rows.httpWritesRow = true := by
  simp only [joinedFacts, Bool.and_eq_true]
  and_intros
  all_goals first
    | with_reducible exact Jo.laid
    | with_reducible exact Jo.maps
    | with_reducible exact Jo.heard
    | with_reducible exact Jo.enter
    | with_reducible exact j1
    | with_reducible exact j2
    | with_reducible exact j3
    | with_reducible exact j4
    | kernel_rfl
theorem said : Rows.HttpWritesSaid :=
  OpenClaim.holds_of_cond 4 Tryz.f4 rfl rfl rfl rfl rfl rfl rfl ⟨rfl, rfl, rfl, rfl, rfl⟩ rfl rfl rfl rfl rfl (by kernel_rfl) Tryz.func4 closed
    (of_decide_eq_true (by kernel_rfl)) (by unfold Func.isWrapper; first | (rw [if_pos (by decide +kernel)]; kernel_rfl) | (rw [if_neg (by decide +kernel)]; exact ⟨rfl, rfl⟩))
    (fun os started H enc _ F => by rw [OpenClaim.pre_eq_preRow]; exact lifted os started H enc F)
theorem plain (f : FuncId) (fn : Func) (hf : Tryz.pinned.checked.prog.funcNamed "calepin/calepinlaw08.HttpWrites" = some f) (hfn : Tryz.pinned.checked.prog.funcs[f]? = some fn) :
    true = Tryz.pinned.checked.prog.looks [] ∧ ∀ (j : Nat) t, fn.params[j]? = some t → Tryz.pinned.checked.prog.wantsStandIn t = false := by
  obtain rfl : f = 4 := Option.some.inj ((show Tryz.prog.funcNamed "calepin/calepinlaw08.HttpWrites" = some 4 by kernel_rfl).symm.trans hf) |>.symm
  obtain rfl : fn = Tryz.f4 := (Option.some.inj (Tryz.func4.symm.trans hfn)).symm
  refine ⟨by kernel_rfl, fun j t ht => ?_⟩
  rw [Tryz.params4] at ht
  have hm := Array.mem_of_getElem? ht
  simp only [Array.mem_def, List.mem_cons, List.not_mem_nil, or_false] at hm
  rcases hm with rfl | rfl | rfl
  · exact (show Tryz.prog.wantsStandIn 25 = false by kernel_rfl)
  · exact (show Tryz.prog.wantsStandIn 33 = false by kernel_rfl)
  · exact (show Tryz.prog.wantsStandIn 9 = false by kernel_rfl)
end Go.Proofs.YtipfekjmcddelaaGreatDoor.httpWrites
namespace Go.Proofs.YtipfekjmcddelaaGreatDoor
/-- The card, under a short name, for the claim. -/
theorem httpWrites_card : Rows.HttpWritesCardSaid :=
  Claim7.holds_tied_plain_at .later [] _ _ _ _ httpWrites.said (fun _ h => by cases h) (by kernel_rfl) (fun _ h => by cases h) httpWrites_row_tie rfl ⟨rfl, rfl⟩ (by kernel_rfl) rfl httpWrites.plain (by kernel_rfl)
#print axioms httpWrites_card
end Go.Proofs.YtipfekjmcddelaaGreatDoor
