/- XmlRemarks returns true for every pieces, place and text: a remark between pieces changes none of them. Conditions: what comes in is of bulk at most 1048576; the listed variables hold what the program lays. -/
import Derived.Test.YtpaopeiegaijiaaGreatDoorXXmlRemarksx7
import Derived.Test.YtpaopeiegaijiaaGreatDoorPr5XmlRemarks
import Derived.Test.YtpaopeiegaijiaaGreatDoorRtx
import Derived.Test.YtpaopeiegaijiaaGreatDoorLd
import Derived.Test.YtpaopeiegaijiaaGreatDoorWi
import Derived.Test.YtpaopeiegaijiaaGreatDoorJo
import Derived.SevenTiedAt
import Derived.WalkKit
import Derived.ProofKit
import Derived.OpenShut
import Derived.ShutString
import Derived.ChangeOld
import Derived.Below
import Derived.SizedLaws
namespace Go.Proofs.YtpaopeiegaijiaaGreatDoor.xmlRemarks
open Go.ChangeShapes Go.WideShapes Go.ChangeAt Go.RowKit Go.Joins
open Go.ChangeMaps (open_string shut_string)
open Go.Proofs.YtpaopeiegaijiaaGreatDoorW.PrintWords Go.Proofs.YtpaopeiegaijiaaGreatDoor.Rg
set_option linter.unusedVariables false
theorem own : ownKnob Tryz.prog.godebug = none := by kernel_rfl
theorem laidOut : laidOutB Tryz.prog = true := by kernel_rfl
set_option maxRecDepth 100000 in
theorem lifted (os : Os) (started : os.Started) (H : Type) (enc : TypeId × Value → H) (F : Stop.Interp) :
    ReturnsInHanded {} Tryz.checked os 8 .any ((Rows.OpenSpec.upto Rows.xmlRemarksSpec).preRow enc Tryz.prog Tryz.f8 Rows.xmlRemarksUptoRow.domain false Rows.xmlRemarksUptoRow.laid) (((Rows.OpenSpec.upto Rows.xmlRemarksSpec).at F).post enc Tryz.prog Tryz.f8 false true false false) := by
  refine returnsInHanded_of_row (C := Tryz.checked) (s := Rows.OpenSpec.upto Rows.xmlRemarksSpec) own started (by kernel_rfl) Tryz.func8
    (wit os #[.slice none 0 0, .int .i64 0, .string ByteArray.empty] (by kernel_rfl) (OpenSpec.preRow_of_cond 8 (x := ([.nil, .lit (.int .i64 0), .lit (.string [])], [], [])) (by kernel_rfl) (by kernel_rfl) (fun k hk => by cases hk; kernel_rfl) (by kernel_rfl) (met os _))) ?_
  intro W base args ds gs before hval0 hW _ hk0 _ hL hSh _
  have hk : Rows.uptoSmall H (ds ++ gs) = true := hk0 _ rfl
  have hval : ∀ (j : Nat) t v, Tryz.f8.params[j]? = some t → args[j]? = some v → Value.okWide Tryz.prog W .any base t v := hval0
  have hW' := hW
  obtain ⟨p, q, hA0, hV, rfl, hfz, hnd⟩ := hW
  have hA : DataW.TrodAll enc Tryz.prog W 0 (fun _ => true) true Tryz.f8.params.toList args.toList ds p := hA0
  rw [Tryz.params8] at hA hval
  obtain ⟨v0, vs0, d0, ds0, p0, q0, hargs, rfl, rfl, h0, r0⟩ := trodAll_cons hA
  obtain ⟨v1, vs1, d1, ds1, p1, q1, rfl, rfl, rfl, h1, r1⟩ := trodAll_cons r0
  obtain ⟨v2, vs2, d2, ds2, p2, q2, rfl, rfl, rfl, h2, r2⟩ := trodAll_cons r1
  obtain ⟨rfl, rfl, rfl⟩ := trodAll_nil r2
  obtain rfl : args = #[v0, v1, v2] := by cases args; simp_all
  obtain ⟨rfl, rfl⟩ := trodVars_none hV
  have k0 := h0
  have lt0 : ∀ x ∈ p0, x.block < W.heap.size := by obtain ⟨m, hm⟩ := k0; exact DataW.trod_lt m _ _ _ hm
  have k1 := h1
  have lt1 : ∀ x ∈ p1, x.block < W.heap.size := by obtain ⟨m, hm⟩ := k1; exact DataW.trod_lt m _ _ _ hm
  have k2 := h2
  have lt2 : ∀ x ∈ p2, x.block < W.heap.size := by obtain ⟨m, hm⟩ := k2; exact DataW.trod_lt m _ _ _ hm
  have hbulk := bulks.bound hk
  simp only [List.append_nil, Rows.uptoBulkAll] at hbulk
  obtain ⟨Aa0, len0, cap0, rfl⟩ := okWide_slice Tryz.underlying48 (hval 0 48 v0 rfl rfl)
  obtain ⟨fuel0, hf0⟩ := h0
  obtain ⟨l0, ⟨A0, c0, hcs0, hl0, hC0⟩, hok0, hsz0⟩ := rd48.read _ _ _ hf0
  have hcs0 := (List.cons.inj hcs0).1
  rw [hcs0] at hW' k0 ⊢
  have hszz0 : tot sz60 l0 + 1 ≤ Rows.uptoBulk d0 := hsz0
  obtain ⟨m0, em0⟩ : ∃ m : List XXmlRemarks.S60, m = l0.map (fun p => (⟨p.1, p.2.1, p.2.2.1, p.2.2.2⟩ : XXmlRemarks.S60)) := ⟨_, rfl⟩
  have hm0 : Kd.C XXmlRemarks.k60 W A0 m0.length m0 := by rw [em0]; exact C_iso_map (fun x : XXmlRemarks.S60 => (x.f0, x.f1, x.f2, x.f3)) (fun p => (⟨p.1, p.2.1, p.2.2.1, p.2.2.2⟩ : XXmlRemarks.S60)) (fun _ => rfl) hC0
  have el0 : l0.length = m0.length := by rw [em0, List.length_map]
  have hsm : ∀ p ∈ m0, PwXmlRemarks.sizeOkB 1048576 p := by
    intro x hx
    rw [em0] at hx
    obtain ⟨y, hy, rfl⟩ := List.mem_map.1 hx
    have h1 := tot_mem (sz := sz60) l0 y hy
    have h2 : 1 + (1 + (y.2.2.1.size + 1 + (y.2.2.2.size + 1))) + 1 ≤ tot sz60 l0 := h1
    exact ⟨by show y.2.2.1.size ≤ _; omega, by show y.2.2.2.size ≤ _; omega⟩
  change l0.length ≤ c0 at hl0
  obtain ⟨a1, rfl, rfl, rfl, w1⟩ := open_int Tryz.underlying3 (hval 1 3 v1 rfl rfl) h1
  obtain ⟨a2, rfl, rfl, rfl, y2⟩ := open_string Tryz.underlying9 (hval 2 9 v2 rfl rfl) h2
  have z2 := bulks.string_eq (H := H) a2.data.toList
  rw [Array.length_toList] at z2
  have z2 : Rows.uptoBulk (DataW.lit (H := H) (.string a2.data.toList)) = a2.size + 1 := z2
  obtain ⟨kk, hkk⟩ := PwXmlRemarks.remarks m0 hsm a1 a2 (by omega)
  have hcall := XXmlRemarks.calepinlaw07_XmlRemarks.calls kk A0 c0 m0 a1 a2 true W hm0 (by rw [← el0]; exact hl0) (laidM_of hL hSh) hkk
  rw [← el0] at hcall
  refine hcall.mono fun e W' ⟨he, bel⟩ => ?_
  subst he
  exact ⟨_, rfl, _, _, _, [], _, [], hW', trodAll_mk1 (shut_bool Tryz.underlying4 _), (trodAll_cons_mk (Below.trod laidOut (by kernel_rfl) (of_decide_eq_true (by kernel_rfl)) k0 bel lt0) (trodAll_cons_mk (Below.trod laidOut (by kernel_rfl) (of_decide_eq_true (by kernel_rfl)) k1 bel lt1) (trodAll_cons_mk (Below.trod laidOut (by kernel_rfl) (of_decide_eq_true (by kernel_rfl)) k2 bel lt2) trodAll_mk0))), rfl, bel.frame _, fun h => by cases h⟩
theorem j1 : (Rows.xmlRemarksUptoRow.inPlace == Tryz.pinned.checked.prog.inPlace 8) = true := by kernel_rfl
theorem j2 : (Rows.xmlRemarksUptoRow.unfollowed == Tryz.pinned.checked.prog.unfollowed 8) = true := by kernel_rfl
theorem j3 : (Rows.xmlRemarksUptoRow.recurses == Tryz.pinned.checked.prog.recurses 8) = true := by kernel_rfl
theorem j4 : (Rows.xmlRemarksUptoRow.named == Tryz.pinned.checked.prog.varsNamed 8) = true := by kernel_rfl
theorem closed : joinedFacts Tryz.pinned.checked.prog 8 Tryz.f8 (Rows.OpenSpec.upto Rows.xmlRemarksSpec).bare Rows.xmlRemarksUptoRow = true := by
  simp only [joinedFacts, Bool.and_eq_true]
  and_intros
  all_goals first
    | with_reducible exact Jo.laid
    | with_reducible exact Jo.maps
    | with_reducible exact Jo.heard
    | with_reducible exact Jo.enter
    | with_reducible exact j1
    | with_reducible exact j2
    | with_reducible exact j3
    | with_reducible exact j4
    | kernel_rfl
theorem said : Rows.XmlRemarksUptoSaid :=
  OpenClaim.holds_of_cond 8 Tryz.f8 rfl rfl rfl rfl rfl rfl rfl ⟨rfl, rfl, rfl, rfl, rfl⟩ rfl rfl rfl rfl rfl (by kernel_rfl) Tryz.func8 closed
    (of_decide_eq_true (by kernel_rfl)) (by unfold Func.isWrapper; first | (rw [if_pos (by decide +kernel)]; kernel_rfl) | (rw [if_neg (by decide +kernel)]; exact ⟨rfl, rfl⟩))
    (fun os started H enc _ F => by rw [OpenClaim.pre_eq_preRow]; exact lifted os started H enc F)
theorem plain (f : FuncId) (fn : Func) (hf : Tryz.pinned.checked.prog.funcNamed "calepin/calepinlaw07.XmlRemarks" = some f) (hfn : Tryz.pinned.checked.prog.funcs[f]? = some fn) :
    true = Tryz.pinned.checked.prog.looks [] ∧ ∀ (j : Nat) t, fn.params[j]? = some t → Tryz.pinned.checked.prog.wantsStandIn t = false := by
  obtain rfl : f = 8 := Option.some.inj ((show Tryz.prog.funcNamed "calepin/calepinlaw07.XmlRemarks" = some 8 by kernel_rfl).symm.trans hf) |>.symm
  obtain rfl : fn = Tryz.f8 := (Option.some.inj (Tryz.func8.symm.trans hfn)).symm
  refine ⟨by kernel_rfl, fun j t ht => ?_⟩
  rw [Tryz.params8] at ht
  have hm := Array.mem_of_getElem? ht
  simp only [Array.mem_def, List.mem_cons, List.not_mem_nil, or_false] at hm
  rcases hm with rfl | rfl | rfl
  · exact (show Tryz.prog.wantsStandIn 48 = false by kernel_rfl)
  · exact (show Tryz.prog.wantsStandIn 3 = false by kernel_rfl)
  · exact (show Tryz.prog.wantsStandIn 9 = false by kernel_rfl)
end Go.Proofs.YtpaopeiegaijiaaGreatDoor.xmlRemarks
namespace Go.Proofs.YtpaopeiegaijiaaGreatDoor
/-- The card, under a short name, for the claim. -/
theorem xmlRemarks_card : Rows.XmlRemarksUptoCardSaid :=
  Claim7.holds_tied_plain_at .later [] _ _ _ _ xmlRemarks.said (fun _ h => by cases h) (by kernel_rfl) (fun _ h => by cases h) xmlRemarksUpto_row_tie rfl ⟨rfl, rfl⟩ (by kernel_rfl) rfl xmlRemarks.plain (by kernel_rfl)
#print axioms xmlRemarks_card
end Go.Proofs.YtpaopeiegaijiaaGreatDoor
