/- MsgCuts returns true for every message and every number: no message cut off is one, nor one with a byte behind. Conditions: what comes in is of bulk at most 1048576. -/
import Derived.Test.YtjhcbggpbfejgaaRm
import Derived.Test.YtjhcbggpbfejgaaMc
import Derived.Test.YtjhcbggpbfejgaaRows
import Derived.JoinedCond
namespace Go.Proofs.Ytjhcbggpbfejgaa.msgCuts
open Go.ChangeShapes Go.WideShapes Go.ChangeAt Go.RowKit Go.Joins
open Go.ChangeMaps (open_string shut_string)
open Go.Proofs.YtjhcbggpbfejgaaW.PrintWords Go.Proofs.Ytjhcbggpbfejgaa.Rg
set_option linter.unusedVariables false
theorem own : ownKnob Try.prog.godebug = none := by kernel_rfl
theorem laidOut : laidOutB Try.prog = true := by kernel_rfl

set_option maxRecDepth 100000 in
theorem contract (H : Type) (enc : TypeId × Value → H) (W : World) (base : Nat) (args : Array Value) (ds gs : List (DataW H)) (before : List MemPlace)
    (hval : ∀ (j : Nat) t v, Try.f9.params[j]? = some t → args[j]? = some v → Value.okWide Try.prog W .any base t v)
    (hW : DataW.Whole enc Try.prog Try.f9.params.toList Rows.msgCutsSpec.vars false W args.toList ds gs before) (hk : Rows.uptoSmall H (ds ++ gs) = true) :
    Calls Try.prog 9 args W fun e W' => ∃ v, e = .returned v ∧ Rows.msgCutsSpec.post enc Try.prog Try.f9 false true false false W args v W' := by
  have hW' := hW
  obtain ⟨p, q, hA0, hV, rfl, hfz, hnd⟩ := hW
  have hA : DataW.TrodAll enc Try.prog W 0 (fun _ => true) true Try.f9.params.toList args.toList ds p := hA0
  rw [Try.params9] at hA hval
  obtain ⟨v0, vs0, d0, ds0, p0, q0, hargs, rfl, rfl, h0, r0⟩ := trodAll_cons hA
  obtain ⟨v1, vs1, d1, ds1, p1, q1, rfl, rfl, rfl, h1, r1⟩ := trodAll_cons r0
  obtain ⟨rfl, rfl, rfl⟩ := trodAll_nil r1
  obtain rfl : args = #[v0, v1] := by cases args; simp_all
  obtain ⟨rfl, rfl⟩ := trodVars_none hV
  have k0 := h0
  have lt0 : ∀ x ∈ p0, x.block < W.heap.size := by obtain ⟨m, hm⟩ := k0; exact DataW.trod_lt m _ _ _ hm
  have k1 := h1
  have lt1 : ∀ x ∈ p1, x.block < W.heap.size := by obtain ⟨m, hm⟩ := k1; exact DataW.trod_lt m _ _ _ hm
  have hbulk := bulks.bound hk
  simp only [List.append_nil, Rows.uptoBulkAll] at hbulk
  obtain ⟨cs0, rfl, hz0⟩ := okWide_struct Try.underlying66 (hval 0 66 v0 rfl rfl)
  obtain ⟨fuel0, hf0⟩ := h0
  obtain ⟨l0, hK0, hok0, hsz0⟩ := rd66.read _ _ _ hf0
  obtain ⟨A0_0, c0_0, A0_1, c0_1, hcs0, hl0_0, hC0_0, hl0_1, hC0_1⟩ := open66 hK0
  obtain ⟨cs0⟩ := cs0
  have hcs0 : cs0 = _ := hcs0
  subst hcs0
  obtain ⟨a1, rfl, rfl, rfl, w1⟩ := open_int Try.underlying3 (hval 1 3 v1 rfl rfl) h1
  have hsm : sz66 l0 ≤ 1048576 := by have h : sz66 l0 ≤ Rows.uptoBulk d0 := hsz0; omega
  obtain ⟨hrok, hfit⟩ := msg_ok l0 hok0 hsm
  have hC1 : Kd.C Mk.k38 W A0_0 (l0.2.2.2.2.2.2.2.2.2.1.map toX).length (l0.2.2.2.2.2.2.2.2.2.1.map toX) := C_iso_map (k := k38) (fun x : Mk.S38 => (x.f0, x.f1, (x.f2.f0, x.f2.f1, x.f2.f2, x.f2.f3, x.f2.f4, x.f2.f5, x.f2.f6, x.f2.f7, x.f2.f8, x.f2.f9, x.f2.f10), x.f3)) toX (fun _ => rfl) hC0_0
  have hlen : (l0.2.2.2.2.2.2.2.2.2.1.map toX).length = l0.2.2.2.2.2.2.2.2.2.1.length := List.length_map ..
  refine calls_of_args (args' := #[Mp.rpcV (toR l0) A0_0 c0_0 A0_1 c0_1, .int .i64 a1]) (by simp [toR]) ?_
  refine (Mc.cuts_any (toR l0) A0_0 c0_0 A0_1 c0_1 a1 W hC1 (by simpa [toR] using hl0_0) hC0_1 hrok hfit).mono fun e W' ⟨he, bel⟩ => ?_
  subst he
  exact ⟨_, rfl, _, _, _, [], _, [], hW', trodAll_mk1 (shut_bool Try.underlying4 _), (trodAll_cons_mk (Below.trod laidOut (by kernel_rfl) (of_decide_eq_true (by kernel_rfl)) k0 bel lt0) (trodAll_cons_mk (Below.trod laidOut (by kernel_rfl) (of_decide_eq_true (by kernel_rfl)) k1 bel lt1) trodAll_mk0)), rfl, bel.frame _, fun h => by cases h⟩

set_option maxRecDepth 100000 in
theorem lifted (os : Os) (started : os.Started) (H : Type) (enc : TypeId × Value → H) (F : Stop.Interp) :
    ReturnsInHanded {} Try.checked os 9 .any ((Rows.OpenSpec.upto Rows.msgCutsSpec).pre6 enc Try.prog Try.f9 Rows.msgCutsUptoRow.domain false) (((Rows.OpenSpec.upto Rows.msgCutsSpec).at F).post enc Try.prog Try.f9 false true false false) := by
  refine returnsInHanded_of_cond (C := Try.checked) (s := Rows.OpenSpec.upto Rows.msgCutsSpec) (k := Rows.uptoSmall) rfl own started (by kernel_rfl) Try.func9
    (OpenSpec.witness (enc := enc) (C := Try.checked) (s := Rows.OpenSpec.upto Rows.msgCutsSpec) (k := Rows.uptoSmall) rfl false ⟨#[], #[.agg #[.int .i64 0, .int .i64 0, .int .i64 0, .int .i64 0, .int .i64 0, .int .i64 0, .bool false, .int .i64 0, .int .i64 0, .slice none 0 0, .int .i64 0, .int .i64 0, .slice none 0 0, .string .empty], .int .i64 0], []⟩ 8 (by kernel_rfl) (by kernel_rfl) (by kernel_rfl)
      (x := ([.agg [.lit (.int .i64 0), .lit (.int .i64 0), .lit (.int .i64 0), .lit (.int .i64 0), .lit (.int .i64 0), .lit (.int .i64 0), .lit (.bool false), .lit (.int .i64 0), .lit (.int .i64 0), .nil, .agg [.lit (.int .i64 0), .lit (.int .i64 0), .nil, .lit (.string [])]], .lit (.int .i64 0)], [], [])) (by kernel_rfl) rfl (by kernel_rfl)) ?_
  intro W base args ds gs before hval hW _ hk _
  exact contract H enc W base args ds gs before hval hW hk

theorem proved : Rows.MsgCutsUptoSaid :=
  OpenClaim.holds_of_cond 9 Try.f9 rfl rfl rfl rfl rfl rfl rfl ⟨rfl, rfl, rfl, rfl, rfl⟩ rfl rfl rfl rfl rfl (by kernel_rfl) Try.func9 (by kernel_rfl)
    (of_decide_eq_true (by kernel_rfl)) (by unfold Func.isWrapper; first | (rw [if_pos (by decide +kernel)]; kernel_rfl) | (rw [if_neg (by decide +kernel)]; exact ⟨rfl, rfl⟩))
    (fun os started H enc _ F => lifted os started H enc F)
end Go.Proofs.Ytjhcbggpbfejgaa.msgCuts
namespace Go.Proofs.Ytjhcbggpbfejgaa
/-- The row, under a short name, for the claim. -/
theorem msgCuts_upto : Rows.MsgCutsUptoSaid := msgCuts.proved
#print axioms msgCuts_upto
end Go.Proofs.Ytjhcbggpbfejgaa
