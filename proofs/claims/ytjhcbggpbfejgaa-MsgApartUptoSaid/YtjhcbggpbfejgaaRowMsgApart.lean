/- MsgApart returns true for every message and every two numbers: a message of which one number is turned has other bytes. Conditions: what comes in is of bulk at most 1048576. -/
import Derived.Test.YtjhcbggpbfejgaaRm
import Derived.Test.YtjhcbggpbfejgaaMa
import Derived.Test.YtjhcbggpbfejgaaRows
import Derived.JoinedCond
namespace Go.Proofs.Ytjhcbggpbfejgaa.msgApart
open Go.ChangeShapes Go.WideShapes Go.ChangeAt Go.RowKit Go.Joins
open Go.ChangeMaps (open_string shut_string)
open Go.Proofs.YtjhcbggpbfejgaaW.PrintWords Go.Proofs.Ytjhcbggpbfejgaa.Rg
set_option linter.unusedVariables false
theorem own : ownKnob Try.prog.godebug = none := by kernel_rfl
theorem laidOut : laidOutB Try.prog = true := by kernel_rfl
open Go.Proofs.Ytjhcbggpbfejgaa.Cp Go.Proofs.Ytjhcbggpbfejgaa.Mq Go.Proofs.Ytjhcbggpbfejgaa.Mz Go.Proofs.Ytjhcbggpbfejgaa.XMsgPuts
theorem mnames (e : α38) : (toX e).f2.f7.length ≤ sz38 e := by
  have h := tot_len (sz := sz9) (fun s => Nat.le_add_left 1 s.size) e.2.2.1.2.2.2.2.2.2.2.1
  simp only [toX, sz38, sz25, sz23, Sum2]
  omega
theorem ritem (e : α38) : (refItem (toX e)).length ≤ 129 * sz38 e := by
  have h := mcmd e
  have h1 := refLog_len (logOf (toX e))
  have h4 : (logOf (toX e)).nodes.length = e.2.2.2.length := rfl
  have h5 : 1 ≤ sz38 e := by simp only [sz38]; omega
  simp only [refItem, List.length_append, be8_len]
  omega
theorem ritems (l : List α38) : ((l.map toX).flatMap refItem).length ≤ 129 * tot sz38 l := by
  induction l with
  | nil => exact Nat.le_refl _
  | cons a l ih =>
    have h := ritem a
    simp only [List.map_cons, List.flatMap_cons, List.length_append, tot]
    omega
theorem ref_ok (v : α66) (hs : sz66 v ≤ 1048576) : (∀ x ∈ (toR v).logs, x.f2.f7.length ≤ 1048576 ∧ x.f3.length ≤ 1048576) ∧ (∀ x ∈ (toR v).logs, (enc (logOf x).cmd).length + 8 * x.f3.length < 1099511627776) ∧ (refRpc (toR v)).length < 1099511627776 := by
  have hi := ritems v.2.2.2.2.2.2.2.2.2.1
  have hn := tot_len (sz := sz3) (fun _ => Nat.le_refl _) v.2.2.2.2.2.2.2.2.2.2.2.2.1
  have hm : ∀ e ∈ v.2.2.2.2.2.2.2.2.2.1, sz38 e ≤ tot sz38 v.2.2.2.2.2.2.2.2.2.1 := fun e he => tot_mem _ e he
  have hb : 129 * tot sz38 v.2.2.2.2.2.2.2.2.2.1 + 8 * v.2.2.2.2.2.2.2.2.2.2.2.2.1.length + v.2.2.2.2.2.2.2.2.2.2.2.2.2.size ≤ 129 * 1048576 ∧ tot sz38 v.2.2.2.2.2.2.2.2.2.1 ≤ 1048576 := by
    simp only [sz66, sz64, sz62, sz61, sz36, sz3, sz4, sz9, Sum2] at hs hn ⊢
    omega
  refine ⟨fun x hx => ?_, fun x hx => ?_, ?_⟩
  · obtain ⟨e, he, rfl⟩ := List.mem_map.1 hx
    have h1 := mnames e
    have h2 := hm e he
    have h3 := (mcmd e).2
    exact ⟨by omega, by show e.2.2.2.length ≤ _; omega⟩
  · obtain ⟨e, he, rfl⟩ := List.mem_map.1 hx
    have h2 := hm e he
    have h3 := mcmd e
    show (enc (logOf (toX e)).cmd).length + 8 * e.2.2.2.length < _
    omega
  · rw [ref_len]
    simp only [toR] at hi ⊢
    omega

set_option maxRecDepth 100000 in
theorem contract (H : Type) (enc : TypeId × Value → H) (W : World) (base : Nat) (args : Array Value) (ds gs : List (DataW H)) (before : List MemPlace)
    (hval : ∀ (j : Nat) t v, Try.f10.params[j]? = some t → args[j]? = some v → Value.okWide Try.prog W .any base t v)
    (hW : DataW.Whole enc Try.prog Try.f10.params.toList Rows.msgApartSpec.vars false W args.toList ds gs before) (hk : Rows.uptoSmall H (ds ++ gs) = true) :
    Calls Try.prog 10 args W fun e W' => ∃ v, e = .returned v ∧ Rows.msgApartSpec.post enc Try.prog Try.f10 false true false false W args v W' := by
  have hW' := hW
  obtain ⟨p, q, hA0, hV, rfl, hfz, hnd⟩ := hW
  have hA : DataW.TrodAll enc Try.prog W 0 (fun _ => true) true Try.f10.params.toList args.toList ds p := hA0
  rw [Try.params10] at hA hval
  obtain ⟨v0, vs0, d0, ds0, p0, q0, hargs, rfl, rfl, h0, r0⟩ := trodAll_cons hA
  obtain ⟨v1, vs1, d1, ds1, p1, q1, rfl, rfl, rfl, h1, r1⟩ := trodAll_cons r0
  obtain ⟨v2, vs2, d2, ds2, p2, q2, rfl, rfl, rfl, h2, r2⟩ := trodAll_cons r1
  obtain ⟨rfl, rfl, rfl⟩ := trodAll_nil r2
  obtain rfl : args = #[v0, v1, v2] := by cases args; simp_all
  obtain ⟨rfl, rfl⟩ := trodVars_none hV
  have k0 := h0
  have lt0 : ∀ x ∈ p0, x.block < W.heap.size := by obtain ⟨m, hm⟩ := k0; exact DataW.trod_lt m _ _ _ hm
  have k1 := h1
  have lt1 : ∀ x ∈ p1, x.block < W.heap.size := by obtain ⟨m, hm⟩ := k1; exact DataW.trod_lt m _ _ _ hm
  have k2 := h2
  have lt2 : ∀ x ∈ p2, x.block < W.heap.size := by obtain ⟨m, hm⟩ := k2; exact DataW.trod_lt m _ _ _ hm
  have hbulk := bulks.bound hk
  simp only [List.append_nil, Rows.uptoBulkAll] at hbulk
  obtain ⟨cs0, rfl, hz0⟩ := okWide_struct Try.underlying66 (hval 0 66 v0 rfl rfl)
  obtain ⟨fuel0, hf0⟩ := h0
  obtain ⟨l0, hK0, hok0, hsz0⟩ := rd66.read _ _ _ hf0
  obtain ⟨A0_0, c0_0, A0_1, c0_1, hcs0, hl0_0, hC0_0, hl0_1, hC0_1⟩ := open66 hK0
  obtain ⟨cs0⟩ := cs0
  have hcs0 : cs0 = _ := hcs0
  subst hcs0
  obtain ⟨a1, rfl, rfl, rfl, w1⟩ := open_int Try.underlying3 (hval 1 3 v1 rfl rfl) h1
  obtain ⟨a2, rfl, rfl, rfl, w2⟩ := open_int Try.underlying3 (hval 2 3 v2 rfl rfl) h2
  have hsm : sz66 l0 ≤ 1048576 := by have h : sz66 l0 ≤ Rows.uptoBulk d0 := hsz0; omega
  obtain ⟨hrok, hfit⟩ := msg_ok l0 hok0 hsm
  have hC1 : Kd.C Mk.k38 W A0_0 (l0.2.2.2.2.2.2.2.2.2.1.map toX).length (l0.2.2.2.2.2.2.2.2.2.1.map toX) := C_iso_map (k := k38) (fun x : Mk.S38 => (x.f0, x.f1, (x.f2.f0, x.f2.f1, x.f2.f2, x.f2.f3, x.f2.f4, x.f2.f5, x.f2.f6, x.f2.f7, x.f2.f8, x.f2.f9, x.f2.f10), x.f3)) toX (fun _ => rfl) hC0_0
  have hlen : (l0.2.2.2.2.2.2.2.2.2.1.map toX).length = l0.2.2.2.2.2.2.2.2.2.1.length := List.length_map ..
  obtain ⟨hx, hs, hrl⟩ := ref_ok l0 hsm
  refine calls_of_args (args' := #[Mp.rpcV (toR l0) A0_0 c0_0 A0_1 c0_1, .int .i64 a1, .int .i64 a2]) (by simp [toR]) ?_
  refine (Ma.apart_any (toR l0) A0_0 c0_0 A0_1 c0_1 a1 a2 W hC1 (by simpa [toR] using hl0_0) hC0_1 hl0_1 hfit hrok (mi64 w2) 1048576 hx hrl).mono fun e W' ⟨he, bel⟩ => ?_
  subst he
  exact ⟨_, rfl, _, _, _, [], _, [], hW', trodAll_mk1 (shut_bool Try.underlying4 _), (trodAll_cons_mk (Below.trod laidOut (by kernel_rfl) (of_decide_eq_true (by kernel_rfl)) k0 bel lt0) (trodAll_cons_mk (Below.trod laidOut (by kernel_rfl) (of_decide_eq_true (by kernel_rfl)) k1 bel lt1) (trodAll_cons_mk (Below.trod laidOut (by kernel_rfl) (of_decide_eq_true (by kernel_rfl)) k2 bel lt2) trodAll_mk0))), rfl, bel.frame _, fun h => by cases h⟩

set_option maxRecDepth 100000 in
theorem lifted (os : Os) (started : os.Started) (H : Type) (enc : TypeId × Value → H) (F : Stop.Interp) :
    ReturnsInHanded {} Try.checked os 10 .any ((Rows.OpenSpec.upto Rows.msgApartSpec).pre6 enc Try.prog Try.f10 Rows.msgApartUptoRow.domain false) (((Rows.OpenSpec.upto Rows.msgApartSpec).at F).post enc Try.prog Try.f10 false true false false) := by
  refine returnsInHanded_of_cond (C := Try.checked) (s := Rows.OpenSpec.upto Rows.msgApartSpec) (k := Rows.uptoSmall) rfl own started (by kernel_rfl) Try.func10
    (OpenSpec.witness (enc := enc) (C := Try.checked) (s := Rows.OpenSpec.upto Rows.msgApartSpec) (k := Rows.uptoSmall) rfl false ⟨#[], #[.agg #[.int .i64 0, .int .i64 0, .int .i64 0, .int .i64 0, .int .i64 0, .int .i64 0, .bool false, .int .i64 0, .int .i64 0, .slice none 0 0, .int .i64 0, .int .i64 0, .slice none 0 0, .string .empty], .int .i64 0, .int .i64 0], []⟩ 8 (by kernel_rfl) (by kernel_rfl) (by kernel_rfl)
      (x := ([.agg [.lit (.int .i64 0), .lit (.int .i64 0), .lit (.int .i64 0), .lit (.int .i64 0), .lit (.int .i64 0), .lit (.int .i64 0), .lit (.bool false), .lit (.int .i64 0), .lit (.int .i64 0), .nil, .agg [.lit (.int .i64 0), .lit (.int .i64 0), .nil, .lit (.string [])]], .lit (.int .i64 0), .lit (.int .i64 0)], [], [])) (by kernel_rfl) rfl (by kernel_rfl)) ?_
  intro W base args ds gs before hval hW _ hk _
  exact contract H enc W base args ds gs before hval hW hk

theorem proved : Rows.MsgApartUptoSaid :=
  OpenClaim.holds_of_cond 10 Try.f10 rfl rfl rfl rfl rfl rfl rfl ⟨rfl, rfl, rfl, rfl, rfl⟩ rfl rfl rfl rfl rfl (by kernel_rfl) Try.func10 (by kernel_rfl)
    (of_decide_eq_true (by kernel_rfl)) (by unfold Func.isWrapper; first | (rw [if_pos (by decide +kernel)]; kernel_rfl) | (rw [if_neg (by decide +kernel)]; exact ⟨rfl, rfl⟩))
    (fun os started H enc _ F => lifted os started H enc F)
end Go.Proofs.Ytjhcbggpbfejgaa.msgApart
namespace Go.Proofs.Ytjhcbggpbfejgaa
/-- The row, under a short name, for the claim. -/
theorem msgApart_upto : Rows.MsgApartUptoSaid := msgApart.proved
#print axioms msgApart_upto
end Go.Proofs.Ytjhcbggpbfejgaa
