/- CodecPuts returns true for every entry and every reply: commands, replies and entries are written as the document says, and read back as what was written. Conditions: what comes in is of bulk at most 1048576. -/
import Derived.Test.YtjhcbggpbfejgaaRt
import Derived.Test.YtjhcbggpbfejgaaPuLaw
import Derived.Test.YtjhcbggpbfejgaaXCodecPutsx6
import Derived.Test.YtjhcbggpbfejgaaRows
import Derived.JoinedCond
namespace Go.Proofs.Ytjhcbggpbfejgaa.codecPuts
open Go.ChangeShapes Go.WideShapes Go.ChangeAt Go.RowKit Go.Joins
open Go.ChangeMaps (open_string shut_string)
open Go.Proofs.YtjhcbggpbfejgaaW.PrintWords Go.Proofs.Ytjhcbggpbfejgaa.Rg
set_option linter.unusedVariables false
theorem own : ownKnob Try.prog.godebug = none := by kernel_rfl
theorem laidOut : laidOutB Try.prog = true := by kernel_rfl

open Go.Proofs.Ytjhcbggpbfejgaa.Cp
theorem txts_tot (l : List ByteArray) : (txts l).length ≤ 8 * tot sz9 l := by
  induction l with
  | nil => exact Nat.le_refl _
  | cons s l ih =>
    have e : txts (s :: l) = txt s ++ txts l := by simp [txts]
    rw [e, List.length_append, txt_len]
    simp only [tot, sz9]
    omega
def toS (e : α93) : XCodecPuts.S93 := ⟨e.1, e.2.1, e.2.2.1, e.2.2.2⟩
theorem ebs_tot (l : List α93) : (Cw.ebs XCodecPuts.q93 (l.map toS)).length ≤ 25 * tot sz93 l := by
  induction l with
  | nil => exact Nat.le_refl _
  | cons s l ih =>
    rw [List.map_cons, XCodecPuts.ebs_cons, List.length_append, Cw.entB_len]
    simp only [tot, sz93, Sum2, sz9, sz3, sz4, toS]
    omega
theorem i64_of {n : Int} (h : IntOk .i64 n) : I64 n := bounds_i64 h

set_option maxRecDepth 100000 in
theorem contract (H : Type) (enc : TypeId × Value → H) (W : World) (base : Nat) (args : Array Value) (ds gs : List (DataW H)) (before : List MemPlace)
    (hval : ∀ (j : Nat) t v, Try.f6.params[j]? = some t → args[j]? = some v → Value.okWide Try.prog W .any base t v)
    (hW : DataW.Whole enc Try.prog Try.f6.params.toList Rows.codecPutsSpec.vars false W args.toList ds gs before) (hk : Rows.uptoSmall H (ds ++ gs) = true) :
    Calls Try.prog 6 args W fun e W' => ∃ v, e = .returned v ∧ Rows.codecPutsSpec.post enc Try.prog Try.f6 false true false false W args v W' := by
  have hW' := hW
  obtain ⟨p, q, hA0, hV, rfl, hfz, hnd⟩ := hW
  have hA : DataW.TrodAll enc Try.prog W 0 (fun _ => true) true Try.f6.params.toList args.toList ds p := hA0
  rw [Try.params6] at hA hval
  obtain ⟨v0, vs0, d0, ds0, p0, q0, hargs, rfl, rfl, h0, r0⟩ := trodAll_cons hA
  obtain ⟨v1, vs1, d1, ds1, p1, q1, rfl, rfl, rfl, h1, r1⟩ := trodAll_cons r0
  obtain ⟨rfl, rfl, rfl⟩ := trodAll_nil r1
  obtain rfl : args = #[v0, v1] := by cases args; simp_all
  obtain ⟨rfl, rfl⟩ := trodVars_none hV
  have k0 := h0
  have lt0 : ∀ x ∈ p0, x.block < W.heap.size := by obtain ⟨m, hm⟩ := k0; exact DataW.trod_lt m _ _ _ hm
  have k1 := h1
  have lt1 : ∀ x ∈ p1, x.block < W.heap.size := by obtain ⟨m, hm⟩ := k1; exact DataW.trod_lt m _ _ _ hm
  have hbulk := bulks.bound hk
  simp only [List.append_nil, Rows.uptoBulkAll] at hbulk
  obtain ⟨cs0, rfl, hz0⟩ := okWide_struct Try.underlying38 (hval 0 38 v0 rfl rfl)
  obtain ⟨fuel0, hf0⟩ := h0
  obtain ⟨l0, hK0, hok0, hsz0⟩ := rd38.read _ _ _ hf0
  obtain ⟨A0_0, c0_0, A0_1, c0_1, hcs0, hl0_0, hC0_0, hl0_1, hC0_1⟩ := open38 hK0
  obtain ⟨cs0⟩ := cs0
  have hcs0 : cs0 = _ := hcs0
  subst hcs0
  obtain ⟨cs1, rfl, hz1⟩ := okWide_struct Try.underlying45 (hval 1 45 v1 rfl rfl)
  obtain ⟨fuel1, hf1⟩ := h1
  obtain ⟨l1, hK1, hok1, hsz1⟩ := rd45.read _ _ _ hf1
  obtain ⟨A1_0, c1_0, hcs1, hl1_0, hC1_0⟩ := open45 hK1
  obtain ⟨cs1⟩ := cs1
  have hcs1 : cs1 = _ := hcs1
  subst hcs1
  have key : XCodecPuts.calepinlaw15_CodecPuts.f 400 _ _ _ _ _ _ _ _ _ _ _ _ _ _ _ _ _ _ _ = some true := XCodecPuts.f_true ⟨l0.1, l0.2.1, ⟨l0.2.2.1.1, l0.2.2.1.2.1, l0.2.2.1.2.2.1, l0.2.2.1.2.2.2.1, l0.2.2.1.2.2.2.2.1, l0.2.2.1.2.2.2.2.2.1, l0.2.2.1.2.2.2.2.2.2.1, l0.2.2.1.2.2.2.2.2.2.2.1, l0.2.2.1.2.2.2.2.2.2.2.2.1, l0.2.2.1.2.2.2.2.2.2.2.2.2.1, l0.2.2.1.2.2.2.2.2.2.2.2.2.2⟩, l0.2.2.2⟩ ⟨i64_of hok0.1, ⟨i64_of hok0.2.2.1.1, i64_of hok0.2.2.1.2.2.2.2.2.2.2.2.1, i64_of hok0.2.2.1.2.2.2.2.2.2.2.2.2.1, i64_of hok0.2.2.1.2.2.2.2.2.2.2.2.2.2⟩, fun n hn => i64_of (hok0.2.2.2 n hn)⟩ (by
    have h := txts_tot l0.2.2.1.2.2.2.2.2.2.2.1
    rw [enc_len]
    simp only [Cmd.six, txts, List.flatMap_cons, List.flatMap_nil, List.length_append, List.length_nil, txt_len] at h ⊢
    simp only [sz38, sz25, sz22, sz3, sz35, sz9, sz23, sz36, Sum2] at hsz0
    omega) (by
    have h := tot_len (sz := sz3) (fun _ => Nat.le_refl _) l0.2.2.2
    simp only [sz38, Sum2, sz36] at hsz0
    dsimp only
    omega) l1.1 l1.2.1 l1.2.2.1 (l1.2.2.2.1.map toS) l1.2.2.2.2 ⟨i64_of hok1.1, i64_of hok1.2.1, fun e he => by obtain ⟨x, hx, rfl⟩ := List.mem_map.1 he; exact i64_of (hok1.2.2.2.1 x hx).2.1⟩ (by
    have h := ebs_tot l1.2.2.2.1
    simp only [Cw.encQ, List.length_append, be8_len, txt_len]
    simp only [sz45, Sum2, sz3, sz9, sz43] at hsz1
    omega)
  have hlen : (l1.2.2.2.1.map toS).length = l1.2.2.2.1.length := List.length_map ..
  have hC1' : Kd.C XCodecPuts.k93 W A1_0 (l1.2.2.2.1.map toS).length (l1.2.2.2.1.map toS) := C_iso_map (k := k93) (fun x : XCodecPuts.S93 => (x.f0, x.f1, x.f2, x.f3)) toS (fun _ => rfl) hC1_0
  have W0 := XCodecPuts.calepinlaw15_CodecPuts.calls 400 _ _ _ _ _ _ _ _ _ A0_0 c0_0 _ _ _ _ A0_1 c0_1 _ _ _ _ A1_0 c1_0 _ _ true W hC0_0 hl0_0 hC0_1 hl0_1 hC1' (by rw [hlen]; exact hl1_0) key rfl
  rw [hlen] at W0
  refine W0.mono fun e W' ⟨he, bel⟩ => ?_
  subst he
  exact ⟨_, rfl, _, _, _, [], _, [], hW', trodAll_mk1 (shut_bool Try.underlying4 _), (trodAll_cons_mk (Below.trod laidOut (by kernel_rfl) (of_decide_eq_true (by kernel_rfl)) k0 bel lt0) (trodAll_cons_mk (Below.trod laidOut (by kernel_rfl) (of_decide_eq_true (by kernel_rfl)) k1 bel lt1) trodAll_mk0)), rfl, bel.frame _, fun h => by cases h⟩

set_option maxRecDepth 100000 in
theorem lifted (os : Os) (started : os.Started) (H : Type) (enc : TypeId × Value → H) (F : Stop.Interp) :
    ReturnsInHanded {} Try.checked os 6 .any ((Rows.OpenSpec.upto Rows.codecPutsSpec).pre6 enc Try.prog Try.f6 Rows.codecPutsUptoRow.domain false) (((Rows.OpenSpec.upto Rows.codecPutsSpec).at F).post enc Try.prog Try.f6 false true false false) := by
  refine returnsInHanded_of_cond (C := Try.checked) (s := Rows.OpenSpec.upto Rows.codecPutsSpec) (k := Rows.uptoSmall) rfl own started (by kernel_rfl) Try.func6
    (OpenSpec.witness (enc := enc) (C := Try.checked) (s := Rows.OpenSpec.upto Rows.codecPutsSpec) (k := Rows.uptoSmall) rfl false ⟨#[], #[.agg #[.int .i64 0, .int .i64 0, .int .i64 0, .string .empty, .string .empty, .string .empty, .string .empty, .string .empty, .string .empty, .slice none 0 0, .int .i64 0, .int .i64 0, .int .i64 0, .slice none 0 0], .agg #[.int .i64 0, .int .i64 0, .string .empty, .slice none 0 0, .string .empty]], []⟩ 8 (by kernel_rfl) (by kernel_rfl) (by kernel_rfl)
      (x := ([.agg [.lit (.int .i64 0), .lit (.int .i64 0), .agg [.lit (.int .i64 0), .lit (.string []), .lit (.string []), .lit (.string []), .lit (.string []), .lit (.string []), .lit (.string []), .nil, .lit (.int .i64 0), .lit (.int .i64 0), .lit (.int .i64 0)], .nil], .agg [.lit (.int .i64 0), .lit (.int .i64 0), .lit (.string []), .nil, .lit (.string [])]], [], [])) (by kernel_rfl) rfl (by kernel_rfl)) ?_
  intro W base args ds gs before hval hW _ hk _
  exact contract H enc W base args ds gs before hval hW hk

theorem proved : Rows.CodecPutsUptoSaid :=
  OpenClaim.holds_of_cond 6 Try.f6 rfl rfl rfl rfl rfl rfl rfl ⟨rfl, rfl, rfl, rfl, rfl⟩ rfl rfl rfl rfl rfl (by kernel_rfl) Try.func6 (by kernel_rfl)
    (of_decide_eq_true (by kernel_rfl)) (by unfold Func.isWrapper; first | (rw [if_pos (by decide +kernel)]; kernel_rfl) | (rw [if_neg (by decide +kernel)]; exact ⟨rfl, rfl⟩))
    (fun os started H enc _ F => lifted os started H enc F)
end Go.Proofs.Ytjhcbggpbfejgaa.codecPuts
namespace Go.Proofs.Ytjhcbggpbfejgaa
/-- The row, under a short name, for the claim. -/
theorem codecPuts_upto : Rows.CodecPutsUptoSaid := codecPuts.proved
#print axioms codecPuts_upto
end Go.Proofs.Ytjhcbggpbfejgaa
