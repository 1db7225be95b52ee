/- The walks of what the laws of messages ask first, and of whether a message is small. -/
import Derived.Test.YtjhcbggpbfejgaaMg
import Derived.Deep.RegionWith
import Derived.Deep.RegionLaw
import Derived.Deep.QuietTactic
namespace Go.Proofs.Ytjhcbggpbfejgaa.Mf
open Go.RowKit Go.Proofs.YtjhcbggpbfejgaaW.PrintWords Go.Proofs.YtjhcbggpbfejgaaW.PrintLast Go.Proofs.YtjhcbggpbfejgaaW.PrintMore
open Go.Proofs.Ytjhcbggpbfejgaa.Cp
open Go.Proofs.Ytjhcbggpbfejgaa.Mk
open Go.Proofs.Ytjhcbggpbfejgaa.Mq
open Go.Proofs.Ytjhcbggpbfejgaa.Ms
open Go.Proofs.Ytjhcbggpbfejgaa.Mp (rpcV rpcC Put_any PutOut info38)
open Go.Proofs.Ytjhcbggpbfejgaa.Mg (Get_any GetOut info66)
open Go.Proofs.Ytjhcbggpbfejgaa.Cw (shape_of bthen)
set_option linter.unusedVariables false
set_option linter.unusedSimpArgs false

theorem R_read {w : World} {base : Nat} {ok : Nat → Prop} {v : Value} {xs : List Int} (h : Kd.R (Kd.int .u8) 5 w base ok v xs) : ∃ A c, v = .slice A xs.length c ∧ xs.length ≤ c ∧ Kd.C (Kd.int .u8) w A xs.length xs := Kd.R_reads h
/-- The first message. -/
def M0 : Rpc := ⟨2, 1, 2, 3, 0, 0, true, 0, 0, [], 0, 0, [], ⟨#[]⟩⟩
theorem M0_put : (putRpc M0).isSome = true ∧ ((putRpc M0).getD []).length = 98 := by decide +kernel
theorem M0_get : (getRpc ((putRpc M0).getD [])).2 = 0 ∧ (getRpc ((putRpc M0).getD [])).1.src = 1 ∧ (getRpc ((putRpc M0).getD [])).1.ok = true := by decide +kernel
theorem Z_put : putRpc zeroRpc = none := by decide +kernel

theorem Bs.logItem (x : S38) : Bs (logItem x) := by
  unfold Mq.logItem logBytes
  refine (Bs.be8 _).append ?_
  cases h : putLog (logOf x) with
  | none => intro y hy; simp at hy
  | some b => exact bs_putLog h
theorem Bs.encRpc (m : Rpc) (h : 0 ≤ m.kind ∧ m.kind < 256) : Bs (encRpc m) := by
  have hk : ∀ k : Int, 0 ≤ k → k < 256 → Bs [k] := fun k h0 h1 x hx => by simp at hx; subst hx; exact ⟨h0, h1⟩
  unfold Mq.encRpc
  refine ((((((((hk _ h.1 h.2).append (Bs.nums8 _)).append (hk _ ?_ ?_)).append (Bs.nums8 _)).append (Bs.flat _ Bs.logItem _)).append (Bs.nums8 _)).append (Bs.nums8 _)).append (Bs.txt _))
  all_goals (unfold okByte; split <;> decide)
theorem Bs.putRpc {m : Rpc} {b : List Int} (h : putRpc m = some b) : Bs b := by
  unfold Mq.putRpc at h
  split at h
  · rename_i hc
    injection h with h
    subst h
    exact Bs.encRpc m (by omega)
  · cases h

set_option maxHeartbeats 1600000 in
set_option maxRecDepth 100000 in
theorem first_any (w : World) : Calls Try.prog 26 #[] w fun e w' => e = .returned (.bool true) ∧ Below w.heap.size w w' := by
  obtain ⟨B0, hB0⟩ : ∃ B0, putRpc M0 = some B0 := Option.isSome_iff_exists.1 M0_put.1
  have hbs := Bs.putRpc hB0
  have hlen : B0.length = 98 := by have := M0_put.2; rwa [hB0] at this
  obtain ⟨g0, g1, g2⟩ := M0_get
  rw [hB0] at g0 g1 g2
  simp only [Option.getD_some] at g0 g1 g2
  obtain ⟨G0, hG0⟩ : ∃ G, getRpc B0 = G := ⟨_, rfl⟩
  rw [hG0] at g0 g1 g2
  have HG0 := Aside0.mk hG0
  have HB0 := Aside0.mk hB0
  have HBS := Aside0.mk hbs
  have HLEN := Aside0.mk hlen
  have e98 : ((B0.length : Int) == 98) = true := by rw [hlen]; rfl
  have e0 : (G0.2 == 0) = true := beq_iff_eq.2 g0
  have e1 : (G0.1.src == 1) = true := beq_iff_eq.2 g1
  clear hB0 hbs hG0 hlen g0 g1
  go_enter Try.func26, Try.ntmps26
  go_wp2_with (first
    | (go_at_call 28; (refine calls_of_args (args' := #[rpcV M0 none 0 none 0]) rfl ?_); go_must (refine (Put_any M0 none 0 none 0 w (Kd.C_nil _ _) (Nat.le_refl _) (Kd.C_nil _ _) ⟨by decide +kernel, fun x hx => by cases hx⟩).mono ?_); rintro e w1 ⟨v1, rfl, ho1, hb1⟩; rw [HB0.out] at ho1 ⊢; simp only [Option.getD_some, Option.isSome_some, if_true] at ho1 ⊢; obtain ⟨A1, c1, rfl, hc1, hr1⟩ := R_read ho1; have HR1 := Aside0.mk hr1; have HC1 := Aside0.mk hc1; have HB1 := Aside0.mk hb1; clear ho1 hb1 hc1 hr1)
    | (go_at_call 30; go_must (refine (Get_any B0 A1 c1 _ HR1.out HC1.out HBS.out (by have := HLEN.out; omega)).mono ?_); rintro e w2 ⟨A2, c2, A3, c3, rfl, _, _, hb2⟩; rw [HG0.out]; have HB2 := Aside0.mk (bthen HB1.out hb2); clear hb2)
    | ((with_reducible refine gate_store (t := 66) (p := 3) rfl ?_); go_must (refine Ca.store_whole (g := w2.heap.size) (e := 66) (old := Mg.zeroC) (cs := rpcC G0.1 A2 c2 A3 c3) rfl rfl 66 (.tmp 3) (.tmp 15) rfl rfl rfl ?hb rfl info66 ?h1 ?_); go_must (case hb => exact blk_new w2 _); go_must (case h1 => exact fun q hq => List.all_eq_true.1 (show (rpcC G0.1 A2 c2 A3 c3).toList.all (fun q => q.oneCell') = true from rfl) q hq); intro w25 hb25 hg25; have HX25 := Aside0.mk hb25; have HB25 := Aside0.mk (bthen HB2.out (Mp.below_new hg25)); clear hb25 hg25)
    | (go_at_call 28; (refine calls_of_args (args' := #[rpcV zeroRpc none 0 none 0]) rfl ?_); go_must (refine (Put_any zeroRpc none 0 none 0 w25 (Kd.C_nil _ _) (Nat.le_refl _) (Kd.C_nil _ _) ⟨by decide +kernel, fun x hx => by cases hx⟩).mono ?_); rintro e w3 ⟨v3, rfl, ho3, hb3⟩; rw [Z_put] at ho3 ⊢; simp only [Option.getD_none, Option.isSome_none, Bool.false_eq_true, if_false] at ho3 ⊢; obtain ⟨A4, c4, rfl, hc4, hr4⟩ := R_read ho3; have hx3 := blk_below HX25.out hb3; have c1 := (blk_cell hx3 1).trans rfl; have c6 := (blk_cell hx3 6).trans rfl; have HB3 := Aside0.mk (bthen HB25.out hb3); clear ho3 hb3 hc4 hr4 hx3))
  go_ret
  exact ⟨rfl, HB3.out⟩

set_option maxHeartbeats 1600000 in
set_option maxRecDepth 100000 in
theorem small_any (m : Rpc) (A : Option Addr) (cap : Nat) (A2 : Option Addr) (cap2 : Nat) (w : World) (hA : Kd.C k38 w A m.logs.length m.logs) (hA2 : Kd.C (Kd.int .i64) w A2 m.nodes.length m.nodes) :
    Calls Try.prog 27 #[rpcV m A cap A2 cap2] w fun e w' => ∃ b : Bool, e = .returned (.bool b) ∧ Below w.heap.size w w' := by
  have HR := Aside0.mk hA
  have hm := hA.2.1
  have hm2 := hA2.2.1
  have HX := Aside0.mk (blk_new w (.cells (rpcC m A cap A2 cap2) 66))
  clear hA hA2
  unfold rpcV
  unfold rpcC at HX
  go_enter Try.func27, Try.ntmps27
  go_wp2
  go_loopw [3, 18] (fun n i wr => ∃ (x y : Int), n = .int .i64 y ∧ i = .int .i64 x ∧ Aside0 (0 ≤ x ∧ x ≤ m.logs.length) ∧ Aside0 (Below w.heap.size w wr)) (fun _ i _ => m.logs.length - (intOf i).toNat)
  case atStart => exact ⟨0, _, rfl, rfl, ⟨by omega⟩, ⟨below_alloc (Below.refl _ _) _⟩⟩
  case round =>
    obtain ⟨x, y, rfl, rfl, HQ, HB⟩ := hrel
    obtain ⟨hx0, hx1⟩ := HQ.out
    by_cases c : x < m.logs.length
    · have e0 : decide (0 ≤ x) = true := decide_eq_true hx0
      have e1 : decide (x < (m.logs.length : Int)) = true := decide_eq_true c
      have hwx : wrap64 (x + 1) = x + 1 := by unfold wrap64; omega
      obtain ⟨ad, A9, c9, A13, c13, e, z0, z1, z2, z3, z4, z5, z6, z7, z8, z9, z10, z11, z12, z13, l9, g9, l13, g13⟩ := at_T38 (Kd.C_below HR.out HB.out) x hx0 c
      cases e
      have ln := g9.2.1
      have lm := g13.2.1
      clear g9 g13 l9 l13
      go_wp2_with ((with_reducible refine gate_store (t := 38) (p := 5) rfl ?_); go_must (refine Ca.store_whole (g := wr.heap.size) (e := 38) (old := Mg.zLog) (cs := Mg.logC (logOf (rd_T38 m.logs x)) A9 c9 A13 c13) rfl rfl 38 (.tmp 5) (.tmp 21) rfl rfl rfl ?hb rfl info38 ?h1 ?_); go_must (case hb => exact blk_new wr _); go_must (case h1 => exact fun q hq => List.all_eq_true.1 (show (Mg.logC (logOf (rd_T38 m.logs x)) A9 c9 A13 c13).toList.all (fun q => q.oneCell') = true from rfl) q hq); intro w9 hb9 hg9; have u5 := (blk_cell hb9 5).trans rfl; have u9 := (blk_cell hb9 9).trans rfl; have u13 := (blk_cell hb9 13).trans rfl; have HBW := Aside0.mk (Mp.below_new hg9); clear hb9 hg9)
      · go_ret
        first | exact bthen HB.out HBW.out | exact ⟨_, rfl, bthen HB.out HBW.out⟩
      · go_roundw
        case rel => exact ⟨x + 1, _, rfl, rfl, ⟨by omega⟩, ⟨bthen HB.out HBW.out⟩⟩
        case measure => simp [intOf]; omega
    · have e1 : decide (x < (m.logs.length : Int)) = false := decide_eq_false c
      go_wp2
      go_ret
      refine ⟨?_, HB.out⟩
      simp
      omega
end Go.Proofs.Ytjhcbggpbfejgaa.Mf
