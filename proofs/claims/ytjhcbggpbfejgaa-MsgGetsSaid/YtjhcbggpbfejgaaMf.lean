/- The walks of what the laws of messages ask first, and of whether a message is small. -/
import Derived.Test.YtjhcbggpbfejgaaMg
import Derived.Deep.RegionWith
import Derived.Deep.RegionLaw
import Derived.Deep.QuietTactic
namespace Go.Proofs.Ytjhcbggpbfejgaa.Mf
open Go.RowKit Go.Proofs.zjt.zjq Go.Proofs.zjt.zjr Go.Proofs.zjt.zjs
open Go.Proofs.Ytjhcbggpbfejgaa.Cp
open Go.Proofs.Ytjhcbggpbfejgaa.Mk
open Go.Proofs.Ytjhcbggpbfejgaa.Mq
open Go.Proofs.Ytjhcbggpbfejgaa.Ms
open Go.Proofs.Ytjhcbggpbfejgaa.Mp (rpcV rpcC zjc PutOut info38)
open Go.Proofs.Ytjhcbggpbfejgaa.Mg (zjd GetOut info66)
open Go.Proofs.Ytjhcbggpbfejgaa.Cw (zcp bthen)
set_option linter.unusedVariables false
set_option linter.unusedSimpArgs false
theorem zit {w : World} {base : Nat} {ok : Nat → Prop} {v : Value} {xs : List Int} (h : Kd.R (Kd.int .u8) 5 w base ok v xs) : ∃ A c, v = .slice A xs.length c ∧ xs.length ≤ c ∧ Kd.C (Kd.int .u8) w A xs.length xs := Kd.zft h
/-- The first message. -/
def M0 : Rpc := ⟨2, 1, 2, 3, 0, 0, true, 0, 0, [], 0, 0, [], ⟨#[]⟩⟩
theorem M0_put : (putRpc M0).isSome = true ∧ ((putRpc M0).getD []).length = 98 := by decide +kernel
theorem M0_get : (getRpc ((putRpc M0).getD [])).2 = 0 ∧ (getRpc ((putRpc M0).getD [])).1.src = 1 ∧ (getRpc ((putRpc M0).getD [])).1.ok = true := by decide +kernel
theorem Z_put : putRpc zeroRpc = none := by decide +kernel
theorem Bs.logItem (x : S38) : Bs (logItem x) := by
  unfold Mq.logItem logBytes
  refine (Bs.be8 _).append ?_
  cases h : putLog (logOf x) with
  | none => intro y hy; simp at hy
  | some b => exact bs_putLog h
theorem Bs.encRpc (m : Rpc) (h : 0 ≤ m.kind ∧ m.kind < 256) : Bs (encRpc m) := by
  have hk : ∀ k : Int, 0 ≤ k → k < 256 → Bs [k] := fun k h0 h1 x hx => by simp at hx; subst hx; exact ⟨h0, h1⟩
  unfold Mq.encRpc
  refine ((((((((hk _ h.1 h.2).append (Bs.nums8 _)).append (hk _ ?_ ?_)).append (Bs.nums8 _)).append (Bs.flat _ Bs.logItem _)).append (Bs.nums8 _)).append (Bs.nums8 _)).append (Bs.txt _))
  all_goals (unfold okByte; split <;> decide)
theorem Bs.putRpc {m : Rpc} {b : List Int} (h : putRpc m = some b) : Bs b := by
  unfold Mq.putRpc at h
  split at h
  · rename_i hc
    injection h with h
    subst h
    exact Bs.encRpc m (by omega)
  · cases h
set_option maxHeartbeats 1600000 in
set_option maxRecDepth 100000 in
theorem zie (w : World) : Calls Try.prog 26 #[] w fun e w' => e = .returned (.bool true) ∧ Below w.heap.size w w' := by
  obtain ⟨B0, hB0⟩ : ∃ B0, putRpc M0 = some B0 := Option.isSome_iff_exists.1 M0_put.1
  have hbs := Bs.putRpc hB0
  have hlen : B0.length = 98 := by have := M0_put.2; rwa [hB0] at this
  obtain ⟨g0, g1, g2⟩ := M0_get
  rw [hB0] at g0 g1 g2
  simp only [Option.getD_some] at g0 g1 g2
  obtain ⟨G0, hG0⟩ : ∃ G, getRpc B0 = G := ⟨_, rfl⟩
  rw [hG0] at g0 g1 g2
  have HG0 := Aside0.mk hG0
  have HB0 := Aside0.mk hB0
  have HBS := Aside0.mk hbs
  have HLEN := Aside0.mk hlen
  have e98 : ((B0.length : Int) == 98) = true := by rw [hlen]; rfl
  have e0 : (G0.2 == 0) = true := beq_iff_eq.2 g0
  have e1 : (G0.1.src == 1) = true := beq_iff_eq.2 g1
  clear hB0 hbs hG0 hlen g0 g1
  go_enter Try.func26, Try.ntmps26
  go_wp2_with (first
    | (go_at_call 28; (refine zdw (args' := #[rpcV M0 none 0 none 0]) rfl ?_); go_must (refine (zjc M0 none 0 none 0 w (Kd.zig _ _) (Nat.le_refl _) (Kd.zig _ _) ⟨by decide +kernel, fun x hx => by cases hx⟩).mono ?_); rintro e w1 ⟨v1, rfl, ho1, hb1⟩; rw [HB0.out] at ho1 ⊢; simp only [Option.getD_some, Option.isSome_some, if_true] at ho1 ⊢; obtain ⟨A1, c1, rfl, hc1, hr1⟩ := zit ho1; have HR1 := Aside0.mk hr1; have HC1 := Aside0.mk hc1; have HB1 := Aside0.mk hb1; clear ho1 hb1 hc1 hr1)
    | (go_at_call 30; go_must (refine (zjd B0 A1 c1 _ HR1.out HC1.out HBS.out (by have := HLEN.out; omega)).mono ?_); rintro e w2 ⟨A2, c2, A3, c3, rfl, _, _, hb2⟩; rw [HG0.out]; have HB2 := Aside0.mk (bthen HB1.out hb2); clear hb2)
    | ((with_reducible refine zbw (t := 66) (p := 3) rfl ?_); go_must (refine Ca.zbq (g := w2.heap.size) (e := 66) (old := Mg.zeroC) (cs := rpcC G0.1 A2 c2 A3 c3) rfl rfl 66 (.tmp 3) (.tmp 15) rfl rfl rfl ?hb rfl info66 ?h1 ?_); go_must (case hb => exact zbt w2 _); go_must (case h1 => exact fun q hq => List.all_eq_true.1 (show (rpcC G0.1 A2 c2 A3 c3).toList.all (fun q => q.oneCell') = true from rfl) q hq); intro w25 hb25 hg25; have HX25 := Aside0.mk hb25; have HB25 := Aside0.mk (bthen HB2.out (Mp.zdz hg25)); clear hb25 hg25)
    | (go_at_call 28; (refine zdw (args' := #[rpcV zeroRpc none 0 none 0]) rfl ?_); go_must (refine (zjc zeroRpc none 0 none 0 w25 (Kd.zig _ _) (Nat.le_refl _) (Kd.zig _ _) ⟨by decide +kernel, fun x hx => by cases hx⟩).mono ?_); rintro e w3 ⟨v3, rfl, ho3, hb3⟩; rw [Z_put] at ho3 ⊢; simp only [Option.getD_none, Option.isSome_none, Bool.false_eq_true, if_false] at ho3 ⊢; obtain ⟨A4, c4, rfl, hc4, hr4⟩ := zit ho3; have hx3 := zbn HX25.out hb3; have c1 := (zaa hx3 1).trans rfl; have c6 := (zaa hx3 6).trans rfl; have HB3 := Aside0.mk (bthen HB25.out hb3); clear ho3 hb3 hc4 hr4 hx3))
  go_ret
  exact ⟨rfl, HB3.out⟩
end Go.Proofs.Ytjhcbggpbfejgaa.Mf
