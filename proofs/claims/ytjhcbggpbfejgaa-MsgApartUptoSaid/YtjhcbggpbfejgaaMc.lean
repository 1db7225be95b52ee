/- The walk of the law MsgCuts. -/
import Derived.Test.YtjhcbggpbfejgaaMf
import Derived.Test.YtjhcbggpbfejgaaMz
import Derived.Test.YtjhcbggpbfejgaaL3
import Derived.Deep.QuietTactic
import Derived.Deep.RegionWith
import Derived.Deep.RegionLaw
namespace Go.Proofs.Ytjhcbggpbfejgaa.Mc
open Go.RowKit Go.Proofs.YtjhcbggpbfejgaaW.PrintWords Go.Proofs.YtjhcbggpbfejgaaW.PrintLast Go.Proofs.YtjhcbggpbfejgaaW.PrintMore
open Go.Proofs.Ytjhcbggpbfejgaa.Cp
open Go.Proofs.Ytjhcbggpbfejgaa.Mk
open Go.Proofs.Ytjhcbggpbfejgaa.Mq
open Go.Proofs.Ytjhcbggpbfejgaa.Ms
open Go.Proofs.Ytjhcbggpbfejgaa.Mz
open Go.Proofs.Ytjhcbggpbfejgaa.Mf
open Go.Proofs.Ytjhcbggpbfejgaa.Mp (rpcV rpcC Put_any PutOut)
open Go.Proofs.Ytjhcbggpbfejgaa.Mg (Get_any GetOut info66)
open Go.Proofs.Ytjhcbggpbfejgaa.Cw (shape_of bthen info5)
open Go.Proofs.Ytjhcbggpbfejgaa.Cr (emptyRow)
set_option linter.unusedVariables false
set_option linter.unusedSimpArgs false

theorem emptyRow1 {w : World} {base : Nat} (hs : base ≤ w.heap.size) : Kd.R (Kd.int .u8) 5 (w.alloc (.cells #[] 5)) base (fun _ => True) (.slice (some ⟨w.heap.size, 0, none⟩) 0 0) [] :=
  Kd.R_of_own (h1 := fun _ => rfl) (World.ownsRow_made (base := base) (e := 5) (size := 1) w #[] 0 hs (by simp [maxLen]) rfl) (fun _ _ => trivial)
theorem put_enc {m : Rpc} {xs : List Int} (h : putRpc m = some xs) : xs = encRpc m ∧ m.logs.all logGood = true ∧ 1 ≤ m.kind ∧ m.kind ≤ 6 := by
  unfold putRpc at h
  split at h
  · rename_i hc
    injection h with h
    exact ⟨h.symm, hc.2.2, hc.1, hc.2.1⟩
  · cases h
theorem rpcR_whole {m : Rpc} {xs : List Int} (hm : ROk m) (h : putRpc m = some xs) (t : List Int) : (rpcR (xs ++ t, 0)).2 = (t, 0) := by
  obtain ⟨rfl, hg, _, _⟩ := put_enc h
  rw [rpcR_enc m hm hg t]
theorem get_cut {m : Rpc} {xs : List Int} (hm : ROk m) (h : putRpc m = some xs) (k : Nat) (hk : k < xs.length) : (getRpc (xs.take k)).2 = 150 := by
  have h1 := rpcR_whole hm h []
  rw [List.append_nil] at h1
  have h2 := good_rpcR.cut (xs := xs) (by rw [h1]) k hk
  rw [rpcR_g] at h2
  have h3 : (g10 (xs.take k)).2.2 = 150 := h2
  simp [getRpc, gErr, h3]
theorem get_more {m : Rpc} {xs : List Int} (hm : ROk m) (h : putRpc m = some xs) (y : Int) : (getRpc (xs ++ [y])).2 = 151 := by
  have h1 := rpcR_whole hm h [y]
  rw [rpcR_g] at h1
  have h3 : (g10 (xs ++ [y])).2 = ([y], 0) := h1
  simp [getRpc, gErr, h3]

set_option maxHeartbeats 6400000 in
set_option maxRecDepth 100000 in
theorem cuts_any (m : Rpc) (A : Option Addr) (cap : Nat) (A2 : Option Addr) (cap2 : Nat) (x : Int) (w : World) (hA : Kd.C k38 w A m.logs.length m.logs) (hc : m.logs.length ≤ cap) (hA2 : Kd.C (Kd.int .i64) w A2 m.nodes.length m.nodes) (hok : ROk m) (hfit : fitsRpc m) :
    Calls Try.prog 9 #[rpcV m A cap A2 cap2, .int .i64 x] w fun e w' => e = .returned (.bool true) ∧ Below w.heap.size w w' := by
  have HR := Aside0.mk hA
  have HRC := Aside0.mk hc
  have HR2 := Aside0.mk hA2
  have HOK := Aside0.mk hok
  have HF := Aside0.mk hfit
  have hm1 := hA.2.1
  have hm2 := hA2.2.1
  have HX := Aside0.mk (blk_new w (.cells (rpcC m A cap A2 cap2) 66))
  clear hA hc hA2 hok hfit
  cases hput : putRpc m with
  | none =>
    have HPUT := Aside0.mk hput
    clear hput
    go_enter Try.func9, Try.ntmps9
    go_wp2_with (first
      | (go_at_call 26; go_must (refine (first_any _).mono ?_); rintro e w1 ⟨rfl, hb1⟩; have hx1 := blk_below HX.out hb1; have HX1 := Aside0.mk hx1; have c0 := (blk_cell hx1 0).trans rfl; have c1 := (blk_cell hx1 1).trans rfl; have c2 := (blk_cell hx1 2).trans rfl; have c3 := (blk_cell hx1 3).trans rfl; have c4 := (blk_cell hx1 4).trans rfl; have c5 := (blk_cell hx1 5).trans rfl; have c6 := (blk_cell hx1 6).trans rfl; have c7 := (blk_cell hx1 7).trans rfl; have c8 := (blk_cell hx1 8).trans rfl; have c9 := (blk_cell hx1 9).trans rfl; have c10 := (blk_cell hx1 10).trans rfl; have c11 := (blk_cell hx1 11).trans rfl; have c12 := (blk_cell hx1 12).trans rfl; have c13 := (blk_cell hx1 13).trans rfl; have HB1 := Aside0.mk (bthen (below_alloc (Below.refl _ _) _) hb1); clear hb1 hx1)
      | (go_at_call 27; go_must (refine calls_of_args (args' := #[rpcV m A cap A2 cap2]) rfl ?_); go_must (refine (small_any m A cap A2 cap2 w1 (Kd.C_below HR.out HB1.out) (Kd.C_below HR2.out HB1.out)).mono ?_); rintro e w2 ⟨b2, rfl, hb2⟩; have hx2 := blk_below HX1.out hb2; have HX2 := Aside0.mk hx2; have d0 := (blk_cell hx2 0).trans rfl; have d1 := (blk_cell hx2 1).trans rfl; have d2 := (blk_cell hx2 2).trans rfl; have d3 := (blk_cell hx2 3).trans rfl; have d4 := (blk_cell hx2 4).trans rfl; have d5 := (blk_cell hx2 5).trans rfl; have d6 := (blk_cell hx2 6).trans rfl; have d7 := (blk_cell hx2 7).trans rfl; have d8 := (blk_cell hx2 8).trans rfl; have d9 := (blk_cell hx2 9).trans rfl; have d10 := (blk_cell hx2 10).trans rfl; have d11 := (blk_cell hx2 11).trans rfl; have d12 := (blk_cell hx2 12).trans rfl; have d13 := (blk_cell hx2 13).trans rfl; have HB2 := Aside0.mk (bthen HB1.out hb2); clear hb2 hx2)
      | (go_at_call 28; go_must (refine calls_of_args (args' := #[rpcV m A cap A2 cap2]) rfl ?_); go_must (refine (Put_any m A cap A2 cap2 w2 (Kd.C_below HR.out HB2.out) HRC.out (Kd.C_below HR2.out HB2.out) HF.out).mono ?_); rintro e w3 ⟨v3, rfl, ho3, hb3⟩; rw [HPUT.out] at ho3 ⊢; simp only [Option.getD_none, Option.isSome_none, Bool.false_eq_true, if_false] at ho3 ⊢; obtain ⟨A3, c3, rfl, hc3, hr3⟩ := R_read ho3; have HB3 := Aside0.mk (bthen HB2.out hb3); clear ho3 hb3 hc3 hr3))
    all_goals go_ret
    all_goals first | exact ⟨rfl, HB3.out⟩ | exact ⟨rfl, HB2.out⟩
  | some xs =>
    have HPUT := Aside0.mk hput
    have hlx : xs.length < 68719476736 := by rw [(put_enc hput).1]; exact HOK.out.len
    have hpos : 0 < xs.length := by rw [(put_enc hput).1, enc_len']; omega
    have HBS := Aside0.mk (Bs.putRpc hput)
    obtain ⟨k, hk, hkx⟩ : ∃ k : Nat, wrap64 ((IntKind.u64.wrap x).tmod (xs.length : Int)) = (k : Int) ∧ k < xs.length := by
      have h0 : 0 ≤ IntKind.u64.wrap x := by simp [IntKind.wrap, IntKind.signed, IntKind.bits]; omega
      have h1 : (IntKind.u64.wrap x).tmod (xs.length : Int) = (IntKind.u64.wrap x) % (xs.length : Int) := by rw [Int.tmod_eq_emod_of_nonneg h0]
      have h2 := Int.emod_nonneg (IntKind.u64.wrap x) (show (xs.length : Int) ≠ 0 by omega)
      have h3 := Int.emod_lt_of_pos (IntKind.u64.wrap x) (show 0 < (xs.length : Int) by omega)
      rw [h1]
      generalize IntKind.u64.wrap x % (xs.length : Int) = y at *
      exact ⟨y.toNat, by unfold wrap64; omega, by omega⟩
    obtain ⟨G1, hG1⟩ : ∃ G, getRpc (xs.take k) = G := ⟨_, rfl⟩
    obtain ⟨G2, hG2⟩ : ∃ G, getRpc (xs ++ [x % 256]) = G := ⟨_, rfl⟩
    have HG1 := Aside0.mk hG1
    have HG2 := Aside0.mk hG2
    have e150 : G1.2 = 150 := by rw [← hG1]; exact get_cut HOK.out hput k hkx
    have e151 : G2.2 = 151 := by rw [← hG2]; exact get_more HOK.out hput _
    clear hput hG1 hG2
    go_enter Try.func9, Try.ntmps9
    go_upto_region 8 with (first
      | (go_at_call 26; go_must (refine (first_any _).mono ?_); rintro e w1 ⟨rfl, hb1⟩; have hx1 := blk_below HX.out hb1; have HX1 := Aside0.mk hx1; have c0 := (blk_cell hx1 0).trans rfl; have c1 := (blk_cell hx1 1).trans rfl; have c2 := (blk_cell hx1 2).trans rfl; have c3 := (blk_cell hx1 3).trans rfl; have c4 := (blk_cell hx1 4).trans rfl; have c5 := (blk_cell hx1 5).trans rfl; have c6 := (blk_cell hx1 6).trans rfl; have c7 := (blk_cell hx1 7).trans rfl; have c8 := (blk_cell hx1 8).trans rfl; have c9 := (blk_cell hx1 9).trans rfl; have c10 := (blk_cell hx1 10).trans rfl; have c11 := (blk_cell hx1 11).trans rfl; have c12 := (blk_cell hx1 12).trans rfl; have c13 := (blk_cell hx1 13).trans rfl; have HB1 := Aside0.mk (bthen (below_alloc (Below.refl _ _) _) hb1); clear hb1 hx1)
      | (go_at_call 27; go_must (refine calls_of_args (args' := #[rpcV m A cap A2 cap2]) rfl ?_); go_must (refine (small_any m A cap A2 cap2 w1 (Kd.C_below HR.out HB1.out) (Kd.C_below HR2.out HB1.out)).mono ?_); rintro e w2 ⟨b2, rfl, hb2⟩; have hx2 := blk_below HX1.out hb2; have HX2 := Aside0.mk hx2; have d0 := (blk_cell hx2 0).trans rfl; have d1 := (blk_cell hx2 1).trans rfl; have d2 := (blk_cell hx2 2).trans rfl; have d3 := (blk_cell hx2 3).trans rfl; have d4 := (blk_cell hx2 4).trans rfl; have d5 := (blk_cell hx2 5).trans rfl; have d6 := (blk_cell hx2 6).trans rfl; have d7 := (blk_cell hx2 7).trans rfl; have d8 := (blk_cell hx2 8).trans rfl; have d9 := (blk_cell hx2 9).trans rfl; have d10 := (blk_cell hx2 10).trans rfl; have d11 := (blk_cell hx2 11).trans rfl; have d12 := (blk_cell hx2 12).trans rfl; have d13 := (blk_cell hx2 13).trans rfl; have HB2 := Aside0.mk (bthen HB1.out hb2); clear hb2 hx2)
      | (go_at_call 28; go_must (refine calls_of_args (args' := #[rpcV m A cap A2 cap2]) rfl ?_); go_must (refine (Put_any m A cap A2 cap2 w2 (Kd.C_below HR.out HB2.out) HRC.out (Kd.C_below HR2.out HB2.out) HF.out).mono ?_); rintro e w3 ⟨v3, rfl, ho3, hb3⟩; rw [HPUT.out] at ho3 ⊢; simp only [Option.getD_some, Option.isSome_some, if_true] at ho3 ⊢; obtain ⟨A3, kp3, rfl, hc3, hr3⟩ := R_read ho3; have HR3 := Aside0.mk hr3; have HC3 := Aside0.mk hc3; have HB3 := Aside0.mk (bthen HB2.out hb3); clear ho3 hb3 hr3))
    · go_ret
      exact ⟨rfl, HB2.out⟩
    · clear c0 d0 c1 d1 c2 d2 c3 d3 c4 d4 c5 d5 c6 d6 c7 d7 c8 d8 c9 d9 c10 d10 c11 d11 c12 d12 c13 d13
      go_upto_region 9 with (first
        | (go_at_call 30; (refine calls_of_args (args' := #[.slice A3 (xs.take k).length kp3]) ?ca1 ?_); (case ca1 => (rw [List.length_take, Nat.min_eq_left (by omega)]; done)); (with_reducible refine (Get_any (xs.take k) A3 kp3 w3 (Kd.C_take HR3.out ?q1) ?q2 (HBS.out.take k) ?q3).mono ?_); (case q1 => omega); (case q2 => have := HC3.out; rw [List.length_take]; omega); (case q3 => rw [List.length_take]; omega); rintro e w4 ⟨A4, k4, B4, l4, rfl, _, _, hb4⟩; rw [HG1.out]; have HR4 := Aside0.mk (Kd.C_below HR3.out hb4); have HB4 := Aside0.mk (bthen HB3.out hb4); clear hb4)
        | ((with_reducible refine gate_store (t := 66) (p := 7) rfl ?_); go_must (refine Ca.store_whole (g := w4.heap.size) (e := 66) (old := Mg.zeroC) (cs := rpcC (G1).1 A4 k4 B4 l4) rfl rfl 66 (.tmp 7) (.tmp 34) rfl rfl rfl ?hb rfl info66 ?h1 ?_); go_must (case hb => exact blk_new w4 _); go_must (case h1 => exact fun q hq => List.all_eq_true.1 (show (rpcC (G1).1 A4 k4 B4 l4).toList.all (fun q => q.oneCell') = true from rfl) q hq); intro w5 hb5 hg5; have HB5 := Aside0.mk (bthen HB4.out (Mp.below_new hg5)); have HK5 := Aside0.mk (Mp.below_new hg5); clear hb5 hg5))
      have HR5 := Aside0.mk (Kd.C_below HR4.out HK5.out)
      go_wp2_with (first
        | ((with_reducible refine gate_builtin (b := .append) (xs := #[.tmp 37, .tmp 38]) rfl ?_); at_builtin; go_must (refine Kd.R_append_row (Value.int .u8) 0 (h1 := fun _ => rfl) (w0 := w) w.heap.size rfl (.tmp 37) (.tmp 38) 27 5 (.int .u8 0) 1 rfl Try.underlying27 info5 rfl (by omega) (.slice (some ⟨w5.heap.size, 0, none⟩) 0 0) [] xs A3 xs.length kp3 (fun _ => True) rfl rfl (fun _ _ => trivial) ?aO ?aR ?aB ?aS ?aL ?_); go_must (case aO => exact emptyRow1 HB5.out.size); go_must (case aR => exact Kd.C_below HR5.out (below_alloc (Below.refl _ _) _)); go_must (case aB => exact below_alloc HB5.out _); go_must (case aS => exact (below_alloc HB5.out _).size); go_must (case aL => simp; omega); intro v6 w6 ho6 hb6 hg6 _; have HO6 := Aside0.mk ho6; have HB6 := Aside0.mk hb6; clear ho6 hb6 hg6)
        | ((with_reducible refine gate_builtin (b := .append) (xs := #[.tmp 39, .tmp 42]) rfl ?_); at_builtin; go_must (refine Kd.R_append (Kd.int .u8) (w0 := w) w.heap.size rfl (.tmp 39) (.tmp 42) 27 5 (.int .u8 0) 1 rfl Try.underlying27 info5 rfl (by decide) (by omega) v6 ([] ++ xs) (x % 256) [.int .u8 (x % 256)] (fun _ => True) (fun _ => False) rfl rfl rfl (fun _ hk => hk.elim) ?bF ?bO ?bB ?bS ?bL ?_); go_must (case bF => exact fun _ _ => trivial); go_must (case bO => exact HO6.out); go_must (case bB => exact HB6.out); go_must (case bS => exact HB6.out.size); go_must (case bL => simp; omega); intro v7 w7 ho7 hb7 hg7 _; obtain ⟨A7, k7, rfl, hc7, hr7⟩ := R_read ho7; have HR7 := Aside0.mk hr7; have HC7 := Aside0.mk hc7; have HB7 := Aside0.mk hb7; clear ho7 hb7 hg7 hr7 hc7)
        | (go_at_call 30; go_must (refine calls_of_args (args' := #[.slice A7 (xs ++ [x % 256]).length k7]) (by simp) ?_); go_must (refine (Get_any (xs ++ [x % 256]) A7 k7 w7 (by simpa using HR7.out) (by simpa using HC7.out) (HBS.out.append (fun y hy => by simp at hy; omega)) (by simp; omega)).mono ?_); rintro e w8 ⟨A8, k8, B8, l8, rfl, _, _, hb8⟩; rw [HG2.out]; have HB8 := Aside0.mk (bthen HB7.out hb8); clear hb8)
        | ((with_reducible refine gate_store (t := 66) (p := 9) rfl ?_); go_must (refine Ca.store_whole (g := w8.heap.size) (e := 66) (old := Mg.zeroC) (cs := rpcC (G2).1 A8 k8 B8 l8) rfl rfl 66 (.tmp 9) (.tmp 45) rfl rfl rfl ?hb rfl info66 ?h1 ?_); go_must (case hb => exact blk_new w8 _); go_must (case h1 => exact fun q hq => List.all_eq_true.1 (show (rpcC (G2).1 A8 k8 B8 l8).toList.all (fun q => q.oneCell') = true from rfl) q hq); intro w9 hb9 hg9; have HB9 := Aside0.mk (bthen HB8.out (Mp.below_new hg9)); have HK9 := Aside0.mk (Mp.below_new hg9); clear hb9 hg9))
      go_ret
      exact ⟨rfl, HB9.out⟩
end Go.Proofs.Ytjhcbggpbfejgaa.Mc
