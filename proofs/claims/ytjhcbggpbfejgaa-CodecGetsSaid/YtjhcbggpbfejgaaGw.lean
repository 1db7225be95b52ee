/- The walk of the law CodecGets, by hand. -/
import Derived.Test.YtjhcbggpbfejgaaGx
import Derived.Deep.QuietTactic
import Derived.Deep.RegionWith
import Derived.Deep.RegionLaw
namespace Go.Proofs.Ytjhcbggpbfejgaa.Gw
open Go.RowKit Go.Proofs.YtjhcbggpbfejgaaW.PrintWords Go.Proofs.YtjhcbggpbfejgaaW.PrintLast Go.Proofs.YtjhcbggpbfejgaaW.PrintMore
open Go.Proofs.Ytjhcbggpbfejgaa.Cp
open Go.Proofs.Ytjhcbggpbfejgaa.Cw (bthen info5)
open Go.Proofs.Ytjhcbggpbfejgaa.XCodecGets (S93 k93 mk93 q93 IsS50 command_s reply_s log_s end_s st_zero st)
open Go.Proofs.Ytjhcbggpbfejgaa.Gs (canon)
set_option linter.unusedVariables false
set_option linter.unusedSimpArgs false
theorem norm_q {Q : Exit → Act → World → Prop} {a a' : Act} {w : World} (h : a = a') (k : Q .normal a' w) : Q .normal a w := h ▸ k
set_option maxRecDepth 100000 in
theorem gets_long (xs : List Int) (A0 : Option Addr) (c0 : Nat) (w : World) (hl : 50000 < xs.length) (hr0 : Kd.C (Kd.int .u8) w A0 xs.length xs) :
    Calls Try.prog 5 #[.slice A0 xs.length c0] w fun e w' => e = .returned (.bool true) ∧ Below w.heap.size w w' := by
  have hm := hr0.2.1
  have d1 : decide (50000 < (xs.length : Int)) = true := decide_eq_true (by omega)
  have d2 : decide (50000 < xs.length) = true := decide_eq_true (by omega)
  clear hr0 hl
  go_enter Try.func5, Try.ntmps5
  go_wp2_with (go_at_call 11; go_must (refine (Cr.first_any _).mono ?_); rintro e w1 ⟨rfl, hb1⟩; have HB1 := Aside0.mk hb1; clear hb1)
  go_ret
  exact ⟨rfl, HB1.out⟩
set_option maxHeartbeats 4000000 in
set_option maxRecDepth 100000 in
theorem gets_short (xs : List Int) (A0 : Option Addr) (c0 : Nat) (w : World) (hl : xs.length ≤ 50000) (hr0 : Kd.C (Kd.int .u8) w A0 xs.length xs) (hc0 : xs.length ≤ c0) (hb : Bs xs) :
    Calls Try.prog 5 #[.slice A0 xs.length c0] w fun e w' => e = .returned (.bool true) ∧ Below w.heap.size w w' := by
  have HR := Aside0.mk hr0
  have HC := Aside0.mk hc0
  have HBS := Aside0.mk hb
  have d1 : decide (50000 < (xs.length : Int)) = false := decide_eq_false (by omega)
  have d2 : decide (50000 < xs.length) = false := decide_eq_false (by omega)
  obtain ⟨C, hC⟩ : ∃ C, getCommand xs = C := ⟨_, rfl⟩
  obtain ⟨R, hR⟩ : ∃ R, Cr.getReply mk93 xs = R := ⟨_, rfl⟩
  obtain ⟨L, hL⟩ : ∃ L, getLog xs = L := ⟨_, rfl⟩
  have HCC := Aside0.mk hC
  have HRR := Aside0.mk hR
  have HLL := Aside0.mk hL
  clear hr0 hc0 hb hC hR hL
  go_enter Try.func5, Try.ntmps5
  go_upto_block 0 with (first
    | (go_at_call 11; go_must (refine (Cr.first_any _).mono ?_); rintro e w1 ⟨rfl, hb1⟩; have HB1 := Aside0.mk hb1; clear hb1)
    | ((with_reducible refine gate_builtin (b := .append) (xs := #[.tmp 26, .tmp 27]) rfl ?_); at_builtin; go_must (refine Kd.R_append_row (Value.int .u8) 0 (h1 := fun _ => rfl) (w0 := w) w.heap.size rfl (.tmp 26) (.tmp 27) 27 5 (.int .u8 0) 1 rfl Try.underlying27 info5 rfl (by omega) (.slice (some ⟨w1.heap.size, 0, none⟩) 0 0) [] xs A0 xs.length c0 (fun _ => True) rfl rfl (fun _ _ => trivial) ?aO ?aR ?aB ?aS ?aL ?_); go_must (case aO => exact emptyRow HB1.out.size); go_must (case aR => exact Kd.C_below HR.out (bthen HB1.out (below_alloc (Below.refl _ _) _))); go_must (case aB => exact below_alloc HB1.out _); go_must (case aS => exact (below_alloc HB1.out _).size); go_must (case aL => simp; omega); intro v2 w2 ho2 hb2 hg2 _; rw [List.nil_append] at ho2; obtain ⟨Ao, co, rfl, hco, hro⟩ := Kd.R_reads ho2; have HO2 := Aside0.mk ho2; have HRO := Aside0.mk hro; have HCO := Aside0.mk hco; have HB2 := Aside0.mk hb2; clear ho2 hb2 hg2 hro hco)
    | (go_at_call 13; go_must (refine (show Calls Try.prog 13 #[.slice Ao xs.length co] w2 (Cr.GetOut w2 C) from HCC.out ▸ Cr.GetCommand_any xs Ao co w2 HRO.out HCO.out HBS.out (by omega)).mono ?_); rintro e w3 ⟨A3, k3, rfl, ho3, hb3⟩; have HO3 := Aside0.mk ho3; have HB3 := Aside0.mk hb3; clear ho3 hb3)
    | ((with_reducible refine gate_store (t := 25) (p := 4) rfl ?_); go_must (refine Ca.store_whole (g := w3.heap.size) (e := 25) (old := zC) (cs := cmdC C.1 A3 k3) rfl rfl 25 (.tmp 4) (.tmp 32) rfl rfl rfl ?hb rfl infoC ?h1 ?_); go_must (case hb => exact blk_new w3 _); go_must (case h1 => exact fun q hq => List.all_eq_true.1 (show (cmdC C.1 A3 k3).toList.all (fun q => q.oneCell') = true from rfl) q hq); intro w4 hb4 hg4; have HX4 := Aside0.mk hb4; have HK4 := Aside0.mk (below_new' hg4); clear hb4 hg4)
    | (go_at_call 16; go_must (refine (Cr.GetReply_any (fun x : S93 => (x.f0, x.f1, x.f2, x.f3)) mk93 (fun _ => rfl) xs Ao co w4 (Kd.C_below HRO.out (bthen HB3.out HK4.out)) HCO.out HBS.out (by omega)).mono ?_); rintro e w5 ⟨v5, he5, ho5, hb5⟩; rw [HRR.out] at he5 ho5; cases he5; obtain ⟨A5, k5, rfl, hc5, hr5⟩ := Kd.R_reads ho5; have HO5 := Aside0.mk ho5; have HB5 := Aside0.mk hb5; clear ho5 hb5 hc5 hr5)
    | ((with_reducible refine gate_store (t := 45) (p := 6) rfl ?_); go_must (refine Ca.store_whole (g := w5.heap.size) (e := 45) (old := zR) (cs := repC R.1 (.slice A5 R.1.ents.length k5)) rfl rfl 45 (.tmp 6) (.tmp 37) rfl rfl rfl ?hb rfl infoR ?h1 ?_); go_must (case hb => exact blk_new w5 _); go_must (case h1 => exact fun q hq => List.all_eq_true.1 (show (repC R.1 (.slice A5 R.1.ents.length k5)).toList.all (fun q => q.oneCell') = true from rfl) q hq); intro w6 hb6 hg6; have HX6 := Aside0.mk hb6; have HK6 := Aside0.mk (below_new' hg6); clear hb6 hg6)
    | (go_at_call 15; go_must (refine (show Calls Try.prog 15 #[.slice Ao xs.length co] w6 (Cr.GetLogOut w6 L) from HLL.out ▸ Cr.GetLog_any xs Ao co w6 (Kd.C_below HRO.out (bthen (bthen HB3.out HK4.out) (bthen HB5.out HK6.out))) HCO.out HBS.out (by omega)).mono ?_); rintro e w7 ⟨A7, k7, A8, k8, rfl, ho7, ho8, hb7⟩; have HO7 := Aside0.mk ho7; have HO8 := Aside0.mk ho8; have HB7 := Aside0.mk hb7; clear ho7 ho8 hb7)
    | ((with_reducible refine gate_store (t := 38) (p := 8) rfl ?_); go_must (refine Ca.store_whole (g := w7.heap.size) (e := 38) (old := zL) (cs := logD L.1 A7 k7 A8 k8) rfl rfl 38 (.tmp 8) (.tmp 42) rfl rfl rfl ?hb rfl infoL ?h1 ?_); go_must (case hb => exact blk_new w7 _); go_must (case h1 => exact fun q hq => List.all_eq_true.1 (show (logD L.1 A7 k7 A8 k8).toList.all (fun q => q.oneCell') = true from rfl) q hq); intro w8 hb8 hg8; have HX8 := Aside0.mk hb8; have HK8 := Aside0.mk (below_new' hg8); clear hb8 hg8))
  have B78 := Aside0.mk (bthen HB7.out HK8.out)
  have B58 := Aside0.mk (bthen (bthen HB5.out HK6.out) B78.out)
  have B28 := Aside0.mk (bthen (bthen HB3.out HK4.out) B58.out)
  have HKP := Aside0.mk (show Kept w w3.heap.size w5.heap.size w7.heap.size C.1 R.1 L.1 A3 k3 A5 k5 A7 k7 A8 k8 w8 from ⟨⟨_, Kd.R_below (Kd.R_below HO3.out HK4.out) B58.out⟩, ⟨_, Kd.R_below (Kd.R_below HO5.out HK6.out) B78.out⟩, ⟨_, Kd.R_below HO7.out HK8.out⟩, ⟨_, Kd.R_below HO8.out HK8.out⟩, blk_below HX4.out B58.out, blk_below HX6.out B78.out, HX8.out, bthen HB2.out B28.out⟩)
  have HOW := Aside0.mk (Kd.R_below HO2.out B28.out)
  clear HO3 HO5 HO7 HO8 HX4 HX6 HX8 HO2
  go_cut [] (fun wc => ∃ W, W = wc ∧ Aside0 (Kept w w3.heap.size w5.heap.size w7.heap.size C.1 R.1 L.1 A3 k3 A5 k5 A7 k7 A8 k8 W))
  case first =>
    go_wp2_with fail
    go_loopw [46] (fun i wr => ∃ (x : Int) (ys : List Int), i = .int .i64 x ∧ Aside0 (0 ≤ x ∧ x ≤ xs.length) ∧ Aside0 (Kd.R (Kd.int .u8) 5 wr w.heap.size (fun _ => True) (.slice Ao xs.length co) ys ∧ ys.length = xs.length) ∧ Aside0 (Kept w w3.heap.size w5.heap.size w7.heap.size C.1 R.1 L.1 A3 k3 A5 k5 A7 k7 A8 k8 wr)) (fun i _ => xs.length - (intOf i).toNat)
    case atStart => exact ⟨0, xs, rfl, ⟨by omega⟩, ⟨HOW.out, rfl⟩, HKP⟩
    case round =>
      obtain ⟨x, ys, rfl, HX, HY, HKR⟩ := hrel
      obtain ⟨hx0, hx1⟩ := HX.out
      by_cases c : x < xs.length
      · have e0 : decide (0 ≤ x) = true := decide_eq_true hx0
        have e1 : decide (x < (xs.length : Int)) = true := decide_eq_true c
        obtain ⟨g, cp, eo, gb, gl, cl⟩ := Kd.R_form HY.out.1 (by have := HY.out.2; omega)
        injection eo with ea en ec
        subst ea
        obtain ⟨hcl, hfz⟩ := Kd.R_celln 0 HY.out.1 x hx0 c
        have GB := Aside0.mk gb
        clear en ec gb gl cl
        go_wp2_with fail
        go_roundw
        case rel => exact ⟨x + 1, _, rfl, ⟨by omega⟩, ⟨(Kd.R_putg HY.out.1 x _).1, by rw [List.length_set]; exact HY.out.2⟩, ⟨Kept.put HKR.out HY.out.1 GB.out x _⟩⟩
        case measure => simp [intOf]; omega
      · have e1 : decide (x < (xs.length : Int)) = false := decide_eq_false c
        go_wp2_with fail
        go_meet
        exact ⟨_, rfl, HKR⟩
  case rest =>
    obtain ⟨W, hW, HKP2⟩ := hcut
    subst hW
    have hWw := HKP2.out.b.size
    obtain ⟨a1, s1, f1, e1, l1, r1, t1⟩ := command_s HBS.out (by omega) xs.length (Nat.le_refl _) 0 false false (by omega) (by omega)
    obtain ⟨a2, s2, f2, e2, l2, r2, t2⟩ := reply_s HBS.out (by omega) (2 * xs.length) (Nat.le_refl _) 0 false false (by omega) (by omega)
    obtain ⟨a3, s3, f3, e3, l3, r3, t3⟩ := log_s HBS.out (by omega) xs.length (Nat.le_refl _) 0 false false (by omega) (by omega)
    rw [st_zero] at e1 t1 e2 t2 e3 t3
    have z1 := end_s xs a1 s1 f1 l1 r1
    have z2 := end_s xs a2 s2 f2 l2 r2
    have z3 := end_s xs a3 s3 f3 l3 r3
    obtain ⟨X, hX⟩ : ∃ X, (cmdR (xs, 0)).1 = X := ⟨_, rfl⟩
    obtain ⟨Y, hY⟩ : ∃ Y, (Cr.repR mk93 (xs, 0)).1 = Y := ⟨_, rfl⟩
    obtain ⟨Z, hZ⟩ : ∃ Z, (logR (xs, 0)).1 = Z := ⟨_, rfl⟩
    have ec : doneE (st xs a1 s1 f1) = C.2 := by
      rw [t1, ← HCC.out]
      unfold getCommand
      split
      · rename_i h; exact h
      · rfl
    have er : doneE (st xs a2 s2 f2) = R.2 := by
      rw [t2, ← HRR.out]
      unfold Cr.getReply
      split
      · rename_i h; exact h
      · rfl
    have el : doneE (st xs a3 s3 f3) = L.2 := by
      rw [t3, ← HLL.out]
      unfold getLog
      split
      · rename_i h; exact h
      · rfl
    rw [ec] at z1
    rw [er] at z2
    rw [el] at z3
    rw [hX] at e1
    rw [hY] at e2
    rw [hZ] at e3
    have HE1 := Aside0.mk e1
    have HE2 := Aside0.mk e2
    have HE3 := Aside0.mk e3
    have HZ1 := Aside0.mk z1
    have HZ2 := Aside0.mk z2
    have HZ3 := Aside0.mk z3
    have HXX := Aside0.mk hX
    have HYY := Aside0.mk hY
    have HZZ := Aside0.mk hZ
    have HT := Aside0.mk (And.intro t1 (And.intro t2 t3))
    clear ec er el e1 e2 e3 z1 z2 z3 t1 t2 t3 hX hY hZ l1 r1 l2 r2 l3 r3
    have HBX := Aside0.mk (below_alloc (below_alloc (below_alloc (Below.refl W.heap.size W) (.cells #[.slice A0 xs.length c0, .int .i64 0, .bool false, .bool false] 50)) (.cells #[.slice A0 xs.length c0, .int .i64 0, .bool false, .bool false] 50)) (.cells #[.slice A0 xs.length c0, .int .i64 0, .bool false, .bool false] 50))
    have HBW := Aside0.mk (bthen HKP2.out.b HBX.out)
    have HKW := Aside0.mk (HKP2.out.below HBX.out)
    have HI1 := Aside0.mk (show IsS50 A0 c0 w (((W.alloc (.cells #[.slice A0 xs.length c0, .int .i64 0, .bool false, .bool false] 50)).alloc (.cells #[.slice A0 xs.length c0, .int .i64 0, .bool false, .bool false] 50)).alloc (.cells #[.slice A0 xs.length c0, .int .i64 0, .bool false, .bool false] 50)) W.heap.size xs 0 false false from ⟨A0, c0, blk_alloc (blk_alloc (blk_new W _) _) _, by omega, HR.out, rfl, rfl, HC.out⟩)
    have HI2 := Aside0.mk (show IsS50 A0 c0 w (((W.alloc (.cells #[.slice A0 xs.length c0, .int .i64 0, .bool false, .bool false] 50)).alloc (.cells #[.slice A0 xs.length c0, .int .i64 0, .bool false, .bool false] 50)).alloc (.cells #[.slice A0 xs.length c0, .int .i64 0, .bool false, .bool false] 50)) (W.heap.size + 1) xs 0 false false from ⟨A0, c0, by simpa using blk_alloc (blk_new (W.alloc (.cells #[.slice A0 xs.length c0, .int .i64 0, .bool false, .bool false] 50)) (.cells #[.slice A0 xs.length c0, .int .i64 0, .bool false, .bool false] 50)) (.cells #[.slice A0 xs.length c0, .int .i64 0, .bool false, .bool false] 50), by omega, HR.out, rfl, rfl, HC.out⟩)
    have HI3 := Aside0.mk (show IsS50 A0 c0 w (((W.alloc (.cells #[.slice A0 xs.length c0, .int .i64 0, .bool false, .bool false] 50)).alloc (.cells #[.slice A0 xs.length c0, .int .i64 0, .bool false, .bool false] 50)).alloc (.cells #[.slice A0 xs.length c0, .int .i64 0, .bool false, .bool false] 50)) (W.heap.size + 1 + 1) xs 0 false false from ⟨A0, c0, by simpa using blk_new ((W.alloc (.cells #[.slice A0 xs.length c0, .int .i64 0, .bool false, .bool false] 50)).alloc (.cells #[.slice A0 xs.length c0, .int .i64 0, .bool false, .bool false] 50)) (.cells #[.slice A0 xs.length c0, .int .i64 0, .bool false, .bool false] 50), by omega, HR.out, rfl, rfl, HC.out⟩)
    go_upto_region 18 with (first
      | (go_at_call 17; go_must (refine (XCodecGets.calepinref15_Tape_Command.calls (xs.length + 11) (As0 := A0) (cs0 := c0) W.heap.size xs 0 false false _ _ _ _ _ _ _ _ _ _ _ _ _ _ w _ HI1.out HBW.out HE1.out).mono ?_); rintro e w10 ⟨v10, rfl, ho10, hi10, hb10, hk10⟩; obtain ⟨A10, k10, rfl, _, _⟩ := Kd.R_reads ho10; have HO10 := Aside0.mk ho10; have HT1 := Aside0.mk hi10; have HB10 := Aside0.mk hb10; have HQ1 := Aside0.mk (HKW.out.keep HI1.out hk10 hb10); have HT2 := Aside0.mk (tapeKeep HI2.out (by omega) hk10); have HT3 := Aside0.mk (tapeKeep HI3.out (by omega) hk10); clear ho10 hi10 hb10 hk10)
      | ((with_reducible refine gate_store (t := 25) (p := 14) rfl ?_); go_must (refine Ca.store_whole (g := w10.heap.size) (e := 25) (old := zC) (cs := cmdC X A10 k10) rfl rfl 25 (.tmp 14) (.tmp 66) rfl rfl rfl ?hb rfl infoC ?h1 ?_); go_must (case hb => exact blk_new w10 _); go_must (case h1 => exact fun q hq => List.all_eq_true.1 (show (cmdC X A10 k10).toList.all (fun q => q.oneCell') = true from rfl) q hq); intro w11 hb11 hg11; have HX11 := Aside0.mk hb11; have HK11 := Aside0.mk (below_new' hg11); clear hb11 hg11)
      | (go_at_call 18; go_must (refine (XCodecGets.calepinref15_Tape_Reply.calls (2 * xs.length + 12) (As0 := A0) (cs0 := c0) (W.heap.size + 1) xs 0 false false _ _ _ _ _ _ _ _ w _ (HT2.out.below HK11.out) (bthen HB10.out HK11.out) HE2.out).mono ?_); rintro e w12 ⟨v12, rfl, ho12, hi12, hb12, hk12⟩; obtain ⟨A12, k12, rfl, _, _⟩ := Kd.R_reads ho12; have HO12 := Aside0.mk ho12; have HU2 := Aside0.mk hi12; have HB12 := Aside0.mk hb12; have HQ2 := Aside0.mk ((HQ1.out.below HK11.out).keep (HT2.out.below HK11.out) hk12 hb12); have HU1 := Aside0.mk (tapeKeep (HT1.out.below HK11.out) (by omega) hk12); have HU3 := Aside0.mk (tapeKeep (HT3.out.below HK11.out) (by omega) hk12); have HN10 := Aside0.mk (RX.kept ⟨_, Kd.R_below HO10.out HK11.out⟩ (HT2.out.below HK11.out) (by decide) hk12); have HX10 := Aside0.mk (hk12.blk HX11.out ((HT2.out.below HK11.out).ne_blk HX11.out (by decide)).symm (by simp)); clear ho12 hi12 hb12 hk12)
      | ((with_reducible refine gate_store (t := 45) (p := 15) rfl ?_); go_must (refine Ca.store_whole (g := w12.heap.size) (e := 45) (old := zR) (cs := repC Y (.slice A12 Y.ents.length k12)) rfl rfl 45 (.tmp 15) (.tmp 68) rfl rfl rfl ?hb rfl infoR ?h1 ?_); go_must (case hb => exact blk_new w12 _); go_must (case h1 => exact fun q hq => List.all_eq_true.1 (show (repC Y (.slice A12 Y.ents.length k12)).toList.all (fun q => q.oneCell') = true from rfl) q hq); intro w13 hb13 hg13; have HX13 := Aside0.mk hb13; have HK13 := Aside0.mk (below_new' hg13); clear hb13 hg13)
      | (go_at_call 19; go_must (refine (XCodecGets.calepinref15_Tape_Log.calls (xs.length + 12) (As0 := A0) (cs0 := c0) (W.heap.size + 1 + 1) xs 0 false false _ _ _ _ _ _ _ _ _ _ _ _ _ _ _ _ _ w _ (HU3.out.below HK13.out) (bthen HB12.out HK13.out) HE3.out).mono ?_); rintro e w14 ⟨v14, v15, rfl, ho14, ho15, hi14, hb14, hk14⟩; obtain ⟨A14, k14, rfl, _, _⟩ := Kd.R_reads ho14; obtain ⟨A15, k15, rfl, _, _⟩ := Kd.R_reads ho15; have HO14 := Aside0.mk ho14; have HO15 := Aside0.mk ho15; have HV3 := Aside0.mk hi14; have HB14 := Aside0.mk hb14; have HQ3 := Aside0.mk ((HQ2.out.below HK13.out).keep (HU3.out.below HK13.out) hk14 hb14); have HV1 := Aside0.mk (tapeKeep (HU1.out.below HK13.out) (by omega) hk14); have HV2 := Aside0.mk (tapeKeep (HU2.out.below HK13.out) (by omega) hk14); have HN10b := Aside0.mk (RX.kept (HN10.out.below HK13.out) (HU3.out.below HK13.out) (by decide) hk14); have HX10b := Aside0.mk (hk14.blk (blk_below HX10.out HK13.out) ((HU3.out.below HK13.out).ne_blk (blk_below HX10.out HK13.out) (by decide)).symm (by simp)); have HN12 := Aside0.mk (RX.kept ⟨_, Kd.R_below HO12.out HK13.out⟩ (HU3.out.below HK13.out) (by decide) hk14); have HX12 := Aside0.mk (hk14.blk HX13.out ((HU3.out.below HK13.out).ne_blk HX13.out (by decide)).symm (by simp)); clear ho14 ho15 hi14 hb14 hk14)
      | ((with_reducible refine gate_store (t := 38) (p := 16) rfl ?_); go_must (refine Ca.store_whole (g := w14.heap.size) (e := 38) (old := zL) (cs := logD Z A14 k14 A15 k15) rfl rfl 38 (.tmp 16) (.tmp 70) rfl rfl rfl ?hb rfl infoL ?h1 ?_); go_must (case hb => exact blk_new w14 _); go_must (case h1 => exact fun q hq => List.all_eq_true.1 (show (logD Z A14 k14 A15 k15).toList.all (fun q => q.oneCell') = true from rfl) q hq); intro w15 hb15 hg15; have HX15 := Aside0.mk hb15; have HK15 := Aside0.mk (below_new' hg15); clear hb15 hg15))
    have HG0 := Aside0.mk (show Kept w w10.heap.size w12.heap.size w14.heap.size X Y Z A10 k10 A12 k12 A14 k14 A15 k15 w15 from ⟨HN10b.out.below HK15.out, HN12.out.below HK15.out, ⟨_, Kd.R_below HO14.out HK15.out⟩, ⟨_, Kd.R_below HO15.out HK15.out⟩, blk_below HX10b.out HK15.out, blk_below HX12.out HK15.out, HX15.out, bthen HB14.out HK15.out⟩)
    have HP0 := Aside0.mk (HQ3.out.below HK15.out)
    have HS1 := Aside0.mk (HV1.out.below HK15.out)
    have HS2 := Aside0.mk (HV2.out.below HK15.out)
    have HS3 := Aside0.mk (HV3.out.below HK15.out)
    clear HI1 HI2 HI3 HT1 HT2 HT3 HU1 HU2 HU3 HV1 HV2 HV3 HQ1 HQ2 HQ3 HN10 HN10b HN12 HX10 HX10b HX12 HX11 HX13 HX15 HO10 HO12 HO14 HO15 HKW HKP2 HE1 HE2 HE3
    go_upto_region 20 with (first
      | (go_at_call 20; (with_reducible refine (XCodecGets.calepinref15_Tape_End.calls (As0 := A0) (cs0 := c0) (W.heap.size) xs a1 s1 f1 _ _ _ _ w w15 HS1.out HP0.out.b HZ1.out).mono ?_); rintro e w16 ⟨rfl, hi, hb, hk⟩; have HP1 := Aside0.mk (HP0.out.keep HS1.out hk hb); have HG1 := Aside0.mk (HG0.out.keep HS1.out hk hb); have HT12 := Aside0.mk (tapeKeep HS2.out (by omega) hk); have HT13 := Aside0.mk (tapeKeep HS3.out (by omega) hk); clear hi hb hk)
      | (go_at_call 20; (with_reducible refine (XCodecGets.calepinref15_Tape_End.calls (As0 := A0) (cs0 := c0) (W.heap.size + 1) xs a2 s2 f2 _ _ _ _ w w16 HT12.out HP1.out.b HZ2.out).mono ?_); rintro e w17 ⟨rfl, hi, hb, hk⟩; have HP2 := Aside0.mk (HP1.out.keep HT12.out hk hb); have HG2 := Aside0.mk (HG1.out.keep HT12.out hk hb); have HT23 := Aside0.mk (tapeKeep HT13.out (by omega) hk); clear hi hb hk)
      | (go_at_call 20; (with_reducible refine (XCodecGets.calepinref15_Tape_End.calls (As0 := A0) (cs0 := c0) (W.heap.size + 1 + 1) xs a3 s3 f3 _ _ _ _ w w17 HT23.out HP2.out.b HZ3.out).mono ?_); rintro e w18 ⟨rfl, hi, hb, hk⟩; have HP3 := Aside0.mk (HP2.out.keep HT23.out hk hb); have HG3 := Aside0.mk (HG2.out.keep HT23.out hk hb); skip; clear hi hb hk))
    obtain ⟨FC, FR, FL⟩ := XCodecGets.facts xs HBS.out hl
    rw [HCC.out, HXX.out] at FC
    rw [HRR.out, HYY.out] at FR
    rw [HLL.out, HZZ.out] at FL
    have HFC := Aside0.mk FC
    have HFR := Aside0.mk FR
    have HFL := Aside0.mk FL
    have HFF := Aside0.mk (And.intro HP3.out HG3.out)
    clear FC FR FL HP3 HG3 HP0 HP1 HP2 HG0 HG1 HG2 HS1 HS2 HS3 HT12 HT13 HT23
    refine Gx.g20 (fun _ _ _ _ _ h => h) (fun W' => Kept w w3.heap.size w5.heap.size w7.heap.size C.1 R.1 L.1 A3 k3 A5 k5 A7 k7 A8 k8 W' ∧ Kept w w10.heap.size w12.heap.size w14.heap.size X Y Z A10 k10 A12 k12 A14 k14 A15 k15 W') (fun _ h => h.1) (fun _ _ h hb => ⟨h.1.below hb, h.2.below hb⟩) HFC.out.no HFR.out.no HFL.out.no _ rfl rfl rfl rfl rfl rfl rfl _ HFF.out (fun a1 w19 f1 h1 hF => ?_)
    have HF19 := Aside0.mk hF
    have e1 := canon (lo := 87) (n := 45) f1 (show 87 + 45 < 203 by decide)
    generalize hu : a1.tmps = u1 at e1 h1
    refine norm_q (a' := ?_) (e1.trans ?_) ?_
    rotate_left
    · simp only [List.range, List.range.loop, List.map_cons, List.map_nil, Gs.act, Act.put, List.setIfInBounds_toArray, List.set_cons_zero, List.set_cons_succ, Nat.reduceAdd, h1]
      rfl
    clear e1 hF hu f1 HFF
    go_upto_region 22 with (fail)
    refine Gx.g22 (fun _ _ _ _ _ h => h) (fun W' => Kept w w3.heap.size w5.heap.size w7.heap.size C.1 R.1 L.1 A3 k3 A5 k5 A7 k7 A8 k8 W' ∧ Kept w w10.heap.size w12.heap.size w14.heap.size X Y Z A10 k10 A12 k12 A14 k14 A15 k15 W') (fun _ h => h.1) (fun _ h => h.2) (fun _ h => Kd.C_below HR.out h.1.b) (fun _ _ h hb => ⟨h.1.below hb, h.2.below hb⟩) (HFC.out.reads hl) (HFR.out.reads hl) _ rfl rfl rfl rfl rfl rfl rfl rfl _ HF19.out (fun a1 w20 f1 h1 hF => ?_)
    have HF20 := Aside0.mk hF
    have e1 := canon (lo := 133) (n := 37) f1 (show 133 + 37 < 203 by decide)
    generalize hu : a1.tmps = u2 at e1 h1
    refine norm_q (a' := ?_) (e1.trans ?_) ?_
    rotate_left
    · simp only [List.range, List.range.loop, List.map_cons, List.map_nil, Gs.act, Act.put, List.setIfInBounds_toArray, List.set_cons_zero, List.set_cons_succ, Nat.reduceAdd, h1]
      rfl
    clear e1 hF hu f1 HF19
    have hz3 := HF20.out.1.x3
    have hy3 := HF20.out.2.x3
    have l0 := (blk_cell hz3 0).trans rfl
    have l1 := (blk_cell hz3 1).trans rfl
    have l2 := (blk_cell hz3 2).trans rfl
    have l3 := (blk_cell hz3 3).trans rfl
    have l4 := (blk_cell hz3 4).trans rfl
    have l5 := (blk_cell hz3 5).trans rfl
    have l6 := (blk_cell hz3 6).trans rfl
    have l7 := (blk_cell hz3 7).trans rfl
    have l8 := (blk_cell hz3 8).trans rfl
    have l9 := (blk_cell hz3 9).trans rfl
    have l10 := (blk_cell hz3 10).trans rfl
    have l11 := (blk_cell hz3 11).trans rfl
    have l12 := (blk_cell hz3 12).trans rfl
    have l13 := (blk_cell hz3 13).trans rfl
    have m0 := (blk_cell hy3 0).trans rfl
    have m1 := (blk_cell hy3 1).trans rfl
    have m2 := (blk_cell hy3 2).trans rfl
    have m3 := (blk_cell hy3 3).trans rfl
    have m4 := (blk_cell hy3 4).trans rfl
    have m5 := (blk_cell hy3 5).trans rfl
    have m6 := (blk_cell hy3 6).trans rfl
    have m7 := (blk_cell hy3 7).trans rfl
    have m8 := (blk_cell hy3 8).trans rfl
    have m9 := (blk_cell hy3 9).trans rfl
    have m10 := (blk_cell hy3 10).trans rfl
    have m11 := (blk_cell hy3 11).trans rfl
    have m12 := (blk_cell hy3 12).trans rfl
    have m13 := (blk_cell hy3 13).trans rfl
    clear hz3 hy3
    have HLL1 := Aside0.mk (XCodecGets.ref_log xs.length xs.length L.1 HFL.out.li (Nat.le_refl _) (by omega))
    have HLL2 := Aside0.mk (XCodecGets.ref_log xs.length xs.length Z HFL.out.zi (Nat.le_refl _) (by omega))
    by_cases h0 : L.2 = 0
    · obtain ⟨hy1, hy2⟩ := HFL.out.yes h0
      rw [hy1] at HLL1
      rw [hy2] at HLL2
      have bl : (L.2 != 0) = false := by simp [h0]
      clear hy1 hy2 h0
      go_wp2_with fail
      refine (XCodecGets.calepinref15_Log.calls _ L.1.term L.1.kind L.1.cmd.op L.1.cmd.book L.1.cmd.name L.1.cmd.data L.1.cmd.mat L.1.cmd.non L.1.cmd.token A7 k7 L.1.cmd.names L.1.cmd.at_ L.1.cmd.session L.1.cmd.seq A8 k8 L.1.nodes xs true w20 (RX.c HF20.out.1.n7) (RX.le HF20.out.1.n7) (RX.c HF20.out.1.n8) (RX.le HF20.out.1.n8) HLL1.out).mono ?_
      rintro e w21 ⟨v21, rfl, ho, hb⟩
      have HV21 := Aside0.mk (show RX (Kd.int .u8) 5 w21 v21 xs from ⟨_, ho⟩)
      have HF21 := Aside0.mk (And.intro (HF20.out.1.below hb) (HF20.out.2.below hb))
      clear ho hb
      (try clear l0 l1 l2 l3 l4 l5 l6 l7 l8 l9 l10 l11 l12 l13 m0 m1 m2 m3 m4 m5 m6 m7 m8 m9 m10 m11 m12 m13)
      have hy3 := HF21.out.2.x3
      have m0 := (blk_cell hy3 0).trans rfl
      have m1 := (blk_cell hy3 1).trans rfl
      have m2 := (blk_cell hy3 2).trans rfl
      have m3 := (blk_cell hy3 3).trans rfl
      have m4 := (blk_cell hy3 4).trans rfl
      have m5 := (blk_cell hy3 5).trans rfl
      have m6 := (blk_cell hy3 6).trans rfl
      have m7 := (blk_cell hy3 7).trans rfl
      have m8 := (blk_cell hy3 8).trans rfl
      have m9 := (blk_cell hy3 9).trans rfl
      have m10 := (blk_cell hy3 10).trans rfl
      have m11 := (blk_cell hy3 11).trans rfl
      have m12 := (blk_cell hy3 12).trans rfl
      have m13 := (blk_cell hy3 13).trans rfl
      clear hy3
      go_wp2_with fail
      refine (XCodecGets.calepinref15_Log.calls _ Z.term Z.kind Z.cmd.op Z.cmd.book Z.cmd.name Z.cmd.data Z.cmd.mat Z.cmd.non Z.cmd.token A14 k14 Z.cmd.names Z.cmd.at_ Z.cmd.session Z.cmd.seq A15 k15 Z.nodes xs true w21 (RX.c HF21.out.2.n7) (RX.le HF21.out.2.n7) (RX.c HF21.out.2.n8) (RX.le HF21.out.2.n8) HLL2.out).mono ?_
      rintro e w22 ⟨v22, rfl, ho, hb⟩
      have HF22 := Aside0.mk (And.intro (HF21.out.1.below hb) (HF21.out.2.below hb))
      have cv1 := RX.conv (HV21.out.below hb)
      have cv2 := RX.conv (W := w22) (v := v22) (l := xs) ⟨_, ho⟩
      have cv3 := Kd.C_string (P := Try.prog) (A := A0) (n := xs.length) (c := c0) (xs := xs) Try.underlying27 Try.underlying5 Try.underlying9 (Kd.C_below HR.out HF22.out.1.b)
      clear ho hb
      (try clear l0 l1 l2 l3 l4 l5 l6 l7 l8 l9 l10 l11 l12 l13 m0 m1 m2 m3 m4 m5 m6 m7 m8 m9 m10 m11 m12 m13)
      go_wp2_with fail
      go_ret
      exact ⟨rfl, HF22.out.1.b⟩
    · have bl : (L.2 != 0) = true := by simp [h0]
      obtain ⟨⟨p1, q1⟩, hp⟩ : ∃ p, XCodecGets.refLog L.1 = p := ⟨_, rfl⟩
      obtain ⟨⟨p2, q2⟩, hp2⟩ : ∃ p, XCodecGets.refLog Z = p := ⟨_, rfl⟩
      rw [hp] at HLL1
      rw [hp2] at HLL2
      clear hp hp2 h0
      go_wp2_with fail
      refine (XCodecGets.calepinref15_Log.calls _ L.1.term L.1.kind L.1.cmd.op L.1.cmd.book L.1.cmd.name L.1.cmd.data L.1.cmd.mat L.1.cmd.non L.1.cmd.token A7 k7 L.1.cmd.names L.1.cmd.at_ L.1.cmd.session L.1.cmd.seq A8 k8 L.1.nodes p1 q1 w20 (RX.c HF20.out.1.n7) (RX.le HF20.out.1.n7) (RX.c HF20.out.1.n8) (RX.le HF20.out.1.n8) HLL1.out).mono ?_
      rintro e w21 ⟨v21, rfl, ho, hb⟩
      have HV21 := Aside0.mk (show RX (Kd.int .u8) 5 w21 v21 p1 from ⟨_, ho⟩)
      have HF21 := Aside0.mk (And.intro (HF20.out.1.below hb) (HF20.out.2.below hb))
      clear ho hb
      (try clear l0 l1 l2 l3 l4 l5 l6 l7 l8 l9 l10 l11 l12 l13 m0 m1 m2 m3 m4 m5 m6 m7 m8 m9 m10 m11 m12 m13)
      have hy3 := HF21.out.2.x3
      have m0 := (blk_cell hy3 0).trans rfl
      have m1 := (blk_cell hy3 1).trans rfl
      have m2 := (blk_cell hy3 2).trans rfl
      have m3 := (blk_cell hy3 3).trans rfl
      have m4 := (blk_cell hy3 4).trans rfl
      have m5 := (blk_cell hy3 5).trans rfl
      have m6 := (blk_cell hy3 6).trans rfl
      have m7 := (blk_cell hy3 7).trans rfl
      have m8 := (blk_cell hy3 8).trans rfl
      have m9 := (blk_cell hy3 9).trans rfl
      have m10 := (blk_cell hy3 10).trans rfl
      have m11 := (blk_cell hy3 11).trans rfl
      have m12 := (blk_cell hy3 12).trans rfl
      have m13 := (blk_cell hy3 13).trans rfl
      clear hy3
      go_wp2_with fail
      refine (XCodecGets.calepinref15_Log.calls _ Z.term Z.kind Z.cmd.op Z.cmd.book Z.cmd.name Z.cmd.data Z.cmd.mat Z.cmd.non Z.cmd.token A14 k14 Z.cmd.names Z.cmd.at_ Z.cmd.session Z.cmd.seq A15 k15 Z.nodes p2 q2 w21 (RX.c HF21.out.2.n7) (RX.le HF21.out.2.n7) (RX.c HF21.out.2.n8) (RX.le HF21.out.2.n8) HLL2.out).mono ?_
      rintro e w22 ⟨v22, rfl, ho, hb⟩
      have HF22 := Aside0.mk (And.intro (HF21.out.1.below hb) (HF21.out.2.below hb))
      have cv1 := RX.conv (HV21.out.below hb)
      have cv2 := RX.conv (W := w22) (v := v22) (l := p2) ⟨_, ho⟩
      have cv3 := Kd.C_string (P := Try.prog) (A := A0) (n := xs.length) (c := c0) (xs := xs) Try.underlying27 Try.underlying5 Try.underlying9 (Kd.C_below HR.out HF22.out.1.b)
      clear ho hb
      (try clear l0 l1 l2 l3 l4 l5 l6 l7 l8 l9 l10 l11 l12 l13 m0 m1 m2 m3 m4 m5 m6 m7 m8 m9 m10 m11 m12 m13)
      go_wp2_with fail
      go_ret
      exact ⟨rfl, HF22.out.1.b⟩
theorem gets_any (xs : List Int) (A0 : Option Addr) (c0 : Nat) (w : World) (hr0 : Kd.C (Kd.int .u8) w A0 xs.length xs) (hc0 : xs.length ≤ c0) (hb : Bs xs) :
    Calls Try.prog 5 #[.slice A0 xs.length c0] w fun e w' => e = .returned (.bool true) ∧ Below w.heap.size w w' := by
  by_cases hl : xs.length ≤ 50000
  · exact gets_short xs A0 c0 w hl hr0 hc0 hb
  · exact gets_long xs A0 c0 w (by omega) hr0
end Go.Proofs.Ytjhcbggpbfejgaa.Gw
