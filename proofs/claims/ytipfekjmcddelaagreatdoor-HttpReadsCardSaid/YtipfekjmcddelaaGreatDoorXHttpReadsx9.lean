-- written by wip/xprint.py: the kit's print with functions walked by hand
import Derived.Test.YtipfekjmcddelaaGreatDoorXHttpReadsx0
import Derived.Test.YtipfekjmcddelaaGreatDoorXHttpReadsx1
import Derived.Test.YtipfekjmcddelaaGreatDoorXHttpReadsx2
import Derived.Test.YtipfekjmcddelaaGreatDoorXHttpReadsx5
import Derived.Test.YtipfekjmcddelaaGreatDoorXHttpReadsx6
import Derived.Test.YtipfekjmcddelaaGreatDoorXHttpReadsx8
namespace Go.Proofs.YtipfekjmcddelaaGreatDoor.XHttpReads
open Go.RowKit Go.Proofs.YtipfekjmcddelaaGreatDoorW.PrintWords Go.Proofs.YtipfekjmcddelaaGreatDoorW.PrintLast Go.Proofs.YtipfekjmcddelaaGreatDoorW.PrintMore
attribute [local go_sem] max2_int min2_int max_two min_two max_three min_three max_four min_four   -- for this text's walks alone
set_option linter.unusedVariables false
set_option linter.unusedSimpArgs false

attribute [local go_sem high] eqA62
def calepinref08_Request.j0 : Nat → ByteArray → Int → ByteArray → ByteArray → List (S62) → Int → Bool → Option (ByteArray × ByteArray × (List (S62)) × ByteArray × Int × Int)
 | 0, _, _, _, _, _, _, _ => none
 | k + 1, x0, x6, x8, x11, x14, x15, x59 => if x59 = true then (some ((⟨#[]⟩ : ByteArray), (⟨#[]⟩ : ByteArray), ([] : List (S62)), (⟨#[]⟩ : ByteArray), 0, 80)) else (if (wrap64 ((x0.size : Int) - x6)) < x15 then (some ((⟨#[]⟩ : ByteArray), (⟨#[]⟩ : ByteArray), ([] : List (S62)), (⟨#[]⟩ : ByteArray), 0, 91)) else (if 0 ≤ x6 then (if x6 ≤ (wrap64 (x6 + x15)) then (if (wrap64 (x6 + x15)) ≤ (x0.size : Int) then (some (x8, x11, x14, x0.extract (x6 : Int).toNat ((wrap64 (x6 + x15)) : Int).toNat, wrap64 (x6 + x15), 0)) else (none)) else (none)) else (none)))
def calepinref08_Request.f (k : Nat) (a0 : ByteArray) : Option (ByteArray × ByteArray × (List (S62)) × ByteArray × Int × Int) := (calepinref08_Head.f k a0).bind fun bt222 => (if bt222.2.2 = 0 then (if 0 < (bt222.1.length : Int) then ((calepinref08_Cut.f k (rdOf ByteArray.empty bt222.1 0) 32).bind fun bt228 => ((calepinref08_Cut.f k bt228.2.1 32).bind fun bt231 => (if 1 ≤ (bt222.1.length : Int) then ((calepinref08_Fields.f k (bt222.1.drop 1)).bind fun bt238 => (if bt238.2.2 = true then ((calepinref08_Asked.f k bt228.1 bt231.1).bind fun t243 => (if t243 = true then (calepinref08_Request.j0 k a0 bt222.2.1 bt228.1 bt231.1 bt238.1 bt238.2.1 (bt231.2.1.toList != ([72, 84, 84, 80, 47, 49, 46, 49] : List UInt8))) else (calepinref08_Request.j0 k a0 bt222.2.1 bt228.1 bt231.1 bt238.1 bt238.2.1 true))) else (calepinref08_Request.j0 k a0 bt222.2.1 bt228.1 bt231.1 bt238.1 bt238.2.1 true))) else (none)))) else (none)) else (some ((⟨#[]⟩ : ByteArray), (⟨#[]⟩ : ByteArray), ([] : List (S62)), (⟨#[]⟩ : ByteArray), 0, bt222.2.2)))
set_option maxHeartbeats 8000000 in
set_option maxRecDepth 100000 in
theorem calepinref08_Request.calls (k : Nat) (a0 : ByteArray) (r1 : ByteArray) (r2 : ByteArray) (r3 : List (S62)) (r4 : ByteArray) (r5 : Int) (r6 : Int) (w : World) (hT : LaidM w) (h : calepinref08_Request.f k a0 = some (r1, r2, r3, r4, r5, r6)) :
  Calls Tryz.prog 7 #[.string a0] w fun e w' => ∃ v2_ : Value, e = .returned (.tuple #[.agg #[.string r1, .string r2, v2_, .string r4], .int .i64 r5, .int .i64 r6]) ∧ Kd.R k62 62 w' w.heap.size (fun _ => True) v2_ r3 ∧ Below w.heap.size w w' := by
 have hu25 := Tryz.underlying25
 have HB := Aside0.mk (Below.refl w.heap.size w)
 have HT := Aside0.mk hT
 clear hT
 have H : ((calepinref08_Head.f k a0).bind fun bt222 => (if bt222.2.2 = 0 then (if 0 < (bt222.1.length : Int) then ((calepinref08_Cut.f k (rdOf ByteArray.empty bt222.1 0) 32).bind fun bt228 => ((calepinref08_Cut.f k bt228.2.1 32).bind fun bt231 => (if 1 ≤ (bt222.1.length : Int) then ((calepinref08_Fields.f k (bt222.1.drop 1)).bind fun bt238 => (if bt238.2.2 = true then ((calepinref08_Asked.f k bt228.1 bt231.1).bind fun t243 => (if t243 = true then (calepinref08_Request.j0 k a0 bt222.2.1 bt228.1 bt231.1 bt238.1 bt238.2.1 (bt231.2.1.toList != ([72, 84, 84, 80, 47, 49, 46, 49] : List UInt8))) else (calepinref08_Request.j0 k a0 bt222.2.1 bt228.1 bt231.1 bt238.1 bt238.2.1 true))) else (calepinref08_Request.j0 k a0 bt222.2.1 bt228.1 bt231.1 bt238.1 bt238.2.1 true))) else (none)))) else (none)) else (some ((⟨#[]⟩ : ByteArray), (⟨#[]⟩ : ByteArray), ([] : List (S62)), (⟨#[]⟩ : ByteArray), 0, bt222.2.2)))) = some (r1, r2, r3, r4, r5, r6) := h
 clear h
 replace H := Option.bind_eq_some_iff.mp H
 obtain ⟨⟨t222, t223, t224⟩, A20, H⟩ := H
 replace H : (if t224 = 0 then (if 0 < (t222.length : Int) then ((calepinref08_Cut.f k (rdOf ByteArray.empty t222 0) 32).bind fun bt228 => ((calepinref08_Cut.f k bt228.2.1 32).bind fun bt231 => (if 1 ≤ (t222.length : Int) then ((calepinref08_Fields.f k (t222.drop 1)).bind fun bt238 => (if bt238.2.2 = true then ((calepinref08_Asked.f k bt228.1 bt231.1).bind fun t243 => (if t243 = true then (calepinref08_Request.j0 k a0 t223 bt228.1 bt231.1 bt238.1 bt238.2.1 (bt231.2.1.toList != ([72, 84, 84, 80, 47, 49, 46, 49] : List UInt8))) else (calepinref08_Request.j0 k a0 t223 bt228.1 bt231.1 bt238.1 bt238.2.1 true))) else (calepinref08_Request.j0 k a0 t223 bt228.1 bt231.1 bt238.1 bt238.2.1 true))) else (none)))) else (none)) else (some ((⟨#[]⟩ : ByteArray), (⟨#[]⟩ : ByteArray), ([] : List (S62)), (⟨#[]⟩ : ByteArray), 0, t224))) = some (r1, r2, r3, r4, r5, r6) := H
 have A2 := Aside0.mk A20
 clear A20
 by_cases c3 : t224 = 0
 ·rw [if_pos c3] at H
  have c3b0 : (t224 == 0) = true := beq_iff_eq.mpr c3
  have c3b1 : (t224 != 0) = false := bne_eq_false_iff_eq.mpr c3
  clear c3
  by_cases c4 : 0 < (t222.length : Int)
  ·rw [if_pos c4] at H
   have c4b0 : decide (0 < (t222.length : Int)) = true := decide_eq_true c4
   have c4b1 : decide (0 < t222.length) = true := decide_eq_true (by omega)
   clear c4
   replace H := Option.bind_eq_some_iff.mp H
   obtain ⟨⟨t228, t229, t230⟩, A50, H⟩ := H
   replace H : ((calepinref08_Cut.f k t229 32).bind fun bt231 => (if 1 ≤ (t222.length : Int) then ((calepinref08_Fields.f k (t222.drop 1)).bind fun bt238 => (if bt238.2.2 = true then ((calepinref08_Asked.f k t228 bt231.1).bind fun t243 => (if t243 = true then (calepinref08_Request.j0 k a0 t223 t228 bt231.1 bt238.1 bt238.2.1 (bt231.2.1.toList != ([72, 84, 84, 80, 47, 49, 46, 49] : List UInt8))) else (calepinref08_Request.j0 k a0 t223 t228 bt231.1 bt238.1 bt238.2.1 true))) else (calepinref08_Request.j0 k a0 t223 t228 bt231.1 bt238.1 bt238.2.1 true))) else (none))) = some (r1, r2, r3, r4, r5, r6) := H
   have A5 := Aside0.mk A50
   clear A50
   replace H := Option.bind_eq_some_iff.mp H
   obtain ⟨⟨t231, t232, t233⟩, A60, H⟩ := H
   replace H : (if 1 ≤ (t222.length : Int) then ((calepinref08_Fields.f k (t222.drop 1)).bind fun bt238 => (if bt238.2.2 = true then ((calepinref08_Asked.f k t228 t231).bind fun t243 => (if t243 = true then (calepinref08_Request.j0 k a0 t223 t228 t231 bt238.1 bt238.2.1 (t232.toList != ([72, 84, 84, 80, 47, 49, 46, 49] : List UInt8))) else (calepinref08_Request.j0 k a0 t223 t228 t231 bt238.1 bt238.2.1 true))) else (calepinref08_Request.j0 k a0 t223 t228 t231 bt238.1 bt238.2.1 true))) else (none)) = some (r1, r2, r3, r4, r5, r6) := H
   have A6 := Aside0.mk A60
   clear A60
   by_cases c7 : 1 ≤ (t222.length : Int)
   ·rw [if_pos c7] at H
    have c7b0 := eq_true c7
    have c7b1 : decide (1 ≤ (t222.length : Int)) = true := decide_eq_true c7
    clear c7
    obtain ⟨y234, hy234⟩ : ∃ y_ : List ByteArray, y_ = (t222.drop 1) := ⟨_, rfl⟩
    replace H : ((calepinref08_Fields.f k y234).bind fun bt238 => (if bt238.2.2 = true then ((calepinref08_Asked.f k t228 t231).bind fun t243 => (if t243 = true then (calepinref08_Request.j0 k a0 t223 t228 t231 bt238.1 bt238.2.1 (t232.toList != ([72, 84, 84, 80, 47, 49, 46, 49] : List UInt8))) else (calepinref08_Request.j0 k a0 t223 t228 t231 bt238.1 bt238.2.1 true))) else (calepinref08_Request.j0 k a0 t223 t228 t231 bt238.1 bt238.2.1 true))) = some (r1, r2, r3, r4, r5, r6) := by first | (rw [hy234]; with_reducible exact H) | (have H2_ := (Option.bind_some _ _).symm.trans H; rw [hy234]; with_reducible exact H2_) | (have H2_ := (Option.bind_some _ _).symm.trans H; with_reducible exact H2_) | with_reducible exact H | (rw [hy234]; exact H) | exact H
    have Ny234 := Aside0.mk hy234
    clear hy234
    replace H := Option.bind_eq_some_iff.mp H
    obtain ⟨⟨t238, t239, t240⟩, A80, H⟩ := H
    replace H : (if t240 = true then ((calepinref08_Asked.f k t228 t231).bind fun t243 => (if t243 = true then (calepinref08_Request.j0 k a0 t223 t228 t231 t238 t239 (t232.toList != ([72, 84, 84, 80, 47, 49, 46, 49] : List UInt8))) else (calepinref08_Request.j0 k a0 t223 t228 t231 t238 t239 true))) else (calepinref08_Request.j0 k a0 t223 t228 t231 t238 t239 true)) = some (r1, r2, r3, r4, r5, r6) := H
    have A8 := Aside0.mk A80
    clear A80
    have HC9 := Aside0.mk H
    clear H
    go_enter Tryz.func7, Tryz.ntmps7
    go_upto_region 7 with (first | ((with_reducible refine gate_dst (N := 2) rfl ?_); refine box_event ?hg (N := 2) ?hd (cs := #[.string (⟨#[]⟩ : ByteArray), .string (⟨#[]⟩ : ByteArray), .slice none 0 0, .string (⟨#[]⟩ : ByteArray)]) (t := 25) ?hr ?_; (case hd => rfl); (case hg => rfl); (case hr => first | (go_simp; done) | (go_simp; rfl)); intro gb221 hg w10 hbox hb; have n0_ := Aside0.mk (below_step (by repeat (first | (with_reducible first | exact HB.out | apply below_alloc | apply pw_below_drewN | apply below_drew1) | exact HB.out)) hb); have n1_ := Aside0.mk (hbox); have n2_ := Aside0.mk ((by rw [hg]; exact (below_size (by repeat (first | (with_reducible first | exact HB.out | apply below_alloc | apply pw_below_drewN | apply below_drew1) | exact HB.out))) : w.heap.size ≤ gb221)); have n3_ := Aside0.mk ((by rw [hg]; exact (below_size (by repeat (first | (with_reducible first | exact HB.out | apply below_alloc | apply pw_below_drewN | apply below_drew1) | exact HB.out))) : w.heap.size ≤ gb221)); clear HB; have HB := n0_; have BK221 := n1_; have GW221 := n2_; have GE221 := n3_; clear n0_ n1_ n2_ n3_; clear hb hbox hg) | ((with_reducible refine gate_callee (f := 22) rfl ?_); refine goesL_ (some 19) rfl rfl Tryz.func22 (by kernel_rfl) rfl #[.string a0] rfl (by (try simp only [List.map_toArray, List.map_cons, List.map_nil]); first | done | rfl | (simp only [List.length_drop, List.length_take]; rfl)) ?_; (with_reducible refine (calepinref08_Head.calls k a0 t222 t223 t224 _ ?side1 A2.out).mono ?_); (case side1 => exact LaidM.below HT.out (by repeat (first | (with_reducible first | exact HB.out | apply below_alloc | apply pw_below_drewN | apply below_drew1 | refine below_set ?_ GE221.out) | exact HB.out))); rintro e w11 ⟨v225, rfl, ho0, hb⟩; refine ⟨_, rfl, ?_⟩; have n0_ := Aside0.mk (Kd.R_lower ho0 (below_size (by repeat (first | (with_reducible first | exact HB.out | apply below_alloc | apply pw_below_drewN | apply below_drew1 | refine below_set ?_ GE221.out) | exact HB.out)))); have n1_ := Aside0.mk (blk_below (g := gb221) (o := .cells #[.string (⟨#[]⟩ : ByteArray), .string (⟨#[]⟩ : ByteArray), .slice none 0 0, .string (⟨#[]⟩ : ByteArray)] 25 (0, 0)) (by (with_reducible repeat (first | refine blk_drewN ?_ _ | refine blk_drew ?_ | refine blk_alloc ?_ _)); exact BK221.out) hb); have n2_ := Aside0.mk (below_step (by repeat (first | (with_reducible first | exact HB.out | apply below_alloc | apply pw_below_drewN | apply below_drew1 | refine below_set ?_ GE221.out) | exact HB.out)) hb); clear BK221; clear HB; have HO226 := n0_; have BK221 := n1_; have HB := n2_; clear n0_ n1_ n2_; (try clear hb); (try clear hb2); (try clear hk); (try clear hi); (try clear ho0); obtain ⟨Ao12, co12, eo12⟩ := Kd.R_slice HO226.out; subst eo12; have p227 : 0 ≤ (0 : Int) := (by omega); have q227 : 0 < (t222.length : Int) := of_decide_eq_true (by first | (with_reducible assumption) | assumption); obtain ⟨ad227, e227, hx227_0⟩ := Kd.at_string (Kd.R_reads' HO226.out).2.2 0 p227 q227; cases e227; have qi227 : (0 < t222.length) = True := eq_true (by omega); (try rw [show ((0 : Int)).toNat = 0 from rfl] at hx227_0); (try rw [Addr.add_zero'] at hx227_0); replace p227 := eq_true p227; replace q227 := eq_true q227) | ((with_reducible refine gate_callee (f := 23) rfl ?_); refine goesL_ (some 31) rfl rfl Tryz.func23 (by kernel_rfl) rfl #[.string (rdOf ByteArray.empty t222 0), .int .u8 32] rfl (by (try simp only [List.map_toArray, List.map_cons, List.map_nil]); first | done | rfl | (simp only [List.length_drop, List.length_take]; rfl)) ?_; (with_reducible refine (calepinref08_Cut.calls k (rdOf ByteArray.empty t222 0) 32 t228 t229 t230 _ A5.out).mono ?_); rintro e w' ⟨rfl, ⟨nd, rfl⟩⟩; refine ⟨_, rfl, ?_⟩) | ((with_reducible refine gate_callee (f := 23) rfl ?_); refine goesL_ (some 37) rfl rfl Tryz.func23 (by kernel_rfl) rfl #[.string t229, .int .u8 32] rfl (by (try simp only [List.map_toArray, List.map_cons, List.map_nil]); first | done | rfl | (simp only [List.length_drop, List.length_take]; rfl)) ?_; (with_reducible refine (calepinref08_Cut.calls k t229 32 t231 t232 t233 _ A6.out).mono ?_); rintro e w' ⟨rfl, ⟨nd, rfl⟩⟩; refine ⟨_, rfl, ?_⟩; have q13 : (1 : Int) ≤ ((t222.length : Int) : Int) := of_decide_eq_true (by first | (with_reducible assumption) | assumption); obtain ⟨i013, hi013, _, hsz13, _⟩ := info_parts info9; have hroom13 : t222.length ≤ co12 := (Kd.R_reads' HO226.out).2.1; have hC13 : Kd.C Kd.string _ (some ad227) t222.length t222 := (Kd.R_reads' HO226.out).2.2; have hcut13 := cut_from (P := Tryz.prog) 53 9 .i64 Tryz.underlying53 hi013 1 hsz13 (some ad227) t222.length co12 1 (by omega) q13; have hr13 := Kd.C_drop (m := (1 : Int).toNat) (c := co12) hC13 (by omega) hroom13; obtain ⟨A13, hA13⟩ : ∃ A1, A1 = (if co12 = (1 : Int).toNat then (some ad227) else ((some ad227) : Option Addr).map (·.add ((1 : Int).toNat * 1))) := ⟨_, rfl⟩; obtain ⟨c13, hc13⟩ : ∃ c1, c1 = co12 - (1 : Int).toNat := ⟨_, rfl⟩; have hy13 : y234.length = t222.length - (1 : Int).toNat := (by rw [Ny234.out, List.length_drop] <;> omega); rw [show (t222).drop (1 : Int).toNat = y234 from Ny234.out.symm] at hr13; replace hr13 : Kd.C Kd.string _ A13 y234.length y234 := (by rw [hA13]; exact hr13); rw [← hy13, ← hA13, ← hc13] at hcut13; have HR237 := Aside0.mk hr13; have HC237 := Aside0.mk (show y234.length ≤ c13 from by rw [hy13, hc13]; exact Nat.sub_le_sub_right hroom13 _); clear hr13 hC13 hroom13 hi013 hsz13 hc13; have KY13 := Aside0.mk hy13; have KA13 := Aside0.mk hA13; clear hy13 hA13; have KL13 := Aside0.mk (show 1 ≤ t222.length from by omega); replace q13 := eq_true q13) | ((with_reducible refine gate_callee (f := 24) rfl ?_); refine goesL_ (some 44) rfl rfl Tryz.func24 (by kernel_rfl) rfl #[.slice A13 y234.length c13] rfl (by (try simp only [List.map_toArray, List.map_cons, List.map_nil]); first | done | rfl | (simp only [List.length_drop, List.length_take]; rfl)) ?_; (with_reducible refine (calepinref08_Fields.calls k _ _ y234 t238 t239 t240 _ ?side1 ?side2 ?side3 A8.out).mono ?_); (case side1 => repeat (first | exact (by repeat (first | (with_reducible exact HR237.out) | (with_reducible refine Kd.C_alloc ?_ _) | (with_reducible refine Kd.C_drewN ?_ _) | (with_reducible refine Kd.C_drew ?_) | exact HR237.out)) | (with_reducible refine Kd.C_alloc ?_ _) | (with_reducible refine Kd.C_drewN ?_ _) | (with_reducible refine Kd.C_drew ?_))); (case side2 => exact HC237.out); (case side3 => exact LaidM.below HT.out (by repeat (first | (with_reducible first | exact HB.out | apply below_alloc | apply pw_below_drewN | apply below_drew1 | refine below_set ?_ GE221.out) | exact HB.out))); rintro e w14 ⟨v241, rfl, ho0, hb⟩; refine ⟨_, rfl, ?_⟩; have n0_ := Aside0.mk (Kd.R_below (by (with_reducible repeat (first | apply Kd.R_alloc | apply Kd.R_drewN | apply Kd.R_drew)); exact HO226.out) hb); have n1_ := Aside0.mk (Kd.R_lower ho0 (below_size (by repeat (first | (with_reducible first | exact HB.out | apply below_alloc | apply pw_below_drewN | apply below_drew1 | refine below_set ?_ GE221.out) | exact HB.out)))); have n2_ := Aside0.mk (blk_below (g := gb221) (o := .cells #[.string (⟨#[]⟩ : ByteArray), .string (⟨#[]⟩ : ByteArray), .slice none 0 0, .string (⟨#[]⟩ : ByteArray)] 25 (0, 0)) (by (with_reducible repeat (first | refine blk_drewN ?_ _ | refine blk_drew ?_ | refine blk_alloc ?_ _)); exact BK221.out) hb); have n3_ := Aside0.mk (Kd.C_below (by repeat (first | (with_reducible exact HR237.out) | (with_reducible refine Kd.C_alloc ?_ _) | (with_reducible refine Kd.C_drewN ?_ _) | (with_reducible refine Kd.C_drew ?_) | exact HR237.out)) hb); have n4_ := Aside0.mk (below_step (by repeat (first | (with_reducible first | exact HB.out | apply below_alloc | apply pw_below_drewN | apply below_drew1 | refine below_set ?_ GE221.out) | exact HB.out)) hb); clear HO226; clear BK221; clear HR237; clear HB; have HO226 := n0_; have HO242 := n1_; have BK221 := n2_; have HR237 := n3_; have HB := n4_; clear n0_ n1_ n2_ n3_ n4_; (try clear hb); (try clear hb2); (try clear hk); (try clear hi); (try clear ho0)))
    (try simp only [Act.put, List.setIfInBounds_toArray, List.set_cons_zero, List.set_cons_succ])
    go_cut [59] (fun v59 wc => ∃ (kq : Nat) (x59_8 : Bool), v59 = .bool x59_8 ∧ Aside0 (calepinref08_Request.j0 kq a0 t223 t228 t231 t238 t239 x59_8 = some (r1, r2, r3, r4, r5, r6)) ∧ Aside0 (kq ≤ k) ∧ Aside0 (Kd.R k62 62 wc w.heap.size (fun _ => True) v241 t238) ∧ Aside0 (wc.heap[gb221]? = some (.cells #[.string (⟨#[]⟩ : ByteArray), .string (⟨#[]⟩ : ByteArray), (.slice none 0 0), .string (⟨#[]⟩ : ByteArray)] 25 (0, 0))) ∧ Aside0 (Kd.C Kd.string wc A13 y234.length y234) ∧ Aside0 (Below w.heap.size w wc))
    case first =>
     have H := HC9.out
     clear HC9
     by_cases c15 : t240 = true
     ·subst c15
      have H1 : ((calepinref08_Asked.f k t228 t231).bind fun t243 => (if t243 = true then (calepinref08_Request.j0 k a0 t223 t228 t231 t238 t239 (t232.toList != ([72, 84, 84, 80, 47, 49, 46, 49] : List UInt8))) else (calepinref08_Request.j0 k a0 t223 t228 t231 t238 t239 true))) = some (r1, r2, r3, r4, r5, r6) := by rw [if_pos rfl] at H; exact H
      clear H
      have H := H1
      clear H1
      replace H := Option.bind_eq_some_iff.mp H
      obtain ⟨t243, A160, H⟩ := H
      replace H : (if t243 = true then (calepinref08_Request.j0 k a0 t223 t228 t231 t238 t239 (t232.toList != ([72, 84, 84, 80, 47, 49, 46, 49] : List UInt8))) else (calepinref08_Request.j0 k a0 t223 t228 t231 t238 t239 true)) = some (r1, r2, r3, r4, r5, r6) := H
      have A16 := Aside0.mk A160
      clear A160
      by_cases c17 : t243 = true
      ·subst c17
       have H1 : (calepinref08_Request.j0 k a0 t223 t228 t231 t238 t239 (t232.toList != ([72, 84, 84, 80, 47, 49, 46, 49] : List UInt8))) = some (r1, r2, r3, r4, r5, r6) := by rw [if_pos rfl] at H; exact H
       clear H
       have H := H1
       clear H1
       have H' := Aside0.mk H
       clear H
       go_wp2_with (first | (go_at_call 12; (with_reducible refine (calepinref08_Asked.calls k t228 t231 true _ A16.out).mono ?_); rintro e w' ⟨rfl, ⟨nd, rfl⟩⟩))
       go_meet
       case rel => exact ⟨_, ((t232.toList != ([72, 84, 84, 80, 47, 49, 46, 49] : List UInt8))), (by first | rfl | (simp; done) | (simp [*]; done)), H', ⟨by first | omega | exact Nat.le_refl _⟩, ⟨by (with_reducible repeat (first | apply Kd.R_alloc | apply Kd.R_drewN | apply Kd.R_drew)); exact HO242.out⟩, ⟨by (with_reducible repeat (first | refine blk_drewN ?_ _ | refine blk_drew ?_ | refine blk_alloc ?_ _)); exact BK221.out⟩, ⟨by repeat (first | (with_reducible exact HR237.out) | (with_reducible refine Kd.C_alloc ?_ _) | (with_reducible refine Kd.C_drewN ?_ _) | (with_reducible refine Kd.C_drew ?_) | exact HR237.out)⟩, ⟨by repeat (first | (with_reducible first | exact HB.out | apply below_alloc | apply pw_below_drewN | apply below_drew1 | refine below_set ?_ GE221.out) | exact HB.out)⟩⟩
      ·replace c17 := Bool.eq_false_iff.mpr c17
       subst c17
       have H1 : (calepinref08_Request.j0 k a0 t223 t228 t231 t238 t239 true) = some (r1, r2, r3, r4, r5, r6) := by rw [if_neg (show ¬ (false = true) by decide)] at H; exact H
       clear H
       have H := H1
       clear H1
       have H' := Aside0.mk H
       clear H
       go_wp2_with (first | (go_at_call 12; (with_reducible refine (calepinref08_Asked.calls k t228 t231 false _ A16.out).mono ?_); rintro e w' ⟨rfl, ⟨nd, rfl⟩⟩))
       go_meet
       case rel => exact ⟨_, (true), (by first | rfl | (simp; done) | (simp [*]; done)), H', ⟨by first | omega | exact Nat.le_refl _⟩, ⟨by (with_reducible repeat (first | apply Kd.R_alloc | apply Kd.R_drewN | apply Kd.R_drew)); exact HO242.out⟩, ⟨by (with_reducible repeat (first | refine blk_drewN ?_ _ | refine blk_drew ?_ | refine blk_alloc ?_ _)); exact BK221.out⟩, ⟨by repeat (first | (with_reducible exact HR237.out) | (with_reducible refine Kd.C_alloc ?_ _) | (with_reducible refine Kd.C_drewN ?_ _) | (with_reducible refine Kd.C_drew ?_) | exact HR237.out)⟩, ⟨by repeat (first | (with_reducible first | exact HB.out | apply below_alloc | apply pw_below_drewN | apply below_drew1 | refine below_set ?_ GE221.out) | exact HB.out)⟩⟩
     ·replace c15 := Bool.eq_false_iff.mpr c15
      subst c15
      have H1 : (calepinref08_Request.j0 k a0 t223 t228 t231 t238 t239 true) = some (r1, r2, r3, r4, r5, r6) := by rw [if_neg (show ¬ (false = true) by decide)] at H; exact H
      clear H
      have H := H1
      clear H1
      have H' := Aside0.mk H
      clear H
      go_wp2
      go_meet
      case rel => exact ⟨_, (true), (by first | rfl | (simp; done) | (simp [*]; done)), H', ⟨by first | omega | exact Nat.le_refl _⟩, ⟨by (with_reducible repeat (first | apply Kd.R_alloc | apply Kd.R_drewN | apply Kd.R_drew)); exact HO242.out⟩, ⟨by (with_reducible repeat (first | refine blk_drewN ?_ _ | refine blk_drew ?_ | refine blk_alloc ?_ _)); exact BK221.out⟩, ⟨by repeat (first | (with_reducible exact HR237.out) | (with_reducible refine Kd.C_alloc ?_ _) | (with_reducible refine Kd.C_drewN ?_ _) | (with_reducible refine Kd.C_drew ?_) | exact HR237.out)⟩, ⟨by repeat (first | (with_reducible first | exact HB.out | apply below_alloc | apply pw_below_drewN | apply below_drew1 | refine below_set ?_ GE221.out) | exact HB.out)⟩⟩
    case rest =>
     clear HC9
     try clear c1
     try clear q1
     try clear c2
     try clear p2
     try clear q2
     try clear hx2
     try clear qi2
     try clear c3
     try clear c3b0
     try clear c3b1
     try clear c4
     try clear c4b0
     try clear c4b1
     try clear c7
     try clear c7b0
     try clear c7b1
     try clear c13
     try clear q13
     try clear c15
     try clear c17
     try clear hx227_0
     try clear p227
     try clear q13
     try clear q227
     obtain ⟨kq, x59_8, rfl, HA, HJ8, HO_14, BK221, HR237, HB⟩ := hcut
     cases kq with
     | zero => exact absurd HA.out (by simp [calepinref08_Request.j0])
     | succ kj8 =>
      have H := HA.out
      clear HA
      simp only [calepinref08_Request.j0] at H
      by_cases c18 : x59_8 = true
      ·subst c18
       have H1 : (some ((⟨#[]⟩ : ByteArray), (⟨#[]⟩ : ByteArray), ([] : List (S62)), (⟨#[]⟩ : ByteArray), 0, 80)) = some (r1, r2, r3, r4, r5, r6) := by rw [if_pos rfl] at H; exact H
       clear H
       have H := H1
       clear H1
       simp only [Option.some.injEq, Prod.mk.injEq] at H
       obtain ⟨rfl, rfl, rfl, rfl, rfl, rfl⟩ := H
       have hcz19_0 : wc.cell? ⟨gb221, 0, none⟩ = some (.string (⟨#[]⟩ : ByteArray)) := (blk_cell BK221.out 0).trans rfl
       have hcz19_1 : wc.cell? ⟨gb221, 1, none⟩ = some (.string (⟨#[]⟩ : ByteArray)) := (blk_cell BK221.out 1).trans rfl
       have hcz19_2 : wc.cell? ⟨gb221, 2, none⟩ = some (.slice none 0 0) := (blk_cell BK221.out 2).trans rfl
       have hcz19_3 : wc.cell? ⟨gb221, 3, none⟩ = some (.string (⟨#[]⟩ : ByteArray)) := (blk_cell BK221.out 3).trans rfl
       have hfz19_0 := blk_frozen BK221.out 0
       have hfz19_1 := blk_frozen BK221.out 1
       have hfz19_2 := blk_frozen BK221.out 2
       have hfz19_3 := blk_frozen BK221.out 3
       go_wp2
       refine bodyPost_ret (results_ctt rfl _ _ gb221 25 #[.string (⟨#[]⟩ : ByteArray), .string (⟨#[]⟩ : ByteArray), .slice none 0 0, .string (⟨#[]⟩ : ByteArray)] (0, 0) _ rfl (by (with_reducible repeat (first | refine blk_drewN ?_ _ | refine blk_drew ?_ | refine blk_alloc ?_ _)); refine blk_put (cs := #[.string (⟨#[]⟩ : ByteArray), .string (⟨#[]⟩ : ByteArray), .slice none 0 0, .string (⟨#[]⟩ : ByteArray)]) ?_ 3 _ rfl; (with_reducible repeat (first | refine blk_drewN ?_ _ | refine blk_drew ?_ | refine blk_alloc ?_ _)); refine blk_put (cs := #[.string (⟨#[]⟩ : ByteArray), .string (⟨#[]⟩ : ByteArray), .slice none 0 0, .string (⟨#[]⟩ : ByteArray)]) ?_ 2 _ rfl; (with_reducible repeat (first | refine blk_drewN ?_ _ | refine blk_drew ?_ | refine blk_alloc ?_ _)); refine blk_put (cs := #[.string (⟨#[]⟩ : ByteArray), .string (⟨#[]⟩ : ByteArray), .slice none 0 0, .string (⟨#[]⟩ : ByteArray)]) ?_ 1 _ rfl; (with_reducible repeat (first | refine blk_drewN ?_ _ | refine blk_drew ?_ | refine blk_alloc ?_ _)); refine blk_put (cs := #[.string (⟨#[]⟩ : ByteArray), .string (⟨#[]⟩ : ByteArray), .slice none 0 0, .string (⟨#[]⟩ : ByteArray)]) ?_ 0 _ rfl; (with_reducible repeat (first | refine blk_drewN ?_ _ | refine blk_drew ?_ | refine blk_alloc ?_ _)); exact BK221.out) Tryz.underlying25 rfl (by kernel_rfl)) rfl ?_
       exact ⟨_, by first | rfl | (simp [errW_none, errW_some] <;> rfl) | (simp [*, errW_none, errW_some] <;> rfl), by first | exact Kd.R_nil _ _ _ _ _ | exact Kd.N_nil _ _ _ _ _ | exact Kd.V_nil _ _ _ _ _ | exact Kd.Q_nil _ _ _ _ _ | exact Kd.S_nil _ _ _ _ _, by repeat (first | (with_reducible first | exact HB.out | apply below_alloc | apply pw_below_drewN | apply below_drew1 | refine below_set ?_ GE221.out) | exact HB.out)⟩
      ·replace c18 := Bool.eq_false_iff.mpr c18
       subst c18
       have H1 : (if (wrap64 ((a0.size : Int) - t223)) < t239 then (some ((⟨#[]⟩ : ByteArray), (⟨#[]⟩ : ByteArray), ([] : List (S62)), (⟨#[]⟩ : ByteArray), 0, 91)) else (if 0 ≤ t223 then (if t223 ≤ (wrap64 (t223 + t239)) then (if (wrap64 (t223 + t239)) ≤ (a0.size : Int) then (some (t228, t231, t238, a0.extract (t223 : Int).toNat ((wrap64 (t223 + t239)) : Int).toNat, wrap64 (t223 + t239), 0)) else (none)) else (none)) else (none))) = some (r1, r2, r3, r4, r5, r6) := by rw [if_neg (show ¬ (false = true) by decide)] at H; exact H
       clear H
       have H := H1
       clear H1
       by_cases c20 : (wrap64 ((a0.size : Int) - t223)) < t239
       ·rw [if_pos c20] at H
        have c20b0 : decide ((wrap64 ((a0.size : Int) - t223)) < t239) = true := decide_eq_true c20
        clear c20
        simp only [Option.some.injEq, Prod.mk.injEq] at H
        obtain ⟨rfl, rfl, rfl, rfl, rfl, rfl⟩ := H
        have hcz21_0 : wc.cell? ⟨gb221, 0, none⟩ = some (.string (⟨#[]⟩ : ByteArray)) := (blk_cell BK221.out 0).trans rfl
        have hcz21_1 : wc.cell? ⟨gb221, 1, none⟩ = some (.string (⟨#[]⟩ : ByteArray)) := (blk_cell BK221.out 1).trans rfl
        have hcz21_2 : wc.cell? ⟨gb221, 2, none⟩ = some (.slice none 0 0) := (blk_cell BK221.out 2).trans rfl
        have hcz21_3 : wc.cell? ⟨gb221, 3, none⟩ = some (.string (⟨#[]⟩ : ByteArray)) := (blk_cell BK221.out 3).trans rfl
        have hfz21_0 := blk_frozen BK221.out 0
        have hfz21_1 := blk_frozen BK221.out 1
        have hfz21_2 := blk_frozen BK221.out 2
        have hfz21_3 := blk_frozen BK221.out 3
        go_wp2
        refine bodyPost_ret (results_ctt rfl _ _ gb221 25 #[.string (⟨#[]⟩ : ByteArray), .string (⟨#[]⟩ : ByteArray), .slice none 0 0, .string (⟨#[]⟩ : ByteArray)] (0, 0) _ rfl (by (with_reducible repeat (first | refine blk_drewN ?_ _ | refine blk_drew ?_ | refine blk_alloc ?_ _)); refine blk_put (cs := #[.string (⟨#[]⟩ : ByteArray), .string (⟨#[]⟩ : ByteArray), .slice none 0 0, .string (⟨#[]⟩ : ByteArray)]) ?_ 3 _ rfl; (with_reducible repeat (first | refine blk_drewN ?_ _ | refine blk_drew ?_ | refine blk_alloc ?_ _)); refine blk_put (cs := #[.string (⟨#[]⟩ : ByteArray), .string (⟨#[]⟩ : ByteArray), .slice none 0 0, .string (⟨#[]⟩ : ByteArray)]) ?_ 2 _ rfl; (with_reducible repeat (first | refine blk_drewN ?_ _ | refine blk_drew ?_ | refine blk_alloc ?_ _)); refine blk_put (cs := #[.string (⟨#[]⟩ : ByteArray), .string (⟨#[]⟩ : ByteArray), .slice none 0 0, .string (⟨#[]⟩ : ByteArray)]) ?_ 1 _ rfl; (with_reducible repeat (first | refine blk_drewN ?_ _ | refine blk_drew ?_ | refine blk_alloc ?_ _)); refine blk_put (cs := #[.string (⟨#[]⟩ : ByteArray), .string (⟨#[]⟩ : ByteArray), .slice none 0 0, .string (⟨#[]⟩ : ByteArray)]) ?_ 0 _ rfl; (with_reducible repeat (first | refine blk_drewN ?_ _ | refine blk_drew ?_ | refine blk_alloc ?_ _)); exact BK221.out) Tryz.underlying25 rfl (by kernel_rfl)) rfl ?_
        exact ⟨_, by first | rfl | (simp [errW_none, errW_some] <;> rfl) | (simp [*, errW_none, errW_some] <;> rfl), by first | exact Kd.R_nil _ _ _ _ _ | exact Kd.N_nil _ _ _ _ _ | exact Kd.V_nil _ _ _ _ _ | exact Kd.Q_nil _ _ _ _ _ | exact Kd.S_nil _ _ _ _ _, by repeat (first | (with_reducible first | exact HB.out | apply below_alloc | apply pw_below_drewN | apply below_drew1 | refine below_set ?_ GE221.out) | exact HB.out)⟩
       ·rw [if_neg c20] at H
        have c20b0 : decide ((wrap64 ((a0.size : Int) - t223)) < t239) = false := decide_eq_false c20
        clear c20
        by_cases c22 : 0 ≤ t223
        ·rw [if_pos c22] at H
         have c22b0 := eq_true c22
         have c22b1 : decide (0 ≤ t223) = true := decide_eq_true c22
         clear c22
         by_cases c23 : t223 ≤ (wrap64 (t223 + t239))
         ·rw [if_pos c23] at H
          have c23b0 := eq_true c23
          have c23b1 : decide (t223 ≤ (wrap64 (t223 + t239))) = true := decide_eq_true c23
          by_cases c24 : (wrap64 (t223 + t239)) ≤ (a0.size : Int)
          ·rw [if_pos c24] at H
           have c24b0 := eq_true c24
           have c24b1 : decide ((wrap64 (t223 + t239)) ≤ (a0.size : Int)) = true := decide_eq_true c24
           simp only [Option.some.injEq, Prod.mk.injEq] at H
           obtain ⟨rfl, rfl, rfl, rfl, rfl, rfl⟩ := H
           obtain ⟨Ao25, co25, eo25⟩ := Kd.R_slice HO_14.out
           subst eo25
           have hcz26_0 : wc.cell? ⟨gb221, 0, none⟩ = some (.string (⟨#[]⟩ : ByteArray)) := (blk_cell BK221.out 0).trans rfl
           have hcz26_1 : wc.cell? ⟨gb221, 1, none⟩ = some (.string (⟨#[]⟩ : ByteArray)) := (blk_cell BK221.out 1).trans rfl
           have hcz26_2 : wc.cell? ⟨gb221, 2, none⟩ = some (.slice none 0 0) := (blk_cell BK221.out 2).trans rfl
           have hcz26_3 : wc.cell? ⟨gb221, 3, none⟩ = some (.string (⟨#[]⟩ : ByteArray)) := (blk_cell BK221.out 3).trans rfl
           have hfz26_0 := blk_frozen BK221.out 0
           have hfz26_1 := blk_frozen BK221.out 1
           have hfz26_2 := blk_frozen BK221.out 2
           have hfz26_3 := blk_frozen BK221.out 3
           go_wp2
           refine bodyPost_ret (results_ctt rfl _ _ gb221 25 #[.string t228, .string t231, .slice Ao25 t238.length co25, .string (a0.extract (t223 : Int).toNat ((wrap64 (t223 + t239)) : Int).toNat)] (0, 0) _ rfl (by (with_reducible repeat (first | refine blk_drewN ?_ _ | refine blk_drew ?_ | refine blk_alloc ?_ _)); refine blk_put (cs := #[.string t228, .string t231, .slice Ao25 t238.length co25, .string (⟨#[]⟩ : ByteArray)]) ?_ 3 _ rfl; (with_reducible repeat (first | refine blk_drewN ?_ _ | refine blk_drew ?_ | refine blk_alloc ?_ _)); refine blk_put (cs := #[.string t228, .string t231, .slice none 0 0, .string (⟨#[]⟩ : ByteArray)]) ?_ 2 _ rfl; (with_reducible repeat (first | refine blk_drewN ?_ _ | refine blk_drew ?_ | refine blk_alloc ?_ _)); refine blk_put (cs := #[.string t228, .string (⟨#[]⟩ : ByteArray), .slice none 0 0, .string (⟨#[]⟩ : ByteArray)]) ?_ 1 _ rfl; (with_reducible repeat (first | refine blk_drewN ?_ _ | refine blk_drew ?_ | refine blk_alloc ?_ _)); refine blk_put (cs := #[.string (⟨#[]⟩ : ByteArray), .string (⟨#[]⟩ : ByteArray), .slice none 0 0, .string (⟨#[]⟩ : ByteArray)]) ?_ 0 _ rfl; (with_reducible repeat (first | refine blk_drewN ?_ _ | refine blk_drew ?_ | refine blk_alloc ?_ _)); exact BK221.out) Tryz.underlying25 rfl (by kernel_rfl)) rfl ?_
           exact ⟨_, by first | rfl | (simp [errW_none, errW_some] <;> rfl) | (simp [*, errW_none, errW_some] <;> rfl), by (with_reducible repeat (first | apply Kd.R_alloc | apply Kd.R_drewN | apply Kd.R_drew)); exact Kd.R_mono (Kd.R_far (p := ⟨gb221, 3, none⟩) (Kd.R_far (p := ⟨gb221, 2, none⟩) (Kd.R_far (p := ⟨gb221, 1, none⟩) (Kd.R_far (p := ⟨gb221, 0, none⟩) (Kd.R_types HO_14.out BK221.out (by decide)) (fun _ hk => hk.2) (.string t228)) (fun _ hk => hk.2) (.string t231)) (fun _ hk => hk.2) (.slice Ao25 t238.length co25)) (fun _ hk => hk.2) (.string (a0.extract (t223 : Int).toNat ((wrap64 (t223 + t239)) : Int).toNat))) (fun _ hk => trivial), by repeat (first | (with_reducible first | exact HB.out | apply below_alloc | apply pw_below_drewN | apply below_drew1 | refine below_set ?_ GE221.out) | exact HB.out)⟩
          ·rw [if_neg c24] at H
           exact absurd H (by simp)
         ·rw [if_neg c23] at H
          exact absurd H (by simp)
        ·rw [if_neg c22] at H
         exact absurd H (by simp)
   ·rw [if_neg c7] at H
    exact absurd H (by simp)
  ·rw [if_neg c4] at H
   exact absurd H (by simp)
 ·rw [if_neg c3] at H
  have c3b0 : (t224 == 0) = false := beq_eq_false_iff_ne.mpr c3
  have c3b1 : (t224 != 0) = true := bne_iff_ne.mpr c3
  simp only [Option.some.injEq, Prod.mk.injEq] at H
  obtain ⟨rfl, rfl, rfl, rfl, rfl, rfl⟩ := H
  go_enter Tryz.func7, Tryz.ntmps7
  go_wp2_with (first | ((with_reducible refine gate_dst (N := 2) rfl ?_); refine box_event ?hg (N := 2) ?hd (cs := #[.string (⟨#[]⟩ : ByteArray), .string (⟨#[]⟩ : ByteArray), .slice none 0 0, .string (⟨#[]⟩ : ByteArray)]) (t := 25) ?hr ?_; (case hd => rfl); (case hg => rfl); (case hr => first | (go_simp; done) | (go_simp; rfl)); intro gb221 hg w27 hbox hb; have n0_ := Aside0.mk (below_step (by repeat (first | (with_reducible first | exact HB.out | apply below_alloc | apply pw_below_drewN | apply below_drew1) | exact HB.out)) hb); have n1_ := Aside0.mk (hbox); have n2_ := Aside0.mk ((by rw [hg]; exact (below_size (by repeat (first | (with_reducible first | exact HB.out | apply below_alloc | apply pw_below_drewN | apply below_drew1) | exact HB.out))) : w.heap.size ≤ gb221)); have n3_ := Aside0.mk ((by rw [hg]; exact (below_size (by repeat (first | (with_reducible first | exact HB.out | apply below_alloc | apply pw_below_drewN | apply below_drew1) | exact HB.out))) : w.heap.size ≤ gb221)); clear HB; have HB := n0_; have BK221 := n1_; have GW221 := n2_; have GE221 := n3_; clear n0_ n1_ n2_ n3_; clear hb hbox hg) | ((with_reducible refine gate_callee (f := 22) rfl ?_); refine goesL_ (some 19) rfl rfl Tryz.func22 (by kernel_rfl) rfl #[.string a0] rfl (by (try simp only [List.map_toArray, List.map_cons, List.map_nil]); first | done | rfl | (simp only [List.length_drop, List.length_take]; rfl)) ?_; (with_reducible refine (calepinref08_Head.calls k a0 t222 t223 t224 _ ?side1 A2.out).mono ?_); (case side1 => exact LaidM.below HT.out (by repeat (first | (with_reducible first | exact HB.out | apply below_alloc | apply pw_below_drewN | apply below_drew1 | refine below_set ?_ GE221.out) | exact HB.out))); rintro e w28 ⟨v225, rfl, ho0, hb⟩; refine ⟨_, rfl, ?_⟩; have n0_ := Aside0.mk (Kd.R_lower ho0 (below_size (by repeat (first | (with_reducible first | exact HB.out | apply below_alloc | apply pw_below_drewN | apply below_drew1 | refine below_set ?_ GE221.out) | exact HB.out)))); have n1_ := Aside0.mk (blk_below (g := gb221) (o := .cells #[.string (⟨#[]⟩ : ByteArray), .string (⟨#[]⟩ : ByteArray), .slice none 0 0, .string (⟨#[]⟩ : ByteArray)] 25 (0, 0)) (by (with_reducible repeat (first | refine blk_drewN ?_ _ | refine blk_drew ?_ | refine blk_alloc ?_ _)); exact BK221.out) hb); have n2_ := Aside0.mk (below_step (by repeat (first | (with_reducible first | exact HB.out | apply below_alloc | apply pw_below_drewN | apply below_drew1 | refine below_set ?_ GE221.out) | exact HB.out)) hb); clear BK221; clear HB; have HO226 := n0_; have BK221 := n1_; have HB := n2_; clear n0_ n1_ n2_; (try clear hb); (try clear hb2); (try clear hk); (try clear hi); (try clear ho0); have hcz29_0 : w28.cell? ⟨gb221, 0, none⟩ = some (.string (⟨#[]⟩ : ByteArray)) := (blk_cell BK221.out 0).trans rfl; have hcz29_1 : w28.cell? ⟨gb221, 1, none⟩ = some (.string (⟨#[]⟩ : ByteArray)) := (blk_cell BK221.out 1).trans rfl; have hcz29_2 : w28.cell? ⟨gb221, 2, none⟩ = some (.slice none 0 0) := (blk_cell BK221.out 2).trans rfl; have hcz29_3 : w28.cell? ⟨gb221, 3, none⟩ = some (.string (⟨#[]⟩ : ByteArray)) := (blk_cell BK221.out 3).trans rfl; have hfz29_0 := blk_frozen BK221.out 0; have hfz29_1 := blk_frozen BK221.out 1; have hfz29_2 := blk_frozen BK221.out 2; have hfz29_3 := blk_frozen BK221.out 3))
  refine bodyPost_ret (results_ctt rfl _ _ gb221 25 #[.string (⟨#[]⟩ : ByteArray), .string (⟨#[]⟩ : ByteArray), .slice none 0 0, .string (⟨#[]⟩ : ByteArray)] (0, 0) _ rfl (by (with_reducible repeat (first | refine blk_drewN ?_ _ | refine blk_drew ?_ | refine blk_alloc ?_ _)); refine blk_put (cs := #[.string (⟨#[]⟩ : ByteArray), .string (⟨#[]⟩ : ByteArray), .slice none 0 0, .string (⟨#[]⟩ : ByteArray)]) ?_ 3 _ rfl; (with_reducible repeat (first | refine blk_drewN ?_ _ | refine blk_drew ?_ | refine blk_alloc ?_ _)); refine blk_put (cs := #[.string (⟨#[]⟩ : ByteArray), .string (⟨#[]⟩ : ByteArray), .slice none 0 0, .string (⟨#[]⟩ : ByteArray)]) ?_ 2 _ rfl; (with_reducible repeat (first | refine blk_drewN ?_ _ | refine blk_drew ?_ | refine blk_alloc ?_ _)); refine blk_put (cs := #[.string (⟨#[]⟩ : ByteArray), .string (⟨#[]⟩ : ByteArray), .slice none 0 0, .string (⟨#[]⟩ : ByteArray)]) ?_ 1 _ rfl; (with_reducible repeat (first | refine blk_drewN ?_ _ | refine blk_drew ?_ | refine blk_alloc ?_ _)); refine blk_put (cs := #[.string (⟨#[]⟩ : ByteArray), .string (⟨#[]⟩ : ByteArray), .slice none 0 0, .string (⟨#[]⟩ : ByteArray)]) ?_ 0 _ rfl; (with_reducible repeat (first | refine blk_drewN ?_ _ | refine blk_drew ?_ | refine blk_alloc ?_ _)); exact BK221.out) Tryz.underlying25 rfl (by kernel_rfl)) rfl ?_
  exact ⟨_, by first | rfl | (simp [errW_none, errW_some] <;> rfl) | (simp [*, errW_none, errW_some] <;> rfl), by first | exact Kd.R_nil _ _ _ _ _ | exact Kd.N_nil _ _ _ _ _ | exact Kd.V_nil _ _ _ _ _ | exact Kd.Q_nil _ _ _ _ _ | exact Kd.S_nil _ _ _ _ _, by repeat (first | (with_reducible first | exact HB.out | apply below_alloc | apply pw_below_drewN | apply below_drew1 | refine below_set ?_ GE221.out) | exact HB.out)⟩

def calepinref08_Same.l0 : Nat → List (S62) → List (S62) → Int → Int → Option (Bool)
 | 0, _, _, _, _ => none
 | k + 1, x0, x1, x12, x13 => if x13 < x12 then (if 0 ≤ x13 then (if x13 < (x0.length : Int) then (if x13 < (x1.length : Int) then (if (!((((rd_T62 x0 x13).f0).toList) == (((rd_T62 x1 x13).f0).toList)) || (!((((rd_T62 x0 x13).f1).toList) == (((rd_T62 x1 x13).f1).toList)))) = true then (some false) else (calepinref08_Same.l0 k x0 x1 x12 (wrap64 (x13 + 1)))) else (none)) else (none)) else (none)) else (some true)
def calepinref08_Same.f (k : Nat) (l0 : List (S62)) (l1 : List (S62)) : Option (Bool) := if (l0.length : Int) = (l1.length : Int) then (calepinref08_Same.l0 k l0 l1 (l0.length : Int) 0) else (some false)
set_option maxHeartbeats 8000000 in
set_option maxRecDepth 100000 in
theorem calepinref08_Same.calls (k : Nat) (A0 : Option Addr) (c0 : Nat) (l0 : List (S62)) (A1 : Option Addr) (c1 : Nat) (l1 : List (S62)) (r : Bool) (w : World) (hr0 : Kd.C k62 w A0 l0.length l0) (hc0 : l0.length ≤ c0) (hr1 : Kd.C k62 w A1 l1.length l1) (hc1 : l1.length ≤ c1) (h : calepinref08_Same.f k l0 l1 = some r) :
  Calls Tryz.prog 8 #[.slice A0 l0.length c0, .slice A1 l1.length c1] w fun e w' => e = .returned (.bool r) ∧ Drawn0 w w' := by
 have hu62 := Tryz.underlying62
 have HR0 := Aside0.mk hr0
 have HC0 := Aside0.mk hc0
 clear hr0 hc0
 have HR1 := Aside0.mk hr1
 have HC1 := Aside0.mk hc1
 clear hr1 hc1
 have H : (if (l0.length : Int) = (l1.length : Int) then (calepinref08_Same.l0 k l0 l1 (l0.length : Int) 0) else (some false)) = some r := h
 clear h
 by_cases c3 : (l0.length : Int) = (l1.length : Int)
 ·rw [if_pos c3] at H
  have c3b0 : ((l0.length : Int) == (l1.length : Int)) = true := beq_iff_eq.mpr c3
  have c3b1 : ((l0.length : Int) != (l1.length : Int)) = false := bne_eq_false_iff_eq.mpr c3
  have c3b2 : (l0.length == l1.length) = true := by first | simpa using c3 | (simp at c3 ⊢; omega)
  clear c3
  have H' := Aside0.mk H
  clear H
  go_enter Tryz.func8, Tryz.ntmps8
  go_wp2
  repeat (go_quiet (fail); try go_wp2)
  go_loopg [13] k (fun kq v13 w' => ∃ (x13_1 : Int), v13 = .int .i64 x13_1 ∧ Aside0 (calepinref08_Same.l0 kq l0 l1 (l0.length : Int) x13_1 = some r) ∧ Aside0 (kq ≤ k) ∧ Drawn0 w w')
  case atStart => exact ⟨(0), (by first | rfl | (simp; done) | (simp [*]; done)), H', ⟨Nat.le_refl _⟩, by repeat (first | exact Drawn0.refl _ | apply Drawn0.step)⟩
  case round =>
   clear H'
   try clear c1
   try clear p2
   try clear c3
   try clear c3b0
   try clear c3b1
   try clear c3b2
   obtain ⟨x13_1, rfl, HA, HK1, ⟨m1, rfl⟩⟩ := hrel
   cases gk with
   | zero => exact absurd HA.out (by simp [calepinref08_Same.l0])
   | succ k1 =>
    have H := HA.out
    clear HA
    simp only [calepinref08_Same.l0] at H
    by_cases c4 : x13_1 < (l0.length : Int)
    ·rw [if_pos c4] at H
     have c4b0 : decide (x13_1 < (l0.length : Int)) = true := decide_eq_true c4
     clear c4
     by_cases c5 : 0 ≤ x13_1
     ·rw [if_pos c5] at H
      have c5b0 : decide (0 ≤ x13_1) = true := decide_eq_true c5
      clear c5
      by_cases c6 : x13_1 < (l0.length : Int)
      ·rw [if_pos c6] at H
       have c6b0 : decide (x13_1 < (l0.length : Int)) = true := decide_eq_true c6
       clear c6
       by_cases c7 : x13_1 < (l1.length : Int)
       ·rw [if_pos c7] at H
        have c7b0 : decide (x13_1 < (l1.length : Int)) = true := decide_eq_true c7
        clear c7
        by_cases c8 : (!((((rd_T62 l0 x13_1).f0).toList) == (((rd_T62 l1 x13_1).f0).toList)) || (!((((rd_T62 l0 x13_1).f1).toList) == (((rd_T62 l1 x13_1).f1).toList)))) = true
        ·rw [if_pos c8] at H
         have c8b0 : (!((((rd_T62 l0 x13_1).f0).toList) == (((rd_T62 l1 x13_1).f0).toList)) || (!((((rd_T62 l0 x13_1).f1).toList) == (((rd_T62 l1 x13_1).f1).toList)))) = true := c8
         clear c8
         obtain rfl := Option.some.inj H
         have p244 : 0 ≤ (x13_1 : Int) := of_decide_eq_true (by first | (with_reducible assumption) | assumption)
         have q244 : x13_1 < (l0.length : Int) := of_decide_eq_true (by first | (with_reducible assumption) | assumption)
         obtain ⟨ad244, e244, hx244_0, hx244_1⟩ := at_T62 HR0.out x13_1 p244 q244
         cases e244
         replace p244 := eq_true p244
         replace q244 := eq_true q244
         have p245 : 0 ≤ (x13_1 : Int) := of_decide_eq_true (by first | (with_reducible assumption) | assumption)
         have q245 : x13_1 < (l1.length : Int) := of_decide_eq_true (by first | (with_reducible assumption) | assumption)
         obtain ⟨ad245, e245, hx245_0, hx245_1⟩ := at_T62 HR1.out x13_1 p245 q245
         cases e245
         replace p245 := eq_true p245
         replace q245 := eq_true q245
         go_wp2
         repeat (go_quiet (fail); try go_wp2)
         go_ret
         exact ⟨by first | rfl | (simp; done) | (simp [*]; done), by repeat (first | exact Drawn0.refl _ | apply Drawn0.step)⟩
        ·rw [if_neg c8] at H
         have c8b0 : (!((((rd_T62 l0 x13_1).f0).toList) == (((rd_T62 l1 x13_1).f0).toList)) || (!((((rd_T62 l0 x13_1).f1).toList) == (((rd_T62 l1 x13_1).f1).toList)))) = false := by simpa using c8
         clear c8
         have H' := Aside0.mk H
         clear H
         have p244 : 0 ≤ (x13_1 : Int) := of_decide_eq_true (by first | (with_reducible assumption) | assumption)
         have q244 : x13_1 < (l0.length : Int) := of_decide_eq_true (by first | (with_reducible assumption) | assumption)
         obtain ⟨ad244, e244, hx244_0, hx244_1⟩ := at_T62 HR0.out x13_1 p244 q244
         cases e244
         replace p244 := eq_true p244
         replace q244 := eq_true q244
         have p245 : 0 ≤ (x13_1 : Int) := of_decide_eq_true (by first | (with_reducible assumption) | assumption)
         have q245 : x13_1 < (l1.length : Int) := of_decide_eq_true (by first | (with_reducible assumption) | assumption)
         obtain ⟨ad245, e245, hx245_0, hx245_1⟩ := at_T62 HR1.out x13_1 p245 q245
         cases e245
         replace p245 := eq_true p245
         replace q245 := eq_true q245
         go_wp2
         repeat (go_quiet (fail); try go_wp2)
         go_roundg k1
         case measure => have := HK1.out; omega
         case rel => exact ⟨(wrap64 (x13_1 + 1)), (by first | rfl | (simp; done) | (simp [*]; done)), H', ⟨by have := HK1.out; omega⟩, by repeat (first | exact Drawn0.refl _ | apply Drawn0.step)⟩
       ·rw [if_neg c7] at H
        exact absurd H (by simp)
      ·rw [if_neg c6] at H
       exact absurd H (by simp)
     ·rw [if_neg c5] at H
      exact absurd H (by simp)
    ·rw [if_neg c4] at H
     have c4b0 : decide (x13_1 < (l0.length : Int)) = false := decide_eq_false c4
     clear c4
     obtain rfl := Option.some.inj H
     go_wp2
     repeat (go_quiet (fail); try go_wp2)
     go_ret
     exact ⟨by first | rfl | (simp; done) | (simp [*]; done), by repeat (first | exact Drawn0.refl _ | apply Drawn0.step)⟩
 ·rw [if_neg c3] at H
  have c3b0 : ((l0.length : Int) == (l1.length : Int)) = false := beq_eq_false_iff_ne.mpr c3
  have c3b1 : ((l0.length : Int) != (l1.length : Int)) = true := bne_iff_ne.mpr c3
  have c3b2 : (l0.length == l1.length) = false := by first | simpa using c3 | (simp at c3 ⊢; omega)
  obtain rfl := Option.some.inj H
  go_enter Tryz.func8, Tryz.ntmps8
  go_wp2
  repeat (go_quiet (fail); try go_wp2)
  go_ret
  exact ⟨by first | rfl | (simp; done) | (simp [*]; done), by repeat (first | exact Drawn0.refl _ | apply Drawn0.step)⟩

def strings_SplitN.f (s sep : ByteArray) (n : Int) : Option (List ByteArray) := if s.size < 4294967281 ∧ 1 ≤ sep.size ∧ 1 ≤ n ∧ n ≤ 9223372036854775807 then some (Lib.splitB sep 0 (min n.toNat (s.size + 1) - 1) s) else none
theorem strings_SplitN.calls (s sep : ByteArray) (n : Int) (r : List ByteArray) (w : World) (hT : LaidM w) (h : strings_SplitN.f s sep n = some r) :
  Calls Tryz.prog 26 #[.string s, .string sep, .int .i64 n] w fun e w' => ∃ v0_ : Value, e = .returned (v0_) ∧ Kd.R Kd.string 9 w' w.heap.size (fun _ => True) v0_ r ∧ Below w.heap.size w w' := by
 unfold strings_SplitN.f at h
 split at h
 ·rename_i hc
  injection h with h
  subst h
  have k := splitN_any s sep n.toNat w hT hc.1 hc.2.1 (by omega) (by omega)
  rw [Int.toNat_of_nonneg (by omega)] at k
  exact k
 ·cases h

def http_ParseResponse_1.f (k : Nat) (a0 : ByteArray) : Option (Bool) := (strings_SplitN.f a0 (⟨#[32]⟩ : ByteArray) 3).bind fun t246 => (if (t246.length : Int) = 3 then (if 0 < (t246.length : Int) then (if (rdOf ByteArray.empty t246 0).toList = ([72, 84, 84, 80, 47, 49, 46, 49] : List UInt8) then (if 1 < (t246.length : Int) then (if ((rdOf ByteArray.empty t246 1).size : Int) = 3 then (if 0 < ((rdOf ByteArray.empty t246 1).size : Int) then (if (bt (rdOf ByteArray.empty t246 1) 0) ≥ 49 then (if (bt (rdOf ByteArray.empty t246 1) 0) ≤ 53 then ((http_only.f k (rdOf ByteArray.empty t246 1) 48 57).bind fun t254 => (if t254 = true then (if 2 < (t246.length : Int) then ((http_only.f k (rdOf ByteArray.empty t246 2) 32 126).bind fun t256 => (some t256)) else (none)) else (some false))) else (some false)) else (some false)) else (none)) else (some false)) else (none)) else (some false)) else (none)) else (some false))
set_option maxHeartbeats 8000000 in
set_option maxRecDepth 100000 in
theorem http_ParseResponse_1.calls (k : Nat) (a0 : ByteArray) (r : Bool) (w : World) (hT : LaidM w) (h : http_ParseResponse_1.f k a0 = some r) :
  Calls Tryz.prog 25 #[.string a0] w fun e w' => e = .returned (.bool r) ∧ Below w.heap.size w w' := by
 have HB := Aside0.mk (Below.refl w.heap.size w)
 have HT := Aside0.mk hT
 clear hT
 have H : ((strings_SplitN.f a0 (⟨#[32]⟩ : ByteArray) 3).bind fun t246 => (if (t246.length : Int) = 3 then (if 0 < (t246.length : Int) then (if (rdOf ByteArray.empty t246 0).toList = ([72, 84, 84, 80, 47, 49, 46, 49] : List UInt8) then (if 1 < (t246.length : Int) then (if ((rdOf ByteArray.empty t246 1).size : Int) = 3 then (if 0 < ((rdOf ByteArray.empty t246 1).size : Int) then (if (bt (rdOf ByteArray.empty t246 1) 0) ≥ 49 then (if (bt (rdOf ByteArray.empty t246 1) 0) ≤ 53 then ((http_only.f k (rdOf ByteArray.empty t246 1) 48 57).bind fun t254 => (if t254 = true then (if 2 < (t246.length : Int) then ((http_only.f k (rdOf ByteArray.empty t246 2) 32 126).bind fun t256 => (some t256)) else (none)) else (some false))) else (some false)) else (some false)) else (none)) else (some false)) else (none)) else (some false)) else (none)) else (some false))) = some r := h
 clear h
 replace H := Option.bind_eq_some_iff.mp H
 obtain ⟨t246, A20, H⟩ := H
 replace H : (if (t246.length : Int) = 3 then (if 0 < (t246.length : Int) then (if (rdOf ByteArray.empty t246 0).toList = ([72, 84, 84, 80, 47, 49, 46, 49] : List UInt8) then (if 1 < (t246.length : Int) then (if ((rdOf ByteArray.empty t246 1).size : Int) = 3 then (if 0 < ((rdOf ByteArray.empty t246 1).size : Int) then (if (bt (rdOf ByteArray.empty t246 1) 0) ≥ 49 then (if (bt (rdOf ByteArray.empty t246 1) 0) ≤ 53 then ((http_only.f k (rdOf ByteArray.empty t246 1) 48 57).bind fun t254 => (if t254 = true then (if 2 < (t246.length : Int) then ((http_only.f k (rdOf ByteArray.empty t246 2) 32 126).bind fun t256 => (some t256)) else (none)) else (some false))) else (some false)) else (some false)) else (none)) else (some false)) else (none)) else (some false)) else (none)) else (some false)) = some r := H
 have A2 := Aside0.mk A20
 clear A20
 by_cases c3 : (t246.length : Int) = 3
 ·rw [if_pos c3] at H
  have c3b0 : ((t246.length : Int) == 3) = true := beq_iff_eq.mpr c3
  have c3b1 : ((t246.length : Int) != 3) = false := bne_eq_false_iff_eq.mpr c3
  clear c3
  by_cases c4 : 0 < (t246.length : Int)
  ·rw [if_pos c4] at H
   have c4b0 : decide (0 < (t246.length : Int)) = true := decide_eq_true c4
   have c4b1 : decide (0 < t246.length) = true := decide_eq_true (by omega)
   clear c4
   by_cases c5 : (rdOf ByteArray.empty t246 0).toList = ([72, 84, 84, 80, 47, 49, 46, 49] : List UInt8)
   ·rw [if_pos c5] at H
    have c5b0 : ((rdOf ByteArray.empty t246 0).toList == ([72, 84, 84, 80, 47, 49, 46, 49] : List UInt8)) = true := beq_iff_eq.mpr c5
    have c5b1 : ((rdOf ByteArray.empty t246 0).toList != ([72, 84, 84, 80, 47, 49, 46, 49] : List UInt8)) = false := bne_eq_false_iff_eq.mpr c5
    clear c5
    by_cases c6 : 1 < (t246.length : Int)
    ·rw [if_pos c6] at H
     have c6b0 : decide (1 < (t246.length : Int)) = true := decide_eq_true c6
     have c6b1 : decide (1 < t246.length) = true := decide_eq_true (by omega)
     clear c6
     by_cases c7 : ((rdOf ByteArray.empty t246 1).size : Int) = 3
     ·rw [if_pos c7] at H
      have c7b0 : (((rdOf ByteArray.empty t246 1).size : Int) == 3) = true := beq_iff_eq.mpr c7
      have c7b1 : (((rdOf ByteArray.empty t246 1).size : Int) != 3) = false := bne_eq_false_iff_eq.mpr c7
      clear c7
      by_cases c8 : 0 < ((rdOf ByteArray.empty t246 1).size : Int)
      ·rw [if_pos c8] at H
       have c8b0 : decide (0 < ((rdOf ByteArray.empty t246 1).size : Int)) = true := decide_eq_true c8
       have c8b1 : decide (0 < (rdOf ByteArray.empty t246 1).size) = true := decide_eq_true (by omega)
       clear c8
       by_cases c10 : (bt (rdOf ByteArray.empty t246 1) 0) ≥ 49
       ·rw [if_pos c10] at H
        have c10b0 : decide (49 ≤ (bt (rdOf ByteArray.empty t246 1) 0)) = true := decide_eq_true c10
        clear c10
        by_cases c12 : (bt (rdOf ByteArray.empty t246 1) 0) ≤ 53
        ·rw [if_pos c12] at H
         have c12b0 : decide ((bt (rdOf ByteArray.empty t246 1) 0) ≤ 53) = true := decide_eq_true c12
         clear c12
         replace H := Option.bind_eq_some_iff.mp H
         obtain ⟨t254, A130, H⟩ := H
         replace H : (if t254 = true then (if 2 < (t246.length : Int) then ((http_only.f k (rdOf ByteArray.empty t246 2) 32 126).bind fun t256 => (some t256)) else (none)) else (some false)) = some r := H
         have A13 := Aside0.mk A130
         clear A130
         by_cases c14 : t254 = true
         ·subst c14
          have H1 : (if 2 < (t246.length : Int) then ((http_only.f k (rdOf ByteArray.empty t246 2) 32 126).bind fun t256 => (some t256)) else (none)) = some r := by rw [if_pos rfl] at H; exact H
          clear H
          have H := H1
          clear H1
          by_cases c15 : 2 < (t246.length : Int)
          ·rw [if_pos c15] at H
           have c15b0 : decide (2 < (t246.length : Int)) = true := decide_eq_true c15
           have c15b1 : decide (2 < t246.length) = true := decide_eq_true (by omega)
           clear c15
           replace H := Option.bind_eq_some_iff.mp H
           obtain ⟨t256, A160, H⟩ := H
           replace H : (some t256) = some r := H
           have A16 := Aside0.mk A160
           clear A160
           obtain rfl := Option.some.inj H
           go_enter Tryz.func25, Tryz.ntmps25
           go_wp2_with (first | ((with_reducible refine gate_callee (f := 26) rfl ?_); refine goesL_ (some 5) rfl rfl Tryz.func26 (by kernel_rfl) rfl #[.string a0, .string (⟨#[32]⟩ : ByteArray), .int .i64 3] rfl (by (try simp only [List.map_toArray, List.map_cons, List.map_nil]); first | done | rfl | (simp only [List.length_drop, List.length_take]; rfl)) ?_; (with_reducible refine (strings_SplitN.calls a0 (⟨#[32]⟩ : ByteArray) 3 t246 _ ?side1 A2.out).mono ?_); (case side1 => exact LaidM.below HT.out (by repeat (first | (with_reducible first | exact HB.out | apply below_alloc | apply pw_below_drewN | apply below_drew1) | exact HB.out))); rintro e w17 ⟨v247, rfl, ho0, hb⟩; refine ⟨_, rfl, ?_⟩; have n0_ := Aside0.mk (Kd.R_lower ho0 (below_size (by repeat (first | (with_reducible first | exact HB.out | apply below_alloc | apply pw_below_drewN | apply below_drew1) | exact HB.out)))); have n1_ := Aside0.mk (below_step (by repeat (first | (with_reducible first | exact HB.out | apply below_alloc | apply pw_below_drewN | apply below_drew1) | exact HB.out)) hb); clear HB; have HO248 := n0_; have HB := n1_; clear n0_ n1_; (try clear hb); (try clear hb2); (try clear hk); (try clear hi); (try clear ho0); obtain ⟨Ao18, co18, eo18⟩ := Kd.R_slice HO248.out; subst eo18; have p249 : 0 ≤ (0 : Int) := (by omega); have q249 : 0 < (t246.length : Int) := of_decide_eq_true (by first | (with_reducible assumption) | assumption); obtain ⟨ad249, e249, hx249_0⟩ := Kd.at_string (Kd.R_reads' HO248.out).2.2 0 p249 q249; cases e249; have qi249 : (0 < t246.length) = True := eq_true (by omega); (try rw [show ((0 : Int)).toNat = 0 from rfl] at hx249_0); (try rw [Addr.add_zero'] at hx249_0); replace p249 := eq_true p249; replace q249 := eq_true q249; have p250 : 0 ≤ (1 : Int) := (by omega); have q250 : 1 < (t246.length : Int) := of_decide_eq_true (by first | (with_reducible assumption) | assumption); obtain ⟨ad250, e250, hx250_0⟩ := Kd.at_string (Kd.R_reads' HO248.out).2.2 1 p250 q250; obtain rfl : ad249 = ad250 := (by injection e250); (try simp only [show (1 : Int).toNat = 1 from rfl, Nat.reduceMul, Nat.reduceEqDiff, Go.Addr.add, ↓reduceIte] at hx250_0); have qi250 : (1 < t246.length) = True := eq_true (by omega); (try rw [show ((1 : Int)).toNat = 1 from rfl] at hx250_0); replace p250 := eq_true p250; replace q250 := eq_true q250; have p251 : 0 ≤ (1 : Int) := (by omega); have q251 : 1 < (t246.length : Int) := of_decide_eq_true (by first | (with_reducible assumption) | assumption); obtain ⟨ad251, e251, hx251_0⟩ := Kd.at_string (Kd.R_reads' HO248.out).2.2 1 p251 q251; obtain rfl : ad249 = ad251 := (by injection e251); (try simp only [show (1 : Int).toNat = 1 from rfl, Nat.reduceMul, Nat.reduceEqDiff, Go.Addr.add, ↓reduceIte] at hx251_0); have qi251 : (1 < t246.length) = True := eq_true (by omega); (try rw [show ((1 : Int)).toNat = 1 from rfl] at hx251_0); replace p251 := eq_true p251; replace q251 := eq_true q251; have p9 : 0 ≤ (0 : Int) := (by omega); have q9 : 0 < (rdOf ByteArray.empty t246 1).size := (by have : (0 : Int) < ((rdOf ByteArray.empty t246 1).size : Int) := of_decide_eq_true (by first | (with_reducible assumption) | assumption); omega); have hx9 : ∀ h : 0 < (rdOf ByteArray.empty t246 1).size, (((rdOf ByteArray.empty t246 1)[0]'h).toNat : Int) = bt (rdOf ByteArray.empty t246 1) 0 := bt_at (rdOf ByteArray.empty t246 1) 0; clear p9; have qi9 : (0 < ((rdOf ByteArray.empty t246 1).size : Int)) = True := eq_true (of_decide_eq_true (by first | (with_reducible assumption) | assumption)); replace q9 := eq_true q9; have p252 : 0 ≤ (1 : Int) := (by omega); have q252 : 1 < (t246.length : Int) := of_decide_eq_true (by first | (with_reducible assumption) | assumption); obtain ⟨ad252, e252, hx252_0⟩ := Kd.at_string (Kd.R_reads' HO248.out).2.2 1 p252 q252; obtain rfl : ad249 = ad252 := (by injection e252); (try simp only [show (1 : Int).toNat = 1 from rfl, Nat.reduceMul, Nat.reduceEqDiff, Go.Addr.add, ↓reduceIte] at hx252_0); have qi252 : (1 < t246.length) = True := eq_true (by omega); (try rw [show ((1 : Int)).toNat = 1 from rfl] at hx252_0); replace p252 := eq_true p252; replace q252 := eq_true q252; have p11 : 0 ≤ (0 : Int) := (by omega); have q11 : 0 < (rdOf ByteArray.empty t246 1).size := (by have : (0 : Int) < ((rdOf ByteArray.empty t246 1).size : Int) := of_decide_eq_true (by first | (with_reducible assumption) | assumption); omega); have hx11 : ∀ h : 0 < (rdOf ByteArray.empty t246 1).size, (((rdOf ByteArray.empty t246 1)[0]'h).toNat : Int) = bt (rdOf ByteArray.empty t246 1) 0 := bt_at (rdOf ByteArray.empty t246 1) 0; clear p11; have qi11 : (0 < ((rdOf ByteArray.empty t246 1).size : Int)) = True := eq_true (of_decide_eq_true (by first | (with_reducible assumption) | assumption)); replace q11 := eq_true q11; have p253 : 0 ≤ (1 : Int) := (by omega); have q253 : 1 < (t246.length : Int) := of_decide_eq_true (by first | (with_reducible assumption) | assumption); obtain ⟨ad253, e253, hx253_0⟩ := Kd.at_string (Kd.R_reads' HO248.out).2.2 1 p253 q253; obtain rfl : ad249 = ad253 := (by injection e253); (try simp only [show (1 : Int).toNat = 1 from rfl, Nat.reduceMul, Nat.reduceEqDiff, Go.Addr.add, ↓reduceIte] at hx253_0); have qi253 : (1 < t246.length) = True := eq_true (by omega); (try rw [show ((1 : Int)).toNat = 1 from rfl] at hx253_0); replace p253 := eq_true p253; replace q253 := eq_true q253) | (go_at_call 27; (with_reducible refine (http_only.calls k (rdOf ByteArray.empty t246 1) 48 57 true _ A13.out).mono ?_); rintro e w' ⟨rfl, ⟨nd, rfl⟩⟩; have p255 : 0 ≤ (2 : Int) := (by omega); have q255 : 2 < (t246.length : Int) := of_decide_eq_true (by first | (with_reducible assumption) | assumption); obtain ⟨ad255, e255, hx255_0⟩ := Kd.at_string (Kd.R_reads' HO248.out).2.2 2 p255 q255; obtain rfl : ad249 = ad255 := (by injection e255); (try simp only [show (2 : Int).toNat = 2 from rfl, Nat.reduceMul, Nat.reduceEqDiff, Go.Addr.add, ↓reduceIte] at hx255_0); have qi255 : (2 < t246.length) = True := eq_true (by omega); (try rw [show ((2 : Int)).toNat = 2 from rfl] at hx255_0); replace p255 := eq_true p255; replace q255 := eq_true q255) | (go_at_call 27; (with_reducible refine (http_only.calls k (rdOf ByteArray.empty t246 2) 32 126 t256 _ A16.out).mono ?_); rintro e w' ⟨rfl, ⟨nd, rfl⟩⟩))
           go_ret
           exact ⟨by first | rfl | (simp [errW_none, errW_some] <;> rfl) | (simp [*, errW_none, errW_some] <;> rfl), by repeat (first | (with_reducible first | exact HB.out | apply below_alloc | apply pw_below_drewN | apply below_drew1) | exact HB.out)⟩
          ·rw [if_neg c15] at H
           exact absurd H (by simp)
         ·replace c14 := Bool.eq_false_iff.mpr c14
          subst c14
          have H1 : (some false) = some r := by rw [if_neg (show ¬ (false = true) by decide)] at H; exact H
          clear H
          have H := H1
          clear H1
          obtain rfl := Option.some.inj H
          go_enter Tryz.func25, Tryz.ntmps25
          go_wp2_with (first | ((with_reducible refine gate_callee (f := 26) rfl ?_); refine goesL_ (some 5) rfl rfl Tryz.func26 (by kernel_rfl) rfl #[.string a0, .string (⟨#[32]⟩ : ByteArray), .int .i64 3] rfl (by (try simp only [List.map_toArray, List.map_cons, List.map_nil]); first | done | rfl | (simp only [List.length_drop, List.length_take]; rfl)) ?_; (with_reducible refine (strings_SplitN.calls a0 (⟨#[32]⟩ : ByteArray) 3 t246 _ ?side1 A2.out).mono ?_); (case side1 => exact LaidM.below HT.out (by repeat (first | (with_reducible first | exact HB.out | apply below_alloc | apply pw_below_drewN | apply below_drew1) | exact HB.out))); rintro e w19 ⟨v247, rfl, ho0, hb⟩; refine ⟨_, rfl, ?_⟩; have n0_ := Aside0.mk (Kd.R_lower ho0 (below_size (by repeat (first | (with_reducible first | exact HB.out | apply below_alloc | apply pw_below_drewN | apply below_drew1) | exact HB.out)))); have n1_ := Aside0.mk (below_step (by repeat (first | (with_reducible first | exact HB.out | apply below_alloc | apply pw_below_drewN | apply below_drew1) | exact HB.out)) hb); clear HB; have HO248 := n0_; have HB := n1_; clear n0_ n1_; (try clear hb); (try clear hb2); (try clear hk); (try clear hi); (try clear ho0); obtain ⟨Ao20, co20, eo20⟩ := Kd.R_slice HO248.out; subst eo20; have p249 : 0 ≤ (0 : Int) := (by omega); have q249 : 0 < (t246.length : Int) := of_decide_eq_true (by first | (with_reducible assumption) | assumption); obtain ⟨ad249, e249, hx249_0⟩ := Kd.at_string (Kd.R_reads' HO248.out).2.2 0 p249 q249; cases e249; have qi249 : (0 < t246.length) = True := eq_true (by omega); (try rw [show ((0 : Int)).toNat = 0 from rfl] at hx249_0); (try rw [Addr.add_zero'] at hx249_0); replace p249 := eq_true p249; replace q249 := eq_true q249; have p250 : 0 ≤ (1 : Int) := (by omega); have q250 : 1 < (t246.length : Int) := of_decide_eq_true (by first | (with_reducible assumption) | assumption); obtain ⟨ad250, e250, hx250_0⟩ := Kd.at_string (Kd.R_reads' HO248.out).2.2 1 p250 q250; obtain rfl : ad249 = ad250 := (by injection e250); (try simp only [show (1 : Int).toNat = 1 from rfl, Nat.reduceMul, Nat.reduceEqDiff, Go.Addr.add, ↓reduceIte] at hx250_0); have qi250 : (1 < t246.length) = True := eq_true (by omega); (try rw [show ((1 : Int)).toNat = 1 from rfl] at hx250_0); replace p250 := eq_true p250; replace q250 := eq_true q250; have p251 : 0 ≤ (1 : Int) := (by omega); have q251 : 1 < (t246.length : Int) := of_decide_eq_true (by first | (with_reducible assumption) | assumption); obtain ⟨ad251, e251, hx251_0⟩ := Kd.at_string (Kd.R_reads' HO248.out).2.2 1 p251 q251; obtain rfl : ad249 = ad251 := (by injection e251); (try simp only [show (1 : Int).toNat = 1 from rfl, Nat.reduceMul, Nat.reduceEqDiff, Go.Addr.add, ↓reduceIte] at hx251_0); have qi251 : (1 < t246.length) = True := eq_true (by omega); (try rw [show ((1 : Int)).toNat = 1 from rfl] at hx251_0); replace p251 := eq_true p251; replace q251 := eq_true q251; have p9 : 0 ≤ (0 : Int) := (by omega); have q9 : 0 < (rdOf ByteArray.empty t246 1).size := (by have : (0 : Int) < ((rdOf ByteArray.empty t246 1).size : Int) := of_decide_eq_true (by first | (with_reducible assumption) | assumption); omega); have hx9 : ∀ h : 0 < (rdOf ByteArray.empty t246 1).size, (((rdOf ByteArray.empty t246 1)[0]'h).toNat : Int) = bt (rdOf ByteArray.empty t246 1) 0 := bt_at (rdOf ByteArray.empty t246 1) 0; clear p9; have qi9 : (0 < ((rdOf ByteArray.empty t246 1).size : Int)) = True := eq_true (of_decide_eq_true (by first | (with_reducible assumption) | assumption)); replace q9 := eq_true q9; have p252 : 0 ≤ (1 : Int) := (by omega); have q252 : 1 < (t246.length : Int) := of_decide_eq_true (by first | (with_reducible assumption) | assumption); obtain ⟨ad252, e252, hx252_0⟩ := Kd.at_string (Kd.R_reads' HO248.out).2.2 1 p252 q252; obtain rfl : ad249 = ad252 := (by injection e252); (try simp only [show (1 : Int).toNat = 1 from rfl, Nat.reduceMul, Nat.reduceEqDiff, Go.Addr.add, ↓reduceIte] at hx252_0); have qi252 : (1 < t246.length) = True := eq_true (by omega); (try rw [show ((1 : Int)).toNat = 1 from rfl] at hx252_0); replace p252 := eq_true p252; replace q252 := eq_true q252; have p11 : 0 ≤ (0 : Int) := (by omega); have q11 : 0 < (rdOf ByteArray.empty t246 1).size := (by have : (0 : Int) < ((rdOf ByteArray.empty t246 1).size : Int) := of_decide_eq_true (by first | (with_reducible assumption) | assumption); omega); have hx11 : ∀ h : 0 < (rdOf ByteArray.empty t246 1).size, (((rdOf ByteArray.empty t246 1)[0]'h).toNat : Int) = bt (rdOf ByteArray.empty t246 1) 0 := bt_at (rdOf ByteArray.empty t246 1) 0; clear p11; have qi11 : (0 < ((rdOf ByteArray.empty t246 1).size : Int)) = True := eq_true (of_decide_eq_true (by first | (with_reducible assumption) | assumption)); replace q11 := eq_true q11; have p253 : 0 ≤ (1 : Int) := (by omega); have q253 : 1 < (t246.length : Int) := of_decide_eq_true (by first | (with_reducible assumption) | assumption); obtain ⟨ad253, e253, hx253_0⟩ := Kd.at_string (Kd.R_reads' HO248.out).2.2 1 p253 q253; obtain rfl : ad249 = ad253 := (by injection e253); (try simp only [show (1 : Int).toNat = 1 from rfl, Nat.reduceMul, Nat.reduceEqDiff, Go.Addr.add, ↓reduceIte] at hx253_0); have qi253 : (1 < t246.length) = True := eq_true (by omega); (try rw [show ((1 : Int)).toNat = 1 from rfl] at hx253_0); replace p253 := eq_true p253; replace q253 := eq_true q253) | (go_at_call 27; (with_reducible refine (http_only.calls k (rdOf ByteArray.empty t246 1) 48 57 false _ A13.out).mono ?_); rintro e w' ⟨rfl, ⟨nd, rfl⟩⟩))
          go_ret
          exact ⟨by first | rfl | (simp [errW_none, errW_some] <;> rfl) | (simp [*, errW_none, errW_some] <;> rfl), by repeat (first | (with_reducible first | exact HB.out | apply below_alloc | apply pw_below_drewN | apply below_drew1) | exact HB.out)⟩
        ·rw [if_neg c12] at H
         have c12b0 : decide ((bt (rdOf ByteArray.empty t246 1) 0) ≤ 53) = false := decide_eq_false c12
         clear c12
         obtain rfl := Option.some.inj H
         go_enter Tryz.func25, Tryz.ntmps25
         go_wp2_with (first | ((with_reducible refine gate_callee (f := 26) rfl ?_); refine goesL_ (some 5) rfl rfl Tryz.func26 (by kernel_rfl) rfl #[.string a0, .string (⟨#[32]⟩ : ByteArray), .int .i64 3] rfl (by (try simp only [List.map_toArray, List.map_cons, List.map_nil]); first | done | rfl | (simp only [List.length_drop, List.length_take]; rfl)) ?_; (with_reducible refine (strings_SplitN.calls a0 (⟨#[32]⟩ : ByteArray) 3 t246 _ ?side1 A2.out).mono ?_); (case side1 => exact LaidM.below HT.out (by repeat (first | (with_reducible first | exact HB.out | apply below_alloc | apply pw_below_drewN | apply below_drew1) | exact HB.out))); rintro e w21 ⟨v247, rfl, ho0, hb⟩; refine ⟨_, rfl, ?_⟩; have n0_ := Aside0.mk (Kd.R_lower ho0 (below_size (by repeat (first | (with_reducible first | exact HB.out | apply below_alloc | apply pw_below_drewN | apply below_drew1) | exact HB.out)))); have n1_ := Aside0.mk (below_step (by repeat (first | (with_reducible first | exact HB.out | apply below_alloc | apply pw_below_drewN | apply below_drew1) | exact HB.out)) hb); clear HB; have HO248 := n0_; have HB := n1_; clear n0_ n1_; (try clear hb); (try clear hb2); (try clear hk); (try clear hi); (try clear ho0); obtain ⟨Ao22, co22, eo22⟩ := Kd.R_slice HO248.out; subst eo22; have p249 : 0 ≤ (0 : Int) := (by omega); have q249 : 0 < (t246.length : Int) := of_decide_eq_true (by first | (with_reducible assumption) | assumption); obtain ⟨ad249, e249, hx249_0⟩ := Kd.at_string (Kd.R_reads' HO248.out).2.2 0 p249 q249; cases e249; have qi249 : (0 < t246.length) = True := eq_true (by omega); (try rw [show ((0 : Int)).toNat = 0 from rfl] at hx249_0); (try rw [Addr.add_zero'] at hx249_0); replace p249 := eq_true p249; replace q249 := eq_true q249; have p250 : 0 ≤ (1 : Int) := (by omega); have q250 : 1 < (t246.length : Int) := of_decide_eq_true (by first | (with_reducible assumption) | assumption); obtain ⟨ad250, e250, hx250_0⟩ := Kd.at_string (Kd.R_reads' HO248.out).2.2 1 p250 q250; obtain rfl : ad249 = ad250 := (by injection e250); (try simp only [show (1 : Int).toNat = 1 from rfl, Nat.reduceMul, Nat.reduceEqDiff, Go.Addr.add, ↓reduceIte] at hx250_0); have qi250 : (1 < t246.length) = True := eq_true (by omega); (try rw [show ((1 : Int)).toNat = 1 from rfl] at hx250_0); replace p250 := eq_true p250; replace q250 := eq_true q250; have p251 : 0 ≤ (1 : Int) := (by omega); have q251 : 1 < (t246.length : Int) := of_decide_eq_true (by first | (with_reducible assumption) | assumption); obtain ⟨ad251, e251, hx251_0⟩ := Kd.at_string (Kd.R_reads' HO248.out).2.2 1 p251 q251; obtain rfl : ad249 = ad251 := (by injection e251); (try simp only [show (1 : Int).toNat = 1 from rfl, Nat.reduceMul, Nat.reduceEqDiff, Go.Addr.add, ↓reduceIte] at hx251_0); have qi251 : (1 < t246.length) = True := eq_true (by omega); (try rw [show ((1 : Int)).toNat = 1 from rfl] at hx251_0); replace p251 := eq_true p251; replace q251 := eq_true q251; have p9 : 0 ≤ (0 : Int) := (by omega); have q9 : 0 < (rdOf ByteArray.empty t246 1).size := (by have : (0 : Int) < ((rdOf ByteArray.empty t246 1).size : Int) := of_decide_eq_true (by first | (with_reducible assumption) | assumption); omega); have hx9 : ∀ h : 0 < (rdOf ByteArray.empty t246 1).size, (((rdOf ByteArray.empty t246 1)[0]'h).toNat : Int) = bt (rdOf ByteArray.empty t246 1) 0 := bt_at (rdOf ByteArray.empty t246 1) 0; clear p9; have qi9 : (0 < ((rdOf ByteArray.empty t246 1).size : Int)) = True := eq_true (of_decide_eq_true (by first | (with_reducible assumption) | assumption)); replace q9 := eq_true q9; have p252 : 0 ≤ (1 : Int) := (by omega); have q252 : 1 < (t246.length : Int) := of_decide_eq_true (by first | (with_reducible assumption) | assumption); obtain ⟨ad252, e252, hx252_0⟩ := Kd.at_string (Kd.R_reads' HO248.out).2.2 1 p252 q252; obtain rfl : ad249 = ad252 := (by injection e252); (try simp only [show (1 : Int).toNat = 1 from rfl, Nat.reduceMul, Nat.reduceEqDiff, Go.Addr.add, ↓reduceIte] at hx252_0); have qi252 : (1 < t246.length) = True := eq_true (by omega); (try rw [show ((1 : Int)).toNat = 1 from rfl] at hx252_0); replace p252 := eq_true p252; replace q252 := eq_true q252; have p11 : 0 ≤ (0 : Int) := (by omega); have q11 : 0 < (rdOf ByteArray.empty t246 1).size := (by have : (0 : Int) < ((rdOf ByteArray.empty t246 1).size : Int) := of_decide_eq_true (by first | (with_reducible assumption) | assumption); omega); have hx11 : ∀ h : 0 < (rdOf ByteArray.empty t246 1).size, (((rdOf ByteArray.empty t246 1)[0]'h).toNat : Int) = bt (rdOf ByteArray.empty t246 1) 0 := bt_at (rdOf ByteArray.empty t246 1) 0; clear p11; have qi11 : (0 < ((rdOf ByteArray.empty t246 1).size : Int)) = True := eq_true (of_decide_eq_true (by first | (with_reducible assumption) | assumption)); replace q11 := eq_true q11))
         go_ret
         exact ⟨by first | rfl | (simp [errW_none, errW_some] <;> rfl) | (simp [*, errW_none, errW_some] <;> rfl), by repeat (first | (with_reducible first | exact HB.out | apply below_alloc | apply pw_below_drewN | apply below_drew1) | exact HB.out)⟩
       ·rw [if_neg c10] at H
        have c10b0 : decide (49 ≤ (bt (rdOf ByteArray.empty t246 1) 0)) = false := decide_eq_false c10
        clear c10
        obtain rfl := Option.some.inj H
        go_enter Tryz.func25, Tryz.ntmps25
        go_wp2_with (first | ((with_reducible refine gate_callee (f := 26) rfl ?_); refine goesL_ (some 5) rfl rfl Tryz.func26 (by kernel_rfl) rfl #[.string a0, .string (⟨#[32]⟩ : ByteArray), .int .i64 3] rfl (by (try simp only [List.map_toArray, List.map_cons, List.map_nil]); first | done | rfl | (simp only [List.length_drop, List.length_take]; rfl)) ?_; (with_reducible refine (strings_SplitN.calls a0 (⟨#[32]⟩ : ByteArray) 3 t246 _ ?side1 A2.out).mono ?_); (case side1 => exact LaidM.below HT.out (by repeat (first | (with_reducible first | exact HB.out | apply below_alloc | apply pw_below_drewN | apply below_drew1) | exact HB.out))); rintro e w23 ⟨v247, rfl, ho0, hb⟩; refine ⟨_, rfl, ?_⟩; have n0_ := Aside0.mk (Kd.R_lower ho0 (below_size (by repeat (first | (with_reducible first | exact HB.out | apply below_alloc | apply pw_below_drewN | apply below_drew1) | exact HB.out)))); have n1_ := Aside0.mk (below_step (by repeat (first | (with_reducible first | exact HB.out | apply below_alloc | apply pw_below_drewN | apply below_drew1) | exact HB.out)) hb); clear HB; have HO248 := n0_; have HB := n1_; clear n0_ n1_; (try clear hb); (try clear hb2); (try clear hk); (try clear hi); (try clear ho0); obtain ⟨Ao24, co24, eo24⟩ := Kd.R_slice HO248.out; subst eo24; have p249 : 0 ≤ (0 : Int) := (by omega); have q249 : 0 < (t246.length : Int) := of_decide_eq_true (by first | (with_reducible assumption) | assumption); obtain ⟨ad249, e249, hx249_0⟩ := Kd.at_string (Kd.R_reads' HO248.out).2.2 0 p249 q249; cases e249; have qi249 : (0 < t246.length) = True := eq_true (by omega); (try rw [show ((0 : Int)).toNat = 0 from rfl] at hx249_0); (try rw [Addr.add_zero'] at hx249_0); replace p249 := eq_true p249; replace q249 := eq_true q249; have p250 : 0 ≤ (1 : Int) := (by omega); have q250 : 1 < (t246.length : Int) := of_decide_eq_true (by first | (with_reducible assumption) | assumption); obtain ⟨ad250, e250, hx250_0⟩ := Kd.at_string (Kd.R_reads' HO248.out).2.2 1 p250 q250; obtain rfl : ad249 = ad250 := (by injection e250); (try simp only [show (1 : Int).toNat = 1 from rfl, Nat.reduceMul, Nat.reduceEqDiff, Go.Addr.add, ↓reduceIte] at hx250_0); have qi250 : (1 < t246.length) = True := eq_true (by omega); (try rw [show ((1 : Int)).toNat = 1 from rfl] at hx250_0); replace p250 := eq_true p250; replace q250 := eq_true q250; have p251 : 0 ≤ (1 : Int) := (by omega); have q251 : 1 < (t246.length : Int) := of_decide_eq_true (by first | (with_reducible assumption) | assumption); obtain ⟨ad251, e251, hx251_0⟩ := Kd.at_string (Kd.R_reads' HO248.out).2.2 1 p251 q251; obtain rfl : ad249 = ad251 := (by injection e251); (try simp only [show (1 : Int).toNat = 1 from rfl, Nat.reduceMul, Nat.reduceEqDiff, Go.Addr.add, ↓reduceIte] at hx251_0); have qi251 : (1 < t246.length) = True := eq_true (by omega); (try rw [show ((1 : Int)).toNat = 1 from rfl] at hx251_0); replace p251 := eq_true p251; replace q251 := eq_true q251; have p9 : 0 ≤ (0 : Int) := (by omega); have q9 : 0 < (rdOf ByteArray.empty t246 1).size := (by have : (0 : Int) < ((rdOf ByteArray.empty t246 1).size : Int) := of_decide_eq_true (by first | (with_reducible assumption) | assumption); omega); have hx9 : ∀ h : 0 < (rdOf ByteArray.empty t246 1).size, (((rdOf ByteArray.empty t246 1)[0]'h).toNat : Int) = bt (rdOf ByteArray.empty t246 1) 0 := bt_at (rdOf ByteArray.empty t246 1) 0; clear p9; have qi9 : (0 < ((rdOf ByteArray.empty t246 1).size : Int)) = True := eq_true (of_decide_eq_true (by first | (with_reducible assumption) | assumption)); replace q9 := eq_true q9))
        go_ret
        exact ⟨by first | rfl | (simp [errW_none, errW_some] <;> rfl) | (simp [*, errW_none, errW_some] <;> rfl), by repeat (first | (with_reducible first | exact HB.out | apply below_alloc | apply pw_below_drewN | apply below_drew1) | exact HB.out)⟩
      ·rw [if_neg c8] at H
       exact absurd H (by simp)
     ·rw [if_neg c7] at H
      have c7b0 : (((rdOf ByteArray.empty t246 1).size : Int) == 3) = false := beq_eq_false_iff_ne.mpr c7
      have c7b1 : (((rdOf ByteArray.empty t246 1).size : Int) != 3) = true := bne_iff_ne.mpr c7
      obtain rfl := Option.some.inj H
      go_enter Tryz.func25, Tryz.ntmps25
      go_wp2_with (first | ((with_reducible refine gate_callee (f := 26) rfl ?_); refine goesL_ (some 5) rfl rfl Tryz.func26 (by kernel_rfl) rfl #[.string a0, .string (⟨#[32]⟩ : ByteArray), .int .i64 3] rfl (by (try simp only [List.map_toArray, List.map_cons, List.map_nil]); first | done | rfl | (simp only [List.length_drop, List.length_take]; rfl)) ?_; (with_reducible refine (strings_SplitN.calls a0 (⟨#[32]⟩ : ByteArray) 3 t246 _ ?side1 A2.out).mono ?_); (case side1 => exact LaidM.below HT.out (by repeat (first | (with_reducible first | exact HB.out | apply below_alloc | apply pw_below_drewN | apply below_drew1) | exact HB.out))); rintro e w25 ⟨v247, rfl, ho0, hb⟩; refine ⟨_, rfl, ?_⟩; have n0_ := Aside0.mk (Kd.R_lower ho0 (below_size (by repeat (first | (with_reducible first | exact HB.out | apply below_alloc | apply pw_below_drewN | apply below_drew1) | exact HB.out)))); have n1_ := Aside0.mk (below_step (by repeat (first | (with_reducible first | exact HB.out | apply below_alloc | apply pw_below_drewN | apply below_drew1) | exact HB.out)) hb); clear HB; have HO248 := n0_; have HB := n1_; clear n0_ n1_; (try clear hb); (try clear hb2); (try clear hk); (try clear hi); (try clear ho0); obtain ⟨Ao26, co26, eo26⟩ := Kd.R_slice HO248.out; subst eo26; have p249 : 0 ≤ (0 : Int) := (by omega); have q249 : 0 < (t246.length : Int) := of_decide_eq_true (by first | (with_reducible assumption) | assumption); obtain ⟨ad249, e249, hx249_0⟩ := Kd.at_string (Kd.R_reads' HO248.out).2.2 0 p249 q249; cases e249; have qi249 : (0 < t246.length) = True := eq_true (by omega); (try rw [show ((0 : Int)).toNat = 0 from rfl] at hx249_0); (try rw [Addr.add_zero'] at hx249_0); replace p249 := eq_true p249; replace q249 := eq_true q249; have p250 : 0 ≤ (1 : Int) := (by omega); have q250 : 1 < (t246.length : Int) := of_decide_eq_true (by first | (with_reducible assumption) | assumption); obtain ⟨ad250, e250, hx250_0⟩ := Kd.at_string (Kd.R_reads' HO248.out).2.2 1 p250 q250; obtain rfl : ad249 = ad250 := (by injection e250); (try simp only [show (1 : Int).toNat = 1 from rfl, Nat.reduceMul, Nat.reduceEqDiff, Go.Addr.add, ↓reduceIte] at hx250_0); have qi250 : (1 < t246.length) = True := eq_true (by omega); (try rw [show ((1 : Int)).toNat = 1 from rfl] at hx250_0); replace p250 := eq_true p250; replace q250 := eq_true q250))
      go_ret
      exact ⟨by first | rfl | (simp [errW_none, errW_some] <;> rfl) | (simp [*, errW_none, errW_some] <;> rfl), by repeat (first | (with_reducible first | exact HB.out | apply below_alloc | apply pw_below_drewN | apply below_drew1) | exact HB.out)⟩
    ·rw [if_neg c6] at H
     exact absurd H (by simp)
   ·rw [if_neg c5] at H
    have c5b0 : ((rdOf ByteArray.empty t246 0).toList == ([72, 84, 84, 80, 47, 49, 46, 49] : List UInt8)) = false := beq_eq_false_iff_ne.mpr c5
    have c5b1 : ((rdOf ByteArray.empty t246 0).toList != ([72, 84, 84, 80, 47, 49, 46, 49] : List UInt8)) = true := bne_iff_ne.mpr c5
    obtain rfl := Option.some.inj H
    go_enter Tryz.func25, Tryz.ntmps25
    go_wp2_with (first | ((with_reducible refine gate_callee (f := 26) rfl ?_); refine goesL_ (some 5) rfl rfl Tryz.func26 (by kernel_rfl) rfl #[.string a0, .string (⟨#[32]⟩ : ByteArray), .int .i64 3] rfl (by (try simp only [List.map_toArray, List.map_cons, List.map_nil]); first | done | rfl | (simp only [List.length_drop, List.length_take]; rfl)) ?_; (with_reducible refine (strings_SplitN.calls a0 (⟨#[32]⟩ : ByteArray) 3 t246 _ ?side1 A2.out).mono ?_); (case side1 => exact LaidM.below HT.out (by repeat (first | (with_reducible first | exact HB.out | apply below_alloc | apply pw_below_drewN | apply below_drew1) | exact HB.out))); rintro e w27 ⟨v247, rfl, ho0, hb⟩; refine ⟨_, rfl, ?_⟩; have n0_ := Aside0.mk (Kd.R_lower ho0 (below_size (by repeat (first | (with_reducible first | exact HB.out | apply below_alloc | apply pw_below_drewN | apply below_drew1) | exact HB.out)))); have n1_ := Aside0.mk (below_step (by repeat (first | (with_reducible first | exact HB.out | apply below_alloc | apply pw_below_drewN | apply below_drew1) | exact HB.out)) hb); clear HB; have HO248 := n0_; have HB := n1_; clear n0_ n1_; (try clear hb); (try clear hb2); (try clear hk); (try clear hi); (try clear ho0); obtain ⟨Ao28, co28, eo28⟩ := Kd.R_slice HO248.out; subst eo28; have p249 : 0 ≤ (0 : Int) := (by omega); have q249 : 0 < (t246.length : Int) := of_decide_eq_true (by first | (with_reducible assumption) | assumption); obtain ⟨ad249, e249, hx249_0⟩ := Kd.at_string (Kd.R_reads' HO248.out).2.2 0 p249 q249; cases e249; have qi249 : (0 < t246.length) = True := eq_true (by omega); (try rw [show ((0 : Int)).toNat = 0 from rfl] at hx249_0); (try rw [Addr.add_zero'] at hx249_0); replace p249 := eq_true p249; replace q249 := eq_true q249))
    go_ret
    exact ⟨by first | rfl | (simp [errW_none, errW_some] <;> rfl) | (simp [*, errW_none, errW_some] <;> rfl), by repeat (first | (with_reducible first | exact HB.out | apply below_alloc | apply pw_below_drewN | apply below_drew1) | exact HB.out)⟩
  ·rw [if_neg c4] at H
   exact absurd H (by simp)
 ·rw [if_neg c3] at H
  have c3b0 : ((t246.length : Int) == 3) = false := beq_eq_false_iff_ne.mpr c3
  have c3b1 : ((t246.length : Int) != 3) = true := bne_iff_ne.mpr c3
  obtain rfl := Option.some.inj H
  go_enter Tryz.func25, Tryz.ntmps25
  go_wp2_with (first | ((with_reducible refine gate_callee (f := 26) rfl ?_); refine goesL_ (some 5) rfl rfl Tryz.func26 (by kernel_rfl) rfl #[.string a0, .string (⟨#[32]⟩ : ByteArray), .int .i64 3] rfl (by (try simp only [List.map_toArray, List.map_cons, List.map_nil]); first | done | rfl | (simp only [List.length_drop, List.length_take]; rfl)) ?_; (with_reducible refine (strings_SplitN.calls a0 (⟨#[32]⟩ : ByteArray) 3 t246 _ ?side1 A2.out).mono ?_); (case side1 => exact LaidM.below HT.out (by repeat (first | (with_reducible first | exact HB.out | apply below_alloc | apply pw_below_drewN | apply below_drew1) | exact HB.out))); rintro e w29 ⟨v247, rfl, ho0, hb⟩; refine ⟨_, rfl, ?_⟩; have n0_ := Aside0.mk (Kd.R_lower ho0 (below_size (by repeat (first | (with_reducible first | exact HB.out | apply below_alloc | apply pw_below_drewN | apply below_drew1) | exact HB.out)))); have n1_ := Aside0.mk (below_step (by repeat (first | (with_reducible first | exact HB.out | apply below_alloc | apply pw_below_drewN | apply below_drew1) | exact HB.out)) hb); clear HB; have HO248 := n0_; have HB := n1_; clear n0_ n1_; (try clear hb); (try clear hb2); (try clear hk); (try clear hi); (try clear ho0); obtain ⟨Ao30, co30, eo30⟩ := Kd.R_slice HO248.out; subst eo30))
  go_ret
  exact ⟨by first | rfl | (simp [errW_none, errW_some] <;> rfl) | (simp [*, errW_none, errW_some] <;> rfl), by repeat (first | (with_reducible first | exact HB.out | apply below_alloc | apply pw_below_drewN | apply below_drew1) | exact HB.out)⟩

end Go.Proofs.YtipfekjmcddelaaGreatDoor.XHttpReads
