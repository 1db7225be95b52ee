-- written by wip/xprint.py: the kit's print with functions walked by hand
import Derived.Test.YtipfekjmcddelaaGreatDoorXHttpReadsx0
import Derived.Test.YtipfekjmcddelaaGreatDoorXHttpReadsx5
import Derived.Test.YtipfekjmcddelaaGreatDoorXHttpReadsx6
import Derived.Test.YtipfekjmcddelaaGreatDoorXHttpReadsx8
namespace Go.Proofs.YtipfekjmcddelaaGreatDoor.XHttpReads
open Go.RowKit Go.Proofs.YtipfekjmcddelaaGreatDoorW.PrintWords Go.Proofs.YtipfekjmcddelaaGreatDoorW.PrintLast Go.Proofs.YtipfekjmcddelaaGreatDoorW.PrintMore
attribute [local go_sem] max2_int min2_int max_two min_two max_three min_three max_four min_four   -- for this text's walks alone
set_option linter.unusedVariables false
set_option linter.unusedSimpArgs false

def calepinref08_Response.j0 : Nat → ByteArray → Int → ByteArray → List (S62) → Int → Bool → Option (Int × (List (S62)) × ByteArray × Int × Int)
 | 0, _, _, _, _, _, _ => none
 | k + 1, x0, x6, x11, x14, x15, x83 => if x83 = true then (some (0, ([] : List (S62)), (⟨#[]⟩ : ByteArray), 0, 80)) else (if (wrap64 ((x0.size : Int) - x6)) < x15 then (some (0, ([] : List (S62)), (⟨#[]⟩ : ByteArray), 0, 91)) else (if 0 < (x11.size : Int) then (if 1 < (x11.size : Int) then (if 2 < (x11.size : Int) then (if 0 ≤ x6 then (if x6 ≤ (wrap64 (x6 + x15)) then (if (wrap64 (x6 + x15)) ≤ (x0.size : Int) then (some (((100 * (((bt x11 0) - 48) % 256)) + (10 * (((bt x11 1) - 48) % 256))) + (((bt x11 2) - 48) % 256), x14, x0.extract (x6 : Int).toNat ((wrap64 (x6 + x15)) : Int).toNat, wrap64 (x6 + x15), 0)) else (none)) else (none)) else (none)) else (none)) else (none)) else (none)))
def calepinref08_Response.f (k : Nat) (a0 : ByteArray) : Option (Int × (List (S62)) × ByteArray × Int × Int) := (calepinref08_Head.f k a0).bind fun bt290 => (if bt290.2.2 = 0 then (if 0 < (bt290.1.length : Int) then ((calepinref08_Cut.f k (rdOf ByteArray.empty bt290.1 0) 32).bind fun bt296 => ((calepinref08_Cut.f k bt296.2.1 32).bind fun bt299 => (if 1 ≤ (bt290.1.length : Int) then ((calepinref08_Fields.f k (bt290.1.drop 1)).bind fun bt306 => (if bt299.2.2 = true then (if bt306.2.2 = true then (if bt296.1.toList = ([72, 84, 84, 80, 47, 49, 46, 49] : List UInt8) then (if (bt299.1.size : Int) = 3 then (if 0 < (bt299.1.size : Int) then (if (bt bt299.1 0) < 49 then (calepinref08_Response.j0 k a0 bt290.2.1 bt299.1 bt306.1 bt306.2.1 true) else (if (bt bt299.1 0) > 53 then (calepinref08_Response.j0 k a0 bt290.2.1 bt299.1 bt306.1 bt306.2.1 true) else ((calepinref08_Range.f k bt299.1 48 57 false).bind fun t311 => (if t311 = true then ((calepinref08_Range.f k bt299.2.1 32 126 false).bind fun t312 => (calepinref08_Response.j0 k a0 bt290.2.1 bt299.1 bt306.1 bt306.2.1 (!t312))) else (calepinref08_Response.j0 k a0 bt290.2.1 bt299.1 bt306.1 bt306.2.1 true))))) else (none)) else (calepinref08_Response.j0 k a0 bt290.2.1 bt299.1 bt306.1 bt306.2.1 true)) else (calepinref08_Response.j0 k a0 bt290.2.1 bt299.1 bt306.1 bt306.2.1 true)) else (calepinref08_Response.j0 k a0 bt290.2.1 bt299.1 bt306.1 bt306.2.1 true)) else (calepinref08_Response.j0 k a0 bt290.2.1 bt299.1 bt306.1 bt306.2.1 true))) else (none)))) else (none)) else (some (0, ([] : List (S62)), (⟨#[]⟩ : ByteArray), 0, bt290.2.2)))
set_option maxHeartbeats 8000000 in
set_option maxRecDepth 100000 in
theorem calepinref08_Response.calls (k : Nat) (a0 : ByteArray) (r1 : Int) (r2 : List (S62)) (r3 : ByteArray) (r4 : Int) (r5 : Int) (w : World) (hT : LaidM w) (h : calepinref08_Response.f k a0 = some (r1, r2, r3, r4, r5)) :
  Calls Tryz.prog 10 #[.string a0] w fun e w' => ∃ v1_ : Value, e = .returned (.tuple #[.agg #[.int .i64 r1, v1_, .string r3], .int .i64 r4, .int .i64 r5]) ∧ Kd.R k62 62 w' w.heap.size (fun _ => True) v1_ r2 ∧ Below w.heap.size w w' := by
 have hu33 := Tryz.underlying33
 have HB := Aside0.mk (Below.refl w.heap.size w)
 have HT := Aside0.mk hT
 clear hT
 have H : ((calepinref08_Head.f k a0).bind fun bt290 => (if bt290.2.2 = 0 then (if 0 < (bt290.1.length : Int) then ((calepinref08_Cut.f k (rdOf ByteArray.empty bt290.1 0) 32).bind fun bt296 => ((calepinref08_Cut.f k bt296.2.1 32).bind fun bt299 => (if 1 ≤ (bt290.1.length : Int) then ((calepinref08_Fields.f k (bt290.1.drop 1)).bind fun bt306 => (if bt299.2.2 = true then (if bt306.2.2 = true then (if bt296.1.toList = ([72, 84, 84, 80, 47, 49, 46, 49] : List UInt8) then (if (bt299.1.size : Int) = 3 then (if 0 < (bt299.1.size : Int) then (if (bt bt299.1 0) < 49 then (calepinref08_Response.j0 k a0 bt290.2.1 bt299.1 bt306.1 bt306.2.1 true) else (if (bt bt299.1 0) > 53 then (calepinref08_Response.j0 k a0 bt290.2.1 bt299.1 bt306.1 bt306.2.1 true) else ((calepinref08_Range.f k bt299.1 48 57 false).bind fun t311 => (if t311 = true then ((calepinref08_Range.f k bt299.2.1 32 126 false).bind fun t312 => (calepinref08_Response.j0 k a0 bt290.2.1 bt299.1 bt306.1 bt306.2.1 (!t312))) else (calepinref08_Response.j0 k a0 bt290.2.1 bt299.1 bt306.1 bt306.2.1 true))))) else (none)) else (calepinref08_Response.j0 k a0 bt290.2.1 bt299.1 bt306.1 bt306.2.1 true)) else (calepinref08_Response.j0 k a0 bt290.2.1 bt299.1 bt306.1 bt306.2.1 true)) else (calepinref08_Response.j0 k a0 bt290.2.1 bt299.1 bt306.1 bt306.2.1 true)) else (calepinref08_Response.j0 k a0 bt290.2.1 bt299.1 bt306.1 bt306.2.1 true))) else (none)))) else (none)) else (some (0, ([] : List (S62)), (⟨#[]⟩ : ByteArray), 0, bt290.2.2)))) = some (r1, r2, r3, r4, r5) := h
 clear h
 replace H := Option.bind_eq_some_iff.mp H
 obtain ⟨⟨t290, t291, t292⟩, A20, H⟩ := H
 replace H : (if t292 = 0 then (if 0 < (t290.length : Int) then ((calepinref08_Cut.f k (rdOf ByteArray.empty t290 0) 32).bind fun bt296 => ((calepinref08_Cut.f k bt296.2.1 32).bind fun bt299 => (if 1 ≤ (t290.length : Int) then ((calepinref08_Fields.f k (t290.drop 1)).bind fun bt306 => (if bt299.2.2 = true then (if bt306.2.2 = true then (if bt296.1.toList = ([72, 84, 84, 80, 47, 49, 46, 49] : List UInt8) then (if (bt299.1.size : Int) = 3 then (if 0 < (bt299.1.size : Int) then (if (bt bt299.1 0) < 49 then (calepinref08_Response.j0 k a0 t291 bt299.1 bt306.1 bt306.2.1 true) else (if (bt bt299.1 0) > 53 then (calepinref08_Response.j0 k a0 t291 bt299.1 bt306.1 bt306.2.1 true) else ((calepinref08_Range.f k bt299.1 48 57 false).bind fun t311 => (if t311 = true then ((calepinref08_Range.f k bt299.2.1 32 126 false).bind fun t312 => (calepinref08_Response.j0 k a0 t291 bt299.1 bt306.1 bt306.2.1 (!t312))) else (calepinref08_Response.j0 k a0 t291 bt299.1 bt306.1 bt306.2.1 true))))) else (none)) else (calepinref08_Response.j0 k a0 t291 bt299.1 bt306.1 bt306.2.1 true)) else (calepinref08_Response.j0 k a0 t291 bt299.1 bt306.1 bt306.2.1 true)) else (calepinref08_Response.j0 k a0 t291 bt299.1 bt306.1 bt306.2.1 true)) else (calepinref08_Response.j0 k a0 t291 bt299.1 bt306.1 bt306.2.1 true))) else (none)))) else (none)) else (some (0, ([] : List (S62)), (⟨#[]⟩ : ByteArray), 0, t292))) = some (r1, r2, r3, r4, r5) := H
 have A2 := Aside0.mk A20
 clear A20
 by_cases c3 : t292 = 0
 ·rw [if_pos c3] at H
  have c3b0 : (t292 == 0) = true := beq_iff_eq.mpr c3
  have c3b1 : (t292 != 0) = false := bne_eq_false_iff_eq.mpr c3
  clear c3
  by_cases c4 : 0 < (t290.length : Int)
  ·rw [if_pos c4] at H
   have c4b0 : decide (0 < (t290.length : Int)) = true := decide_eq_true c4
   have c4b1 : decide (0 < t290.length) = true := decide_eq_true (by omega)
   clear c4
   replace H := Option.bind_eq_some_iff.mp H
   obtain ⟨⟨t296, t297, t298⟩, A50, H⟩ := H
   replace H : ((calepinref08_Cut.f k t297 32).bind fun bt299 => (if 1 ≤ (t290.length : Int) then ((calepinref08_Fields.f k (t290.drop 1)).bind fun bt306 => (if bt299.2.2 = true then (if bt306.2.2 = true then (if t296.toList = ([72, 84, 84, 80, 47, 49, 46, 49] : List UInt8) then (if (bt299.1.size : Int) = 3 then (if 0 < (bt299.1.size : Int) then (if (bt bt299.1 0) < 49 then (calepinref08_Response.j0 k a0 t291 bt299.1 bt306.1 bt306.2.1 true) else (if (bt bt299.1 0) > 53 then (calepinref08_Response.j0 k a0 t291 bt299.1 bt306.1 bt306.2.1 true) else ((calepinref08_Range.f k bt299.1 48 57 false).bind fun t311 => (if t311 = true then ((calepinref08_Range.f k bt299.2.1 32 126 false).bind fun t312 => (calepinref08_Response.j0 k a0 t291 bt299.1 bt306.1 bt306.2.1 (!t312))) else (calepinref08_Response.j0 k a0 t291 bt299.1 bt306.1 bt306.2.1 true))))) else (none)) else (calepinref08_Response.j0 k a0 t291 bt299.1 bt306.1 bt306.2.1 true)) else (calepinref08_Response.j0 k a0 t291 bt299.1 bt306.1 bt306.2.1 true)) else (calepinref08_Response.j0 k a0 t291 bt299.1 bt306.1 bt306.2.1 true)) else (calepinref08_Response.j0 k a0 t291 bt299.1 bt306.1 bt306.2.1 true))) else (none))) = some (r1, r2, r3, r4, r5) := H
   have A5 := Aside0.mk A50
   clear A50
   replace H := Option.bind_eq_some_iff.mp H
   obtain ⟨⟨t299, t300, t301⟩, A60, H⟩ := H
   replace H : (if 1 ≤ (t290.length : Int) then ((calepinref08_Fields.f k (t290.drop 1)).bind fun bt306 => (if t301 = true then (if bt306.2.2 = true then (if t296.toList = ([72, 84, 84, 80, 47, 49, 46, 49] : List UInt8) then (if (t299.size : Int) = 3 then (if 0 < (t299.size : Int) then (if (bt t299 0) < 49 then (calepinref08_Response.j0 k a0 t291 t299 bt306.1 bt306.2.1 true) else (if (bt t299 0) > 53 then (calepinref08_Response.j0 k a0 t291 t299 bt306.1 bt306.2.1 true) else ((calepinref08_Range.f k t299 48 57 false).bind fun t311 => (if t311 = true then ((calepinref08_Range.f k t300 32 126 false).bind fun t312 => (calepinref08_Response.j0 k a0 t291 t299 bt306.1 bt306.2.1 (!t312))) else (calepinref08_Response.j0 k a0 t291 t299 bt306.1 bt306.2.1 true))))) else (none)) else (calepinref08_Response.j0 k a0 t291 t299 bt306.1 bt306.2.1 true)) else (calepinref08_Response.j0 k a0 t291 t299 bt306.1 bt306.2.1 true)) else (calepinref08_Response.j0 k a0 t291 t299 bt306.1 bt306.2.1 true)) else (calepinref08_Response.j0 k a0 t291 t299 bt306.1 bt306.2.1 true))) else (none)) = some (r1, r2, r3, r4, r5) := H
   have A6 := Aside0.mk A60
   clear A60
   by_cases c7 : 1 ≤ (t290.length : Int)
   ·rw [if_pos c7] at H
    have c7b0 := eq_true c7
    have c7b1 : decide (1 ≤ (t290.length : Int)) = true := decide_eq_true c7
    clear c7
    obtain ⟨y302, hy302⟩ : ∃ y_ : List ByteArray, y_ = (t290.drop 1) := ⟨_, rfl⟩
    replace H : ((calepinref08_Fields.f k y302).bind fun bt306 => (if t301 = true then (if bt306.2.2 = true then (if t296.toList = ([72, 84, 84, 80, 47, 49, 46, 49] : List UInt8) then (if (t299.size : Int) = 3 then (if 0 < (t299.size : Int) then (if (bt t299 0) < 49 then (calepinref08_Response.j0 k a0 t291 t299 bt306.1 bt306.2.1 true) else (if (bt t299 0) > 53 then (calepinref08_Response.j0 k a0 t291 t299 bt306.1 bt306.2.1 true) else ((calepinref08_Range.f k t299 48 57 false).bind fun t311 => (if t311 = true then ((calepinref08_Range.f k t300 32 126 false).bind fun t312 => (calepinref08_Response.j0 k a0 t291 t299 bt306.1 bt306.2.1 (!t312))) else (calepinref08_Response.j0 k a0 t291 t299 bt306.1 bt306.2.1 true))))) else (none)) else (calepinref08_Response.j0 k a0 t291 t299 bt306.1 bt306.2.1 true)) else (calepinref08_Response.j0 k a0 t291 t299 bt306.1 bt306.2.1 true)) else (calepinref08_Response.j0 k a0 t291 t299 bt306.1 bt306.2.1 true)) else (calepinref08_Response.j0 k a0 t291 t299 bt306.1 bt306.2.1 true))) = some (r1, r2, r3, r4, r5) := by first | (rw [hy302]; with_reducible exact H) | (have H2_ := (Option.bind_some _ _).symm.trans H; rw [hy302]; with_reducible exact H2_) | (have H2_ := (Option.bind_some _ _).symm.trans H; with_reducible exact H2_) | with_reducible exact H | (rw [hy302]; exact H) | exact H
    have Ny302 := Aside0.mk hy302
    clear hy302
    replace H := Option.bind_eq_some_iff.mp H
    obtain ⟨⟨t306, t307, t308⟩, A80, H⟩ := H
    replace H : (if t301 = true then (if t308 = true then (if t296.toList = ([72, 84, 84, 80, 47, 49, 46, 49] : List UInt8) then (if (t299.size : Int) = 3 then (if 0 < (t299.size : Int) then (if (bt t299 0) < 49 then (calepinref08_Response.j0 k a0 t291 t299 t306 t307 true) else (if (bt t299 0) > 53 then (calepinref08_Response.j0 k a0 t291 t299 t306 t307 true) else ((calepinref08_Range.f k t299 48 57 false).bind fun t311 => (if t311 = true then ((calepinref08_Range.f k t300 32 126 false).bind fun t312 => (calepinref08_Response.j0 k a0 t291 t299 t306 t307 (!t312))) else (calepinref08_Response.j0 k a0 t291 t299 t306 t307 true))))) else (none)) else (calepinref08_Response.j0 k a0 t291 t299 t306 t307 true)) else (calepinref08_Response.j0 k a0 t291 t299 t306 t307 true)) else (calepinref08_Response.j0 k a0 t291 t299 t306 t307 true)) else (calepinref08_Response.j0 k a0 t291 t299 t306 t307 true)) = some (r1, r2, r3, r4, r5) := H
    have A8 := Aside0.mk A80
    clear A80
    have HC9 := Aside0.mk H
    clear H
    go_enter Tryz.func10, Tryz.ntmps10
    go_upto_region 7 with (first | ((with_reducible refine gate_dst (N := 2) rfl ?_); (try (refine gate_guard (by rfl) ?_; dsimp only)); refine box_event ?hg (N := 2) ?hd (cs := #[.int .i64 0, .slice none 0 0, .string (⟨#[]⟩ : ByteArray)]) (t := 33) ?hr ?_; (case hd => rfl); (case hg => rfl); (case hr => first | (go_simp; done) | (go_simp; rfl)); intro gb289 hg w10 hbox hb; have n0_ := Aside0.mk (below_step (by repeat (first | (with_reducible first | exact HB.out | apply below_alloc | apply pw_below_drewN | apply below_drew1) | exact HB.out)) hb); have n1_ := Aside0.mk (hbox); have n2_ := Aside0.mk ((by rw [hg]; exact (below_size (by repeat (first | (with_reducible first | exact HB.out | apply below_alloc | apply pw_below_drewN | apply below_drew1) | exact HB.out))) : w.heap.size ≤ gb289)); have n3_ := Aside0.mk ((by rw [hg]; exact (below_size (by repeat (first | (with_reducible first | exact HB.out | apply below_alloc | apply pw_below_drewN | apply below_drew1) | exact HB.out))) : w.heap.size ≤ gb289)); clear HB; have HB := n0_; have BK289 := n1_; have GW289 := n2_; have GE289 := n3_; clear n0_ n1_ n2_ n3_; clear hb hbox hg) | (go_at_call 22; (with_reducible refine (calepinref08_Head.calls k a0 t290 t291 t292 _ ?side1 A2.out).mono ?_); (case side1 => exact LaidM.below HT.out (by repeat (first | (with_reducible first | exact HB.out | apply below_alloc | apply pw_below_drewN | apply below_drew1 | refine below_set ?_ GE289.out) | exact HB.out))); rintro e w11 ⟨v293, rfl, ho0, hb⟩; have n0_ := Aside0.mk (Kd.R_lower ho0 (below_size (by repeat (first | (with_reducible first | exact HB.out | apply below_alloc | apply pw_below_drewN | apply below_drew1 | refine below_set ?_ GE289.out) | exact HB.out)))); have n1_ := Aside0.mk (blk_below (g := gb289) (o := .cells #[.int .i64 0, .slice none 0 0, .string (⟨#[]⟩ : ByteArray)] 33 (0, 0)) (by (with_reducible repeat (first | refine blk_drewN ?_ _ | refine blk_drew ?_ | refine blk_alloc ?_ _)); exact BK289.out) hb); have n2_ := Aside0.mk (below_step (by repeat (first | (with_reducible first | exact HB.out | apply below_alloc | apply pw_below_drewN | apply below_drew1 | refine below_set ?_ GE289.out) | exact HB.out)) hb); clear BK289; clear HB; have HO294 := n0_; have BK289 := n1_; have HB := n2_; clear n0_ n1_ n2_; (try clear hb); (try clear hb2); (try clear hk); (try clear hi); (try clear ho0); obtain ⟨Ao12, co12, eo12⟩ := Kd.R_slice HO294.out; subst eo12; have p295 : 0 ≤ (0 : Int) := (by omega); have q295 : 0 < (t290.length : Int) := of_decide_eq_true (by first | (with_reducible assumption) | assumption); obtain ⟨ad295, e295, hx295_0⟩ := Kd.at_string (Kd.R_reads' HO294.out).2.2 0 p295 q295; cases e295; have qi295 : (0 < t290.length) = True := eq_true (by omega); (try rw [show ((0 : Int)).toNat = 0 from rfl] at hx295_0); (try rw [Addr.add_zero'] at hx295_0); replace p295 := eq_true p295; replace q295 := eq_true q295) | (go_at_call 23; (with_reducible refine (calepinref08_Cut.calls k (rdOf ByteArray.empty t290 0) 32 t296 t297 t298 _ A5.out).mono ?_); rintro e w' ⟨rfl, ⟨nd, rfl⟩⟩; (try first | exact ⟨rfl, _, World.drewN_drewN _ _ _⟩ | exact ⟨rfl, _, Eq.trans (World.drewN_drewN _ _ _) (congrArg (World.drewN _) (Nat.add_assoc _ _ _))⟩)) | (go_at_call 23; (with_reducible refine (calepinref08_Cut.calls k t297 32 t299 t300 t301 _ A6.out).mono ?_); rintro e w' ⟨rfl, ⟨nd, rfl⟩⟩; (try first | exact ⟨rfl, _, World.drewN_drewN _ _ _⟩ | exact ⟨rfl, _, Eq.trans (World.drewN_drewN _ _ _) (congrArg (World.drewN _) (Nat.add_assoc _ _ _))⟩); have q13 : (1 : Int) ≤ ((t290.length : Int) : Int) := of_decide_eq_true (by first | (with_reducible assumption) | assumption); obtain ⟨i013, hi013, _, hsz13, _⟩ := info_parts info9; have hroom13 : t290.length ≤ co12 := (Kd.R_reads' HO294.out).2.1; have hC13 : Kd.C Kd.string _ (some ad295) t290.length t290 := (Kd.R_reads' HO294.out).2.2; have hcut13 := cut_from (P := Tryz.prog) 53 9 .i64 Tryz.underlying53 hi013 1 hsz13 (some ad295) t290.length co12 1 (by omega) q13; have hr13 := Kd.C_drop (m := (1 : Int).toNat) (c := co12) hC13 (by omega) hroom13; obtain ⟨A13, hA13⟩ : ∃ A1, A1 = (if co12 = (1 : Int).toNat then (some ad295) else ((some ad295) : Option Addr).map (·.add ((1 : Int).toNat * 1))) := ⟨_, rfl⟩; obtain ⟨c13, hc13⟩ : ∃ c1, c1 = co12 - (1 : Int).toNat := ⟨_, rfl⟩; have hy13 : y302.length = t290.length - (1 : Int).toNat := (by rw [Ny302.out, List.length_drop] <;> omega); rw [show (t290).drop (1 : Int).toNat = y302 from Ny302.out.symm] at hr13; replace hr13 : Kd.C Kd.string _ A13 y302.length y302 := (by rw [hA13]; exact hr13); rw [← hy13, ← hA13, ← hc13] at hcut13; have HR305 := Aside0.mk hr13; have HC305 := Aside0.mk (show y302.length ≤ c13 from by rw [hy13, hc13]; exact Nat.sub_le_sub_right hroom13 _); clear hr13 hC13 hroom13 hi013 hsz13 hc13; have KY13 := Aside0.mk hy13; have KA13 := Aside0.mk hA13; clear hy13 hA13; have KL13 := Aside0.mk (show 1 ≤ t290.length from by omega); replace q13 := eq_true q13) | (go_at_call 24; (with_reducible refine (calepinref08_Fields.calls k _ _ y302 t306 t307 t308 _ ?side1 ?side2 ?side3 A8.out).mono ?_); (case side1 => repeat (first | exact (by repeat (first | (with_reducible exact HR305.out) | (with_reducible refine Kd.C_alloc ?_ _) | (with_reducible refine Kd.C_drewN ?_ _) | (with_reducible refine Kd.C_drew ?_) | exact HR305.out)) | (with_reducible refine Kd.C_alloc ?_ _) | (with_reducible refine Kd.C_drewN ?_ _) | (with_reducible refine Kd.C_drew ?_))); (case side2 => exact HC305.out); (case side3 => exact LaidM.below HT.out (by repeat (first | (with_reducible first | exact HB.out | apply below_alloc | apply pw_below_drewN | apply below_drew1 | refine below_set ?_ GE289.out) | exact HB.out))); rintro e w14 ⟨v309, rfl, ho0, hb⟩; have n0_ := Aside0.mk (Kd.R_below (by (with_reducible repeat (first | apply Kd.R_alloc | apply Kd.R_drewN | apply Kd.R_drew)); exact HO294.out) hb); have n1_ := Aside0.mk (Kd.R_lower ho0 (below_size (by repeat (first | (with_reducible first | exact HB.out | apply below_alloc | apply pw_below_drewN | apply below_drew1 | refine below_set ?_ GE289.out) | exact HB.out)))); have n2_ := Aside0.mk (blk_below (g := gb289) (o := .cells #[.int .i64 0, .slice none 0 0, .string (⟨#[]⟩ : ByteArray)] 33 (0, 0)) (by (with_reducible repeat (first | refine blk_drewN ?_ _ | refine blk_drew ?_ | refine blk_alloc ?_ _)); exact BK289.out) hb); have n3_ := Aside0.mk (Kd.C_below (by repeat (first | (with_reducible exact HR305.out) | (with_reducible refine Kd.C_alloc ?_ _) | (with_reducible refine Kd.C_drewN ?_ _) | (with_reducible refine Kd.C_drew ?_) | exact HR305.out)) hb); have n4_ := Aside0.mk (below_step (by repeat (first | (with_reducible first | exact HB.out | apply below_alloc | apply pw_below_drewN | apply below_drew1 | refine below_set ?_ GE289.out) | exact HB.out)) hb); clear HO294; clear BK289; clear HR305; clear HB; have HO294 := n0_; have HO310 := n1_; have BK289 := n2_; have HR305 := n3_; have HB := n4_; clear n0_ n1_ n2_ n3_ n4_; (try clear hb); (try clear hb2); (try clear hk); (try clear hi); (try clear ho0)))
    repeat (go_quiet (first | ((with_reducible refine gate_dst (N := 2) rfl ?_); (try (refine gate_guard (by rfl) ?_; dsimp only)); refine box_event ?hg (N := 2) ?hd (cs := #[.int .i64 0, .slice none 0 0, .string (⟨#[]⟩ : ByteArray)]) (t := 33) ?hr ?_; (case hd => rfl); (case hg => rfl); (case hr => first | (go_simp; done) | (go_simp; rfl)); intro gb289 hg w10 hbox hb; have n0_ := Aside0.mk (below_step (by repeat (first | (with_reducible first | exact HB.out | apply below_alloc | apply pw_below_drewN | apply below_drew1) | exact HB.out)) hb); have n1_ := Aside0.mk (hbox); have n2_ := Aside0.mk ((by rw [hg]; exact (below_size (by repeat (first | (with_reducible first | exact HB.out | apply below_alloc | apply pw_below_drewN | apply below_drew1) | exact HB.out))) : w.heap.size ≤ gb289)); have n3_ := Aside0.mk ((by rw [hg]; exact (below_size (by repeat (first | (with_reducible first | exact HB.out | apply below_alloc | apply pw_below_drewN | apply below_drew1) | exact HB.out))) : w.heap.size ≤ gb289)); clear HB; have HB := n0_; have BK289 := n1_; have GW289 := n2_; have GE289 := n3_; clear n0_ n1_ n2_ n3_; clear hb hbox hg) | (go_at_call 22; (with_reducible refine (calepinref08_Head.calls k a0 t290 t291 t292 _ ?side1 A2.out).mono ?_); (case side1 => exact LaidM.below HT.out (by repeat (first | (with_reducible first | exact HB.out | apply below_alloc | apply pw_below_drewN | apply below_drew1 | refine below_set ?_ GE289.out) | exact HB.out))); rintro e w11 ⟨v293, rfl, ho0, hb⟩; have n0_ := Aside0.mk (Kd.R_lower ho0 (below_size (by repeat (first | (with_reducible first | exact HB.out | apply below_alloc | apply pw_below_drewN | apply below_drew1 | refine below_set ?_ GE289.out) | exact HB.out)))); have n1_ := Aside0.mk (blk_below (g := gb289) (o := .cells #[.int .i64 0, .slice none 0 0, .string (⟨#[]⟩ : ByteArray)] 33 (0, 0)) (by (with_reducible repeat (first | refine blk_drewN ?_ _ | refine blk_drew ?_ | refine blk_alloc ?_ _)); exact BK289.out) hb); have n2_ := Aside0.mk (below_step (by repeat (first | (with_reducible first | exact HB.out | apply below_alloc | apply pw_below_drewN | apply below_drew1 | refine below_set ?_ GE289.out) | exact HB.out)) hb); clear BK289; clear HB; have HO294 := n0_; have BK289 := n1_; have HB := n2_; clear n0_ n1_ n2_; (try clear hb); (try clear hb2); (try clear hk); (try clear hi); (try clear ho0); obtain ⟨Ao12, co12, eo12⟩ := Kd.R_slice HO294.out; subst eo12; have p295 : 0 ≤ (0 : Int) := (by omega); have q295 : 0 < (t290.length : Int) := of_decide_eq_true (by first | (with_reducible assumption) | assumption); obtain ⟨ad295, e295, hx295_0⟩ := Kd.at_string (Kd.R_reads' HO294.out).2.2 0 p295 q295; cases e295; have qi295 : (0 < t290.length) = True := eq_true (by omega); (try rw [show ((0 : Int)).toNat = 0 from rfl] at hx295_0); (try rw [Addr.add_zero'] at hx295_0); replace p295 := eq_true p295; replace q295 := eq_true q295) | (go_at_call 23; (with_reducible refine (calepinref08_Cut.calls k (rdOf ByteArray.empty t290 0) 32 t296 t297 t298 _ A5.out).mono ?_); rintro e w' ⟨rfl, ⟨nd, rfl⟩⟩; (try first | exact ⟨rfl, _, World.drewN_drewN _ _ _⟩ | exact ⟨rfl, _, Eq.trans (World.drewN_drewN _ _ _) (congrArg (World.drewN _) (Nat.add_assoc _ _ _))⟩)) | (go_at_call 23; (with_reducible refine (calepinref08_Cut.calls k t297 32 t299 t300 t301 _ A6.out).mono ?_); rintro e w' ⟨rfl, ⟨nd, rfl⟩⟩; (try first | exact ⟨rfl, _, World.drewN_drewN _ _ _⟩ | exact ⟨rfl, _, Eq.trans (World.drewN_drewN _ _ _) (congrArg (World.drewN _) (Nat.add_assoc _ _ _))⟩); have q13 : (1 : Int) ≤ ((t290.length : Int) : Int) := of_decide_eq_true (by first | (with_reducible assumption) | assumption); obtain ⟨i013, hi013, _, hsz13, _⟩ := info_parts info9; have hroom13 : t290.length ≤ co12 := (Kd.R_reads' HO294.out).2.1; have hC13 : Kd.C Kd.string _ (some ad295) t290.length t290 := (Kd.R_reads' HO294.out).2.2; have hcut13 := cut_from (P := Tryz.prog) 53 9 .i64 Tryz.underlying53 hi013 1 hsz13 (some ad295) t290.length co12 1 (by omega) q13; have hr13 := Kd.C_drop (m := (1 : Int).toNat) (c := co12) hC13 (by omega) hroom13; obtain ⟨A13, hA13⟩ : ∃ A1, A1 = (if co12 = (1 : Int).toNat then (some ad295) else ((some ad295) : Option Addr).map (·.add ((1 : Int).toNat * 1))) := ⟨_, rfl⟩; obtain ⟨c13, hc13⟩ : ∃ c1, c1 = co12 - (1 : Int).toNat := ⟨_, rfl⟩; have hy13 : y302.length = t290.length - (1 : Int).toNat := (by rw [Ny302.out, List.length_drop] <;> omega); rw [show (t290).drop (1 : Int).toNat = y302 from Ny302.out.symm] at hr13; replace hr13 : Kd.C Kd.string _ A13 y302.length y302 := (by rw [hA13]; exact hr13); rw [← hy13, ← hA13, ← hc13] at hcut13; have HR305 := Aside0.mk hr13; have HC305 := Aside0.mk (show y302.length ≤ c13 from by rw [hy13, hc13]; exact Nat.sub_le_sub_right hroom13 _); clear hr13 hC13 hroom13 hi013 hsz13 hc13; have KY13 := Aside0.mk hy13; have KA13 := Aside0.mk hA13; clear hy13 hA13; have KL13 := Aside0.mk (show 1 ≤ t290.length from by omega); replace q13 := eq_true q13) | (go_at_call 24; (with_reducible refine (calepinref08_Fields.calls k _ _ y302 t306 t307 t308 _ ?side1 ?side2 ?side3 A8.out).mono ?_); (case side1 => repeat (first | exact (by repeat (first | (with_reducible exact HR305.out) | (with_reducible refine Kd.C_alloc ?_ _) | (with_reducible refine Kd.C_drewN ?_ _) | (with_reducible refine Kd.C_drew ?_) | exact HR305.out)) | (with_reducible refine Kd.C_alloc ?_ _) | (with_reducible refine Kd.C_drewN ?_ _) | (with_reducible refine Kd.C_drew ?_))); (case side2 => exact HC305.out); (case side3 => exact LaidM.below HT.out (by repeat (first | (with_reducible first | exact HB.out | apply below_alloc | apply pw_below_drewN | apply below_drew1 | refine below_set ?_ GE289.out) | exact HB.out))); rintro e w14 ⟨v309, rfl, ho0, hb⟩; have n0_ := Aside0.mk (Kd.R_below (by (with_reducible repeat (first | apply Kd.R_alloc | apply Kd.R_drewN | apply Kd.R_drew)); exact HO294.out) hb); have n1_ := Aside0.mk (Kd.R_lower ho0 (below_size (by repeat (first | (with_reducible first | exact HB.out | apply below_alloc | apply pw_below_drewN | apply below_drew1 | refine below_set ?_ GE289.out) | exact HB.out)))); have n2_ := Aside0.mk (blk_below (g := gb289) (o := .cells #[.int .i64 0, .slice none 0 0, .string (⟨#[]⟩ : ByteArray)] 33 (0, 0)) (by (with_reducible repeat (first | refine blk_drewN ?_ _ | refine blk_drew ?_ | refine blk_alloc ?_ _)); exact BK289.out) hb); have n3_ := Aside0.mk (Kd.C_below (by repeat (first | (with_reducible exact HR305.out) | (with_reducible refine Kd.C_alloc ?_ _) | (with_reducible refine Kd.C_drewN ?_ _) | (with_reducible refine Kd.C_drew ?_) | exact HR305.out)) hb); have n4_ := Aside0.mk (below_step (by repeat (first | (with_reducible first | exact HB.out | apply below_alloc | apply pw_below_drewN | apply below_drew1 | refine below_set ?_ GE289.out) | exact HB.out)) hb); clear HO294; clear BK289; clear HR305; clear HB; have HO294 := n0_; have HO310 := n1_; have BK289 := n2_; have HR305 := n3_; have HB := n4_; clear n0_ n1_ n2_ n3_ n4_; (try clear hb); (try clear hb2); (try clear hk); (try clear hi); (try clear ho0))); go_upto_region 7 with (first | ((with_reducible refine gate_dst (N := 2) rfl ?_); (try (refine gate_guard (by rfl) ?_; dsimp only)); refine box_event ?hg (N := 2) ?hd (cs := #[.int .i64 0, .slice none 0 0, .string (⟨#[]⟩ : ByteArray)]) (t := 33) ?hr ?_; (case hd => rfl); (case hg => rfl); (case hr => first | (go_simp; done) | (go_simp; rfl)); intro gb289 hg w10 hbox hb; have n0_ := Aside0.mk (below_step (by repeat (first | (with_reducible first | exact HB.out | apply below_alloc | apply pw_below_drewN | apply below_drew1) | exact HB.out)) hb); have n1_ := Aside0.mk (hbox); have n2_ := Aside0.mk ((by rw [hg]; exact (below_size (by repeat (first | (with_reducible first | exact HB.out | apply below_alloc | apply pw_below_drewN | apply below_drew1) | exact HB.out))) : w.heap.size ≤ gb289)); have n3_ := Aside0.mk ((by rw [hg]; exact (below_size (by repeat (first | (with_reducible first | exact HB.out | apply below_alloc | apply pw_below_drewN | apply below_drew1) | exact HB.out))) : w.heap.size ≤ gb289)); clear HB; have HB := n0_; have BK289 := n1_; have GW289 := n2_; have GE289 := n3_; clear n0_ n1_ n2_ n3_; clear hb hbox hg) | (go_at_call 22; (with_reducible refine (calepinref08_Head.calls k a0 t290 t291 t292 _ ?side1 A2.out).mono ?_); (case side1 => exact LaidM.below HT.out (by repeat (first | (with_reducible first | exact HB.out | apply below_alloc | apply pw_below_drewN | apply below_drew1 | refine below_set ?_ GE289.out) | exact HB.out))); rintro e w11 ⟨v293, rfl, ho0, hb⟩; have n0_ := Aside0.mk (Kd.R_lower ho0 (below_size (by repeat (first | (with_reducible first | exact HB.out | apply below_alloc | apply pw_below_drewN | apply below_drew1 | refine below_set ?_ GE289.out) | exact HB.out)))); have n1_ := Aside0.mk (blk_below (g := gb289) (o := .cells #[.int .i64 0, .slice none 0 0, .string (⟨#[]⟩ : ByteArray)] 33 (0, 0)) (by (with_reducible repeat (first | refine blk_drewN ?_ _ | refine blk_drew ?_ | refine blk_alloc ?_ _)); exact BK289.out) hb); have n2_ := Aside0.mk (below_step (by repeat (first | (with_reducible first | exact HB.out | apply below_alloc | apply pw_below_drewN | apply below_drew1 | refine below_set ?_ GE289.out) | exact HB.out)) hb); clear BK289; clear HB; have HO294 := n0_; have BK289 := n1_; have HB := n2_; clear n0_ n1_ n2_; (try clear hb); (try clear hb2); (try clear hk); (try clear hi); (try clear ho0); obtain ⟨Ao12, co12, eo12⟩ := Kd.R_slice HO294.out; subst eo12; have p295 : 0 ≤ (0 : Int) := (by omega); have q295 : 0 < (t290.length : Int) := of_decide_eq_true (by first | (with_reducible assumption) | assumption); obtain ⟨ad295, e295, hx295_0⟩ := Kd.at_string (Kd.R_reads' HO294.out).2.2 0 p295 q295; cases e295; have qi295 : (0 < t290.length) = True := eq_true (by omega); (try rw [show ((0 : Int)).toNat = 0 from rfl] at hx295_0); (try rw [Addr.add_zero'] at hx295_0); replace p295 := eq_true p295; replace q295 := eq_true q295) | (go_at_call 23; (with_reducible refine (calepinref08_Cut.calls k (rdOf ByteArray.empty t290 0) 32 t296 t297 t298 _ A5.out).mono ?_); rintro e w' ⟨rfl, ⟨nd, rfl⟩⟩; (try first | exact ⟨rfl, _, World.drewN_drewN _ _ _⟩ | exact ⟨rfl, _, Eq.trans (World.drewN_drewN _ _ _) (congrArg (World.drewN _) (Nat.add_assoc _ _ _))⟩)) | (go_at_call 23; (with_reducible refine (calepinref08_Cut.calls k t297 32 t299 t300 t301 _ A6.out).mono ?_); rintro e w' ⟨rfl, ⟨nd, rfl⟩⟩; (try first | exact ⟨rfl, _, World.drewN_drewN _ _ _⟩ | exact ⟨rfl, _, Eq.trans (World.drewN_drewN _ _ _) (congrArg (World.drewN _) (Nat.add_assoc _ _ _))⟩); have q13 : (1 : Int) ≤ ((t290.length : Int) : Int) := of_decide_eq_true (by first | (with_reducible assumption) | assumption); obtain ⟨i013, hi013, _, hsz13, _⟩ := info_parts info9; have hroom13 : t290.length ≤ co12 := (Kd.R_reads' HO294.out).2.1; have hC13 : Kd.C Kd.string _ (some ad295) t290.length t290 := (Kd.R_reads' HO294.out).2.2; have hcut13 := cut_from (P := Tryz.prog) 53 9 .i64 Tryz.underlying53 hi013 1 hsz13 (some ad295) t290.length co12 1 (by omega) q13; have hr13 := Kd.C_drop (m := (1 : Int).toNat) (c := co12) hC13 (by omega) hroom13; obtain ⟨A13, hA13⟩ : ∃ A1, A1 = (if co12 = (1 : Int).toNat then (some ad295) else ((some ad295) : Option Addr).map (·.add ((1 : Int).toNat * 1))) := ⟨_, rfl⟩; obtain ⟨c13, hc13⟩ : ∃ c1, c1 = co12 - (1 : Int).toNat := ⟨_, rfl⟩; have hy13 : y302.length = t290.length - (1 : Int).toNat := (by rw [Ny302.out, List.length_drop] <;> omega); rw [show (t290).drop (1 : Int).toNat = y302 from Ny302.out.symm] at hr13; replace hr13 : Kd.C Kd.string _ A13 y302.length y302 := (by rw [hA13]; exact hr13); rw [← hy13, ← hA13, ← hc13] at hcut13; have HR305 := Aside0.mk hr13; have HC305 := Aside0.mk (show y302.length ≤ c13 from by rw [hy13, hc13]; exact Nat.sub_le_sub_right hroom13 _); clear hr13 hC13 hroom13 hi013 hsz13 hc13; have KY13 := Aside0.mk hy13; have KA13 := Aside0.mk hA13; clear hy13 hA13; have KL13 := Aside0.mk (show 1 ≤ t290.length from by omega); replace q13 := eq_true q13) | (go_at_call 24; (with_reducible refine (calepinref08_Fields.calls k _ _ y302 t306 t307 t308 _ ?side1 ?side2 ?side3 A8.out).mono ?_); (case side1 => repeat (first | exact (by repeat (first | (with_reducible exact HR305.out) | (with_reducible refine Kd.C_alloc ?_ _) | (with_reducible refine Kd.C_drewN ?_ _) | (with_reducible refine Kd.C_drew ?_) | exact HR305.out)) | (with_reducible refine Kd.C_alloc ?_ _) | (with_reducible refine Kd.C_drewN ?_ _) | (with_reducible refine Kd.C_drew ?_))); (case side2 => exact HC305.out); (case side3 => exact LaidM.below HT.out (by repeat (first | (with_reducible first | exact HB.out | apply below_alloc | apply pw_below_drewN | apply below_drew1 | refine below_set ?_ GE289.out) | exact HB.out))); rintro e w14 ⟨v309, rfl, ho0, hb⟩; have n0_ := Aside0.mk (Kd.R_below (by (with_reducible repeat (first | apply Kd.R_alloc | apply Kd.R_drewN | apply Kd.R_drew)); exact HO294.out) hb); have n1_ := Aside0.mk (Kd.R_lower ho0 (below_size (by repeat (first | (with_reducible first | exact HB.out | apply below_alloc | apply pw_below_drewN | apply below_drew1 | refine below_set ?_ GE289.out) | exact HB.out)))); have n2_ := Aside0.mk (blk_below (g := gb289) (o := .cells #[.int .i64 0, .slice none 0 0, .string (⟨#[]⟩ : ByteArray)] 33 (0, 0)) (by (with_reducible repeat (first | refine blk_drewN ?_ _ | refine blk_drew ?_ | refine blk_alloc ?_ _)); exact BK289.out) hb); have n3_ := Aside0.mk (Kd.C_below (by repeat (first | (with_reducible exact HR305.out) | (with_reducible refine Kd.C_alloc ?_ _) | (with_reducible refine Kd.C_drewN ?_ _) | (with_reducible refine Kd.C_drew ?_) | exact HR305.out)) hb); have n4_ := Aside0.mk (below_step (by repeat (first | (with_reducible first | exact HB.out | apply below_alloc | apply pw_below_drewN | apply below_drew1 | refine below_set ?_ GE289.out) | exact HB.out)) hb); clear HO294; clear BK289; clear HR305; clear HB; have HO294 := n0_; have HO310 := n1_; have BK289 := n2_; have HR305 := n3_; have HB := n4_; clear n0_ n1_ n2_ n3_ n4_; (try clear hb); (try clear hb2); (try clear hk); (try clear hi); (try clear ho0))))
    (try simp only [Act.put, List.setIfInBounds_toArray, List.set_cons_zero, List.set_cons_succ])
    go_cut [83] (fun v83 wc => ∃ (kq : Nat) (x83_8 : Bool), v83 = .bool x83_8 ∧ Aside0 (calepinref08_Response.j0 kq a0 t291 t299 t306 t307 x83_8 = some (r1, r2, r3, r4, r5)) ∧ Aside0 (kq ≤ k) ∧ Aside0 (Kd.R k62 62 wc w.heap.size (fun _ => True) v309 t306) ∧ Aside0 (wc.heap[gb289]? = some (.cells #[.int .i64 0, (.slice none 0 0), .string (⟨#[]⟩ : ByteArray)] 33 (0, 0))) ∧ Aside0 (Kd.C Kd.string wc A13 y302.length y302) ∧ Aside0 (Below w.heap.size w wc))
    case first =>
     have H := HC9.out
     clear HC9
     by_cases c15 : t301 = true
     ·subst c15
      have H1 : (if t308 = true then (if t296.toList = ([72, 84, 84, 80, 47, 49, 46, 49] : List UInt8) then (if (t299.size : Int) = 3 then (if 0 < (t299.size : Int) then (if (bt t299 0) < 49 then (calepinref08_Response.j0 k a0 t291 t299 t306 t307 true) else (if (bt t299 0) > 53 then (calepinref08_Response.j0 k a0 t291 t299 t306 t307 true) else ((calepinref08_Range.f k t299 48 57 false).bind fun t311 => (if t311 = true then ((calepinref08_Range.f k t300 32 126 false).bind fun t312 => (calepinref08_Response.j0 k a0 t291 t299 t306 t307 (!t312))) else (calepinref08_Response.j0 k a0 t291 t299 t306 t307 true))))) else (none)) else (calepinref08_Response.j0 k a0 t291 t299 t306 t307 true)) else (calepinref08_Response.j0 k a0 t291 t299 t306 t307 true)) else (calepinref08_Response.j0 k a0 t291 t299 t306 t307 true)) = some (r1, r2, r3, r4, r5) := by rw [if_pos rfl] at H; exact H
      clear H
      have H := H1
      clear H1
      by_cases c16 : t308 = true
      ·subst c16
       have H1 : (if t296.toList = ([72, 84, 84, 80, 47, 49, 46, 49] : List UInt8) then (if (t299.size : Int) = 3 then (if 0 < (t299.size : Int) then (if (bt t299 0) < 49 then (calepinref08_Response.j0 k a0 t291 t299 t306 t307 true) else (if (bt t299 0) > 53 then (calepinref08_Response.j0 k a0 t291 t299 t306 t307 true) else ((calepinref08_Range.f k t299 48 57 false).bind fun t311 => (if t311 = true then ((calepinref08_Range.f k t300 32 126 false).bind fun t312 => (calepinref08_Response.j0 k a0 t291 t299 t306 t307 (!t312))) else (calepinref08_Response.j0 k a0 t291 t299 t306 t307 true))))) else (none)) else (calepinref08_Response.j0 k a0 t291 t299 t306 t307 true)) else (calepinref08_Response.j0 k a0 t291 t299 t306 t307 true)) = some (r1, r2, r3, r4, r5) := by rw [if_pos rfl] at H; exact H
       clear H
       have H := H1
       clear H1
       by_cases c17 : t296.toList = ([72, 84, 84, 80, 47, 49, 46, 49] : List UInt8)
       ·rw [if_pos c17] at H
        have c17b0 : (t296.toList == ([72, 84, 84, 80, 47, 49, 46, 49] : List UInt8)) = true := beq_iff_eq.mpr c17
        have c17b1 : (t296.toList != ([72, 84, 84, 80, 47, 49, 46, 49] : List UInt8)) = false := bne_eq_false_iff_eq.mpr c17
        clear c17
        (first | rw [c17b0] | rw [c17b1] | (simp only [i64_w, i32_w]; rw [c17b0]) | skip)
        by_cases c18 : (t299.size : Int) = 3
        ·rw [if_pos c18] at H
         have c18b0 : ((t299.size : Int) == 3) = true := beq_iff_eq.mpr c18
         have c18b1 : ((t299.size : Int) != 3) = false := bne_eq_false_iff_eq.mpr c18
         clear c18
         by_cases c19 : 0 < (t299.size : Int)
         ·rw [if_pos c19] at H
          have c19b0 : decide (0 < (t299.size : Int)) = true := decide_eq_true c19
          have c19b1 : decide (0 < t299.size) = true := decide_eq_true (by omega)
          clear c19
          by_cases c21 : (bt t299 0) < 49
          ·rw [if_pos c21] at H
           have c21b0 : decide ((bt t299 0) < 49) = true := decide_eq_true c21
           clear c21
           have H' := Aside0.mk H
           clear H
           have p20 : 0 ≤ (0 : Int) := (by omega)
           have q20 : 0 < t299.size := (by have : (0 : Int) < (t299.size : Int) := of_decide_eq_true (by first | (with_reducible assumption) | assumption); omega)
           have hx20 : ∀ h : 0 < t299.size, ((t299[0]'h).toNat : Int) = bt t299 0 := bt_at t299 0
           clear p20
           have qi20 : (0 < (t299.size : Int)) = True := eq_true (of_decide_eq_true (by first | (with_reducible assumption) | assumption))
           replace q20 := eq_true q20
           go_wp2
           repeat (go_quiet (fail); try go_wp2)
           go_meet
           case rel => exact ⟨_, (true), (by first | rfl | (simp; done) | (simp [*]; done)), H', ⟨by first | omega | exact Nat.le_refl _⟩, ⟨by (with_reducible repeat (first | apply Kd.R_alloc | apply Kd.R_drewN | apply Kd.R_drew)); exact HO310.out⟩, ⟨by (with_reducible repeat (first | refine blk_drewN ?_ _ | refine blk_drew ?_ | refine blk_alloc ?_ _)); exact BK289.out⟩, ⟨by repeat (first | (with_reducible exact HR305.out) | (with_reducible refine Kd.C_alloc ?_ _) | (with_reducible refine Kd.C_drewN ?_ _) | (with_reducible refine Kd.C_drew ?_) | exact HR305.out)⟩, ⟨by repeat (first | (with_reducible first | exact HB.out | apply below_alloc | apply pw_below_drewN | apply below_drew1 | refine below_set ?_ GE289.out) | exact HB.out)⟩⟩
          ·rw [if_neg c21] at H
           have c21b0 : decide ((bt t299 0) < 49) = false := decide_eq_false c21
           clear c21
           by_cases c23 : (bt t299 0) > 53
           ·rw [if_pos c23] at H
            have c23b0 : decide (53 < (bt t299 0)) = true := decide_eq_true c23
            clear c23
            have H' := Aside0.mk H
            clear H
            have p20 : 0 ≤ (0 : Int) := (by omega)
            have q20 : 0 < t299.size := (by have : (0 : Int) < (t299.size : Int) := of_decide_eq_true (by first | (with_reducible assumption) | assumption); omega)
            have hx20 : ∀ h : 0 < t299.size, ((t299[0]'h).toNat : Int) = bt t299 0 := bt_at t299 0
            clear p20
            have qi20 : (0 < (t299.size : Int)) = True := eq_true (of_decide_eq_true (by first | (with_reducible assumption) | assumption))
            replace q20 := eq_true q20
            have p22 : 0 ≤ (0 : Int) := (by omega)
            have q22 : 0 < t299.size := (by have : (0 : Int) < (t299.size : Int) := of_decide_eq_true (by first | (with_reducible assumption) | assumption); omega)
            have hx22 : ∀ h : 0 < t299.size, ((t299[0]'h).toNat : Int) = bt t299 0 := bt_at t299 0
            clear p22
            have qi22 : (0 < (t299.size : Int)) = True := eq_true (of_decide_eq_true (by first | (with_reducible assumption) | assumption))
            replace q22 := eq_true q22
            go_wp2
            repeat (go_quiet (fail); try go_wp2)
            go_meet
            case rel => exact ⟨_, (true), (by first | rfl | (simp; done) | (simp [*]; done)), H', ⟨by first | omega | exact Nat.le_refl _⟩, ⟨by (with_reducible repeat (first | apply Kd.R_alloc | apply Kd.R_drewN | apply Kd.R_drew)); exact HO310.out⟩, ⟨by (with_reducible repeat (first | refine blk_drewN ?_ _ | refine blk_drew ?_ | refine blk_alloc ?_ _)); exact BK289.out⟩, ⟨by repeat (first | (with_reducible exact HR305.out) | (with_reducible refine Kd.C_alloc ?_ _) | (with_reducible refine Kd.C_drewN ?_ _) | (with_reducible refine Kd.C_drew ?_) | exact HR305.out)⟩, ⟨by repeat (first | (with_reducible first | exact HB.out | apply below_alloc | apply pw_below_drewN | apply below_drew1 | refine below_set ?_ GE289.out) | exact HB.out)⟩⟩
           ·rw [if_neg c23] at H
            have c23b0 : decide (53 < (bt t299 0)) = false := decide_eq_false c23
            clear c23
            replace H := Option.bind_eq_some_iff.mp H
            obtain ⟨t311, A240, H⟩ := H
            replace H : (if t311 = true then ((calepinref08_Range.f k t300 32 126 false).bind fun t312 => (calepinref08_Response.j0 k a0 t291 t299 t306 t307 (!t312))) else (calepinref08_Response.j0 k a0 t291 t299 t306 t307 true)) = some (r1, r2, r3, r4, r5) := H
            have A24 := Aside0.mk A240
            clear A240
            by_cases c25 : t311 = true
            ·subst c25
             have H1 : ((calepinref08_Range.f k t300 32 126 false).bind fun t312 => (calepinref08_Response.j0 k a0 t291 t299 t306 t307 (!t312))) = some (r1, r2, r3, r4, r5) := by rw [if_pos rfl] at H; exact H
             clear H
             have H := H1
             clear H1
             replace H := Option.bind_eq_some_iff.mp H
             obtain ⟨t312, A260, H⟩ := H
             replace H : (calepinref08_Response.j0 k a0 t291 t299 t306 t307 (!t312)) = some (r1, r2, r3, r4, r5) := H
             have A26 := Aside0.mk A260
             clear A260
             have H' := Aside0.mk H
             clear H
             have p20 : 0 ≤ (0 : Int) := (by omega)
             have q20 : 0 < t299.size := (by have : (0 : Int) < (t299.size : Int) := of_decide_eq_true (by first | (with_reducible assumption) | assumption); omega)
             have hx20 : ∀ h : 0 < t299.size, ((t299[0]'h).toNat : Int) = bt t299 0 := bt_at t299 0
             clear p20
             have qi20 : (0 < (t299.size : Int)) = True := eq_true (of_decide_eq_true (by first | (with_reducible assumption) | assumption))
             replace q20 := eq_true q20
             have p22 : 0 ≤ (0 : Int) := (by omega)
             have q22 : 0 < t299.size := (by have : (0 : Int) < (t299.size : Int) := of_decide_eq_true (by first | (with_reducible assumption) | assumption); omega)
             have hx22 : ∀ h : 0 < t299.size, ((t299[0]'h).toNat : Int) = bt t299 0 := bt_at t299 0
             clear p22
             have qi22 : (0 < (t299.size : Int)) = True := eq_true (of_decide_eq_true (by first | (with_reducible assumption) | assumption))
             replace q22 := eq_true q22
             go_wp2_with (first | (go_at_call 29; (with_reducible refine (calepinref08_Range.calls k t299 48 57 false true _ A24.out).mono ?_); rintro e w' ⟨rfl, ⟨nd, rfl⟩⟩; (try first | exact ⟨rfl, _, World.drewN_drewN _ _ _⟩ | exact ⟨rfl, _, Eq.trans (World.drewN_drewN _ _ _) (congrArg (World.drewN _) (Nat.add_assoc _ _ _))⟩)) | (go_at_call 29; (with_reducible refine (calepinref08_Range.calls k t300 32 126 false t312 _ A26.out).mono ?_); rintro e w' ⟨rfl, ⟨nd, rfl⟩⟩; (try first | exact ⟨rfl, _, World.drewN_drewN _ _ _⟩ | exact ⟨rfl, _, Eq.trans (World.drewN_drewN _ _ _) (congrArg (World.drewN _) (Nat.add_assoc _ _ _))⟩)))
             repeat (go_quiet (first | (go_at_call 29; (with_reducible refine (calepinref08_Range.calls k t299 48 57 false true _ A24.out).mono ?_); rintro e w' ⟨rfl, ⟨nd, rfl⟩⟩; (try first | exact ⟨rfl, _, World.drewN_drewN _ _ _⟩ | exact ⟨rfl, _, Eq.trans (World.drewN_drewN _ _ _) (congrArg (World.drewN _) (Nat.add_assoc _ _ _))⟩)) | (go_at_call 29; (with_reducible refine (calepinref08_Range.calls k t300 32 126 false t312 _ A26.out).mono ?_); rintro e w' ⟨rfl, ⟨nd, rfl⟩⟩; (try first | exact ⟨rfl, _, World.drewN_drewN _ _ _⟩ | exact ⟨rfl, _, Eq.trans (World.drewN_drewN _ _ _) (congrArg (World.drewN _) (Nat.add_assoc _ _ _))⟩))); try go_wp2_with (first | (go_at_call 29; (with_reducible refine (calepinref08_Range.calls k t299 48 57 false true _ A24.out).mono ?_); rintro e w' ⟨rfl, ⟨nd, rfl⟩⟩; (try first | exact ⟨rfl, _, World.drewN_drewN _ _ _⟩ | exact ⟨rfl, _, Eq.trans (World.drewN_drewN _ _ _) (congrArg (World.drewN _) (Nat.add_assoc _ _ _))⟩)) | (go_at_call 29; (with_reducible refine (calepinref08_Range.calls k t300 32 126 false t312 _ A26.out).mono ?_); rintro e w' ⟨rfl, ⟨nd, rfl⟩⟩; (try first | exact ⟨rfl, _, World.drewN_drewN _ _ _⟩ | exact ⟨rfl, _, Eq.trans (World.drewN_drewN _ _ _) (congrArg (World.drewN _) (Nat.add_assoc _ _ _))⟩))))
             go_meet
             case rel => exact ⟨_, (!t312), (by first | rfl | (simp; done) | (simp [*]; done)), H', ⟨by first | omega | exact Nat.le_refl _⟩, ⟨by (with_reducible repeat (first | apply Kd.R_alloc | apply Kd.R_drewN | apply Kd.R_drew)); exact HO310.out⟩, ⟨by (with_reducible repeat (first | refine blk_drewN ?_ _ | refine blk_drew ?_ | refine blk_alloc ?_ _)); exact BK289.out⟩, ⟨by repeat (first | (with_reducible exact HR305.out) | (with_reducible refine Kd.C_alloc ?_ _) | (with_reducible refine Kd.C_drewN ?_ _) | (with_reducible refine Kd.C_drew ?_) | exact HR305.out)⟩, ⟨by repeat (first | (with_reducible first | exact HB.out | apply below_alloc | apply pw_below_drewN | apply below_drew1 | refine below_set ?_ GE289.out) | exact HB.out)⟩⟩
            ·replace c25 := Bool.eq_false_iff.mpr c25
             subst c25
             have H1 : (calepinref08_Response.j0 k a0 t291 t299 t306 t307 true) = some (r1, r2, r3, r4, r5) := by rw [if_neg (show ¬ (false = true) by decide)] at H; exact H
             clear H
             have H := H1
             clear H1
             have H' := Aside0.mk H
             clear H
             have p20 : 0 ≤ (0 : Int) := (by omega)
             have q20 : 0 < t299.size := (by have : (0 : Int) < (t299.size : Int) := of_decide_eq_true (by first | (with_reducible assumption) | assumption); omega)
             have hx20 : ∀ h : 0 < t299.size, ((t299[0]'h).toNat : Int) = bt t299 0 := bt_at t299 0
             clear p20
             have qi20 : (0 < (t299.size : Int)) = True := eq_true (of_decide_eq_true (by first | (with_reducible assumption) | assumption))
             replace q20 := eq_true q20
             have p22 : 0 ≤ (0 : Int) := (by omega)
             have q22 : 0 < t299.size := (by have : (0 : Int) < (t299.size : Int) := of_decide_eq_true (by first | (with_reducible assumption) | assumption); omega)
             have hx22 : ∀ h : 0 < t299.size, ((t299[0]'h).toNat : Int) = bt t299 0 := bt_at t299 0
             clear p22
             have qi22 : (0 < (t299.size : Int)) = True := eq_true (of_decide_eq_true (by first | (with_reducible assumption) | assumption))
             replace q22 := eq_true q22
             go_wp2_with (first | (go_at_call 29; (with_reducible refine (calepinref08_Range.calls k t299 48 57 false false _ A24.out).mono ?_); rintro e w' ⟨rfl, ⟨nd, rfl⟩⟩; (try first | exact ⟨rfl, _, World.drewN_drewN _ _ _⟩ | exact ⟨rfl, _, Eq.trans (World.drewN_drewN _ _ _) (congrArg (World.drewN _) (Nat.add_assoc _ _ _))⟩)))
             repeat (go_quiet (first | (go_at_call 29; (with_reducible refine (calepinref08_Range.calls k t299 48 57 false false _ A24.out).mono ?_); rintro e w' ⟨rfl, ⟨nd, rfl⟩⟩; (try first | exact ⟨rfl, _, World.drewN_drewN _ _ _⟩ | exact ⟨rfl, _, Eq.trans (World.drewN_drewN _ _ _) (congrArg (World.drewN _) (Nat.add_assoc _ _ _))⟩))); try go_wp2_with (first | (go_at_call 29; (with_reducible refine (calepinref08_Range.calls k t299 48 57 false false _ A24.out).mono ?_); rintro e w' ⟨rfl, ⟨nd, rfl⟩⟩; (try first | exact ⟨rfl, _, World.drewN_drewN _ _ _⟩ | exact ⟨rfl, _, Eq.trans (World.drewN_drewN _ _ _) (congrArg (World.drewN _) (Nat.add_assoc _ _ _))⟩))))
             go_meet
             case rel => exact ⟨_, (true), (by first | rfl | (simp; done) | (simp [*]; done)), H', ⟨by first | omega | exact Nat.le_refl _⟩, ⟨by (with_reducible repeat (first | apply Kd.R_alloc | apply Kd.R_drewN | apply Kd.R_drew)); exact HO310.out⟩, ⟨by (with_reducible repeat (first | refine blk_drewN ?_ _ | refine blk_drew ?_ | refine blk_alloc ?_ _)); exact BK289.out⟩, ⟨by repeat (first | (with_reducible exact HR305.out) | (with_reducible refine Kd.C_alloc ?_ _) | (with_reducible refine Kd.C_drewN ?_ _) | (with_reducible refine Kd.C_drew ?_) | exact HR305.out)⟩, ⟨by repeat (first | (with_reducible first | exact HB.out | apply below_alloc | apply pw_below_drewN | apply below_drew1 | refine below_set ?_ GE289.out) | exact HB.out)⟩⟩
         ·rw [if_neg c19] at H
          exact absurd H (by simp)
        ·rw [if_neg c18] at H
         have c18b0 : ((t299.size : Int) == 3) = false := beq_eq_false_iff_ne.mpr c18
         have c18b1 : ((t299.size : Int) != 3) = true := bne_iff_ne.mpr c18
         have H' := Aside0.mk H
         clear H
         go_wp2
         repeat (go_quiet (fail); try go_wp2)
         go_meet
         case rel => exact ⟨_, (true), (by first | rfl | (simp; done) | (simp [*]; done)), H', ⟨by first | omega | exact Nat.le_refl _⟩, ⟨by (with_reducible repeat (first | apply Kd.R_alloc | apply Kd.R_drewN | apply Kd.R_drew)); exact HO310.out⟩, ⟨by (with_reducible repeat (first | refine blk_drewN ?_ _ | refine blk_drew ?_ | refine blk_alloc ?_ _)); exact BK289.out⟩, ⟨by repeat (first | (with_reducible exact HR305.out) | (with_reducible refine Kd.C_alloc ?_ _) | (with_reducible refine Kd.C_drewN ?_ _) | (with_reducible refine Kd.C_drew ?_) | exact HR305.out)⟩, ⟨by repeat (first | (with_reducible first | exact HB.out | apply below_alloc | apply pw_below_drewN | apply below_drew1 | refine below_set ?_ GE289.out) | exact HB.out)⟩⟩
       ·rw [if_neg c17] at H
        have c17b0 : (t296.toList == ([72, 84, 84, 80, 47, 49, 46, 49] : List UInt8)) = false := beq_eq_false_iff_ne.mpr c17
        have c17b1 : (t296.toList != ([72, 84, 84, 80, 47, 49, 46, 49] : List UInt8)) = true := bne_iff_ne.mpr c17
        (first | rw [c17b0] | rw [c17b1] | (simp only [i64_w, i32_w]; rw [c17b0]) | skip)
        have H' := Aside0.mk H
        clear H
        go_wp2
        repeat (go_quiet (fail); try go_wp2)
        go_meet
        case rel => exact ⟨_, (true), (by first | rfl | (simp; done) | (simp [*]; done)), H', ⟨by first | omega | exact Nat.le_refl _⟩, ⟨by (with_reducible repeat (first | apply Kd.R_alloc | apply Kd.R_drewN | apply Kd.R_drew)); exact HO310.out⟩, ⟨by (with_reducible repeat (first | refine blk_drewN ?_ _ | refine blk_drew ?_ | refine blk_alloc ?_ _)); exact BK289.out⟩, ⟨by repeat (first | (with_reducible exact HR305.out) | (with_reducible refine Kd.C_alloc ?_ _) | (with_reducible refine Kd.C_drewN ?_ _) | (with_reducible refine Kd.C_drew ?_) | exact HR305.out)⟩, ⟨by repeat (first | (with_reducible first | exact HB.out | apply below_alloc | apply pw_below_drewN | apply below_drew1 | refine below_set ?_ GE289.out) | exact HB.out)⟩⟩
      ·replace c16 := Bool.eq_false_iff.mpr c16
       subst c16
       have H1 : (calepinref08_Response.j0 k a0 t291 t299 t306 t307 true) = some (r1, r2, r3, r4, r5) := by rw [if_neg (show ¬ (false = true) by decide)] at H; exact H
       clear H
       have H := H1
       clear H1
       have H' := Aside0.mk H
       clear H
       go_wp2
       repeat (go_quiet (fail); try go_wp2)
       go_meet
       case rel => exact ⟨_, (true), (by first | rfl | (simp; done) | (simp [*]; done)), H', ⟨by first | omega | exact Nat.le_refl _⟩, ⟨by (with_reducible repeat (first | apply Kd.R_alloc | apply Kd.R_drewN | apply Kd.R_drew)); exact HO310.out⟩, ⟨by (with_reducible repeat (first | refine blk_drewN ?_ _ | refine blk_drew ?_ | refine blk_alloc ?_ _)); exact BK289.out⟩, ⟨by repeat (first | (with_reducible exact HR305.out) | (with_reducible refine Kd.C_alloc ?_ _) | (with_reducible refine Kd.C_drewN ?_ _) | (with_reducible refine Kd.C_drew ?_) | exact HR305.out)⟩, ⟨by repeat (first | (with_reducible first | exact HB.out | apply below_alloc | apply pw_below_drewN | apply below_drew1 | refine below_set ?_ GE289.out) | exact HB.out)⟩⟩
     ·replace c15 := Bool.eq_false_iff.mpr c15
      subst c15
      have H1 : (calepinref08_Response.j0 k a0 t291 t299 t306 t307 true) = some (r1, r2, r3, r4, r5) := by rw [if_neg (show ¬ (false = true) by decide)] at H; exact H
      clear H
      have H := H1
      clear H1
      have H' := Aside0.mk H
      clear H
      go_wp2
      repeat (go_quiet (fail); try go_wp2)
      go_meet
      case rel => exact ⟨_, (true), (by first | rfl | (simp; done) | (simp [*]; done)), H', ⟨by first | omega | exact Nat.le_refl _⟩, ⟨by (with_reducible repeat (first | apply Kd.R_alloc | apply Kd.R_drewN | apply Kd.R_drew)); exact HO310.out⟩, ⟨by (with_reducible repeat (first | refine blk_drewN ?_ _ | refine blk_drew ?_ | refine blk_alloc ?_ _)); exact BK289.out⟩, ⟨by repeat (first | (with_reducible exact HR305.out) | (with_reducible refine Kd.C_alloc ?_ _) | (with_reducible refine Kd.C_drewN ?_ _) | (with_reducible refine Kd.C_drew ?_) | exact HR305.out)⟩, ⟨by repeat (first | (with_reducible first | exact HB.out | apply below_alloc | apply pw_below_drewN | apply below_drew1 | refine below_set ?_ GE289.out) | exact HB.out)⟩⟩
    case rest =>
     clear HC9
     try clear c1
     try clear q1
     try clear c2
     try clear p2
     try clear q2
     try clear hx2
     try clear qi2
     try clear c3
     try clear c3b0
     try clear c3b1
     try clear c4
     try clear c4b0
     try clear c4b1
     try clear c7
     try clear c7b0
     try clear c7b1
     try clear c10
     try clear c13
     try clear q13
     try clear c15
     try clear c16
     try clear c17
     try clear c17b0
     try clear c17b1
     try clear c18
     try clear c18b0
     try clear c18b1
     try clear c19
     try clear c19b0
     try clear c19b1
     try clear p20
     try clear q20
     try clear hx20
     try clear qi20
     try clear c21
     try clear c21b0
     try clear p22
     try clear q22
     try clear hx22
     try clear qi22
     try clear c23
     try clear c23b0
     try clear c25
     try clear hx295_0
     try clear p20
     try clear p22
     try clear p295
     try clear q13
     try clear q20
     try clear q22
     try clear q295
     obtain ⟨kq, x83_8, rfl, HA, HJ8, HO_14, BK289, HR305, HB⟩ := hcut
     cases kq with
     | zero => exact absurd HA.out (by simp [calepinref08_Response.j0])
     | succ kj8 =>
      have H := HA.out
      clear HA
      simp only [calepinref08_Response.j0] at H
      by_cases c27 : x83_8 = true
      ·subst c27
       have H1 : (some (0, ([] : List (S62)), (⟨#[]⟩ : ByteArray), 0, 80)) = some (r1, r2, r3, r4, r5) := by rw [if_pos rfl] at H; exact H
       clear H
       have H := H1
       clear H1
       simp only [Option.some.injEq, Prod.mk.injEq] at H
       obtain ⟨rfl, rfl, rfl, rfl, rfl⟩ := H
       have hcz28_0 : wc.cell? ⟨gb289, 0, none⟩ = some (.int .i64 0) := (blk_cell BK289.out 0).trans rfl
       have hcz28_1 : wc.cell? ⟨gb289, 1, none⟩ = some (.slice none 0 0) := (blk_cell BK289.out 1).trans rfl
       have hcz28_2 : wc.cell? ⟨gb289, 2, none⟩ = some (.string (⟨#[]⟩ : ByteArray)) := (blk_cell BK289.out 2).trans rfl
       have hfz28_0 := blk_frozen BK289.out 0
       have hfz28_1 := blk_frozen BK289.out 1
       have hfz28_2 := blk_frozen BK289.out 2
       go_wp2
       repeat (go_quiet (fail); try go_wp2)
       refine bodyPost_ret (results_ctt rfl _ _ gb289 33 #[.int .i64 0, .slice none 0 0, .string (⟨#[]⟩ : ByteArray)] (0, 0) _ rfl (by (with_reducible repeat (first | refine blk_drewN ?_ _ | refine blk_drew ?_ | refine blk_alloc ?_ _)); refine blk_put (cs := #[.int .i64 0, .slice none 0 0, .string (⟨#[]⟩ : ByteArray)]) ?_ 2 _ rfl; (with_reducible repeat (first | refine blk_drewN ?_ _ | refine blk_drew ?_ | refine blk_alloc ?_ _)); refine blk_put (cs := #[.int .i64 0, .slice none 0 0, .string (⟨#[]⟩ : ByteArray)]) ?_ 1 _ rfl; (with_reducible repeat (first | refine blk_drewN ?_ _ | refine blk_drew ?_ | refine blk_alloc ?_ _)); refine blk_put (cs := #[.int .i64 0, .slice none 0 0, .string (⟨#[]⟩ : ByteArray)]) ?_ 0 _ rfl; (with_reducible repeat (first | refine blk_drewN ?_ _ | refine blk_drew ?_ | refine blk_alloc ?_ _)); exact BK289.out) Tryz.underlying33 rfl (by kernel_rfl)) rfl ?_
       exact ⟨_, by first | rfl | (simp [errW_none, errW_some] <;> rfl) | (simp [*, errW_none, errW_some] <;> rfl), by first | exact Kd.R_nil _ _ _ _ _ | exact Kd.N_nil _ _ _ _ _ | exact Kd.V_nil _ _ _ _ _ | exact Kd.Q_nil _ _ _ _ _ | exact Kd.S_nil _ _ _ _ _, by repeat (first | (with_reducible first | exact HB.out | apply below_alloc | apply pw_below_drewN | apply below_drew1 | refine below_set ?_ GE289.out) | exact HB.out)⟩
      ·replace c27 := Bool.eq_false_iff.mpr c27
       subst c27
       have H1 : (if (wrap64 ((a0.size : Int) - t291)) < t307 then (some (0, ([] : List (S62)), (⟨#[]⟩ : ByteArray), 0, 91)) else (if 0 < (t299.size : Int) then (if 1 < (t299.size : Int) then (if 2 < (t299.size : Int) then (if 0 ≤ t291 then (if t291 ≤ (wrap64 (t291 + t307)) then (if (wrap64 (t291 + t307)) ≤ (a0.size : Int) then (some (((100 * (((bt t299 0) - 48) % 256)) + (10 * (((bt t299 1) - 48) % 256))) + (((bt t299 2) - 48) % 256), t306, a0.extract (t291 : Int).toNat ((wrap64 (t291 + t307)) : Int).toNat, wrap64 (t291 + t307), 0)) else (none)) else (none)) else (none)) else (none)) else (none)) else (none))) = some (r1, r2, r3, r4, r5) := by rw [if_neg (show ¬ (false = true) by decide)] at H; exact H
       clear H
       have H := H1
       clear H1
       by_cases c29 : (wrap64 ((a0.size : Int) - t291)) < t307
       ·rw [if_pos c29] at H
        have c29b0 : decide ((wrap64 ((a0.size : Int) - t291)) < t307) = true := decide_eq_true c29
        clear c29
        simp only [Option.some.injEq, Prod.mk.injEq] at H
        obtain ⟨rfl, rfl, rfl, rfl, rfl⟩ := H
        have hcz30_0 : wc.cell? ⟨gb289, 0, none⟩ = some (.int .i64 0) := (blk_cell BK289.out 0).trans rfl
        have hcz30_1 : wc.cell? ⟨gb289, 1, none⟩ = some (.slice none 0 0) := (blk_cell BK289.out 1).trans rfl
        have hcz30_2 : wc.cell? ⟨gb289, 2, none⟩ = some (.string (⟨#[]⟩ : ByteArray)) := (blk_cell BK289.out 2).trans rfl
        have hfz30_0 := blk_frozen BK289.out 0
        have hfz30_1 := blk_frozen BK289.out 1
        have hfz30_2 := blk_frozen BK289.out 2
        go_wp2
        repeat (go_quiet (fail); try go_wp2)
        refine bodyPost_ret (results_ctt rfl _ _ gb289 33 #[.int .i64 0, .slice none 0 0, .string (⟨#[]⟩ : ByteArray)] (0, 0) _ rfl (by (with_reducible repeat (first | refine blk_drewN ?_ _ | refine blk_drew ?_ | refine blk_alloc ?_ _)); refine blk_put (cs := #[.int .i64 0, .slice none 0 0, .string (⟨#[]⟩ : ByteArray)]) ?_ 2 _ rfl; (with_reducible repeat (first | refine blk_drewN ?_ _ | refine blk_drew ?_ | refine blk_alloc ?_ _)); refine blk_put (cs := #[.int .i64 0, .slice none 0 0, .string (⟨#[]⟩ : ByteArray)]) ?_ 1 _ rfl; (with_reducible repeat (first | refine blk_drewN ?_ _ | refine blk_drew ?_ | refine blk_alloc ?_ _)); refine blk_put (cs := #[.int .i64 0, .slice none 0 0, .string (⟨#[]⟩ : ByteArray)]) ?_ 0 _ rfl; (with_reducible repeat (first | refine blk_drewN ?_ _ | refine blk_drew ?_ | refine blk_alloc ?_ _)); exact BK289.out) Tryz.underlying33 rfl (by kernel_rfl)) rfl ?_
        exact ⟨_, by first | rfl | (simp [errW_none, errW_some] <;> rfl) | (simp [*, errW_none, errW_some] <;> rfl), by first | exact Kd.R_nil _ _ _ _ _ | exact Kd.N_nil _ _ _ _ _ | exact Kd.V_nil _ _ _ _ _ | exact Kd.Q_nil _ _ _ _ _ | exact Kd.S_nil _ _ _ _ _, by repeat (first | (with_reducible first | exact HB.out | apply below_alloc | apply pw_below_drewN | apply below_drew1 | refine below_set ?_ GE289.out) | exact HB.out)⟩
       ·rw [if_neg c29] at H
        have c29b0 : decide ((wrap64 ((a0.size : Int) - t291)) < t307) = false := decide_eq_false c29
        clear c29
        by_cases c31 : 0 < (t299.size : Int)
        ·rw [if_pos c31] at H
         have c31b0 : decide (0 < (t299.size : Int)) = true := decide_eq_true c31
         have c31b1 : decide (0 < t299.size) = true := decide_eq_true (by omega)
         clear c31
         by_cases c33 : 1 < (t299.size : Int)
         ·rw [if_pos c33] at H
          have c33b0 : decide (1 < (t299.size : Int)) = true := decide_eq_true c33
          have c33b1 : decide (1 < t299.size) = true := decide_eq_true (by omega)
          clear c33
          by_cases c35 : 2 < (t299.size : Int)
          ·rw [if_pos c35] at H
           have c35b0 : decide (2 < (t299.size : Int)) = true := decide_eq_true c35
           have c35b1 : decide (2 < t299.size) = true := decide_eq_true (by omega)
           clear c35
           by_cases c37 : 0 ≤ t291
           ·rw [if_pos c37] at H
            have c37b0 := eq_true c37
            have c37b1 : decide (0 ≤ t291) = true := decide_eq_true c37
            clear c37
            by_cases c38 : t291 ≤ (wrap64 (t291 + t307))
            ·rw [if_pos c38] at H
             have c38b0 := eq_true c38
             have c38b1 : decide (t291 ≤ (wrap64 (t291 + t307))) = true := decide_eq_true c38
             by_cases c39 : (wrap64 (t291 + t307)) ≤ (a0.size : Int)
             ·rw [if_pos c39] at H
              have c39b0 := eq_true c39
              have c39b1 : decide ((wrap64 (t291 + t307)) ≤ (a0.size : Int)) = true := decide_eq_true c39
              simp only [Option.some.injEq, Prod.mk.injEq] at H
              obtain ⟨rfl, rfl, rfl, rfl, rfl⟩ := H
              have p32 : 0 ≤ (0 : Int) := (by omega)
              have q32 : 0 < t299.size := (by have : (0 : Int) < (t299.size : Int) := of_decide_eq_true (by first | (with_reducible assumption) | assumption); omega)
              have hx32 : ∀ h : 0 < t299.size, ((t299[0]'h).toNat : Int) = bt t299 0 := bt_at t299 0
              clear p32
              have qi32 : (0 < (t299.size : Int)) = True := eq_true (of_decide_eq_true (by first | (with_reducible assumption) | assumption))
              replace q32 := eq_true q32
              have p34 : 0 ≤ (1 : Int) := (by omega)
              have q34 : 1 < t299.size := (by have : (1 : Int) < (t299.size : Int) := of_decide_eq_true (by first | (with_reducible assumption) | assumption); omega)
              have hx34 : ∀ h : 1 < t299.size, ((t299[1]'h).toNat : Int) = bt t299 1 := bt_at t299 1
              clear p34
              have qi34 : (1 < (t299.size : Int)) = True := eq_true (of_decide_eq_true (by first | (with_reducible assumption) | assumption))
              replace q34 := eq_true q34
              have p36 : 0 ≤ (2 : Int) := (by omega)
              have q36 : 2 < t299.size := (by have : (2 : Int) < (t299.size : Int) := of_decide_eq_true (by first | (with_reducible assumption) | assumption); omega)
              have hx36 : ∀ h : 2 < t299.size, ((t299[2]'h).toNat : Int) = bt t299 2 := bt_at t299 2
              clear p36
              have qi36 : (2 < (t299.size : Int)) = True := eq_true (of_decide_eq_true (by first | (with_reducible assumption) | assumption))
              replace q36 := eq_true q36
              obtain ⟨Ao40, co40, eo40⟩ := Kd.R_slice HO_14.out
              subst eo40
              have hcz41_0 : wc.cell? ⟨gb289, 0, none⟩ = some (.int .i64 0) := (blk_cell BK289.out 0).trans rfl
              have hcz41_1 : wc.cell? ⟨gb289, 1, none⟩ = some (.slice none 0 0) := (blk_cell BK289.out 1).trans rfl
              have hcz41_2 : wc.cell? ⟨gb289, 2, none⟩ = some (.string (⟨#[]⟩ : ByteArray)) := (blk_cell BK289.out 2).trans rfl
              have hfz41_0 := blk_frozen BK289.out 0
              have hfz41_1 := blk_frozen BK289.out 1
              have hfz41_2 := blk_frozen BK289.out 2
              go_wp2
              repeat (go_quiet (fail); try go_wp2)
              refine bodyPost_ret (results_ctt rfl _ _ gb289 33 #[.int .i64 (((100 * (((bt t299 0) - 48) % 256)) + (10 * (((bt t299 1) - 48) % 256))) + (((bt t299 2) - 48) % 256)), .slice Ao40 t306.length co40, .string (a0.extract (t291 : Int).toNat ((wrap64 (t291 + t307)) : Int).toNat)] (0, 0) _ rfl (by (with_reducible repeat (first | refine blk_drewN ?_ _ | refine blk_drew ?_ | refine blk_alloc ?_ _)); refine blk_put (cs := #[.int .i64 (((100 * (((bt t299 0) - 48) % 256)) + (10 * (((bt t299 1) - 48) % 256))) + (((bt t299 2) - 48) % 256)), .slice Ao40 t306.length co40, .string (⟨#[]⟩ : ByteArray)]) ?_ 2 _ rfl; (with_reducible repeat (first | refine blk_drewN ?_ _ | refine blk_drew ?_ | refine blk_alloc ?_ _)); refine blk_put (cs := #[.int .i64 (((100 * (((bt t299 0) - 48) % 256)) + (10 * (((bt t299 1) - 48) % 256))) + (((bt t299 2) - 48) % 256)), .slice none 0 0, .string (⟨#[]⟩ : ByteArray)]) ?_ 1 _ rfl; (with_reducible repeat (first | refine blk_drewN ?_ _ | refine blk_drew ?_ | refine blk_alloc ?_ _)); refine blk_put (cs := #[.int .i64 0, .slice none 0 0, .string (⟨#[]⟩ : ByteArray)]) ?_ 0 _ rfl; (with_reducible repeat (first | refine blk_drewN ?_ _ | refine blk_drew ?_ | refine blk_alloc ?_ _)); exact BK289.out) Tryz.underlying33 rfl (by kernel_rfl)) rfl ?_
              exact ⟨_, by first | rfl | (simp [errW_none, errW_some] <;> rfl) | (simp [*, errW_none, errW_some] <;> rfl), by (with_reducible repeat (first | apply Kd.R_alloc | apply Kd.R_drewN | apply Kd.R_drew)); exact Kd.R_mono (Kd.R_far (p := ⟨gb289, 2, none⟩) (Kd.R_far (p := ⟨gb289, 1, none⟩) (Kd.R_far (p := ⟨gb289, 0, none⟩) (Kd.R_types HO_14.out BK289.out (by decide)) (fun _ hk => hk.2) (.int .i64 (((100 * (((bt t299 0) - 48) % 256)) + (10 * (((bt t299 1) - 48) % 256))) + (((bt t299 2) - 48) % 256)))) (fun _ hk => hk.2) (.slice Ao40 t306.length co40)) (fun _ hk => hk.2) (.string (a0.extract (t291 : Int).toNat ((wrap64 (t291 + t307)) : Int).toNat))) (fun _ hk => trivial), by repeat (first | (with_reducible first | exact HB.out | apply below_alloc | apply pw_below_drewN | apply below_drew1 | refine below_set ?_ GE289.out) | exact HB.out)⟩
             ·rw [if_neg c39] at H
              exact absurd H (by simp)
            ·rw [if_neg c38] at H
             exact absurd H (by simp)
           ·rw [if_neg c37] at H
            exact absurd H (by simp)
          ·rw [if_neg c35] at H
           exact absurd H (by simp)
         ·rw [if_neg c33] at H
          exact absurd H (by simp)
        ·rw [if_neg c31] at H
         exact absurd H (by simp)
   ·rw [if_neg c7] at H
    exact absurd H (by simp)
  ·rw [if_neg c4] at H
   exact absurd H (by simp)
 ·rw [if_neg c3] at H
  have c3b0 : (t292 == 0) = false := beq_eq_false_iff_ne.mpr c3
  have c3b1 : (t292 != 0) = true := bne_iff_ne.mpr c3
  simp only [Option.some.injEq, Prod.mk.injEq] at H
  obtain ⟨rfl, rfl, rfl, rfl, rfl⟩ := H
  go_enter Tryz.func10, Tryz.ntmps10
  go_wp2_with (first | ((with_reducible refine gate_dst (N := 2) rfl ?_); (try (refine gate_guard (by rfl) ?_; dsimp only)); refine box_event ?hg (N := 2) ?hd (cs := #[.int .i64 0, .slice none 0 0, .string (⟨#[]⟩ : ByteArray)]) (t := 33) ?hr ?_; (case hd => rfl); (case hg => rfl); (case hr => first | (go_simp; done) | (go_simp; rfl)); intro gb289 hg w42 hbox hb; have n0_ := Aside0.mk (below_step (by repeat (first | (with_reducible first | exact HB.out | apply below_alloc | apply pw_below_drewN | apply below_drew1) | exact HB.out)) hb); have n1_ := Aside0.mk (hbox); have n2_ := Aside0.mk ((by rw [hg]; exact (below_size (by repeat (first | (with_reducible first | exact HB.out | apply below_alloc | apply pw_below_drewN | apply below_drew1) | exact HB.out))) : w.heap.size ≤ gb289)); have n3_ := Aside0.mk ((by rw [hg]; exact (below_size (by repeat (first | (with_reducible first | exact HB.out | apply below_alloc | apply pw_below_drewN | apply below_drew1) | exact HB.out))) : w.heap.size ≤ gb289)); clear HB; have HB := n0_; have BK289 := n1_; have GW289 := n2_; have GE289 := n3_; clear n0_ n1_ n2_ n3_; clear hb hbox hg) | (go_at_call 22; (with_reducible refine (calepinref08_Head.calls k a0 t290 t291 t292 _ ?side1 A2.out).mono ?_); (case side1 => exact LaidM.below HT.out (by repeat (first | (with_reducible first | exact HB.out | apply below_alloc | apply pw_below_drewN | apply below_drew1 | refine below_set ?_ GE289.out) | exact HB.out))); rintro e w43 ⟨v293, rfl, ho0, hb⟩; have n0_ := Aside0.mk (Kd.R_lower ho0 (below_size (by repeat (first | (with_reducible first | exact HB.out | apply below_alloc | apply pw_below_drewN | apply below_drew1 | refine below_set ?_ GE289.out) | exact HB.out)))); have n1_ := Aside0.mk (blk_below (g := gb289) (o := .cells #[.int .i64 0, .slice none 0 0, .string (⟨#[]⟩ : ByteArray)] 33 (0, 0)) (by (with_reducible repeat (first | refine blk_drewN ?_ _ | refine blk_drew ?_ | refine blk_alloc ?_ _)); exact BK289.out) hb); have n2_ := Aside0.mk (below_step (by repeat (first | (with_reducible first | exact HB.out | apply below_alloc | apply pw_below_drewN | apply below_drew1 | refine below_set ?_ GE289.out) | exact HB.out)) hb); clear BK289; clear HB; have HO294 := n0_; have BK289 := n1_; have HB := n2_; clear n0_ n1_ n2_; (try clear hb); (try clear hb2); (try clear hk); (try clear hi); (try clear ho0); have hcz44_0 : w43.cell? ⟨gb289, 0, none⟩ = some (.int .i64 0) := (blk_cell BK289.out 0).trans rfl; have hcz44_1 : w43.cell? ⟨gb289, 1, none⟩ = some (.slice none 0 0) := (blk_cell BK289.out 1).trans rfl; have hcz44_2 : w43.cell? ⟨gb289, 2, none⟩ = some (.string (⟨#[]⟩ : ByteArray)) := (blk_cell BK289.out 2).trans rfl; have hfz44_0 := blk_frozen BK289.out 0; have hfz44_1 := blk_frozen BK289.out 1; have hfz44_2 := blk_frozen BK289.out 2))
  repeat (go_quiet (first | ((with_reducible refine gate_dst (N := 2) rfl ?_); (try (refine gate_guard (by rfl) ?_; dsimp only)); refine box_event ?hg (N := 2) ?hd (cs := #[.int .i64 0, .slice none 0 0, .string (⟨#[]⟩ : ByteArray)]) (t := 33) ?hr ?_; (case hd => rfl); (case hg => rfl); (case hr => first | (go_simp; done) | (go_simp; rfl)); intro gb289 hg w42 hbox hb; have n0_ := Aside0.mk (below_step (by repeat (first | (with_reducible first | exact HB.out | apply below_alloc | apply pw_below_drewN | apply below_drew1) | exact HB.out)) hb); have n1_ := Aside0.mk (hbox); have n2_ := Aside0.mk ((by rw [hg]; exact (below_size (by repeat (first | (with_reducible first | exact HB.out | apply below_alloc | apply pw_below_drewN | apply below_drew1) | exact HB.out))) : w.heap.size ≤ gb289)); have n3_ := Aside0.mk ((by rw [hg]; exact (below_size (by repeat (first | (with_reducible first | exact HB.out | apply below_alloc | apply pw_below_drewN | apply below_drew1) | exact HB.out))) : w.heap.size ≤ gb289)); clear HB; have HB := n0_; have BK289 := n1_; have GW289 := n2_; have GE289 := n3_; clear n0_ n1_ n2_ n3_; clear hb hbox hg) | (go_at_call 22; (with_reducible refine (calepinref08_Head.calls k a0 t290 t291 t292 _ ?side1 A2.out).mono ?_); (case side1 => exact LaidM.below HT.out (by repeat (first | (with_reducible first | exact HB.out | apply below_alloc | apply pw_below_drewN | apply below_drew1 | refine below_set ?_ GE289.out) | exact HB.out))); rintro e w43 ⟨v293, rfl, ho0, hb⟩; have n0_ := Aside0.mk (Kd.R_lower ho0 (below_size (by repeat (first | (with_reducible first | exact HB.out | apply below_alloc | apply pw_below_drewN | apply below_drew1 | refine below_set ?_ GE289.out) | exact HB.out)))); have n1_ := Aside0.mk (blk_below (g := gb289) (o := .cells #[.int .i64 0, .slice none 0 0, .string (⟨#[]⟩ : ByteArray)] 33 (0, 0)) (by (with_reducible repeat (first | refine blk_drewN ?_ _ | refine blk_drew ?_ | refine blk_alloc ?_ _)); exact BK289.out) hb); have n2_ := Aside0.mk (below_step (by repeat (first | (with_reducible first | exact HB.out | apply below_alloc | apply pw_below_drewN | apply below_drew1 | refine below_set ?_ GE289.out) | exact HB.out)) hb); clear BK289; clear HB; have HO294 := n0_; have BK289 := n1_; have HB := n2_; clear n0_ n1_ n2_; (try clear hb); (try clear hb2); (try clear hk); (try clear hi); (try clear ho0); have hcz44_0 : w43.cell? ⟨gb289, 0, none⟩ = some (.int .i64 0) := (blk_cell BK289.out 0).trans rfl; have hcz44_1 : w43.cell? ⟨gb289, 1, none⟩ = some (.slice none 0 0) := (blk_cell BK289.out 1).trans rfl; have hcz44_2 : w43.cell? ⟨gb289, 2, none⟩ = some (.string (⟨#[]⟩ : ByteArray)) := (blk_cell BK289.out 2).trans rfl; have hfz44_0 := blk_frozen BK289.out 0; have hfz44_1 := blk_frozen BK289.out 1; have hfz44_2 := blk_frozen BK289.out 2)); try go_wp2_with (first | ((with_reducible refine gate_dst (N := 2) rfl ?_); (try (refine gate_guard (by rfl) ?_; dsimp only)); refine box_event ?hg (N := 2) ?hd (cs := #[.int .i64 0, .slice none 0 0, .string (⟨#[]⟩ : ByteArray)]) (t := 33) ?hr ?_; (case hd => rfl); (case hg => rfl); (case hr => first | (go_simp; done) | (go_simp; rfl)); intro gb289 hg w42 hbox hb; have n0_ := Aside0.mk (below_step (by repeat (first | (with_reducible first | exact HB.out | apply below_alloc | apply pw_below_drewN | apply below_drew1) | exact HB.out)) hb); have n1_ := Aside0.mk (hbox); have n2_ := Aside0.mk ((by rw [hg]; exact (below_size (by repeat (first | (with_reducible first | exact HB.out | apply below_alloc | apply pw_below_drewN | apply below_drew1) | exact HB.out))) : w.heap.size ≤ gb289)); have n3_ := Aside0.mk ((by rw [hg]; exact (below_size (by repeat (first | (with_reducible first | exact HB.out | apply below_alloc | apply pw_below_drewN | apply below_drew1) | exact HB.out))) : w.heap.size ≤ gb289)); clear HB; have HB := n0_; have BK289 := n1_; have GW289 := n2_; have GE289 := n3_; clear n0_ n1_ n2_ n3_; clear hb hbox hg) | (go_at_call 22; (with_reducible refine (calepinref08_Head.calls k a0 t290 t291 t292 _ ?side1 A2.out).mono ?_); (case side1 => exact LaidM.below HT.out (by repeat (first | (with_reducible first | exact HB.out | apply below_alloc | apply pw_below_drewN | apply below_drew1 | refine below_set ?_ GE289.out) | exact HB.out))); rintro e w43 ⟨v293, rfl, ho0, hb⟩; have n0_ := Aside0.mk (Kd.R_lower ho0 (below_size (by repeat (first | (with_reducible first | exact HB.out | apply below_alloc | apply pw_below_drewN | apply below_drew1 | refine below_set ?_ GE289.out) | exact HB.out)))); have n1_ := Aside0.mk (blk_below (g := gb289) (o := .cells #[.int .i64 0, .slice none 0 0, .string (⟨#[]⟩ : ByteArray)] 33 (0, 0)) (by (with_reducible repeat (first | refine blk_drewN ?_ _ | refine blk_drew ?_ | refine blk_alloc ?_ _)); exact BK289.out) hb); have n2_ := Aside0.mk (below_step (by repeat (first | (with_reducible first | exact HB.out | apply below_alloc | apply pw_below_drewN | apply below_drew1 | refine below_set ?_ GE289.out) | exact HB.out)) hb); clear BK289; clear HB; have HO294 := n0_; have BK289 := n1_; have HB := n2_; clear n0_ n1_ n2_; (try clear hb); (try clear hb2); (try clear hk); (try clear hi); (try clear ho0); have hcz44_0 : w43.cell? ⟨gb289, 0, none⟩ = some (.int .i64 0) := (blk_cell BK289.out 0).trans rfl; have hcz44_1 : w43.cell? ⟨gb289, 1, none⟩ = some (.slice none 0 0) := (blk_cell BK289.out 1).trans rfl; have hcz44_2 : w43.cell? ⟨gb289, 2, none⟩ = some (.string (⟨#[]⟩ : ByteArray)) := (blk_cell BK289.out 2).trans rfl; have hfz44_0 := blk_frozen BK289.out 0; have hfz44_1 := blk_frozen BK289.out 1; have hfz44_2 := blk_frozen BK289.out 2)))
  refine bodyPost_ret (results_ctt rfl _ _ gb289 33 #[.int .i64 0, .slice none 0 0, .string (⟨#[]⟩ : ByteArray)] (0, 0) _ rfl (by (with_reducible repeat (first | refine blk_drewN ?_ _ | refine blk_drew ?_ | refine blk_alloc ?_ _)); refine blk_put (cs := #[.int .i64 0, .slice none 0 0, .string (⟨#[]⟩ : ByteArray)]) ?_ 2 _ rfl; (with_reducible repeat (first | refine blk_drewN ?_ _ | refine blk_drew ?_ | refine blk_alloc ?_ _)); refine blk_put (cs := #[.int .i64 0, .slice none 0 0, .string (⟨#[]⟩ : ByteArray)]) ?_ 1 _ rfl; (with_reducible repeat (first | refine blk_drewN ?_ _ | refine blk_drew ?_ | refine blk_alloc ?_ _)); refine blk_put (cs := #[.int .i64 0, .slice none 0 0, .string (⟨#[]⟩ : ByteArray)]) ?_ 0 _ rfl; (with_reducible repeat (first | refine blk_drewN ?_ _ | refine blk_drew ?_ | refine blk_alloc ?_ _)); exact BK289.out) Tryz.underlying33 rfl (by kernel_rfl)) rfl ?_
  exact ⟨_, by first | rfl | (simp [errW_none, errW_some] <;> rfl) | (simp [*, errW_none, errW_some] <;> rfl), by first | exact Kd.R_nil _ _ _ _ _ | exact Kd.N_nil _ _ _ _ _ | exact Kd.V_nil _ _ _ _ _ | exact Kd.Q_nil _ _ _ _ _ | exact Kd.S_nil _ _ _ _ _, by repeat (first | (with_reducible first | exact HB.out | apply below_alloc | apply pw_below_drewN | apply below_drew1 | refine below_set ?_ GE289.out) | exact HB.out)⟩

end Go.Proofs.YtipfekjmcddelaaGreatDoor.XHttpReads
