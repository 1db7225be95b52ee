-- written by wip/xprint.py: the kit's print with functions walked by hand
import Derived.Test.YtpedfpeokedelaaDoorXHttpFieldsx0
import Derived.Test.YtpedfpeokedelaaDoorXHttpFieldsx1
import Derived.Test.YtpedfpeokedelaaDoorXHttpFieldsx2
import Derived.Test.YtpedfpeokedelaaDoorXHttpFieldsx4
import Derived.Test.YtpedfpeokedelaaDoorXHttpFieldsx5
namespace Go.Proofs.YtpedfpeokedelaaDoor.XHttpFields
open Go.RowKit Go.Proofs.YtpedfpeokedelaaDoorW.PrintWords Go.Proofs.YtpedfpeokedelaaDoorW.PrintLast Go.Proofs.YtpedfpeokedelaaDoorW.PrintMore
attribute [local go_sem] max2_int min2_int max_two min_two max_three min_three max_four min_four   -- for this text's walks alone
set_option linter.unusedVariables false
set_option linter.unusedSimpArgs false

attribute [local go_sem high] eqA74
set_option hygiene false in
local macro "zda" : tactic => `(tactic| (with_reducible repeat (first | refine blk_drewN ?_ _ | refine blk_drew ?_ | refine blk_alloc ?_ _)))
set_option hygiene false in
local macro "zra" : tactic => `(tactic| (with_reducible repeat (first | apply Kd.R_alloc | apply Kd.R_drewN | apply Kd.R_drew)))
set_option hygiene false in
local macro "zq0" : tactic => `(tactic| exact ⟨by first | rfl | (simp [errW_none, errW_some] <;> rfl) | (simp [*, errW_none, errW_some] <;> rfl), by repeat (first | (with_reducible first | exact HB.out | apply below_alloc | apply pw_below_drewN | apply below_drew1 | refine below_set ?_ GE172.out) | exact HB.out)⟩)
set_option hygiene false in
local macro "zq1" : tactic => `(tactic| replace H := Option.bind_eq_some_iff.mp H)
set_option hygiene false in
local macro "zq2" : tactic => `(tactic| simp only [Act.put, List.setIfInBounds_toArray, List.set_cons_zero, List.set_cons_succ, i64_w, i32_w])
set_option hygiene false in
local macro "zq3" : tactic => `(tactic| (case side1 => exact LaidM.below HT.out (by repeat (first | (with_reducible first | exact HB.out | apply below_alloc | apply pw_below_drewN | apply below_drew1 | refine below_set ?_ GE172.out) | exact HB.out))))
set_option hygiene false in
local macro "zq4" : tactic => `(tactic| have n0_ := Aside0.mk (blk_below (g := gb172) (o := .cells #[.int .i64 a0_0, .slice A0_1 l0_1.length c0_1, .string a0_2] 99 (0, 0)) (by zda; exact BK172.out) hb))
set_option hygiene false in
local macro "zq5" : tactic => `(tactic| have n1_ := Aside0.mk (below_step (by repeat (first | (with_reducible first | exact HB.out | apply below_alloc | apply pw_below_drewN | apply below_drew1 | refine below_set ?_ GE172.out) | exact HB.out)) hb))
set_option hygiene false in
local macro "zq6" : tactic => `(tactic| obtain rfl := Option.some.inj H)
set_option hygiene false in
local macro "zq7" : tactic => `(tactic| exact ⟨by first | rfl | (simp [errW_none, errW_some] <;> rfl) | (simp [*, errW_none, errW_some] <;> rfl), by repeat (first | (with_reducible first | exact HB.out | apply below_alloc | apply pw_below_drewN | apply below_drew1 | refine below_set ?_ GE185.out | refine below_set ?_ GE194.out) | exact HB.out)⟩)
set_option hygiene false in
local macro "zq8" : tactic => `(tactic| exact ⟨by first | rfl | (simp [errW_none, errW_some] <;> rfl) | (simp [*, errW_none, errW_some] <;> rfl), by repeat (first | (with_reducible first | exact HB.out | apply below_alloc | apply pw_below_drewN | apply below_drew1 | refine below_set ?_ GE197.out) | exact HB.out)⟩)
set_option hygiene false in
local macro "zq9" : tactic => `(tactic| exact ⟨by first | rfl | (simp; done) | (simp [*]; done), by repeat (first | exact Drawn0.refl _ | apply Drawn0.step)⟩)
set_option hygiene false in
local macro "zt0" : term => `((⟨#[71, 69, 84, 32, 47, 97, 47, 32, 72, 84, 84, 80, 47, 49, 46, 49, 13, 10, 68, 101, 112, 116, 104, 58, 32, 49, 13, 10, 13]⟩ : ByteArray))
set_option hygiene false in
local macro "zt1" : term => `((⟨#[71, 69, 84, 32, 47, 97, 47, 32, 72, 84, 84, 80, 47, 49, 46, 49, 13, 10, 68, 101, 112, 116, 104, 58, 32, 49, 13, 10, 13, 10]⟩ : ByteArray))
set_option hygiene false in
local macro "zt7" : term => `((((a0_0 ++ (⟨#[32]⟩ : ByteArray)) ++ a0_1) ++ (⟨#[32]⟩ : ByteArray)))
set_option hygiene false in
local macro "zt2" : term => `((if a0_0.size + 1 ≤ 9223372036854775807 then (if (a0_0 ++ (⟨#[32]⟩ : ByteArray)).size + a0_1.size ≤ 9223372036854775807 then (if ((a0_0 ++ (⟨#[32]⟩ : ByteArray)) ++ a0_1).size + 1 ≤ 9223372036854775807 then (if (zt7).size + 8 ≤ 9223372036854775807 then ((http_printed.f k (zt7 ++ (⟨#[72, 84, 84, 80, 47, 49, 46, 49]⟩ : ByteArray)) l0_2 a0_3).bind fun bt199 => (some (bt199.1, bt199.2))) else (none)) else (none)) else (none)) else (none)))
set_option hygiene false in
local macro "zt3" : term => `((((⟨#[72, 84, 84, 80, 47, 49, 46, 49, 32]⟩ : ByteArray) ++ t173) ++ (⟨#[32]⟩ : ByteArray)))
set_option hygiene false in
local macro "zt4" : term => `((if bt195.2 = 0 then (some (bt195.1.toList == ([72, 84, 84, 80, 47, 49, 46, 49, 32, 50, 48, 52, 32, 78, 111, 32, 67, 111, 110, 116, 101, 110, 116, 13, 10, 67, 111, 110, 116, 101, 110, 116, 45, 76, 101, 110, 103, 116, 104, 58, 32, 48, 13, 10, 13, 10] : List UInt8))) else (some false)))
set_option hygiene false in
local macro "zt5" : term => `(((http_ParseRequest.f k zt0).bind fun bt186 => ((http_PrintResponse.f k 204 ([] : List (S74)) (⟨#[]⟩ : ByteArray)).bind fun bt195 => (if bt177.1.toList = ([71, 69, 84] : List UInt8) then (if bt177.2.1.toList = ([47, 97, 47] : List UInt8) then (if (bt177.2.2.1.length : Int) = 1 then (if bt177.2.2.2.2.1 = 30 then (if bt177.2.2.2.2.2 = 0 then (if bt186.2.2.2.2.2 = 91 then zt4 else (some false)) else (some false)) else (some false)) else (some false)) else (some false)) else (some false)))))
set_option hygiene false in
local macro "zt6" : term => `((if 9 + t173.size ≤ 9223372036854775807 then (if ((⟨#[72, 84, 84, 80, 47, 49, 46, 49, 32]⟩ : ByteArray) ++ t173).size + 1 ≤ 9223372036854775807 then ((http_Reason.f a0_0).bind fun t174 => (if (zt3).size + t174.size ≤ 9223372036854775807 then ((http_printed.f kj1 (zt3 ++ t174) l0_1 a0_2).bind fun bt175 => (some (bt175.1, bt175.2))) else (none))) else (none)) else (none)))
set_option hygiene false in
local macro "zf0" : tactic => `(tactic| ((with_reducible refine gate_callee (f := 48) rfl ?_); refine goesL_ (some 10) rfl rfl Tryd.func48 (by kernel_rfl) rfl #[.string zt1] rfl (by (try simp only [List.map_toArray, List.map_cons, List.map_nil]); first | done | rfl | (simp only [List.length_drop, List.length_take]; rfl)) ?_; (with_reducible refine (http_ParseRequest.calls k zt1 t177 t178 t179 t182 t183 t184 _ ?side1 A1.out).mono ?_); (case side1 => exact LaidM.below HT.out (by repeat (first | (with_reducible first | exact HB.out | apply below_alloc | apply pw_below_drewN | apply below_drew1) | exact HB.out))); rintro e wz0 ⟨v180, rfl, ho0, hb⟩; refine ⟨_, rfl, ?_⟩; have n0_ := Aside0.mk (Kd.R_lower ho0 (below_size (by repeat (first | (with_reducible first | exact HB.out | apply below_alloc | apply pw_below_drewN | apply below_drew1) | exact HB.out)))); have n1_ := Aside0.mk (below_step (by repeat (first | (with_reducible first | exact HB.out | apply below_alloc | apply pw_below_drewN | apply below_drew1) | exact HB.out)) hb); clear HB; have HO181 := n0_; have HB := n1_; clear n0_ n1_; (try clear hb); (try clear hb2); (try clear hk); (try clear hi); (try clear ho0)))
set_option hygiene false in
local macro "zf1" : tactic => `(tactic| ((with_reducible refine gate_callee (f := 48) rfl ?_); refine goesL_ (some 15) rfl rfl Tryd.func48 (by kernel_rfl) rfl #[.string zt0] rfl (by (try simp only [List.map_toArray, List.map_cons, List.map_nil]); first | done | rfl | (simp only [List.length_drop, List.length_take]; rfl)) ?_; (with_reducible refine (http_ParseRequest.calls k zt0 t186 t187 t188 t191 t192 t193 _ ?side1 A2.out).mono ?_); (case side1 => exact LaidM.below HT.out (by repeat (first | (with_reducible first | exact HB.out | apply below_alloc | apply pw_below_drewN | apply below_drew1 | refine below_set ?_ GE185.out) | exact HB.out))); rintro e wz2 ⟨v189, rfl, ho0, hb⟩; refine ⟨_, rfl, ?_⟩; have n0_ := Aside0.mk (Kd.R_elder' (by zra; exact (Kd.R_mono (Kd.R_far (p := ⟨gb185, 3, none⟩) (Kd.R_far (p := ⟨gb185, 2, none⟩) (Kd.R_far (p := ⟨gb185, 1, none⟩) (Kd.R_far (p := ⟨gb185, 0, none⟩) (Kd.R_types HO181.out BK185.out (by decide)) (fun _ hk => hk.2) (.string t177)) (fun _ hk => hk.2) (.string t178)) (fun _ hk => hk.2) (.slice Aoz0 t179.length coz0)) (fun _ hk => hk.2) (.string t182)) (fun _ h_ => h_.1))) (Kd.R_base ho0) hb); have n1_ := Aside0.mk (Kd.R_lower (Kd.R_new' ho0 (Kd.R_lt (by zra; exact (Kd.R_mono (Kd.R_far (p := ⟨gb185, 3, none⟩) (Kd.R_far (p := ⟨gb185, 2, none⟩) (Kd.R_far (p := ⟨gb185, 1, none⟩) (Kd.R_far (p := ⟨gb185, 0, none⟩) (Kd.R_types HO181.out BK185.out (by decide)) (fun _ hk => hk.2) (.string t177)) (fun _ hk => hk.2) (.string t178)) (fun _ hk => hk.2) (.slice Aoz0 t179.length coz0)) (fun _ hk => hk.2) (.string t182)) (fun _ h_ => h_.1))))) (below_size (by repeat (first | (with_reducible first | exact HB.out | apply below_alloc | apply pw_below_drewN | apply below_drew1 | refine below_set ?_ GE185.out) | exact HB.out)))); have n2_ := Aside0.mk (blk_below (g := gb185) (o := .cells #[.string t177, .string t178, .slice Aoz0 t179.length coz0, .string t182] 65 (0, 0)) (by zda; refine blk_put (cs := #[.string t177, .string t178, .slice Aoz0 t179.length coz0, .string (⟨#[]⟩ : ByteArray)]) ?_ 3 _ rfl; zda; refine blk_put (cs := #[.string t177, .string t178, .slice none 0 0, .string (⟨#[]⟩ : ByteArray)]) ?_ 2 _ rfl; zda; refine blk_put (cs := #[.string t177, .string (⟨#[]⟩ : ByteArray), .slice none 0 0, .string (⟨#[]⟩ : ByteArray)]) ?_ 1 _ rfl; zda; refine blk_put (cs := #[.string (⟨#[]⟩ : ByteArray), .string (⟨#[]⟩ : ByteArray), .slice none 0 0, .string (⟨#[]⟩ : ByteArray)]) ?_ 0 _ rfl; zda; exact BK185.out) hb); have n3_ := Aside0.mk (below_step (by repeat (first | (with_reducible first | exact HB.out | apply below_alloc | apply pw_below_drewN | apply below_drew1 | refine below_set ?_ GE185.out) | exact HB.out)) hb); clear HO181; clear BK185; clear HB; have HO181 := n0_; have HO190 := n1_; have BK185 := n2_; have HB := n3_; clear n0_ n1_ n2_ n3_; (try clear hb); (try clear hb2); (try clear hk); (try clear hi); (try clear ho0)))
/-! ### http_Reason: function 88 -/
def http_Reason.f (n : Int) : Option ByteArray := if (Lit.int .i64 n).wf = true then some (reasonV n) else none
theorem http_Reason.calls (n : Int) (r : ByteArray) (w : World) (hT : LaidM w) (h : http_Reason.f n = some r) :
  Calls Tryd.prog 88 #[.int .i64 n] w fun e w' => e = .returned (.string r) ∧ Below w.heap.size w w' := by
 unfold http_Reason.f at h
 split at h
 ·rename_i hc
  injection h with h
  subst h
  exact reason_any n hc w
 ·cases h

/-! ### http_PrintResponse: function 67 -/
def http_PrintResponse.j0 : Nat → Bool → Int → List (S74) → ByteArray → Option (ByteArray × Int)
 | 0, _, _, _, _ => none
 | k + 1, x11, x173000, x173001, x173002 => if x11 = true then (some ((⟨#[]⟩ : ByteArray), 80)) else ((char_Decimal.f (IntKind.u64.wrap (x173000))).bind fun t173 => (if 9 + t173.size ≤ 9223372036854775807 then (if ((⟨#[72, 84, 84, 80, 47, 49, 46, 49, 32]⟩ : ByteArray) ++ t173).size + 1 ≤ 9223372036854775807 then ((http_Reason.f x173000).bind fun t174 => (if (zt3).size + t174.size ≤ 9223372036854775807 then ((http_printed.f k (zt3 ++ t174) x173001 x173002).bind fun bt175 => (some (bt175.1, bt175.2))) else (none))) else (none)) else (none)))
def http_PrintResponse.f (k : Nat) (a0_0 : Int) (l0_1 : List (S74)) (a0_2 : ByteArray) : Option (ByteArray × Int) := if a0_0 < 100 then (http_PrintResponse.j0 k true a0_0 l0_1 a0_2) else (http_PrintResponse.j0 k (decide (a0_0 > 599)) a0_0 l0_1 a0_2)
theorem http_PrintResponse.mono_l : ∀ k, (∀ y0 y1 y2 y3, LeO (http_PrintResponse.j0 k y0 y1 y2 y3) (http_PrintResponse.j0 (k + 1) y0 y1 y2 y3))
 | 0 => fun _ _ _ _ r h => by simp [http_PrintResponse.j0] at h
 | k + 1 => by
  have ih0 := http_PrintResponse.mono_l k
  ·intro y0 y1 y2 y3
   unfold http_PrintResponse.j0
   repeat' first
   | (with_reducible exact ih0 _ _ _ _)
   | (with_reducible exact http_printed.mono _ _ _ _)
   | (with_reducible exact LeO.refl _)
   | (with_reducible exact LeO.none _)
   | (with_reducible refine LeO.ite ?_ ?_)
   | (with_reducible refine LeO.bind ?_ (fun _ => ?_))
   | exact ih0 _ _ _ _
   | exact http_printed.mono _ _ _ _
   | exact LeO.none _
   | refine LeO.ite ?_ ?_
   | refine LeO.bind ?_ (fun _ => ?_)
theorem http_PrintResponse.mono : ∀ a0 a1 a2 k, LeO (http_PrintResponse.f k a0 a1 a2) (http_PrintResponse.f (k + 1) a0 a1 a2) := by
 intro a0 a1 a2 k
 have ih0 := http_PrintResponse.mono_l k
 unfold http_PrintResponse.f
 repeat' first
   | (with_reducible exact ih0 _ _ _ _)
   | (with_reducible exact http_printed.mono _ _ _ _)
   | (with_reducible exact LeO.refl _)
   | (with_reducible exact LeO.none _)
   | (with_reducible refine LeO.ite ?_ ?_)
   | (with_reducible refine LeO.bind ?_ (fun _ => ?_))
   | exact ih0 _ _ _ _
   | exact http_printed.mono _ _ _ _
   | exact LeO.none _
   | refine LeO.ite ?_ ?_
   | refine LeO.bind ?_ (fun _ => ?_)
def http_PrintResponse.T3 : Bool × List (List Nat × List Nat) := (true, [([], []), ([0], [0]), ([1], [1]), ([2], [2]), ([3], [3]), ([4], [4]), ([], []), ([6], [6]), ([7, 3], [7]), ([5, 8], [5, 8]), ([], []), ([10], [10]), ([], []), ([12], [12]), ([9, 11, 13], [9, 11, 13]), ([14, 8], [14]), ([15], [15]), ([15], [15]), ([16, 15, 0, 1, 2, 3, 4, 5, 6, 7, 8, 9, 10, 11, 12, 13, 14, 15, 16, 17], [16]), ([17, 18, 0, 1, 2, 3, 4, 5, 6, 7, 8, 9, 10, 11, 12, 13, 14, 15, 16, 17, 18], [17])])
def http_PrintResponse.B3 : List Nat := [0, 1, 3, 7, 15, 31, 0, 64, 207, 511, 0, 1024, 0, 4096, 16383, 32767, 65535, 65535, 262143, 524287]
theorem http_PrintResponse.tab3 : rtab .any (opsOf Tryd.f67 3) = http_PrintResponse.T3 := by kernel_rfl
theorem http_PrintResponse.bits3 : waitsOk http_PrintResponse.T3.2 http_PrintResponse.B3 = true := by kernel_rfl
set_option maxHeartbeats 8000000 in
set_option maxRecDepth 100000 in
theorem http_PrintResponse.calls (k : Nat) (a0_0 : Int) (A0_1 : Option Addr) (c0_1 : Nat) (l0_1 : List (S74)) (a0_2 : ByteArray) (r1 : ByteArray) (r2 : Int) (w : World) (hr0_1 : Kd.C k74 w A0_1 l0_1.length l0_1) (hc0_1 : l0_1.length ≤ c0_1) (hT : LaidM w) (h : http_PrintResponse.f k a0_0 l0_1 a0_2 = some (r1, r2)) :
  Calls Tryd.prog 67 #[.agg #[.int .i64 a0_0, .slice A0_1 l0_1.length c0_1, .string a0_2]] w fun e w' => e = .returned (.tuple #[.string r1, .int .i64 r2]) ∧ Below w.heap.size w w' := by
 have hu99 := Tryd.underlying99
 have hu101 := Tryd.underlying101
 have HR0_1 := Aside0.mk hr0_1
 have HC0_1 := Aside0.mk hc0_1
 clear hr0_1 hc0_1
 have HB := Aside0.mk (Below.refl w.heap.size w)
 have HT := Aside0.mk hT
 clear hT
 have H : (if a0_0 < 100 then (http_PrintResponse.j0 k true a0_0 l0_1 a0_2) else (http_PrintResponse.j0 k (decide (a0_0 > 599)) a0_0 l0_1 a0_2)) = some (r1, r2) := h
 clear h
 have HC2 := Aside0.mk H
 clear H
 go_enter Tryd.func67, Tryd.ntmps67
 go_upto_region 1 with (first | ((with_reducible refine gate_dst (N := 1) rfl ?_); refine box_event ?hg (N := 1) ?hd (cs := #[.int .i64 a0_0, .slice A0_1 l0_1.length c0_1, .string a0_2]) (t := 99) ?hr ?_; (case hd => rfl); (case hg => rfl); (case hr => first | (go_simp; done) | (go_simp; rfl)); intro gb172 hg w3 hbox hb; have n0_ := Aside0.mk (below_step (by repeat (first | (with_reducible first | exact HB.out | apply below_alloc | apply pw_below_drewN | apply below_drew1) | exact HB.out)) hb); have n1_ := Aside0.mk (hbox); have n2_ := Aside0.mk ((by rw [hg]; exact (below_size (by repeat (first | (with_reducible first | exact HB.out | apply below_alloc | apply pw_below_drewN | apply below_drew1) | exact HB.out))) : w.heap.size ≤ gb172)); have n3_ := Aside0.mk ((by rw [hg]; exact (below_size (by repeat (first | (with_reducible first | exact HB.out | apply below_alloc | apply pw_below_drewN | apply below_drew1) | exact HB.out))) : w.heap.size ≤ gb172)); clear HB; have HB := n0_; have BK172 := n1_; have GW172 := n2_; have GE172 := n3_; clear n0_ n1_ n2_ n3_; clear hb hbox hg))
 (try simp only [Act.put, List.setIfInBounds_toArray, List.set_cons_zero, List.set_cons_succ])
 go_cut [11] (fun v11 wc => ∃ (kq : Nat) (x11_1 : Bool), v11 = .bool x11_1 ∧ Aside0 (http_PrintResponse.j0 kq x11_1 a0_0 l0_1 a0_2 = some (r1, r2)) ∧ Aside0 (kq ≤ k) ∧ Aside0 (wc.heap[gb172]? = some (.cells #[.int .i64 a0_0, (.slice A0_1 l0_1.length c0_1), .string a0_2] 99 (0, 0))) ∧ Aside0 (Below w.heap.size w wc))
 case first =>
  have H := HC2.out
  clear HC2
  by_cases c4 : a0_0 < 100
  ·rw [if_pos c4] at H
   have c4b0 : decide (a0_0 < 100) = true := decide_eq_true c4
   clear c4
   (first | rw [c4b0] | (simp only [i64_w, i32_w]; rw [c4b0]) | skip)
   have H' := Aside0.mk H
   clear H
   have hcz5_0 : w3.cell? ⟨gb172, 0, none⟩ = some (.int .i64 a0_0) := (blk_cell BK172.out 0).trans rfl
   have hcz5_1 : w3.cell? ⟨gb172, 1, none⟩ = some (.slice A0_1 l0_1.length c0_1) := (blk_cell BK172.out 1).trans rfl
   have hcz5_2 : w3.cell? ⟨gb172, 2, none⟩ = some (.string a0_2) := (blk_cell BK172.out 2).trans rfl
   have hfz5_0 := blk_frozen BK172.out 0
   have hfz5_1 := blk_frozen BK172.out 1
   have hfz5_2 := blk_frozen BK172.out 2
   go_wp2
   go_meet
   case rel => exact ⟨_, (true), (by first | rfl | (simp; done) | (simp [*]; done)), H', ⟨by first | omega | exact Nat.le_refl _⟩, ⟨by zda; exact BK172.out⟩, ⟨by repeat (first | (with_reducible first | exact HB.out | apply below_alloc | apply pw_below_drewN | apply below_drew1 | refine below_set ?_ GE172.out) | exact HB.out)⟩⟩
  ·rw [if_neg c4] at H
   have c4b0 : decide (a0_0 < 100) = false := decide_eq_false c4
   clear c4
   (first | rw [c4b0] | (simp only [i64_w, i32_w]; rw [c4b0]) | skip)
   have H' := Aside0.mk H
   clear H
   have hcz6_0 : w3.cell? ⟨gb172, 0, none⟩ = some (.int .i64 a0_0) := (blk_cell BK172.out 0).trans rfl
   have hcz6_1 : w3.cell? ⟨gb172, 1, none⟩ = some (.slice A0_1 l0_1.length c0_1) := (blk_cell BK172.out 1).trans rfl
   have hcz6_2 : w3.cell? ⟨gb172, 2, none⟩ = some (.string a0_2) := (blk_cell BK172.out 2).trans rfl
   have hfz6_0 := blk_frozen BK172.out 0
   have hfz6_1 := blk_frozen BK172.out 1
   have hfz6_2 := blk_frozen BK172.out 2
   go_wp2
   go_meet
   case rel => exact ⟨_, (decide (a0_0 > 599)), (by first | rfl | (simp; done) | (simp [*]; done)), H', ⟨by first | omega | exact Nat.le_refl _⟩, ⟨by zda; exact BK172.out⟩, ⟨by repeat (first | (with_reducible first | exact HB.out | apply below_alloc | apply pw_below_drewN | apply below_drew1 | refine below_set ?_ GE172.out) | exact HB.out)⟩⟩
 case rest =>
  clear HC2
  try clear p2
  try clear c4
  try clear c4b0
  try clear c6
  try clear hcz5_0
  try clear hcz5_1
  try clear hcz5_2
  try clear hcz6_0
  try clear hcz6_1
  try clear hcz6_2
  try clear hfz5_0
  try clear hfz5_1
  try clear hfz5_2
  try clear hfz6_0
  try clear hfz6_1
  try clear hfz6_2
  obtain ⟨kq, x11_1, rfl, HA, HJ1, BK172, HB⟩ := hcut
  cases kq with
  | zero => exact absurd HA.out (by simp [http_PrintResponse.j0])
  | succ kj1 =>
   have H := HA.out
   clear HA
   simp only [http_PrintResponse.j0] at H
   by_cases c7 : x11_1 = true
   ·subst c7
    have H1 : (some ((⟨#[]⟩ : ByteArray), 80)) = some (r1, r2) := by rw [if_pos rfl] at H; exact H
    clear H
    have H := H1
    clear H1
    simp only [Option.some.injEq, Prod.mk.injEq] at H
    obtain ⟨rfl, rfl⟩ := H
    go_wp2
    go_ret2
    zq0
   ·replace c7 := Bool.eq_false_iff.mpr c7
    subst c7
    have H1 : ((char_Decimal.f (IntKind.u64.wrap (a0_0))).bind fun t173 => zt6) = some (r1, r2) := by rw [if_neg (show ¬ (false = true) by decide)] at H; exact H
    clear H
    have H := H1
    clear H1
    zq1
    obtain ⟨t173, A80, H⟩ := H
    replace H : zt6 = some (r1, r2) := H
    have A8 := Aside0.mk A80
    clear A80
    by_cases c9 : 9 + t173.size ≤ 9223372036854775807
    ·rw [if_pos c9] at H
     have c9b0 := eq_true c9
     have c9b1 : decide (9 + t173.size ≤ 9223372036854775807) = true := decide_eq_true c9
     try have c9b2 : (9223372036854775807 < 9 + t173.size) = False := eq_false (Nat.not_lt.2 c9)
     by_cases c10 : ((⟨#[72, 84, 84, 80, 47, 49, 46, 49, 32]⟩ : ByteArray) ++ t173).size + 1 ≤ 9223372036854775807
     ·rw [if_pos c10] at H
      have c10b0 := eq_true c10
      have c10b1 : decide (((⟨#[72, 84, 84, 80, 47, 49, 46, 49, 32]⟩ : ByteArray) ++ t173).size + 1 ≤ 9223372036854775807) = true := decide_eq_true c10
      try have c10b2 : (9223372036854775807 < ((⟨#[72, 84, 84, 80, 47, 49, 46, 49, 32]⟩ : ByteArray) ++ t173).size + 1) = False := eq_false (Nat.not_lt.2 c10)
      have c10b8 : (9223372036854775807 < 9 + t173.size + 1) = False := by have h_ := c10; simp only [ByteArray.size_append] at h_; exact eq_false (Nat.not_lt.2 h_)
      zq1
      obtain ⟨t174, A110, H⟩ := H
      replace H : (if (zt3).size + t174.size ≤ 9223372036854775807 then ((http_printed.f kj1 (zt3 ++ t174) l0_1 a0_2).bind fun bt175 => (some (bt175.1, bt175.2))) else (none)) = some (r1, r2) := H
      have A11 := Aside0.mk A110
      clear A110
      by_cases c12 : (zt3).size + t174.size ≤ 9223372036854775807
      ·rw [if_pos c12] at H
       have c12b0 := eq_true c12
       have c12b1 : decide ((zt3).size + t174.size ≤ 9223372036854775807) = true := decide_eq_true c12
       try have c12b2 : (9223372036854775807 < (zt3).size + t174.size) = False := eq_false (Nat.not_lt.2 c12)
       have c12b8 : (9223372036854775807 < 9 + t173.size + 1 + t174.size) = False := by have h_ := c12; simp only [ByteArray.size_append] at h_; exact eq_false (Nat.not_lt.2 h_)
       zq1
       obtain ⟨⟨t175, t176⟩, A130, H⟩ := H
       replace H : (some (t175, t176)) = some (r1, r2) := H
       have A13 := Aside0.mk A130
       clear A130
       simp only [Option.some.injEq, Prod.mk.injEq] at H
       obtain ⟨rfl, rfl⟩ := H
       try go_wp2
       have n0_ := Aside0.mk (blk_drew BK172.out)
       have n1_ := Aside0.mk (below_drew1 HB.out)
       clear BK172
       clear HB
       have BK172 := n0_
       have HB := n1_
       clear n0_ n1_
       refine start_ (n := 20) (S := fun w' => w'.cell? ⟨gb172, 0, none⟩ = some (.int .i64 a0_0) ∧ w'.cell? ⟨gb172, 1, none⟩ = some (.slice A0_1 l0_1.length c0_1) ∧ w'.cell? ⟨gb172, 2, none⟩ = some (.string a0_2)) (ds := []) #[false, false, false, false, false, false, false, false, false, false, false, false, false, false, false, false, false, false, false, false] (by kernel_rfl) rfl rfl ⟨(blk_cell BK172.out 0).trans rfl, (blk_cell BK172.out 1).trans rfl, (blk_cell BK172.out 2).trans rfl⟩ (fun hHeld => ?_); refine with_tabW http_PrintResponse.tab3 http_PrintResponse.bits3 (fun HT_ HW_ => ?_)
       generalize wc.drew = w14 at BK172 HB hHeld ⊢
       refine pure_ (i := 0) (N := some 12) (v := ?_) (a' := ?_) #[true, false, false, false, false, false, false, false, false, false, false, false, false, false, false, false, false, false, false, false] rfl rfl (any_of HT_.out (by kernel_rfl)) (fun _ _ _ h => h) (Or.inl ⟨by rfl, ?_⟩) ?_ ?_
       rotate_left
       ·intro w'
        go_simp
        with_reducible rfl
       rotate_left
       ·zq2
        rfl
       refine pure_ (i := 6) (N := some 18) (v := ?_) (a' := ?_) #[true, false, false, false, false, false, true, false, false, false, false, false, false, false, false, false, false, false, false, false] rfl rfl (any_of HT_.out (by kernel_rfl)) (fun _ _ _ h => h) (Or.inl ⟨by rfl, ?_⟩) ?_ ?_
       rotate_left
       ·intro w'
        go_simp
        with_reducible rfl
       rotate_left
       ·zq2
        rfl
       refine pure_ (i := 10) (N := some 22) (v := ?_) (a' := ?_) #[true, false, false, false, false, false, true, false, false, false, true, false, false, false, false, false, false, false, false, false] rfl rfl (any_of HT_.out (by kernel_rfl)) (fun _ _ _ h => h) (Or.inl ⟨by rfl, ?_⟩) ?_ ?_
       rotate_left
       ·intro w'
        go_simp
        with_reducible rfl
       rotate_left
       ·zq2
        rfl
       refine pure_ (i := 12) (N := some 24) (v := ?_) (a' := ?_) #[true, false, false, false, false, false, true, false, false, false, true, false, true, false, false, false, false, false, false, false] rfl rfl (any_of HT_.out (by kernel_rfl)) (fun _ _ _ h => h) (Or.inl ⟨by rfl, ?_⟩) ?_ ?_
       rotate_left
       ·intro w'
        go_simp
        with_reducible rfl
       rotate_left
       ·zq2
        rfl
       refine take_ (i := 1) (N := some 13) (v := ?_) (a' := ?_) #[true, true, false, false, false, false, true, false, false, false, true, false, true, false, false, false, false, false, false, false] rfl rfl (take_ofW HT_.out HW_.out (by kernel_rfl)) (fun _ _ _ h => h) (Or.inl ⟨by rfl, ?_⟩) hHeld ?_ ?_
       rotate_left
       ·rintro w' ⟨s0, s1, s2⟩
        go_simp
        with_reducible rfl
       rotate_left
       ·zq2
        rfl
       refine pure_ (i := 2) (N := some 14) (v := ?_) (a' := ?_) #[true, true, true, false, false, false, true, false, false, false, true, false, true, false, false, false, false, false, false, false] rfl rfl (any_of HT_.out (by kernel_rfl)) (fun _ _ _ h => h) (Or.inl ⟨by rfl, ?_⟩) ?_ ?_
       rotate_left
       ·intro w'
        go_simp
        with_reducible rfl
       rotate_left
       ·zq2
        rfl
       refine take_ (i := 7) (N := some 19) (v := ?_) (a' := ?_) #[true, true, true, false, false, false, true, true, false, false, true, false, true, false, false, false, false, false, false, false] rfl rfl (take_ofW HT_.out HW_.out (by kernel_rfl)) (fun _ _ _ h => h) (Or.inl ⟨by rfl, ?_⟩) hHeld ?_ ?_
       rotate_left
       ·rintro w' ⟨s0, s1, s2⟩
        go_simp
        with_reducible rfl
       rotate_left
       ·zq2
        rfl
       refine take_ (i := 11) (N := some 23) (v := ?_) (a' := ?_) #[true, true, true, false, false, false, true, true, false, false, true, true, true, false, false, false, false, false, false, false] rfl rfl (take_ofW HT_.out HW_.out (by kernel_rfl)) (fun _ _ _ h => h) (Or.inl ⟨by rfl, ?_⟩) hHeld ?_ ?_
       rotate_left
       ·rintro w' ⟨s0, s1, s2⟩
        go_simp
        with_reducible rfl
       rotate_left
       ·zq2
        rfl
       refine take_ (i := 13) (N := some 25) (v := ?_) (a' := ?_) #[true, true, true, false, false, false, true, true, false, false, true, true, true, true, false, false, false, false, false, false] rfl rfl (take_ofW HT_.out HW_.out (by kernel_rfl)) (fun _ _ _ h => h) (Or.inl ⟨by rfl, ?_⟩) hHeld ?_ ?_
       rotate_left
       ·rintro w' ⟨s0, s1, s2⟩
        go_simp
        with_reducible rfl
       rotate_left
       ·zq2
        rfl
       refine one_ (i := 3) (N := some 15) #[true, true, true, true, false, false, true, true, false, false, true, true, true, true, false, false, false, false, false, false] rfl rfl (one_of HT_.out (by kernel_rfl)) (by decide) (fun K hK => ?_)
       refine goes_ Tryd.func30 (by kernel_rfl) rfl #[.int .u64 (IntKind.u64.wrap (a0_0))] (by rfl) rfl rfl (by (try simp only [List.map_toArray, List.map_cons, List.map_nil]); first | done | rfl | (simp only [List.length_drop, List.length_take]; rfl)) ?_
       with_reducible refine (char_Decimal.calls (IntKind.u64.wrap (a0_0)) t173 _ ?side1 A8.out).mono ?_
       zq3
       rintro e w15 ⟨rfl, hb⟩
       refine ⟨_, rfl, ?_⟩
       zq4
       zq5
       clear BK172
       clear HB
       have BK172 := n0_
       have HB := n1_
       clear n0_ n1_
       (try clear hb)
       (try clear hb2)
       (try clear hk)
       (try clear hi)
       refine hK.out _ _ ⟨(blk_cell BK172.out 0).trans rfl, (blk_cell BK172.out 1).trans rfl, (blk_cell BK172.out 2).trans rfl⟩ (fun hHeld => ?_)
       clear hK K
       refine norm_ (a' := ?_) ?_ ?_
       rotate_left
       ·show Act.put _ (some 15) _ = _
        zq2
        rfl
       refine pure_ (i := 4) (N := some 16) (v := ?_) (a' := ?_) #[true, true, true, true, true, false, true, true, false, false, true, true, true, true, false, false, false, false, false, false] rfl rfl (any_of HT_.out (by kernel_rfl)) (fun _ _ _ h => h) (Or.inl ⟨by rfl, ?_⟩) ?_ ?_
       rotate_left
       ·intro w'
        go_simp
        with_reducible rfl
       rotate_left
       ·zq2
        rfl
       refine pure_ (i := 5) (N := some 17) (v := ?_) (a' := ?_) #[true, true, true, true, true, true, true, true, false, false, true, true, true, true, false, false, false, false, false, false] rfl rfl (any_of HT_.out (by kernel_rfl)) (fun _ _ _ h => h) (Or.inl ⟨by rfl, ?_⟩) ?_ ?_
       rotate_left
       ·intro w'
        go_simp
        with_reducible rfl
       rotate_left
       ·zq2
        rfl
       refine one_ (i := 8) (N := some 20) #[true, true, true, true, true, true, true, true, true, false, true, true, true, true, false, false, false, false, false, false] rfl rfl (one_of HT_.out (by kernel_rfl)) (by decide) (fun K hK => ?_)
       refine goes_ Tryd.func88 (by kernel_rfl) rfl #[.int .i64 a0_0] (by rfl) rfl rfl (by (try simp only [List.map_toArray, List.map_cons, List.map_nil]); first | done | rfl | (simp only [List.length_drop, List.length_take]; rfl)) ?_
       with_reducible refine (http_Reason.calls a0_0 t174 _ ?side1 A11.out).mono ?_
       zq3
       rintro e w16 ⟨rfl, hb⟩
       refine ⟨_, rfl, ?_⟩
       zq4
       zq5
       clear BK172
       clear HB
       have BK172 := n0_
       have HB := n1_
       clear n0_ n1_
       (try clear hb)
       (try clear hb2)
       (try clear hk)
       (try clear hi)
       refine hK.out _ _ ⟨(blk_cell BK172.out 0).trans rfl, (blk_cell BK172.out 1).trans rfl, (blk_cell BK172.out 2).trans rfl⟩ (fun hHeld => ?_)
       clear hK K
       refine norm_ (a' := ?_) ?_ ?_
       rotate_left
       ·show Act.put _ (some 20) _ = _
        zq2
        rfl
       refine pure_ (i := 9) (N := some 21) (v := ?_) (a' := ?_) #[true, true, true, true, true, true, true, true, true, true, true, true, true, true, false, false, false, false, false, false] rfl rfl (any_of HT_.out (by kernel_rfl)) (fun _ _ _ h => h) (Or.inl ⟨by rfl, ?_⟩) ?_ ?_
       rotate_left
       ·intro w'
        go_simp
        with_reducible rfl
       rotate_left
       ·zq2
        rfl
       refine pure_ (i := 14) (N := some 26) (v := ?_) (a' := ?_) #[true, true, true, true, true, true, true, true, true, true, true, true, true, true, true, false, false, false, false, false] rfl rfl (any_of HT_.out (by kernel_rfl)) (fun _ _ _ h => h) (Or.inl ⟨by rfl, ?_⟩) ?_ ?_
       rotate_left
       ·intro w'
        go_simp
        with_reducible rfl
       rotate_left
       ·zq2
        rfl
       refine one_ (i := 15) (N := some 27) #[true, true, true, true, true, true, true, true, true, true, true, true, true, true, true, true, false, false, false, false] rfl rfl (one_of HT_.out (by kernel_rfl)) (by decide) (fun K hK => ?_)
       refine goes_ Tryd.func71 (by kernel_rfl) rfl #[.agg #[.string (zt3 ++ t174), .slice A0_1 l0_1.length c0_1, .string a0_2]] (by rfl) rfl rfl (by (try simp only [List.map_toArray, List.map_cons, List.map_nil]); first | done | rfl | (simp only [List.length_drop, List.length_take]; rfl)) ?_
       with_reducible refine (http_printed.calls kj1 (zt3 ++ t174) _ _ l0_1 a0_2 t175 t176 _ ?side1 ?side2 ?side3 A13.out).mono ?_
       (case side1 => repeat (first | exact (Kd.C_below HR0_1.out HB.out) | (with_reducible refine Kd.C_alloc ?_ _) | (with_reducible refine Kd.C_drewN ?_ _) | (with_reducible refine Kd.C_drew ?_)))
       (case side2 => exact HC0_1.out)
       (case side3 => exact LaidM.below HT.out (by repeat (first | (with_reducible first | exact HB.out | apply below_alloc | apply pw_below_drewN | apply below_drew1 | refine below_set ?_ GE172.out) | exact HB.out)))
       rintro e w17 ⟨rfl, hb⟩
       refine ⟨_, rfl, ?_⟩
       zq4
       zq5
       clear BK172
       clear HB
       have BK172 := n0_
       have HB := n1_
       clear n0_ n1_
       (try clear hb)
       (try clear hb2)
       (try clear hk)
       (try clear hi)
       refine hK.out _ _ ⟨(blk_cell BK172.out 0).trans rfl, (blk_cell BK172.out 1).trans rfl, (blk_cell BK172.out 2).trans rfl⟩ (fun hHeld => ?_)
       clear hK K
       refine norm_ (a' := ?_) ?_ ?_
       rotate_left
       ·show Act.put _ (some 27) _ = _
        zq2
        rfl
       refine pure_ (i := 16) (N := some 28) (v := ?_) (a' := ?_) #[true, true, true, true, true, true, true, true, true, true, true, true, true, true, true, true, true, false, false, false] rfl rfl (any_of HT_.out (by kernel_rfl)) (fun _ _ _ h => h) (Or.inl ⟨by rfl, ?_⟩) ?_ ?_
       rotate_left
       ·intro w'
        go_simp
        with_reducible rfl
       rotate_left
       ·zq2
        rfl
       refine pure_ (i := 17) (N := some 29) (v := ?_) (a' := ?_) #[true, true, true, true, true, true, true, true, true, true, true, true, true, true, true, true, true, true, false, false] rfl rfl (any_of HT_.out (by kernel_rfl)) (fun _ _ _ h => h) (Or.inl ⟨by rfl, ?_⟩) ?_ ?_
       rotate_left
       ·intro w'
        go_simp
        with_reducible rfl
       rotate_left
       ·zq2
        rfl
       refine pure_ (i := 18) (N := some 2) (v := ?_) (a' := ?_) #[true, true, true, true, true, true, true, true, true, true, true, true, true, true, true, true, true, true, true, false] rfl rfl (any_of HT_.out (by kernel_rfl)) (fun _ _ _ h => h) (Or.inl ⟨by rfl, ?_⟩) ?_ ?_
       rotate_left
       ·intro w'
        go_simp
        with_reducible rfl
       rotate_left
       ·zq2
        rfl
       refine pure_ (i := 19) (N := some 3) (v := ?_) (a' := ?_) #[true, true, true, true, true, true, true, true, true, true, true, true, true, true, true, true, true, true, true, true] rfl rfl (any_of HT_.out (by kernel_rfl)) (fun _ _ _ h => h) (Or.inl ⟨by rfl, ?_⟩) ?_ ?_
       rotate_left
       ·intro w'
        go_simp
        with_reducible rfl
       rotate_left
       ·zq2
        rfl
       refine done_ (done_of HT_.out (by kernel_rfl)) ?_
       try go_wp2
       go_ret2
       zq0
      ·rw [if_neg c12] at H
       exact absurd H (by simp)
     ·rw [if_neg c10] at H
      exact absurd H (by simp)
    ·rw [if_neg c9] at H
     exact absurd H (by simp)

/-! ### calepinlaw08_first: function 47 -/
def calepinlaw08_first.f (k : Nat)  : Option (Bool) := (http_ParseRequest.f k zt1).bind fun bt177 => zt5
theorem calepinlaw08_first.mono : ∀ k, LeO (calepinlaw08_first.f k ) (calepinlaw08_first.f (k + 1) ) := by
 intro  k
 unfold calepinlaw08_first.f
 repeat' first
   | (with_reducible exact http_ParseRequest.mono _ _)
   | (with_reducible exact http_PrintResponse.mono _ _ _ _)
   | (with_reducible exact LeO.refl _)
   | (with_reducible exact LeO.none _)
   | (with_reducible refine LeO.ite ?_ ?_)
   | (with_reducible refine LeO.bind ?_ (fun _ => ?_))
   | exact http_ParseRequest.mono _ _
   | exact http_PrintResponse.mono _ _ _ _
   | exact LeO.none _
   | refine LeO.ite ?_ ?_
   | refine LeO.bind ?_ (fun _ => ?_)
set_option maxHeartbeats 8000000 in
set_option maxRecDepth 100000 in
theorem calepinlaw08_first.calls (k : Nat)  (r : Bool) (w : World) (hT : LaidM w) (h : calepinlaw08_first.f k  = some r) :
  Calls Tryd.prog 47 #[] w fun e w' => e = .returned (.bool r) ∧ Below w.heap.size w w' := by
 have hu65 := Tryd.underlying65
 have hu99 := Tryd.underlying99
 have HB := Aside0.mk (Below.refl w.heap.size w)
 have HT := Aside0.mk hT
 clear hT
 have H : ((http_ParseRequest.f k zt1).bind fun bt177 => zt5) = some r := h
 clear h
 zq1
 obtain ⟨⟨t177, t178, t179, t182, t183, t184⟩, A10, H⟩ := H
 replace H : ((http_ParseRequest.f k zt0).bind fun bt186 => ((http_PrintResponse.f k 204 ([] : List (S74)) (⟨#[]⟩ : ByteArray)).bind fun bt195 => (if t177.toList = ([71, 69, 84] : List UInt8) then (if t178.toList = ([47, 97, 47] : List UInt8) then (if (t179.length : Int) = 1 then (if t183 = 30 then (if t184 = 0 then (if bt186.2.2.2.2.2 = 91 then zt4 else (some false)) else (some false)) else (some false)) else (some false)) else (some false)) else (some false)))) = some r := H
 have A1 := Aside0.mk A10
 clear A10
 zq1
 obtain ⟨⟨t186, t187, t188, t191, t192, t193⟩, A20, H⟩ := H
 replace H : ((http_PrintResponse.f k 204 ([] : List (S74)) (⟨#[]⟩ : ByteArray)).bind fun bt195 => (if t177.toList = ([71, 69, 84] : List UInt8) then (if t178.toList = ([47, 97, 47] : List UInt8) then (if (t179.length : Int) = 1 then (if t183 = 30 then (if t184 = 0 then (if t193 = 91 then zt4 else (some false)) else (some false)) else (some false)) else (some false)) else (some false)) else (some false))) = some r := H
 have A2 := Aside0.mk A20
 clear A20
 zq1
 obtain ⟨⟨t195, t196⟩, A30, H⟩ := H
 replace H : (if t177.toList = ([71, 69, 84] : List UInt8) then (if t178.toList = ([47, 97, 47] : List UInt8) then (if (t179.length : Int) = 1 then (if t183 = 30 then (if t184 = 0 then (if t193 = 91 then (if t196 = 0 then (some (t195.toList == ([72, 84, 84, 80, 47, 49, 46, 49, 32, 50, 48, 52, 32, 78, 111, 32, 67, 111, 110, 116, 101, 110, 116, 13, 10, 67, 111, 110, 116, 101, 110, 116, 45, 76, 101, 110, 103, 116, 104, 58, 32, 48, 13, 10, 13, 10] : List UInt8))) else (some false)) else (some false)) else (some false)) else (some false)) else (some false)) else (some false)) else (some false)) = some r := H
 have A3 := Aside0.mk A30
 clear A30
 by_cases c4 : t177.toList = ([71, 69, 84] : List UInt8)
 ·rw [if_pos c4] at H
  have c4b0 : (t177.toList == ([71, 69, 84] : List UInt8)) = true := beq_iff_eq.mpr c4
  have c4b1 : (t177.toList != ([71, 69, 84] : List UInt8)) = false := bne_eq_false_iff_eq.mpr c4
  clear c4
  by_cases c5 : t178.toList = ([47, 97, 47] : List UInt8)
  ·rw [if_pos c5] at H
   have c5b0 : (t178.toList == ([47, 97, 47] : List UInt8)) = true := beq_iff_eq.mpr c5
   have c5b1 : (t178.toList != ([47, 97, 47] : List UInt8)) = false := bne_eq_false_iff_eq.mpr c5
   clear c5
   by_cases c6 : (t179.length : Int) = 1
   ·rw [if_pos c6] at H
    have c6b0 : ((t179.length : Int) == 1) = true := beq_iff_eq.mpr c6
    have c6b1 : ((t179.length : Int) != 1) = false := bne_eq_false_iff_eq.mpr c6
    clear c6
    by_cases c7 : t183 = 30
    ·rw [if_pos c7] at H
     have c7b0 : (t183 == 30) = true := beq_iff_eq.mpr c7
     have c7b1 : (t183 != 30) = false := bne_eq_false_iff_eq.mpr c7
     clear c7
     by_cases c8 : t184 = 0
     ·rw [if_pos c8] at H
      have c8b0 : (t184 == 0) = true := beq_iff_eq.mpr c8
      have c8b1 : (t184 != 0) = false := bne_eq_false_iff_eq.mpr c8
      clear c8
      by_cases c9 : t193 = 91
      ·rw [if_pos c9] at H
       have c9b0 : (t193 == 91) = true := beq_iff_eq.mpr c9
       have c9b1 : (t193 != 91) = false := bne_eq_false_iff_eq.mpr c9
       clear c9
       by_cases c10 : t196 = 0
       ·rw [if_pos c10] at H
        have c10b0 : (t196 == 0) = true := beq_iff_eq.mpr c10
        have c10b1 : (t196 != 0) = false := bne_eq_false_iff_eq.mpr c10
        clear c10
        zq6
        go_enter Tryd.func47, Tryd.ntmps47
        go_wp2_with (first | ((with_reducible refine gate_callee (f := 48) rfl ?_); refine goesL_ (some 10) rfl rfl Tryd.func48 (by kernel_rfl) rfl #[.string zt1] rfl (by (try simp only [List.map_toArray, List.map_cons, List.map_nil]); first | done | rfl | (simp only [List.length_drop, List.length_take]; rfl)) ?_; (with_reducible refine (http_ParseRequest.calls k zt1 t177 t178 t179 t182 t183 t184 _ ?side1 A1.out).mono ?_); (case side1 => exact LaidM.below HT.out (by repeat (first | (with_reducible first | exact HB.out | apply below_alloc | apply pw_below_drewN | apply below_drew1) | exact HB.out))); rintro e w11 ⟨v180, rfl, ho0, hb⟩; refine ⟨_, rfl, ?_⟩; have n0_ := Aside0.mk (Kd.R_lower ho0 (below_size (by repeat (first | (with_reducible first | exact HB.out | apply below_alloc | apply pw_below_drewN | apply below_drew1) | exact HB.out)))); have n1_ := Aside0.mk (below_step (by repeat (first | (with_reducible first | exact HB.out | apply below_alloc | apply pw_below_drewN | apply below_drew1) | exact HB.out)) hb); clear HB; have HO181 := n0_; have HB := n1_; clear n0_ n1_; (try clear hb); (try clear hb2); (try clear hk); (try clear hi); (try clear ho0)) | ((with_reducible refine gate_dst (N := 1) rfl ?_); (try (refine gate_guard (by rfl) ?_; dsimp only)); refine box_event ?hg (N := 1) ?hd (cs := #[.string (⟨#[]⟩ : ByteArray), .string (⟨#[]⟩ : ByteArray), .slice none 0 0, .string (⟨#[]⟩ : ByteArray)]) (t := 65) ?hr ?_; (case hd => rfl); (case hg => rfl); (case hr => first | (go_simp; done) | (go_simp; rfl)); intro gb185 hg w12 hbox hb; have n0_ := Aside0.mk (Kd.R_below (by zra; exact HO181.out) hb); have n1_ := Aside0.mk (below_step (by repeat (first | (with_reducible first | exact HB.out | apply below_alloc | apply pw_below_drewN | apply below_drew1) | exact HB.out)) hb); have n2_ := Aside0.mk (hbox); have n3_ := Aside0.mk ((by rw [hg]; exact (below_size (by repeat (first | (with_reducible first | exact HB.out | apply below_alloc | apply pw_below_drewN | apply below_drew1) | exact HB.out))) : w.heap.size ≤ gb185)); have n4_ := Aside0.mk ((by rw [hg]; exact (below_size (by repeat (first | (with_reducible first | exact HB.out | apply below_alloc | apply pw_below_drewN | apply below_drew1) | exact HB.out))) : w.heap.size ≤ gb185)); clear HO181; clear HB; have HO181 := n0_; have HB := n1_; have BK185 := n2_; have GW185 := n3_; have GE185 := n4_; clear n0_ n1_ n2_ n3_ n4_; clear hb hbox hg; have hcz13_0 : w12.cell? ⟨gb185, 0, none⟩ = some (.string (⟨#[]⟩ : ByteArray)) := (blk_cell BK185.out 0).trans rfl; have hcz13_1 : w12.cell? ⟨gb185, 1, none⟩ = some (.string (⟨#[]⟩ : ByteArray)) := (blk_cell BK185.out 1).trans rfl; have hcz13_2 : w12.cell? ⟨gb185, 2, none⟩ = some (.slice none 0 0) := (blk_cell BK185.out 2).trans rfl; have hcz13_3 : w12.cell? ⟨gb185, 3, none⟩ = some (.string (⟨#[]⟩ : ByteArray)) := (blk_cell BK185.out 3).trans rfl; have hfz13_0 := blk_frozen BK185.out 0; have hfz13_1 := blk_frozen BK185.out 1; have hfz13_2 := blk_frozen BK185.out 2; have hfz13_3 := blk_frozen BK185.out 3; obtain ⟨Aoz0, coz0, eo14⟩ := Kd.R_slice HO181.out; subst eo14) | ((with_reducible refine gate_callee (f := 48) rfl ?_); refine goesL_ (some 15) rfl rfl Tryd.func48 (by kernel_rfl) rfl #[.string zt0] rfl (by (try simp only [List.map_toArray, List.map_cons, List.map_nil]); first | done | rfl | (simp only [List.length_drop, List.length_take]; rfl)) ?_; (with_reducible refine (http_ParseRequest.calls k zt0 t186 t187 t188 t191 t192 t193 _ ?side1 A2.out).mono ?_); (case side1 => exact LaidM.below HT.out (by repeat (first | (with_reducible first | exact HB.out | apply below_alloc | apply pw_below_drewN | apply below_drew1 | refine below_set ?_ GE185.out) | exact HB.out))); rintro e w15 ⟨v189, rfl, ho0, hb⟩; refine ⟨_, rfl, ?_⟩; have n0_ := Aside0.mk (Kd.R_elder' (by zra; exact (Kd.R_mono (Kd.R_far (p := ⟨gb185, 3, none⟩) (Kd.R_far (p := ⟨gb185, 2, none⟩) (Kd.R_far (p := ⟨gb185, 1, none⟩) (Kd.R_far (p := ⟨gb185, 0, none⟩) (Kd.R_types HO181.out BK185.out (by decide)) (fun _ hk => hk.2) (.string t177)) (fun _ hk => hk.2) (.string t178)) (fun _ hk => hk.2) (.slice Aoz0 t179.length coz0)) (fun _ hk => hk.2) (.string t182)) (fun _ h_ => h_.1))) (Kd.R_base ho0) hb); have n1_ := Aside0.mk (Kd.R_lower (Kd.R_new' ho0 (Kd.R_lt (by zra; exact (Kd.R_mono (Kd.R_far (p := ⟨gb185, 3, none⟩) (Kd.R_far (p := ⟨gb185, 2, none⟩) (Kd.R_far (p := ⟨gb185, 1, none⟩) (Kd.R_far (p := ⟨gb185, 0, none⟩) (Kd.R_types HO181.out BK185.out (by decide)) (fun _ hk => hk.2) (.string t177)) (fun _ hk => hk.2) (.string t178)) (fun _ hk => hk.2) (.slice Aoz0 t179.length coz0)) (fun _ hk => hk.2) (.string t182)) (fun _ h_ => h_.1))))) (below_size (by repeat (first | (with_reducible first | exact HB.out | apply below_alloc | apply pw_below_drewN | apply below_drew1 | refine below_set ?_ GE185.out) | exact HB.out)))); have n2_ := Aside0.mk (blk_below (g := gb185) (o := .cells #[.string t177, .string t178, .slice Aoz0 t179.length coz0, .string t182] 65 (0, 0)) (by zda; refine blk_put (cs := #[.string t177, .string t178, .slice Aoz0 t179.length coz0, .string (⟨#[]⟩ : ByteArray)]) ?_ 3 _ rfl; zda; refine blk_put (cs := #[.string t177, .string t178, .slice none 0 0, .string (⟨#[]⟩ : ByteArray)]) ?_ 2 _ rfl; zda; refine blk_put (cs := #[.string t177, .string (⟨#[]⟩ : ByteArray), .slice none 0 0, .string (⟨#[]⟩ : ByteArray)]) ?_ 1 _ rfl; zda; refine blk_put (cs := #[.string (⟨#[]⟩ : ByteArray), .string (⟨#[]⟩ : ByteArray), .slice none 0 0, .string (⟨#[]⟩ : ByteArray)]) ?_ 0 _ rfl; zda; exact BK185.out) hb); have n3_ := Aside0.mk (below_step (by repeat (first | (with_reducible first | exact HB.out | apply below_alloc | apply pw_below_drewN | apply below_drew1 | refine below_set ?_ GE185.out) | exact HB.out)) hb); clear HO181; clear BK185; clear HB; have HO181 := n0_; have HO190 := n1_; have BK185 := n2_; have HB := n3_; clear n0_ n1_ n2_ n3_; (try clear hb); (try clear hb2); (try clear hk); (try clear hi); (try clear ho0)) | ((with_reducible refine gate_dst (N := 4) rfl ?_); (try (refine gate_guard (by rfl) ?_; dsimp only)); refine box_event ?hg (N := 4) ?hd (cs := #[.string (⟨#[]⟩ : ByteArray), .string (⟨#[]⟩ : ByteArray), .slice none 0 0, .string (⟨#[]⟩ : ByteArray)]) (t := 65) ?hr ?_; (case hd => rfl); (case hg => rfl); (case hr => first | (go_simp; done) | (go_simp; rfl)); intro gb194 hg w16 hbox hb; have n0_ := Aside0.mk (Kd.R_below (by zra; exact HO181.out) hb); have n1_ := Aside0.mk (Kd.R_below (by zra; exact HO190.out) hb); have n2_ := Aside0.mk (blk_below (g := gb185) (o := .cells #[.string t177, .string t178, .slice Aoz0 t179.length coz0, .string t182] 65 (0, 0)) (by zda; exact BK185.out) hb); have n3_ := Aside0.mk (below_step (by repeat (first | (with_reducible first | exact HB.out | apply below_alloc | apply pw_below_drewN | apply below_drew1 | refine below_set ?_ GE185.out) | exact HB.out)) hb); have n4_ := Aside0.mk (hbox); have n5_ := Aside0.mk ((by rw [hg]; exact (below_size (by repeat (first | (with_reducible first | exact HB.out | apply below_alloc | apply pw_below_drewN | apply below_drew1 | refine below_set ?_ GE185.out) | exact HB.out))) : w.heap.size ≤ gb194)); have n6_ := Aside0.mk ((by rw [hg]; exact (below_size (by repeat (first | (with_reducible first | exact HB.out | apply below_alloc | apply pw_below_drewN | apply below_drew1 | refine below_set ?_ GE185.out) | exact HB.out))) : w.heap.size ≤ gb194)); have n7_ := Aside0.mk ((by rw [hg]; exact Nat.ne_of_lt (blk_lt (g := gb185) (o := .cells #[.string t177, .string t178, .slice Aoz0 t179.length coz0, .string t182] 65 (0, 0)) (by zda; exact BK185.out)) : gb185 ≠ gb194)); have n8_ := Aside0.mk ((by rw [hg]; exact Nat.ne_of_gt (blk_lt (g := gb185) (o := .cells #[.string t177, .string t178, .slice Aoz0 t179.length coz0, .string t182] 65 (0, 0)) (by zda; exact BK185.out)) : gb194 ≠ gb185)); clear HO181; clear HO190; clear BK185; clear HB; have HO181 := n0_; have HO190 := n1_; have BK185 := n2_; have HB := n3_; have BK194 := n4_; have GW194 := n5_; have GE194 := n6_; have NB185_194 := n7_; have NB194_185 := n8_; clear n0_ n1_ n2_ n3_ n4_ n5_ n6_ n7_ n8_; clear hb hbox hg; have hnb17 := NB194_185.out; have hnc17 := NB185_194.out; have hcz18_0 : w16.cell? ⟨gb194, 0, none⟩ = some (.string (⟨#[]⟩ : ByteArray)) := (blk_cell BK194.out 0).trans rfl; have hcz18_1 : w16.cell? ⟨gb194, 1, none⟩ = some (.string (⟨#[]⟩ : ByteArray)) := (blk_cell BK194.out 1).trans rfl; have hcz18_2 : w16.cell? ⟨gb194, 2, none⟩ = some (.slice none 0 0) := (blk_cell BK194.out 2).trans rfl; have hcz18_3 : w16.cell? ⟨gb194, 3, none⟩ = some (.string (⟨#[]⟩ : ByteArray)) := (blk_cell BK194.out 3).trans rfl; have hfz18_0 := blk_frozen BK194.out 0; have hfz18_1 := blk_frozen BK194.out 1; have hfz18_2 := blk_frozen BK194.out 2; have hfz18_3 := blk_frozen BK194.out 3; obtain ⟨Aoz1, coz1, eo19⟩ := Kd.R_slice HO190.out; subst eo19) | ((with_reducible refine gate_callee (f := 67) rfl ?_); refine goesL_ (some 21) rfl rfl Tryd.func67 (by kernel_rfl) rfl #[.agg #[.int .i64 204, .slice none 0 0, .string (⟨#[]⟩ : ByteArray)]] rfl (by (try simp only [List.map_toArray, List.map_cons, List.map_nil]); first | done | rfl | (simp only [List.length_drop, List.length_take]; rfl)) ?_; (refine (http_PrintResponse.calls k 204 _ _ ([] : List (S74)) (⟨#[]⟩ : ByteArray) t195 t196 _ ?side1 ?side2 ?side3 A3.out).mono ?_); (case side1 => exact Kd.C_nil _ _); (case side2 => exact Nat.le_refl _); (case side3 => exact LaidM.below HT.out (by repeat (first | (with_reducible first | exact HB.out | apply below_alloc | apply pw_below_drewN | apply below_drew1 | refine below_set ?_ GE185.out | refine below_set ?_ GE194.out) | exact HB.out))); rintro e wz0 ⟨rfl, hb⟩; refine ⟨_, rfl, ?_⟩; have n0_ := Aside0.mk (Kd.R_below (by zra; exact (Kd.R_mono (Kd.R_far (p := ⟨gb194, 3, none⟩) (Kd.R_far (p := ⟨gb194, 2, none⟩) (Kd.R_far (p := ⟨gb194, 1, none⟩) (Kd.R_far (p := ⟨gb194, 0, none⟩) (Kd.R_types HO181.out BK194.out (by decide)) (fun _ hk => hk.2) (.string t186)) (fun _ hk => hk.2) (.string t187)) (fun _ hk => hk.2) (.slice Aoz1 t188.length coz1)) (fun _ hk => hk.2) (.string t191)) (fun _ h_ => h_.1))) hb); have n1_ := Aside0.mk (Kd.R_below (by zra; exact (Kd.R_mono (Kd.R_far (p := ⟨gb194, 3, none⟩) (Kd.R_far (p := ⟨gb194, 2, none⟩) (Kd.R_far (p := ⟨gb194, 1, none⟩) (Kd.R_far (p := ⟨gb194, 0, none⟩) (Kd.R_types HO190.out BK194.out (by decide)) (fun _ hk => hk.2) (.string t186)) (fun _ hk => hk.2) (.string t187)) (fun _ hk => hk.2) (.slice Aoz1 t188.length coz1)) (fun _ hk => hk.2) (.string t191)) (fun _ h_ => h_.1))) hb); have n2_ := Aside0.mk (blk_below (g := gb185) (o := .cells #[.string t177, .string t178, .slice Aoz0 t179.length coz0, .string t182] 65 (0, 0)) (by zda; refine blk_far ?_ NB185_194.out _; zda; refine blk_far ?_ NB185_194.out _; zda; refine blk_far ?_ NB185_194.out _; zda; refine blk_far ?_ NB185_194.out _; zda; exact BK185.out) hb); have n3_ := Aside0.mk (blk_below (g := gb194) (o := .cells #[.string t186, .string t187, .slice Aoz1 t188.length coz1, .string t191] 65 (0, 0)) (by zda; refine blk_put (cs := #[.string t186, .string t187, .slice Aoz1 t188.length coz1, .string (⟨#[]⟩ : ByteArray)]) ?_ 3 _ rfl; zda; refine blk_put (cs := #[.string t186, .string t187, .slice none 0 0, .string (⟨#[]⟩ : ByteArray)]) ?_ 2 _ rfl; zda; refine blk_put (cs := #[.string t186, .string (⟨#[]⟩ : ByteArray), .slice none 0 0, .string (⟨#[]⟩ : ByteArray)]) ?_ 1 _ rfl; zda; refine blk_put (cs := #[.string (⟨#[]⟩ : ByteArray), .string (⟨#[]⟩ : ByteArray), .slice none 0 0, .string (⟨#[]⟩ : ByteArray)]) ?_ 0 _ rfl; zda; exact BK194.out) hb); have n4_ := Aside0.mk (below_step (by repeat (first | (with_reducible first | exact HB.out | apply below_alloc | apply pw_below_drewN | apply below_drew1 | refine below_set ?_ GE185.out | refine below_set ?_ GE194.out) | exact HB.out)) hb); clear HO181; clear HO190; clear BK185; clear BK194; clear HB; have HO181 := n0_; have HO190 := n1_; have BK185 := n2_; have BK194 := n3_; have HB := n4_; clear n0_ n1_ n2_ n3_ n4_; (try clear hb); (try clear hb2); (try clear hk); (try clear hi); have hcz21_0 : wz0.cell? ⟨gb185, 0, none⟩ = some (.string t177) := (blk_cell BK185.out 0).trans rfl; have hcz21_1 : wz0.cell? ⟨gb185, 1, none⟩ = some (.string t178) := (blk_cell BK185.out 1).trans rfl; have hcz21_2 : wz0.cell? ⟨gb185, 2, none⟩ = some (.slice Aoz0 t179.length coz0) := (blk_cell BK185.out 2).trans rfl; have hcz21_3 : wz0.cell? ⟨gb185, 3, none⟩ = some (.string t182) := (blk_cell BK185.out 3).trans rfl; have hfz21_0 := blk_frozen BK185.out 0; have hfz21_1 := blk_frozen BK185.out 1; have hfz21_2 := blk_frozen BK185.out 2; have hfz21_3 := blk_frozen BK185.out 3))
        go_ret
        zq7
       ·rw [if_neg c10] at H
        have c10b0 : (t196 == 0) = false := beq_eq_false_iff_ne.mpr c10
        have c10b1 : (t196 != 0) = true := bne_iff_ne.mpr c10
        zq6
        go_enter Tryd.func47, Tryd.ntmps47
        go_wp2_with (first | zf0 | ((with_reducible refine gate_dst (N := 1) rfl ?_); (try (refine gate_guard (by rfl) ?_; dsimp only)); refine box_event ?hg (N := 1) ?hd (cs := #[.string (⟨#[]⟩ : ByteArray), .string (⟨#[]⟩ : ByteArray), .slice none 0 0, .string (⟨#[]⟩ : ByteArray)]) (t := 65) ?hr ?_; (case hd => rfl); (case hg => rfl); (case hr => first | (go_simp; done) | (go_simp; rfl)); intro gb185 hg wz1 hbox hb; have n0_ := Aside0.mk (Kd.R_below (by zra; exact HO181.out) hb); have n1_ := Aside0.mk (below_step (by repeat (first | (with_reducible first | exact HB.out | apply below_alloc | apply pw_below_drewN | apply below_drew1) | exact HB.out)) hb); have n2_ := Aside0.mk (hbox); have n3_ := Aside0.mk ((by rw [hg]; exact (below_size (by repeat (first | (with_reducible first | exact HB.out | apply below_alloc | apply pw_below_drewN | apply below_drew1) | exact HB.out))) : w.heap.size ≤ gb185)); have n4_ := Aside0.mk ((by rw [hg]; exact (below_size (by repeat (first | (with_reducible first | exact HB.out | apply below_alloc | apply pw_below_drewN | apply below_drew1) | exact HB.out))) : w.heap.size ≤ gb185)); clear HO181; clear HB; have HO181 := n0_; have HB := n1_; have BK185 := n2_; have GW185 := n3_; have GE185 := n4_; clear n0_ n1_ n2_ n3_ n4_; clear hb hbox hg; have hcz24_0 : wz1.cell? ⟨gb185, 0, none⟩ = some (.string (⟨#[]⟩ : ByteArray)) := (blk_cell BK185.out 0).trans rfl; have hcz24_1 : wz1.cell? ⟨gb185, 1, none⟩ = some (.string (⟨#[]⟩ : ByteArray)) := (blk_cell BK185.out 1).trans rfl; have hcz24_2 : wz1.cell? ⟨gb185, 2, none⟩ = some (.slice none 0 0) := (blk_cell BK185.out 2).trans rfl; have hcz24_3 : wz1.cell? ⟨gb185, 3, none⟩ = some (.string (⟨#[]⟩ : ByteArray)) := (blk_cell BK185.out 3).trans rfl; have hfz24_0 := blk_frozen BK185.out 0; have hfz24_1 := blk_frozen BK185.out 1; have hfz24_2 := blk_frozen BK185.out 2; have hfz24_3 := blk_frozen BK185.out 3; obtain ⟨Aoz0, coz0, eo25⟩ := Kd.R_slice HO181.out; subst eo25) | zf1 | ((with_reducible refine gate_dst (N := 4) rfl ?_); (try (refine gate_guard (by rfl) ?_; dsimp only)); refine box_event ?hg (N := 4) ?hd (cs := #[.string (⟨#[]⟩ : ByteArray), .string (⟨#[]⟩ : ByteArray), .slice none 0 0, .string (⟨#[]⟩ : ByteArray)]) (t := 65) ?hr ?_; (case hd => rfl); (case hg => rfl); (case hr => first | (go_simp; done) | (go_simp; rfl)); intro gb194 hg wz3 hbox hb; have n0_ := Aside0.mk (Kd.R_below (by zra; exact HO181.out) hb); have n1_ := Aside0.mk (Kd.R_below (by zra; exact HO190.out) hb); have n2_ := Aside0.mk (blk_below (g := gb185) (o := .cells #[.string t177, .string t178, .slice Aoz0 t179.length coz0, .string t182] 65 (0, 0)) (by zda; exact BK185.out) hb); have n3_ := Aside0.mk (below_step (by repeat (first | (with_reducible first | exact HB.out | apply below_alloc | apply pw_below_drewN | apply below_drew1 | refine below_set ?_ GE185.out) | exact HB.out)) hb); have n4_ := Aside0.mk (hbox); have n5_ := Aside0.mk ((by rw [hg]; exact (below_size (by repeat (first | (with_reducible first | exact HB.out | apply below_alloc | apply pw_below_drewN | apply below_drew1 | refine below_set ?_ GE185.out) | exact HB.out))) : w.heap.size ≤ gb194)); have n6_ := Aside0.mk ((by rw [hg]; exact (below_size (by repeat (first | (with_reducible first | exact HB.out | apply below_alloc | apply pw_below_drewN | apply below_drew1 | refine below_set ?_ GE185.out) | exact HB.out))) : w.heap.size ≤ gb194)); have n7_ := Aside0.mk ((by rw [hg]; exact Nat.ne_of_lt (blk_lt (g := gb185) (o := .cells #[.string t177, .string t178, .slice Aoz0 t179.length coz0, .string t182] 65 (0, 0)) (by zda; exact BK185.out)) : gb185 ≠ gb194)); have n8_ := Aside0.mk ((by rw [hg]; exact Nat.ne_of_gt (blk_lt (g := gb185) (o := .cells #[.string t177, .string t178, .slice Aoz0 t179.length coz0, .string t182] 65 (0, 0)) (by zda; exact BK185.out)) : gb194 ≠ gb185)); clear HO181; clear HO190; clear BK185; clear HB; have HO181 := n0_; have HO190 := n1_; have BK185 := n2_; have HB := n3_; have BK194 := n4_; have GW194 := n5_; have GE194 := n6_; have NB185_194 := n7_; have NB194_185 := n8_; clear n0_ n1_ n2_ n3_ n4_ n5_ n6_ n7_ n8_; clear hb hbox hg; have hnb28 := NB194_185.out; have hnc28 := NB185_194.out; have hcz29_0 : wz3.cell? ⟨gb194, 0, none⟩ = some (.string (⟨#[]⟩ : ByteArray)) := (blk_cell BK194.out 0).trans rfl; have hcz29_1 : wz3.cell? ⟨gb194, 1, none⟩ = some (.string (⟨#[]⟩ : ByteArray)) := (blk_cell BK194.out 1).trans rfl; have hcz29_2 : wz3.cell? ⟨gb194, 2, none⟩ = some (.slice none 0 0) := (blk_cell BK194.out 2).trans rfl; have hcz29_3 : wz3.cell? ⟨gb194, 3, none⟩ = some (.string (⟨#[]⟩ : ByteArray)) := (blk_cell BK194.out 3).trans rfl; have hfz29_0 := blk_frozen BK194.out 0; have hfz29_1 := blk_frozen BK194.out 1; have hfz29_2 := blk_frozen BK194.out 2; have hfz29_3 := blk_frozen BK194.out 3; obtain ⟨Aoz1, coz1, eo30⟩ := Kd.R_slice HO190.out; subst eo30) | ((with_reducible refine gate_callee (f := 67) rfl ?_); refine goesL_ (some 21) rfl rfl Tryd.func67 (by kernel_rfl) rfl #[.agg #[.int .i64 204, .slice none 0 0, .string (⟨#[]⟩ : ByteArray)]] rfl (by (try simp only [List.map_toArray, List.map_cons, List.map_nil]); first | done | rfl | (simp only [List.length_drop, List.length_take]; rfl)) ?_; (refine (http_PrintResponse.calls k 204 _ _ ([] : List (S74)) (⟨#[]⟩ : ByteArray) t195 t196 _ ?side1 ?side2 ?side3 A3.out).mono ?_); (case side1 => exact Kd.C_nil _ _); (case side2 => exact Nat.le_refl _); (case side3 => exact LaidM.below HT.out (by repeat (first | (with_reducible first | exact HB.out | apply below_alloc | apply pw_below_drewN | apply below_drew1 | refine below_set ?_ GE185.out | refine below_set ?_ GE194.out) | exact HB.out))); rintro e wz4 ⟨rfl, hb⟩; refine ⟨_, rfl, ?_⟩; have n0_ := Aside0.mk (Kd.R_below (by zra; exact (Kd.R_mono (Kd.R_far (p := ⟨gb194, 3, none⟩) (Kd.R_far (p := ⟨gb194, 2, none⟩) (Kd.R_far (p := ⟨gb194, 1, none⟩) (Kd.R_far (p := ⟨gb194, 0, none⟩) (Kd.R_types HO181.out BK194.out (by decide)) (fun _ hk => hk.2) (.string t186)) (fun _ hk => hk.2) (.string t187)) (fun _ hk => hk.2) (.slice Aoz1 t188.length coz1)) (fun _ hk => hk.2) (.string t191)) (fun _ h_ => h_.1))) hb); have n1_ := Aside0.mk (Kd.R_below (by zra; exact (Kd.R_mono (Kd.R_far (p := ⟨gb194, 3, none⟩) (Kd.R_far (p := ⟨gb194, 2, none⟩) (Kd.R_far (p := ⟨gb194, 1, none⟩) (Kd.R_far (p := ⟨gb194, 0, none⟩) (Kd.R_types HO190.out BK194.out (by decide)) (fun _ hk => hk.2) (.string t186)) (fun _ hk => hk.2) (.string t187)) (fun _ hk => hk.2) (.slice Aoz1 t188.length coz1)) (fun _ hk => hk.2) (.string t191)) (fun _ h_ => h_.1))) hb); have n2_ := Aside0.mk (blk_below (g := gb185) (o := .cells #[.string t177, .string t178, .slice Aoz0 t179.length coz0, .string t182] 65 (0, 0)) (by zda; refine blk_far ?_ NB185_194.out _; zda; refine blk_far ?_ NB185_194.out _; zda; refine blk_far ?_ NB185_194.out _; zda; refine blk_far ?_ NB185_194.out _; zda; exact BK185.out) hb); have n3_ := Aside0.mk (blk_below (g := gb194) (o := .cells #[.string t186, .string t187, .slice Aoz1 t188.length coz1, .string t191] 65 (0, 0)) (by zda; refine blk_put (cs := #[.string t186, .string t187, .slice Aoz1 t188.length coz1, .string (⟨#[]⟩ : ByteArray)]) ?_ 3 _ rfl; zda; refine blk_put (cs := #[.string t186, .string t187, .slice none 0 0, .string (⟨#[]⟩ : ByteArray)]) ?_ 2 _ rfl; zda; refine blk_put (cs := #[.string t186, .string (⟨#[]⟩ : ByteArray), .slice none 0 0, .string (⟨#[]⟩ : ByteArray)]) ?_ 1 _ rfl; zda; refine blk_put (cs := #[.string (⟨#[]⟩ : ByteArray), .string (⟨#[]⟩ : ByteArray), .slice none 0 0, .string (⟨#[]⟩ : ByteArray)]) ?_ 0 _ rfl; zda; exact BK194.out) hb); have n4_ := Aside0.mk (below_step (by repeat (first | (with_reducible first | exact HB.out | apply below_alloc | apply pw_below_drewN | apply below_drew1 | refine below_set ?_ GE185.out | refine below_set ?_ GE194.out) | exact HB.out)) hb); clear HO181; clear HO190; clear BK185; clear BK194; clear HB; have HO181 := n0_; have HO190 := n1_; have BK185 := n2_; have BK194 := n3_; have HB := n4_; clear n0_ n1_ n2_ n3_ n4_; (try clear hb); (try clear hb2); (try clear hk); (try clear hi); have hcz32_0 : wz4.cell? ⟨gb185, 0, none⟩ = some (.string t177) := (blk_cell BK185.out 0).trans rfl; have hcz32_1 : wz4.cell? ⟨gb185, 1, none⟩ = some (.string t178) := (blk_cell BK185.out 1).trans rfl; have hcz32_2 : wz4.cell? ⟨gb185, 2, none⟩ = some (.slice Aoz0 t179.length coz0) := (blk_cell BK185.out 2).trans rfl; have hcz32_3 : wz4.cell? ⟨gb185, 3, none⟩ = some (.string t182) := (blk_cell BK185.out 3).trans rfl; have hfz32_0 := blk_frozen BK185.out 0; have hfz32_1 := blk_frozen BK185.out 1; have hfz32_2 := blk_frozen BK185.out 2; have hfz32_3 := blk_frozen BK185.out 3))
        go_ret
        zq7
      ·rw [if_neg c9] at H
       have c9b0 : (t193 == 91) = false := beq_eq_false_iff_ne.mpr c9
       have c9b1 : (t193 != 91) = true := bne_iff_ne.mpr c9
       zq6
       go_enter Tryd.func47, Tryd.ntmps47
       go_wp2_with (first | zf0 | ((with_reducible refine gate_dst (N := 1) rfl ?_); (try (refine gate_guard (by rfl) ?_; dsimp only)); refine box_event ?hg (N := 1) ?hd (cs := #[.string (⟨#[]⟩ : ByteArray), .string (⟨#[]⟩ : ByteArray), .slice none 0 0, .string (⟨#[]⟩ : ByteArray)]) (t := 65) ?hr ?_; (case hd => rfl); (case hg => rfl); (case hr => first | (go_simp; done) | (go_simp; rfl)); intro gb185 hg wz1 hbox hb; have n0_ := Aside0.mk (Kd.R_below (by zra; exact HO181.out) hb); have n1_ := Aside0.mk (below_step (by repeat (first | (with_reducible first | exact HB.out | apply below_alloc | apply pw_below_drewN | apply below_drew1) | exact HB.out)) hb); have n2_ := Aside0.mk (hbox); have n3_ := Aside0.mk ((by rw [hg]; exact (below_size (by repeat (first | (with_reducible first | exact HB.out | apply below_alloc | apply pw_below_drewN | apply below_drew1) | exact HB.out))) : w.heap.size ≤ gb185)); have n4_ := Aside0.mk ((by rw [hg]; exact (below_size (by repeat (first | (with_reducible first | exact HB.out | apply below_alloc | apply pw_below_drewN | apply below_drew1) | exact HB.out))) : w.heap.size ≤ gb185)); clear HO181; clear HB; have HO181 := n0_; have HB := n1_; have BK185 := n2_; have GW185 := n3_; have GE185 := n4_; clear n0_ n1_ n2_ n3_ n4_; clear hb hbox hg; have hcz35_0 : wz1.cell? ⟨gb185, 0, none⟩ = some (.string (⟨#[]⟩ : ByteArray)) := (blk_cell BK185.out 0).trans rfl; have hcz35_1 : wz1.cell? ⟨gb185, 1, none⟩ = some (.string (⟨#[]⟩ : ByteArray)) := (blk_cell BK185.out 1).trans rfl; have hcz35_2 : wz1.cell? ⟨gb185, 2, none⟩ = some (.slice none 0 0) := (blk_cell BK185.out 2).trans rfl; have hcz35_3 : wz1.cell? ⟨gb185, 3, none⟩ = some (.string (⟨#[]⟩ : ByteArray)) := (blk_cell BK185.out 3).trans rfl; have hfz35_0 := blk_frozen BK185.out 0; have hfz35_1 := blk_frozen BK185.out 1; have hfz35_2 := blk_frozen BK185.out 2; have hfz35_3 := blk_frozen BK185.out 3; obtain ⟨Aoz0, coz0, eo36⟩ := Kd.R_slice HO181.out; subst eo36) | zf1 | ((with_reducible refine gate_dst (N := 4) rfl ?_); (try (refine gate_guard (by rfl) ?_; dsimp only)); refine box_event ?hg (N := 4) ?hd (cs := #[.string (⟨#[]⟩ : ByteArray), .string (⟨#[]⟩ : ByteArray), .slice none 0 0, .string (⟨#[]⟩ : ByteArray)]) (t := 65) ?hr ?_; (case hd => rfl); (case hg => rfl); (case hr => first | (go_simp; done) | (go_simp; rfl)); intro gb194 hg wz3 hbox hb; have n0_ := Aside0.mk (Kd.R_below (by zra; exact HO181.out) hb); have n1_ := Aside0.mk (Kd.R_below (by zra; exact HO190.out) hb); have n2_ := Aside0.mk (blk_below (g := gb185) (o := .cells #[.string t177, .string t178, .slice Aoz0 t179.length coz0, .string t182] 65 (0, 0)) (by zda; exact BK185.out) hb); have n3_ := Aside0.mk (below_step (by repeat (first | (with_reducible first | exact HB.out | apply below_alloc | apply pw_below_drewN | apply below_drew1 | refine below_set ?_ GE185.out) | exact HB.out)) hb); have n4_ := Aside0.mk (hbox); have n5_ := Aside0.mk ((by rw [hg]; exact (below_size (by repeat (first | (with_reducible first | exact HB.out | apply below_alloc | apply pw_below_drewN | apply below_drew1 | refine below_set ?_ GE185.out) | exact HB.out))) : w.heap.size ≤ gb194)); have n6_ := Aside0.mk ((by rw [hg]; exact (below_size (by repeat (first | (with_reducible first | exact HB.out | apply below_alloc | apply pw_below_drewN | apply below_drew1 | refine below_set ?_ GE185.out) | exact HB.out))) : w.heap.size ≤ gb194)); have n7_ := Aside0.mk ((by rw [hg]; exact Nat.ne_of_lt (blk_lt (g := gb185) (o := .cells #[.string t177, .string t178, .slice Aoz0 t179.length coz0, .string t182] 65 (0, 0)) (by zda; exact BK185.out)) : gb185 ≠ gb194)); have n8_ := Aside0.mk ((by rw [hg]; exact Nat.ne_of_gt (blk_lt (g := gb185) (o := .cells #[.string t177, .string t178, .slice Aoz0 t179.length coz0, .string t182] 65 (0, 0)) (by zda; exact BK185.out)) : gb194 ≠ gb185)); clear HO181; clear HO190; clear BK185; clear HB; have HO181 := n0_; have HO190 := n1_; have BK185 := n2_; have HB := n3_; have BK194 := n4_; have GW194 := n5_; have GE194 := n6_; have NB185_194 := n7_; have NB194_185 := n8_; clear n0_ n1_ n2_ n3_ n4_ n5_ n6_ n7_ n8_; clear hb hbox hg; have hnb39 := NB194_185.out; have hnc39 := NB185_194.out; have hcz40_0 : wz3.cell? ⟨gb194, 0, none⟩ = some (.string (⟨#[]⟩ : ByteArray)) := (blk_cell BK194.out 0).trans rfl; have hcz40_1 : wz3.cell? ⟨gb194, 1, none⟩ = some (.string (⟨#[]⟩ : ByteArray)) := (blk_cell BK194.out 1).trans rfl; have hcz40_2 : wz3.cell? ⟨gb194, 2, none⟩ = some (.slice none 0 0) := (blk_cell BK194.out 2).trans rfl; have hcz40_3 : wz3.cell? ⟨gb194, 3, none⟩ = some (.string (⟨#[]⟩ : ByteArray)) := (blk_cell BK194.out 3).trans rfl; have hfz40_0 := blk_frozen BK194.out 0; have hfz40_1 := blk_frozen BK194.out 1; have hfz40_2 := blk_frozen BK194.out 2; have hfz40_3 := blk_frozen BK194.out 3; obtain ⟨Aoz1, coz1, eo41⟩ := Kd.R_slice HO190.out; subst eo41) | ((with_reducible refine gate_callee (f := 67) rfl ?_); refine goesL_ (some 21) rfl rfl Tryd.func67 (by kernel_rfl) rfl #[.agg #[.int .i64 204, .slice none 0 0, .string (⟨#[]⟩ : ByteArray)]] rfl (by (try simp only [List.map_toArray, List.map_cons, List.map_nil]); first | done | rfl | (simp only [List.length_drop, List.length_take]; rfl)) ?_; (refine (http_PrintResponse.calls k 204 _ _ ([] : List (S74)) (⟨#[]⟩ : ByteArray) t195 t196 _ ?side1 ?side2 ?side3 A3.out).mono ?_); (case side1 => exact Kd.C_nil _ _); (case side2 => exact Nat.le_refl _); (case side3 => exact LaidM.below HT.out (by repeat (first | (with_reducible first | exact HB.out | apply below_alloc | apply pw_below_drewN | apply below_drew1 | refine below_set ?_ GE185.out | refine below_set ?_ GE194.out) | exact HB.out))); rintro e wz4 ⟨rfl, hb⟩; refine ⟨_, rfl, ?_⟩; have n0_ := Aside0.mk (Kd.R_below (by zra; exact (Kd.R_mono (Kd.R_far (p := ⟨gb194, 3, none⟩) (Kd.R_far (p := ⟨gb194, 2, none⟩) (Kd.R_far (p := ⟨gb194, 1, none⟩) (Kd.R_far (p := ⟨gb194, 0, none⟩) (Kd.R_types HO181.out BK194.out (by decide)) (fun _ hk => hk.2) (.string t186)) (fun _ hk => hk.2) (.string t187)) (fun _ hk => hk.2) (.slice Aoz1 t188.length coz1)) (fun _ hk => hk.2) (.string t191)) (fun _ h_ => h_.1))) hb); have n1_ := Aside0.mk (Kd.R_below (by zra; exact (Kd.R_mono (Kd.R_far (p := ⟨gb194, 3, none⟩) (Kd.R_far (p := ⟨gb194, 2, none⟩) (Kd.R_far (p := ⟨gb194, 1, none⟩) (Kd.R_far (p := ⟨gb194, 0, none⟩) (Kd.R_types HO190.out BK194.out (by decide)) (fun _ hk => hk.2) (.string t186)) (fun _ hk => hk.2) (.string t187)) (fun _ hk => hk.2) (.slice Aoz1 t188.length coz1)) (fun _ hk => hk.2) (.string t191)) (fun _ h_ => h_.1))) hb); have n2_ := Aside0.mk (blk_below (g := gb185) (o := .cells #[.string t177, .string t178, .slice Aoz0 t179.length coz0, .string t182] 65 (0, 0)) (by zda; refine blk_far ?_ NB185_194.out _; zda; refine blk_far ?_ NB185_194.out _; zda; refine blk_far ?_ NB185_194.out _; zda; refine blk_far ?_ NB185_194.out _; zda; exact BK185.out) hb); have n3_ := Aside0.mk (blk_below (g := gb194) (o := .cells #[.string t186, .string t187, .slice Aoz1 t188.length coz1, .string t191] 65 (0, 0)) (by zda; refine blk_put (cs := #[.string t186, .string t187, .slice Aoz1 t188.length coz1, .string (⟨#[]⟩ : ByteArray)]) ?_ 3 _ rfl; zda; refine blk_put (cs := #[.string t186, .string t187, .slice none 0 0, .string (⟨#[]⟩ : ByteArray)]) ?_ 2 _ rfl; zda; refine blk_put (cs := #[.string t186, .string (⟨#[]⟩ : ByteArray), .slice none 0 0, .string (⟨#[]⟩ : ByteArray)]) ?_ 1 _ rfl; zda; refine blk_put (cs := #[.string (⟨#[]⟩ : ByteArray), .string (⟨#[]⟩ : ByteArray), .slice none 0 0, .string (⟨#[]⟩ : ByteArray)]) ?_ 0 _ rfl; zda; exact BK194.out) hb); have n4_ := Aside0.mk (below_step (by repeat (first | (with_reducible first | exact HB.out | apply below_alloc | apply pw_below_drewN | apply below_drew1 | refine below_set ?_ GE185.out | refine below_set ?_ GE194.out) | exact HB.out)) hb); clear HO181; clear HO190; clear BK185; clear BK194; clear HB; have HO181 := n0_; have HO190 := n1_; have BK185 := n2_; have BK194 := n3_; have HB := n4_; clear n0_ n1_ n2_ n3_ n4_; (try clear hb); (try clear hb2); (try clear hk); (try clear hi); have hcz43_0 : wz4.cell? ⟨gb185, 0, none⟩ = some (.string t177) := (blk_cell BK185.out 0).trans rfl; have hcz43_1 : wz4.cell? ⟨gb185, 1, none⟩ = some (.string t178) := (blk_cell BK185.out 1).trans rfl; have hcz43_2 : wz4.cell? ⟨gb185, 2, none⟩ = some (.slice Aoz0 t179.length coz0) := (blk_cell BK185.out 2).trans rfl; have hcz43_3 : wz4.cell? ⟨gb185, 3, none⟩ = some (.string t182) := (blk_cell BK185.out 3).trans rfl; have hfz43_0 := blk_frozen BK185.out 0; have hfz43_1 := blk_frozen BK185.out 1; have hfz43_2 := blk_frozen BK185.out 2; have hfz43_3 := blk_frozen BK185.out 3))
       go_ret
       zq7
     ·rw [if_neg c8] at H
      have c8b0 : (t184 == 0) = false := beq_eq_false_iff_ne.mpr c8
      have c8b1 : (t184 != 0) = true := bne_iff_ne.mpr c8
      zq6
      go_enter Tryd.func47, Tryd.ntmps47
      go_wp2_with (first | zf0 | ((with_reducible refine gate_dst (N := 1) rfl ?_); (try (refine gate_guard (by rfl) ?_; dsimp only)); refine box_event ?hg (N := 1) ?hd (cs := #[.string (⟨#[]⟩ : ByteArray), .string (⟨#[]⟩ : ByteArray), .slice none 0 0, .string (⟨#[]⟩ : ByteArray)]) (t := 65) ?hr ?_; (case hd => rfl); (case hg => rfl); (case hr => first | (go_simp; done) | (go_simp; rfl)); intro gb185 hg wz1 hbox hb; have n0_ := Aside0.mk (Kd.R_below (by zra; exact HO181.out) hb); have n1_ := Aside0.mk (below_step (by repeat (first | (with_reducible first | exact HB.out | apply below_alloc | apply pw_below_drewN | apply below_drew1) | exact HB.out)) hb); have n2_ := Aside0.mk (hbox); have n3_ := Aside0.mk ((by rw [hg]; exact (below_size (by repeat (first | (with_reducible first | exact HB.out | apply below_alloc | apply pw_below_drewN | apply below_drew1) | exact HB.out))) : w.heap.size ≤ gb185)); have n4_ := Aside0.mk ((by rw [hg]; exact (below_size (by repeat (first | (with_reducible first | exact HB.out | apply below_alloc | apply pw_below_drewN | apply below_drew1) | exact HB.out))) : w.heap.size ≤ gb185)); clear HO181; clear HB; have HO181 := n0_; have HB := n1_; have BK185 := n2_; have GW185 := n3_; have GE185 := n4_; clear n0_ n1_ n2_ n3_ n4_; clear hb hbox hg; have hcz46_0 : wz1.cell? ⟨gb185, 0, none⟩ = some (.string (⟨#[]⟩ : ByteArray)) := (blk_cell BK185.out 0).trans rfl; have hcz46_1 : wz1.cell? ⟨gb185, 1, none⟩ = some (.string (⟨#[]⟩ : ByteArray)) := (blk_cell BK185.out 1).trans rfl; have hcz46_2 : wz1.cell? ⟨gb185, 2, none⟩ = some (.slice none 0 0) := (blk_cell BK185.out 2).trans rfl; have hcz46_3 : wz1.cell? ⟨gb185, 3, none⟩ = some (.string (⟨#[]⟩ : ByteArray)) := (blk_cell BK185.out 3).trans rfl; have hfz46_0 := blk_frozen BK185.out 0; have hfz46_1 := blk_frozen BK185.out 1; have hfz46_2 := blk_frozen BK185.out 2; have hfz46_3 := blk_frozen BK185.out 3; obtain ⟨Aoz0, coz0, eo47⟩ := Kd.R_slice HO181.out; subst eo47) | zf1 | ((with_reducible refine gate_dst (N := 4) rfl ?_); (try (refine gate_guard (by rfl) ?_; dsimp only)); refine box_event ?hg (N := 4) ?hd (cs := #[.string (⟨#[]⟩ : ByteArray), .string (⟨#[]⟩ : ByteArray), .slice none 0 0, .string (⟨#[]⟩ : ByteArray)]) (t := 65) ?hr ?_; (case hd => rfl); (case hg => rfl); (case hr => first | (go_simp; done) | (go_simp; rfl)); intro gb194 hg wz3 hbox hb; have n0_ := Aside0.mk (Kd.R_below (by zra; exact HO181.out) hb); have n1_ := Aside0.mk (Kd.R_below (by zra; exact HO190.out) hb); have n2_ := Aside0.mk (blk_below (g := gb185) (o := .cells #[.string t177, .string t178, .slice Aoz0 t179.length coz0, .string t182] 65 (0, 0)) (by zda; exact BK185.out) hb); have n3_ := Aside0.mk (below_step (by repeat (first | (with_reducible first | exact HB.out | apply below_alloc | apply pw_below_drewN | apply below_drew1 | refine below_set ?_ GE185.out) | exact HB.out)) hb); have n4_ := Aside0.mk (hbox); have n5_ := Aside0.mk ((by rw [hg]; exact (below_size (by repeat (first | (with_reducible first | exact HB.out | apply below_alloc | apply pw_below_drewN | apply below_drew1 | refine below_set ?_ GE185.out) | exact HB.out))) : w.heap.size ≤ gb194)); have n6_ := Aside0.mk ((by rw [hg]; exact (below_size (by repeat (first | (with_reducible first | exact HB.out | apply below_alloc | apply pw_below_drewN | apply below_drew1 | refine below_set ?_ GE185.out) | exact HB.out))) : w.heap.size ≤ gb194)); have n7_ := Aside0.mk ((by rw [hg]; exact Nat.ne_of_lt (blk_lt (g := gb185) (o := .cells #[.string t177, .string t178, .slice Aoz0 t179.length coz0, .string t182] 65 (0, 0)) (by zda; exact BK185.out)) : gb185 ≠ gb194)); have n8_ := Aside0.mk ((by rw [hg]; exact Nat.ne_of_gt (blk_lt (g := gb185) (o := .cells #[.string t177, .string t178, .slice Aoz0 t179.length coz0, .string t182] 65 (0, 0)) (by zda; exact BK185.out)) : gb194 ≠ gb185)); clear HO181; clear HO190; clear BK185; clear HB; have HO181 := n0_; have HO190 := n1_; have BK185 := n2_; have HB := n3_; have BK194 := n4_; have GW194 := n5_; have GE194 := n6_; have NB185_194 := n7_; have NB194_185 := n8_; clear n0_ n1_ n2_ n3_ n4_ n5_ n6_ n7_ n8_; clear hb hbox hg; have hnb50 := NB194_185.out; have hnc50 := NB185_194.out; have hcz51_0 : wz3.cell? ⟨gb194, 0, none⟩ = some (.string (⟨#[]⟩ : ByteArray)) := (blk_cell BK194.out 0).trans rfl; have hcz51_1 : wz3.cell? ⟨gb194, 1, none⟩ = some (.string (⟨#[]⟩ : ByteArray)) := (blk_cell BK194.out 1).trans rfl; have hcz51_2 : wz3.cell? ⟨gb194, 2, none⟩ = some (.slice none 0 0) := (blk_cell BK194.out 2).trans rfl; have hcz51_3 : wz3.cell? ⟨gb194, 3, none⟩ = some (.string (⟨#[]⟩ : ByteArray)) := (blk_cell BK194.out 3).trans rfl; have hfz51_0 := blk_frozen BK194.out 0; have hfz51_1 := blk_frozen BK194.out 1; have hfz51_2 := blk_frozen BK194.out 2; have hfz51_3 := blk_frozen BK194.out 3; obtain ⟨Aoz1, coz1, eo52⟩ := Kd.R_slice HO190.out; subst eo52) | ((with_reducible refine gate_callee (f := 67) rfl ?_); refine goesL_ (some 21) rfl rfl Tryd.func67 (by kernel_rfl) rfl #[.agg #[.int .i64 204, .slice none 0 0, .string (⟨#[]⟩ : ByteArray)]] rfl (by (try simp only [List.map_toArray, List.map_cons, List.map_nil]); first | done | rfl | (simp only [List.length_drop, List.length_take]; rfl)) ?_; (refine (http_PrintResponse.calls k 204 _ _ ([] : List (S74)) (⟨#[]⟩ : ByteArray) t195 t196 _ ?side1 ?side2 ?side3 A3.out).mono ?_); (case side1 => exact Kd.C_nil _ _); (case side2 => exact Nat.le_refl _); (case side3 => exact LaidM.below HT.out (by repeat (first | (with_reducible first | exact HB.out | apply below_alloc | apply pw_below_drewN | apply below_drew1 | refine below_set ?_ GE185.out | refine below_set ?_ GE194.out) | exact HB.out))); rintro e wz4 ⟨rfl, hb⟩; refine ⟨_, rfl, ?_⟩; have n0_ := Aside0.mk (Kd.R_below (by zra; exact (Kd.R_mono (Kd.R_far (p := ⟨gb194, 3, none⟩) (Kd.R_far (p := ⟨gb194, 2, none⟩) (Kd.R_far (p := ⟨gb194, 1, none⟩) (Kd.R_far (p := ⟨gb194, 0, none⟩) (Kd.R_types HO181.out BK194.out (by decide)) (fun _ hk => hk.2) (.string t186)) (fun _ hk => hk.2) (.string t187)) (fun _ hk => hk.2) (.slice Aoz1 t188.length coz1)) (fun _ hk => hk.2) (.string t191)) (fun _ h_ => h_.1))) hb); have n1_ := Aside0.mk (Kd.R_below (by zra; exact (Kd.R_mono (Kd.R_far (p := ⟨gb194, 3, none⟩) (Kd.R_far (p := ⟨gb194, 2, none⟩) (Kd.R_far (p := ⟨gb194, 1, none⟩) (Kd.R_far (p := ⟨gb194, 0, none⟩) (Kd.R_types HO190.out BK194.out (by decide)) (fun _ hk => hk.2) (.string t186)) (fun _ hk => hk.2) (.string t187)) (fun _ hk => hk.2) (.slice Aoz1 t188.length coz1)) (fun _ hk => hk.2) (.string t191)) (fun _ h_ => h_.1))) hb); have n2_ := Aside0.mk (blk_below (g := gb185) (o := .cells #[.string t177, .string t178, .slice Aoz0 t179.length coz0, .string t182] 65 (0, 0)) (by zda; refine blk_far ?_ NB185_194.out _; zda; refine blk_far ?_ NB185_194.out _; zda; refine blk_far ?_ NB185_194.out _; zda; refine blk_far ?_ NB185_194.out _; zda; exact BK185.out) hb); have n3_ := Aside0.mk (blk_below (g := gb194) (o := .cells #[.string t186, .string t187, .slice Aoz1 t188.length coz1, .string t191] 65 (0, 0)) (by zda; refine blk_put (cs := #[.string t186, .string t187, .slice Aoz1 t188.length coz1, .string (⟨#[]⟩ : ByteArray)]) ?_ 3 _ rfl; zda; refine blk_put (cs := #[.string t186, .string t187, .slice none 0 0, .string (⟨#[]⟩ : ByteArray)]) ?_ 2 _ rfl; zda; refine blk_put (cs := #[.string t186, .string (⟨#[]⟩ : ByteArray), .slice none 0 0, .string (⟨#[]⟩ : ByteArray)]) ?_ 1 _ rfl; zda; refine blk_put (cs := #[.string (⟨#[]⟩ : ByteArray), .string (⟨#[]⟩ : ByteArray), .slice none 0 0, .string (⟨#[]⟩ : ByteArray)]) ?_ 0 _ rfl; zda; exact BK194.out) hb); have n4_ := Aside0.mk (below_step (by repeat (first | (with_reducible first | exact HB.out | apply below_alloc | apply pw_below_drewN | apply below_drew1 | refine below_set ?_ GE185.out | refine below_set ?_ GE194.out) | exact HB.out)) hb); clear HO181; clear HO190; clear BK185; clear BK194; clear HB; have HO181 := n0_; have HO190 := n1_; have BK185 := n2_; have BK194 := n3_; have HB := n4_; clear n0_ n1_ n2_ n3_ n4_; (try clear hb); (try clear hb2); (try clear hk); (try clear hi); have hcz54_0 : wz4.cell? ⟨gb185, 0, none⟩ = some (.string t177) := (blk_cell BK185.out 0).trans rfl; have hcz54_1 : wz4.cell? ⟨gb185, 1, none⟩ = some (.string t178) := (blk_cell BK185.out 1).trans rfl; have hcz54_2 : wz4.cell? ⟨gb185, 2, none⟩ = some (.slice Aoz0 t179.length coz0) := (blk_cell BK185.out 2).trans rfl; have hcz54_3 : wz4.cell? ⟨gb185, 3, none⟩ = some (.string t182) := (blk_cell BK185.out 3).trans rfl; have hfz54_0 := blk_frozen BK185.out 0; have hfz54_1 := blk_frozen BK185.out 1; have hfz54_2 := blk_frozen BK185.out 2; have hfz54_3 := blk_frozen BK185.out 3))
      go_ret
      zq7
    ·rw [if_neg c7] at H
     have c7b0 : (t183 == 30) = false := beq_eq_false_iff_ne.mpr c7
     have c7b1 : (t183 != 30) = true := bne_iff_ne.mpr c7
     zq6
     go_enter Tryd.func47, Tryd.ntmps47
     go_wp2_with (first | zf0 | ((with_reducible refine gate_dst (N := 1) rfl ?_); (try (refine gate_guard (by rfl) ?_; dsimp only)); refine box_event ?hg (N := 1) ?hd (cs := #[.string (⟨#[]⟩ : ByteArray), .string (⟨#[]⟩ : ByteArray), .slice none 0 0, .string (⟨#[]⟩ : ByteArray)]) (t := 65) ?hr ?_; (case hd => rfl); (case hg => rfl); (case hr => first | (go_simp; done) | (go_simp; rfl)); intro gb185 hg wz1 hbox hb; have n0_ := Aside0.mk (Kd.R_below (by zra; exact HO181.out) hb); have n1_ := Aside0.mk (below_step (by repeat (first | (with_reducible first | exact HB.out | apply below_alloc | apply pw_below_drewN | apply below_drew1) | exact HB.out)) hb); have n2_ := Aside0.mk (hbox); have n3_ := Aside0.mk ((by rw [hg]; exact (below_size (by repeat (first | (with_reducible first | exact HB.out | apply below_alloc | apply pw_below_drewN | apply below_drew1) | exact HB.out))) : w.heap.size ≤ gb185)); have n4_ := Aside0.mk ((by rw [hg]; exact (below_size (by repeat (first | (with_reducible first | exact HB.out | apply below_alloc | apply pw_below_drewN | apply below_drew1) | exact HB.out))) : w.heap.size ≤ gb185)); clear HO181; clear HB; have HO181 := n0_; have HB := n1_; have BK185 := n2_; have GW185 := n3_; have GE185 := n4_; clear n0_ n1_ n2_ n3_ n4_; clear hb hbox hg; have hcz57_0 : wz1.cell? ⟨gb185, 0, none⟩ = some (.string (⟨#[]⟩ : ByteArray)) := (blk_cell BK185.out 0).trans rfl; have hcz57_1 : wz1.cell? ⟨gb185, 1, none⟩ = some (.string (⟨#[]⟩ : ByteArray)) := (blk_cell BK185.out 1).trans rfl; have hcz57_2 : wz1.cell? ⟨gb185, 2, none⟩ = some (.slice none 0 0) := (blk_cell BK185.out 2).trans rfl; have hcz57_3 : wz1.cell? ⟨gb185, 3, none⟩ = some (.string (⟨#[]⟩ : ByteArray)) := (blk_cell BK185.out 3).trans rfl; have hfz57_0 := blk_frozen BK185.out 0; have hfz57_1 := blk_frozen BK185.out 1; have hfz57_2 := blk_frozen BK185.out 2; have hfz57_3 := blk_frozen BK185.out 3; obtain ⟨Aoz0, coz0, eo58⟩ := Kd.R_slice HO181.out; subst eo58) | zf1 | ((with_reducible refine gate_dst (N := 4) rfl ?_); (try (refine gate_guard (by rfl) ?_; dsimp only)); refine box_event ?hg (N := 4) ?hd (cs := #[.string (⟨#[]⟩ : ByteArray), .string (⟨#[]⟩ : ByteArray), .slice none 0 0, .string (⟨#[]⟩ : ByteArray)]) (t := 65) ?hr ?_; (case hd => rfl); (case hg => rfl); (case hr => first | (go_simp; done) | (go_simp; rfl)); intro gb194 hg wz3 hbox hb; have n0_ := Aside0.mk (Kd.R_below (by zra; exact HO181.out) hb); have n1_ := Aside0.mk (Kd.R_below (by zra; exact HO190.out) hb); have n2_ := Aside0.mk (blk_below (g := gb185) (o := .cells #[.string t177, .string t178, .slice Aoz0 t179.length coz0, .string t182] 65 (0, 0)) (by zda; exact BK185.out) hb); have n3_ := Aside0.mk (below_step (by repeat (first | (with_reducible first | exact HB.out | apply below_alloc | apply pw_below_drewN | apply below_drew1 | refine below_set ?_ GE185.out) | exact HB.out)) hb); have n4_ := Aside0.mk (hbox); have n5_ := Aside0.mk ((by rw [hg]; exact (below_size (by repeat (first | (with_reducible first | exact HB.out | apply below_alloc | apply pw_below_drewN | apply below_drew1 | refine below_set ?_ GE185.out) | exact HB.out))) : w.heap.size ≤ gb194)); have n6_ := Aside0.mk ((by rw [hg]; exact (below_size (by repeat (first | (with_reducible first | exact HB.out | apply below_alloc | apply pw_below_drewN | apply below_drew1 | refine below_set ?_ GE185.out) | exact HB.out))) : w.heap.size ≤ gb194)); have n7_ := Aside0.mk ((by rw [hg]; exact Nat.ne_of_lt (blk_lt (g := gb185) (o := .cells #[.string t177, .string t178, .slice Aoz0 t179.length coz0, .string t182] 65 (0, 0)) (by zda; exact BK185.out)) : gb185 ≠ gb194)); have n8_ := Aside0.mk ((by rw [hg]; exact Nat.ne_of_gt (blk_lt (g := gb185) (o := .cells #[.string t177, .string t178, .slice Aoz0 t179.length coz0, .string t182] 65 (0, 0)) (by zda; exact BK185.out)) : gb194 ≠ gb185)); clear HO181; clear HO190; clear BK185; clear HB; have HO181 := n0_; have HO190 := n1_; have BK185 := n2_; have HB := n3_; have BK194 := n4_; have GW194 := n5_; have GE194 := n6_; have NB185_194 := n7_; have NB194_185 := n8_; clear n0_ n1_ n2_ n3_ n4_ n5_ n6_ n7_ n8_; clear hb hbox hg; have hnb61 := NB194_185.out; have hnc61 := NB185_194.out; have hcz62_0 : wz3.cell? ⟨gb194, 0, none⟩ = some (.string (⟨#[]⟩ : ByteArray)) := (blk_cell BK194.out 0).trans rfl; have hcz62_1 : wz3.cell? ⟨gb194, 1, none⟩ = some (.string (⟨#[]⟩ : ByteArray)) := (blk_cell BK194.out 1).trans rfl; have hcz62_2 : wz3.cell? ⟨gb194, 2, none⟩ = some (.slice none 0 0) := (blk_cell BK194.out 2).trans rfl; have hcz62_3 : wz3.cell? ⟨gb194, 3, none⟩ = some (.string (⟨#[]⟩ : ByteArray)) := (blk_cell BK194.out 3).trans rfl; have hfz62_0 := blk_frozen BK194.out 0; have hfz62_1 := blk_frozen BK194.out 1; have hfz62_2 := blk_frozen BK194.out 2; have hfz62_3 := blk_frozen BK194.out 3; obtain ⟨Aoz1, coz1, eo63⟩ := Kd.R_slice HO190.out; subst eo63) | ((with_reducible refine gate_callee (f := 67) rfl ?_); refine goesL_ (some 21) rfl rfl Tryd.func67 (by kernel_rfl) rfl #[.agg #[.int .i64 204, .slice none 0 0, .string (⟨#[]⟩ : ByteArray)]] rfl (by (try simp only [List.map_toArray, List.map_cons, List.map_nil]); first | done | rfl | (simp only [List.length_drop, List.length_take]; rfl)) ?_; (refine (http_PrintResponse.calls k 204 _ _ ([] : List (S74)) (⟨#[]⟩ : ByteArray) t195 t196 _ ?side1 ?side2 ?side3 A3.out).mono ?_); (case side1 => exact Kd.C_nil _ _); (case side2 => exact Nat.le_refl _); (case side3 => exact LaidM.below HT.out (by repeat (first | (with_reducible first | exact HB.out | apply below_alloc | apply pw_below_drewN | apply below_drew1 | refine below_set ?_ GE185.out | refine below_set ?_ GE194.out) | exact HB.out))); rintro e wz4 ⟨rfl, hb⟩; refine ⟨_, rfl, ?_⟩; have n0_ := Aside0.mk (Kd.R_below (by zra; exact (Kd.R_mono (Kd.R_far (p := ⟨gb194, 3, none⟩) (Kd.R_far (p := ⟨gb194, 2, none⟩) (Kd.R_far (p := ⟨gb194, 1, none⟩) (Kd.R_far (p := ⟨gb194, 0, none⟩) (Kd.R_types HO181.out BK194.out (by decide)) (fun _ hk => hk.2) (.string t186)) (fun _ hk => hk.2) (.string t187)) (fun _ hk => hk.2) (.slice Aoz1 t188.length coz1)) (fun _ hk => hk.2) (.string t191)) (fun _ h_ => h_.1))) hb); have n1_ := Aside0.mk (Kd.R_below (by zra; exact (Kd.R_mono (Kd.R_far (p := ⟨gb194, 3, none⟩) (Kd.R_far (p := ⟨gb194, 2, none⟩) (Kd.R_far (p := ⟨gb194, 1, none⟩) (Kd.R_far (p := ⟨gb194, 0, none⟩) (Kd.R_types HO190.out BK194.out (by decide)) (fun _ hk => hk.2) (.string t186)) (fun _ hk => hk.2) (.string t187)) (fun _ hk => hk.2) (.slice Aoz1 t188.length coz1)) (fun _ hk => hk.2) (.string t191)) (fun _ h_ => h_.1))) hb); have n2_ := Aside0.mk (blk_below (g := gb185) (o := .cells #[.string t177, .string t178, .slice Aoz0 t179.length coz0, .string t182] 65 (0, 0)) (by zda; refine blk_far ?_ NB185_194.out _; zda; refine blk_far ?_ NB185_194.out _; zda; refine blk_far ?_ NB185_194.out _; zda; refine blk_far ?_ NB185_194.out _; zda; exact BK185.out) hb); have n3_ := Aside0.mk (blk_below (g := gb194) (o := .cells #[.string t186, .string t187, .slice Aoz1 t188.length coz1, .string t191] 65 (0, 0)) (by zda; refine blk_put (cs := #[.string t186, .string t187, .slice Aoz1 t188.length coz1, .string (⟨#[]⟩ : ByteArray)]) ?_ 3 _ rfl; zda; refine blk_put (cs := #[.string t186, .string t187, .slice none 0 0, .string (⟨#[]⟩ : ByteArray)]) ?_ 2 _ rfl; zda; refine blk_put (cs := #[.string t186, .string (⟨#[]⟩ : ByteArray), .slice none 0 0, .string (⟨#[]⟩ : ByteArray)]) ?_ 1 _ rfl; zda; refine blk_put (cs := #[.string (⟨#[]⟩ : ByteArray), .string (⟨#[]⟩ : ByteArray), .slice none 0 0, .string (⟨#[]⟩ : ByteArray)]) ?_ 0 _ rfl; zda; exact BK194.out) hb); have n4_ := Aside0.mk (below_step (by repeat (first | (with_reducible first | exact HB.out | apply below_alloc | apply pw_below_drewN | apply below_drew1 | refine below_set ?_ GE185.out | refine below_set ?_ GE194.out) | exact HB.out)) hb); clear HO181; clear HO190; clear BK185; clear BK194; clear HB; have HO181 := n0_; have HO190 := n1_; have BK185 := n2_; have BK194 := n3_; have HB := n4_; clear n0_ n1_ n2_ n3_ n4_; (try clear hb); (try clear hb2); (try clear hk); (try clear hi); have hcz65_0 : wz4.cell? ⟨gb185, 0, none⟩ = some (.string t177) := (blk_cell BK185.out 0).trans rfl; have hcz65_1 : wz4.cell? ⟨gb185, 1, none⟩ = some (.string t178) := (blk_cell BK185.out 1).trans rfl; have hcz65_2 : wz4.cell? ⟨gb185, 2, none⟩ = some (.slice Aoz0 t179.length coz0) := (blk_cell BK185.out 2).trans rfl; have hcz65_3 : wz4.cell? ⟨gb185, 3, none⟩ = some (.string t182) := (blk_cell BK185.out 3).trans rfl; have hfz65_0 := blk_frozen BK185.out 0; have hfz65_1 := blk_frozen BK185.out 1; have hfz65_2 := blk_frozen BK185.out 2; have hfz65_3 := blk_frozen BK185.out 3))
     go_ret
     zq7
   ·rw [if_neg c6] at H
    have c6b0 : ((t179.length : Int) == 1) = false := beq_eq_false_iff_ne.mpr c6
    have c6b1 : ((t179.length : Int) != 1) = true := bne_iff_ne.mpr c6
    zq6
    go_enter Tryd.func47, Tryd.ntmps47
    go_wp2_with (first | zf0 | ((with_reducible refine gate_dst (N := 1) rfl ?_); (try (refine gate_guard (by rfl) ?_; dsimp only)); refine box_event ?hg (N := 1) ?hd (cs := #[.string (⟨#[]⟩ : ByteArray), .string (⟨#[]⟩ : ByteArray), .slice none 0 0, .string (⟨#[]⟩ : ByteArray)]) (t := 65) ?hr ?_; (case hd => rfl); (case hg => rfl); (case hr => first | (go_simp; done) | (go_simp; rfl)); intro gb185 hg wz1 hbox hb; have n0_ := Aside0.mk (Kd.R_below (by zra; exact HO181.out) hb); have n1_ := Aside0.mk (below_step (by repeat (first | (with_reducible first | exact HB.out | apply below_alloc | apply pw_below_drewN | apply below_drew1) | exact HB.out)) hb); have n2_ := Aside0.mk (hbox); have n3_ := Aside0.mk ((by rw [hg]; exact (below_size (by repeat (first | (with_reducible first | exact HB.out | apply below_alloc | apply pw_below_drewN | apply below_drew1) | exact HB.out))) : w.heap.size ≤ gb185)); have n4_ := Aside0.mk ((by rw [hg]; exact (below_size (by repeat (first | (with_reducible first | exact HB.out | apply below_alloc | apply pw_below_drewN | apply below_drew1) | exact HB.out))) : w.heap.size ≤ gb185)); clear HO181; clear HB; have HO181 := n0_; have HB := n1_; have BK185 := n2_; have GW185 := n3_; have GE185 := n4_; clear n0_ n1_ n2_ n3_ n4_; clear hb hbox hg; have hcz68_0 : wz1.cell? ⟨gb185, 0, none⟩ = some (.string (⟨#[]⟩ : ByteArray)) := (blk_cell BK185.out 0).trans rfl; have hcz68_1 : wz1.cell? ⟨gb185, 1, none⟩ = some (.string (⟨#[]⟩ : ByteArray)) := (blk_cell BK185.out 1).trans rfl; have hcz68_2 : wz1.cell? ⟨gb185, 2, none⟩ = some (.slice none 0 0) := (blk_cell BK185.out 2).trans rfl; have hcz68_3 : wz1.cell? ⟨gb185, 3, none⟩ = some (.string (⟨#[]⟩ : ByteArray)) := (blk_cell BK185.out 3).trans rfl; have hfz68_0 := blk_frozen BK185.out 0; have hfz68_1 := blk_frozen BK185.out 1; have hfz68_2 := blk_frozen BK185.out 2; have hfz68_3 := blk_frozen BK185.out 3; obtain ⟨Aoz0, coz0, eo69⟩ := Kd.R_slice HO181.out; subst eo69) | zf1 | ((with_reducible refine gate_dst (N := 4) rfl ?_); (try (refine gate_guard (by rfl) ?_; dsimp only)); refine box_event ?hg (N := 4) ?hd (cs := #[.string (⟨#[]⟩ : ByteArray), .string (⟨#[]⟩ : ByteArray), .slice none 0 0, .string (⟨#[]⟩ : ByteArray)]) (t := 65) ?hr ?_; (case hd => rfl); (case hg => rfl); (case hr => first | (go_simp; done) | (go_simp; rfl)); intro gb194 hg wz3 hbox hb; have n0_ := Aside0.mk (Kd.R_below (by zra; exact HO181.out) hb); have n1_ := Aside0.mk (Kd.R_below (by zra; exact HO190.out) hb); have n2_ := Aside0.mk (blk_below (g := gb185) (o := .cells #[.string t177, .string t178, .slice Aoz0 t179.length coz0, .string t182] 65 (0, 0)) (by zda; exact BK185.out) hb); have n3_ := Aside0.mk (below_step (by repeat (first | (with_reducible first | exact HB.out | apply below_alloc | apply pw_below_drewN | apply below_drew1 | refine below_set ?_ GE185.out) | exact HB.out)) hb); have n4_ := Aside0.mk (hbox); have n5_ := Aside0.mk ((by rw [hg]; exact (below_size (by repeat (first | (with_reducible first | exact HB.out | apply below_alloc | apply pw_below_drewN | apply below_drew1 | refine below_set ?_ GE185.out) | exact HB.out))) : w.heap.size ≤ gb194)); have n6_ := Aside0.mk ((by rw [hg]; exact (below_size (by repeat (first | (with_reducible first | exact HB.out | apply below_alloc | apply pw_below_drewN | apply below_drew1 | refine below_set ?_ GE185.out) | exact HB.out))) : w.heap.size ≤ gb194)); have n7_ := Aside0.mk ((by rw [hg]; exact Nat.ne_of_lt (blk_lt (g := gb185) (o := .cells #[.string t177, .string t178, .slice Aoz0 t179.length coz0, .string t182] 65 (0, 0)) (by zda; exact BK185.out)) : gb185 ≠ gb194)); have n8_ := Aside0.mk ((by rw [hg]; exact Nat.ne_of_gt (blk_lt (g := gb185) (o := .cells #[.string t177, .string t178, .slice Aoz0 t179.length coz0, .string t182] 65 (0, 0)) (by zda; exact BK185.out)) : gb194 ≠ gb185)); clear HO181; clear HO190; clear BK185; clear HB; have HO181 := n0_; have HO190 := n1_; have BK185 := n2_; have HB := n3_; have BK194 := n4_; have GW194 := n5_; have GE194 := n6_; have NB185_194 := n7_; have NB194_185 := n8_; clear n0_ n1_ n2_ n3_ n4_ n5_ n6_ n7_ n8_; clear hb hbox hg; have hnb72 := NB194_185.out; have hnc72 := NB185_194.out; have hcz73_0 : wz3.cell? ⟨gb194, 0, none⟩ = some (.string (⟨#[]⟩ : ByteArray)) := (blk_cell BK194.out 0).trans rfl; have hcz73_1 : wz3.cell? ⟨gb194, 1, none⟩ = some (.string (⟨#[]⟩ : ByteArray)) := (blk_cell BK194.out 1).trans rfl; have hcz73_2 : wz3.cell? ⟨gb194, 2, none⟩ = some (.slice none 0 0) := (blk_cell BK194.out 2).trans rfl; have hcz73_3 : wz3.cell? ⟨gb194, 3, none⟩ = some (.string (⟨#[]⟩ : ByteArray)) := (blk_cell BK194.out 3).trans rfl; have hfz73_0 := blk_frozen BK194.out 0; have hfz73_1 := blk_frozen BK194.out 1; have hfz73_2 := blk_frozen BK194.out 2; have hfz73_3 := blk_frozen BK194.out 3; obtain ⟨Aoz1, coz1, eo74⟩ := Kd.R_slice HO190.out; subst eo74) | ((with_reducible refine gate_callee (f := 67) rfl ?_); refine goesL_ (some 21) rfl rfl Tryd.func67 (by kernel_rfl) rfl #[.agg #[.int .i64 204, .slice none 0 0, .string (⟨#[]⟩ : ByteArray)]] rfl (by (try simp only [List.map_toArray, List.map_cons, List.map_nil]); first | done | rfl | (simp only [List.length_drop, List.length_take]; rfl)) ?_; (refine (http_PrintResponse.calls k 204 _ _ ([] : List (S74)) (⟨#[]⟩ : ByteArray) t195 t196 _ ?side1 ?side2 ?side3 A3.out).mono ?_); (case side1 => exact Kd.C_nil _ _); (case side2 => exact Nat.le_refl _); (case side3 => exact LaidM.below HT.out (by repeat (first | (with_reducible first | exact HB.out | apply below_alloc | apply pw_below_drewN | apply below_drew1 | refine below_set ?_ GE185.out | refine below_set ?_ GE194.out) | exact HB.out))); rintro e wz4 ⟨rfl, hb⟩; refine ⟨_, rfl, ?_⟩; have n0_ := Aside0.mk (Kd.R_below (by zra; exact (Kd.R_mono (Kd.R_far (p := ⟨gb194, 3, none⟩) (Kd.R_far (p := ⟨gb194, 2, none⟩) (Kd.R_far (p := ⟨gb194, 1, none⟩) (Kd.R_far (p := ⟨gb194, 0, none⟩) (Kd.R_types HO181.out BK194.out (by decide)) (fun _ hk => hk.2) (.string t186)) (fun _ hk => hk.2) (.string t187)) (fun _ hk => hk.2) (.slice Aoz1 t188.length coz1)) (fun _ hk => hk.2) (.string t191)) (fun _ h_ => h_.1))) hb); have n1_ := Aside0.mk (Kd.R_below (by zra; exact (Kd.R_mono (Kd.R_far (p := ⟨gb194, 3, none⟩) (Kd.R_far (p := ⟨gb194, 2, none⟩) (Kd.R_far (p := ⟨gb194, 1, none⟩) (Kd.R_far (p := ⟨gb194, 0, none⟩) (Kd.R_types HO190.out BK194.out (by decide)) (fun _ hk => hk.2) (.string t186)) (fun _ hk => hk.2) (.string t187)) (fun _ hk => hk.2) (.slice Aoz1 t188.length coz1)) (fun _ hk => hk.2) (.string t191)) (fun _ h_ => h_.1))) hb); have n2_ := Aside0.mk (blk_below (g := gb185) (o := .cells #[.string t177, .string t178, .slice Aoz0 t179.length coz0, .string t182] 65 (0, 0)) (by zda; refine blk_far ?_ NB185_194.out _; zda; refine blk_far ?_ NB185_194.out _; zda; refine blk_far ?_ NB185_194.out _; zda; refine blk_far ?_ NB185_194.out _; zda; exact BK185.out) hb); have n3_ := Aside0.mk (blk_below (g := gb194) (o := .cells #[.string t186, .string t187, .slice Aoz1 t188.length coz1, .string t191] 65 (0, 0)) (by zda; refine blk_put (cs := #[.string t186, .string t187, .slice Aoz1 t188.length coz1, .string (⟨#[]⟩ : ByteArray)]) ?_ 3 _ rfl; zda; refine blk_put (cs := #[.string t186, .string t187, .slice none 0 0, .string (⟨#[]⟩ : ByteArray)]) ?_ 2 _ rfl; zda; refine blk_put (cs := #[.string t186, .string (⟨#[]⟩ : ByteArray), .slice none 0 0, .string (⟨#[]⟩ : ByteArray)]) ?_ 1 _ rfl; zda; refine blk_put (cs := #[.string (⟨#[]⟩ : ByteArray), .string (⟨#[]⟩ : ByteArray), .slice none 0 0, .string (⟨#[]⟩ : ByteArray)]) ?_ 0 _ rfl; zda; exact BK194.out) hb); have n4_ := Aside0.mk (below_step (by repeat (first | (with_reducible first | exact HB.out | apply below_alloc | apply pw_below_drewN | apply below_drew1 | refine below_set ?_ GE185.out | refine below_set ?_ GE194.out) | exact HB.out)) hb); clear HO181; clear HO190; clear BK185; clear BK194; clear HB; have HO181 := n0_; have HO190 := n1_; have BK185 := n2_; have BK194 := n3_; have HB := n4_; clear n0_ n1_ n2_ n3_ n4_; (try clear hb); (try clear hb2); (try clear hk); (try clear hi); have hcz76_0 : wz4.cell? ⟨gb185, 0, none⟩ = some (.string t177) := (blk_cell BK185.out 0).trans rfl; have hcz76_1 : wz4.cell? ⟨gb185, 1, none⟩ = some (.string t178) := (blk_cell BK185.out 1).trans rfl; have hcz76_2 : wz4.cell? ⟨gb185, 2, none⟩ = some (.slice Aoz0 t179.length coz0) := (blk_cell BK185.out 2).trans rfl; have hcz76_3 : wz4.cell? ⟨gb185, 3, none⟩ = some (.string t182) := (blk_cell BK185.out 3).trans rfl; have hfz76_0 := blk_frozen BK185.out 0; have hfz76_1 := blk_frozen BK185.out 1; have hfz76_2 := blk_frozen BK185.out 2; have hfz76_3 := blk_frozen BK185.out 3))
    go_ret
    zq7
  ·rw [if_neg c5] at H
   have c5b0 : (t178.toList == ([47, 97, 47] : List UInt8)) = false := beq_eq_false_iff_ne.mpr c5
   have c5b1 : (t178.toList != ([47, 97, 47] : List UInt8)) = true := bne_iff_ne.mpr c5
   zq6
   go_enter Tryd.func47, Tryd.ntmps47
   go_wp2_with (first | zf0 | ((with_reducible refine gate_dst (N := 1) rfl ?_); (try (refine gate_guard (by rfl) ?_; dsimp only)); refine box_event ?hg (N := 1) ?hd (cs := #[.string (⟨#[]⟩ : ByteArray), .string (⟨#[]⟩ : ByteArray), .slice none 0 0, .string (⟨#[]⟩ : ByteArray)]) (t := 65) ?hr ?_; (case hd => rfl); (case hg => rfl); (case hr => first | (go_simp; done) | (go_simp; rfl)); intro gb185 hg wz1 hbox hb; have n0_ := Aside0.mk (Kd.R_below (by zra; exact HO181.out) hb); have n1_ := Aside0.mk (below_step (by repeat (first | (with_reducible first | exact HB.out | apply below_alloc | apply pw_below_drewN | apply below_drew1) | exact HB.out)) hb); have n2_ := Aside0.mk (hbox); have n3_ := Aside0.mk ((by rw [hg]; exact (below_size (by repeat (first | (with_reducible first | exact HB.out | apply below_alloc | apply pw_below_drewN | apply below_drew1) | exact HB.out))) : w.heap.size ≤ gb185)); have n4_ := Aside0.mk ((by rw [hg]; exact (below_size (by repeat (first | (with_reducible first | exact HB.out | apply below_alloc | apply pw_below_drewN | apply below_drew1) | exact HB.out))) : w.heap.size ≤ gb185)); clear HO181; clear HB; have HO181 := n0_; have HB := n1_; have BK185 := n2_; have GW185 := n3_; have GE185 := n4_; clear n0_ n1_ n2_ n3_ n4_; clear hb hbox hg; have hcz79_0 : wz1.cell? ⟨gb185, 0, none⟩ = some (.string (⟨#[]⟩ : ByteArray)) := (blk_cell BK185.out 0).trans rfl; have hcz79_1 : wz1.cell? ⟨gb185, 1, none⟩ = some (.string (⟨#[]⟩ : ByteArray)) := (blk_cell BK185.out 1).trans rfl; have hcz79_2 : wz1.cell? ⟨gb185, 2, none⟩ = some (.slice none 0 0) := (blk_cell BK185.out 2).trans rfl; have hcz79_3 : wz1.cell? ⟨gb185, 3, none⟩ = some (.string (⟨#[]⟩ : ByteArray)) := (blk_cell BK185.out 3).trans rfl; have hfz79_0 := blk_frozen BK185.out 0; have hfz79_1 := blk_frozen BK185.out 1; have hfz79_2 := blk_frozen BK185.out 2; have hfz79_3 := blk_frozen BK185.out 3; obtain ⟨Aoz0, coz0, eo80⟩ := Kd.R_slice HO181.out; subst eo80) | zf1 | ((with_reducible refine gate_dst (N := 4) rfl ?_); (try (refine gate_guard (by rfl) ?_; dsimp only)); refine box_event ?hg (N := 4) ?hd (cs := #[.string (⟨#[]⟩ : ByteArray), .string (⟨#[]⟩ : ByteArray), .slice none 0 0, .string (⟨#[]⟩ : ByteArray)]) (t := 65) ?hr ?_; (case hd => rfl); (case hg => rfl); (case hr => first | (go_simp; done) | (go_simp; rfl)); intro gb194 hg wz3 hbox hb; have n0_ := Aside0.mk (Kd.R_below (by zra; exact HO181.out) hb); have n1_ := Aside0.mk (Kd.R_below (by zra; exact HO190.out) hb); have n2_ := Aside0.mk (blk_below (g := gb185) (o := .cells #[.string t177, .string t178, .slice Aoz0 t179.length coz0, .string t182] 65 (0, 0)) (by zda; exact BK185.out) hb); have n3_ := Aside0.mk (below_step (by repeat (first | (with_reducible first | exact HB.out | apply below_alloc | apply pw_below_drewN | apply below_drew1 | refine below_set ?_ GE185.out) | exact HB.out)) hb); have n4_ := Aside0.mk (hbox); have n5_ := Aside0.mk ((by rw [hg]; exact (below_size (by repeat (first | (with_reducible first | exact HB.out | apply below_alloc | apply pw_below_drewN | apply below_drew1 | refine below_set ?_ GE185.out) | exact HB.out))) : w.heap.size ≤ gb194)); have n6_ := Aside0.mk ((by rw [hg]; exact (below_size (by repeat (first | (with_reducible first | exact HB.out | apply below_alloc | apply pw_below_drewN | apply below_drew1 | refine below_set ?_ GE185.out) | exact HB.out))) : w.heap.size ≤ gb194)); have n7_ := Aside0.mk ((by rw [hg]; exact Nat.ne_of_lt (blk_lt (g := gb185) (o := .cells #[.string t177, .string t178, .slice Aoz0 t179.length coz0, .string t182] 65 (0, 0)) (by zda; exact BK185.out)) : gb185 ≠ gb194)); have n8_ := Aside0.mk ((by rw [hg]; exact Nat.ne_of_gt (blk_lt (g := gb185) (o := .cells #[.string t177, .string t178, .slice Aoz0 t179.length coz0, .string t182] 65 (0, 0)) (by zda; exact BK185.out)) : gb194 ≠ gb185)); clear HO181; clear HO190; clear BK185; clear HB; have HO181 := n0_; have HO190 := n1_; have BK185 := n2_; have HB := n3_; have BK194 := n4_; have GW194 := n5_; have GE194 := n6_; have NB185_194 := n7_; have NB194_185 := n8_; clear n0_ n1_ n2_ n3_ n4_ n5_ n6_ n7_ n8_; clear hb hbox hg; have hnb83 := NB194_185.out; have hnc83 := NB185_194.out; have hcz84_0 : wz3.cell? ⟨gb194, 0, none⟩ = some (.string (⟨#[]⟩ : ByteArray)) := (blk_cell BK194.out 0).trans rfl; have hcz84_1 : wz3.cell? ⟨gb194, 1, none⟩ = some (.string (⟨#[]⟩ : ByteArray)) := (blk_cell BK194.out 1).trans rfl; have hcz84_2 : wz3.cell? ⟨gb194, 2, none⟩ = some (.slice none 0 0) := (blk_cell BK194.out 2).trans rfl; have hcz84_3 : wz3.cell? ⟨gb194, 3, none⟩ = some (.string (⟨#[]⟩ : ByteArray)) := (blk_cell BK194.out 3).trans rfl; have hfz84_0 := blk_frozen BK194.out 0; have hfz84_1 := blk_frozen BK194.out 1; have hfz84_2 := blk_frozen BK194.out 2; have hfz84_3 := blk_frozen BK194.out 3; obtain ⟨Aoz1, coz1, eo85⟩ := Kd.R_slice HO190.out; subst eo85) | ((with_reducible refine gate_callee (f := 67) rfl ?_); refine goesL_ (some 21) rfl rfl Tryd.func67 (by kernel_rfl) rfl #[.agg #[.int .i64 204, .slice none 0 0, .string (⟨#[]⟩ : ByteArray)]] rfl (by (try simp only [List.map_toArray, List.map_cons, List.map_nil]); first | done | rfl | (simp only [List.length_drop, List.length_take]; rfl)) ?_; (refine (http_PrintResponse.calls k 204 _ _ ([] : List (S74)) (⟨#[]⟩ : ByteArray) t195 t196 _ ?side1 ?side2 ?side3 A3.out).mono ?_); (case side1 => exact Kd.C_nil _ _); (case side2 => exact Nat.le_refl _); (case side3 => exact LaidM.below HT.out (by repeat (first | (with_reducible first | exact HB.out | apply below_alloc | apply pw_below_drewN | apply below_drew1 | refine below_set ?_ GE185.out | refine below_set ?_ GE194.out) | exact HB.out))); rintro e wz4 ⟨rfl, hb⟩; refine ⟨_, rfl, ?_⟩; have n0_ := Aside0.mk (Kd.R_below (by zra; exact (Kd.R_mono (Kd.R_far (p := ⟨gb194, 3, none⟩) (Kd.R_far (p := ⟨gb194, 2, none⟩) (Kd.R_far (p := ⟨gb194, 1, none⟩) (Kd.R_far (p := ⟨gb194, 0, none⟩) (Kd.R_types HO181.out BK194.out (by decide)) (fun _ hk => hk.2) (.string t186)) (fun _ hk => hk.2) (.string t187)) (fun _ hk => hk.2) (.slice Aoz1 t188.length coz1)) (fun _ hk => hk.2) (.string t191)) (fun _ h_ => h_.1))) hb); have n1_ := Aside0.mk (Kd.R_below (by zra; exact (Kd.R_mono (Kd.R_far (p := ⟨gb194, 3, none⟩) (Kd.R_far (p := ⟨gb194, 2, none⟩) (Kd.R_far (p := ⟨gb194, 1, none⟩) (Kd.R_far (p := ⟨gb194, 0, none⟩) (Kd.R_types HO190.out BK194.out (by decide)) (fun _ hk => hk.2) (.string t186)) (fun _ hk => hk.2) (.string t187)) (fun _ hk => hk.2) (.slice Aoz1 t188.length coz1)) (fun _ hk => hk.2) (.string t191)) (fun _ h_ => h_.1))) hb); have n2_ := Aside0.mk (blk_below (g := gb185) (o := .cells #[.string t177, .string t178, .slice Aoz0 t179.length coz0, .string t182] 65 (0, 0)) (by zda; refine blk_far ?_ NB185_194.out _; zda; refine blk_far ?_ NB185_194.out _; zda; refine blk_far ?_ NB185_194.out _; zda; refine blk_far ?_ NB185_194.out _; zda; exact BK185.out) hb); have n3_ := Aside0.mk (blk_below (g := gb194) (o := .cells #[.string t186, .string t187, .slice Aoz1 t188.length coz1, .string t191] 65 (0, 0)) (by zda; refine blk_put (cs := #[.string t186, .string t187, .slice Aoz1 t188.length coz1, .string (⟨#[]⟩ : ByteArray)]) ?_ 3 _ rfl; zda; refine blk_put (cs := #[.string t186, .string t187, .slice none 0 0, .string (⟨#[]⟩ : ByteArray)]) ?_ 2 _ rfl; zda; refine blk_put (cs := #[.string t186, .string (⟨#[]⟩ : ByteArray), .slice none 0 0, .string (⟨#[]⟩ : ByteArray)]) ?_ 1 _ rfl; zda; refine blk_put (cs := #[.string (⟨#[]⟩ : ByteArray), .string (⟨#[]⟩ : ByteArray), .slice none 0 0, .string (⟨#[]⟩ : ByteArray)]) ?_ 0 _ rfl; zda; exact BK194.out) hb); have n4_ := Aside0.mk (below_step (by repeat (first | (with_reducible first | exact HB.out | apply below_alloc | apply pw_below_drewN | apply below_drew1 | refine below_set ?_ GE185.out | refine below_set ?_ GE194.out) | exact HB.out)) hb); clear HO181; clear HO190; clear BK185; clear BK194; clear HB; have HO181 := n0_; have HO190 := n1_; have BK185 := n2_; have BK194 := n3_; have HB := n4_; clear n0_ n1_ n2_ n3_ n4_; (try clear hb); (try clear hb2); (try clear hk); (try clear hi); have hcz87_0 : wz4.cell? ⟨gb185, 0, none⟩ = some (.string t177) := (blk_cell BK185.out 0).trans rfl; have hcz87_1 : wz4.cell? ⟨gb185, 1, none⟩ = some (.string t178) := (blk_cell BK185.out 1).trans rfl; have hcz87_2 : wz4.cell? ⟨gb185, 2, none⟩ = some (.slice Aoz0 t179.length coz0) := (blk_cell BK185.out 2).trans rfl; have hcz87_3 : wz4.cell? ⟨gb185, 3, none⟩ = some (.string t182) := (blk_cell BK185.out 3).trans rfl; have hfz87_0 := blk_frozen BK185.out 0; have hfz87_1 := blk_frozen BK185.out 1; have hfz87_2 := blk_frozen BK185.out 2; have hfz87_3 := blk_frozen BK185.out 3))
   go_ret
   zq7
 ·rw [if_neg c4] at H
  have c4b0 : (t177.toList == ([71, 69, 84] : List UInt8)) = false := beq_eq_false_iff_ne.mpr c4
  have c4b1 : (t177.toList != ([71, 69, 84] : List UInt8)) = true := bne_iff_ne.mpr c4
  zq6
  go_enter Tryd.func47, Tryd.ntmps47
  go_wp2_with (first | zf0 | ((with_reducible refine gate_dst (N := 1) rfl ?_); (try (refine gate_guard (by rfl) ?_; dsimp only)); refine box_event ?hg (N := 1) ?hd (cs := #[.string (⟨#[]⟩ : ByteArray), .string (⟨#[]⟩ : ByteArray), .slice none 0 0, .string (⟨#[]⟩ : ByteArray)]) (t := 65) ?hr ?_; (case hd => rfl); (case hg => rfl); (case hr => first | (go_simp; done) | (go_simp; rfl)); intro gb185 hg wz1 hbox hb; have n0_ := Aside0.mk (Kd.R_below (by zra; exact HO181.out) hb); have n1_ := Aside0.mk (below_step (by repeat (first | (with_reducible first | exact HB.out | apply below_alloc | apply pw_below_drewN | apply below_drew1) | exact HB.out)) hb); have n2_ := Aside0.mk (hbox); have n3_ := Aside0.mk ((by rw [hg]; exact (below_size (by repeat (first | (with_reducible first | exact HB.out | apply below_alloc | apply pw_below_drewN | apply below_drew1) | exact HB.out))) : w.heap.size ≤ gb185)); have n4_ := Aside0.mk ((by rw [hg]; exact (below_size (by repeat (first | (with_reducible first | exact HB.out | apply below_alloc | apply pw_below_drewN | apply below_drew1) | exact HB.out))) : w.heap.size ≤ gb185)); clear HO181; clear HB; have HO181 := n0_; have HB := n1_; have BK185 := n2_; have GW185 := n3_; have GE185 := n4_; clear n0_ n1_ n2_ n3_ n4_; clear hb hbox hg; have hcz90_0 : wz1.cell? ⟨gb185, 0, none⟩ = some (.string (⟨#[]⟩ : ByteArray)) := (blk_cell BK185.out 0).trans rfl; have hcz90_1 : wz1.cell? ⟨gb185, 1, none⟩ = some (.string (⟨#[]⟩ : ByteArray)) := (blk_cell BK185.out 1).trans rfl; have hcz90_2 : wz1.cell? ⟨gb185, 2, none⟩ = some (.slice none 0 0) := (blk_cell BK185.out 2).trans rfl; have hcz90_3 : wz1.cell? ⟨gb185, 3, none⟩ = some (.string (⟨#[]⟩ : ByteArray)) := (blk_cell BK185.out 3).trans rfl; have hfz90_0 := blk_frozen BK185.out 0; have hfz90_1 := blk_frozen BK185.out 1; have hfz90_2 := blk_frozen BK185.out 2; have hfz90_3 := blk_frozen BK185.out 3; obtain ⟨Aoz0, coz0, eo91⟩ := Kd.R_slice HO181.out; subst eo91) | zf1 | ((with_reducible refine gate_dst (N := 4) rfl ?_); (try (refine gate_guard (by rfl) ?_; dsimp only)); refine box_event ?hg (N := 4) ?hd (cs := #[.string (⟨#[]⟩ : ByteArray), .string (⟨#[]⟩ : ByteArray), .slice none 0 0, .string (⟨#[]⟩ : ByteArray)]) (t := 65) ?hr ?_; (case hd => rfl); (case hg => rfl); (case hr => first | (go_simp; done) | (go_simp; rfl)); intro gb194 hg wz3 hbox hb; have n0_ := Aside0.mk (Kd.R_below (by zra; exact HO181.out) hb); have n1_ := Aside0.mk (Kd.R_below (by zra; exact HO190.out) hb); have n2_ := Aside0.mk (blk_below (g := gb185) (o := .cells #[.string t177, .string t178, .slice Aoz0 t179.length coz0, .string t182] 65 (0, 0)) (by zda; exact BK185.out) hb); have n3_ := Aside0.mk (below_step (by repeat (first | (with_reducible first | exact HB.out | apply below_alloc | apply pw_below_drewN | apply below_drew1 | refine below_set ?_ GE185.out) | exact HB.out)) hb); have n4_ := Aside0.mk (hbox); have n5_ := Aside0.mk ((by rw [hg]; exact (below_size (by repeat (first | (with_reducible first | exact HB.out | apply below_alloc | apply pw_below_drewN | apply below_drew1 | refine below_set ?_ GE185.out) | exact HB.out))) : w.heap.size ≤ gb194)); have n6_ := Aside0.mk ((by rw [hg]; exact (below_size (by repeat (first | (with_reducible first | exact HB.out | apply below_alloc | apply pw_below_drewN | apply below_drew1 | refine below_set ?_ GE185.out) | exact HB.out))) : w.heap.size ≤ gb194)); have n7_ := Aside0.mk ((by rw [hg]; exact Nat.ne_of_lt (blk_lt (g := gb185) (o := .cells #[.string t177, .string t178, .slice Aoz0 t179.length coz0, .string t182] 65 (0, 0)) (by zda; exact BK185.out)) : gb185 ≠ gb194)); have n8_ := Aside0.mk ((by rw [hg]; exact Nat.ne_of_gt (blk_lt (g := gb185) (o := .cells #[.string t177, .string t178, .slice Aoz0 t179.length coz0, .string t182] 65 (0, 0)) (by zda; exact BK185.out)) : gb194 ≠ gb185)); clear HO181; clear HO190; clear BK185; clear HB; have HO181 := n0_; have HO190 := n1_; have BK185 := n2_; have HB := n3_; have BK194 := n4_; have GW194 := n5_; have GE194 := n6_; have NB185_194 := n7_; have NB194_185 := n8_; clear n0_ n1_ n2_ n3_ n4_ n5_ n6_ n7_ n8_; clear hb hbox hg; have hnb94 := NB194_185.out; have hnc94 := NB185_194.out; have hcz95_0 : wz3.cell? ⟨gb194, 0, none⟩ = some (.string (⟨#[]⟩ : ByteArray)) := (blk_cell BK194.out 0).trans rfl; have hcz95_1 : wz3.cell? ⟨gb194, 1, none⟩ = some (.string (⟨#[]⟩ : ByteArray)) := (blk_cell BK194.out 1).trans rfl; have hcz95_2 : wz3.cell? ⟨gb194, 2, none⟩ = some (.slice none 0 0) := (blk_cell BK194.out 2).trans rfl; have hcz95_3 : wz3.cell? ⟨gb194, 3, none⟩ = some (.string (⟨#[]⟩ : ByteArray)) := (blk_cell BK194.out 3).trans rfl; have hfz95_0 := blk_frozen BK194.out 0; have hfz95_1 := blk_frozen BK194.out 1; have hfz95_2 := blk_frozen BK194.out 2; have hfz95_3 := blk_frozen BK194.out 3; obtain ⟨Aoz1, coz1, eo96⟩ := Kd.R_slice HO190.out; subst eo96) | ((with_reducible refine gate_callee (f := 67) rfl ?_); refine goesL_ (some 21) rfl rfl Tryd.func67 (by kernel_rfl) rfl #[.agg #[.int .i64 204, .slice none 0 0, .string (⟨#[]⟩ : ByteArray)]] rfl (by (try simp only [List.map_toArray, List.map_cons, List.map_nil]); first | done | rfl | (simp only [List.length_drop, List.length_take]; rfl)) ?_; (refine (http_PrintResponse.calls k 204 _ _ ([] : List (S74)) (⟨#[]⟩ : ByteArray) t195 t196 _ ?side1 ?side2 ?side3 A3.out).mono ?_); (case side1 => exact Kd.C_nil _ _); (case side2 => exact Nat.le_refl _); (case side3 => exact LaidM.below HT.out (by repeat (first | (with_reducible first | exact HB.out | apply below_alloc | apply pw_below_drewN | apply below_drew1 | refine below_set ?_ GE185.out | refine below_set ?_ GE194.out) | exact HB.out))); rintro e wz4 ⟨rfl, hb⟩; refine ⟨_, rfl, ?_⟩; have n0_ := Aside0.mk (Kd.R_below (by zra; exact (Kd.R_mono (Kd.R_far (p := ⟨gb194, 3, none⟩) (Kd.R_far (p := ⟨gb194, 2, none⟩) (Kd.R_far (p := ⟨gb194, 1, none⟩) (Kd.R_far (p := ⟨gb194, 0, none⟩) (Kd.R_types HO181.out BK194.out (by decide)) (fun _ hk => hk.2) (.string t186)) (fun _ hk => hk.2) (.string t187)) (fun _ hk => hk.2) (.slice Aoz1 t188.length coz1)) (fun _ hk => hk.2) (.string t191)) (fun _ h_ => h_.1))) hb); have n1_ := Aside0.mk (Kd.R_below (by zra; exact (Kd.R_mono (Kd.R_far (p := ⟨gb194, 3, none⟩) (Kd.R_far (p := ⟨gb194, 2, none⟩) (Kd.R_far (p := ⟨gb194, 1, none⟩) (Kd.R_far (p := ⟨gb194, 0, none⟩) (Kd.R_types HO190.out BK194.out (by decide)) (fun _ hk => hk.2) (.string t186)) (fun _ hk => hk.2) (.string t187)) (fun _ hk => hk.2) (.slice Aoz1 t188.length coz1)) (fun _ hk => hk.2) (.string t191)) (fun _ h_ => h_.1))) hb); have n2_ := Aside0.mk (blk_below (g := gb185) (o := .cells #[.string t177, .string t178, .slice Aoz0 t179.length coz0, .string t182] 65 (0, 0)) (by zda; refine blk_far ?_ NB185_194.out _; zda; refine blk_far ?_ NB185_194.out _; zda; refine blk_far ?_ NB185_194.out _; zda; refine blk_far ?_ NB185_194.out _; zda; exact BK185.out) hb); have n3_ := Aside0.mk (blk_below (g := gb194) (o := .cells #[.string t186, .string t187, .slice Aoz1 t188.length coz1, .string t191] 65 (0, 0)) (by zda; refine blk_put (cs := #[.string t186, .string t187, .slice Aoz1 t188.length coz1, .string (⟨#[]⟩ : ByteArray)]) ?_ 3 _ rfl; zda; refine blk_put (cs := #[.string t186, .string t187, .slice none 0 0, .string (⟨#[]⟩ : ByteArray)]) ?_ 2 _ rfl; zda; refine blk_put (cs := #[.string t186, .string (⟨#[]⟩ : ByteArray), .slice none 0 0, .string (⟨#[]⟩ : ByteArray)]) ?_ 1 _ rfl; zda; refine blk_put (cs := #[.string (⟨#[]⟩ : ByteArray), .string (⟨#[]⟩ : ByteArray), .slice none 0 0, .string (⟨#[]⟩ : ByteArray)]) ?_ 0 _ rfl; zda; exact BK194.out) hb); have n4_ := Aside0.mk (below_step (by repeat (first | (with_reducible first | exact HB.out | apply below_alloc | apply pw_below_drewN | apply below_drew1 | refine below_set ?_ GE185.out | refine below_set ?_ GE194.out) | exact HB.out)) hb); clear HO181; clear HO190; clear BK185; clear BK194; clear HB; have HO181 := n0_; have HO190 := n1_; have BK185 := n2_; have BK194 := n3_; have HB := n4_; clear n0_ n1_ n2_ n3_ n4_; (try clear hb); (try clear hb2); (try clear hk); (try clear hi); have hcz98_0 : wz4.cell? ⟨gb185, 0, none⟩ = some (.string t177) := (blk_cell BK185.out 0).trans rfl; have hcz98_1 : wz4.cell? ⟨gb185, 1, none⟩ = some (.string t178) := (blk_cell BK185.out 1).trans rfl; have hcz98_2 : wz4.cell? ⟨gb185, 2, none⟩ = some (.slice Aoz0 t179.length coz0) := (blk_cell BK185.out 2).trans rfl; have hcz98_3 : wz4.cell? ⟨gb185, 3, none⟩ = some (.string t182) := (blk_cell BK185.out 3).trans rfl; have hfz98_0 := blk_frozen BK185.out 0; have hfz98_1 := blk_frozen BK185.out 1; have hfz98_2 := blk_frozen BK185.out 2; have hfz98_3 := blk_frozen BK185.out 3))
  go_ret
  zq7

/-! ### http_PrintRequest: function 49 -/
def http_PrintRequest.f (k : Nat) (a0_0 : ByteArray) (a0_1 : ByteArray) (l0_2 : List (S74)) (a0_3 : ByteArray) : Option (ByteArray × Int) := (http_asked.f k a0_0 a0_1).bind fun t198 => (if t198 = true then zt2 else (some ((⟨#[]⟩ : ByteArray), 80)))
theorem http_PrintRequest.mono : ∀ a0 a1 a2 a3 k, LeO (http_PrintRequest.f k a0 a1 a2 a3) (http_PrintRequest.f (k + 1) a0 a1 a2 a3) := by
 intro a0 a1 a2 a3 k
 unfold http_PrintRequest.f
 repeat' first
   | (with_reducible exact http_asked.mono _ _ _)
   | (with_reducible exact http_printed.mono _ _ _ _)
   | (with_reducible exact LeO.refl _)
   | (with_reducible exact LeO.none _)
   | (with_reducible refine LeO.ite ?_ ?_)
   | (with_reducible refine LeO.bind ?_ (fun _ => ?_))
   | exact http_asked.mono _ _ _
   | exact http_printed.mono _ _ _ _
   | exact LeO.none _
   | refine LeO.ite ?_ ?_
   | refine LeO.bind ?_ (fun _ => ?_)
set_option maxHeartbeats 8000000 in
set_option maxRecDepth 100000 in
theorem http_PrintRequest.calls (k : Nat) (a0_0 : ByteArray) (a0_1 : ByteArray) (A0_2 : Option Addr) (c0_2 : Nat) (l0_2 : List (S74)) (a0_3 : ByteArray) (r1 : ByteArray) (r2 : Int) (w : World) (hr0_2 : Kd.C k74 w A0_2 l0_2.length l0_2) (hc0_2 : l0_2.length ≤ c0_2) (hT : LaidM w) (h : http_PrintRequest.f k a0_0 a0_1 l0_2 a0_3 = some (r1, r2)) :
  Calls Tryd.prog 49 #[.agg #[.string a0_0, .string a0_1, .slice A0_2 l0_2.length c0_2, .string a0_3]] w fun e w' => e = .returned (.tuple #[.string r1, .int .i64 r2]) ∧ Below w.heap.size w w' := by
 have hu65 := Tryd.underlying65
 have hu101 := Tryd.underlying101
 have HR0_2 := Aside0.mk hr0_2
 have HC0_2 := Aside0.mk hc0_2
 clear hr0_2 hc0_2
 have HB := Aside0.mk (Below.refl w.heap.size w)
 have HT := Aside0.mk hT
 clear hT
 have H : ((http_asked.f k a0_0 a0_1).bind fun t198 => (if t198 = true then zt2 else (some ((⟨#[]⟩ : ByteArray), 80)))) = some (r1, r2) := h
 clear h
 zq1
 obtain ⟨t198, A20, H⟩ := H
 replace H : (if t198 = true then zt2 else (some ((⟨#[]⟩ : ByteArray), 80))) = some (r1, r2) := H
 have A2 := Aside0.mk A20
 clear A20
 by_cases c3 : t198 = true
 ·subst c3
  have H1 : zt2 = some (r1, r2) := by rw [if_pos rfl] at H; exact H
  clear H
  have H := H1
  clear H1
  by_cases c4 : a0_0.size + 1 ≤ 9223372036854775807
  ·rw [if_pos c4] at H
   have c4b0 := eq_true c4
   have c4b1 : decide (a0_0.size + 1 ≤ 9223372036854775807) = true := decide_eq_true c4
   try have c4b2 : (9223372036854775807 < a0_0.size + 1) = False := eq_false (Nat.not_lt.2 c4)
   by_cases c5 : (a0_0 ++ (⟨#[32]⟩ : ByteArray)).size + a0_1.size ≤ 9223372036854775807
   ·rw [if_pos c5] at H
    have c5b0 := eq_true c5
    have c5b1 : decide ((a0_0 ++ (⟨#[32]⟩ : ByteArray)).size + a0_1.size ≤ 9223372036854775807) = true := decide_eq_true c5
    try have c5b2 : (9223372036854775807 < (a0_0 ++ (⟨#[32]⟩ : ByteArray)).size + a0_1.size) = False := eq_false (Nat.not_lt.2 c5)
    have c5b8 : (9223372036854775807 < a0_0.size + 1 + a0_1.size) = False := by have h_ := c5; simp only [ByteArray.size_append] at h_; exact eq_false (Nat.not_lt.2 h_)
    by_cases c6 : ((a0_0 ++ (⟨#[32]⟩ : ByteArray)) ++ a0_1).size + 1 ≤ 9223372036854775807
    ·rw [if_pos c6] at H
     have c6b0 := eq_true c6
     have c6b1 : decide (((a0_0 ++ (⟨#[32]⟩ : ByteArray)) ++ a0_1).size + 1 ≤ 9223372036854775807) = true := decide_eq_true c6
     try have c6b2 : (9223372036854775807 < ((a0_0 ++ (⟨#[32]⟩ : ByteArray)) ++ a0_1).size + 1) = False := eq_false (Nat.not_lt.2 c6)
     have c6b8 : (9223372036854775807 < a0_0.size + 1 + a0_1.size + 1) = False := by have h_ := c6; simp only [ByteArray.size_append] at h_; exact eq_false (Nat.not_lt.2 h_)
     by_cases c7 : (zt7).size + 8 ≤ 9223372036854775807
     ·rw [if_pos c7] at H
      have c7b0 := eq_true c7
      have c7b1 : decide ((zt7).size + 8 ≤ 9223372036854775807) = true := decide_eq_true c7
      try have c7b2 : (9223372036854775807 < (zt7).size + 8) = False := eq_false (Nat.not_lt.2 c7)
      have c7b8 : (9223372036854775807 < a0_0.size + 1 + a0_1.size + 1 + 8) = False := by have h_ := c7; simp only [ByteArray.size_append] at h_; exact eq_false (Nat.not_lt.2 h_)
      zq1
      obtain ⟨⟨t199, t200⟩, A80, H⟩ := H
      replace H : (some (t199, t200)) = some (r1, r2) := H
      have A8 := Aside0.mk A80
      clear A80
      simp only [Option.some.injEq, Prod.mk.injEq] at H
      obtain ⟨rfl, rfl⟩ := H
      go_enter Tryd.func49, Tryd.ntmps49
      go_wp2_with (first | ((with_reducible refine gate_dst (N := 1) rfl ?_); refine box_event ?hg (N := 1) ?hd (cs := #[.string a0_0, .string a0_1, .slice A0_2 l0_2.length c0_2, .string a0_3]) (t := 65) ?hr ?_; (case hd => rfl); (case hg => rfl); (case hr => first | (go_simp; done) | (go_simp; rfl)); intro gb197 hg wz0 hbox hb; have n0_ := Aside0.mk (below_step (by repeat (first | (with_reducible first | exact HB.out | apply below_alloc | apply pw_below_drewN | apply below_drew1) | exact HB.out)) hb); have n1_ := Aside0.mk (hbox); have n2_ := Aside0.mk ((by rw [hg]; exact (below_size (by repeat (first | (with_reducible first | exact HB.out | apply below_alloc | apply pw_below_drewN | apply below_drew1) | exact HB.out))) : w.heap.size ≤ gb197)); have n3_ := Aside0.mk ((by rw [hg]; exact (below_size (by repeat (first | (with_reducible first | exact HB.out | apply below_alloc | apply pw_below_drewN | apply below_drew1) | exact HB.out))) : w.heap.size ≤ gb197)); clear HB; have HB := n0_; have BK197 := n1_; have GW197 := n2_; have GE197 := n3_; clear n0_ n1_ n2_ n3_; clear hb hbox hg; have hcz10_0 : wz0.cell? ⟨gb197, 0, none⟩ = some (.string a0_0) := (blk_cell BK197.out 0).trans rfl; have hcz10_1 : wz0.cell? ⟨gb197, 1, none⟩ = some (.string a0_1) := (blk_cell BK197.out 1).trans rfl; have hcz10_2 : wz0.cell? ⟨gb197, 2, none⟩ = some (.slice A0_2 l0_2.length c0_2) := (blk_cell BK197.out 2).trans rfl; have hcz10_3 : wz0.cell? ⟨gb197, 3, none⟩ = some (.string a0_3) := (blk_cell BK197.out 3).trans rfl; have hfz10_0 := blk_frozen BK197.out 0; have hfz10_1 := blk_frozen BK197.out 1; have hfz10_2 := blk_frozen BK197.out 2; have hfz10_3 := blk_frozen BK197.out 3) | ((with_reducible refine gate_callee (f := 70) rfl ?_); refine goesL_ (some 8) rfl rfl Tryd.func70 (by kernel_rfl) rfl #[.string a0_0, .string a0_1] rfl (by (try simp only [List.map_toArray, List.map_cons, List.map_nil]); first | done | rfl | (simp only [List.length_drop, List.length_take]; rfl)) ?_; (with_reducible refine (http_asked.calls k a0_0 a0_1 true _ A2.out).mono ?_); rintro e w' ⟨rfl, ⟨nd, rfl⟩⟩; refine ⟨_, rfl, ?_⟩) | ((with_reducible refine gate_callee (f := 71) rfl ?_); refine goesL_ (some 23) rfl rfl Tryd.func71 (by kernel_rfl) rfl #[.agg #[.string (zt7 ++ (⟨#[72, 84, 84, 80, 47, 49, 46, 49]⟩ : ByteArray)), .slice A0_2 l0_2.length c0_2, .string a0_3]] rfl (by (try simp only [List.map_toArray, List.map_cons, List.map_nil]); first | done | rfl | (simp only [List.length_drop, List.length_take]; rfl)) ?_; (with_reducible refine (http_printed.calls k (zt7 ++ (⟨#[72, 84, 84, 80, 47, 49, 46, 49]⟩ : ByteArray)) _ _ l0_2 a0_3 t199 t200 _ ?side1 ?side2 ?side3 A8.out).mono ?_); (case side1 => repeat (first | exact (Kd.C_below HR0_2.out (by repeat (first | (with_reducible first | exact HB.out | apply below_alloc | apply pw_below_drewN | apply below_drew1 | refine below_set ?_ GE197.out) | exact HB.out))) | (with_reducible refine Kd.C_alloc ?_ _) | (with_reducible refine Kd.C_drewN ?_ _) | (with_reducible refine Kd.C_drew ?_))); (case side2 => exact HC0_2.out); (case side3 => exact LaidM.below HT.out (by repeat (first | (with_reducible first | exact HB.out | apply below_alloc | apply pw_below_drewN | apply below_drew1 | refine below_set ?_ GE197.out) | exact HB.out))); rintro e w11 ⟨rfl, hb⟩; refine ⟨_, rfl, ?_⟩; have n0_ := Aside0.mk (blk_below (g := gb197) (o := .cells #[.string a0_0, .string a0_1, .slice A0_2 l0_2.length c0_2, .string a0_3] 65 (0, 0)) (by zda; exact BK197.out) hb); have n1_ := Aside0.mk (below_step (by repeat (first | (with_reducible first | exact HB.out | apply below_alloc | apply pw_below_drewN | apply below_drew1 | refine below_set ?_ GE197.out) | exact HB.out)) hb); clear BK197; clear HB; have BK197 := n0_; have HB := n1_; clear n0_ n1_; (try clear hb); (try clear hb2); (try clear hk); (try clear hi)))
      go_ret2
      zq8
     ·rw [if_neg c7] at H
      exact absurd H (by simp)
    ·rw [if_neg c6] at H
     exact absurd H (by simp)
   ·rw [if_neg c5] at H
    exact absurd H (by simp)
  ·rw [if_neg c4] at H
   exact absurd H (by simp)
 ·replace c3 := Bool.eq_false_iff.mpr c3
  subst c3
  have H1 : (some ((⟨#[]⟩ : ByteArray), 80)) = some (r1, r2) := by rw [if_neg (show ¬ (false = true) by decide)] at H; exact H
  clear H
  have H := H1
  clear H1
  simp only [Option.some.injEq, Prod.mk.injEq] at H
  obtain ⟨rfl, rfl⟩ := H
  go_enter Tryd.func49, Tryd.ntmps49
  go_wp2_with (first | ((with_reducible refine gate_dst (N := 1) rfl ?_); refine box_event ?hg (N := 1) ?hd (cs := #[.string a0_0, .string a0_1, .slice A0_2 l0_2.length c0_2, .string a0_3]) (t := 65) ?hr ?_; (case hd => rfl); (case hg => rfl); (case hr => first | (go_simp; done) | (go_simp; rfl)); intro gb197 hg w12 hbox hb; have n0_ := Aside0.mk (below_step (by repeat (first | (with_reducible first | exact HB.out | apply below_alloc | apply pw_below_drewN | apply below_drew1) | exact HB.out)) hb); have n1_ := Aside0.mk (hbox); have n2_ := Aside0.mk ((by rw [hg]; exact (below_size (by repeat (first | (with_reducible first | exact HB.out | apply below_alloc | apply pw_below_drewN | apply below_drew1) | exact HB.out))) : w.heap.size ≤ gb197)); have n3_ := Aside0.mk ((by rw [hg]; exact (below_size (by repeat (first | (with_reducible first | exact HB.out | apply below_alloc | apply pw_below_drewN | apply below_drew1) | exact HB.out))) : w.heap.size ≤ gb197)); clear HB; have HB := n0_; have BK197 := n1_; have GW197 := n2_; have GE197 := n3_; clear n0_ n1_ n2_ n3_; clear hb hbox hg; have hcz13_0 : w12.cell? ⟨gb197, 0, none⟩ = some (.string a0_0) := (blk_cell BK197.out 0).trans rfl; have hcz13_1 : w12.cell? ⟨gb197, 1, none⟩ = some (.string a0_1) := (blk_cell BK197.out 1).trans rfl; have hcz13_2 : w12.cell? ⟨gb197, 2, none⟩ = some (.slice A0_2 l0_2.length c0_2) := (blk_cell BK197.out 2).trans rfl; have hcz13_3 : w12.cell? ⟨gb197, 3, none⟩ = some (.string a0_3) := (blk_cell BK197.out 3).trans rfl; have hfz13_0 := blk_frozen BK197.out 0; have hfz13_1 := blk_frozen BK197.out 1; have hfz13_2 := blk_frozen BK197.out 2; have hfz13_3 := blk_frozen BK197.out 3) | ((with_reducible refine gate_callee (f := 70) rfl ?_); refine goesL_ (some 8) rfl rfl Tryd.func70 (by kernel_rfl) rfl #[.string a0_0, .string a0_1] rfl (by (try simp only [List.map_toArray, List.map_cons, List.map_nil]); first | done | rfl | (simp only [List.length_drop, List.length_take]; rfl)) ?_; (with_reducible refine (http_asked.calls k a0_0 a0_1 false _ A2.out).mono ?_); rintro e w' ⟨rfl, ⟨nd, rfl⟩⟩; refine ⟨_, rfl, ?_⟩))
  go_ret2
  zq8

/-! ### calepinref08_Same: function 50 -/
def calepinref08_Same.l0 : Nat → List (S74) → List (S74) → Int → Int → Option (Bool)
 | 0, _, _, _, _ => none
 | k + 1, x0, x1, x12, x13 => if x13 < x12 then (if 0 ≤ x13 then (if x13 < (x0.length : Int) then (if x13 < (x1.length : Int) then (if (!((((rd_T74 x0 x13).f0).toList) == (((rd_T74 x1 x13).f0).toList)) || (!((((rd_T74 x0 x13).f1).toList) == (((rd_T74 x1 x13).f1).toList)))) = true then (some false) else (calepinref08_Same.l0 k x0 x1 x12 (wrap64 (x13 + 1)))) else (none)) else (none)) else (none)) else (some true)
def calepinref08_Same.f (k : Nat) (l0 : List (S74)) (l1 : List (S74)) : Option (Bool) := if (l0.length : Int) = (l1.length : Int) then (calepinref08_Same.l0 k l0 l1 (l0.length : Int) 0) else (some false)
theorem calepinref08_Same.mono_l : ∀ k, (∀ y0 y1 y2 y3, LeO (calepinref08_Same.l0 k y0 y1 y2 y3) (calepinref08_Same.l0 (k + 1) y0 y1 y2 y3))
 | 0 => fun _ _ _ _ r h => by simp [calepinref08_Same.l0] at h
 | k + 1 => by
  have ih0 := calepinref08_Same.mono_l k
  ·intro y0 y1 y2 y3
   unfold calepinref08_Same.l0
   repeat' first
   | (with_reducible exact ih0 _ _ _ _)
   | (with_reducible exact LeO.refl _)
   | (with_reducible exact LeO.none _)
   | (with_reducible refine LeO.ite ?_ ?_)
   | (with_reducible refine LeO.bind ?_ (fun _ => ?_))
   | exact ih0 _ _ _ _
   | exact LeO.none _
   | refine LeO.ite ?_ ?_
   | refine LeO.bind ?_ (fun _ => ?_)
theorem calepinref08_Same.mono : ∀ a0 a1 k, LeO (calepinref08_Same.f k a0 a1) (calepinref08_Same.f (k + 1) a0 a1) := by
 intro a0 a1 k
 have ih0 := calepinref08_Same.mono_l k
 unfold calepinref08_Same.f
 repeat' first
   | (with_reducible exact ih0 _ _ _ _)
   | (with_reducible exact LeO.refl _)
   | (with_reducible exact LeO.none _)
   | (with_reducible refine LeO.ite ?_ ?_)
   | (with_reducible refine LeO.bind ?_ (fun _ => ?_))
   | exact ih0 _ _ _ _
   | exact LeO.none _
   | refine LeO.ite ?_ ?_
   | refine LeO.bind ?_ (fun _ => ?_)
set_option maxHeartbeats 8000000 in
set_option maxRecDepth 100000 in
theorem calepinref08_Same.calls (k : Nat) (A0 : Option Addr) (c0 : Nat) (l0 : List (S74)) (A1 : Option Addr) (c1 : Nat) (l1 : List (S74)) (r : Bool) (w : World) (hr0 : Kd.C k74 w A0 l0.length l0) (hc0 : l0.length ≤ c0) (hr1 : Kd.C k74 w A1 l1.length l1) (hc1 : l1.length ≤ c1) (h : calepinref08_Same.f k l0 l1 = some r) :
  Calls Tryd.prog 50 #[.slice A0 l0.length c0, .slice A1 l1.length c1] w fun e w' => e = .returned (.bool r) ∧ Drawn0 w w' := by
 have hu74 := Tryd.underlying74
 have HR0 := Aside0.mk hr0
 have HC0 := Aside0.mk hc0
 clear hr0 hc0
 have HR1 := Aside0.mk hr1
 have HC1 := Aside0.mk hc1
 clear hr1 hc1
 have H : (if (l0.length : Int) = (l1.length : Int) then (calepinref08_Same.l0 k l0 l1 (l0.length : Int) 0) else (some false)) = some r := h
 clear h
 by_cases c3 : (l0.length : Int) = (l1.length : Int)
 ·rw [if_pos c3] at H
  have c3b0 : ((l0.length : Int) == (l1.length : Int)) = true := beq_iff_eq.mpr c3
  have c3b1 : ((l0.length : Int) != (l1.length : Int)) = false := bne_eq_false_iff_eq.mpr c3
  have c3b2 : (l0.length == l1.length) = true := by first | simpa using c3 | (simp at c3 ⊢; omega)
  clear c3
  have H' := Aside0.mk H
  clear H
  go_enter Tryd.func50, Tryd.ntmps50
  go_wp2
  repeat (go_quiet (fail); try go_wp2)
  go_loopg [13] k (fun kq v13 w' => ∃ (x13_1 : Int), v13 = .int .i64 x13_1 ∧ Aside0 (calepinref08_Same.l0 kq l0 l1 (l0.length : Int) x13_1 = some r) ∧ Aside0 (kq ≤ k) ∧ Drawn0 w w')
  case atStart => exact ⟨(0), (by first | rfl | (simp; done) | (simp [*]; done)), H', ⟨Nat.le_refl _⟩, by repeat (first | exact Drawn0.refl _ | apply Drawn0.step)⟩
  case round =>
   clear H'
   try clear c1
   try clear p2
   try clear c3
   try clear c3b0
   try clear c3b1
   try clear c3b2
   obtain ⟨x13_1, rfl, HA, HK1, ⟨m1, rfl⟩⟩ := hrel
   cases gk with
   | zero => exact absurd HA.out (by simp [calepinref08_Same.l0])
   | succ k1 =>
    have H := HA.out
    clear HA
    simp only [calepinref08_Same.l0] at H
    by_cases c4 : x13_1 < (l0.length : Int)
    ·rw [if_pos c4] at H
     have c4b0 : decide (x13_1 < (l0.length : Int)) = true := decide_eq_true c4
     clear c4
     by_cases c5 : 0 ≤ x13_1
     ·rw [if_pos c5] at H
      have c5b0 : decide (0 ≤ x13_1) = true := decide_eq_true c5
      clear c5
      by_cases c6 : x13_1 < (l0.length : Int)
      ·rw [if_pos c6] at H
       have c6b0 : decide (x13_1 < (l0.length : Int)) = true := decide_eq_true c6
       clear c6
       by_cases c7 : x13_1 < (l1.length : Int)
       ·rw [if_pos c7] at H
        have c7b0 : decide (x13_1 < (l1.length : Int)) = true := decide_eq_true c7
        clear c7
        by_cases c8 : (!((((rd_T74 l0 x13_1).f0).toList) == (((rd_T74 l1 x13_1).f0).toList)) || (!((((rd_T74 l0 x13_1).f1).toList) == (((rd_T74 l1 x13_1).f1).toList)))) = true
        ·rw [if_pos c8] at H
         have c8b0 : (!((((rd_T74 l0 x13_1).f0).toList) == (((rd_T74 l1 x13_1).f0).toList)) || (!((((rd_T74 l0 x13_1).f1).toList) == (((rd_T74 l1 x13_1).f1).toList)))) = true := c8
         clear c8
         zq6
         have p201 : 0 ≤ (x13_1 : Int) := of_decide_eq_true (by first | (with_reducible assumption) | assumption)
         have q201 : x13_1 < (l0.length : Int) := of_decide_eq_true (by first | (with_reducible assumption) | assumption)
         obtain ⟨ad201, e201, hx201_0, hx201_1⟩ := at_T74 HR0.out x13_1 p201 q201
         cases e201
         replace p201 := eq_true p201
         replace q201 := eq_true q201
         have p202 : 0 ≤ (x13_1 : Int) := of_decide_eq_true (by first | (with_reducible assumption) | assumption)
         have q202 : x13_1 < (l1.length : Int) := of_decide_eq_true (by first | (with_reducible assumption) | assumption)
         obtain ⟨ad202, e202, hx202_0, hx202_1⟩ := at_T74 HR1.out x13_1 p202 q202
         cases e202
         replace p202 := eq_true p202
         replace q202 := eq_true q202
         go_wp2
         repeat (go_quiet (fail); try go_wp2)
         go_ret
         zq9
        ·rw [if_neg c8] at H
         have c8b0 : (!((((rd_T74 l0 x13_1).f0).toList) == (((rd_T74 l1 x13_1).f0).toList)) || (!((((rd_T74 l0 x13_1).f1).toList) == (((rd_T74 l1 x13_1).f1).toList)))) = false := by simpa using c8
         clear c8
         have H' := Aside0.mk H
         clear H
         have p201 : 0 ≤ (x13_1 : Int) := of_decide_eq_true (by first | (with_reducible assumption) | assumption)
         have q201 : x13_1 < (l0.length : Int) := of_decide_eq_true (by first | (with_reducible assumption) | assumption)
         obtain ⟨ad201, e201, hx201_0, hx201_1⟩ := at_T74 HR0.out x13_1 p201 q201
         cases e201
         replace p201 := eq_true p201
         replace q201 := eq_true q201
         have p202 : 0 ≤ (x13_1 : Int) := of_decide_eq_true (by first | (with_reducible assumption) | assumption)
         have q202 : x13_1 < (l1.length : Int) := of_decide_eq_true (by first | (with_reducible assumption) | assumption)
         obtain ⟨ad202, e202, hx202_0, hx202_1⟩ := at_T74 HR1.out x13_1 p202 q202
         cases e202
         replace p202 := eq_true p202
         replace q202 := eq_true q202
         go_wp2
         repeat (go_quiet (fail); try go_wp2)
         go_roundg k1
         case measure => have := HK1.out; omega
         case rel => exact ⟨(wrap64 (x13_1 + 1)), (by first | rfl | (simp; done) | (simp [*]; done)), H', ⟨by have := HK1.out; omega⟩, by repeat (first | exact Drawn0.refl _ | apply Drawn0.step)⟩
       ·rw [if_neg c7] at H
        exact absurd H (by simp)
      ·rw [if_neg c6] at H
       exact absurd H (by simp)
     ·rw [if_neg c5] at H
      exact absurd H (by simp)
    ·rw [if_neg c4] at H
     have c4b0 : decide (x13_1 < (l0.length : Int)) = false := decide_eq_false c4
     clear c4
     zq6
     go_wp2
     repeat (go_quiet (fail); try go_wp2)
     go_ret
     zq9
 ·rw [if_neg c3] at H
  have c3b0 : ((l0.length : Int) == (l1.length : Int)) = false := beq_eq_false_iff_ne.mpr c3
  have c3b1 : ((l0.length : Int) != (l1.length : Int)) = true := bne_iff_ne.mpr c3
  have c3b2 : (l0.length == l1.length) = false := by first | simpa using c3 | (simp at c3 ⊢; omega)
  zq6
  go_enter Tryd.func50, Tryd.ntmps50
  go_wp2
  repeat (go_quiet (fail); try go_wp2)
  go_ret
  zq9

end Go.Proofs.YtpedfpeokedelaaDoor.XHttpFields
