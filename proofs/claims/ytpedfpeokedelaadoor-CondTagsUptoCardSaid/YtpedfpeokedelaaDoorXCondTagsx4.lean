-- written by wip/xprint.py: the kit's print with functions walked by hand
import Derived.Test.YtpedfpeokedelaaDoorXCondTagsx0
import Derived.Test.YtpedfpeokedelaaDoorXCondTagsx1
import Derived.Test.YtpedfpeokedelaaDoorXCondTagsx2
import Derived.Test.YtpedfpeokedelaaDoorXCondTagsx3
namespace Go.Proofs.YtpedfpeokedelaaDoor.XCondTags
open Go.RowKit Go.Proofs.YtpedfpeokedelaaDoorW.PrintWords Go.Proofs.YtpedfpeokedelaaDoorW.PrintLast Go.Proofs.YtpedfpeokedelaaDoorW.PrintMore
attribute [local go_sem] max2_int min2_int max_two min_two max_three min_three max_four min_four   -- for this text's walks alone
set_option linter.unusedVariables false
set_option linter.unusedSimpArgs false

/-! ### calepinlaw10_CondTags: function 12 -/
mutual
def calepinlaw10_CondTags.j0 : Nat → ByteArray → Bool → Option (Bool)
  | 0, _, _ => none
  | k + 1, x1, x52 => if x52 = true then (some false) else ((cond_Parse.f x1).bind fun bt152 => ((calepinref10_Parse.f k x1).bind fun t154 => (if (bt152.2 != (decide (t154 > 0))) = true then (calepinlaw10_CondTags.j1 k x1 true) else (if bt152.2 = true then (if bt152.1 = t154 then (calepinlaw10_CondTags.j1 k x1 false) else (calepinlaw10_CondTags.j1 k x1 true)) else (calepinlaw10_CondTags.j1 k x1 (bt152.1 != 0))))))
def calepinlaw10_CondTags.j1 : Nat → ByteArray → Bool → Option (Bool)
  | 0, _, _ => none
  | k + 1, x1, x79 => if x79 = true then (some false) else ((cond_List.f k x1).bind fun bt155 => ((calepinref10_List.f k x1).bind fun bt160 => (if bt160.2.2 = true then (if bt155.2.2 = 0 then (if (bt155.2.1 != bt160.2.1) = true then (calepinlaw10_CondTags.j2 k bt155.1 bt160.1 true) else (calepinlaw10_CondTags.j2 k bt155.1 bt160.1 ((bt155.1.length : Int) != (bt160.1.length : Int)))) else (calepinlaw10_CondTags.j2 k bt155.1 bt160.1 true)) else (if bt155.2.2 = 31 then (if (bt155.1.length : Int) = 0 then (some (!bt155.2.1)) else (some false)) else (some false)))))
def calepinlaw10_CondTags.j2 : Nat → List Int → List Int → Bool → Option (Bool)
  | 0, _, _, _ => none
  | k + 1, x11, x14, x118 => if x118 = true then (some false) else (calepinlaw10_CondTags.l0 k x11 x14 (x11.length : Int) 0)
def calepinlaw10_CondTags.l0 : Nat → List Int → List Int → Int → Int → Option (Bool)
  | 0, _, _, _, _ => none
  | k + 1, x11, x14, x120, x121 => if x121 < x120 then (if 0 ≤ x121 then (if x121 < (x11.length : Int) then (if x121 < (x14.length : Int) then (if (rd x11 x121) = (rd x14 x121) then (calepinlaw10_CondTags.l0 k x11 x14 x120 (wrap64 (x121 + 1))) else (some false)) else (none)) else (none)) else (none)) else (some true)
end
def calepinlaw10_CondTags.f (k : Nat) (a0 : Int) (a1 : ByteArray) : Option (Bool) := (calepinlaw10_first.f k).bind fun t147 => (if t147 = true then ((cond_Tag.f a0).bind fun t148 => ((cond_Parse.f t148).bind fun bt149 => ((calepinref10_Tag.f k a0).bind fun t151 => (if t148.toList = t151.toList then (if (bt149.2 != (t148.toList != ([] : List UInt8))) = true then (calepinlaw10_CondTags.j0 k a1 true) else (if bt149.2 = true then (if bt149.1 = a0 then (calepinlaw10_CondTags.j0 k a1 false) else (calepinlaw10_CondTags.j0 k a1 true)) else (calepinlaw10_CondTags.j0 k a1 (bt149.1 != 0)))) else (calepinlaw10_CondTags.j0 k a1 true))))) else (some false))
theorem calepinlaw10_CondTags.mono_l : ∀ k, (∀ y0 y1, LeO (calepinlaw10_CondTags.j0 k y0 y1) (calepinlaw10_CondTags.j0 (k + 1) y0 y1)) ∧ (∀ y0 y1, LeO (calepinlaw10_CondTags.j1 k y0 y1) (calepinlaw10_CondTags.j1 (k + 1) y0 y1)) ∧ (∀ y0 y1 y2, LeO (calepinlaw10_CondTags.j2 k y0 y1 y2) (calepinlaw10_CondTags.j2 (k + 1) y0 y1 y2)) ∧ (∀ y0 y1 y2 y3, LeO (calepinlaw10_CondTags.l0 k y0 y1 y2 y3) (calepinlaw10_CondTags.l0 (k + 1) y0 y1 y2 y3))
  | 0 => ⟨fun _ _ r h => by simp [calepinlaw10_CondTags.j0] at h, fun _ _ r h => by simp [calepinlaw10_CondTags.j1] at h, fun _ _ _ r h => by simp [calepinlaw10_CondTags.j2] at h, fun _ _ _ _ r h => by simp [calepinlaw10_CondTags.l0] at h⟩
  | k + 1 => by
    obtain ⟨ih0, ih1, ih2, ih3⟩ := calepinlaw10_CondTags.mono_l k
    refine ⟨?_, ?_, ?_, ?_⟩
    · intro y0 y1
      unfold calepinlaw10_CondTags.j0
      repeat' first
      | (with_reducible exact ih0 _ _)
      | (with_reducible exact ih1 _ _)
      | (with_reducible exact ih2 _ _ _)
      | (with_reducible exact ih3 _ _ _ _)
      | (with_reducible exact calepinlaw10_first.mono _)
      | (with_reducible exact calepinref10_List.mono _ _)
      | (with_reducible exact calepinref10_Parse.mono _ _)
      | (with_reducible exact calepinref10_Tag.mono _ _)
      | (with_reducible exact cond_List.mono _ _)
      | (with_reducible exact LeO.refl _)
      | (with_reducible exact LeO.none _)
      | (with_reducible refine LeO.ite ?_ ?_)
      | (with_reducible refine LeO.bind ?_ (fun _ => ?_))
      | exact ih0 _ _
      | exact ih1 _ _
      | exact ih2 _ _ _
      | exact ih3 _ _ _ _
      | exact calepinlaw10_first.mono _
      | exact calepinref10_List.mono _ _
      | exact calepinref10_Parse.mono _ _
      | exact calepinref10_Tag.mono _ _
      | exact cond_List.mono _ _
      | exact LeO.none _
      | refine LeO.ite ?_ ?_
      | refine LeO.bind ?_ (fun _ => ?_)
    · intro y0 y1
      unfold calepinlaw10_CondTags.j1
      repeat' first
      | (with_reducible exact ih0 _ _)
      | (with_reducible exact ih1 _ _)
      | (with_reducible exact ih2 _ _ _)
      | (with_reducible exact ih3 _ _ _ _)
      | (with_reducible exact calepinlaw10_first.mono _)
      | (with_reducible exact calepinref10_List.mono _ _)
      | (with_reducible exact calepinref10_Parse.mono _ _)
      | (with_reducible exact calepinref10_Tag.mono _ _)
      | (with_reducible exact cond_List.mono _ _)
      | (with_reducible exact LeO.refl _)
      | (with_reducible exact LeO.none _)
      | (with_reducible refine LeO.ite ?_ ?_)
      | (with_reducible refine LeO.bind ?_ (fun _ => ?_))
      | exact ih0 _ _
      | exact ih1 _ _
      | exact ih2 _ _ _
      | exact ih3 _ _ _ _
      | exact calepinlaw10_first.mono _
      | exact calepinref10_List.mono _ _
      | exact calepinref10_Parse.mono _ _
      | exact calepinref10_Tag.mono _ _
      | exact cond_List.mono _ _
      | exact LeO.none _
      | refine LeO.ite ?_ ?_
      | refine LeO.bind ?_ (fun _ => ?_)
    · intro y0 y1 y2
      unfold calepinlaw10_CondTags.j2
      repeat' first
      | (with_reducible exact ih0 _ _)
      | (with_reducible exact ih1 _ _)
      | (with_reducible exact ih2 _ _ _)
      | (with_reducible exact ih3 _ _ _ _)
      | (with_reducible exact calepinlaw10_first.mono _)
      | (with_reducible exact calepinref10_List.mono _ _)
      | (with_reducible exact calepinref10_Parse.mono _ _)
      | (with_reducible exact calepinref10_Tag.mono _ _)
      | (with_reducible exact cond_List.mono _ _)
      | (with_reducible exact LeO.refl _)
      | (with_reducible exact LeO.none _)
      | (with_reducible refine LeO.ite ?_ ?_)
      | (with_reducible refine LeO.bind ?_ (fun _ => ?_))
      | exact ih0 _ _
      | exact ih1 _ _
      | exact ih2 _ _ _
      | exact ih3 _ _ _ _
      | exact calepinlaw10_first.mono _
      | exact calepinref10_List.mono _ _
      | exact calepinref10_Parse.mono _ _
      | exact calepinref10_Tag.mono _ _
      | exact cond_List.mono _ _
      | exact LeO.none _
      | refine LeO.ite ?_ ?_
      | refine LeO.bind ?_ (fun _ => ?_)
    · intro y0 y1 y2 y3
      unfold calepinlaw10_CondTags.l0
      repeat' first
      | (with_reducible exact ih0 _ _)
      | (with_reducible exact ih1 _ _)
      | (with_reducible exact ih2 _ _ _)
      | (with_reducible exact ih3 _ _ _ _)
      | (with_reducible exact calepinlaw10_first.mono _)
      | (with_reducible exact calepinref10_List.mono _ _)
      | (with_reducible exact calepinref10_Parse.mono _ _)
      | (with_reducible exact calepinref10_Tag.mono _ _)
      | (with_reducible exact cond_List.mono _ _)
      | (with_reducible exact LeO.refl _)
      | (with_reducible exact LeO.none _)
      | (with_reducible refine LeO.ite ?_ ?_)
      | (with_reducible refine LeO.bind ?_ (fun _ => ?_))
      | exact ih0 _ _
      | exact ih1 _ _
      | exact ih2 _ _ _
      | exact ih3 _ _ _ _
      | exact calepinlaw10_first.mono _
      | exact calepinref10_List.mono _ _
      | exact calepinref10_Parse.mono _ _
      | exact calepinref10_Tag.mono _ _
      | exact cond_List.mono _ _
      | exact LeO.none _
      | refine LeO.ite ?_ ?_
      | refine LeO.bind ?_ (fun _ => ?_)
theorem calepinlaw10_CondTags.mono : ∀ a0 a1 k, LeO (calepinlaw10_CondTags.f k a0 a1) (calepinlaw10_CondTags.f (k + 1) a0 a1) := by
  intro a0 a1 k
  obtain ⟨ih0, ih1, ih2, ih3⟩ := calepinlaw10_CondTags.mono_l k
  unfold calepinlaw10_CondTags.f
  repeat' first
      | (with_reducible exact ih0 _ _)
      | (with_reducible exact ih1 _ _)
      | (with_reducible exact ih2 _ _ _)
      | (with_reducible exact ih3 _ _ _ _)
      | (with_reducible exact calepinlaw10_first.mono _)
      | (with_reducible exact calepinref10_List.mono _ _)
      | (with_reducible exact calepinref10_Parse.mono _ _)
      | (with_reducible exact calepinref10_Tag.mono _ _)
      | (with_reducible exact cond_List.mono _ _)
      | (with_reducible exact LeO.refl _)
      | (with_reducible exact LeO.none _)
      | (with_reducible refine LeO.ite ?_ ?_)
      | (with_reducible refine LeO.bind ?_ (fun _ => ?_))
      | exact ih0 _ _
      | exact ih1 _ _
      | exact ih2 _ _ _
      | exact ih3 _ _ _ _
      | exact calepinlaw10_first.mono _
      | exact calepinref10_List.mono _ _
      | exact calepinref10_Parse.mono _ _
      | exact calepinref10_Tag.mono _ _
      | exact cond_List.mono _ _
      | exact LeO.none _
      | refine LeO.ite ?_ ?_
      | refine LeO.bind ?_ (fun _ => ?_)
set_option maxHeartbeats 8000000 in
set_option maxRecDepth 100000 in
theorem calepinlaw10_CondTags.calls (k : Nat) (a0 : Int) (a1 : ByteArray) (r : Bool) (w : World) (hT : Laid w) (h : calepinlaw10_CondTags.f k a0 a1 = some r) :
    Calls Tryd.prog 12 #[.int .i64 a0, .string a1] w fun e w' => e = .returned (.bool r) ∧ Below w.heap.size w w' := by
  have HB := Aside0.mk (Below.refl w.heap.size w)
  have HT := Aside0.mk hT
  clear hT
  have H : ((calepinlaw10_first.f k).bind fun t147 => (if t147 = true then ((cond_Tag.f a0).bind fun t148 => ((cond_Parse.f t148).bind fun bt149 => ((calepinref10_Tag.f k a0).bind fun t151 => (if t148.toList = t151.toList then (if (bt149.2 != (t148.toList != ([] : List UInt8))) = true then (calepinlaw10_CondTags.j0 k a1 true) else (if bt149.2 = true then (if bt149.1 = a0 then (calepinlaw10_CondTags.j0 k a1 false) else (calepinlaw10_CondTags.j0 k a1 true)) else (calepinlaw10_CondTags.j0 k a1 (bt149.1 != 0)))) else (calepinlaw10_CondTags.j0 k a1 true))))) else (some false))) = some r := h
  clear h
  replace H := Option.bind_eq_some_iff.mp H
  obtain ⟨t147, A30, H⟩ := H
  replace H : (if t147 = true then ((cond_Tag.f a0).bind fun t148 => ((cond_Parse.f t148).bind fun bt149 => ((calepinref10_Tag.f k a0).bind fun t151 => (if t148.toList = t151.toList then (if (bt149.2 != (t148.toList != ([] : List UInt8))) = true then (calepinlaw10_CondTags.j0 k a1 true) else (if bt149.2 = true then (if bt149.1 = a0 then (calepinlaw10_CondTags.j0 k a1 false) else (calepinlaw10_CondTags.j0 k a1 true)) else (calepinlaw10_CondTags.j0 k a1 (bt149.1 != 0)))) else (calepinlaw10_CondTags.j0 k a1 true))))) else (some false)) = some r := H
  have A3 := Aside0.mk A30
  clear A30
  by_cases c4 : t147 = true
  · subst c4
    have H1 : ((cond_Tag.f a0).bind fun t148 => ((cond_Parse.f t148).bind fun bt149 => ((calepinref10_Tag.f k a0).bind fun t151 => (if t148.toList = t151.toList then (if (bt149.2 != (t148.toList != ([] : List UInt8))) = true then (calepinlaw10_CondTags.j0 k a1 true) else (if bt149.2 = true then (if bt149.1 = a0 then (calepinlaw10_CondTags.j0 k a1 false) else (calepinlaw10_CondTags.j0 k a1 true)) else (calepinlaw10_CondTags.j0 k a1 (bt149.1 != 0)))) else (calepinlaw10_CondTags.j0 k a1 true))))) = some r := by rw [if_pos rfl] at H; exact H
    clear H
    have H := H1
    clear H1
    replace H := Option.bind_eq_some_iff.mp H
    obtain ⟨t148, A50, H⟩ := H
    replace H : ((cond_Parse.f t148).bind fun bt149 => ((calepinref10_Tag.f k a0).bind fun t151 => (if t148.toList = t151.toList then (if (bt149.2 != (t148.toList != ([] : List UInt8))) = true then (calepinlaw10_CondTags.j0 k a1 true) else (if bt149.2 = true then (if bt149.1 = a0 then (calepinlaw10_CondTags.j0 k a1 false) else (calepinlaw10_CondTags.j0 k a1 true)) else (calepinlaw10_CondTags.j0 k a1 (bt149.1 != 0)))) else (calepinlaw10_CondTags.j0 k a1 true)))) = some r := H
    have A5 := Aside0.mk A50
    clear A50
    replace H := Option.bind_eq_some_iff.mp H
    obtain ⟨⟨t149, t150⟩, A60, H⟩ := H
    replace H : ((calepinref10_Tag.f k a0).bind fun t151 => (if t148.toList = t151.toList then (if (t150 != (t148.toList != ([] : List UInt8))) = true then (calepinlaw10_CondTags.j0 k a1 true) else (if t150 = true then (if t149 = a0 then (calepinlaw10_CondTags.j0 k a1 false) else (calepinlaw10_CondTags.j0 k a1 true)) else (calepinlaw10_CondTags.j0 k a1 (t149 != 0)))) else (calepinlaw10_CondTags.j0 k a1 true))) = some r := H
    have A6 := Aside0.mk A60
    clear A60
    have HC7 := Aside0.mk H
    clear H
    go_enter Tryd.func12, Tryd.ntmps12
    go_upto_region 5 with (first | (go_at_call 38; (with_reducible refine (calepinlaw10_first.calls k  true _ ?side1 A3.out).mono ?_); (case side1 => exact Laid.below HT.out (by repeat (first | (with_reducible first | exact HB.out | apply below_alloc | apply pw_below_drewN | apply below_drew1) | exact HB.out))); rintro e w8 ⟨rfl, hb⟩; have n0_ := Aside0.mk (below_step (by repeat (first | (with_reducible first | exact HB.out | apply below_alloc | apply pw_below_drewN | apply below_drew1) | exact HB.out)) hb); clear HB; have HB := n0_; clear n0_; (try clear hb); (try clear hb2); (try clear hk); (try clear hi)) | (go_at_call 39; (with_reducible refine (cond_Tag.calls a0 t148 _ ?side1 A5.out).mono ?_); (case side1 => exact Laid.below HT.out (by repeat (first | (with_reducible first | exact HB.out | apply below_alloc | apply pw_below_drewN | apply below_drew1) | exact HB.out))); rintro e w9 ⟨rfl, hb⟩; have n0_ := Aside0.mk (below_step (by repeat (first | (with_reducible first | exact HB.out | apply below_alloc | apply pw_below_drewN | apply below_drew1) | exact HB.out)) hb); clear HB; have HB := n0_; clear n0_; (try clear hb); (try clear hb2); (try clear hk); (try clear hi)) | (go_at_call 40; (with_reducible refine (cond_Parse.calls t148 t149 t150 _ ?side1 A6.out).mono ?_); (case side1 => exact Laid.below HT.out (by repeat (first | (with_reducible first | exact HB.out | apply below_alloc | apply pw_below_drewN | apply below_drew1) | exact HB.out))); rintro e w10 ⟨rfl, hb⟩; have n0_ := Aside0.mk (below_step (by repeat (first | (with_reducible first | exact HB.out | apply below_alloc | apply pw_below_drewN | apply below_drew1) | exact HB.out)) hb); clear HB; have HB := n0_; clear n0_; (try clear hb); (try clear hb2); (try clear hk); (try clear hi)))
    repeat (go_quiet (first | (go_at_call 38; (with_reducible refine (calepinlaw10_first.calls k  true _ ?side1 A3.out).mono ?_); (case side1 => exact Laid.below HT.out (by repeat (first | (with_reducible first | exact HB.out | apply below_alloc | apply pw_below_drewN | apply below_drew1) | exact HB.out))); rintro e w8 ⟨rfl, hb⟩; have n0_ := Aside0.mk (below_step (by repeat (first | (with_reducible first | exact HB.out | apply below_alloc | apply pw_below_drewN | apply below_drew1) | exact HB.out)) hb); clear HB; have HB := n0_; clear n0_; (try clear hb); (try clear hb2); (try clear hk); (try clear hi)) | (go_at_call 39; (with_reducible refine (cond_Tag.calls a0 t148 _ ?side1 A5.out).mono ?_); (case side1 => exact Laid.below HT.out (by repeat (first | (with_reducible first | exact HB.out | apply below_alloc | apply pw_below_drewN | apply below_drew1) | exact HB.out))); rintro e w9 ⟨rfl, hb⟩; have n0_ := Aside0.mk (below_step (by repeat (first | (with_reducible first | exact HB.out | apply below_alloc | apply pw_below_drewN | apply below_drew1) | exact HB.out)) hb); clear HB; have HB := n0_; clear n0_; (try clear hb); (try clear hb2); (try clear hk); (try clear hi)) | (go_at_call 40; (with_reducible refine (cond_Parse.calls t148 t149 t150 _ ?side1 A6.out).mono ?_); (case side1 => exact Laid.below HT.out (by repeat (first | (with_reducible first | exact HB.out | apply below_alloc | apply pw_below_drewN | apply below_drew1) | exact HB.out))); rintro e w10 ⟨rfl, hb⟩; have n0_ := Aside0.mk (below_step (by repeat (first | (with_reducible first | exact HB.out | apply below_alloc | apply pw_below_drewN | apply below_drew1) | exact HB.out)) hb); clear HB; have HB := n0_; clear n0_; (try clear hb); (try clear hb2); (try clear hk); (try clear hi))); go_upto_region 5 with (first | (go_at_call 38; (with_reducible refine (calepinlaw10_first.calls k  true _ ?side1 A3.out).mono ?_); (case side1 => exact Laid.below HT.out (by repeat (first | (with_reducible first | exact HB.out | apply below_alloc | apply pw_below_drewN | apply below_drew1) | exact HB.out))); rintro e w8 ⟨rfl, hb⟩; have n0_ := Aside0.mk (below_step (by repeat (first | (with_reducible first | exact HB.out | apply below_alloc | apply pw_below_drewN | apply below_drew1) | exact HB.out)) hb); clear HB; have HB := n0_; clear n0_; (try clear hb); (try clear hb2); (try clear hk); (try clear hi)) | (go_at_call 39; (with_reducible refine (cond_Tag.calls a0 t148 _ ?side1 A5.out).mono ?_); (case side1 => exact Laid.below HT.out (by repeat (first | (with_reducible first | exact HB.out | apply below_alloc | apply pw_below_drewN | apply below_drew1) | exact HB.out))); rintro e w9 ⟨rfl, hb⟩; have n0_ := Aside0.mk (below_step (by repeat (first | (with_reducible first | exact HB.out | apply below_alloc | apply pw_below_drewN | apply below_drew1) | exact HB.out)) hb); clear HB; have HB := n0_; clear n0_; (try clear hb); (try clear hb2); (try clear hk); (try clear hi)) | (go_at_call 40; (with_reducible refine (cond_Parse.calls t148 t149 t150 _ ?side1 A6.out).mono ?_); (case side1 => exact Laid.below HT.out (by repeat (first | (with_reducible first | exact HB.out | apply below_alloc | apply pw_below_drewN | apply below_drew1) | exact HB.out))); rintro e w10 ⟨rfl, hb⟩; have n0_ := Aside0.mk (below_step (by repeat (first | (with_reducible first | exact HB.out | apply below_alloc | apply pw_below_drewN | apply below_drew1) | exact HB.out)) hb); clear HB; have HB := n0_; clear n0_; (try clear hb); (try clear hb2); (try clear hk); (try clear hi))))
    (try simp only [Act.put, List.setIfInBounds_toArray, List.set_cons_zero, List.set_cons_succ])
    go_cut [52] (fun v52 wc => ∃ (kq : Nat) (x52_6 : Bool), v52 = .bool x52_6 ∧ Aside0 (calepinlaw10_CondTags.j0 kq a1 x52_6 = some r) ∧ Aside0 (kq ≤ k) ∧ Aside0 (Below w.heap.size w wc))
    case first =>
      have H := HC7.out
      clear HC7
      replace H := Option.bind_eq_some_iff.mp H
      obtain ⟨t151, A110, H⟩ := H
      replace H : (if t148.toList = t151.toList then (if (t150 != (t148.toList != ([] : List UInt8))) = true then (calepinlaw10_CondTags.j0 k a1 true) else (if t150 = true then (if t149 = a0 then (calepinlaw10_CondTags.j0 k a1 false) else (calepinlaw10_CondTags.j0 k a1 true)) else (calepinlaw10_CondTags.j0 k a1 (t149 != 0)))) else (calepinlaw10_CondTags.j0 k a1 true)) = some r := H
      have A11 := Aside0.mk A110
      clear A110
      by_cases c12 : t148.toList = t151.toList
      · rw [if_pos c12] at H
        have c12b0 : (t148.toList == t151.toList) = true := beq_iff_eq.mpr c12
        have c12b1 : (t148.toList != t151.toList) = false := bne_eq_false_iff_eq.mpr c12
        clear c12
        (first | rw [c12b0] | rw [c12b1] | (simp only [i64_w, i32_w]; rw [c12b0]) | skip)
        by_cases c13 : (t150 != (t148.toList != ([] : List UInt8))) = true
        · rw [if_pos c13] at H
          have c13b0 : (t150 != (t148.toList != ([] : List UInt8))) = true := c13
          have c13b8 : (t150 = !t148.toList.isEmpty) = False := by revert c13; cases t150 <;> cases hh_ : t148.toList <;> simp
          have c13b9 : decide (t150 = !t148.toList.isEmpty) = false := decide_eq_false (of_eq_false c13b8)
          (try (have c13b1 : decide (t150 = (t148.toList != ([] : List UInt8))) = false := by simpa using c13))
          (try (have c13b2 : (t150 == (t148.toList != ([] : List UInt8))) = false := by simpa using c13))
          (try (have c13b3 : ¬ (t150 = (t148.toList != ([] : List UInt8))) := by simpa using c13))
          clear c13
          have H' := Aside0.mk H
          clear H
          go_wp2_with (first | (go_at_call 41; (with_reducible refine (calepinref10_Tag.calls k a0 t151 _ ?side1 A11.out).mono ?_); (case side1 => exact Laid.below HT.out (by repeat (first | (with_reducible first | exact HB.out | apply below_alloc | apply pw_below_drewN | apply below_drew1) | exact HB.out))); rintro e w14 ⟨rfl, hb⟩; have n0_ := Aside0.mk (below_step (by repeat (first | (with_reducible first | exact HB.out | apply below_alloc | apply pw_below_drewN | apply below_drew1) | exact HB.out)) hb); clear HB; have HB := n0_; clear n0_; (try clear hb); (try clear hb2); (try clear hk); (try clear hi)))
          repeat (go_quiet (first | (go_at_call 41; (with_reducible refine (calepinref10_Tag.calls k a0 t151 _ ?side1 A11.out).mono ?_); (case side1 => exact Laid.below HT.out (by repeat (first | (with_reducible first | exact HB.out | apply below_alloc | apply pw_below_drewN | apply below_drew1) | exact HB.out))); rintro e w14 ⟨rfl, hb⟩; have n0_ := Aside0.mk (below_step (by repeat (first | (with_reducible first | exact HB.out | apply below_alloc | apply pw_below_drewN | apply below_drew1) | exact HB.out)) hb); clear HB; have HB := n0_; clear n0_; (try clear hb); (try clear hb2); (try clear hk); (try clear hi))); try go_wp2_with (first | (go_at_call 41; (with_reducible refine (calepinref10_Tag.calls k a0 t151 _ ?side1 A11.out).mono ?_); (case side1 => exact Laid.below HT.out (by repeat (first | (with_reducible first | exact HB.out | apply below_alloc | apply pw_below_drewN | apply below_drew1) | exact HB.out))); rintro e w14 ⟨rfl, hb⟩; have n0_ := Aside0.mk (below_step (by repeat (first | (with_reducible first | exact HB.out | apply below_alloc | apply pw_below_drewN | apply below_drew1) | exact HB.out)) hb); clear HB; have HB := n0_; clear n0_; (try clear hb); (try clear hb2); (try clear hk); (try clear hi))))
          go_meet
          case rel => exact ⟨_, (true), (by first | rfl | (simp; done) | (simp [*]; done)), H', ⟨by first | omega | exact Nat.le_refl _⟩, ⟨by repeat (first | (with_reducible first | exact HB.out | apply below_alloc | apply pw_below_drewN | apply below_drew1) | exact HB.out)⟩⟩
        · rw [if_neg c13] at H
          have c13b0 : (t150 != (t148.toList != ([] : List UInt8))) = false := by simpa using c13
          have c13b8 : (t150 = !t148.toList.isEmpty) = True := by revert c13; cases t150 <;> cases hh_ : t148.toList <;> simp
          have c13b9 : decide (t150 = !t148.toList.isEmpty) = true := decide_eq_true (of_eq_true c13b8)
          (try (have c13b1 : decide (t150 = (t148.toList != ([] : List UInt8))) = true := by simpa using c13))
          (try (have c13b2 : (t150 == (t148.toList != ([] : List UInt8))) = true := by simpa using c13))
          clear c13
          by_cases c15 : t150 = true
          · subst c15
            have c15b8 : (t148.toList = []) = False := eq_false fun h_ => by rw [h_] at c13b8; simp at c13b8
            have c15b9 : t148.toList.isEmpty = false := by rw [Bool.eq_false_iff]; intro h_; rw [h_] at c13b8; simp at c13b8
            have H1 : (if t149 = a0 then (calepinlaw10_CondTags.j0 k a1 false) else (calepinlaw10_CondTags.j0 k a1 true)) = some r := by rw [if_pos rfl] at H; exact H
            clear H
            have H := H1
            clear H1
            by_cases c16 : t149 = a0
            · rw [if_pos c16] at H
              have c16b0 : (t149 == a0) = true := beq_iff_eq.mpr c16
              have c16b1 : (t149 != a0) = false := bne_eq_false_iff_eq.mpr c16
              clear c16
              have H' := Aside0.mk H
              clear H
              go_wp2_with (first | (go_at_call 41; (with_reducible refine (calepinref10_Tag.calls k a0 t151 _ ?side1 A11.out).mono ?_); (case side1 => exact Laid.below HT.out (by repeat (first | (with_reducible first | exact HB.out | apply below_alloc | apply pw_below_drewN | apply below_drew1) | exact HB.out))); rintro e w17 ⟨rfl, hb⟩; have n0_ := Aside0.mk (below_step (by repeat (first | (with_reducible first | exact HB.out | apply below_alloc | apply pw_below_drewN | apply below_drew1) | exact HB.out)) hb); clear HB; have HB := n0_; clear n0_; (try clear hb); (try clear hb2); (try clear hk); (try clear hi)))
              repeat (go_quiet (first | (go_at_call 41; (with_reducible refine (calepinref10_Tag.calls k a0 t151 _ ?side1 A11.out).mono ?_); (case side1 => exact Laid.below HT.out (by repeat (first | (with_reducible first | exact HB.out | apply below_alloc | apply pw_below_drewN | apply below_drew1) | exact HB.out))); rintro e w17 ⟨rfl, hb⟩; have n0_ := Aside0.mk (below_step (by repeat (first | (with_reducible first | exact HB.out | apply below_alloc | apply pw_below_drewN | apply below_drew1) | exact HB.out)) hb); clear HB; have HB := n0_; clear n0_; (try clear hb); (try clear hb2); (try clear hk); (try clear hi))); try go_wp2_with (first | (go_at_call 41; (with_reducible refine (calepinref10_Tag.calls k a0 t151 _ ?side1 A11.out).mono ?_); (case side1 => exact Laid.below HT.out (by repeat (first | (with_reducible first | exact HB.out | apply below_alloc | apply pw_below_drewN | apply below_drew1) | exact HB.out))); rintro e w17 ⟨rfl, hb⟩; have n0_ := Aside0.mk (below_step (by repeat (first | (with_reducible first | exact HB.out | apply below_alloc | apply pw_below_drewN | apply below_drew1) | exact HB.out)) hb); clear HB; have HB := n0_; clear n0_; (try clear hb); (try clear hb2); (try clear hk); (try clear hi))))
              go_meet
              case rel => exact ⟨_, (false), (by first | rfl | (simp; done) | (simp [*]; done)), H', ⟨by first | omega | exact Nat.le_refl _⟩, ⟨by repeat (first | (with_reducible first | exact HB.out | apply below_alloc | apply pw_below_drewN | apply below_drew1) | exact HB.out)⟩⟩
            · rw [if_neg c16] at H
              have c16b0 : (t149 == a0) = false := beq_eq_false_iff_ne.mpr c16
              have c16b1 : (t149 != a0) = true := bne_iff_ne.mpr c16
              have H' := Aside0.mk H
              clear H
              go_wp2_with (first | (go_at_call 41; (with_reducible refine (calepinref10_Tag.calls k a0 t151 _ ?side1 A11.out).mono ?_); (case side1 => exact Laid.below HT.out (by repeat (first | (with_reducible first | exact HB.out | apply below_alloc | apply pw_below_drewN | apply below_drew1) | exact HB.out))); rintro e w18 ⟨rfl, hb⟩; have n0_ := Aside0.mk (below_step (by repeat (first | (with_reducible first | exact HB.out | apply below_alloc | apply pw_below_drewN | apply below_drew1) | exact HB.out)) hb); clear HB; have HB := n0_; clear n0_; (try clear hb); (try clear hb2); (try clear hk); (try clear hi)))
              repeat (go_quiet (first | (go_at_call 41; (with_reducible refine (calepinref10_Tag.calls k a0 t151 _ ?side1 A11.out).mono ?_); (case side1 => exact Laid.below HT.out (by repeat (first | (with_reducible first | exact HB.out | apply below_alloc | apply pw_below_drewN | apply below_drew1) | exact HB.out))); rintro e w18 ⟨rfl, hb⟩; have n0_ := Aside0.mk (below_step (by repeat (first | (with_reducible first | exact HB.out | apply below_alloc | apply pw_below_drewN | apply below_drew1) | exact HB.out)) hb); clear HB; have HB := n0_; clear n0_; (try clear hb); (try clear hb2); (try clear hk); (try clear hi))); try go_wp2_with (first | (go_at_call 41; (with_reducible refine (calepinref10_Tag.calls k a0 t151 _ ?side1 A11.out).mono ?_); (case side1 => exact Laid.below HT.out (by repeat (first | (with_reducible first | exact HB.out | apply below_alloc | apply pw_below_drewN | apply below_drew1) | exact HB.out))); rintro e w18 ⟨rfl, hb⟩; have n0_ := Aside0.mk (below_step (by repeat (first | (with_reducible first | exact HB.out | apply below_alloc | apply pw_below_drewN | apply below_drew1) | exact HB.out)) hb); clear HB; have HB := n0_; clear n0_; (try clear hb); (try clear hb2); (try clear hk); (try clear hi))))
              go_meet
              case rel => exact ⟨_, (true), (by first | rfl | (simp; done) | (simp [*]; done)), H', ⟨by first | omega | exact Nat.le_refl _⟩, ⟨by repeat (first | (with_reducible first | exact HB.out | apply below_alloc | apply pw_below_drewN | apply below_drew1) | exact HB.out)⟩⟩
          · replace c15 := Bool.eq_false_iff.mpr c15
            subst c15
            have c15b8 : (t148.toList = []) = True := eq_true (by cases h_ : t148.toList with | nil => rfl | cons _ _ => rw [h_] at c13b8; simp at c13b8)
            have c15b9 : t148.toList.isEmpty = true := List.isEmpty_iff.2 (of_eq_true c15b8)
            have H1 : (calepinlaw10_CondTags.j0 k a1 (t149 != 0)) = some r := by rw [if_neg (show ¬ (false = true) by decide)] at H; exact H
            clear H
            have H := H1
            clear H1
            have H' := Aside0.mk H
            clear H
            go_wp2_with (first | (go_at_call 41; (with_reducible refine (calepinref10_Tag.calls k a0 t151 _ ?side1 A11.out).mono ?_); (case side1 => exact Laid.below HT.out (by repeat (first | (with_reducible first | exact HB.out | apply below_alloc | apply pw_below_drewN | apply below_drew1) | exact HB.out))); rintro e w19 ⟨rfl, hb⟩; have n0_ := Aside0.mk (below_step (by repeat (first | (with_reducible first | exact HB.out | apply below_alloc | apply pw_below_drewN | apply below_drew1) | exact HB.out)) hb); clear HB; have HB := n0_; clear n0_; (try clear hb); (try clear hb2); (try clear hk); (try clear hi)))
            repeat (go_quiet (first | (go_at_call 41; (with_reducible refine (calepinref10_Tag.calls k a0 t151 _ ?side1 A11.out).mono ?_); (case side1 => exact Laid.below HT.out (by repeat (first | (with_reducible first | exact HB.out | apply below_alloc | apply pw_below_drewN | apply below_drew1) | exact HB.out))); rintro e w19 ⟨rfl, hb⟩; have n0_ := Aside0.mk (below_step (by repeat (first | (with_reducible first | exact HB.out | apply below_alloc | apply pw_below_drewN | apply below_drew1) | exact HB.out)) hb); clear HB; have HB := n0_; clear n0_; (try clear hb); (try clear hb2); (try clear hk); (try clear hi))); try go_wp2_with (first | (go_at_call 41; (with_reducible refine (calepinref10_Tag.calls k a0 t151 _ ?side1 A11.out).mono ?_); (case side1 => exact Laid.below HT.out (by repeat (first | (with_reducible first | exact HB.out | apply below_alloc | apply pw_below_drewN | apply below_drew1) | exact HB.out))); rintro e w19 ⟨rfl, hb⟩; have n0_ := Aside0.mk (below_step (by repeat (first | (with_reducible first | exact HB.out | apply below_alloc | apply pw_below_drewN | apply below_drew1) | exact HB.out)) hb); clear HB; have HB := n0_; clear n0_; (try clear hb); (try clear hb2); (try clear hk); (try clear hi))))
            go_meet
            case rel => exact ⟨_, ((t149 != 0)), (by first | rfl | (simp; done) | (simp [*]; done)), H', ⟨by first | omega | exact Nat.le_refl _⟩, ⟨by repeat (first | (with_reducible first | exact HB.out | apply below_alloc | apply pw_below_drewN | apply below_drew1) | exact HB.out)⟩⟩
      · rw [if_neg c12] at H
        have c12b0 : (t148.toList == t151.toList) = false := beq_eq_false_iff_ne.mpr c12
        have c12b1 : (t148.toList != t151.toList) = true := bne_iff_ne.mpr c12
        (first | rw [c12b0] | rw [c12b1] | (simp only [i64_w, i32_w]; rw [c12b0]) | skip)
        have H' := Aside0.mk H
        clear H
        go_wp2_with (first | (go_at_call 41; (with_reducible refine (calepinref10_Tag.calls k a0 t151 _ ?side1 A11.out).mono ?_); (case side1 => exact Laid.below HT.out (by repeat (first | (with_reducible first | exact HB.out | apply below_alloc | apply pw_below_drewN | apply below_drew1) | exact HB.out))); rintro e w20 ⟨rfl, hb⟩; have n0_ := Aside0.mk (below_step (by repeat (first | (with_reducible first | exact HB.out | apply below_alloc | apply pw_below_drewN | apply below_drew1) | exact HB.out)) hb); clear HB; have HB := n0_; clear n0_; (try clear hb); (try clear hb2); (try clear hk); (try clear hi)))
        repeat (go_quiet (first | (go_at_call 41; (with_reducible refine (calepinref10_Tag.calls k a0 t151 _ ?side1 A11.out).mono ?_); (case side1 => exact Laid.below HT.out (by repeat (first | (with_reducible first | exact HB.out | apply below_alloc | apply pw_below_drewN | apply below_drew1) | exact HB.out))); rintro e w20 ⟨rfl, hb⟩; have n0_ := Aside0.mk (below_step (by repeat (first | (with_reducible first | exact HB.out | apply below_alloc | apply pw_below_drewN | apply below_drew1) | exact HB.out)) hb); clear HB; have HB := n0_; clear n0_; (try clear hb); (try clear hb2); (try clear hk); (try clear hi))); try go_wp2_with (first | (go_at_call 41; (with_reducible refine (calepinref10_Tag.calls k a0 t151 _ ?side1 A11.out).mono ?_); (case side1 => exact Laid.below HT.out (by repeat (first | (with_reducible first | exact HB.out | apply below_alloc | apply pw_below_drewN | apply below_drew1) | exact HB.out))); rintro e w20 ⟨rfl, hb⟩; have n0_ := Aside0.mk (below_step (by repeat (first | (with_reducible first | exact HB.out | apply below_alloc | apply pw_below_drewN | apply below_drew1) | exact HB.out)) hb); clear HB; have HB := n0_; clear n0_; (try clear hb); (try clear hb2); (try clear hk); (try clear hi))))
        go_meet
        case rel => exact ⟨_, (true), (by first | rfl | (simp; done) | (simp [*]; done)), H', ⟨by first | omega | exact Nat.le_refl _⟩, ⟨by repeat (first | (with_reducible first | exact HB.out | apply below_alloc | apply pw_below_drewN | apply below_drew1) | exact HB.out)⟩⟩
    case rest =>
      clear HC7
      try clear c1
      try clear p2
      try clear c4
      try clear c12
      try clear c12b0
      try clear c12b1
      try clear c13
      try clear c13b0
      try clear c13b1
      try clear c13b2
      try clear c15
      try clear c16
      try clear c16b0
      try clear c16b1
      obtain ⟨kq, x52_6, rfl, HA, HJ6, HB⟩ := hcut
      cases kq with
      | zero => exact absurd HA.out (by simp [calepinlaw10_CondTags.j0])
      | succ kj6 =>
        have H := HA.out
        clear HA
        simp only [calepinlaw10_CondTags.j0] at H
        by_cases c21 : x52_6 = true
        · subst c21
          have H1 : (some false) = some r := by rw [if_pos rfl] at H; exact H
          clear H
          have H := H1
          clear H1
          obtain rfl := Option.some.inj H
          go_wp2
          repeat (go_quiet (fail); try go_wp2)
          go_ret
          exact ⟨by first | rfl | (simp [errW_none, errW_some] <;> rfl) | (simp [*, errW_none, errW_some] <;> rfl), by repeat (first | (with_reducible first | exact HB.out | apply below_alloc | apply pw_below_drewN | apply below_drew1) | exact HB.out)⟩
        · replace c21 := Bool.eq_false_iff.mpr c21
          subst c21
          have H1 : ((cond_Parse.f a1).bind fun bt152 => ((calepinref10_Parse.f kj6 a1).bind fun t154 => (if (bt152.2 != (decide (t154 > 0))) = true then (calepinlaw10_CondTags.j1 kj6 a1 true) else (if bt152.2 = true then (if bt152.1 = t154 then (calepinlaw10_CondTags.j1 kj6 a1 false) else (calepinlaw10_CondTags.j1 kj6 a1 true)) else (calepinlaw10_CondTags.j1 kj6 a1 (bt152.1 != 0)))))) = some r := by rw [if_neg (show ¬ (false = true) by decide)] at H; exact H
          clear H
          have H := H1
          clear H1
          replace H := Option.bind_eq_some_iff.mp H
          obtain ⟨⟨t152, t153⟩, A220, H⟩ := H
          replace H : ((calepinref10_Parse.f kj6 a1).bind fun t154 => (if (t153 != (decide (t154 > 0))) = true then (calepinlaw10_CondTags.j1 kj6 a1 true) else (if t153 = true then (if t152 = t154 then (calepinlaw10_CondTags.j1 kj6 a1 false) else (calepinlaw10_CondTags.j1 kj6 a1 true)) else (calepinlaw10_CondTags.j1 kj6 a1 (t152 != 0))))) = some r := H
          have A22 := Aside0.mk A220
          clear A220
          replace H := Option.bind_eq_some_iff.mp H
          obtain ⟨t154, A230, H⟩ := H
          replace H : (if (t153 != (decide (t154 > 0))) = true then (calepinlaw10_CondTags.j1 kj6 a1 true) else (if t153 = true then (if t152 = t154 then (calepinlaw10_CondTags.j1 kj6 a1 false) else (calepinlaw10_CondTags.j1 kj6 a1 true)) else (calepinlaw10_CondTags.j1 kj6 a1 (t152 != 0)))) = some r := H
          have A23 := Aside0.mk A230
          clear A230
          have HC24 := Aside0.mk H
          clear H
          go_upto_region 9 with (first | (go_at_call 40; (with_reducible refine (cond_Parse.calls a1 t152 t153 _ ?side1 A22.out).mono ?_); (case side1 => exact Laid.below HT.out (by repeat (first | (with_reducible first | exact HB.out | apply below_alloc | apply pw_below_drewN | apply below_drew1) | exact HB.out))); rintro e w25 ⟨rfl, hb⟩; have n0_ := Aside0.mk (below_step (by repeat (first | (with_reducible first | exact HB.out | apply below_alloc | apply pw_below_drewN | apply below_drew1) | exact HB.out)) hb); clear HB; have HB := n0_; clear n0_; (try clear hb); (try clear hb2); (try clear hk); (try clear hi)) | (go_at_call 42; (with_reducible refine (calepinref10_Parse.calls kj6 a1 t154 _ ?side1 A23.out).mono ?_); (case side1 => exact Laid.below HT.out (by repeat (first | (with_reducible first | exact HB.out | apply below_alloc | apply pw_below_drewN | apply below_drew1) | exact HB.out))); rintro e w26 ⟨rfl, hb⟩; have n0_ := Aside0.mk (below_step (by repeat (first | (with_reducible first | exact HB.out | apply below_alloc | apply pw_below_drewN | apply below_drew1) | exact HB.out)) hb); clear HB; have HB := n0_; clear n0_; (try clear hb); (try clear hb2); (try clear hk); (try clear hi)))
          repeat (go_quiet (first | (go_at_call 40; (with_reducible refine (cond_Parse.calls a1 t152 t153 _ ?side1 A22.out).mono ?_); (case side1 => exact Laid.below HT.out (by repeat (first | (with_reducible first | exact HB.out | apply below_alloc | apply pw_below_drewN | apply below_drew1) | exact HB.out))); rintro e w25 ⟨rfl, hb⟩; have n0_ := Aside0.mk (below_step (by repeat (first | (with_reducible first | exact HB.out | apply below_alloc | apply pw_below_drewN | apply below_drew1) | exact HB.out)) hb); clear HB; have HB := n0_; clear n0_; (try clear hb); (try clear hb2); (try clear hk); (try clear hi)) | (go_at_call 42; (with_reducible refine (calepinref10_Parse.calls kj6 a1 t154 _ ?side1 A23.out).mono ?_); (case side1 => exact Laid.below HT.out (by repeat (first | (with_reducible first | exact HB.out | apply below_alloc | apply pw_below_drewN | apply below_drew1) | exact HB.out))); rintro e w26 ⟨rfl, hb⟩; have n0_ := Aside0.mk (below_step (by repeat (first | (with_reducible first | exact HB.out | apply below_alloc | apply pw_below_drewN | apply below_drew1) | exact HB.out)) hb); clear HB; have HB := n0_; clear n0_; (try clear hb); (try clear hb2); (try clear hk); (try clear hi))); go_upto_region 9 with (first | (go_at_call 40; (with_reducible refine (cond_Parse.calls a1 t152 t153 _ ?side1 A22.out).mono ?_); (case side1 => exact Laid.below HT.out (by repeat (first | (with_reducible first | exact HB.out | apply below_alloc | apply pw_below_drewN | apply below_drew1) | exact HB.out))); rintro e w25 ⟨rfl, hb⟩; have n0_ := Aside0.mk (below_step (by repeat (first | (with_reducible first | exact HB.out | apply below_alloc | apply pw_below_drewN | apply below_drew1) | exact HB.out)) hb); clear HB; have HB := n0_; clear n0_; (try clear hb); (try clear hb2); (try clear hk); (try clear hi)) | (go_at_call 42; (with_reducible refine (calepinref10_Parse.calls kj6 a1 t154 _ ?side1 A23.out).mono ?_); (case side1 => exact Laid.below HT.out (by repeat (first | (with_reducible first | exact HB.out | apply below_alloc | apply pw_below_drewN | apply below_drew1) | exact HB.out))); rintro e w26 ⟨rfl, hb⟩; have n0_ := Aside0.mk (below_step (by repeat (first | (with_reducible first | exact HB.out | apply below_alloc | apply pw_below_drewN | apply below_drew1) | exact HB.out)) hb); clear HB; have HB := n0_; clear n0_; (try clear hb); (try clear hb2); (try clear hk); (try clear hi))))
          (try simp only [Act.put, List.setIfInBounds_toArray, List.set_cons_zero, List.set_cons_succ])
          go_cut [79] (fun v79 wc => ∃ (kq : Nat) (x79_23 : Bool), v79 = .bool x79_23 ∧ Aside0 (calepinlaw10_CondTags.j1 kq a1 x79_23 = some r) ∧ Aside0 (kq ≤ kj6) ∧ Aside0 (Below w.heap.size w wc))
          case first =>
            have H := HC24.out
            clear HC24
            by_cases c27 : (t153 != (decide (t154 > 0))) = true
            · rw [if_pos c27] at H
              have c27b0 : (t153 != (decide (t154 > 0))) = true := c27
              (try (have c27b1 : decide (t153 = (decide (t154 > 0))) = false := by simpa using c27))
              (try (have c27b2 : (t153 == (decide (t154 > 0))) = false := by simpa using c27))
              (try (have c27b3 : ¬ (t153 = (decide (t154 > 0))) := by simpa using c27))
              clear c27
              (first | rw [c27b0] | rw [c27b1] | rw [c27b2] | rw [c27b3] | (simp only [i64_w, i32_w]; rw [c27b0]) | skip)
              have H' := Aside0.mk H
              clear H
              go_wp2
              repeat (go_quiet (fail); try go_wp2)
              go_meet
              case rel => exact ⟨_, (true), (by first | rfl | (simp; done) | (simp [*]; done)), H', ⟨by have := HJ6.out; first | omega | exact Nat.le_refl _⟩, ⟨by repeat (first | (with_reducible first | exact HB.out | apply below_alloc | apply pw_below_drewN | apply below_drew1) | exact HB.out)⟩⟩
            · rw [if_neg c27] at H
              have c27b0 : (t153 != (decide (t154 > 0))) = false := by simpa using c27
              (try (have c27b1 : decide (t153 = (decide (t154 > 0))) = true := by simpa using c27))
              (try (have c27b2 : (t153 == (decide (t154 > 0))) = true := by simpa using c27))
              clear c27
              (first | rw [c27b0] | rw [c27b3] | rw [c27b1] | rw [c27b2] | (simp only [i64_w, i32_w]; rw [c27b0]) | skip)
              by_cases c28 : t153 = true
              · subst c28
                have H1 : (if t152 = t154 then (calepinlaw10_CondTags.j1 kj6 a1 false) else (calepinlaw10_CondTags.j1 kj6 a1 true)) = some r := by rw [if_pos rfl] at H; exact H
                clear H
                have H := H1
                clear H1
                by_cases c29 : t152 = t154
                · rw [if_pos c29] at H
                  have c29b0 : (t152 == t154) = true := beq_iff_eq.mpr c29
                  have c29b1 : (t152 != t154) = false := bne_eq_false_iff_eq.mpr c29
                  clear c29
                  have H' := Aside0.mk H
                  clear H
                  go_wp2
                  repeat (go_quiet (fail); try go_wp2)
                  go_meet
                  case rel => exact ⟨_, (false), (by first | rfl | (simp; done) | (simp [*]; done)), H', ⟨by have := HJ6.out; first | omega | exact Nat.le_refl _⟩, ⟨by repeat (first | (with_reducible first | exact HB.out | apply below_alloc | apply pw_below_drewN | apply below_drew1) | exact HB.out)⟩⟩
                · rw [if_neg c29] at H
                  have c29b0 : (t152 == t154) = false := beq_eq_false_iff_ne.mpr c29
                  have c29b1 : (t152 != t154) = true := bne_iff_ne.mpr c29
                  have H' := Aside0.mk H
                  clear H
                  go_wp2
                  repeat (go_quiet (fail); try go_wp2)
                  go_meet
                  case rel => exact ⟨_, (true), (by first | rfl | (simp; done) | (simp [*]; done)), H', ⟨by have := HJ6.out; first | omega | exact Nat.le_refl _⟩, ⟨by repeat (first | (with_reducible first | exact HB.out | apply below_alloc | apply pw_below_drewN | apply below_drew1) | exact HB.out)⟩⟩
              · replace c28 := Bool.eq_false_iff.mpr c28
                subst c28
                have H1 : (calepinlaw10_CondTags.j1 kj6 a1 (t152 != 0)) = some r := by rw [if_neg (show ¬ (false = true) by decide)] at H; exact H
                clear H
                have H := H1
                clear H1
                have H' := Aside0.mk H
                clear H
                go_wp2
                repeat (go_quiet (fail); try go_wp2)
                go_meet
                case rel => exact ⟨_, ((t152 != 0)), (by first | rfl | (simp; done) | (simp [*]; done)), H', ⟨by have := HJ6.out; first | omega | exact Nat.le_refl _⟩, ⟨by repeat (first | (with_reducible first | exact HB.out | apply below_alloc | apply pw_below_drewN | apply below_drew1) | exact HB.out)⟩⟩
          case rest =>
            clear HC24
            try clear c1
            try clear c2
            try clear p2
            try clear c4
            try clear c12
            try clear c12b0
            try clear c12b1
            try clear c13
            try clear c13b0
            try clear c13b1
            try clear c13b2
            try clear c15
            try clear c16
            try clear c16b0
            try clear c16b1
            try clear c21
            try clear c27
            try clear c27b0
            try clear c27b1
            try clear c27b2
            try clear c28
            try clear c29
            try clear c29b0
            try clear c29b1
            try clear p2
            obtain ⟨kq, x79_23, rfl, HA, HJ23, HB⟩ := hcut
            cases kq with
            | zero => exact absurd HA.out (by simp [calepinlaw10_CondTags.j1])
            | succ kj23 =>
              have H := HA.out
              clear HA
              simp only [calepinlaw10_CondTags.j1] at H
              by_cases c30 : x79_23 = true
              · subst c30
                have H1 : (some false) = some r := by rw [if_pos rfl] at H; exact H
                clear H
                have H := H1
                clear H1
                obtain rfl := Option.some.inj H
                go_wp2
                repeat (go_quiet (fail); try go_wp2)
                go_ret
                exact ⟨by first | rfl | (simp [errW_none, errW_some] <;> rfl) | (simp [*, errW_none, errW_some] <;> rfl), by repeat (first | (with_reducible first | exact HB.out | apply below_alloc | apply pw_below_drewN | apply below_drew1) | exact HB.out)⟩
              · replace c30 := Bool.eq_false_iff.mpr c30
                subst c30
                have H1 : ((cond_List.f kj23 a1).bind fun bt155 => ((calepinref10_List.f kj23 a1).bind fun bt160 => (if bt160.2.2 = true then (if bt155.2.2 = 0 then (if (bt155.2.1 != bt160.2.1) = true then (calepinlaw10_CondTags.j2 kj23 bt155.1 bt160.1 true) else (calepinlaw10_CondTags.j2 kj23 bt155.1 bt160.1 ((bt155.1.length : Int) != (bt160.1.length : Int)))) else (calepinlaw10_CondTags.j2 kj23 bt155.1 bt160.1 true)) else (if bt155.2.2 = 31 then (if (bt155.1.length : Int) = 0 then (some (!bt155.2.1)) else (some false)) else (some false))))) = some r := by rw [if_neg (show ¬ (false = true) by decide)] at H; exact H
                clear H
                have H := H1
                clear H1
                replace H := Option.bind_eq_some_iff.mp H
                obtain ⟨⟨t155, t156, t157⟩, A310, H⟩ := H
                replace H : ((calepinref10_List.f kj23 a1).bind fun bt160 => (if bt160.2.2 = true then (if t157 = 0 then (if (t156 != bt160.2.1) = true then (calepinlaw10_CondTags.j2 kj23 t155 bt160.1 true) else (calepinlaw10_CondTags.j2 kj23 t155 bt160.1 ((t155.length : Int) != (bt160.1.length : Int)))) else (calepinlaw10_CondTags.j2 kj23 t155 bt160.1 true)) else (if t157 = 31 then (if (t155.length : Int) = 0 then (some (!t156)) else (some false)) else (some false)))) = some r := H
                have A31 := Aside0.mk A310
                clear A310
                replace H := Option.bind_eq_some_iff.mp H
                obtain ⟨⟨t160, t161, t162⟩, A320, H⟩ := H
                replace H : (if t162 = true then (if t157 = 0 then (if (t156 != t161) = true then (calepinlaw10_CondTags.j2 kj23 t155 t160 true) else (calepinlaw10_CondTags.j2 kj23 t155 t160 ((t155.length : Int) != (t160.length : Int)))) else (calepinlaw10_CondTags.j2 kj23 t155 t160 true)) else (if t157 = 31 then (if (t155.length : Int) = 0 then (some (!t156)) else (some false)) else (some false))) = some r := H
                have A32 := Aside0.mk A320
                clear A320
                by_cases c33 : t162 = true
                · subst c33
                  have H1 : (if t157 = 0 then (if (t156 != t161) = true then (calepinlaw10_CondTags.j2 kj23 t155 t160 true) else (calepinlaw10_CondTags.j2 kj23 t155 t160 ((t155.length : Int) != (t160.length : Int)))) else (calepinlaw10_CondTags.j2 kj23 t155 t160 true)) = some r := by rw [if_pos rfl] at H; exact H
                  clear H
                  have H := H1
                  clear H1
                  have HC34 := Aside0.mk H
                  clear H
                  go_upto_region 15 with (first | (go_at_call 43; (with_reducible refine (cond_List.calls kj23 a1 t155 t156 t157 _ ?side1 A31.out).mono ?_); (case side1 => exact Laid.below HT.out (by repeat (first | (with_reducible first | exact HB.out | apply below_alloc | apply pw_below_drewN | apply below_drew1) | exact HB.out))); rintro e w35 ⟨v158, rfl, ho0, hb⟩; have n0_ := Aside0.mk (Kd.R_lower ho0 (below_size (by repeat (first | (with_reducible first | exact HB.out | apply below_alloc | apply pw_below_drewN | apply below_drew1) | exact HB.out)))); have n1_ := Aside0.mk (below_step (by repeat (first | (with_reducible first | exact HB.out | apply below_alloc | apply pw_below_drewN | apply below_drew1) | exact HB.out)) hb); clear HB; have HO159 := n0_; have HB := n1_; clear n0_ n1_; (try clear hb); (try clear hb2); (try clear hk); (try clear hi); (try clear ho0)) | (go_at_call 44; (with_reducible refine (calepinref10_List.calls kj23 a1 t160 t161 true _ ?side1 A32.out).mono ?_); (case side1 => exact Laid.below HT.out (by repeat (first | (with_reducible first | exact HB.out | apply below_alloc | apply pw_below_drewN | apply below_drew1) | exact HB.out))); rintro e w36 ⟨v163, rfl, ho0, hb⟩; have n0_ := Aside0.mk (Kd.R_elder' (by (with_reducible repeat (first | apply Kd.R_alloc | apply Kd.R_drewN | apply Kd.R_drew)); exact HO159.out) (Kd.R_base ho0) hb); have n1_ := Aside0.mk (Kd.R_lower (Kd.R_new' ho0 (Kd.R_lt (by (with_reducible repeat (first | apply Kd.R_alloc | apply Kd.R_drewN | apply Kd.R_drew)); exact HO159.out))) (below_size (by repeat (first | (with_reducible first | exact HB.out | apply below_alloc | apply pw_below_drewN | apply below_drew1) | exact HB.out)))); have n2_ := Aside0.mk (below_step (by repeat (first | (with_reducible first | exact HB.out | apply below_alloc | apply pw_below_drewN | apply below_drew1) | exact HB.out)) hb); clear HO159; clear HB; have HO159 := n0_; have HO164 := n1_; have HB := n2_; clear n0_ n1_ n2_; (try clear hb); (try clear hb2); (try clear hk); (try clear hi); (try clear ho0)))
                  repeat (go_quiet (first | (go_at_call 43; (with_reducible refine (cond_List.calls kj23 a1 t155 t156 t157 _ ?side1 A31.out).mono ?_); (case side1 => exact Laid.below HT.out (by repeat (first | (with_reducible first | exact HB.out | apply below_alloc | apply pw_below_drewN | apply below_drew1) | exact HB.out))); rintro e w35 ⟨v158, rfl, ho0, hb⟩; have n0_ := Aside0.mk (Kd.R_lower ho0 (below_size (by repeat (first | (with_reducible first | exact HB.out | apply below_alloc | apply pw_below_drewN | apply below_drew1) | exact HB.out)))); have n1_ := Aside0.mk (below_step (by repeat (first | (with_reducible first | exact HB.out | apply below_alloc | apply pw_below_drewN | apply below_drew1) | exact HB.out)) hb); clear HB; have HO159 := n0_; have HB := n1_; clear n0_ n1_; (try clear hb); (try clear hb2); (try clear hk); (try clear hi); (try clear ho0)) | (go_at_call 44; (with_reducible refine (calepinref10_List.calls kj23 a1 t160 t161 true _ ?side1 A32.out).mono ?_); (case side1 => exact Laid.below HT.out (by repeat (first | (with_reducible first | exact HB.out | apply below_alloc | apply pw_below_drewN | apply below_drew1) | exact HB.out))); rintro e w36 ⟨v163, rfl, ho0, hb⟩; have n0_ := Aside0.mk (Kd.R_elder' (by (with_reducible repeat (first | apply Kd.R_alloc | apply Kd.R_drewN | apply Kd.R_drew)); exact HO159.out) (Kd.R_base ho0) hb); have n1_ := Aside0.mk (Kd.R_lower (Kd.R_new' ho0 (Kd.R_lt (by (with_reducible repeat (first | apply Kd.R_alloc | apply Kd.R_drewN | apply Kd.R_drew)); exact HO159.out))) (below_size (by repeat (first | (with_reducible first | exact HB.out | apply below_alloc | apply pw_below_drewN | apply below_drew1) | exact HB.out)))); have n2_ := Aside0.mk (below_step (by repeat (first | (with_reducible first | exact HB.out | apply below_alloc | apply pw_below_drewN | apply below_drew1) | exact HB.out)) hb); clear HO159; clear HB; have HO159 := n0_; have HO164 := n1_; have HB := n2_; clear n0_ n1_ n2_; (try clear hb); (try clear hb2); (try clear hk); (try clear hi); (try clear ho0))); go_upto_region 15 with (first | (go_at_call 43; (with_reducible refine (cond_List.calls kj23 a1 t155 t156 t157 _ ?side1 A31.out).mono ?_); (case side1 => exact Laid.below HT.out (by repeat (first | (with_reducible first | exact HB.out | apply below_alloc | apply pw_below_drewN | apply below_drew1) | exact HB.out))); rintro e w35 ⟨v158, rfl, ho0, hb⟩; have n0_ := Aside0.mk (Kd.R_lower ho0 (below_size (by repeat (first | (with_reducible first | exact HB.out | apply below_alloc | apply pw_below_drewN | apply below_drew1) | exact HB.out)))); have n1_ := Aside0.mk (below_step (by repeat (first | (with_reducible first | exact HB.out | apply below_alloc | apply pw_below_drewN | apply below_drew1) | exact HB.out)) hb); clear HB; have HO159 := n0_; have HB := n1_; clear n0_ n1_; (try clear hb); (try clear hb2); (try clear hk); (try clear hi); (try clear ho0)) | (go_at_call 44; (with_reducible refine (calepinref10_List.calls kj23 a1 t160 t161 true _ ?side1 A32.out).mono ?_); (case side1 => exact Laid.below HT.out (by repeat (first | (with_reducible first | exact HB.out | apply below_alloc | apply pw_below_drewN | apply below_drew1) | exact HB.out))); rintro e w36 ⟨v163, rfl, ho0, hb⟩; have n0_ := Aside0.mk (Kd.R_elder' (by (with_reducible repeat (first | apply Kd.R_alloc | apply Kd.R_drewN | apply Kd.R_drew)); exact HO159.out) (Kd.R_base ho0) hb); have n1_ := Aside0.mk (Kd.R_lower (Kd.R_new' ho0 (Kd.R_lt (by (with_reducible repeat (first | apply Kd.R_alloc | apply Kd.R_drewN | apply Kd.R_drew)); exact HO159.out))) (below_size (by repeat (first | (with_reducible first | exact HB.out | apply below_alloc | apply pw_below_drewN | apply below_drew1) | exact HB.out)))); have n2_ := Aside0.mk (below_step (by repeat (first | (with_reducible first | exact HB.out | apply below_alloc | apply pw_below_drewN | apply below_drew1) | exact HB.out)) hb); clear HO159; clear HB; have HO159 := n0_; have HO164 := n1_; have HB := n2_; clear n0_ n1_ n2_; (try clear hb); (try clear hb2); (try clear hk); (try clear hi); (try clear ho0))))
                  (try simp only [Act.put, List.setIfInBounds_toArray, List.set_cons_zero, List.set_cons_succ])
                  go_cut [118] (fun v118 wc => ∃ (kq : Nat) (x118_33 : Bool), v118 = .bool x118_33 ∧ Aside0 (calepinlaw10_CondTags.j2 kq t155 t160 x118_33 = some r) ∧ Aside0 (kq ≤ kj23) ∧ Aside0 (Kd.R (Kd.int .i64) 3 wc w.heap.size (fun k_ => some k_ ≠ (v163 : Value).ownBlock) v158 t155) ∧ Aside0 (Kd.R (Kd.int .i64) 3 wc w.heap.size (fun k_ => some k_ ≠ (v158 : Value).ownBlock) v163 t160) ∧ Aside0 (Below w.heap.size w wc))
                  case first =>
                    have H := HC34.out
                    clear HC34
                    by_cases c37 : t157 = 0
                    · rw [if_pos c37] at H
                      have c37b0 : (t157 == 0) = true := beq_iff_eq.mpr c37
                      have c37b1 : (t157 != 0) = false := bne_eq_false_iff_eq.mpr c37
                      clear c37
                      (first | rw [c37b0] | rw [c37b1] | (simp only [i64_w, i32_w]; rw [c37b0]) | skip)
                      by_cases c38 : (t156 != t161) = true
                      · rw [if_pos c38] at H
                        have c38b0 : (t156 != t161) = true := c38
                        (try (have c38b1 : decide (t156 = t161) = false := by simpa using c38))
                        (try (have c38b2 : (t156 == t161) = false := by simpa using c38))
                        (try (have c38b3 : ¬ (t156 = t161) := by simpa using c38))
                        clear c38
                        have H' := Aside0.mk H
                        clear H
                        go_wp2
                        repeat (go_quiet (fail); try go_wp2)
                        go_meet
                        case rel => exact ⟨_, (true), (by first | rfl | (simp; done) | (simp [*]; done)), H', ⟨by have := HJ6.out; have := HJ23.out; first | omega | exact Nat.le_refl _⟩, ⟨by (with_reducible repeat (first | apply Kd.R_alloc | apply Kd.R_drewN | apply Kd.R_drew)); exact Kd.R_mono HO159.out (fun _ hk => hk.2)⟩, ⟨by (with_reducible repeat (first | apply Kd.R_alloc | apply Kd.R_drewN | apply Kd.R_drew)); exact Kd.R_mono HO164.out (fun _ hk => hk.2)⟩, ⟨by repeat (first | (with_reducible first | exact HB.out | apply below_alloc | apply pw_below_drewN | apply below_drew1) | exact HB.out)⟩⟩
                      · rw [if_neg c38] at H
                        have c38b0 : (t156 != t161) = false := by simpa using c38
                        (try (have c38b1 : decide (t156 = t161) = true := by simpa using c38))
                        (try (have c38b2 : (t156 == t161) = true := by simpa using c38))
                        clear c38
                        have H' := Aside0.mk H
                        clear H
                        obtain ⟨Ao39, co39, eo39⟩ := Kd.R_slice HO159.out
                        subst eo39
                        obtain ⟨Ao40, co40, eo40⟩ := Kd.R_slice HO164.out
                        subst eo40
                        go_wp2
                        repeat (go_quiet (fail); try go_wp2)
                        go_meet
                        case rel => exact ⟨_, (((t155.length : Int) != (t160.length : Int))), (by first | rfl | (simp; done) | (simp [*]; done)), H', ⟨by have := HJ6.out; have := HJ23.out; first | omega | exact Nat.le_refl _⟩, ⟨by (with_reducible repeat (first | apply Kd.R_alloc | apply Kd.R_drewN | apply Kd.R_drew)); exact Kd.R_mono HO159.out (fun _ hk => hk.2)⟩, ⟨by (with_reducible repeat (first | apply Kd.R_alloc | apply Kd.R_drewN | apply Kd.R_drew)); exact Kd.R_mono HO164.out (fun _ hk => hk.2)⟩, ⟨by repeat (first | (with_reducible first | exact HB.out | apply below_alloc | apply pw_below_drewN | apply below_drew1) | exact HB.out)⟩⟩
                    · rw [if_neg c37] at H
                      have c37b0 : (t157 == 0) = false := beq_eq_false_iff_ne.mpr c37
                      have c37b1 : (t157 != 0) = true := bne_iff_ne.mpr c37
                      (first | rw [c37b0] | rw [c37b1] | (simp only [i64_w, i32_w]; rw [c37b0]) | skip)
                      have H' := Aside0.mk H
                      clear H
                      go_wp2
                      repeat (go_quiet (fail); try go_wp2)
                      go_meet
                      case rel => exact ⟨_, (true), (by first | rfl | (simp; done) | (simp [*]; done)), H', ⟨by have := HJ6.out; have := HJ23.out; first | omega | exact Nat.le_refl _⟩, ⟨by (with_reducible repeat (first | apply Kd.R_alloc | apply Kd.R_drewN | apply Kd.R_drew)); exact Kd.R_mono HO159.out (fun _ hk => hk.2)⟩, ⟨by (with_reducible repeat (first | apply Kd.R_alloc | apply Kd.R_drewN | apply Kd.R_drew)); exact Kd.R_mono HO164.out (fun _ hk => hk.2)⟩, ⟨by repeat (first | (with_reducible first | exact HB.out | apply below_alloc | apply pw_below_drewN | apply below_drew1) | exact HB.out)⟩⟩
                  case rest =>
                    clear HC34
                    try clear c1
                    try clear c2
                    try clear p2
                    try clear c3
                    try clear c4
                    try clear c12
                    try clear c12b0
                    try clear c12b1
                    try clear c13
                    try clear c13b0
                    try clear c13b1
                    try clear c13b2
                    try clear c15
                    try clear c16
                    try clear c16b0
                    try clear c16b1
                    try clear c21
                    try clear c27
                    try clear c27b0
                    try clear c27b1
                    try clear c27b2
                    try clear c28
                    try clear c29
                    try clear c29b0
                    try clear c29b1
                    try clear c30
                    try clear c33
                    try clear c37
                    try clear c37b0
                    try clear c37b1
                    try clear c38
                    try clear c38b0
                    try clear c38b1
                    try clear c38b2
                    try clear p2
                    obtain ⟨kq, x118_33, rfl, HA, HJ33, HO_11, HO_14, HB⟩ := hcut
                    cases kq with
                    | zero => exact absurd HA.out (by simp [calepinlaw10_CondTags.j2])
                    | succ kj33 =>
                      have H := HA.out
                      clear HA
                      simp only [calepinlaw10_CondTags.j2] at H
                      by_cases c41 : x118_33 = true
                      · subst c41
                        have H1 : (some false) = some r := by rw [if_pos rfl] at H; exact H
                        clear H
                        have H := H1
                        clear H1
                        obtain rfl := Option.some.inj H
                        go_wp2
                        repeat (go_quiet (fail); try go_wp2)
                        go_ret
                        exact ⟨by first | rfl | (simp [errW_none, errW_some] <;> rfl) | (simp [*, errW_none, errW_some] <;> rfl), by repeat (first | (with_reducible first | exact HB.out | apply below_alloc | apply pw_below_drewN | apply below_drew1) | exact HB.out)⟩
                      · replace c41 := Bool.eq_false_iff.mpr c41
                        subst c41
                        have H1 : (calepinlaw10_CondTags.l0 kj33 t155 t160 (t155.length : Int) 0) = some r := by rw [if_neg (show ¬ (false = true) by decide)] at H; exact H
                        clear H
                        have H := H1
                        clear H1
                        have H' := Aside0.mk H
                        clear H
                        obtain ⟨Ao42, co42, eo42⟩ := Kd.R_slice HO_11.out
                        subst eo42
                        go_wp2
                        repeat (go_quiet (fail); try go_wp2)
                        go_loopg [121] kj33 (fun kq v121 w' => ∃ (x121_4 : Int), v121 = .int .i64 x121_4 ∧ Aside0 (calepinlaw10_CondTags.l0 kq t155 t160 (t155.length : Int) x121_4 = some r) ∧ Aside0 (kq ≤ kj33) ∧ Aside0 (Kd.R (Kd.int .i64) 3 w' w.heap.size (fun k_ => some k_ ≠ (v163 : Value).ownBlock) (.slice Ao42 t155.length co42) t155) ∧ Aside0 (Kd.R (Kd.int .i64) 3 w' w.heap.size (fun k_ => some k_ ≠ ((.slice Ao42 t155.length co42) : Value).ownBlock) v163 t160) ∧ Aside0 (Below w.heap.size w w'))
                        case atStart => exact ⟨(0), (by first | rfl | (simp; done) | (simp [*]; done)), H', ⟨Nat.le_refl _⟩, ⟨by (with_reducible repeat (first | apply Kd.R_alloc | apply Kd.R_drewN | apply Kd.R_drew)); exact HO_11.out⟩, ⟨by (with_reducible repeat (first | apply Kd.R_alloc | apply Kd.R_drewN | apply Kd.R_drew)); exact HO_14.out⟩, ⟨by repeat (first | (with_reducible first | exact HB.out | apply below_alloc | apply pw_below_drewN | apply below_drew1) | exact HB.out)⟩⟩
                        case round =>
                          clear H'
                          try clear c1
                          try clear c2
                          try clear p2
                          try clear c3
                          try clear c4
                          try clear c12
                          try clear c12b0
                          try clear c12b1
                          try clear c13
                          try clear c13b0
                          try clear c13b1
                          try clear c13b2
                          try clear c15
                          try clear c16
                          try clear c16b0
                          try clear c16b1
                          try clear c21
                          try clear c27
                          try clear c27b0
                          try clear c27b1
                          try clear c27b2
                          try clear c28
                          try clear c29
                          try clear c29b0
                          try clear c29b1
                          try clear c30
                          try clear c33
                          try clear c37
                          try clear c37b0
                          try clear c37b1
                          try clear c38
                          try clear c38b0
                          try clear c38b1
                          try clear c38b2
                          try clear c41
                          try clear p2
                          obtain ⟨x121_4, rfl, HA, HK4, HO_11, HO_14, HB⟩ := hrel
                          cases gk with
                          | zero => exact absurd HA.out (by simp [calepinlaw10_CondTags.l0])
                          | succ k4 =>
                            have H := HA.out
                            clear HA
                            simp only [calepinlaw10_CondTags.l0] at H
                            by_cases c43 : x121_4 < (t155.length : Int)
                            · rw [if_pos c43] at H
                              have c43b0 : decide (x121_4 < (t155.length : Int)) = true := decide_eq_true c43
                              clear c43
                              by_cases c44 : 0 ≤ x121_4
                              · rw [if_pos c44] at H
                                have c44b0 : decide (0 ≤ x121_4) = true := decide_eq_true c44
                                clear c44
                                by_cases c45 : x121_4 < (t155.length : Int)
                                · rw [if_pos c45] at H
                                  have c45b0 : decide (x121_4 < (t155.length : Int)) = true := decide_eq_true c45
                                  clear c45
                                  by_cases c46 : x121_4 < (t160.length : Int)
                                  · rw [if_pos c46] at H
                                    have c46b0 : decide (x121_4 < (t160.length : Int)) = true := decide_eq_true c46
                                    clear c46
                                    by_cases c47 : (rd t155 x121_4) = (rd t160 x121_4)
                                    · rw [if_pos c47] at H
                                      have c47b0 : ((rd t155 x121_4) == (rd t160 x121_4)) = true := beq_iff_eq.mpr c47
                                      have c47b1 : ((rd t155 x121_4) != (rd t160 x121_4)) = false := bne_eq_false_iff_eq.mpr c47
                                      clear c47
                                      have H' := Aside0.mk H
                                      clear H
                                      have p165 : 0 ≤ (x121_4 : Int) := of_decide_eq_true (by first | (with_reducible assumption) | assumption)
                                      have q165 : x121_4 < (t155.length : Int) := of_decide_eq_true (by first | (with_reducible assumption) | assumption)
                                      obtain ⟨ad165, e165, hx165_0⟩ := Kd.at_int (Kd.R_reads' HO_11.out).2.2 x121_4 p165 q165
                                      cases e165
                                      replace p165 := eq_true p165
                                      replace q165 := eq_true q165
                                      obtain ⟨Ao48, co48, eo48⟩ := Kd.R_slice HO_14.out
                                      subst eo48
                                      have p166 : 0 ≤ (x121_4 : Int) := of_decide_eq_true (by first | (with_reducible assumption) | assumption)
                                      have q166 : x121_4 < (t160.length : Int) := of_decide_eq_true (by first | (with_reducible assumption) | assumption)
                                      obtain ⟨ad166, e166, hx166_0⟩ := Kd.at_int (Kd.R_reads' HO_14.out).2.2 x121_4 p166 q166
                                      cases e166
                                      replace p166 := eq_true p166
                                      replace q166 := eq_true q166
                                      go_wp2
                                      repeat (go_quiet (fail); try go_wp2)
                                      go_roundg k4
                                      case measure => have := HJ6.out; have := HJ23.out; have := HJ33.out; have := HK4.out; omega
                                      case rel => exact ⟨(wrap64 (x121_4 + 1)), (by first | rfl | (simp; done) | (simp [*]; done)), H', ⟨by have := HJ6.out; have := HJ23.out; have := HJ33.out; have := HK4.out; omega⟩, ⟨by (with_reducible repeat (first | apply Kd.R_alloc | apply Kd.R_drewN | apply Kd.R_drew)); exact HO_11.out⟩, ⟨by (with_reducible repeat (first | apply Kd.R_alloc | apply Kd.R_drewN | apply Kd.R_drew)); exact HO_14.out⟩, ⟨by repeat (first | (with_reducible first | exact HB.out | apply below_alloc | apply pw_below_drewN | apply below_drew1) | exact HB.out)⟩⟩
                                    · rw [if_neg c47] at H
                                      have c47b0 : ((rd t155 x121_4) == (rd t160 x121_4)) = false := beq_eq_false_iff_ne.mpr c47
                                      have c47b1 : ((rd t155 x121_4) != (rd t160 x121_4)) = true := bne_iff_ne.mpr c47
                                      obtain rfl := Option.some.inj H
                                      have p165 : 0 ≤ (x121_4 : Int) := of_decide_eq_true (by first | (with_reducible assumption) | assumption)
                                      have q165 : x121_4 < (t155.length : Int) := of_decide_eq_true (by first | (with_reducible assumption) | assumption)
                                      obtain ⟨ad165, e165, hx165_0⟩ := Kd.at_int (Kd.R_reads' HO_11.out).2.2 x121_4 p165 q165
                                      cases e165
                                      replace p165 := eq_true p165
                                      replace q165 := eq_true q165
                                      obtain ⟨Ao49, co49, eo49⟩ := Kd.R_slice HO_14.out
                                      subst eo49
                                      have p166 : 0 ≤ (x121_4 : Int) := of_decide_eq_true (by first | (with_reducible assumption) | assumption)
                                      have q166 : x121_4 < (t160.length : Int) := of_decide_eq_true (by first | (with_reducible assumption) | assumption)
                                      obtain ⟨ad166, e166, hx166_0⟩ := Kd.at_int (Kd.R_reads' HO_14.out).2.2 x121_4 p166 q166
                                      cases e166
                                      replace p166 := eq_true p166
                                      replace q166 := eq_true q166
                                      go_wp2
                                      repeat (go_quiet (fail); try go_wp2)
                                      go_ret
                                      exact ⟨by first | rfl | (simp [errW_none, errW_some] <;> rfl) | (simp [*, errW_none, errW_some] <;> rfl), by repeat (first | (with_reducible first | exact HB.out | apply below_alloc | apply pw_below_drewN | apply below_drew1) | exact HB.out)⟩
                                  · rw [if_neg c46] at H
                                    exact absurd H (by simp)
                                · rw [if_neg c45] at H
                                  exact absurd H (by simp)
                              · rw [if_neg c44] at H
                                exact absurd H (by simp)
                            · rw [if_neg c43] at H
                              have c43b0 : decide (x121_4 < (t155.length : Int)) = false := decide_eq_false c43
                              clear c43
                              obtain rfl := Option.some.inj H
                              go_wp2
                              repeat (go_quiet (fail); try go_wp2)
                              go_ret
                              exact ⟨by first | rfl | (simp [errW_none, errW_some] <;> rfl) | (simp [*, errW_none, errW_some] <;> rfl), by repeat (first | (with_reducible first | exact HB.out | apply below_alloc | apply pw_below_drewN | apply below_drew1) | exact HB.out)⟩
                · replace c33 := Bool.eq_false_iff.mpr c33
                  subst c33
                  have H1 : (if t157 = 31 then (if (t155.length : Int) = 0 then (some (!t156)) else (some false)) else (some false)) = some r := by rw [if_neg (show ¬ (false = true) by decide)] at H; exact H
                  clear H
                  have H := H1
                  clear H1
                  by_cases c50 : t157 = 31
                  · rw [if_pos c50] at H
                    have c50b0 : (t157 == 31) = true := beq_iff_eq.mpr c50
                    have c50b1 : (t157 != 31) = false := bne_eq_false_iff_eq.mpr c50
                    clear c50
                    by_cases c51 : (t155.length : Int) = 0
                    · rw [if_pos c51] at H
                      have c51b0 : ((t155.length : Int) == 0) = true := beq_iff_eq.mpr c51
                      have c51b1 : ((t155.length : Int) != 0) = false := bne_eq_false_iff_eq.mpr c51
                      clear c51
                      obtain rfl := Option.some.inj H
                      go_wp2_with (first | (go_at_call 43; (with_reducible refine (cond_List.calls kj23 a1 t155 t156 t157 _ ?side1 A31.out).mono ?_); (case side1 => exact Laid.below HT.out (by repeat (first | (with_reducible first | exact HB.out | apply below_alloc | apply pw_below_drewN | apply below_drew1) | exact HB.out))); rintro e w52 ⟨v158, rfl, ho0, hb⟩; have n0_ := Aside0.mk (Kd.R_lower ho0 (below_size (by repeat (first | (with_reducible first | exact HB.out | apply below_alloc | apply pw_below_drewN | apply below_drew1) | exact HB.out)))); have n1_ := Aside0.mk (below_step (by repeat (first | (with_reducible first | exact HB.out | apply below_alloc | apply pw_below_drewN | apply below_drew1) | exact HB.out)) hb); clear HB; have HO159 := n0_; have HB := n1_; clear n0_ n1_; (try clear hb); (try clear hb2); (try clear hk); (try clear hi); (try clear ho0)) | (go_at_call 44; (with_reducible refine (calepinref10_List.calls kj23 a1 t160 t161 false _ ?side1 A32.out).mono ?_); (case side1 => exact Laid.below HT.out (by repeat (first | (with_reducible first | exact HB.out | apply below_alloc | apply pw_below_drewN | apply below_drew1) | exact HB.out))); rintro e w53 ⟨v163, rfl, ho0, hb⟩; have n0_ := Aside0.mk (Kd.R_elder' (by (with_reducible repeat (first | apply Kd.R_alloc | apply Kd.R_drewN | apply Kd.R_drew)); exact HO159.out) (Kd.R_base ho0) hb); have n1_ := Aside0.mk (Kd.R_lower (Kd.R_new' ho0 (Kd.R_lt (by (with_reducible repeat (first | apply Kd.R_alloc | apply Kd.R_drewN | apply Kd.R_drew)); exact HO159.out))) (below_size (by repeat (first | (with_reducible first | exact HB.out | apply below_alloc | apply pw_below_drewN | apply below_drew1) | exact HB.out)))); have n2_ := Aside0.mk (below_step (by repeat (first | (with_reducible first | exact HB.out | apply below_alloc | apply pw_below_drewN | apply below_drew1) | exact HB.out)) hb); clear HO159; clear HB; have HO159 := n0_; have HO164 := n1_; have HB := n2_; clear n0_ n1_ n2_; (try clear hb); (try clear hb2); (try clear hk); (try clear hi); (try clear ho0); obtain ⟨Ao54, co54, eo54⟩ := Kd.R_slice HO159.out; subst eo54))
                      repeat (go_quiet (first | (go_at_call 43; (with_reducible refine (cond_List.calls kj23 a1 t155 t156 t157 _ ?side1 A31.out).mono ?_); (case side1 => exact Laid.below HT.out (by repeat (first | (with_reducible first | exact HB.out | apply below_alloc | apply pw_below_drewN | apply below_drew1) | exact HB.out))); rintro e w52 ⟨v158, rfl, ho0, hb⟩; have n0_ := Aside0.mk (Kd.R_lower ho0 (below_size (by repeat (first | (with_reducible first | exact HB.out | apply below_alloc | apply pw_below_drewN | apply below_drew1) | exact HB.out)))); have n1_ := Aside0.mk (below_step (by repeat (first | (with_reducible first | exact HB.out | apply below_alloc | apply pw_below_drewN | apply below_drew1) | exact HB.out)) hb); clear HB; have HO159 := n0_; have HB := n1_; clear n0_ n1_; (try clear hb); (try clear hb2); (try clear hk); (try clear hi); (try clear ho0)) | (go_at_call 44; (with_reducible refine (calepinref10_List.calls kj23 a1 t160 t161 false _ ?side1 A32.out).mono ?_); (case side1 => exact Laid.below HT.out (by repeat (first | (with_reducible first | exact HB.out | apply below_alloc | apply pw_below_drewN | apply below_drew1) | exact HB.out))); rintro e w53 ⟨v163, rfl, ho0, hb⟩; have n0_ := Aside0.mk (Kd.R_elder' (by (with_reducible repeat (first | apply Kd.R_alloc | apply Kd.R_drewN | apply Kd.R_drew)); exact HO159.out) (Kd.R_base ho0) hb); have n1_ := Aside0.mk (Kd.R_lower (Kd.R_new' ho0 (Kd.R_lt (by (with_reducible repeat (first | apply Kd.R_alloc | apply Kd.R_drewN | apply Kd.R_drew)); exact HO159.out))) (below_size (by repeat (first | (with_reducible first | exact HB.out | apply below_alloc | apply pw_below_drewN | apply below_drew1) | exact HB.out)))); have n2_ := Aside0.mk (below_step (by repeat (first | (with_reducible first | exact HB.out | apply below_alloc | apply pw_below_drewN | apply below_drew1) | exact HB.out)) hb); clear HO159; clear HB; have HO159 := n0_; have HO164 := n1_; have HB := n2_; clear n0_ n1_ n2_; (try clear hb); (try clear hb2); (try clear hk); (try clear hi); (try clear ho0); obtain ⟨Ao54, co54, eo54⟩ := Kd.R_slice HO159.out; subst eo54)); try go_wp2_with (first | (go_at_call 43; (with_reducible refine (cond_List.calls kj23 a1 t155 t156 t157 _ ?side1 A31.out).mono ?_); (case side1 => exact Laid.below HT.out (by repeat (first | (with_reducible first | exact HB.out | apply below_alloc | apply pw_below_drewN | apply below_drew1) | exact HB.out))); rintro e w52 ⟨v158, rfl, ho0, hb⟩; have n0_ := Aside0.mk (Kd.R_lower ho0 (below_size (by repeat (first | (with_reducible first | exact HB.out | apply below_alloc | apply pw_below_drewN | apply below_drew1) | exact HB.out)))); have n1_ := Aside0.mk (below_step (by repeat (first | (with_reducible first | exact HB.out | apply below_alloc | apply pw_below_drewN | apply below_drew1) | exact HB.out)) hb); clear HB; have HO159 := n0_; have HB := n1_; clear n0_ n1_; (try clear hb); (try clear hb2); (try clear hk); (try clear hi); (try clear ho0)) | (go_at_call 44; (with_reducible refine (calepinref10_List.calls kj23 a1 t160 t161 false _ ?side1 A32.out).mono ?_); (case side1 => exact Laid.below HT.out (by repeat (first | (with_reducible first | exact HB.out | apply below_alloc | apply pw_below_drewN | apply below_drew1) | exact HB.out))); rintro e w53 ⟨v163, rfl, ho0, hb⟩; have n0_ := Aside0.mk (Kd.R_elder' (by (with_reducible repeat (first | apply Kd.R_alloc | apply Kd.R_drewN | apply Kd.R_drew)); exact HO159.out) (Kd.R_base ho0) hb); have n1_ := Aside0.mk (Kd.R_lower (Kd.R_new' ho0 (Kd.R_lt (by (with_reducible repeat (first | apply Kd.R_alloc | apply Kd.R_drewN | apply Kd.R_drew)); exact HO159.out))) (below_size (by repeat (first | (with_reducible first | exact HB.out | apply below_alloc | apply pw_below_drewN | apply below_drew1) | exact HB.out)))); have n2_ := Aside0.mk (below_step (by repeat (first | (with_reducible first | exact HB.out | apply below_alloc | apply pw_below_drewN | apply below_drew1) | exact HB.out)) hb); clear HO159; clear HB; have HO159 := n0_; have HO164 := n1_; have HB := n2_; clear n0_ n1_ n2_; (try clear hb); (try clear hb2); (try clear hk); (try clear hi); (try clear ho0); obtain ⟨Ao54, co54, eo54⟩ := Kd.R_slice HO159.out; subst eo54)))
                      go_ret
                      exact ⟨by first | rfl | (simp [errW_none, errW_some] <;> rfl) | (simp [*, errW_none, errW_some] <;> rfl), by repeat (first | (with_reducible first | exact HB.out | apply below_alloc | apply pw_below_drewN | apply below_drew1) | exact HB.out)⟩
                    · rw [if_neg c51] at H
                      have c51b0 : ((t155.length : Int) == 0) = false := beq_eq_false_iff_ne.mpr c51
                      have c51b1 : ((t155.length : Int) != 0) = true := bne_iff_ne.mpr c51
                      have c51b2 : ¬ (t155 = []) := fun h_ => c51 (by rw [h_]; rfl)
                      obtain rfl := Option.some.inj H
                      go_wp2_with (first | (go_at_call 43; (with_reducible refine (cond_List.calls kj23 a1 t155 t156 t157 _ ?side1 A31.out).mono ?_); (case side1 => exact Laid.below HT.out (by repeat (first | (with_reducible first | exact HB.out | apply below_alloc | apply pw_below_drewN | apply below_drew1) | exact HB.out))); rintro e w55 ⟨v158, rfl, ho0, hb⟩; have n0_ := Aside0.mk (Kd.R_lower ho0 (below_size (by repeat (first | (with_reducible first | exact HB.out | apply below_alloc | apply pw_below_drewN | apply below_drew1) | exact HB.out)))); have n1_ := Aside0.mk (below_step (by repeat (first | (with_reducible first | exact HB.out | apply below_alloc | apply pw_below_drewN | apply below_drew1) | exact HB.out)) hb); clear HB; have HO159 := n0_; have HB := n1_; clear n0_ n1_; (try clear hb); (try clear hb2); (try clear hk); (try clear hi); (try clear ho0)) | (go_at_call 44; (with_reducible refine (calepinref10_List.calls kj23 a1 t160 t161 false _ ?side1 A32.out).mono ?_); (case side1 => exact Laid.below HT.out (by repeat (first | (with_reducible first | exact HB.out | apply below_alloc | apply pw_below_drewN | apply below_drew1) | exact HB.out))); rintro e w56 ⟨v163, rfl, ho0, hb⟩; have n0_ := Aside0.mk (Kd.R_elder' (by (with_reducible repeat (first | apply Kd.R_alloc | apply Kd.R_drewN | apply Kd.R_drew)); exact HO159.out) (Kd.R_base ho0) hb); have n1_ := Aside0.mk (Kd.R_lower (Kd.R_new' ho0 (Kd.R_lt (by (with_reducible repeat (first | apply Kd.R_alloc | apply Kd.R_drewN | apply Kd.R_drew)); exact HO159.out))) (below_size (by repeat (first | (with_reducible first | exact HB.out | apply below_alloc | apply pw_below_drewN | apply below_drew1) | exact HB.out)))); have n2_ := Aside0.mk (below_step (by repeat (first | (with_reducible first | exact HB.out | apply below_alloc | apply pw_below_drewN | apply below_drew1) | exact HB.out)) hb); clear HO159; clear HB; have HO159 := n0_; have HO164 := n1_; have HB := n2_; clear n0_ n1_ n2_; (try clear hb); (try clear hb2); (try clear hk); (try clear hi); (try clear ho0); obtain ⟨Ao57, co57, eo57⟩ := Kd.R_slice HO159.out; subst eo57))
                      repeat (go_quiet (first | (go_at_call 43; (with_reducible refine (cond_List.calls kj23 a1 t155 t156 t157 _ ?side1 A31.out).mono ?_); (case side1 => exact Laid.below HT.out (by repeat (first | (with_reducible first | exact HB.out | apply below_alloc | apply pw_below_drewN | apply below_drew1) | exact HB.out))); rintro e w55 ⟨v158, rfl, ho0, hb⟩; have n0_ := Aside0.mk (Kd.R_lower ho0 (below_size (by repeat (first | (with_reducible first | exact HB.out | apply below_alloc | apply pw_below_drewN | apply below_drew1) | exact HB.out)))); have n1_ := Aside0.mk (below_step (by repeat (first | (with_reducible first | exact HB.out | apply below_alloc | apply pw_below_drewN | apply below_drew1) | exact HB.out)) hb); clear HB; have HO159 := n0_; have HB := n1_; clear n0_ n1_; (try clear hb); (try clear hb2); (try clear hk); (try clear hi); (try clear ho0)) | (go_at_call 44; (with_reducible refine (calepinref10_List.calls kj23 a1 t160 t161 false _ ?side1 A32.out).mono ?_); (case side1 => exact Laid.below HT.out (by repeat (first | (with_reducible first | exact HB.out | apply below_alloc | apply pw_below_drewN | apply below_drew1) | exact HB.out))); rintro e w56 ⟨v163, rfl, ho0, hb⟩; have n0_ := Aside0.mk (Kd.R_elder' (by (with_reducible repeat (first | apply Kd.R_alloc | apply Kd.R_drewN | apply Kd.R_drew)); exact HO159.out) (Kd.R_base ho0) hb); have n1_ := Aside0.mk (Kd.R_lower (Kd.R_new' ho0 (Kd.R_lt (by (with_reducible repeat (first | apply Kd.R_alloc | apply Kd.R_drewN | apply Kd.R_drew)); exact HO159.out))) (below_size (by repeat (first | (with_reducible first | exact HB.out | apply below_alloc | apply pw_below_drewN | apply below_drew1) | exact HB.out)))); have n2_ := Aside0.mk (below_step (by repeat (first | (with_reducible first | exact HB.out | apply below_alloc | apply pw_below_drewN | apply below_drew1) | exact HB.out)) hb); clear HO159; clear HB; have HO159 := n0_; have HO164 := n1_; have HB := n2_; clear n0_ n1_ n2_; (try clear hb); (try clear hb2); (try clear hk); (try clear hi); (try clear ho0); obtain ⟨Ao57, co57, eo57⟩ := Kd.R_slice HO159.out; subst eo57)); try go_wp2_with (first | (go_at_call 43; (with_reducible refine (cond_List.calls kj23 a1 t155 t156 t157 _ ?side1 A31.out).mono ?_); (case side1 => exact Laid.below HT.out (by repeat (first | (with_reducible first | exact HB.out | apply below_alloc | apply pw_below_drewN | apply below_drew1) | exact HB.out))); rintro e w55 ⟨v158, rfl, ho0, hb⟩; have n0_ := Aside0.mk (Kd.R_lower ho0 (below_size (by repeat (first | (with_reducible first | exact HB.out | apply below_alloc | apply pw_below_drewN | apply below_drew1) | exact HB.out)))); have n1_ := Aside0.mk (below_step (by repeat (first | (with_reducible first | exact HB.out | apply below_alloc | apply pw_below_drewN | apply below_drew1) | exact HB.out)) hb); clear HB; have HO159 := n0_; have HB := n1_; clear n0_ n1_; (try clear hb); (try clear hb2); (try clear hk); (try clear hi); (try clear ho0)) | (go_at_call 44; (with_reducible refine (calepinref10_List.calls kj23 a1 t160 t161 false _ ?side1 A32.out).mono ?_); (case side1 => exact Laid.below HT.out (by repeat (first | (with_reducible first | exact HB.out | apply below_alloc | apply pw_below_drewN | apply below_drew1) | exact HB.out))); rintro e w56 ⟨v163, rfl, ho0, hb⟩; have n0_ := Aside0.mk (Kd.R_elder' (by (with_reducible repeat (first | apply Kd.R_alloc | apply Kd.R_drewN | apply Kd.R_drew)); exact HO159.out) (Kd.R_base ho0) hb); have n1_ := Aside0.mk (Kd.R_lower (Kd.R_new' ho0 (Kd.R_lt (by (with_reducible repeat (first | apply Kd.R_alloc | apply Kd.R_drewN | apply Kd.R_drew)); exact HO159.out))) (below_size (by repeat (first | (with_reducible first | exact HB.out | apply below_alloc | apply pw_below_drewN | apply below_drew1) | exact HB.out)))); have n2_ := Aside0.mk (below_step (by repeat (first | (with_reducible first | exact HB.out | apply below_alloc | apply pw_below_drewN | apply below_drew1) | exact HB.out)) hb); clear HO159; clear HB; have HO159 := n0_; have HO164 := n1_; have HB := n2_; clear n0_ n1_ n2_; (try clear hb); (try clear hb2); (try clear hk); (try clear hi); (try clear ho0); obtain ⟨Ao57, co57, eo57⟩ := Kd.R_slice HO159.out; subst eo57)))
                      go_ret
                      exact ⟨by first | rfl | (simp [errW_none, errW_some] <;> rfl) | (simp [*, errW_none, errW_some] <;> rfl), by repeat (first | (with_reducible first | exact HB.out | apply below_alloc | apply pw_below_drewN | apply below_drew1) | exact HB.out)⟩
                  · rw [if_neg c50] at H
                    have c50b0 : (t157 == 31) = false := beq_eq_false_iff_ne.mpr c50
                    have c50b1 : (t157 != 31) = true := bne_iff_ne.mpr c50
                    obtain rfl := Option.some.inj H
                    go_wp2_with (first | (go_at_call 43; (with_reducible refine (cond_List.calls kj23 a1 t155 t156 t157 _ ?side1 A31.out).mono ?_); (case side1 => exact Laid.below HT.out (by repeat (first | (with_reducible first | exact HB.out | apply below_alloc | apply pw_below_drewN | apply below_drew1) | exact HB.out))); rintro e w58 ⟨v158, rfl, ho0, hb⟩; have n0_ := Aside0.mk (Kd.R_lower ho0 (below_size (by repeat (first | (with_reducible first | exact HB.out | apply below_alloc | apply pw_below_drewN | apply below_drew1) | exact HB.out)))); have n1_ := Aside0.mk (below_step (by repeat (first | (with_reducible first | exact HB.out | apply below_alloc | apply pw_below_drewN | apply below_drew1) | exact HB.out)) hb); clear HB; have HO159 := n0_; have HB := n1_; clear n0_ n1_; (try clear hb); (try clear hb2); (try clear hk); (try clear hi); (try clear ho0)) | (go_at_call 44; (with_reducible refine (calepinref10_List.calls kj23 a1 t160 t161 false _ ?side1 A32.out).mono ?_); (case side1 => exact Laid.below HT.out (by repeat (first | (with_reducible first | exact HB.out | apply below_alloc | apply pw_below_drewN | apply below_drew1) | exact HB.out))); rintro e w59 ⟨v163, rfl, ho0, hb⟩; have n0_ := Aside0.mk (Kd.R_elder' (by (with_reducible repeat (first | apply Kd.R_alloc | apply Kd.R_drewN | apply Kd.R_drew)); exact HO159.out) (Kd.R_base ho0) hb); have n1_ := Aside0.mk (Kd.R_lower (Kd.R_new' ho0 (Kd.R_lt (by (with_reducible repeat (first | apply Kd.R_alloc | apply Kd.R_drewN | apply Kd.R_drew)); exact HO159.out))) (below_size (by repeat (first | (with_reducible first | exact HB.out | apply below_alloc | apply pw_below_drewN | apply below_drew1) | exact HB.out)))); have n2_ := Aside0.mk (below_step (by repeat (first | (with_reducible first | exact HB.out | apply below_alloc | apply pw_below_drewN | apply below_drew1) | exact HB.out)) hb); clear HO159; clear HB; have HO159 := n0_; have HO164 := n1_; have HB := n2_; clear n0_ n1_ n2_; (try clear hb); (try clear hb2); (try clear hk); (try clear hi); (try clear ho0)))
                    repeat (go_quiet (first | (go_at_call 43; (with_reducible refine (cond_List.calls kj23 a1 t155 t156 t157 _ ?side1 A31.out).mono ?_); (case side1 => exact Laid.below HT.out (by repeat (first | (with_reducible first | exact HB.out | apply below_alloc | apply pw_below_drewN | apply below_drew1) | exact HB.out))); rintro e w58 ⟨v158, rfl, ho0, hb⟩; have n0_ := Aside0.mk (Kd.R_lower ho0 (below_size (by repeat (first | (with_reducible first | exact HB.out | apply below_alloc | apply pw_below_drewN | apply below_drew1) | exact HB.out)))); have n1_ := Aside0.mk (below_step (by repeat (first | (with_reducible first | exact HB.out | apply below_alloc | apply pw_below_drewN | apply below_drew1) | exact HB.out)) hb); clear HB; have HO159 := n0_; have HB := n1_; clear n0_ n1_; (try clear hb); (try clear hb2); (try clear hk); (try clear hi); (try clear ho0)) | (go_at_call 44; (with_reducible refine (calepinref10_List.calls kj23 a1 t160 t161 false _ ?side1 A32.out).mono ?_); (case side1 => exact Laid.below HT.out (by repeat (first | (with_reducible first | exact HB.out | apply below_alloc | apply pw_below_drewN | apply below_drew1) | exact HB.out))); rintro e w59 ⟨v163, rfl, ho0, hb⟩; have n0_ := Aside0.mk (Kd.R_elder' (by (with_reducible repeat (first | apply Kd.R_alloc | apply Kd.R_drewN | apply Kd.R_drew)); exact HO159.out) (Kd.R_base ho0) hb); have n1_ := Aside0.mk (Kd.R_lower (Kd.R_new' ho0 (Kd.R_lt (by (with_reducible repeat (first | apply Kd.R_alloc | apply Kd.R_drewN | apply Kd.R_drew)); exact HO159.out))) (below_size (by repeat (first | (with_reducible first | exact HB.out | apply below_alloc | apply pw_below_drewN | apply below_drew1) | exact HB.out)))); have n2_ := Aside0.mk (below_step (by repeat (first | (with_reducible first | exact HB.out | apply below_alloc | apply pw_below_drewN | apply below_drew1) | exact HB.out)) hb); clear HO159; clear HB; have HO159 := n0_; have HO164 := n1_; have HB := n2_; clear n0_ n1_ n2_; (try clear hb); (try clear hb2); (try clear hk); (try clear hi); (try clear ho0))); try go_wp2_with (first | (go_at_call 43; (with_reducible refine (cond_List.calls kj23 a1 t155 t156 t157 _ ?side1 A31.out).mono ?_); (case side1 => exact Laid.below HT.out (by repeat (first | (with_reducible first | exact HB.out | apply below_alloc | apply pw_below_drewN | apply below_drew1) | exact HB.out))); rintro e w58 ⟨v158, rfl, ho0, hb⟩; have n0_ := Aside0.mk (Kd.R_lower ho0 (below_size (by repeat (first | (with_reducible first | exact HB.out | apply below_alloc | apply pw_below_drewN | apply below_drew1) | exact HB.out)))); have n1_ := Aside0.mk (below_step (by repeat (first | (with_reducible first | exact HB.out | apply below_alloc | apply pw_below_drewN | apply below_drew1) | exact HB.out)) hb); clear HB; have HO159 := n0_; have HB := n1_; clear n0_ n1_; (try clear hb); (try clear hb2); (try clear hk); (try clear hi); (try clear ho0)) | (go_at_call 44; (with_reducible refine (calepinref10_List.calls kj23 a1 t160 t161 false _ ?side1 A32.out).mono ?_); (case side1 => exact Laid.below HT.out (by repeat (first | (with_reducible first | exact HB.out | apply below_alloc | apply pw_below_drewN | apply below_drew1) | exact HB.out))); rintro e w59 ⟨v163, rfl, ho0, hb⟩; have n0_ := Aside0.mk (Kd.R_elder' (by (with_reducible repeat (first | apply Kd.R_alloc | apply Kd.R_drewN | apply Kd.R_drew)); exact HO159.out) (Kd.R_base ho0) hb); have n1_ := Aside0.mk (Kd.R_lower (Kd.R_new' ho0 (Kd.R_lt (by (with_reducible repeat (first | apply Kd.R_alloc | apply Kd.R_drewN | apply Kd.R_drew)); exact HO159.out))) (below_size (by repeat (first | (with_reducible first | exact HB.out | apply below_alloc | apply pw_below_drewN | apply below_drew1) | exact HB.out)))); have n2_ := Aside0.mk (below_step (by repeat (first | (with_reducible first | exact HB.out | apply below_alloc | apply pw_below_drewN | apply below_drew1) | exact HB.out)) hb); clear HO159; clear HB; have HO159 := n0_; have HO164 := n1_; have HB := n2_; clear n0_ n1_ n2_; (try clear hb); (try clear hb2); (try clear hk); (try clear hi); (try clear ho0))))
                    go_ret
                    exact ⟨by first | rfl | (simp [errW_none, errW_some] <;> rfl) | (simp [*, errW_none, errW_some] <;> rfl), by repeat (first | (with_reducible first | exact HB.out | apply below_alloc | apply pw_below_drewN | apply below_drew1) | exact HB.out)⟩
  · replace c4 := Bool.eq_false_iff.mpr c4
    subst c4
    have H1 : (some false) = some r := by rw [if_neg (show ¬ (false = true) by decide)] at H; exact H
    clear H
    have H := H1
    clear H1
    obtain rfl := Option.some.inj H
    go_enter Tryd.func12, Tryd.ntmps12
    go_wp2_with (first | (go_at_call 38; (with_reducible refine (calepinlaw10_first.calls k  false _ ?side1 A3.out).mono ?_); (case side1 => exact Laid.below HT.out (by repeat (first | (with_reducible first | exact HB.out | apply below_alloc | apply pw_below_drewN | apply below_drew1) | exact HB.out))); rintro e w60 ⟨rfl, hb⟩; have n0_ := Aside0.mk (below_step (by repeat (first | (with_reducible first | exact HB.out | apply below_alloc | apply pw_below_drewN | apply below_drew1) | exact HB.out)) hb); clear HB; have HB := n0_; clear n0_; (try clear hb); (try clear hb2); (try clear hk); (try clear hi)))
    repeat (go_quiet (first | (go_at_call 38; (with_reducible refine (calepinlaw10_first.calls k  false _ ?side1 A3.out).mono ?_); (case side1 => exact Laid.below HT.out (by repeat (first | (with_reducible first | exact HB.out | apply below_alloc | apply pw_below_drewN | apply below_drew1) | exact HB.out))); rintro e w60 ⟨rfl, hb⟩; have n0_ := Aside0.mk (below_step (by repeat (first | (with_reducible first | exact HB.out | apply below_alloc | apply pw_below_drewN | apply below_drew1) | exact HB.out)) hb); clear HB; have HB := n0_; clear n0_; (try clear hb); (try clear hb2); (try clear hk); (try clear hi))); try go_wp2_with (first | (go_at_call 38; (with_reducible refine (calepinlaw10_first.calls k  false _ ?side1 A3.out).mono ?_); (case side1 => exact Laid.below HT.out (by repeat (first | (with_reducible first | exact HB.out | apply below_alloc | apply pw_below_drewN | apply below_drew1) | exact HB.out))); rintro e w60 ⟨rfl, hb⟩; have n0_ := Aside0.mk (below_step (by repeat (first | (with_reducible first | exact HB.out | apply below_alloc | apply pw_below_drewN | apply below_drew1) | exact HB.out)) hb); clear HB; have HB := n0_; clear n0_; (try clear hb); (try clear hb2); (try clear hk); (try clear hi))))
    go_ret
    exact ⟨by first | rfl | (simp [errW_none, errW_some] <;> rfl) | (simp [*, errW_none, errW_some] <;> rfl), by repeat (first | (with_reducible first | exact HB.out | apply below_alloc | apply pw_below_drewN | apply below_drew1) | exact HB.out)⟩

/-- THE ONE PURE STATEMENT of calepinlaw10_CondTags: yours. -/
def calepinlaw10_CondTags.Pure : Prop := ∀ (a0 : Int) (a1 : ByteArray), (Lit.int .i64 a0).wf = true → a1.size ≤ 140737488351232 → ∃ k, calepinlaw10_CondTags.f k a0 a1 = some true
theorem calepinlaw10_CondTags.walk (P : calepinlaw10_CondTags.Pure) (a0 : Int) (a1 : ByteArray) (w : World) (w0 : (Lit.int .i64 a0).wf = true) (w1 : a1.size ≤ 140737488351232) (hT : Laid w) :
    Calls Tryd.prog 12 #[.int .i64 a0, .string a1] w fun e w' => e = .returned (.bool true) ∧ Below w.heap.size w w' := by
  obtain ⟨k, h⟩ := P a0 a1 w0 w1
  refine (calepinlaw10_CondTags.calls k a0 a1 true w hT h).mono ?_
  rintro e w' ⟨rfl, hd⟩
  exact ⟨rfl, hd⟩

end Go.Proofs.YtpedfpeokedelaaDoor.XCondTags
