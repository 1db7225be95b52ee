-- written by wip/xprint.py: the kit's print with functions walked by hand
import Derived.Test.YtpedfpeokedelaaDoorXCondOrderx0
import Derived.Test.YtpedfpeokedelaaDoorXCondOrderx1
import Derived.Test.YtpedfpeokedelaaDoorXCondOrderx2
namespace Go.Proofs.YtpedfpeokedelaaDoor.XCondOrder
open Go.RowKit Go.Proofs.YtpedfpeokedelaaDoorW.PrintWords Go.Proofs.YtpedfpeokedelaaDoorW.PrintLast Go.Proofs.YtpedfpeokedelaaDoorW.PrintMore
attribute [local go_sem] max2_int min2_int max_two min_two max_three min_three max_four min_four   -- for this text's walks alone
set_option linter.unusedVariables false
set_option linter.unusedSimpArgs false

/-! ### calepinlaw10_CondOrder: function 15 -/
mutual
def calepinlaw10_CondOrder.j3 : Nat → Int → ByteArray → ByteArray → Bool → Int → Option (Bool)
  | 0, _, _, _, _, _ => none
  | k + 1, x1, x5, x6, x7, x8 => if x8 = 0 then (calepinlaw10_CondOrder.j4 k x1 x5 x6 x7 true) else (calepinlaw10_CondOrder.j4 k x1 x5 x6 x7 (decide (x1 < 1)))
def calepinlaw10_CondOrder.j4 : Nat → Int → ByteArray → ByteArray → Bool → Bool → Option (Bool)
  | 0, _, _, _, _, _ => none
  | k + 1, x1, x5, x6, x7, x68 => if x68 = true then (some true) else ((cond_Holds.f k x5 (⟨#[]⟩ : ByteArray) x1).bind fun bt143 => ((cond_Holds.f k x6 (⟨#[]⟩ : ByteArray) x1).bind fun bt145 => ((cond_Holds.f k (⟨#[]⟩ : ByteArray) x6 x1).bind fun bt147 => (if bt143.2 = 0 then (if bt145.2 = 0 then (if bt147.2 = 0 then (if (bt143.1 == x7) = true then (if (bt145.1 == x7) = true then (some (bt147.1 == (!x7))) else (some false)) else (some false)) else (some false)) else (some false)) else (some false)))))
def calepinlaw10_CondOrder.l0 : Nat → Int → ByteArray → ByteArray → Bool → Int → List Int → Int → Int → Option (Bool)
  | 0, _, _, _, _, _, _, _, _ => none
  | k + 1, x1, x5, x6, x7, x8, x19, x20, x21 => if x21 < x20 then (if 0 ≤ x21 then (if x21 < (x19.length : Int) then (if x21 ≥ 20 then (calepinlaw10_CondOrder.j1 k x1 x5 x6 x7 x8 (rd x19 x21) x19 x20 x21 true) else (if (rd x19 x21) < 1 then (calepinlaw10_CondOrder.j1 k x1 x5 x6 x7 x8 (rd x19 x21) x19 x20 x21 true) else (calepinlaw10_CondOrder.j1 k x1 x5 x6 x7 x8 (rd x19 x21) x19 x20 x21 (decide ((rd x19 x21) > 4611686018427387904))))) else (none)) else (none)) else (calepinlaw10_CondOrder.j3 k x1 x5 x6 x7 x8)
def calepinlaw10_CondOrder.j1 : Nat → Int → ByteArray → ByteArray → Bool → Int → Int → List Int → Int → Int → Bool → Option (Bool)
  | 0, _, _, _, _, _, _, _, _, _, _ => none
  | k + 1, x1, x5, x6, x7, x8, x10, x19, x20, x21, x35 => if x35 = true then (calepinlaw10_CondOrder.j3 k x1 x5 x6 x7 x8) else (if x7 = true then (calepinlaw10_CondOrder.j2 k x1 x5 x6 true x8 x10 x19 x20 x21) else (calepinlaw10_CondOrder.j2 k x1 x5 x6 (x10 == x1) x8 x10 x19 x20 x21))
def calepinlaw10_CondOrder.j2 : Nat → Int → ByteArray → ByteArray → Bool → Int → Int → List Int → Int → Int → Option (Bool)
  | 0, _, _, _, _, _, _, _, _, _ => none
  | k + 1, x1, x5, x6, x7, x8, x10, x19, x20, x21 => if x8 > 0 then (if x5.size + 1 ≤ 9223372036854775807 then (if 3 + x6.size ≤ 9223372036854775807 then ((cond_Tag.f x10).bind fun t137 => (if (x5 ++ (⟨#[44]⟩ : ByteArray)).size + t137.size ≤ 9223372036854775807 then ((cond_Tag.f x10).bind fun t138 => (if t138.size + 1 ≤ 9223372036854775807 then ((cond_Tag.f x10).bind fun t139 => (if (t138 ++ (⟨#[44]⟩ : ByteArray)).size + t139.size ≤ 9223372036854775807 then (if ((t138 ++ (⟨#[44]⟩ : ByteArray)) ++ t139).size + ((⟨#[9, 44, 32]⟩ : ByteArray) ++ x6).size ≤ 9223372036854775807 then (calepinlaw10_CondOrder.l0 k x1 ((x5 ++ (⟨#[44]⟩ : ByteArray)) ++ t137) (((t138 ++ (⟨#[44]⟩ : ByteArray)) ++ t139) ++ ((⟨#[9, 44, 32]⟩ : ByteArray) ++ x6)) x7 (wrap64 (x8 + 1)) x19 x20 (wrap64 (x21 + 1))) else (none)) else (none))) else (none))) else (none))) else (none)) else (none)) else ((cond_Tag.f x10).bind fun t140 => (if x5.size + t140.size ≤ 9223372036854775807 then ((cond_Tag.f x10).bind fun t141 => (if t141.size + 1 ≤ 9223372036854775807 then ((cond_Tag.f x10).bind fun t142 => (if (t141 ++ (⟨#[44]⟩ : ByteArray)).size + t142.size ≤ 9223372036854775807 then (if ((t141 ++ (⟨#[44]⟩ : ByteArray)) ++ t142).size + x6.size ≤ 9223372036854775807 then (calepinlaw10_CondOrder.l0 k x1 (x5 ++ t140) (((t141 ++ (⟨#[44]⟩ : ByteArray)) ++ t142) ++ x6) x7 (wrap64 (x8 + 1)) x19 x20 (wrap64 (x21 + 1))) else (none)) else (none))) else (none))) else (none)))
end
def calepinlaw10_CondOrder.f (k : Nat) (l0 : List Int) (a1 : Int) : Option (Bool) := (calepinlaw10_first.f k).bind fun t135 => (if t135 = true then (calepinlaw10_CondOrder.l0 k a1 (⟨#[]⟩ : ByteArray) (⟨#[]⟩ : ByteArray) false 0 l0 (l0.length : Int) 0) else (some false))
theorem calepinlaw10_CondOrder.mono_l : ∀ k, (∀ y0 y1 y2 y3 y4, LeO (calepinlaw10_CondOrder.j3 k y0 y1 y2 y3 y4) (calepinlaw10_CondOrder.j3 (k + 1) y0 y1 y2 y3 y4)) ∧ (∀ y0 y1 y2 y3 y4, LeO (calepinlaw10_CondOrder.j4 k y0 y1 y2 y3 y4) (calepinlaw10_CondOrder.j4 (k + 1) y0 y1 y2 y3 y4)) ∧ (∀ y0 y1 y2 y3 y4 y5 y6 y7, LeO (calepinlaw10_CondOrder.l0 k y0 y1 y2 y3 y4 y5 y6 y7) (calepinlaw10_CondOrder.l0 (k + 1) y0 y1 y2 y3 y4 y5 y6 y7)) ∧ (∀ y0 y1 y2 y3 y4 y5 y6 y7 y8 y9, LeO (calepinlaw10_CondOrder.j1 k y0 y1 y2 y3 y4 y5 y6 y7 y8 y9) (calepinlaw10_CondOrder.j1 (k + 1) y0 y1 y2 y3 y4 y5 y6 y7 y8 y9)) ∧ (∀ y0 y1 y2 y3 y4 y5 y6 y7 y8, LeO (calepinlaw10_CondOrder.j2 k y0 y1 y2 y3 y4 y5 y6 y7 y8) (calepinlaw10_CondOrder.j2 (k + 1) y0 y1 y2 y3 y4 y5 y6 y7 y8))
  | 0 => ⟨fun _ _ _ _ _ r h => by simp [calepinlaw10_CondOrder.j3] at h, fun _ _ _ _ _ r h => by simp [calepinlaw10_CondOrder.j4] at h, fun _ _ _ _ _ _ _ _ r h => by simp [calepinlaw10_CondOrder.l0] at h, fun _ _ _ _ _ _ _ _ _ _ r h => by simp [calepinlaw10_CondOrder.j1] at h, fun _ _ _ _ _ _ _ _ _ r h => by simp [calepinlaw10_CondOrder.j2] at h⟩
  | k + 1 => by
    obtain ⟨ih0, ih1, ih2, ih3, ih4⟩ := calepinlaw10_CondOrder.mono_l k
    refine ⟨?_, ?_, ?_, ?_, ?_⟩
    · intro y0 y1 y2 y3 y4
      unfold calepinlaw10_CondOrder.j3
      repeat' first
      | (with_reducible exact ih0 _ _ _ _ _)
      | (with_reducible exact ih1 _ _ _ _ _)
      | (with_reducible exact ih2 _ _ _ _ _ _ _ _)
      | (with_reducible exact ih3 _ _ _ _ _ _ _ _ _ _)
      | (with_reducible exact ih4 _ _ _ _ _ _ _ _ _)
      | (with_reducible exact calepinlaw10_first.mono _)
      | (with_reducible exact cond_Holds.mono _ _ _ _)
      | (with_reducible exact LeO.refl _)
      | (with_reducible exact LeO.none _)
      | (with_reducible refine LeO.ite ?_ ?_)
      | (with_reducible refine LeO.bind ?_ (fun _ => ?_))
      | exact ih0 _ _ _ _ _
      | exact ih1 _ _ _ _ _
      | exact ih2 _ _ _ _ _ _ _ _
      | exact ih3 _ _ _ _ _ _ _ _ _ _
      | exact ih4 _ _ _ _ _ _ _ _ _
      | exact calepinlaw10_first.mono _
      | exact cond_Holds.mono _ _ _ _
      | exact LeO.none _
      | refine LeO.ite ?_ ?_
      | refine LeO.bind ?_ (fun _ => ?_)
    · intro y0 y1 y2 y3 y4
      unfold calepinlaw10_CondOrder.j4
      repeat' first
      | (with_reducible exact ih0 _ _ _ _ _)
      | (with_reducible exact ih1 _ _ _ _ _)
      | (with_reducible exact ih2 _ _ _ _ _ _ _ _)
      | (with_reducible exact ih3 _ _ _ _ _ _ _ _ _ _)
      | (with_reducible exact ih4 _ _ _ _ _ _ _ _ _)
      | (with_reducible exact calepinlaw10_first.mono _)
      | (with_reducible exact cond_Holds.mono _ _ _ _)
      | (with_reducible exact LeO.refl _)
      | (with_reducible exact LeO.none _)
      | (with_reducible refine LeO.ite ?_ ?_)
      | (with_reducible refine LeO.bind ?_ (fun _ => ?_))
      | exact ih0 _ _ _ _ _
      | exact ih1 _ _ _ _ _
      | exact ih2 _ _ _ _ _ _ _ _
      | exact ih3 _ _ _ _ _ _ _ _ _ _
      | exact ih4 _ _ _ _ _ _ _ _ _
      | exact calepinlaw10_first.mono _
      | exact cond_Holds.mono _ _ _ _
      | exact LeO.none _
      | refine LeO.ite ?_ ?_
      | refine LeO.bind ?_ (fun _ => ?_)
    · intro y0 y1 y2 y3 y4 y5 y6 y7
      unfold calepinlaw10_CondOrder.l0
      repeat' first
      | (with_reducible exact ih0 _ _ _ _ _)
      | (with_reducible exact ih1 _ _ _ _ _)
      | (with_reducible exact ih2 _ _ _ _ _ _ _ _)
      | (with_reducible exact ih3 _ _ _ _ _ _ _ _ _ _)
      | (with_reducible exact ih4 _ _ _ _ _ _ _ _ _)
      | (with_reducible exact calepinlaw10_first.mono _)
      | (with_reducible exact cond_Holds.mono _ _ _ _)
      | (with_reducible exact LeO.refl _)
      | (with_reducible exact LeO.none _)
      | (with_reducible refine LeO.ite ?_ ?_)
      | (with_reducible refine LeO.bind ?_ (fun _ => ?_))
      | exact ih0 _ _ _ _ _
      | exact ih1 _ _ _ _ _
      | exact ih2 _ _ _ _ _ _ _ _
      | exact ih3 _ _ _ _ _ _ _ _ _ _
      | exact ih4 _ _ _ _ _ _ _ _ _
      | exact calepinlaw10_first.mono _
      | exact cond_Holds.mono _ _ _ _
      | exact LeO.none _
      | refine LeO.ite ?_ ?_
      | refine LeO.bind ?_ (fun _ => ?_)
    · intro y0 y1 y2 y3 y4 y5 y6 y7 y8 y9
      unfold calepinlaw10_CondOrder.j1
      repeat' first
      | (with_reducible exact ih0 _ _ _ _ _)
      | (with_reducible exact ih1 _ _ _ _ _)
      | (with_reducible exact ih2 _ _ _ _ _ _ _ _)
      | (with_reducible exact ih3 _ _ _ _ _ _ _ _ _ _)
      | (with_reducible exact ih4 _ _ _ _ _ _ _ _ _)
      | (with_reducible exact calepinlaw10_first.mono _)
      | (with_reducible exact cond_Holds.mono _ _ _ _)
      | (with_reducible exact LeO.refl _)
      | (with_reducible exact LeO.none _)
      | (with_reducible refine LeO.ite ?_ ?_)
      | (with_reducible refine LeO.bind ?_ (fun _ => ?_))
      | exact ih0 _ _ _ _ _
      | exact ih1 _ _ _ _ _
      | exact ih2 _ _ _ _ _ _ _ _
      | exact ih3 _ _ _ _ _ _ _ _ _ _
      | exact ih4 _ _ _ _ _ _ _ _ _
      | exact calepinlaw10_first.mono _
      | exact cond_Holds.mono _ _ _ _
      | exact LeO.none _
      | refine LeO.ite ?_ ?_
      | refine LeO.bind ?_ (fun _ => ?_)
    · intro y0 y1 y2 y3 y4 y5 y6 y7 y8
      unfold calepinlaw10_CondOrder.j2
      repeat' first
      | (with_reducible exact ih0 _ _ _ _ _)
      | (with_reducible exact ih1 _ _ _ _ _)
      | (with_reducible exact ih2 _ _ _ _ _ _ _ _)
      | (with_reducible exact ih3 _ _ _ _ _ _ _ _ _ _)
      | (with_reducible exact ih4 _ _ _ _ _ _ _ _ _)
      | (with_reducible exact calepinlaw10_first.mono _)
      | (with_reducible exact cond_Holds.mono _ _ _ _)
      | (with_reducible exact LeO.refl _)
      | (with_reducible exact LeO.none _)
      | (with_reducible refine LeO.ite ?_ ?_)
      | (with_reducible refine LeO.bind ?_ (fun _ => ?_))
      | exact ih0 _ _ _ _ _
      | exact ih1 _ _ _ _ _
      | exact ih2 _ _ _ _ _ _ _ _
      | exact ih3 _ _ _ _ _ _ _ _ _ _
      | exact ih4 _ _ _ _ _ _ _ _ _
      | exact calepinlaw10_first.mono _
      | exact cond_Holds.mono _ _ _ _
      | exact LeO.none _
      | refine LeO.ite ?_ ?_
      | refine LeO.bind ?_ (fun _ => ?_)
theorem calepinlaw10_CondOrder.mono : ∀ a0 a1 k, LeO (calepinlaw10_CondOrder.f k a0 a1) (calepinlaw10_CondOrder.f (k + 1) a0 a1) := by
  intro a0 a1 k
  obtain ⟨ih0, ih1, ih2, ih3, ih4⟩ := calepinlaw10_CondOrder.mono_l k
  unfold calepinlaw10_CondOrder.f
  repeat' first
      | (with_reducible exact ih0 _ _ _ _ _)
      | (with_reducible exact ih1 _ _ _ _ _)
      | (with_reducible exact ih2 _ _ _ _ _ _ _ _)
      | (with_reducible exact ih3 _ _ _ _ _ _ _ _ _ _)
      | (with_reducible exact ih4 _ _ _ _ _ _ _ _ _)
      | (with_reducible exact calepinlaw10_first.mono _)
      | (with_reducible exact cond_Holds.mono _ _ _ _)
      | (with_reducible exact LeO.refl _)
      | (with_reducible exact LeO.none _)
      | (with_reducible refine LeO.ite ?_ ?_)
      | (with_reducible refine LeO.bind ?_ (fun _ => ?_))
      | exact ih0 _ _ _ _ _
      | exact ih1 _ _ _ _ _
      | exact ih2 _ _ _ _ _ _ _ _
      | exact ih3 _ _ _ _ _ _ _ _ _ _
      | exact ih4 _ _ _ _ _ _ _ _ _
      | exact calepinlaw10_first.mono _
      | exact cond_Holds.mono _ _ _ _
      | exact LeO.none _
      | refine LeO.ite ?_ ?_
      | refine LeO.bind ?_ (fun _ => ?_)
set_option maxHeartbeats 8000000 in
set_option maxRecDepth 100000 in
theorem calepinlaw10_CondOrder.calls (k : Nat) (A0 : Option Addr) (c0 : Nat) (l0 : List Int) (a1 : Int) (r : Bool) (w : World) (hr0 : Kd.C (Kd.int .i64) w A0 l0.length l0) (hc0 : l0.length ≤ c0) (hT : Laid w) (h : calepinlaw10_CondOrder.f k l0 a1 = some r) :
    Calls Tryd.prog 15 #[.slice A0 l0.length c0, .int .i64 a1] w fun e w' => e = .returned (.bool r) ∧ Below w.heap.size w w' := by
  have HR0 := Aside0.mk hr0
  have HC0 := Aside0.mk hc0
  clear hr0 hc0
  have HB := Aside0.mk (Below.refl w.heap.size w)
  have HT := Aside0.mk hT
  clear hT
  have H : ((calepinlaw10_first.f k).bind fun t135 => (if t135 = true then (calepinlaw10_CondOrder.l0 k a1 (⟨#[]⟩ : ByteArray) (⟨#[]⟩ : ByteArray) false 0 l0 (l0.length : Int) 0) else (some false))) = some r := h
  clear h
  replace H := Option.bind_eq_some_iff.mp H
  obtain ⟨t135, A30, H⟩ := H
  replace H : (if t135 = true then (calepinlaw10_CondOrder.l0 k a1 (⟨#[]⟩ : ByteArray) (⟨#[]⟩ : ByteArray) false 0 l0 (l0.length : Int) 0) else (some false)) = some r := H
  have A3 := Aside0.mk A30
  clear A30
  by_cases c4 : t135 = true
  · subst c4
    have H1 : (calepinlaw10_CondOrder.l0 k a1 (⟨#[]⟩ : ByteArray) (⟨#[]⟩ : ByteArray) false 0 l0 (l0.length : Int) 0) = some r := by rw [if_pos rfl] at H; exact H
    clear H
    have H := H1
    clear H1
    have HC5 := Aside0.mk H
    clear H
    go_enter Tryd.func15, Tryd.ntmps15
    go_upto_block 0 with (first | ((with_reducible refine gate_callee (f := 38) rfl ?_); refine goesL_ (some 17) rfl rfl Tryd.func38 (by kernel_rfl) rfl #[] rfl (by (try simp only [List.map_toArray, List.map_cons, List.map_nil]); first | done | rfl | (simp only [List.length_drop, List.length_take]; rfl)) ?_; (with_reducible refine (calepinlaw10_first.calls k  true _ ?side1 A3.out).mono ?_); (case side1 => exact Laid.below HT.out (by repeat (first | (with_reducible first | exact HB.out | apply below_alloc | apply pw_below_drewN | apply below_drew1) | exact HB.out))); rintro e w6 ⟨rfl, hb⟩; refine ⟨_, rfl, ?_⟩; have n0_ := Aside0.mk (below_step (by repeat (first | (with_reducible first | exact HB.out | apply below_alloc | apply pw_below_drewN | apply below_drew1) | exact HB.out)) hb); clear HB; have HB := n0_; clear n0_; (try clear hb); (try clear hb2); (try clear hk); (try clear hi)))
    (try simp only [Act.put, List.setIfInBounds_toArray, List.set_cons_zero, List.set_cons_succ])
    go_cut [5, 6, 7, 8] (fun v5 v6 v7 v8 wc => ∃ (kq : Nat) (x5_4 : ByteArray) (x6_4 : ByteArray) (x7_4 : Bool) (x8_4 : Int), v5 = .string x5_4 ∧ v6 = .string x6_4 ∧ v7 = .bool x7_4 ∧ v8 = .int .i64 x8_4 ∧ Aside0 (calepinlaw10_CondOrder.j3 kq a1 x5_4 x6_4 x7_4 x8_4 = some r) ∧ Aside0 (kq ≤ k) ∧ Aside0 (Below w.heap.size w wc))
    case first =>
      have H := HC5.out
      clear HC5
      have H' := Aside0.mk H
      clear H
      go_wp2
      go_loopg [5, 6, 7, 8, 21] k (fun kq v5 v6 v7 v8 v21 w' => ∃ (x5_1 : ByteArray) (x6_1 : ByteArray) (x7_1 : Bool) (x8_1 : Int) (x21_1 : Int), v5 = .string x5_1 ∧ v6 = .string x6_1 ∧ v7 = .bool x7_1 ∧ v8 = .int .i64 x8_1 ∧ v21 = .int .i64 x21_1 ∧ Aside0 (calepinlaw10_CondOrder.l0 kq a1 x5_1 x6_1 x7_1 x8_1 l0 (l0.length : Int) x21_1 = some r) ∧ Aside0 (kq ≤ k) ∧ Aside0 (Below w.heap.size w w'))
      case atStart => exact ⟨((⟨#[]⟩ : ByteArray)), ((⟨#[]⟩ : ByteArray)), (false), (0), (0), (by first | rfl | (simp; done) | (simp [*]; done)), (by first | rfl | (simp; done) | (simp [*]; done)), (by first | rfl | (simp; done) | (simp [*]; done)), (by first | rfl | (simp; done) | (simp [*]; done)), (by first | rfl | (simp; done) | (simp [*]; done)), H', ⟨Nat.le_refl _⟩, ⟨by repeat (first | (with_reducible first | exact HB.out | apply below_alloc | apply pw_below_drewN | apply below_drew1) | exact HB.out)⟩⟩
      case round =>
        clear H'
        try clear c1
        try clear p2
        try clear c3
        try clear c4
        obtain ⟨x5_1, x6_1, x7_1, x8_1, x21_1, rfl, rfl, rfl, rfl, rfl, HA, HK1, HB⟩ := hrel
        cases gk with
        | zero => exact absurd HA.out (by simp [calepinlaw10_CondOrder.l0])
        | succ k1 =>
          have H := HA.out
          clear HA
          simp only [calepinlaw10_CondOrder.l0] at H
          by_cases c7 : x21_1 < (l0.length : Int)
          · rw [if_pos c7] at H
            have c7b0 : decide (x21_1 < (l0.length : Int)) = true := decide_eq_true c7
            clear c7
            (first | rw [c7b0] | (simp only [i64_w, i32_w]; rw [c7b0]) | skip)
            by_cases c8 : 0 ≤ x21_1
            · rw [if_pos c8] at H
              have c8b0 : decide (0 ≤ x21_1) = true := decide_eq_true c8
              clear c8
              by_cases c9 : x21_1 < (l0.length : Int)
              · rw [if_pos c9] at H
                have c9b0 : decide (x21_1 < (l0.length : Int)) = true := decide_eq_true c9
                clear c9
                have HC10 := Aside0.mk H
                clear H
                have p136 : 0 ≤ (x21_1 : Int) := of_decide_eq_true (by first | (with_reducible assumption) | assumption)
                have q136 : x21_1 < (l0.length : Int) := of_decide_eq_true (by first | (with_reducible assumption) | assumption)
                obtain ⟨ad136, e136, hx136_0⟩ := Kd.at_int HR0.out x21_1 p136 q136
                cases e136
                replace hx136_0 := (HB.out.cell (World.block_lt_of_cell? w _ hx136_0)).trans hx136_0
                replace p136 := eq_true p136
                replace q136 := eq_true q136
                go_upto_region 8 with (fail)
                go_cut [35] (fun v35 wc => ∃ (kq : Nat) (x35_9 : Bool), v35 = .bool x35_9 ∧ Aside0 (calepinlaw10_CondOrder.j1 kq a1 x5_1 x6_1 x7_1 x8_1 (rd l0 x21_1) l0 (l0.length : Int) x21_1 x35_9 = some r) ∧ Aside0 (kq ≤ k1) ∧ Aside0 (Below w.heap.size w wc))
                case first =>
                  have H := HC10.out
                  clear HC10
                  by_cases c11 : x21_1 ≥ 20
                  · rw [if_pos c11] at H
                    have c11b0 : decide (20 ≤ x21_1) = true := decide_eq_true c11
                    clear c11
                    (first | rw [c11b0] | (simp only [i64_w, i32_w]; rw [c11b0]) | skip)
                    have H' := Aside0.mk H
                    clear H
                    go_wp2
                    go_meet
                    case rel => exact ⟨_, (true), (by first | rfl | (simp; done) | (simp [*]; done)), H', ⟨by have := HK1.out; first | omega | exact Nat.le_refl _⟩, ⟨by repeat (first | (with_reducible first | exact HB.out | apply below_alloc | apply pw_below_drewN | apply below_drew1) | exact HB.out)⟩⟩
                  · rw [if_neg c11] at H
                    have c11b0 : decide (20 ≤ x21_1) = false := decide_eq_false c11
                    clear c11
                    (first | rw [c11b0] | (simp only [i64_w, i32_w]; rw [c11b0]) | skip)
                    by_cases c12 : (rd l0 x21_1) < 1
                    · rw [if_pos c12] at H
                      have c12b0 : decide ((rd l0 x21_1) < 1) = true := decide_eq_true c12
                      clear c12
                      have H' := Aside0.mk H
                      clear H
                      go_wp2
                      go_meet
                      case rel => exact ⟨_, (true), (by first | rfl | (simp; done) | (simp [*]; done)), H', ⟨by have := HK1.out; first | omega | exact Nat.le_refl _⟩, ⟨by repeat (first | (with_reducible first | exact HB.out | apply below_alloc | apply pw_below_drewN | apply below_drew1) | exact HB.out)⟩⟩
                    · rw [if_neg c12] at H
                      have c12b0 : decide ((rd l0 x21_1) < 1) = false := decide_eq_false c12
                      clear c12
                      have H' := Aside0.mk H
                      clear H
                      go_wp2
                      go_meet
                      case rel => exact ⟨_, (decide ((rd l0 x21_1) > 4611686018427387904)), (by first | rfl | (simp; done) | (simp [*]; done)), H', ⟨by have := HK1.out; first | omega | exact Nat.le_refl _⟩, ⟨by repeat (first | (with_reducible first | exact HB.out | apply below_alloc | apply pw_below_drewN | apply below_drew1) | exact HB.out)⟩⟩
                case rest =>
                  clear HC10
                  try clear c1
                  try clear p1
                  try clear q1
                  try clear hx1
                  try clear p2
                  try clear c3
                  try clear c4
                  try clear c7
                  try clear c7b0
                  try clear c8
                  try clear c8b0
                  try clear c9
                  try clear c9b0
                  try clear c11
                  try clear c11b0
                  try clear c12
                  try clear c12b0
                  try clear hx136_0
                  try clear p136
                  try clear p2
                  try clear q136
                  obtain ⟨kq, x35_9, rfl, HA, HJ9, HB⟩ := hcut
                  cases kq with
                  | zero => exact absurd HA.out (by simp [calepinlaw10_CondOrder.j1])
                  | succ kj9 =>
                    have H := HA.out
                    clear HA
                    simp only [calepinlaw10_CondOrder.j1] at H
                    by_cases c13 : x35_9 = true
                    · subst c13
                      have H1 : (calepinlaw10_CondOrder.j3 kj9 a1 x5_1 x6_1 x7_1 x8_1) = some r := by rw [if_pos rfl] at H; exact H
                      clear H
                      have H := H1
                      clear H1
                      have H' := Aside0.mk H
                      clear H
                      go_wp2
                      go_meet
                      case rel => exact ⟨_, (x5_1), (x6_1), (x7_1), (x8_1), (by first | rfl | (simp; done) | (simp [*]; done)), (by first | rfl | (simp; done) | (simp [*]; done)), (by first | rfl | (simp; done) | (simp [*]; done)), (by first | rfl | (simp; done) | (simp [*]; done)), H', ⟨by have := HK1.out; have := HJ9.out; first | omega | exact Nat.le_refl _⟩, ⟨by repeat (first | (with_reducible first | exact HB.out | apply below_alloc | apply pw_below_drewN | apply below_drew1) | exact HB.out)⟩⟩
                    · replace c13 := Bool.eq_false_iff.mpr c13
                      subst c13
                      have H1 : (if x7_1 = true then (calepinlaw10_CondOrder.j2 kj9 a1 x5_1 x6_1 true x8_1 (rd l0 x21_1) l0 (l0.length : Int) x21_1) else (calepinlaw10_CondOrder.j2 kj9 a1 x5_1 x6_1 ((rd l0 x21_1) == a1) x8_1 (rd l0 x21_1) l0 (l0.length : Int) x21_1)) = some r := by rw [if_neg (show ¬ (false = true) by decide)] at H; exact H
                      clear H
                      have H := H1
                      clear H1
                      have HC14 := Aside0.mk H
                      clear H
                      go_upto_region 9 with (fail)
                      go_cut [7] (fun v7 wc => ∃ (kq : Nat) (x7_13 : Bool), v7 = .bool x7_13 ∧ Aside0 (calepinlaw10_CondOrder.j2 kq a1 x5_1 x6_1 x7_13 x8_1 (rd l0 x21_1) l0 (l0.length : Int) x21_1 = some r) ∧ Aside0 (kq ≤ kj9) ∧ Aside0 (Below w.heap.size w wc))
                      case first =>
                        have H := HC14.out
                        clear HC14
                        by_cases c15 : x7_1 = true
                        · subst c15
                          have H1 : (calepinlaw10_CondOrder.j2 kj9 a1 x5_1 x6_1 true x8_1 (rd l0 x21_1) l0 (l0.length : Int) x21_1) = some r := by rw [if_pos rfl] at H; exact H
                          clear H
                          have H := H1
                          clear H1
                          have H' := Aside0.mk H
                          clear H
                          go_wp2
                          go_meet
                          case rel => exact ⟨_, (true), (by first | rfl | (simp; done) | (simp [*]; done)), H', ⟨by have := HK1.out; have := HJ9.out; first | omega | exact Nat.le_refl _⟩, ⟨by repeat (first | (with_reducible first | exact HB.out | apply below_alloc | apply pw_below_drewN | apply below_drew1) | exact HB.out)⟩⟩
                        · replace c15 := Bool.eq_false_iff.mpr c15
                          subst c15
                          have H1 : (calepinlaw10_CondOrder.j2 kj9 a1 x5_1 x6_1 ((rd l0 x21_1) == a1) x8_1 (rd l0 x21_1) l0 (l0.length : Int) x21_1) = some r := by rw [if_neg (show ¬ (false = true) by decide)] at H; exact H
                          clear H
                          have H := H1
                          clear H1
                          have H' := Aside0.mk H
                          clear H
                          go_wp2
                          go_meet
                          case rel => exact ⟨_, (((rd l0 x21_1) == a1)), (by first | rfl | (simp; done) | (simp [*]; done)), H', ⟨by have := HK1.out; have := HJ9.out; first | omega | exact Nat.le_refl _⟩, ⟨by repeat (first | (with_reducible first | exact HB.out | apply below_alloc | apply pw_below_drewN | apply below_drew1) | exact HB.out)⟩⟩
                      case rest =>
                        clear HC14
                        try clear c1
                        try clear p1
                        try clear q1
                        try clear hx1
                        try clear p2
                        try clear c3
                        try clear c4
                        try clear c7
                        try clear c7b0
                        try clear c8
                        try clear c8b0
                        try clear c9
                        try clear c9b0
                        try clear c11
                        try clear c11b0
                        try clear c12
                        try clear c12b0
                        try clear c13
                        try clear p13
                        try clear q13
                        try clear hx13
                        try clear c15
                        try clear hx136_0
                        try clear p1
                        try clear p136
                        try clear p2
                        try clear q1
                        try clear q136
                        obtain ⟨kq, x7_13, rfl, HA, HJ13, HB⟩ := hcut
                        cases kq with
                        | zero => exact absurd HA.out (by simp [calepinlaw10_CondOrder.j2])
                        | succ kj13 =>
                          have H := HA.out
                          clear HA
                          simp only [calepinlaw10_CondOrder.j2] at H
                          by_cases c16 : x8_1 > 0
                          · rw [if_pos c16] at H
                            have c16b0 : decide (0 < x8_1) = true := decide_eq_true c16
                            clear c16
                            by_cases c17 : x5_1.size + 1 ≤ 9223372036854775807
                            · rw [if_pos c17] at H
                              have c17b0 := eq_true c17
                              have c17b1 : decide (x5_1.size + 1 ≤ 9223372036854775807) = true := decide_eq_true c17
                              try have c17b2 : (9223372036854775807 < x5_1.size + 1) = False := eq_false (Nat.not_lt.2 c17)
                              by_cases c18 : 3 + x6_1.size ≤ 9223372036854775807
                              · rw [if_pos c18] at H
                                have c18b0 := eq_true c18
                                have c18b1 : decide (3 + x6_1.size ≤ 9223372036854775807) = true := decide_eq_true c18
                                try have c18b2 : (9223372036854775807 < 3 + x6_1.size) = False := eq_false (Nat.not_lt.2 c18)
                                replace H := Option.bind_eq_some_iff.mp H
                                obtain ⟨t137, A190, H⟩ := H
                                replace H : (if (x5_1 ++ (⟨#[44]⟩ : ByteArray)).size + t137.size ≤ 9223372036854775807 then ((cond_Tag.f (rd l0 x21_1)).bind fun t138 => (if t138.size + 1 ≤ 9223372036854775807 then ((cond_Tag.f (rd l0 x21_1)).bind fun t139 => (if (t138 ++ (⟨#[44]⟩ : ByteArray)).size + t139.size ≤ 9223372036854775807 then (if ((t138 ++ (⟨#[44]⟩ : ByteArray)) ++ t139).size + ((⟨#[9, 44, 32]⟩ : ByteArray) ++ x6_1).size ≤ 9223372036854775807 then (calepinlaw10_CondOrder.l0 kj13 a1 ((x5_1 ++ (⟨#[44]⟩ : ByteArray)) ++ t137) (((t138 ++ (⟨#[44]⟩ : ByteArray)) ++ t139) ++ ((⟨#[9, 44, 32]⟩ : ByteArray) ++ x6_1)) x7_13 (wrap64 (x8_1 + 1)) l0 (l0.length : Int) (wrap64 (x21_1 + 1))) else (none)) else (none))) else (none))) else (none)) = some r := H
                                have A19 := Aside0.mk A190
                                clear A190
                                by_cases c20 : (x5_1 ++ (⟨#[44]⟩ : ByteArray)).size + t137.size ≤ 9223372036854775807
                                · rw [if_pos c20] at H
                                  have c20b0 := eq_true c20
                                  have c20b1 : decide ((x5_1 ++ (⟨#[44]⟩ : ByteArray)).size + t137.size ≤ 9223372036854775807) = true := decide_eq_true c20
                                  try have c20b2 : (9223372036854775807 < (x5_1 ++ (⟨#[44]⟩ : ByteArray)).size + t137.size) = False := eq_false (Nat.not_lt.2 c20)
                                  have c20b8 : (9223372036854775807 < x5_1.size + 1 + t137.size) = False := by have h_ := c20; simp only [ByteArray.size_append] at h_; exact eq_false (Nat.not_lt.2 h_)
                                  replace H := Option.bind_eq_some_iff.mp H
                                  obtain ⟨t138, A210, H⟩ := H
                                  replace H : (if t138.size + 1 ≤ 9223372036854775807 then ((cond_Tag.f (rd l0 x21_1)).bind fun t139 => (if (t138 ++ (⟨#[44]⟩ : ByteArray)).size + t139.size ≤ 9223372036854775807 then (if ((t138 ++ (⟨#[44]⟩ : ByteArray)) ++ t139).size + ((⟨#[9, 44, 32]⟩ : ByteArray) ++ x6_1).size ≤ 9223372036854775807 then (calepinlaw10_CondOrder.l0 kj13 a1 ((x5_1 ++ (⟨#[44]⟩ : ByteArray)) ++ t137) (((t138 ++ (⟨#[44]⟩ : ByteArray)) ++ t139) ++ ((⟨#[9, 44, 32]⟩ : ByteArray) ++ x6_1)) x7_13 (wrap64 (x8_1 + 1)) l0 (l0.length : Int) (wrap64 (x21_1 + 1))) else (none)) else (none))) else (none)) = some r := H
                                  have A21 := Aside0.mk A210
                                  clear A210
                                  by_cases c22 : t138.size + 1 ≤ 9223372036854775807
                                  · rw [if_pos c22] at H
                                    have c22b0 := eq_true c22
                                    have c22b1 : decide (t138.size + 1 ≤ 9223372036854775807) = true := decide_eq_true c22
                                    try have c22b2 : (9223372036854775807 < t138.size + 1) = False := eq_false (Nat.not_lt.2 c22)
                                    replace H := Option.bind_eq_some_iff.mp H
                                    obtain ⟨t139, A230, H⟩ := H
                                    replace H : (if (t138 ++ (⟨#[44]⟩ : ByteArray)).size + t139.size ≤ 9223372036854775807 then (if ((t138 ++ (⟨#[44]⟩ : ByteArray)) ++ t139).size + ((⟨#[9, 44, 32]⟩ : ByteArray) ++ x6_1).size ≤ 9223372036854775807 then (calepinlaw10_CondOrder.l0 kj13 a1 ((x5_1 ++ (⟨#[44]⟩ : ByteArray)) ++ t137) (((t138 ++ (⟨#[44]⟩ : ByteArray)) ++ t139) ++ ((⟨#[9, 44, 32]⟩ : ByteArray) ++ x6_1)) x7_13 (wrap64 (x8_1 + 1)) l0 (l0.length : Int) (wrap64 (x21_1 + 1))) else (none)) else (none)) = some r := H
                                    have A23 := Aside0.mk A230
                                    clear A230
                                    by_cases c24 : (t138 ++ (⟨#[44]⟩ : ByteArray)).size + t139.size ≤ 9223372036854775807
                                    · rw [if_pos c24] at H
                                      have c24b0 := eq_true c24
                                      have c24b1 : decide ((t138 ++ (⟨#[44]⟩ : ByteArray)).size + t139.size ≤ 9223372036854775807) = true := decide_eq_true c24
                                      try have c24b2 : (9223372036854775807 < (t138 ++ (⟨#[44]⟩ : ByteArray)).size + t139.size) = False := eq_false (Nat.not_lt.2 c24)
                                      have c24b8 : (9223372036854775807 < t138.size + 1 + t139.size) = False := by have h_ := c24; simp only [ByteArray.size_append] at h_; exact eq_false (Nat.not_lt.2 h_)
                                      by_cases c25 : ((t138 ++ (⟨#[44]⟩ : ByteArray)) ++ t139).size + ((⟨#[9, 44, 32]⟩ : ByteArray) ++ x6_1).size ≤ 9223372036854775807
                                      · rw [if_pos c25] at H
                                        have c25b0 := eq_true c25
                                        have c25b1 : decide (((t138 ++ (⟨#[44]⟩ : ByteArray)) ++ t139).size + ((⟨#[9, 44, 32]⟩ : ByteArray) ++ x6_1).size ≤ 9223372036854775807) = true := decide_eq_true c25
                                        try have c25b2 : (9223372036854775807 < ((t138 ++ (⟨#[44]⟩ : ByteArray)) ++ t139).size + ((⟨#[9, 44, 32]⟩ : ByteArray) ++ x6_1).size) = False := eq_false (Nat.not_lt.2 c25)
                                        have c25b8 : (9223372036854775807 < t138.size + 1 + t139.size + (3 + x6_1.size)) = False := by have h_ := c25; simp only [ByteArray.size_append] at h_; exact eq_false (Nat.not_lt.2 h_)
                                        have H' := Aside0.mk H
                                        clear H
                                        have ez_ : t137 = t138 := Option.some.inj (A19.out.symm.trans A21.out)
                                        subst ez_
                                        have ez_ : t137 = t139 := Option.some.inj (A19.out.symm.trans A23.out)
                                        subst ez_
                                        go_wp2_with (first | ((with_reducible refine gate_callee (f := 39) rfl ?_); refine goesL_ (some 50) rfl rfl Tryd.func39 (by kernel_rfl) rfl #[.int .i64 (rd l0 x21_1)] rfl (by (try simp only [List.map_toArray, List.map_cons, List.map_nil]); first | done | rfl | (simp only [List.length_drop, List.length_take]; rfl)) ?_; (with_reducible refine (cond_Tag.calls (rd l0 x21_1) t137 _ ?side1 A19.out).mono ?_); (case side1 => exact Laid.below HT.out (by repeat (first | (with_reducible first | exact HB.out | apply below_alloc | apply pw_below_drewN | apply below_drew1) | exact HB.out))); rintro e w26 ⟨rfl, hb⟩; refine ⟨_, rfl, ?_⟩; have n0_ := Aside0.mk (below_step (by repeat (first | (with_reducible first | exact HB.out | apply below_alloc | apply pw_below_drewN | apply below_drew1) | exact HB.out)) hb); clear HB; have HB := n0_; clear n0_; (try clear hb); (try clear hb2); (try clear hk); (try clear hi)) | ((with_reducible refine gate_callee (f := 39) rfl ?_); refine goesL_ (some 53) rfl rfl Tryd.func39 (by kernel_rfl) rfl #[.int .i64 (rd l0 x21_1)] rfl (by (try simp only [List.map_toArray, List.map_cons, List.map_nil]); first | done | rfl | (simp only [List.length_drop, List.length_take]; rfl)) ?_; (with_reducible refine (cond_Tag.calls (rd l0 x21_1) t137 _ ?side1 A21.out).mono ?_); (case side1 => exact Laid.below HT.out (by repeat (first | (with_reducible first | exact HB.out | apply below_alloc | apply pw_below_drewN | apply below_drew1) | exact HB.out))); rintro e w27 ⟨rfl, hb⟩; refine ⟨_, rfl, ?_⟩; have n0_ := Aside0.mk (below_step (by repeat (first | (with_reducible first | exact HB.out | apply below_alloc | apply pw_below_drewN | apply below_drew1) | exact HB.out)) hb); clear HB; have HB := n0_; clear n0_; (try clear hb); (try clear hb2); (try clear hk); (try clear hi)) | ((with_reducible refine gate_callee (f := 39) rfl ?_); refine goesL_ (some 56) rfl rfl Tryd.func39 (by kernel_rfl) rfl #[.int .i64 (rd l0 x21_1)] rfl (by (try simp only [List.map_toArray, List.map_cons, List.map_nil]); first | done | rfl | (simp only [List.length_drop, List.length_take]; rfl)) ?_; (with_reducible refine (cond_Tag.calls (rd l0 x21_1) t137 _ ?side1 A23.out).mono ?_); (case side1 => exact Laid.below HT.out (by repeat (first | (with_reducible first | exact HB.out | apply below_alloc | apply pw_below_drewN | apply below_drew1) | exact HB.out))); rintro e w28 ⟨rfl, hb⟩; refine ⟨_, rfl, ?_⟩; have n0_ := Aside0.mk (below_step (by repeat (first | (with_reducible first | exact HB.out | apply below_alloc | apply pw_below_drewN | apply below_drew1) | exact HB.out)) hb); clear HB; have HB := n0_; clear n0_; (try clear hb); (try clear hb2); (try clear hk); (try clear hi)))
                                        go_roundg kj13
                                        case measure => have := HK1.out; have := HJ9.out; have := HJ13.out; omega
                                        case rel => exact ⟨((x5_1 ++ (⟨#[44]⟩ : ByteArray)) ++ t137), (((t137 ++ (⟨#[44]⟩ : ByteArray)) ++ t137) ++ ((⟨#[9, 44, 32]⟩ : ByteArray) ++ x6_1)), (x7_13), (wrap64 (x8_1 + 1)), (wrap64 (x21_1 + 1)), (by first | rfl | (simp; done) | (simp [*]; done)), (by first | rfl | (simp; done) | (simp [*]; done)), (by first | rfl | (simp; done) | (simp [*]; done)), (by first | rfl | (simp; done) | (simp [*]; done)), (by first | rfl | (simp; done) | (simp [*]; done)), H', ⟨by have := HK1.out; have := HJ9.out; have := HJ13.out; omega⟩, ⟨by repeat (first | (with_reducible first | exact HB.out | apply below_alloc | apply pw_below_drewN | apply below_drew1) | exact HB.out)⟩⟩
                                      · rw [if_neg c25] at H
                                        exact absurd H (by simp)
                                    · rw [if_neg c24] at H
                                      exact absurd H (by simp)
                                  · rw [if_neg c22] at H
                                    exact absurd H (by simp)
                                · rw [if_neg c20] at H
                                  exact absurd H (by simp)
                              · rw [if_neg c18] at H
                                exact absurd H (by simp)
                            · rw [if_neg c17] at H
                              exact absurd H (by simp)
                          · rw [if_neg c16] at H
                            have c16b0 : decide (0 < x8_1) = false := decide_eq_false c16
                            clear c16
                            replace H := Option.bind_eq_some_iff.mp H
                            obtain ⟨t140, A290, H⟩ := H
                            replace H : (if x5_1.size + t140.size ≤ 9223372036854775807 then ((cond_Tag.f (rd l0 x21_1)).bind fun t141 => (if t141.size + 1 ≤ 9223372036854775807 then ((cond_Tag.f (rd l0 x21_1)).bind fun t142 => (if (t141 ++ (⟨#[44]⟩ : ByteArray)).size + t142.size ≤ 9223372036854775807 then (if ((t141 ++ (⟨#[44]⟩ : ByteArray)) ++ t142).size + x6_1.size ≤ 9223372036854775807 then (calepinlaw10_CondOrder.l0 kj13 a1 (x5_1 ++ t140) (((t141 ++ (⟨#[44]⟩ : ByteArray)) ++ t142) ++ x6_1) x7_13 (wrap64 (x8_1 + 1)) l0 (l0.length : Int) (wrap64 (x21_1 + 1))) else (none)) else (none))) else (none))) else (none)) = some r := H
                            have A29 := Aside0.mk A290
                            clear A290
                            by_cases c30 : x5_1.size + t140.size ≤ 9223372036854775807
                            · rw [if_pos c30] at H
                              have c30b0 := eq_true c30
                              have c30b1 : decide (x5_1.size + t140.size ≤ 9223372036854775807) = true := decide_eq_true c30
                              try have c30b2 : (9223372036854775807 < x5_1.size + t140.size) = False := eq_false (Nat.not_lt.2 c30)
                              replace H := Option.bind_eq_some_iff.mp H
                              obtain ⟨t141, A310, H⟩ := H
                              replace H : (if t141.size + 1 ≤ 9223372036854775807 then ((cond_Tag.f (rd l0 x21_1)).bind fun t142 => (if (t141 ++ (⟨#[44]⟩ : ByteArray)).size + t142.size ≤ 9223372036854775807 then (if ((t141 ++ (⟨#[44]⟩ : ByteArray)) ++ t142).size + x6_1.size ≤ 9223372036854775807 then (calepinlaw10_CondOrder.l0 kj13 a1 (x5_1 ++ t140) (((t141 ++ (⟨#[44]⟩ : ByteArray)) ++ t142) ++ x6_1) x7_13 (wrap64 (x8_1 + 1)) l0 (l0.length : Int) (wrap64 (x21_1 + 1))) else (none)) else (none))) else (none)) = some r := H
                              have A31 := Aside0.mk A310
                              clear A310
                              by_cases c32 : t141.size + 1 ≤ 9223372036854775807
                              · rw [if_pos c32] at H
                                have c32b0 := eq_true c32
                                have c32b1 : decide (t141.size + 1 ≤ 9223372036854775807) = true := decide_eq_true c32
                                try have c32b2 : (9223372036854775807 < t141.size + 1) = False := eq_false (Nat.not_lt.2 c32)
                                replace H := Option.bind_eq_some_iff.mp H
                                obtain ⟨t142, A330, H⟩ := H
                                replace H : (if (t141 ++ (⟨#[44]⟩ : ByteArray)).size + t142.size ≤ 9223372036854775807 then (if ((t141 ++ (⟨#[44]⟩ : ByteArray)) ++ t142).size + x6_1.size ≤ 9223372036854775807 then (calepinlaw10_CondOrder.l0 kj13 a1 (x5_1 ++ t140) (((t141 ++ (⟨#[44]⟩ : ByteArray)) ++ t142) ++ x6_1) x7_13 (wrap64 (x8_1 + 1)) l0 (l0.length : Int) (wrap64 (x21_1 + 1))) else (none)) else (none)) = some r := H
                                have A33 := Aside0.mk A330
                                clear A330
                                by_cases c34 : (t141 ++ (⟨#[44]⟩ : ByteArray)).size + t142.size ≤ 9223372036854775807
                                · rw [if_pos c34] at H
                                  have c34b0 := eq_true c34
                                  have c34b1 : decide ((t141 ++ (⟨#[44]⟩ : ByteArray)).size + t142.size ≤ 9223372036854775807) = true := decide_eq_true c34
                                  try have c34b2 : (9223372036854775807 < (t141 ++ (⟨#[44]⟩ : ByteArray)).size + t142.size) = False := eq_false (Nat.not_lt.2 c34)
                                  have c34b8 : (9223372036854775807 < t141.size + 1 + t142.size) = False := by have h_ := c34; simp only [ByteArray.size_append] at h_; exact eq_false (Nat.not_lt.2 h_)
                                  by_cases c35 : ((t141 ++ (⟨#[44]⟩ : ByteArray)) ++ t142).size + x6_1.size ≤ 9223372036854775807
                                  · rw [if_pos c35] at H
                                    have c35b0 := eq_true c35
                                    have c35b1 : decide (((t141 ++ (⟨#[44]⟩ : ByteArray)) ++ t142).size + x6_1.size ≤ 9223372036854775807) = true := decide_eq_true c35
                                    try have c35b2 : (9223372036854775807 < ((t141 ++ (⟨#[44]⟩ : ByteArray)) ++ t142).size + x6_1.size) = False := eq_false (Nat.not_lt.2 c35)
                                    have c35b8 : (9223372036854775807 < t141.size + 1 + t142.size + x6_1.size) = False := by have h_ := c35; simp only [ByteArray.size_append] at h_; exact eq_false (Nat.not_lt.2 h_)
                                    have H' := Aside0.mk H
                                    clear H
                                    have ez_ : t140 = t141 := Option.some.inj (A29.out.symm.trans A31.out)
                                    subst ez_
                                    have ez_ : t140 = t142 := Option.some.inj (A29.out.symm.trans A33.out)
                                    subst ez_
                                    go_wp2_with (first | ((with_reducible refine gate_callee (f := 39) rfl ?_); refine goesL_ (some 50) rfl rfl Tryd.func39 (by kernel_rfl) rfl #[.int .i64 (rd l0 x21_1)] rfl (by (try simp only [List.map_toArray, List.map_cons, List.map_nil]); first | done | rfl | (simp only [List.length_drop, List.length_take]; rfl)) ?_; (with_reducible refine (cond_Tag.calls (rd l0 x21_1) t140 _ ?side1 A29.out).mono ?_); (case side1 => exact Laid.below HT.out (by repeat (first | (with_reducible first | exact HB.out | apply below_alloc | apply pw_below_drewN | apply below_drew1) | exact HB.out))); rintro e w36 ⟨rfl, hb⟩; refine ⟨_, rfl, ?_⟩; have n0_ := Aside0.mk (below_step (by repeat (first | (with_reducible first | exact HB.out | apply below_alloc | apply pw_below_drewN | apply below_drew1) | exact HB.out)) hb); clear HB; have HB := n0_; clear n0_; (try clear hb); (try clear hb2); (try clear hk); (try clear hi)) | ((with_reducible refine gate_callee (f := 39) rfl ?_); refine goesL_ (some 53) rfl rfl Tryd.func39 (by kernel_rfl) rfl #[.int .i64 (rd l0 x21_1)] rfl (by (try simp only [List.map_toArray, List.map_cons, List.map_nil]); first | done | rfl | (simp only [List.length_drop, List.length_take]; rfl)) ?_; (with_reducible refine (cond_Tag.calls (rd l0 x21_1) t140 _ ?side1 A31.out).mono ?_); (case side1 => exact Laid.below HT.out (by repeat (first | (with_reducible first | exact HB.out | apply below_alloc | apply pw_below_drewN | apply below_drew1) | exact HB.out))); rintro e w37 ⟨rfl, hb⟩; refine ⟨_, rfl, ?_⟩; have n0_ := Aside0.mk (below_step (by repeat (first | (with_reducible first | exact HB.out | apply below_alloc | apply pw_below_drewN | apply below_drew1) | exact HB.out)) hb); clear HB; have HB := n0_; clear n0_; (try clear hb); (try clear hb2); (try clear hk); (try clear hi)) | ((with_reducible refine gate_callee (f := 39) rfl ?_); refine goesL_ (some 56) rfl rfl Tryd.func39 (by kernel_rfl) rfl #[.int .i64 (rd l0 x21_1)] rfl (by (try simp only [List.map_toArray, List.map_cons, List.map_nil]); first | done | rfl | (simp only [List.length_drop, List.length_take]; rfl)) ?_; (with_reducible refine (cond_Tag.calls (rd l0 x21_1) t140 _ ?side1 A33.out).mono ?_); (case side1 => exact Laid.below HT.out (by repeat (first | (with_reducible first | exact HB.out | apply below_alloc | apply pw_below_drewN | apply below_drew1) | exact HB.out))); rintro e w38 ⟨rfl, hb⟩; refine ⟨_, rfl, ?_⟩; have n0_ := Aside0.mk (below_step (by repeat (first | (with_reducible first | exact HB.out | apply below_alloc | apply pw_below_drewN | apply below_drew1) | exact HB.out)) hb); clear HB; have HB := n0_; clear n0_; (try clear hb); (try clear hb2); (try clear hk); (try clear hi)))
                                    go_roundg kj13
                                    case measure => have := HK1.out; have := HJ9.out; have := HJ13.out; omega
                                    case rel => exact ⟨(x5_1 ++ t140), (((t140 ++ (⟨#[44]⟩ : ByteArray)) ++ t140) ++ x6_1), (x7_13), (wrap64 (x8_1 + 1)), (wrap64 (x21_1 + 1)), (by first | rfl | (simp; done) | (simp [*]; done)), (by first | rfl | (simp; done) | (simp [*]; done)), (by first | rfl | (simp; done) | (simp [*]; done)), (by first | rfl | (simp; done) | (simp [*]; done)), (by first | rfl | (simp; done) | (simp [*]; done)), H', ⟨by have := HK1.out; have := HJ9.out; have := HJ13.out; omega⟩, ⟨by repeat (first | (with_reducible first | exact HB.out | apply below_alloc | apply pw_below_drewN | apply below_drew1) | exact HB.out)⟩⟩
                                  · rw [if_neg c35] at H
                                    exact absurd H (by simp)
                                · rw [if_neg c34] at H
                                  exact absurd H (by simp)
                              · rw [if_neg c32] at H
                                exact absurd H (by simp)
                            · rw [if_neg c30] at H
                              exact absurd H (by simp)
              · rw [if_neg c9] at H
                exact absurd H (by simp)
            · rw [if_neg c8] at H
              exact absurd H (by simp)
          · rw [if_neg c7] at H
            have c7b0 : decide (x21_1 < (l0.length : Int)) = false := decide_eq_false c7
            clear c7
            (first | rw [c7b0] | (simp only [i64_w, i32_w]; rw [c7b0]) | skip)
            have H' := Aside0.mk H
            clear H
            go_wp2
            go_meet
            case rel => exact ⟨_, (x5_1), (x6_1), (x7_1), (x8_1), (by first | rfl | (simp; done) | (simp [*]; done)), (by first | rfl | (simp; done) | (simp [*]; done)), (by first | rfl | (simp; done) | (simp [*]; done)), (by first | rfl | (simp; done) | (simp [*]; done)), H', ⟨by have := HK1.out; first | omega | exact Nat.le_refl _⟩, ⟨by repeat (first | (with_reducible first | exact HB.out | apply below_alloc | apply pw_below_drewN | apply below_drew1) | exact HB.out)⟩⟩
    case rest =>
      clear HC5
      try clear c1
      try clear p1
      try clear q1
      try clear hx1
      try clear c2
      try clear p2
      try clear c3
      try clear c4
      try clear p6
      try clear c7
      try clear c7b0
      try clear c8
      try clear c8b0
      try clear c9
      try clear c9b0
      try clear c11
      try clear c11b0
      try clear c12
      try clear c12b0
      try clear c13
      try clear p13
      try clear q13
      try clear hx13
      try clear c15
      try clear c16
      try clear c16b0
      try clear c17
      try clear c17b0
      try clear c17b1
      try clear c17b2
      try clear c18
      try clear c18b0
      try clear c18b1
      try clear c18b2
      try clear c20
      try clear c20b0
      try clear c20b1
      try clear c20b2
      try clear c22
      try clear c22b0
      try clear c22b1
      try clear c22b2
      try clear c24
      try clear c24b0
      try clear c24b1
      try clear c24b2
      try clear c25
      try clear c25b0
      try clear c25b1
      try clear c25b2
      try clear c30
      try clear c30b0
      try clear c30b1
      try clear c30b2
      try clear c32
      try clear c32b0
      try clear c32b1
      try clear c32b2
      try clear c34
      try clear c34b0
      try clear c34b1
      try clear c34b2
      try clear c35
      try clear c35b0
      try clear c35b1
      try clear c35b2
      try clear c38
      try clear hx136_0
      try clear p1
      try clear p13
      try clear p136
      try clear p2
      try clear q1
      try clear q13
      try clear q136
      obtain ⟨kq, x5_4, x6_4, x7_4, x8_4, rfl, rfl, rfl, rfl, HA, HJ4, HB⟩ := hcut
      cases kq with
      | zero => exact absurd HA.out (by simp [calepinlaw10_CondOrder.j3])
      | succ kj4 =>
        have H := HA.out
        clear HA
        simp only [calepinlaw10_CondOrder.j3] at H
        have HC39 := Aside0.mk H
        clear H
        go_upto_region 17 with (fail)
        go_cut [68] (fun v68 wc => ∃ (kq : Nat) (x68_38 : Bool), v68 = .bool x68_38 ∧ Aside0 (calepinlaw10_CondOrder.j4 kq a1 x5_4 x6_4 x7_4 x68_38 = some r) ∧ Aside0 (kq ≤ kj4) ∧ Aside0 (Below w.heap.size w wc))
        case first =>
          have H := HC39.out
          clear HC39
          by_cases c40 : x8_4 = 0
          · rw [if_pos c40] at H
            have c40b0 : (x8_4 == 0) = true := beq_iff_eq.mpr c40
            have c40b1 : (x8_4 != 0) = false := bne_eq_false_iff_eq.mpr c40
            clear c40
            (first | rw [c40b0] | rw [c40b1] | (simp only [i64_w, i32_w]; rw [c40b0]) | skip)
            have H' := Aside0.mk H
            clear H
            go_wp2
            go_meet
            case rel => exact ⟨_, (true), (by first | rfl | (simp; done) | (simp [*]; done)), H', ⟨by have := HJ4.out; first | omega | exact Nat.le_refl _⟩, ⟨by repeat (first | (with_reducible first | exact HB.out | apply below_alloc | apply pw_below_drewN | apply below_drew1) | exact HB.out)⟩⟩
          · rw [if_neg c40] at H
            have c40b0 : (x8_4 == 0) = false := beq_eq_false_iff_ne.mpr c40
            have c40b1 : (x8_4 != 0) = true := bne_iff_ne.mpr c40
            (first | rw [c40b0] | rw [c40b1] | rw [c40b1] | (simp only [i64_w, i32_w]; rw [c40b0]) | skip)
            have H' := Aside0.mk H
            clear H
            go_wp2
            go_meet
            case rel => exact ⟨_, (decide (a1 < 1)), (by first | rfl | (simp; done) | (simp [*]; done)), H', ⟨by have := HJ4.out; first | omega | exact Nat.le_refl _⟩, ⟨by repeat (first | (with_reducible first | exact HB.out | apply below_alloc | apply pw_below_drewN | apply below_drew1) | exact HB.out)⟩⟩
        case rest =>
          clear HC39
          try clear c1
          try clear p1
          try clear q1
          try clear hx1
          try clear c2
          try clear p2
          try clear c3
          try clear c4
          try clear p6
          try clear c7
          try clear c7b0
          try clear c8
          try clear c8b0
          try clear c9
          try clear c9b0
          try clear c11
          try clear c11b0
          try clear c12
          try clear c12b0
          try clear c13
          try clear p13
          try clear q13
          try clear hx13
          try clear c15
          try clear c16
          try clear c16b0
          try clear c17
          try clear c17b0
          try clear c17b1
          try clear c17b2
          try clear c18
          try clear c18b0
          try clear c18b1
          try clear c18b2
          try clear c20
          try clear c20b0
          try clear c20b1
          try clear c20b2
          try clear c22
          try clear c22b0
          try clear c22b1
          try clear c22b2
          try clear c24
          try clear c24b0
          try clear c24b1
          try clear c24b2
          try clear c25
          try clear c25b0
          try clear c25b1
          try clear c25b2
          try clear c30
          try clear c30b0
          try clear c30b1
          try clear c30b2
          try clear c32
          try clear c32b0
          try clear c32b1
          try clear c32b2
          try clear c34
          try clear c34b0
          try clear c34b1
          try clear c34b2
          try clear c35
          try clear c35b0
          try clear c35b1
          try clear c35b2
          try clear c38
          try clear c39
          try clear c40
          try clear c40b0
          try clear c40b1
          try clear hx136_0
          try clear p1
          try clear p13
          try clear p136
          try clear p2
          try clear p6
          try clear q1
          try clear q13
          try clear q136
          obtain ⟨kq, x68_38, rfl, HA, HJ38, HB⟩ := hcut
          cases kq with
          | zero => exact absurd HA.out (by simp [calepinlaw10_CondOrder.j4])
          | succ kj38 =>
            have H := HA.out
            clear HA
            simp only [calepinlaw10_CondOrder.j4] at H
            by_cases c41 : x68_38 = true
            · subst c41
              have H1 : (some true) = some r := by rw [if_pos rfl] at H; exact H
              clear H
              have H := H1
              clear H1
              obtain rfl := Option.some.inj H
              go_wp2
              go_ret
              exact ⟨by first | rfl | (simp [errW_none, errW_some] <;> rfl) | (simp [*, errW_none, errW_some] <;> rfl), by repeat (first | (with_reducible first | exact HB.out | apply below_alloc | apply pw_below_drewN | apply below_drew1) | exact HB.out)⟩
            · replace c41 := Bool.eq_false_iff.mpr c41
              subst c41
              have H1 : ((cond_Holds.f kj38 x5_4 (⟨#[]⟩ : ByteArray) a1).bind fun bt143 => ((cond_Holds.f kj38 x6_4 (⟨#[]⟩ : ByteArray) a1).bind fun bt145 => ((cond_Holds.f kj38 (⟨#[]⟩ : ByteArray) x6_4 a1).bind fun bt147 => (if bt143.2 = 0 then (if bt145.2 = 0 then (if bt147.2 = 0 then (if (bt143.1 == x7_4) = true then (if (bt145.1 == x7_4) = true then (some (bt147.1 == (!x7_4))) else (some false)) else (some false)) else (some false)) else (some false)) else (some false))))) = some r := by rw [if_neg (show ¬ (false = true) by decide)] at H; exact H
              clear H
              have H := H1
              clear H1
              replace H := Option.bind_eq_some_iff.mp H
              obtain ⟨⟨t143, t144⟩, A420, H⟩ := H
              replace H : ((cond_Holds.f kj38 x6_4 (⟨#[]⟩ : ByteArray) a1).bind fun bt145 => ((cond_Holds.f kj38 (⟨#[]⟩ : ByteArray) x6_4 a1).bind fun bt147 => (if t144 = 0 then (if bt145.2 = 0 then (if bt147.2 = 0 then (if (t143 == x7_4) = true then (if (bt145.1 == x7_4) = true then (some (bt147.1 == (!x7_4))) else (some false)) else (some false)) else (some false)) else (some false)) else (some false)))) = some r := H
              have A42 := Aside0.mk A420
              clear A420
              replace H := Option.bind_eq_some_iff.mp H
              obtain ⟨⟨t145, t146⟩, A430, H⟩ := H
              replace H : ((cond_Holds.f kj38 (⟨#[]⟩ : ByteArray) x6_4 a1).bind fun bt147 => (if t144 = 0 then (if t146 = 0 then (if bt147.2 = 0 then (if (t143 == x7_4) = true then (if (t145 == x7_4) = true then (some (bt147.1 == (!x7_4))) else (some false)) else (some false)) else (some false)) else (some false)) else (some false))) = some r := H
              have A43 := Aside0.mk A430
              clear A430
              replace H := Option.bind_eq_some_iff.mp H
              obtain ⟨⟨t147, t148⟩, A440, H⟩ := H
              replace H : (if t144 = 0 then (if t146 = 0 then (if t148 = 0 then (if (t143 == x7_4) = true then (if (t145 == x7_4) = true then (some (t147 == (!x7_4))) else (some false)) else (some false)) else (some false)) else (some false)) else (some false)) = some r := H
              have A44 := Aside0.mk A440
              clear A440
              by_cases c45 : t144 = 0
              · rw [if_pos c45] at H
                have c45b0 : (t144 == 0) = true := beq_iff_eq.mpr c45
                have c45b1 : (t144 != 0) = false := bne_eq_false_iff_eq.mpr c45
                clear c45
                by_cases c46 : t146 = 0
                · rw [if_pos c46] at H
                  have c46b0 : (t146 == 0) = true := beq_iff_eq.mpr c46
                  have c46b1 : (t146 != 0) = false := bne_eq_false_iff_eq.mpr c46
                  clear c46
                  by_cases c47 : t148 = 0
                  · rw [if_pos c47] at H
                    have c47b0 : (t148 == 0) = true := beq_iff_eq.mpr c47
                    have c47b1 : (t148 != 0) = false := bne_eq_false_iff_eq.mpr c47
                    clear c47
                    by_cases c48 : (t143 == x7_4) = true
                    · rw [if_pos c48] at H
                      have c48b0 : (t143 == x7_4) = true := c48
                      (try (have c48b1 : decide (t143 = x7_4) = true := by simpa using c48))
                      (try (have c48b2 : (t143 == x7_4) = true := by simpa using c48))
                      clear c48
                      by_cases c49 : (t145 == x7_4) = true
                      · rw [if_pos c49] at H
                        have c49b0 : (t145 == x7_4) = true := c49
                        (try (have c49b1 : decide (t145 = x7_4) = true := by simpa using c49))
                        (try (have c49b2 : (t145 == x7_4) = true := by simpa using c49))
                        clear c49
                        obtain rfl := Option.some.inj H
                        go_wp2_with (first | ((with_reducible refine gate_callee (f := 45) rfl ?_); refine goesL_ (some 72) rfl rfl Tryd.func45 (by kernel_rfl) rfl #[.string x5_4, .string (⟨#[]⟩ : ByteArray), .int .i64 a1] rfl (by (try simp only [List.map_toArray, List.map_cons, List.map_nil]); first | done | rfl | (simp only [List.length_drop, List.length_take]; rfl)) ?_; (with_reducible refine (cond_Holds.calls kj38 x5_4 (⟨#[]⟩ : ByteArray) a1 t143 t144 _ ?side1 A42.out).mono ?_); (case side1 => exact Laid.below HT.out (by repeat (first | (with_reducible first | exact HB.out | apply below_alloc | apply pw_below_drewN | apply below_drew1) | exact HB.out))); rintro e w50 ⟨rfl, hb⟩; refine ⟨_, rfl, ?_⟩; have n0_ := Aside0.mk (below_step (by repeat (first | (with_reducible first | exact HB.out | apply below_alloc | apply pw_below_drewN | apply below_drew1) | exact HB.out)) hb); clear HB; have HB := n0_; clear n0_; (try clear hb); (try clear hb2); (try clear hk); (try clear hi)) | ((with_reducible refine gate_callee (f := 45) rfl ?_); refine goesL_ (some 78) rfl rfl Tryd.func45 (by kernel_rfl) rfl #[.string x6_4, .string (⟨#[]⟩ : ByteArray), .int .i64 a1] rfl (by (try simp only [List.map_toArray, List.map_cons, List.map_nil]); first | done | rfl | (simp only [List.length_drop, List.length_take]; rfl)) ?_; (with_reducible refine (cond_Holds.calls kj38 x6_4 (⟨#[]⟩ : ByteArray) a1 t145 t146 _ ?side1 A43.out).mono ?_); (case side1 => exact Laid.below HT.out (by repeat (first | (with_reducible first | exact HB.out | apply below_alloc | apply pw_below_drewN | apply below_drew1) | exact HB.out))); rintro e w51 ⟨rfl, hb⟩; refine ⟨_, rfl, ?_⟩; have n0_ := Aside0.mk (below_step (by repeat (first | (with_reducible first | exact HB.out | apply below_alloc | apply pw_below_drewN | apply below_drew1) | exact HB.out)) hb); clear HB; have HB := n0_; clear n0_; (try clear hb); (try clear hb2); (try clear hk); (try clear hi)) | ((with_reducible refine gate_callee (f := 45) rfl ?_); refine goesL_ (some 84) rfl rfl Tryd.func45 (by kernel_rfl) rfl #[.string (⟨#[]⟩ : ByteArray), .string x6_4, .int .i64 a1] rfl (by (try simp only [List.map_toArray, List.map_cons, List.map_nil]); first | done | rfl | (simp only [List.length_drop, List.length_take]; rfl)) ?_; (with_reducible refine (cond_Holds.calls kj38 (⟨#[]⟩ : ByteArray) x6_4 a1 t147 t148 _ ?side1 A44.out).mono ?_); (case side1 => exact Laid.below HT.out (by repeat (first | (with_reducible first | exact HB.out | apply below_alloc | apply pw_below_drewN | apply below_drew1) | exact HB.out))); rintro e w52 ⟨rfl, hb⟩; refine ⟨_, rfl, ?_⟩; have n0_ := Aside0.mk (below_step (by repeat (first | (with_reducible first | exact HB.out | apply below_alloc | apply pw_below_drewN | apply below_drew1) | exact HB.out)) hb); clear HB; have HB := n0_; clear n0_; (try clear hb); (try clear hb2); (try clear hk); (try clear hi)))
                        go_ret
                        exact ⟨by first | rfl | (simp [errW_none, errW_some] <;> rfl) | (simp [*, errW_none, errW_some] <;> rfl), by repeat (first | (with_reducible first | exact HB.out | apply below_alloc | apply pw_below_drewN | apply below_drew1) | exact HB.out)⟩
                      · rw [if_neg c49] at H
                        have c49b0 : (t145 == x7_4) = false := by simpa using c49
                        (try (have c49b1 : decide (t145 = x7_4) = false := by simpa using c49))
                        (try (have c49b2 : (t145 == x7_4) = false := by simpa using c49))
                        (try (have c49b3 : ¬ (t145 = x7_4) := by simpa using c49))
                        clear c49
                        obtain rfl := Option.some.inj H
                        go_wp2_with (first | ((with_reducible refine gate_callee (f := 45) rfl ?_); refine goesL_ (some 72) rfl rfl Tryd.func45 (by kernel_rfl) rfl #[.string x5_4, .string (⟨#[]⟩ : ByteArray), .int .i64 a1] rfl (by (try simp only [List.map_toArray, List.map_cons, List.map_nil]); first | done | rfl | (simp only [List.length_drop, List.length_take]; rfl)) ?_; (with_reducible refine (cond_Holds.calls kj38 x5_4 (⟨#[]⟩ : ByteArray) a1 t143 t144 _ ?side1 A42.out).mono ?_); (case side1 => exact Laid.below HT.out (by repeat (first | (with_reducible first | exact HB.out | apply below_alloc | apply pw_below_drewN | apply below_drew1) | exact HB.out))); rintro e w53 ⟨rfl, hb⟩; refine ⟨_, rfl, ?_⟩; have n0_ := Aside0.mk (below_step (by repeat (first | (with_reducible first | exact HB.out | apply below_alloc | apply pw_below_drewN | apply below_drew1) | exact HB.out)) hb); clear HB; have HB := n0_; clear n0_; (try clear hb); (try clear hb2); (try clear hk); (try clear hi)) | ((with_reducible refine gate_callee (f := 45) rfl ?_); refine goesL_ (some 78) rfl rfl Tryd.func45 (by kernel_rfl) rfl #[.string x6_4, .string (⟨#[]⟩ : ByteArray), .int .i64 a1] rfl (by (try simp only [List.map_toArray, List.map_cons, List.map_nil]); first | done | rfl | (simp only [List.length_drop, List.length_take]; rfl)) ?_; (with_reducible refine (cond_Holds.calls kj38 x6_4 (⟨#[]⟩ : ByteArray) a1 t145 t146 _ ?side1 A43.out).mono ?_); (case side1 => exact Laid.below HT.out (by repeat (first | (with_reducible first | exact HB.out | apply below_alloc | apply pw_below_drewN | apply below_drew1) | exact HB.out))); rintro e w54 ⟨rfl, hb⟩; refine ⟨_, rfl, ?_⟩; have n0_ := Aside0.mk (below_step (by repeat (first | (with_reducible first | exact HB.out | apply below_alloc | apply pw_below_drewN | apply below_drew1) | exact HB.out)) hb); clear HB; have HB := n0_; clear n0_; (try clear hb); (try clear hb2); (try clear hk); (try clear hi)) | ((with_reducible refine gate_callee (f := 45) rfl ?_); refine goesL_ (some 84) rfl rfl Tryd.func45 (by kernel_rfl) rfl #[.string (⟨#[]⟩ : ByteArray), .string x6_4, .int .i64 a1] rfl (by (try simp only [List.map_toArray, List.map_cons, List.map_nil]); first | done | rfl | (simp only [List.length_drop, List.length_take]; rfl)) ?_; (with_reducible refine (cond_Holds.calls kj38 (⟨#[]⟩ : ByteArray) x6_4 a1 t147 t148 _ ?side1 A44.out).mono ?_); (case side1 => exact Laid.below HT.out (by repeat (first | (with_reducible first | exact HB.out | apply below_alloc | apply pw_below_drewN | apply below_drew1) | exact HB.out))); rintro e w55 ⟨rfl, hb⟩; refine ⟨_, rfl, ?_⟩; have n0_ := Aside0.mk (below_step (by repeat (first | (with_reducible first | exact HB.out | apply below_alloc | apply pw_below_drewN | apply below_drew1) | exact HB.out)) hb); clear HB; have HB := n0_; clear n0_; (try clear hb); (try clear hb2); (try clear hk); (try clear hi)))
                        go_ret
                        exact ⟨by first | rfl | (simp [errW_none, errW_some] <;> rfl) | (simp [*, errW_none, errW_some] <;> rfl), by repeat (first | (with_reducible first | exact HB.out | apply below_alloc | apply pw_below_drewN | apply below_drew1) | exact HB.out)⟩
                    · rw [if_neg c48] at H
                      have c48b0 : (t143 == x7_4) = false := by simpa using c48
                      (try (have c48b1 : decide (t143 = x7_4) = false := by simpa using c48))
                      (try (have c48b2 : (t143 == x7_4) = false := by simpa using c48))
                      (try (have c48b3 : ¬ (t143 = x7_4) := by simpa using c48))
                      clear c48
                      obtain rfl := Option.some.inj H
                      go_wp2_with (first | ((with_reducible refine gate_callee (f := 45) rfl ?_); refine goesL_ (some 72) rfl rfl Tryd.func45 (by kernel_rfl) rfl #[.string x5_4, .string (⟨#[]⟩ : ByteArray), .int .i64 a1] rfl (by (try simp only [List.map_toArray, List.map_cons, List.map_nil]); first | done | rfl | (simp only [List.length_drop, List.length_take]; rfl)) ?_; (with_reducible refine (cond_Holds.calls kj38 x5_4 (⟨#[]⟩ : ByteArray) a1 t143 t144 _ ?side1 A42.out).mono ?_); (case side1 => exact Laid.below HT.out (by repeat (first | (with_reducible first | exact HB.out | apply below_alloc | apply pw_below_drewN | apply below_drew1) | exact HB.out))); rintro e w56 ⟨rfl, hb⟩; refine ⟨_, rfl, ?_⟩; have n0_ := Aside0.mk (below_step (by repeat (first | (with_reducible first | exact HB.out | apply below_alloc | apply pw_below_drewN | apply below_drew1) | exact HB.out)) hb); clear HB; have HB := n0_; clear n0_; (try clear hb); (try clear hb2); (try clear hk); (try clear hi)) | ((with_reducible refine gate_callee (f := 45) rfl ?_); refine goesL_ (some 78) rfl rfl Tryd.func45 (by kernel_rfl) rfl #[.string x6_4, .string (⟨#[]⟩ : ByteArray), .int .i64 a1] rfl (by (try simp only [List.map_toArray, List.map_cons, List.map_nil]); first | done | rfl | (simp only [List.length_drop, List.length_take]; rfl)) ?_; (with_reducible refine (cond_Holds.calls kj38 x6_4 (⟨#[]⟩ : ByteArray) a1 t145 t146 _ ?side1 A43.out).mono ?_); (case side1 => exact Laid.below HT.out (by repeat (first | (with_reducible first | exact HB.out | apply below_alloc | apply pw_below_drewN | apply below_drew1) | exact HB.out))); rintro e w57 ⟨rfl, hb⟩; refine ⟨_, rfl, ?_⟩; have n0_ := Aside0.mk (below_step (by repeat (first | (with_reducible first | exact HB.out | apply below_alloc | apply pw_below_drewN | apply below_drew1) | exact HB.out)) hb); clear HB; have HB := n0_; clear n0_; (try clear hb); (try clear hb2); (try clear hk); (try clear hi)) | ((with_reducible refine gate_callee (f := 45) rfl ?_); refine goesL_ (some 84) rfl rfl Tryd.func45 (by kernel_rfl) rfl #[.string (⟨#[]⟩ : ByteArray), .string x6_4, .int .i64 a1] rfl (by (try simp only [List.map_toArray, List.map_cons, List.map_nil]); first | done | rfl | (simp only [List.length_drop, List.length_take]; rfl)) ?_; (with_reducible refine (cond_Holds.calls kj38 (⟨#[]⟩ : ByteArray) x6_4 a1 t147 t148 _ ?side1 A44.out).mono ?_); (case side1 => exact Laid.below HT.out (by repeat (first | (with_reducible first | exact HB.out | apply below_alloc | apply pw_below_drewN | apply below_drew1) | exact HB.out))); rintro e w58 ⟨rfl, hb⟩; refine ⟨_, rfl, ?_⟩; have n0_ := Aside0.mk (below_step (by repeat (first | (with_reducible first | exact HB.out | apply below_alloc | apply pw_below_drewN | apply below_drew1) | exact HB.out)) hb); clear HB; have HB := n0_; clear n0_; (try clear hb); (try clear hb2); (try clear hk); (try clear hi)))
                      go_ret
                      exact ⟨by first | rfl | (simp [errW_none, errW_some] <;> rfl) | (simp [*, errW_none, errW_some] <;> rfl), by repeat (first | (with_reducible first | exact HB.out | apply below_alloc | apply pw_below_drewN | apply below_drew1) | exact HB.out)⟩
                  · rw [if_neg c47] at H
                    have c47b0 : (t148 == 0) = false := beq_eq_false_iff_ne.mpr c47
                    have c47b1 : (t148 != 0) = true := bne_iff_ne.mpr c47
                    obtain rfl := Option.some.inj H
                    go_wp2_with (first | ((with_reducible refine gate_callee (f := 45) rfl ?_); refine goesL_ (some 72) rfl rfl Tryd.func45 (by kernel_rfl) rfl #[.string x5_4, .string (⟨#[]⟩ : ByteArray), .int .i64 a1] rfl (by (try simp only [List.map_toArray, List.map_cons, List.map_nil]); first | done | rfl | (simp only [List.length_drop, List.length_take]; rfl)) ?_; (with_reducible refine (cond_Holds.calls kj38 x5_4 (⟨#[]⟩ : ByteArray) a1 t143 t144 _ ?side1 A42.out).mono ?_); (case side1 => exact Laid.below HT.out (by repeat (first | (with_reducible first | exact HB.out | apply below_alloc | apply pw_below_drewN | apply below_drew1) | exact HB.out))); rintro e w59 ⟨rfl, hb⟩; refine ⟨_, rfl, ?_⟩; have n0_ := Aside0.mk (below_step (by repeat (first | (with_reducible first | exact HB.out | apply below_alloc | apply pw_below_drewN | apply below_drew1) | exact HB.out)) hb); clear HB; have HB := n0_; clear n0_; (try clear hb); (try clear hb2); (try clear hk); (try clear hi)) | ((with_reducible refine gate_callee (f := 45) rfl ?_); refine goesL_ (some 78) rfl rfl Tryd.func45 (by kernel_rfl) rfl #[.string x6_4, .string (⟨#[]⟩ : ByteArray), .int .i64 a1] rfl (by (try simp only [List.map_toArray, List.map_cons, List.map_nil]); first | done | rfl | (simp only [List.length_drop, List.length_take]; rfl)) ?_; (with_reducible refine (cond_Holds.calls kj38 x6_4 (⟨#[]⟩ : ByteArray) a1 t145 t146 _ ?side1 A43.out).mono ?_); (case side1 => exact Laid.below HT.out (by repeat (first | (with_reducible first | exact HB.out | apply below_alloc | apply pw_below_drewN | apply below_drew1) | exact HB.out))); rintro e w60 ⟨rfl, hb⟩; refine ⟨_, rfl, ?_⟩; have n0_ := Aside0.mk (below_step (by repeat (first | (with_reducible first | exact HB.out | apply below_alloc | apply pw_below_drewN | apply below_drew1) | exact HB.out)) hb); clear HB; have HB := n0_; clear n0_; (try clear hb); (try clear hb2); (try clear hk); (try clear hi)) | ((with_reducible refine gate_callee (f := 45) rfl ?_); refine goesL_ (some 84) rfl rfl Tryd.func45 (by kernel_rfl) rfl #[.string (⟨#[]⟩ : ByteArray), .string x6_4, .int .i64 a1] rfl (by (try simp only [List.map_toArray, List.map_cons, List.map_nil]); first | done | rfl | (simp only [List.length_drop, List.length_take]; rfl)) ?_; (with_reducible refine (cond_Holds.calls kj38 (⟨#[]⟩ : ByteArray) x6_4 a1 t147 t148 _ ?side1 A44.out).mono ?_); (case side1 => exact Laid.below HT.out (by repeat (first | (with_reducible first | exact HB.out | apply below_alloc | apply pw_below_drewN | apply below_drew1) | exact HB.out))); rintro e w61 ⟨rfl, hb⟩; refine ⟨_, rfl, ?_⟩; have n0_ := Aside0.mk (below_step (by repeat (first | (with_reducible first | exact HB.out | apply below_alloc | apply pw_below_drewN | apply below_drew1) | exact HB.out)) hb); clear HB; have HB := n0_; clear n0_; (try clear hb); (try clear hb2); (try clear hk); (try clear hi)))
                    go_ret
                    exact ⟨by first | rfl | (simp [errW_none, errW_some] <;> rfl) | (simp [*, errW_none, errW_some] <;> rfl), by repeat (first | (with_reducible first | exact HB.out | apply below_alloc | apply pw_below_drewN | apply below_drew1) | exact HB.out)⟩
                · rw [if_neg c46] at H
                  have c46b0 : (t146 == 0) = false := beq_eq_false_iff_ne.mpr c46
                  have c46b1 : (t146 != 0) = true := bne_iff_ne.mpr c46
                  obtain rfl := Option.some.inj H
                  go_wp2_with (first | ((with_reducible refine gate_callee (f := 45) rfl ?_); refine goesL_ (some 72) rfl rfl Tryd.func45 (by kernel_rfl) rfl #[.string x5_4, .string (⟨#[]⟩ : ByteArray), .int .i64 a1] rfl (by (try simp only [List.map_toArray, List.map_cons, List.map_nil]); first | done | rfl | (simp only [List.length_drop, List.length_take]; rfl)) ?_; (with_reducible refine (cond_Holds.calls kj38 x5_4 (⟨#[]⟩ : ByteArray) a1 t143 t144 _ ?side1 A42.out).mono ?_); (case side1 => exact Laid.below HT.out (by repeat (first | (with_reducible first | exact HB.out | apply below_alloc | apply pw_below_drewN | apply below_drew1) | exact HB.out))); rintro e w62 ⟨rfl, hb⟩; refine ⟨_, rfl, ?_⟩; have n0_ := Aside0.mk (below_step (by repeat (first | (with_reducible first | exact HB.out | apply below_alloc | apply pw_below_drewN | apply below_drew1) | exact HB.out)) hb); clear HB; have HB := n0_; clear n0_; (try clear hb); (try clear hb2); (try clear hk); (try clear hi)) | ((with_reducible refine gate_callee (f := 45) rfl ?_); refine goesL_ (some 78) rfl rfl Tryd.func45 (by kernel_rfl) rfl #[.string x6_4, .string (⟨#[]⟩ : ByteArray), .int .i64 a1] rfl (by (try simp only [List.map_toArray, List.map_cons, List.map_nil]); first | done | rfl | (simp only [List.length_drop, List.length_take]; rfl)) ?_; (with_reducible refine (cond_Holds.calls kj38 x6_4 (⟨#[]⟩ : ByteArray) a1 t145 t146 _ ?side1 A43.out).mono ?_); (case side1 => exact Laid.below HT.out (by repeat (first | (with_reducible first | exact HB.out | apply below_alloc | apply pw_below_drewN | apply below_drew1) | exact HB.out))); rintro e w63 ⟨rfl, hb⟩; refine ⟨_, rfl, ?_⟩; have n0_ := Aside0.mk (below_step (by repeat (first | (with_reducible first | exact HB.out | apply below_alloc | apply pw_below_drewN | apply below_drew1) | exact HB.out)) hb); clear HB; have HB := n0_; clear n0_; (try clear hb); (try clear hb2); (try clear hk); (try clear hi)) | ((with_reducible refine gate_callee (f := 45) rfl ?_); refine goesL_ (some 84) rfl rfl Tryd.func45 (by kernel_rfl) rfl #[.string (⟨#[]⟩ : ByteArray), .string x6_4, .int .i64 a1] rfl (by (try simp only [List.map_toArray, List.map_cons, List.map_nil]); first | done | rfl | (simp only [List.length_drop, List.length_take]; rfl)) ?_; (with_reducible refine (cond_Holds.calls kj38 (⟨#[]⟩ : ByteArray) x6_4 a1 t147 t148 _ ?side1 A44.out).mono ?_); (case side1 => exact Laid.below HT.out (by repeat (first | (with_reducible first | exact HB.out | apply below_alloc | apply pw_below_drewN | apply below_drew1) | exact HB.out))); rintro e w64 ⟨rfl, hb⟩; refine ⟨_, rfl, ?_⟩; have n0_ := Aside0.mk (below_step (by repeat (first | (with_reducible first | exact HB.out | apply below_alloc | apply pw_below_drewN | apply below_drew1) | exact HB.out)) hb); clear HB; have HB := n0_; clear n0_; (try clear hb); (try clear hb2); (try clear hk); (try clear hi)))
                  go_ret
                  exact ⟨by first | rfl | (simp [errW_none, errW_some] <;> rfl) | (simp [*, errW_none, errW_some] <;> rfl), by repeat (first | (with_reducible first | exact HB.out | apply below_alloc | apply pw_below_drewN | apply below_drew1) | exact HB.out)⟩
              · rw [if_neg c45] at H
                have c45b0 : (t144 == 0) = false := beq_eq_false_iff_ne.mpr c45
                have c45b1 : (t144 != 0) = true := bne_iff_ne.mpr c45
                obtain rfl := Option.some.inj H
                go_wp2_with (first | ((with_reducible refine gate_callee (f := 45) rfl ?_); refine goesL_ (some 72) rfl rfl Tryd.func45 (by kernel_rfl) rfl #[.string x5_4, .string (⟨#[]⟩ : ByteArray), .int .i64 a1] rfl (by (try simp only [List.map_toArray, List.map_cons, List.map_nil]); first | done | rfl | (simp only [List.length_drop, List.length_take]; rfl)) ?_; (with_reducible refine (cond_Holds.calls kj38 x5_4 (⟨#[]⟩ : ByteArray) a1 t143 t144 _ ?side1 A42.out).mono ?_); (case side1 => exact Laid.below HT.out (by repeat (first | (with_reducible first | exact HB.out | apply below_alloc | apply pw_below_drewN | apply below_drew1) | exact HB.out))); rintro e w65 ⟨rfl, hb⟩; refine ⟨_, rfl, ?_⟩; have n0_ := Aside0.mk (below_step (by repeat (first | (with_reducible first | exact HB.out | apply below_alloc | apply pw_below_drewN | apply below_drew1) | exact HB.out)) hb); clear HB; have HB := n0_; clear n0_; (try clear hb); (try clear hb2); (try clear hk); (try clear hi)) | ((with_reducible refine gate_callee (f := 45) rfl ?_); refine goesL_ (some 78) rfl rfl Tryd.func45 (by kernel_rfl) rfl #[.string x6_4, .string (⟨#[]⟩ : ByteArray), .int .i64 a1] rfl (by (try simp only [List.map_toArray, List.map_cons, List.map_nil]); first | done | rfl | (simp only [List.length_drop, List.length_take]; rfl)) ?_; (with_reducible refine (cond_Holds.calls kj38 x6_4 (⟨#[]⟩ : ByteArray) a1 t145 t146 _ ?side1 A43.out).mono ?_); (case side1 => exact Laid.below HT.out (by repeat (first | (with_reducible first | exact HB.out | apply below_alloc | apply pw_below_drewN | apply below_drew1) | exact HB.out))); rintro e w66 ⟨rfl, hb⟩; refine ⟨_, rfl, ?_⟩; have n0_ := Aside0.mk (below_step (by repeat (first | (with_reducible first | exact HB.out | apply below_alloc | apply pw_below_drewN | apply below_drew1) | exact HB.out)) hb); clear HB; have HB := n0_; clear n0_; (try clear hb); (try clear hb2); (try clear hk); (try clear hi)) | ((with_reducible refine gate_callee (f := 45) rfl ?_); refine goesL_ (some 84) rfl rfl Tryd.func45 (by kernel_rfl) rfl #[.string (⟨#[]⟩ : ByteArray), .string x6_4, .int .i64 a1] rfl (by (try simp only [List.map_toArray, List.map_cons, List.map_nil]); first | done | rfl | (simp only [List.length_drop, List.length_take]; rfl)) ?_; (with_reducible refine (cond_Holds.calls kj38 (⟨#[]⟩ : ByteArray) x6_4 a1 t147 t148 _ ?side1 A44.out).mono ?_); (case side1 => exact Laid.below HT.out (by repeat (first | (with_reducible first | exact HB.out | apply below_alloc | apply pw_below_drewN | apply below_drew1) | exact HB.out))); rintro e w67 ⟨rfl, hb⟩; refine ⟨_, rfl, ?_⟩; have n0_ := Aside0.mk (below_step (by repeat (first | (with_reducible first | exact HB.out | apply below_alloc | apply pw_below_drewN | apply below_drew1) | exact HB.out)) hb); clear HB; have HB := n0_; clear n0_; (try clear hb); (try clear hb2); (try clear hk); (try clear hi)))
                go_ret
                exact ⟨by first | rfl | (simp [errW_none, errW_some] <;> rfl) | (simp [*, errW_none, errW_some] <;> rfl), by repeat (first | (with_reducible first | exact HB.out | apply below_alloc | apply pw_below_drewN | apply below_drew1) | exact HB.out)⟩
  · replace c4 := Bool.eq_false_iff.mpr c4
    subst c4
    have H1 : (some false) = some r := by rw [if_neg (show ¬ (false = true) by decide)] at H; exact H
    clear H
    have H := H1
    clear H1
    obtain rfl := Option.some.inj H
    go_enter Tryd.func15, Tryd.ntmps15
    go_wp2_with (first | ((with_reducible refine gate_callee (f := 38) rfl ?_); refine goesL_ (some 17) rfl rfl Tryd.func38 (by kernel_rfl) rfl #[] rfl (by (try simp only [List.map_toArray, List.map_cons, List.map_nil]); first | done | rfl | (simp only [List.length_drop, List.length_take]; rfl)) ?_; (with_reducible refine (calepinlaw10_first.calls k  false _ ?side1 A3.out).mono ?_); (case side1 => exact Laid.below HT.out (by repeat (first | (with_reducible first | exact HB.out | apply below_alloc | apply pw_below_drewN | apply below_drew1) | exact HB.out))); rintro e w68 ⟨rfl, hb⟩; refine ⟨_, rfl, ?_⟩; have n0_ := Aside0.mk (below_step (by repeat (first | (with_reducible first | exact HB.out | apply below_alloc | apply pw_below_drewN | apply below_drew1) | exact HB.out)) hb); clear HB; have HB := n0_; clear n0_; (try clear hb); (try clear hb2); (try clear hk); (try clear hi)))
    go_ret
    exact ⟨by first | rfl | (simp [errW_none, errW_some] <;> rfl) | (simp [*, errW_none, errW_some] <;> rfl), by repeat (first | (with_reducible first | exact HB.out | apply below_alloc | apply pw_below_drewN | apply below_drew1) | exact HB.out)⟩

/-- THE ONE PURE STATEMENT of calepinlaw10_CondOrder: yours. -/
def calepinlaw10_CondOrder.Pure : Prop := ∀ (l0 : List Int) (a1 : Int), l0.length ≤ maxLen → l0.length * 8 ≤ 140737488351232 → (∀ x ∈ l0, (Lit.int .i64 x).wf = true) → (Lit.int .i64 a1).wf = true → ∃ k, calepinlaw10_CondOrder.f k l0 a1 = some true
theorem calepinlaw10_CondOrder.walk (P : calepinlaw10_CondOrder.Pure) (a0 : Option Addr) (len0 cap0 : Nat) (z0 : List Int) (a1 : Int) (w : World) (w0 : (a0 = none ∧ len0 = 0 ∧ cap0 = 0 ∧ z0 = []) ∨ ∃ x, a0 = some x ∧ len0 ≤ cap0 ∧ cap0 ≤ maxLen ∧ z0.length = cap0 ∧ (∀ i, i < z0.length → w.cell? (x.add i) = some (.int .i64 (z0.getD i 0))) ∧ ∀ n ∈ z0, (Lit.int .i64 n).wf = true) (y0 : len0 * 8 ≤ 140737488351232) (w1 : (Lit.int .i64 a1).wf = true) (hT : Laid w) :
    Calls Tryd.prog 15 #[.slice a0 len0 cap0, .int .i64 a1] w fun e w' => e = .returned (.bool true) ∧ Below w.heap.size w w' := by
  obtain ⟨l0, rfl, hr0, hm0, hw0, hc0⟩ := ReadsInt.ofRowC w0
  obtain ⟨k, h⟩ := P l0 a1 hm0 y0 hw0 w1
  refine (calepinlaw10_CondOrder.calls k _ _ l0 a1 true w (Kd.C_of_reads (d := (0 : Int)) (h1 := fun _ => rfl) hr0) hc0 hT h).mono ?_
  rintro e w' ⟨rfl, hd⟩
  exact ⟨rfl, hd⟩

end Go.Proofs.YtpedfpeokedelaaDoor.XCondOrder
