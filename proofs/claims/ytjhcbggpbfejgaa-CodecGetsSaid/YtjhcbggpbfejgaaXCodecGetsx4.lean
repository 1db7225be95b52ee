-- written by wip/xprint.py: the kit's print with functions walked by hand
import Derived.Test.YtjhcbggpbfejgaaXCodecGetsx0
namespace Go.Proofs.Ytjhcbggpbfejgaa.XCodecGets
open Go.RowKit Go.Proofs.YtjhcbggpbfejgaaW.PrintWords Go.Proofs.YtjhcbggpbfejgaaW.PrintLast Go.Proofs.YtjhcbggpbfejgaaW.PrintMore
attribute [local go_sem] max2_int min2_int max_two min_two max_three min_three max_four min_four   -- for this text's walks alone
set_option linter.unusedVariables false
set_option linter.unusedSimpArgs false

/-! ### calepinref15_number: function 48 -/
def calepinref15_number.l0 : Nat → List Int → Int → Int → Option (List Int)
 | 0, _, _, _ => none
 | k + 1, x0, x1, x5 => if x5 ≥ 0 then (if 0 ≤ (IntKind.u64.wrap (wrap64 (8 * x5))) then (if x0.length < 140737488355328 then (calepinref15_number.l0 k (x0 ++ [(shr .u64 (IntKind.u64.wrap (x1)) (IntKind.u64.wrap (wrap64 (8 * x5)))) % 256]) x1 (wrap64 (x5 - 1))) else (none)) else (none)) else (some x0)
def calepinref15_number.f (k : Nat) (l0 : List Int) (a1 : Int) : Option (List Int) := calepinref15_number.l0 k l0 a1 7
theorem calepinref15_number.mono_l : ∀ k, (∀ y0 y1 y2, LeO (calepinref15_number.l0 k y0 y1 y2) (calepinref15_number.l0 (k + 1) y0 y1 y2))
 | 0 => fun _ _ _ r h => by simp [calepinref15_number.l0] at h
 | k + 1 => by
  have ih0 := calepinref15_number.mono_l k
  ·intro y0 y1 y2
   unfold calepinref15_number.l0
   repeat' first
   | (with_reducible exact ih0 _ _ _)
   | (with_reducible exact LeO.refl _)
   | (with_reducible exact LeO.none _)
   | (with_reducible refine LeO.ite ?_ ?_)
   | (with_reducible refine LeO.bind ?_ (fun _ => ?_))
   | exact ih0 _ _ _
   | exact LeO.none _
   | refine LeO.ite ?_ ?_
   | refine LeO.bind ?_ (fun _ => ?_)
theorem calepinref15_number.mono : ∀ a0 a1 k, LeO (calepinref15_number.f k a0 a1) (calepinref15_number.f (k + 1) a0 a1) := by
 intro a0 a1 k
 have ih0 := calepinref15_number.mono_l k
 unfold calepinref15_number.f
 repeat' first
   | (with_reducible exact ih0 _ _ _)
   | (with_reducible exact LeO.refl _)
   | (with_reducible exact LeO.none _)
   | (with_reducible refine LeO.ite ?_ ?_)
   | (with_reducible refine LeO.bind ?_ (fun _ => ?_))
   | exact ih0 _ _ _
   | exact LeO.none _
   | refine LeO.ite ?_ ?_
   | refine LeO.bind ?_ (fun _ => ?_)
set_option maxHeartbeats 8000000 in
set_option maxRecDepth 100000 in
theorem calepinref15_number.calls (k : Nat) (P0_ : Nat → Prop) (u9000_ : Value) (l0 : List Int) (a1 : Int) (r : List Int) (w0 w : World) (hB : Below w0.heap.size w0 w) (ho0 : Kd.R (Kd.int .u8) 5 w w0.heap.size P0_ u9000_ l0) (h : calepinref15_number.f k l0 a1 = some r) :
  Calls Try.prog 48 #[u9000_, .int .i64 a1] w fun e w' => ∃ v0_ : Value, e = .returned (v0_) ∧ Kd.R (Kd.int .u8) 5 w' w0.heap.size (fun k_ => (P0_ k_ ∨ w.heap.size ≤ k_)) v0_ r ∧ Below w0.heap.size w0 w' ∧ Kept w w' (fun k_ => P0_ k_) := by
 have HO0 := Aside0.mk (show Kd.R (Kd.int .u8) 5 w w0.heap.size (fun k_ => (P0_ k_ ∨ w.heap.size ≤ k_)) u9000_ l0 from Kd.R_mono ho0 (fun k_ hk => (.inl hk)))
 have HK := Aside0.mk (Kept.refl w (fun k_ => P0_ k_))
 have HW0 := Aside0.mk hB.size
 have HB := Aside0.mk hB
 clear hB
 have H : (calepinref15_number.l0 k l0 a1 7) = some r := h
 clear h
 have H' := Aside0.mk H
 clear H
 go_enter Try.func48, Try.ntmps48
 go_wp2
 go_loopg [0, 5] k (fun kq v0 v5 w' => ∃ (x0_1 : List Int) (x5_1 : Int), v5 = .int .i64 x5_1 ∧ Aside0 (calepinref15_number.l0 kq x0_1 a1 x5_1 = some r) ∧ Aside0 (kq ≤ k) ∧ Aside0 (Kd.R (Kd.int .u8) 5 w' w0.heap.size (fun k_ => (P0_ k_ ∨ w.heap.size ≤ k_)) v0 x0_1) ∧ Aside0 (Kept w w' (fun k_ => P0_ k_)) ∧ Aside0 (Below w0.heap.size w0 w'))
 case atStart => exact ⟨(l0), (7), (by first | rfl | (simp; done) | (simp [*]; done)), H', ⟨Nat.le_refl _⟩, ⟨by (with_reducible repeat (first | apply Kd.R_alloc | apply Kd.R_drewN | apply Kd.R_drew)); exact HO0.out⟩, ⟨by repeat (first | (with_reducible first | exact HK.out | apply Kept.alloc | apply Kept.drewN | apply Kept.drew) | exact HK.out)⟩, ⟨by repeat (first | (with_reducible first | exact HB.out | apply below_alloc | apply pw_below_drewN | apply below_drew1) | exact HB.out)⟩⟩
 case round =>
  clear H'
  try clear p2
  obtain ⟨x0_1, x5_1, rfl, HA, HK1, HO_0, HK, HB⟩ := hrel
  cases gk with
  | zero => exact absurd HA.out (by simp [calepinref15_number.l0])
  | succ k1 =>
   have H := HA.out
   clear HA
   simp only [calepinref15_number.l0] at H
   by_cases c3 : x5_1 ≥ 0
   ·rw [if_pos c3] at H
    have c3b0 : decide (0 ≤ x5_1) = true := decide_eq_true c3
    clear c3
    obtain ⟨ji4, hji4⟩ : ∃ j_ : Int, (IntKind.u64.wrap (wrap64 (8 * x5_1))) = j_ := ⟨_, rfl⟩
    replace H : (if 0 ≤ (ji4) then (if x0_1.length < 140737488355328 then (calepinref15_number.l0 k1 (x0_1 ++ [(shr .u64 (IntKind.u64.wrap (a1)) (ji4)) % 256]) a1 (wrap64 (x5_1 - 1))) else (none)) else (none)) = some r := by first | (rw [hji4] at H; exact H) | (simp only [hji4] at H ⊢; exact H)
    by_cases c5 : 0 ≤ (ji4)
    ·rw [if_pos c5] at H
     have c5b0 := eq_true c5
     have c5b1 : decide (0 ≤ (ji4)) = true := decide_eq_true c5
     clear c5
     obtain ⟨ji6, hji6⟩ : ∃ j_ : Int, (shr .u64 (IntKind.u64.wrap (a1)) (ji4)) = j_ := ⟨_, rfl⟩
     replace H : (if x0_1.length < 140737488355328 then (calepinref15_number.l0 k1 (x0_1 ++ [(ji6) % 256]) a1 (wrap64 (x5_1 - 1))) else (none)) = some r := by first | (rw [hji6] at H; exact H) | (simp only [hji6] at H ⊢; exact H)
     have hji6_ : ((IntKind.u64.wrap (a1)) / 2 ^ min (ji4).toNat 64) = ji6 := hji6
     have hji6z : (ji4) ≤ 64 → ((IntKind.u64.wrap (a1)) / 2 ^ (ji4).toNat) = ji6 := shr_small hji6
     by_cases c7 : x0_1.length < 140737488355328
     ·rw [if_pos c7] at H
      have LMc7 := Aside0.mk c7
      clear c7
      obtain ⟨y252, hy252⟩ : ∃ y_ : List Int, y_ = (x0_1 ++ [(ji6) % 256]) := ⟨_, rfl⟩
      replace H : (calepinref15_number.l0 k1 y252 a1 (wrap64 (x5_1 - 1))) = some r := by first | (rw [hy252]; with_reducible exact H) | (have H2_ := (Option.bind_some _ _).symm.trans H; rw [hy252]; with_reducible exact H2_) | (have H2_ := (Option.bind_some _ _).symm.trans H; with_reducible exact H2_) | with_reducible exact H | (rw [hy252]; exact H) | exact H
      have Ny252 := Aside0.mk hy252
      clear hy252
      have H' := Aside0.mk H
      clear H
      go_wp2_with (first | ((with_reducible refine gate_builtin (b := .append) (xs := #[.tmp 10, .tmp 18]) rfl ?_); at_builtin; refine Kd.R_append (Kd.int .u8) (w0 := w0) w0.heap.size rfl (.tmp 10) (.tmp 18) 27 5 (.int .u8 0) 1 rfl Try.underlying27 info5 rfl (by decide) (by omega) u0 x0_1 ((ji6) % 256) [.int .u8 ((ji6) % 256)] (fun k_ => (P0_ k_ ∨ w.heap.size ≤ k_)) (fun _ => False) rfl rfl ?aP (fun _ hk => hk.elim) ?aF ?aO ?aB ?aS ?aL ?_; (case aP => exact rfl); (case aB => exact (by repeat (first | (with_reducible first | exact HB.out | apply below_alloc | apply pw_below_drewN | apply below_drew1) | exact HB.out))); (case aF => exact (fun k_ hk => (.inr (Nat.le_trans (by first | exact HK.out.1 | exact (show Kept w _ (fun k_ => P0_ k_) from by repeat (first | (with_reducible first | exact HK.out | apply Kept.alloc | apply Kept.drewN | apply Kept.drew) | exact HK.out)).1) hk)))); (case aO => exact (by (with_reducible repeat (first | apply Kd.R_alloc | apply Kd.R_drewN | apply Kd.R_drew)); exact HO_0.out)); (case aS => exact (below_size (by repeat (first | (with_reducible first | exact HB.out | apply below_alloc | apply pw_below_drewN | apply below_drew1) | exact HB.out)))); (case aL => have := LMc7.out; omega); intro v253 w8 ho hb hg hat; rw [← Ny252.out] at ho; have n0_ := Aside0.mk (hb); have n1_ := Aside0.mk (Kept.of_grown (S := (fun k_ => P0_ k_)) hg (by repeat (first | (with_reducible first | exact HK.out | apply Kept.alloc | apply Kept.drewN | apply Kept.drew) | exact HK.out)) (fun k_ e_ => (HO_0.out.1 k_ e_))); have n2_ := Aside0.mk (ho); clear HB; clear HK; clear HO_0; have HB := n0_; have HK := n1_; have HO254 := n2_; clear n0_ n1_ n2_; clear ho hb hg hat))
      go_roundg k1
      case measure => have := HK1.out; omega
      case rel => exact ⟨(y252), (wrap64 (x5_1 - 1)), (by first | rfl | (simp; done) | (simp [*]; done)), H', ⟨by have := HK1.out; omega⟩, ⟨by (with_reducible repeat (first | apply Kd.R_alloc | apply Kd.R_drewN | apply Kd.R_drew)); exact HO254.out⟩, ⟨by repeat (first | (with_reducible first | exact HK.out | apply Kept.alloc | apply Kept.drewN | apply Kept.drew) | exact HK.out)⟩, ⟨by repeat (first | (with_reducible first | exact HB.out | apply below_alloc | apply pw_below_drewN | apply below_drew1) | exact HB.out)⟩⟩
     ·rw [if_neg c7] at H
      exact absurd H (by simp)
    ·rw [if_neg c5] at H
     exact absurd H (by simp)
   ·rw [if_neg c3] at H
    have c3b0 : decide (0 ≤ x5_1) = false := decide_eq_false c3
    clear c3
    obtain rfl := Option.some.inj H
    go_wp2
    go_ret
    exact ⟨_, by first | rfl | (simp [errW_none, errW_some] <;> rfl) | (simp [*, errW_none, errW_some] <;> rfl), by (with_reducible repeat (first | apply Kd.R_alloc | apply Kd.R_drewN | apply Kd.R_drew)); exact HO_0.out, by repeat (first | (with_reducible first | exact HB.out | apply below_alloc | apply pw_below_drewN | apply below_drew1) | exact HB.out), by repeat (first | (with_reducible first | exact HK.out | apply Kept.alloc | apply Kept.drewN | apply Kept.drew) | exact HK.out)⟩

/-! ### calepinref15_text: function 49 -/
def calepinref15_text.f (k : Nat) (l0 : List Int) (a1 : ByteArray) : Option (List Int) := (calepinref15_number.f k l0 (a1.size : Int)).bind fun t255 => (if t255.length + a1.size < 140737488355328 then (some (t255 ++ bytesOf a1)) else (none))
theorem calepinref15_text.mono : ∀ a0 a1 k, LeO (calepinref15_text.f k a0 a1) (calepinref15_text.f (k + 1) a0 a1) := by
 intro a0 a1 k
 unfold calepinref15_text.f
 repeat' first
   | (with_reducible exact calepinref15_number.mono _ _ _)
   | (with_reducible exact LeO.refl _)
   | (with_reducible exact LeO.none _)
   | (with_reducible refine LeO.ite ?_ ?_)
   | (with_reducible refine LeO.bind ?_ (fun _ => ?_))
   | exact calepinref15_number.mono _ _ _
   | exact LeO.none _
   | refine LeO.ite ?_ ?_
   | refine LeO.bind ?_ (fun _ => ?_)
set_option maxHeartbeats 8000000 in
set_option maxRecDepth 100000 in
theorem calepinref15_text.calls (k : Nat) (P0_ : Nat → Prop) (u9000_ : Value) (l0 : List Int) (a1 : ByteArray) (r : List Int) (w0 w : World) (hB : Below w0.heap.size w0 w) (ho0 : Kd.R (Kd.int .u8) 5 w w0.heap.size P0_ u9000_ l0) (h : calepinref15_text.f k l0 a1 = some r) :
  Calls Try.prog 49 #[u9000_, .string a1] w fun e w' => ∃ v0_ : Value, e = .returned (v0_) ∧ Kd.R (Kd.int .u8) 5 w' w0.heap.size (fun k_ => (P0_ k_ ∨ w.heap.size ≤ k_)) v0_ r ∧ Below w0.heap.size w0 w' ∧ Kept w w' (fun k_ => P0_ k_) := by
 have HO0 := Aside0.mk (show Kd.R (Kd.int .u8) 5 w w0.heap.size (fun k_ => (P0_ k_ ∨ w.heap.size ≤ k_)) u9000_ l0 from Kd.R_mono ho0 (fun k_ hk => (.inl hk)))
 have HK := Aside0.mk (Kept.refl w (fun k_ => P0_ k_))
 have HW0 := Aside0.mk hB.size
 have HB := Aside0.mk hB
 clear hB
 have H : ((calepinref15_number.f k l0 (a1.size : Int)).bind fun t255 => (if t255.length + a1.size < 140737488355328 then (some (t255 ++ bytesOf a1)) else (none))) = some r := h
 clear h
 replace H := Option.bind_eq_some_iff.mp H
 obtain ⟨t255, A30, H⟩ := H
 replace H : (if t255.length + a1.size < 140737488355328 then (some (t255 ++ bytesOf a1)) else (none)) = some r := H
 have A3 := Aside0.mk A30
 clear A30
 by_cases c4 : t255.length + a1.size < 140737488355328
 ·rw [if_pos c4] at H
  have LMc4 := Aside0.mk c4
  clear c4
  obtain ⟨y258, hy258⟩ : ∃ y_ : List Int, y_ = (t255 ++ bytesOf a1) := ⟨_, rfl⟩
  replace H : (some y258) = some r := by first | (rw [hy258]; with_reducible exact H) | (have H2_ := (Option.bind_some _ _).symm.trans H; rw [hy258]; with_reducible exact H2_) | (have H2_ := (Option.bind_some _ _).symm.trans H; with_reducible exact H2_) | with_reducible exact H | (rw [hy258]; exact H) | exact H
  have Ny258 := Aside0.mk hy258
  clear hy258
  obtain rfl := Option.some.inj H
  obtain ⟨Ao5, co5, eo5⟩ := Kd.R_slice HO0.out
  subst eo5
  go_enter Try.func49, Try.ntmps49
  go_wp2_with (first | ((with_reducible refine gate_callee (f := 48) rfl ?_); refine goesL_ (some 8) rfl rfl Try.func48 (by kernel_rfl) rfl #[.slice Ao5 l0.length co5, .int .i64 (a1.size : Int)] rfl (by (try simp only [List.map_toArray, List.map_cons, List.map_nil]); first | done | rfl | (simp only [List.length_drop, List.length_take]; rfl)) ?_; (with_reducible refine (calepinref15_number.calls k (fun k_ => some k_ = (.slice Ao5 l0.length co5 : Value).ownBlock) (.slice Ao5 l0.length co5) l0 (a1.size : Int) t255 w0 _ ?side1 ?side2 A3.out).mono ?_); (case side1 => repeat (first | (with_reducible first | exact HB.out | apply below_alloc | apply pw_below_drewN | apply below_drew1) | exact HB.out)); (case side2 => exact Kd.R_tight rfl HO0.out); rintro e w6 ⟨v256, rfl, ho0, hb, hkp⟩; refine ⟨_, rfl, ?_⟩; have n0_ := Aside0.mk (Kd.R_mono (ok' := fun k_ => (P0_ k_ ∨ w.heap.size ≤ k_)) ho0 (fun k_ hk_ => Or.elim hk_ (fun hs_ => (HO0.out.1 k_ (hs_).symm)) (fun hn_ => (.inr (Nat.le_trans (by first | exact HK.out.1 | exact (show Kept w _ (fun k_ => P0_ k_) from by repeat (first | (with_reducible first | exact HK.out | apply Kept.alloc | apply Kept.drewN | apply Kept.drew) | exact HK.out)).1) hn_))))); have n1_ := Aside0.mk (Kept.then_ (S := (fun k_ => P0_ k_)) (by repeat (first | (with_reducible first | exact HK.out | apply Kept.alloc | apply Kept.drewN | apply Kept.drew) | exact HK.out)) hkp (fun k_ hs_ => (fun e_ => (HO0.out.1 k_ e_.symm)) hs_)); have n2_ := Aside0.mk (hb); clear HK; clear HB; clear HO0; have HO257 := n0_; have HK := n1_; have HB := n2_; clear n0_ n1_ n2_; (try clear hb); (try clear hkp); (try clear ho0)) | (at_builtin; refine Ca.append_str (w0 := w0) w0.heap.size rfl (.tmp 8) _ 27 9 5 rfl Try.underlying27 Try.underlying9 info5 v256 t255 a1 (fun k_ => (P0_ k_ ∨ w.heap.size ≤ k_)) rfl rfl ?aO ?aF ?aB ?aS ?aL ?_; (case aB => exact (by repeat (first | (with_reducible first | exact HB.out | apply below_alloc | apply pw_below_drewN | apply below_drew1) | exact HB.out))); (case aO => exact (by (with_reducible repeat (first | apply Kd.R_alloc | apply Kd.R_drewN | apply Kd.R_drew)); exact HO257.out)); (case aF => exact fun k_ hk_ => .inr (Nat.le_trans HK.out.1 hk_)); (case aS => exact (below_size (by repeat (first | (with_reducible first | exact HB.out | apply below_alloc | apply pw_below_drewN | apply below_drew1) | exact HB.out)))); (case aL => have := LMc4.out; omega); intro v259 w7 ho hb hg; have hat := True.intro; rw [← Ny258.out] at ho; change Kd.R (Kd.int .u8) 5 w7 w0.heap.size (fun k_ => (P0_ k_ ∨ w.heap.size ≤ k_)) v259 y258 at ho; have n0_ := Aside0.mk (hb); have n1_ := Aside0.mk (Kept.of_grown (S := (fun k_ => P0_ k_)) hg (by repeat (first | (with_reducible first | exact HK.out | apply Kept.alloc | apply Kept.drewN | apply Kept.drew) | exact HK.out)) (fun k_ e_ => (HO257.out.1 k_ e_))); have n2_ := Aside0.mk (ho); clear HB; clear HK; clear HO257; have HB := n0_; have HK := n1_; have HO260 := n2_; clear n0_ n1_ n2_; clear ho hb hg hat))
  go_ret
  exact ⟨_, by first | rfl | (simp [errW_none, errW_some] <;> rfl) | (simp [*, errW_none, errW_some] <;> rfl), by (with_reducible repeat (first | apply Kd.R_alloc | apply Kd.R_drewN | apply Kd.R_drew)); exact HO260.out, by repeat (first | (with_reducible first | exact HB.out | apply below_alloc | apply pw_below_drewN | apply below_drew1) | exact HB.out), by repeat (first | (with_reducible first | exact HK.out | apply Kept.alloc | apply Kept.drewN | apply Kept.drew) | exact HK.out)⟩
 ·rw [if_neg c4] at H
  exact absurd H (by simp)

/-! ### calepinref15_Reply: function 22 -/
def calepinref15_Reply.l0 : Nat → List Int → List (S93) → Int → Int → Int → Int → ByteArray → List (S93) → ByteArray → Option (List Int)
 | 0, _, _, _, _, _, _, _, _, _ => none
 | k + 1, x3, x23, x24, x25, x262000, x262001, x262002, x262003, x262004 => if x25 < x24 then (if 0 ≤ x25 then (if x25 < (x23.length : Int) then ((calepinref15_text.f k x3 ((rd_T93 x23 x25).f0)).bind fun t279 => ((calepinref15_number.f k t279 ((rd_T93 x23 x25).f1)).bind fun t282 => ((calepinref15_text.f k t282 ((rd_T93 x23 x25).f2)).bind fun t285 => (if (rd_T93 x23 x25).f3 = true then (if t285.length < 140737488355328 then (calepinref15_Reply.l0 k (t285 ++ [1]) x23 x24 (wrap64 (x25 + 1)) x262000 x262001 x262002 x262003 x262004) else (none)) else (if t285.length < 140737488355328 then (calepinref15_Reply.l0 k (t285 ++ [0]) x23 x24 (wrap64 (x25 + 1)) x262000 x262001 x262002 x262003 x262004) else (none)))))) else (none)) else (none)) else ((calepinref15_text.f k x3 x262004).bind fun t274 => (some t274))
def calepinref15_Reply.f (k : Nat) (a0_0 : Int) (a0_1 : Int) (a0_2 : ByteArray) (l0_3 : List (S93)) (a0_4 : ByteArray) : Option (List Int) := (calepinref15_number.f k ([] : List Int) a0_0).bind fun t262 => ((calepinref15_number.f k t262 a0_1).bind fun t265 => ((calepinref15_text.f k t265 a0_2).bind fun t268 => ((calepinref15_number.f k t268 (l0_3.length : Int)).bind fun t271 => (calepinref15_Reply.l0 k t271 l0_3 (l0_3.length : Int) 0 a0_0 a0_1 a0_2 l0_3 a0_4))))
theorem calepinref15_Reply.mono_l : ∀ k, (∀ y0 y1 y2 y3 y4 y5 y6 y7 y8, LeO (calepinref15_Reply.l0 k y0 y1 y2 y3 y4 y5 y6 y7 y8) (calepinref15_Reply.l0 (k + 1) y0 y1 y2 y3 y4 y5 y6 y7 y8))
 | 0 => fun _ _ _ _ _ _ _ _ _ r h => by simp [calepinref15_Reply.l0] at h
 | k + 1 => by
  have ih0 := calepinref15_Reply.mono_l k
  ·intro y0 y1 y2 y3 y4 y5 y6 y7 y8
   unfold calepinref15_Reply.l0
   repeat' first
   | (with_reducible exact ih0 _ _ _ _ _ _ _ _ _)
   | (with_reducible exact calepinref15_number.mono _ _ _)
   | (with_reducible exact calepinref15_text.mono _ _ _)
   | (with_reducible exact LeO.refl _)
   | (with_reducible exact LeO.none _)
   | (with_reducible refine LeO.ite ?_ ?_)
   | (with_reducible refine LeO.bind ?_ (fun _ => ?_))
   | exact ih0 _ _ _ _ _ _ _ _ _
   | exact calepinref15_number.mono _ _ _
   | exact calepinref15_text.mono _ _ _
   | exact LeO.none _
   | refine LeO.ite ?_ ?_
   | refine LeO.bind ?_ (fun _ => ?_)
theorem calepinref15_Reply.mono : ∀ a0 a1 a2 a3 a4 k, LeO (calepinref15_Reply.f k a0 a1 a2 a3 a4) (calepinref15_Reply.f (k + 1) a0 a1 a2 a3 a4) := by
 intro a0 a1 a2 a3 a4 k
 have ih0 := calepinref15_Reply.mono_l k
 unfold calepinref15_Reply.f
 repeat' first
   | (with_reducible exact ih0 _ _ _ _ _ _ _ _ _)
   | (with_reducible exact calepinref15_number.mono _ _ _)
   | (with_reducible exact calepinref15_text.mono _ _ _)
   | (with_reducible exact LeO.refl _)
   | (with_reducible exact LeO.none _)
   | (with_reducible refine LeO.ite ?_ ?_)
   | (with_reducible refine LeO.bind ?_ (fun _ => ?_))
   | exact ih0 _ _ _ _ _ _ _ _ _
   | exact calepinref15_number.mono _ _ _
   | exact calepinref15_text.mono _ _ _
   | exact LeO.none _
   | refine LeO.ite ?_ ?_
   | refine LeO.bind ?_ (fun _ => ?_)
set_option maxHeartbeats 8000000 in
set_option maxRecDepth 100000 in
theorem calepinref15_Reply.calls (k : Nat) (a0_0 : Int) (a0_1 : Int) (a0_2 : ByteArray) (A0_3 : Option Addr) (c0_3 : Nat) (l0_3 : List (S93)) (a0_4 : ByteArray) (r : List Int) (w : World) (hr0_3 : Kd.C k93 w A0_3 l0_3.length l0_3) (hc0_3 : l0_3.length ≤ c0_3) (h : calepinref15_Reply.f k a0_0 a0_1 a0_2 l0_3 a0_4 = some r) :
  Calls Try.prog 22 #[.agg #[.int .i64 a0_0, .int .i64 a0_1, .string a0_2, .slice A0_3 l0_3.length c0_3, .string a0_4]] w fun e w' => ∃ v0_ : Value, e = .returned (v0_) ∧ Kd.R (Kd.int .u8) 5 w' w.heap.size (fun _ => True) v0_ r ∧ Below w.heap.size w w' := by
 have hu45 := Try.underlying45
 have hu93 := Try.underlying93
 have HR0_3 := Aside0.mk hr0_3
 have HC0_3 := Aside0.mk hc0_3
 clear hr0_3 hc0_3
 have HB := Aside0.mk (Below.refl w.heap.size w)
 have H : ((calepinref15_number.f k ([] : List Int) a0_0).bind fun t262 => ((calepinref15_number.f k t262 a0_1).bind fun t265 => ((calepinref15_text.f k t265 a0_2).bind fun t268 => ((calepinref15_number.f k t268 (l0_3.length : Int)).bind fun t271 => (calepinref15_Reply.l0 k t271 l0_3 (l0_3.length : Int) 0 a0_0 a0_1 a0_2 l0_3 a0_4))))) = some r := h
 clear h
 replace H := Option.bind_eq_some_iff.mp H
 obtain ⟨t262, A20, H⟩ := H
 replace H : ((calepinref15_number.f k t262 a0_1).bind fun t265 => ((calepinref15_text.f k t265 a0_2).bind fun t268 => ((calepinref15_number.f k t268 (l0_3.length : Int)).bind fun t271 => (calepinref15_Reply.l0 k t271 l0_3 (l0_3.length : Int) 0 a0_0 a0_1 a0_2 l0_3 a0_4)))) = some r := H
 have A2 := Aside0.mk A20
 clear A20
 replace H := Option.bind_eq_some_iff.mp H
 obtain ⟨t265, A30, H⟩ := H
 replace H : ((calepinref15_text.f k t265 a0_2).bind fun t268 => ((calepinref15_number.f k t268 (l0_3.length : Int)).bind fun t271 => (calepinref15_Reply.l0 k t271 l0_3 (l0_3.length : Int) 0 a0_0 a0_1 a0_2 l0_3 a0_4))) = some r := H
 have A3 := Aside0.mk A30
 clear A30
 replace H := Option.bind_eq_some_iff.mp H
 obtain ⟨t268, A40, H⟩ := H
 replace H : ((calepinref15_number.f k t268 (l0_3.length : Int)).bind fun t271 => (calepinref15_Reply.l0 k t271 l0_3 (l0_3.length : Int) 0 a0_0 a0_1 a0_2 l0_3 a0_4)) = some r := H
 have A4 := Aside0.mk A40
 clear A40
 replace H := Option.bind_eq_some_iff.mp H
 obtain ⟨t271, A50, H⟩ := H
 replace H : (calepinref15_Reply.l0 k t271 l0_3 (l0_3.length : Int) 0 a0_0 a0_1 a0_2 l0_3 a0_4) = some r := H
 have A5 := Aside0.mk A50
 clear A50
 have H' := Aside0.mk H
 clear H
 go_enter Try.func22, Try.ntmps22
 go_wp2_with (first | ((with_reducible refine gate_dst (N := 1) rfl ?_); refine box_event ?hg (N := 1) ?hd (cs := #[.int .i64 a0_0, .int .i64 a0_1, .string a0_2, .slice A0_3 l0_3.length c0_3, .string a0_4]) (t := 45) ?hr ?_; (case hd => rfl); (case hg => rfl); (case hr => first | (go_simp; done) | (go_simp; rfl)); intro gb261 hg w6 hbox hb; have n0_ := Aside0.mk (below_step (by repeat (first | (with_reducible first | exact HB.out | apply below_alloc | apply pw_below_drewN | apply below_drew1) | exact HB.out)) hb); have n1_ := Aside0.mk (hbox); have n2_ := Aside0.mk ((by rw [hg]; exact (below_size (by repeat (first | (with_reducible first | exact HB.out | apply below_alloc | apply pw_below_drewN | apply below_drew1) | exact HB.out))) : w.heap.size ≤ gb261)); have n3_ := Aside0.mk ((by rw [hg]; exact (below_size (by repeat (first | (with_reducible first | exact HB.out | apply below_alloc | apply pw_below_drewN | apply below_drew1) | exact HB.out))) : w.heap.size ≤ gb261)); clear HB; have HB := n0_; have BK261 := n1_; have GW261 := n2_; have GE261 := n3_; clear n0_ n1_ n2_ n3_; clear hb hbox hg; have hcz7_0 : w6.cell? ⟨gb261, 0, none⟩ = some (.int .i64 a0_0) := (blk_cell BK261.out 0).trans rfl; have hcz7_1 : w6.cell? ⟨gb261, 1, none⟩ = some (.int .i64 a0_1) := (blk_cell BK261.out 1).trans rfl; have hcz7_2 : w6.cell? ⟨gb261, 2, none⟩ = some (.string a0_2) := (blk_cell BK261.out 2).trans rfl; have hcz7_3 : w6.cell? ⟨gb261, 3, none⟩ = some (.slice A0_3 l0_3.length c0_3) := (blk_cell BK261.out 3).trans rfl; have hcz7_4 : w6.cell? ⟨gb261, 4, none⟩ = some (.string a0_4) := (blk_cell BK261.out 4).trans rfl; have hfz7_0 := blk_frozen BK261.out 0; have hfz7_1 := blk_frozen BK261.out 1; have hfz7_2 := blk_frozen BK261.out 2; have hfz7_3 := blk_frozen BK261.out 3; have hfz7_4 := blk_frozen BK261.out 4) | ((with_reducible refine gate_callee (f := 48) rfl ?_); refine goesL_ (some 8) rfl rfl Try.func48 (by kernel_rfl) rfl #[.slice none 0 0, .int .i64 a0_0] rfl (by (try simp only [List.map_toArray, List.map_cons, List.map_nil]); first | done | rfl | (simp only [List.length_drop, List.length_take]; rfl)) ?_; (refine (calepinref15_number.calls k (fun k_ => some k_ = (.slice none 0 0 : Value).ownBlock) (.slice none 0 0) ([] : List Int) a0_0 t262 w _ ?side1 ?side2 A2.out).mono ?_); (case side1 => repeat (first | (with_reducible first | exact HB.out | apply below_alloc | apply pw_below_drewN | apply below_drew1 | refine below_set ?_ GE261.out) | exact HB.out)); (case side2 => exact Kd.R_nil _ _ _ _ _); rintro e w8 ⟨v263, rfl, ho0, hb, hkp⟩; refine ⟨_, rfl, ?_⟩; have n0_ := Aside0.mk (blk_kept (by (with_reducible repeat (first | refine blk_drewN ?_ _ | refine blk_drew ?_ | refine blk_alloc ?_ _)); exact BK261.out) hkp (fun hs_ => (fun e_ => by simp [Value.ownBlock] at e_) hs_)); have n1_ := Aside0.mk (Kd.R_mono (ok' := fun k_ => True) ho0 (fun k_ hk_ => trivial)); have n2_ := Aside0.mk (hb); clear BK261; clear HB; have BK261 := n0_; have HO264 := n1_; have HB := n2_; clear n0_ n1_ n2_; (try clear hb); (try clear hkp); (try clear ho0); have hcz9_0 : w8.cell? ⟨gb261, 0, none⟩ = some (.int .i64 a0_0) := (blk_cell BK261.out 0).trans rfl; have hcz9_1 : w8.cell? ⟨gb261, 1, none⟩ = some (.int .i64 a0_1) := (blk_cell BK261.out 1).trans rfl; have hcz9_2 : w8.cell? ⟨gb261, 2, none⟩ = some (.string a0_2) := (blk_cell BK261.out 2).trans rfl; have hcz9_3 : w8.cell? ⟨gb261, 3, none⟩ = some (.slice A0_3 l0_3.length c0_3) := (blk_cell BK261.out 3).trans rfl; have hcz9_4 : w8.cell? ⟨gb261, 4, none⟩ = some (.string a0_4) := (blk_cell BK261.out 4).trans rfl; have hfz9_0 := blk_frozen BK261.out 0; have hfz9_1 := blk_frozen BK261.out 1; have hfz9_2 := blk_frozen BK261.out 2; have hfz9_3 := blk_frozen BK261.out 3; have hfz9_4 := blk_frozen BK261.out 4; obtain ⟨Ao10, co10, eo10⟩ := Kd.R_slice HO264.out; subst eo10) | ((with_reducible refine gate_callee (f := 48) rfl ?_); refine goesL_ (some 12) rfl rfl Try.func48 (by kernel_rfl) rfl #[.slice Ao10 t262.length co10, .int .i64 a0_1] rfl (by (try simp only [List.map_toArray, List.map_cons, List.map_nil]); first | done | rfl | (simp only [List.length_drop, List.length_take]; rfl)) ?_; (with_reducible refine (calepinref15_number.calls k (fun k_ => some k_ = (.slice Ao10 t262.length co10 : Value).ownBlock) (.slice Ao10 t262.length co10) t262 a0_1 t265 w _ ?side1 ?side2 A3.out).mono ?_); (case side1 => repeat (first | (with_reducible first | exact HB.out | apply below_alloc | apply pw_below_drewN | apply below_drew1 | refine below_set ?_ GE261.out) | exact HB.out)); (case side2 => exact Kd.R_tight rfl HO264.out); rintro e w11 ⟨v266, rfl, ho0, hb, hkp⟩; refine ⟨_, rfl, ?_⟩; have n0_ := Aside0.mk (blk_kept (by (with_reducible repeat (first | refine blk_drewN ?_ _ | refine blk_drew ?_ | refine blk_alloc ?_ _)); exact BK261.out) hkp (fun hs_ => (fun e_ => (Kd.R_ne HO264.out BK261.out (by decide)) e_) hs_)); have n1_ := Aside0.mk (Kd.R_mono (ok' := fun k_ => True) ho0 (fun k_ hk_ => trivial)); have n2_ := Aside0.mk (hb); clear BK261; clear HB; clear HO264; have BK261 := n0_; have HO267 := n1_; have HB := n2_; clear n0_ n1_ n2_; (try clear hb); (try clear hkp); (try clear ho0); have hcz12_0 : w11.cell? ⟨gb261, 0, none⟩ = some (.int .i64 a0_0) := (blk_cell BK261.out 0).trans rfl; have hcz12_1 : w11.cell? ⟨gb261, 1, none⟩ = some (.int .i64 a0_1) := (blk_cell BK261.out 1).trans rfl; have hcz12_2 : w11.cell? ⟨gb261, 2, none⟩ = some (.string a0_2) := (blk_cell BK261.out 2).trans rfl; have hcz12_3 : w11.cell? ⟨gb261, 3, none⟩ = some (.slice A0_3 l0_3.length c0_3) := (blk_cell BK261.out 3).trans rfl; have hcz12_4 : w11.cell? ⟨gb261, 4, none⟩ = some (.string a0_4) := (blk_cell BK261.out 4).trans rfl; have hfz12_0 := blk_frozen BK261.out 0; have hfz12_1 := blk_frozen BK261.out 1; have hfz12_2 := blk_frozen BK261.out 2; have hfz12_3 := blk_frozen BK261.out 3; have hfz12_4 := blk_frozen BK261.out 4; obtain ⟨Ao13, co13, eo13⟩ := Kd.R_slice HO267.out; subst eo13) | ((with_reducible refine gate_callee (f := 49) rfl ?_); refine goesL_ (some 16) rfl rfl Try.func49 (by kernel_rfl) rfl #[.slice Ao13 t265.length co13, .string a0_2] rfl (by (try simp only [List.map_toArray, List.map_cons, List.map_nil]); first | done | rfl | (simp only [List.length_drop, List.length_take]; rfl)) ?_; (with_reducible refine (calepinref15_text.calls k (fun k_ => some k_ = (.slice Ao13 t265.length co13 : Value).ownBlock) (.slice Ao13 t265.length co13) t265 a0_2 t268 w _ ?side1 ?side2 A4.out).mono ?_); (case side1 => repeat (first | (with_reducible first | exact HB.out | apply below_alloc | apply pw_below_drewN | apply below_drew1 | refine below_set ?_ GE261.out) | exact HB.out)); (case side2 => exact Kd.R_tight rfl HO267.out); rintro e w14 ⟨v269, rfl, ho0, hb, hkp⟩; refine ⟨_, rfl, ?_⟩; have n0_ := Aside0.mk (blk_kept (by (with_reducible repeat (first | refine blk_drewN ?_ _ | refine blk_drew ?_ | refine blk_alloc ?_ _)); exact BK261.out) hkp (fun hs_ => (fun e_ => (Kd.R_ne HO267.out BK261.out (by decide)) e_) hs_)); have n1_ := Aside0.mk (Kd.R_mono (ok' := fun k_ => True) ho0 (fun k_ hk_ => trivial)); have n2_ := Aside0.mk (hb); clear BK261; clear HB; clear HO267; have BK261 := n0_; have HO270 := n1_; have HB := n2_; clear n0_ n1_ n2_; (try clear hb); (try clear hkp); (try clear ho0); have hcz15_0 : w14.cell? ⟨gb261, 0, none⟩ = some (.int .i64 a0_0) := (blk_cell BK261.out 0).trans rfl; have hcz15_1 : w14.cell? ⟨gb261, 1, none⟩ = some (.int .i64 a0_1) := (blk_cell BK261.out 1).trans rfl; have hcz15_2 : w14.cell? ⟨gb261, 2, none⟩ = some (.string a0_2) := (blk_cell BK261.out 2).trans rfl; have hcz15_3 : w14.cell? ⟨gb261, 3, none⟩ = some (.slice A0_3 l0_3.length c0_3) := (blk_cell BK261.out 3).trans rfl; have hcz15_4 : w14.cell? ⟨gb261, 4, none⟩ = some (.string a0_4) := (blk_cell BK261.out 4).trans rfl; have hfz15_0 := blk_frozen BK261.out 0; have hfz15_1 := blk_frozen BK261.out 1; have hfz15_2 := blk_frozen BK261.out 2; have hfz15_3 := blk_frozen BK261.out 3; have hfz15_4 := blk_frozen BK261.out 4; obtain ⟨Ao16, co16, eo16⟩ := Kd.R_slice HO270.out; subst eo16) | ((with_reducible refine gate_callee (f := 48) rfl ?_); refine goesL_ (some 21) rfl rfl Try.func48 (by kernel_rfl) rfl #[.slice Ao16 t268.length co16, .int .i64 (l0_3.length : Int)] rfl (by (try simp only [List.map_toArray, List.map_cons, List.map_nil]); first | done | rfl | (simp only [List.length_drop, List.length_take]; rfl)) ?_; (with_reducible refine (calepinref15_number.calls k (fun k_ => some k_ = (.slice Ao16 t268.length co16 : Value).ownBlock) (.slice Ao16 t268.length co16) t268 (l0_3.length : Int) t271 w _ ?side1 ?side2 A5.out).mono ?_); (case side1 => repeat (first | (with_reducible first | exact HB.out | apply below_alloc | apply pw_below_drewN | apply below_drew1 | refine below_set ?_ GE261.out) | exact HB.out)); (case side2 => exact Kd.R_tight rfl HO270.out); rintro e w17 ⟨v272, rfl, ho0, hb, hkp⟩; refine ⟨_, rfl, ?_⟩; have n0_ := Aside0.mk (blk_kept (by (with_reducible repeat (first | refine blk_drewN ?_ _ | refine blk_drew ?_ | refine blk_alloc ?_ _)); exact BK261.out) hkp (fun hs_ => (fun e_ => (Kd.R_ne HO270.out BK261.out (by decide)) e_) hs_)); have n1_ := Aside0.mk (Kd.R_mono (ok' := fun k_ => True) ho0 (fun k_ hk_ => trivial)); have n2_ := Aside0.mk (hb); clear BK261; clear HB; clear HO270; have BK261 := n0_; have HO273 := n1_; have HB := n2_; clear n0_ n1_ n2_; (try clear hb); (try clear hkp); (try clear ho0); have hcz18_0 : w17.cell? ⟨gb261, 0, none⟩ = some (.int .i64 a0_0) := (blk_cell BK261.out 0).trans rfl; have hcz18_1 : w17.cell? ⟨gb261, 1, none⟩ = some (.int .i64 a0_1) := (blk_cell BK261.out 1).trans rfl; have hcz18_2 : w17.cell? ⟨gb261, 2, none⟩ = some (.string a0_2) := (blk_cell BK261.out 2).trans rfl; have hcz18_3 : w17.cell? ⟨gb261, 3, none⟩ = some (.slice A0_3 l0_3.length c0_3) := (blk_cell BK261.out 3).trans rfl; have hcz18_4 : w17.cell? ⟨gb261, 4, none⟩ = some (.string a0_4) := (blk_cell BK261.out 4).trans rfl; have hfz18_0 := blk_frozen BK261.out 0; have hfz18_1 := blk_frozen BK261.out 1; have hfz18_2 := blk_frozen BK261.out 2; have hfz18_3 := blk_frozen BK261.out 3; have hfz18_4 := blk_frozen BK261.out 4))
 go_loopg [3, 25] k (fun kq v3 v25 w' => ∃ (x3_1 : List Int) (x25_1 : Int), v25 = .int .i64 x25_1 ∧ Aside0 (calepinref15_Reply.l0 kq x3_1 l0_3 (l0_3.length : Int) x25_1 a0_0 a0_1 a0_2 l0_3 a0_4 = some r) ∧ Aside0 (kq ≤ k) ∧ Aside0 (Kd.R (Kd.int .u8) 5 w' w.heap.size (fun _ => True) v3 x3_1) ∧ Aside0 (w'.heap[gb261]? = some (.cells #[.int .i64 a0_0, .int .i64 a0_1, .string a0_2, (.slice A0_3 l0_3.length c0_3), .string a0_4] 45 (0, 0))) ∧ Aside0 (Below w.heap.size w w'))
 case atStart => exact ⟨(t271), (0), (by first | rfl | (simp; done) | (simp [*]; done)), H', ⟨Nat.le_refl _⟩, ⟨by (with_reducible repeat (first | apply Kd.R_alloc | apply Kd.R_drewN | apply Kd.R_drew)); exact HO273.out⟩, ⟨by (with_reducible repeat (first | refine blk_drewN ?_ _ | refine blk_drew ?_ | refine blk_alloc ?_ _)); exact BK261.out⟩, ⟨by repeat (first | (with_reducible first | exact HB.out | apply below_alloc | apply pw_below_drewN | apply below_drew1 | refine below_set ?_ GE261.out) | exact HB.out)⟩⟩
 case round =>
  clear H'
  try clear c2
  try clear p2
  try clear c4
  try clear hcz12_0
  try clear hcz12_1
  try clear hcz12_2
  try clear hcz12_3
  try clear hcz12_4
  try clear hcz15_0
  try clear hcz15_1
  try clear hcz15_2
  try clear hcz15_3
  try clear hcz15_4
  try clear hcz18_0
  try clear hcz18_1
  try clear hcz18_2
  try clear hcz18_3
  try clear hcz18_4
  try clear hcz7_0
  try clear hcz7_1
  try clear hcz7_2
  try clear hcz7_3
  try clear hcz7_4
  try clear hcz9_0
  try clear hcz9_1
  try clear hcz9_2
  try clear hcz9_3
  try clear hcz9_4
  try clear hfz12_0
  try clear hfz12_1
  try clear hfz12_2
  try clear hfz12_3
  try clear hfz12_4
  try clear hfz15_0
  try clear hfz15_1
  try clear hfz15_2
  try clear hfz15_3
  try clear hfz15_4
  try clear hfz18_0
  try clear hfz18_1
  try clear hfz18_2
  try clear hfz18_3
  try clear hfz18_4
  try clear hfz7_0
  try clear hfz7_1
  try clear hfz7_2
  try clear hfz7_3
  try clear hfz7_4
  try clear hfz9_0
  try clear hfz9_1
  try clear hfz9_2
  try clear hfz9_3
  try clear hfz9_4
  obtain ⟨x3_1, x25_1, rfl, HA, HK1, HO_3, BK261, HB⟩ := hrel
  cases gk with
  | zero => exact absurd HA.out (by simp [calepinref15_Reply.l0])
  | succ k1 =>
   have H := HA.out
   clear HA
   simp only [calepinref15_Reply.l0] at H
   by_cases c19 : x25_1 < (l0_3.length : Int)
   ·rw [if_pos c19] at H
    have c19b0 : decide (x25_1 < (l0_3.length : Int)) = true := decide_eq_true c19
    clear c19
    by_cases c20 : 0 ≤ x25_1
    ·rw [if_pos c20] at H
     have c20b0 : decide (0 ≤ x25_1) = true := decide_eq_true c20
     clear c20
     by_cases c21 : x25_1 < (l0_3.length : Int)
     ·rw [if_pos c21] at H
      have c21b0 : decide (x25_1 < (l0_3.length : Int)) = true := decide_eq_true c21
      clear c21
      replace H := Option.bind_eq_some_iff.mp H
      obtain ⟨t279, A220, H⟩ := H
      replace H : ((calepinref15_number.f k1 t279 ((rd_T93 l0_3 x25_1).f1)).bind fun t282 => ((calepinref15_text.f k1 t282 ((rd_T93 l0_3 x25_1).f2)).bind fun t285 => (if (rd_T93 l0_3 x25_1).f3 = true then (if t285.length < 140737488355328 then (calepinref15_Reply.l0 k1 (t285 ++ [1]) l0_3 (l0_3.length : Int) (wrap64 (x25_1 + 1)) a0_0 a0_1 a0_2 l0_3 a0_4) else (none)) else (if t285.length < 140737488355328 then (calepinref15_Reply.l0 k1 (t285 ++ [0]) l0_3 (l0_3.length : Int) (wrap64 (x25_1 + 1)) a0_0 a0_1 a0_2 l0_3 a0_4) else (none))))) = some r := H
      have A22 := Aside0.mk A220
      clear A220
      replace H := Option.bind_eq_some_iff.mp H
      obtain ⟨t282, A230, H⟩ := H
      replace H : ((calepinref15_text.f k1 t282 ((rd_T93 l0_3 x25_1).f2)).bind fun t285 => (if (rd_T93 l0_3 x25_1).f3 = true then (if t285.length < 140737488355328 then (calepinref15_Reply.l0 k1 (t285 ++ [1]) l0_3 (l0_3.length : Int) (wrap64 (x25_1 + 1)) a0_0 a0_1 a0_2 l0_3 a0_4) else (none)) else (if t285.length < 140737488355328 then (calepinref15_Reply.l0 k1 (t285 ++ [0]) l0_3 (l0_3.length : Int) (wrap64 (x25_1 + 1)) a0_0 a0_1 a0_2 l0_3 a0_4) else (none)))) = some r := H
      have A23 := Aside0.mk A230
      clear A230
      replace H := Option.bind_eq_some_iff.mp H
      obtain ⟨t285, A240, H⟩ := H
      replace H : (if (rd_T93 l0_3 x25_1).f3 = true then (if t285.length < 140737488355328 then (calepinref15_Reply.l0 k1 (t285 ++ [1]) l0_3 (l0_3.length : Int) (wrap64 (x25_1 + 1)) a0_0 a0_1 a0_2 l0_3 a0_4) else (none)) else (if t285.length < 140737488355328 then (calepinref15_Reply.l0 k1 (t285 ++ [0]) l0_3 (l0_3.length : Int) (wrap64 (x25_1 + 1)) a0_0 a0_1 a0_2 l0_3 a0_4) else (none))) = some r := H
      have A24 := Aside0.mk A240
      clear A240
      obtain ⟨bq25, hbq25⟩ : ∃ b_ : Bool, b_ = ((rd_T93 l0_3 x25_1).f3) := ⟨_, rfl⟩
      replace H : (if bq25 = true then (if t285.length < 140737488355328 then (calepinref15_Reply.l0 k1 (t285 ++ [1]) l0_3 (l0_3.length : Int) (wrap64 (x25_1 + 1)) a0_0 a0_1 a0_2 l0_3 a0_4) else (none)) else (if t285.length < 140737488355328 then (calepinref15_Reply.l0 k1 (t285 ++ [0]) l0_3 (l0_3.length : Int) (wrap64 (x25_1 + 1)) a0_0 a0_1 a0_2 l0_3 a0_4) else (none))) = some r := by rw [← hbq25] at H; exact H
      have Nbq25 := Aside0.mk hbq25
      clear hbq25
      by_cases c26 : bq25 = true
      ·subst c26
       have H1 : (if t285.length < 140737488355328 then (calepinref15_Reply.l0 k1 (t285 ++ [1]) l0_3 (l0_3.length : Int) (wrap64 (x25_1 + 1)) a0_0 a0_1 a0_2 l0_3 a0_4) else (none)) = some r := by rw [if_pos rfl] at H; exact H
       clear H
       have H := H1
       clear H1
       by_cases c27 : t285.length < 140737488355328
       ·rw [if_pos c27] at H
        have LMc27 := Aside0.mk c27
        clear c27
        obtain ⟨y288, hy288⟩ : ∃ y_ : List Int, y_ = (t285 ++ [1]) := ⟨_, rfl⟩
        replace H : (calepinref15_Reply.l0 k1 y288 l0_3 (l0_3.length : Int) (wrap64 (x25_1 + 1)) a0_0 a0_1 a0_2 l0_3 a0_4) = some r := by first | (rw [hy288]; with_reducible exact H) | (have H2_ := (Option.bind_some _ _).symm.trans H; rw [hy288]; with_reducible exact H2_) | (have H2_ := (Option.bind_some _ _).symm.trans H; with_reducible exact H2_) | with_reducible exact H | (rw [hy288]; exact H) | exact H
        have Ny288 := Aside0.mk hy288
        clear hy288
        have H' := Aside0.mk H
        clear H
        have p277 : 0 ≤ (x25_1 : Int) := of_decide_eq_true (by first | (with_reducible assumption) | assumption)
        have q277 : x25_1 < (l0_3.length : Int) := of_decide_eq_true (by first | (with_reducible assumption) | assumption)
        obtain ⟨ad277, e277, hx277_0, hx277_1, hx277_2, hx277_3⟩ := at_T93 HR0_3.out x25_1 p277 q277
        (try rw [← Nbq25.out] at hx277_3)
        cases e277
        replace hx277_0 := (HB.out.cell (World.block_lt_of_cell? w _ hx277_0)).trans hx277_0
        replace hx277_1 := (HB.out.cell (World.block_lt_of_cell? w _ hx277_1)).trans hx277_1
        replace hx277_2 := (HB.out.cell (World.block_lt_of_cell? w _ hx277_2)).trans hx277_2
        replace hx277_3 := (HB.out.cell (World.block_lt_of_cell? w _ hx277_3)).trans hx277_3
        replace p277 := eq_true p277
        replace q277 := eq_true q277
        go_wp2_with (first | ((with_reducible refine gate_dst (N := 5) rfl ?_); refine box_event ?hg (N := 5) ?hd (cs := #[.string (⟨#[]⟩ : ByteArray), .int .i64 0, .string (⟨#[]⟩ : ByteArray), .bool false]) (t := 93) ?hr ?_; (case hd => rfl); (case hg => rfl); (case hr => first | (go_simp; done) | (go_simp; rfl)); intro gb278 hg w28 hbox hb; have n0_ := Aside0.mk (Kd.R_below (by (with_reducible repeat (first | apply Kd.R_alloc | apply Kd.R_drewN | apply Kd.R_drew)); exact HO_3.out) hb); have n1_ := Aside0.mk (blk_below (g := gb261) (o := .cells #[.int .i64 a0_0, .int .i64 a0_1, .string a0_2, .slice (some ad277) l0_3.length c0_3, .string a0_4] 45 (0, 0)) (by (with_reducible repeat (first | refine blk_drewN ?_ _ | refine blk_drew ?_ | refine blk_alloc ?_ _)); exact BK261.out) hb); have n2_ := Aside0.mk (below_step (by repeat (first | (with_reducible first | exact HB.out | apply below_alloc | apply pw_below_drewN | apply below_drew1 | refine below_set ?_ GE261.out) | exact HB.out)) hb); have n3_ := Aside0.mk (hbox); have n4_ := Aside0.mk ((by rw [hg]; exact (below_size (by repeat (first | (with_reducible first | exact HB.out | apply below_alloc | apply pw_below_drewN | apply below_drew1 | refine below_set ?_ GE261.out) | exact HB.out))) : w.heap.size ≤ gb278)); have n5_ := Aside0.mk ((by rw [hg]; exact (below_size (by repeat (first | (with_reducible first | exact HB.out | apply below_alloc | apply pw_below_drewN | apply below_drew1 | refine below_set ?_ GE261.out) | exact HB.out))) : w.heap.size ≤ gb278)); have n6_ := Aside0.mk ((by rw [hg]; exact Nat.ne_of_lt (blk_lt (g := gb261) (o := .cells #[.int .i64 a0_0, .int .i64 a0_1, .string a0_2, .slice (some ad277) l0_3.length c0_3, .string a0_4] 45 (0, 0)) (by (with_reducible repeat (first | refine blk_drewN ?_ _ | refine blk_drew ?_ | refine blk_alloc ?_ _)); exact BK261.out)) : gb261 ≠ gb278)); have n7_ := Aside0.mk ((by rw [hg]; exact Nat.ne_of_gt (blk_lt (g := gb261) (o := .cells #[.int .i64 a0_0, .int .i64 a0_1, .string a0_2, .slice (some ad277) l0_3.length c0_3, .string a0_4] 45 (0, 0)) (by (with_reducible repeat (first | refine blk_drewN ?_ _ | refine blk_drew ?_ | refine blk_alloc ?_ _)); exact BK261.out)) : gb278 ≠ gb261)); clear HO_3; clear BK261; clear HB; have HO_3 := n0_; have BK261 := n1_; have HB := n2_; have BK278 := n3_; have GW278 := n4_; have GE278 := n5_; have NB261_278 := n6_; have NB278_261 := n7_; clear n0_ n1_ n2_ n3_ n4_ n5_ n6_ n7_; clear hb hbox hg; have hnb29 := NB278_261.out; have hnc29 := NB261_278.out; have hcz30_0 : w28.cell? ⟨gb278, 0, none⟩ = some (.string (⟨#[]⟩ : ByteArray)) := (blk_cell BK278.out 0).trans rfl; have hcz30_1 : w28.cell? ⟨gb278, 1, none⟩ = some (.int .i64 0) := (blk_cell BK278.out 1).trans rfl; have hcz30_2 : w28.cell? ⟨gb278, 2, none⟩ = some (.string (⟨#[]⟩ : ByteArray)) := (blk_cell BK278.out 2).trans rfl; have hcz30_3 : w28.cell? ⟨gb278, 3, none⟩ = some (.bool false) := (blk_cell BK278.out 3).trans rfl; have hfz30_0 := blk_frozen BK278.out 0; have hfz30_1 := blk_frozen BK278.out 1; have hfz30_2 := blk_frozen BK278.out 2; have hfz30_3 := blk_frozen BK278.out 3) | ((with_reducible refine gate_store (t := 93) (p := 5) rfl ?_); refine store_event (t := 93) (p := 5) (v := ?vo_w31) (w1 := ((((w28.setCell ⟨gb278, 0, none⟩ (.string ((rd_T93 l0_3 x25_1).f0))).setCell ⟨gb278, 1, none⟩ (.int .i64 ((rd_T93 l0_3 x25_1).f1))).setCell ⟨gb278, 2, none⟩ (.string ((rd_T93 l0_3 x25_1).f2))).setCell ⟨gb278, 3, none⟩ (.bool true))) ?hg ?ho ?hn ?hr ?_; (case ho => rfl); (case hg => rfl); (case hn => rfl); (case hr => first | (go_simp; done) | (go_simp; rfl)); intro w31 hw; have n0_ : Aside0 (Kd.R (Kd.int .u8) 5 w31 w.heap.size (fun _ => True) u3 x3_1) := ⟨(by rw [hw]; exact (by (with_reducible repeat (first | apply Kd.R_alloc | apply Kd.R_drewN | apply Kd.R_drew)); exact Kd.R_mono (Kd.R_far (p := ⟨gb278, 3, none⟩) (Kd.R_far (p := ⟨gb278, 2, none⟩) (Kd.R_far (p := ⟨gb278, 1, none⟩) (Kd.R_far (p := ⟨gb278, 0, none⟩) (Kd.R_types HO_3.out BK278.out (by decide)) (fun _ hk => hk.2) (.string ((rd_T93 l0_3 x25_1).f0))) (fun _ hk => hk.2) (.int .i64 ((rd_T93 l0_3 x25_1).f1))) (fun _ hk => hk.2) (.string ((rd_T93 l0_3 x25_1).f2))) (fun _ hk => hk.2) (.bool true)) (fun _ hk => trivial)))⟩; have n1_ : Aside0 (w31.heap[gb261]? = some (.cells #[.int .i64 a0_0, .int .i64 a0_1, .string a0_2, .slice (some ad277) l0_3.length c0_3, .string a0_4] 45 (0, 0))) := ⟨(by rw [hw]; exact (by (with_reducible repeat (first | refine blk_drewN ?_ _ | refine blk_drew ?_ | refine blk_alloc ?_ _)); refine blk_far ?_ NB261_278.out _; (with_reducible repeat (first | refine blk_drewN ?_ _ | refine blk_drew ?_ | refine blk_alloc ?_ _)); refine blk_far ?_ NB261_278.out _; (with_reducible repeat (first | refine blk_drewN ?_ _ | refine blk_drew ?_ | refine blk_alloc ?_ _)); refine blk_far ?_ NB261_278.out _; (with_reducible repeat (first | refine blk_drewN ?_ _ | refine blk_drew ?_ | refine blk_alloc ?_ _)); refine blk_far ?_ NB261_278.out _; (with_reducible repeat (first | refine blk_drewN ?_ _ | refine blk_drew ?_ | refine blk_alloc ?_ _)); exact BK261.out))⟩; have n2_ : Aside0 (w31.heap[gb278]? = some (.cells #[.string ((rd_T93 l0_3 x25_1).f0), .int .i64 ((rd_T93 l0_3 x25_1).f1), .string ((rd_T93 l0_3 x25_1).f2), .bool true] 93 (0, 0))) := ⟨(by rw [hw]; exact (by (with_reducible repeat (first | refine blk_drewN ?_ _ | refine blk_drew ?_ | refine blk_alloc ?_ _)); refine blk_put (cs := #[.string ((rd_T93 l0_3 x25_1).f0), .int .i64 ((rd_T93 l0_3 x25_1).f1), .string ((rd_T93 l0_3 x25_1).f2), .bool false]) ?_ 3 _ rfl; (with_reducible repeat (first | refine blk_drewN ?_ _ | refine blk_drew ?_ | refine blk_alloc ?_ _)); refine blk_put (cs := #[.string ((rd_T93 l0_3 x25_1).f0), .int .i64 ((rd_T93 l0_3 x25_1).f1), .string (⟨#[]⟩ : ByteArray), .bool false]) ?_ 2 _ rfl; (with_reducible repeat (first | refine blk_drewN ?_ _ | refine blk_drew ?_ | refine blk_alloc ?_ _)); refine blk_put (cs := #[.string ((rd_T93 l0_3 x25_1).f0), .int .i64 0, .string (⟨#[]⟩ : ByteArray), .bool false]) ?_ 1 _ rfl; (with_reducible repeat (first | refine blk_drewN ?_ _ | refine blk_drew ?_ | refine blk_alloc ?_ _)); refine blk_put (cs := #[.string (⟨#[]⟩ : ByteArray), .int .i64 0, .string (⟨#[]⟩ : ByteArray), .bool false]) ?_ 0 _ rfl; (with_reducible repeat (first | refine blk_drewN ?_ _ | refine blk_drew ?_ | refine blk_alloc ?_ _)); exact BK278.out))⟩; have n3_ : Aside0 (Below w.heap.size w w31) := ⟨(by rw [hw]; exact (by repeat (first | (with_reducible first | exact HB.out | apply below_alloc | apply pw_below_drewN | apply below_drew1 | refine below_set ?_ GE261.out | refine below_set ?_ GE278.out) | exact HB.out)))⟩; clear hw; clear HO_3; clear BK261; clear BK278; clear HB; have HO_3 := n0_; have BK261 := n1_; have BK278 := n2_; have HB := n3_; clear n0_ n1_ n2_ n3_; have hcz32_0 : w31.cell? ⟨gb278, 0, none⟩ = some (.string ((rd_T93 l0_3 x25_1).f0)) := (blk_cell BK278.out 0).trans rfl; have hcz32_1 : w31.cell? ⟨gb278, 1, none⟩ = some (.int .i64 ((rd_T93 l0_3 x25_1).f1)) := (blk_cell BK278.out 1).trans rfl; have hcz32_2 : w31.cell? ⟨gb278, 2, none⟩ = some (.string ((rd_T93 l0_3 x25_1).f2)) := (blk_cell BK278.out 2).trans rfl; have hcz32_3 : w31.cell? ⟨gb278, 3, none⟩ = some (.bool true) := (blk_cell BK278.out 3).trans rfl; have hfz32_0 := blk_frozen BK278.out 0; have hfz32_1 := blk_frozen BK278.out 1; have hfz32_2 := blk_frozen BK278.out 2; have hfz32_3 := blk_frozen BK278.out 3; obtain ⟨Ao33, co33, eo33⟩ := Kd.R_slice HO_3.out; subst eo33) | ((with_reducible refine gate_callee (f := 49) rfl ?_); refine goesL_ (some 32) rfl rfl Try.func49 (by kernel_rfl) rfl #[.slice Ao33 x3_1.length co33, .string ((rd_T93 l0_3 x25_1).f0)] rfl (by (try simp only [List.map_toArray, List.map_cons, List.map_nil]); first | done | rfl | (simp only [List.length_drop, List.length_take]; rfl)) ?_; (with_reducible refine (calepinref15_text.calls k1 (fun k_ => some k_ = (.slice Ao33 x3_1.length co33 : Value).ownBlock) (.slice Ao33 x3_1.length co33) x3_1 ((rd_T93 l0_3 x25_1).f0) t279 w _ ?side1 ?side2 A22.out).mono ?_); (case side1 => repeat (first | (with_reducible first | exact HB.out | apply below_alloc | apply pw_below_drewN | apply below_drew1 | refine below_set ?_ GE261.out | refine below_set ?_ GE278.out) | exact HB.out)); (case side2 => exact Kd.R_tight rfl HO_3.out); rintro e w34 ⟨v280, rfl, ho0, hb, hkp⟩; refine ⟨_, rfl, ?_⟩; have n0_ := Aside0.mk (blk_kept (by (with_reducible repeat (first | refine blk_drewN ?_ _ | refine blk_drew ?_ | refine blk_alloc ?_ _)); exact BK261.out) hkp (fun hs_ => (fun e_ => (Kd.R_ne HO_3.out BK261.out (by decide)) e_) hs_)); have n1_ := Aside0.mk (blk_kept (by (with_reducible repeat (first | refine blk_drewN ?_ _ | refine blk_drew ?_ | refine blk_alloc ?_ _)); exact BK278.out) hkp (fun hs_ => (fun e_ => (Kd.R_ne HO_3.out BK278.out (by decide)) e_) hs_)); have n2_ := Aside0.mk (Kd.R_mono (ok' := fun k_ => True) ho0 (fun k_ hk_ => trivial)); have n3_ := Aside0.mk (hb); clear BK261; clear BK278; clear HB; clear HO_3; have BK261 := n0_; have BK278 := n1_; have HO281 := n2_; have HB := n3_; clear n0_ n1_ n2_ n3_; (try clear hb); (try clear hkp); (try clear ho0); have hcz35_0 : w34.cell? ⟨gb278, 0, none⟩ = some (.string ((rd_T93 l0_3 x25_1).f0)) := (blk_cell BK278.out 0).trans rfl; have hcz35_1 : w34.cell? ⟨gb278, 1, none⟩ = some (.int .i64 ((rd_T93 l0_3 x25_1).f1)) := (blk_cell BK278.out 1).trans rfl; have hcz35_2 : w34.cell? ⟨gb278, 2, none⟩ = some (.string ((rd_T93 l0_3 x25_1).f2)) := (blk_cell BK278.out 2).trans rfl; have hcz35_3 : w34.cell? ⟨gb278, 3, none⟩ = some (.bool true) := (blk_cell BK278.out 3).trans rfl; have hfz35_0 := blk_frozen BK278.out 0; have hfz35_1 := blk_frozen BK278.out 1; have hfz35_2 := blk_frozen BK278.out 2; have hfz35_3 := blk_frozen BK278.out 3; obtain ⟨Ao36, co36, eo36⟩ := Kd.R_slice HO281.out; subst eo36) | ((with_reducible refine gate_callee (f := 48) rfl ?_); refine goesL_ (some 36) rfl rfl Try.func48 (by kernel_rfl) rfl #[.slice Ao36 t279.length co36, .int .i64 ((rd_T93 l0_3 x25_1).f1)] rfl (by (try simp only [List.map_toArray, List.map_cons, List.map_nil]); first | done | rfl | (simp only [List.length_drop, List.length_take]; rfl)) ?_; (with_reducible refine (calepinref15_number.calls k1 (fun k_ => some k_ = (.slice Ao36 t279.length co36 : Value).ownBlock) (.slice Ao36 t279.length co36) t279 ((rd_T93 l0_3 x25_1).f1) t282 w _ ?side1 ?side2 A23.out).mono ?_); (case side1 => repeat (first | (with_reducible first | exact HB.out | apply below_alloc | apply pw_below_drewN | apply below_drew1 | refine below_set ?_ GE261.out | refine below_set ?_ GE278.out) | exact HB.out)); (case side2 => exact Kd.R_tight rfl HO281.out); rintro e w37 ⟨v283, rfl, ho0, hb, hkp⟩; refine ⟨_, rfl, ?_⟩; have n0_ := Aside0.mk (blk_kept (by (with_reducible repeat (first | refine blk_drewN ?_ _ | refine blk_drew ?_ | refine blk_alloc ?_ _)); exact BK261.out) hkp (fun hs_ => (fun e_ => (Kd.R_ne HO281.out BK261.out (by decide)) e_) hs_)); have n1_ := Aside0.mk (blk_kept (by (with_reducible repeat (first | refine blk_drewN ?_ _ | refine blk_drew ?_ | refine blk_alloc ?_ _)); exact BK278.out) hkp (fun hs_ => (fun e_ => (Kd.R_ne HO281.out BK278.out (by decide)) e_) hs_)); have n2_ := Aside0.mk (Kd.R_mono (ok' := fun k_ => True) ho0 (fun k_ hk_ => trivial)); have n3_ := Aside0.mk (hb); clear BK261; clear BK278; clear HB; clear HO281; have BK261 := n0_; have BK278 := n1_; have HO284 := n2_; have HB := n3_; clear n0_ n1_ n2_ n3_; (try clear hb); (try clear hkp); (try clear ho0); have hcz38_0 : w37.cell? ⟨gb278, 0, none⟩ = some (.string ((rd_T93 l0_3 x25_1).f0)) := (blk_cell BK278.out 0).trans rfl; have hcz38_1 : w37.cell? ⟨gb278, 1, none⟩ = some (.int .i64 ((rd_T93 l0_3 x25_1).f1)) := (blk_cell BK278.out 1).trans rfl; have hcz38_2 : w37.cell? ⟨gb278, 2, none⟩ = some (.string ((rd_T93 l0_3 x25_1).f2)) := (blk_cell BK278.out 2).trans rfl; have hcz38_3 : w37.cell? ⟨gb278, 3, none⟩ = some (.bool true) := (blk_cell BK278.out 3).trans rfl; have hfz38_0 := blk_frozen BK278.out 0; have hfz38_1 := blk_frozen BK278.out 1; have hfz38_2 := blk_frozen BK278.out 2; have hfz38_3 := blk_frozen BK278.out 3; obtain ⟨Ao39, co39, eo39⟩ := Kd.R_slice HO284.out; subst eo39) | ((with_reducible refine gate_callee (f := 49) rfl ?_); refine goesL_ (some 40) rfl rfl Try.func49 (by kernel_rfl) rfl #[.slice Ao39 t282.length co39, .string ((rd_T93 l0_3 x25_1).f2)] rfl (by (try simp only [List.map_toArray, List.map_cons, List.map_nil]); first | done | rfl | (simp only [List.length_drop, List.length_take]; rfl)) ?_; (with_reducible refine (calepinref15_text.calls k1 (fun k_ => some k_ = (.slice Ao39 t282.length co39 : Value).ownBlock) (.slice Ao39 t282.length co39) t282 ((rd_T93 l0_3 x25_1).f2) t285 w _ ?side1 ?side2 A24.out).mono ?_); (case side1 => repeat (first | (with_reducible first | exact HB.out | apply below_alloc | apply pw_below_drewN | apply below_drew1 | refine below_set ?_ GE261.out | refine below_set ?_ GE278.out) | exact HB.out)); (case side2 => exact Kd.R_tight rfl HO284.out); rintro e w40 ⟨v286, rfl, ho0, hb, hkp⟩; refine ⟨_, rfl, ?_⟩; have n0_ := Aside0.mk (blk_kept (by (with_reducible repeat (first | refine blk_drewN ?_ _ | refine blk_drew ?_ | refine blk_alloc ?_ _)); exact BK261.out) hkp (fun hs_ => (fun e_ => (Kd.R_ne HO284.out BK261.out (by decide)) e_) hs_)); have n1_ := Aside0.mk (blk_kept (by (with_reducible repeat (first | refine blk_drewN ?_ _ | refine blk_drew ?_ | refine blk_alloc ?_ _)); exact BK278.out) hkp (fun hs_ => (fun e_ => (Kd.R_ne HO284.out BK278.out (by decide)) e_) hs_)); have n2_ := Aside0.mk (Kd.R_mono (ok' := fun k_ => True) ho0 (fun k_ hk_ => trivial)); have n3_ := Aside0.mk (hb); clear BK261; clear BK278; clear HB; clear HO284; have BK261 := n0_; have BK278 := n1_; have HO287 := n2_; have HB := n3_; clear n0_ n1_ n2_ n3_; (try clear hb); (try clear hkp); (try clear ho0); have hcz41_0 : w40.cell? ⟨gb278, 0, none⟩ = some (.string ((rd_T93 l0_3 x25_1).f0)) := (blk_cell BK278.out 0).trans rfl; have hcz41_1 : w40.cell? ⟨gb278, 1, none⟩ = some (.int .i64 ((rd_T93 l0_3 x25_1).f1)) := (blk_cell BK278.out 1).trans rfl; have hcz41_2 : w40.cell? ⟨gb278, 2, none⟩ = some (.string ((rd_T93 l0_3 x25_1).f2)) := (blk_cell BK278.out 2).trans rfl; have hcz41_3 : w40.cell? ⟨gb278, 3, none⟩ = some (.bool true) := (blk_cell BK278.out 3).trans rfl; have hfz41_0 := blk_frozen BK278.out 0; have hfz41_1 := blk_frozen BK278.out 1; have hfz41_2 := blk_frozen BK278.out 2; have hfz41_3 := blk_frozen BK278.out 3) | ((with_reducible refine gate_builtin (b := .append) (xs := #[.tmp 43, .tmp 44]) rfl ?_); at_builtin; refine Kd.R_append (Kd.int .u8) (w0 := w) w.heap.size rfl (.tmp 43) (.tmp 44) 27 5 (.int .u8 0) 1 rfl Try.underlying27 info5 rfl (by decide) (by omega) v286 t285 1 [.int .u8 1] (fun _ => True) (fun _ => False) rfl rfl ?aP (fun _ hk => hk.elim) ?aF ?aO ?aB ?aS ?aL ?_; (case aP => exact rfl); (case aB => exact (by repeat (first | (with_reducible first | exact HB.out | apply below_alloc | apply pw_below_drewN | apply below_drew1 | refine below_set ?_ GE261.out | refine below_set ?_ GE278.out) | exact HB.out))); (case aF => exact (fun _ _ => trivial)); (case aO => exact (by (with_reducible repeat (first | apply Kd.R_alloc | apply Kd.R_drewN | apply Kd.R_drew)); exact HO287.out)); (case aS => exact (below_size (by repeat (first | (with_reducible first | exact HB.out | apply below_alloc | apply pw_below_drewN | apply below_drew1 | refine below_set ?_ GE261.out | refine below_set ?_ GE278.out) | exact HB.out)))); (case aL => have := LMc27.out; omega); intro v289 w42 ho hb hg hat; rw [← Ny288.out] at ho; have n0_ := Aside0.mk (blk_grown (g := gb261) (o := .cells #[.int .i64 a0_0, .int .i64 a0_1, .string a0_2, .slice (some ad277) l0_3.length c0_3, .string a0_4] 45 (0, 0)) (by (with_reducible repeat (first | refine blk_drewN ?_ _ | refine blk_drew ?_ | refine blk_alloc ?_ _)); exact BK261.out) hg (Kd.R_ne HO287.out BK261.out (by decide))); have n1_ := Aside0.mk (blk_grown (g := gb278) (o := .cells #[.string ((rd_T93 l0_3 x25_1).f0), .int .i64 ((rd_T93 l0_3 x25_1).f1), .string ((rd_T93 l0_3 x25_1).f2), .bool true] 93 (0, 0)) (by (with_reducible repeat (first | refine blk_drewN ?_ _ | refine blk_drew ?_ | refine blk_alloc ?_ _)); exact BK278.out) hg (Kd.R_ne HO287.out BK278.out (by decide))); have n2_ := Aside0.mk (hb); have n3_ := Aside0.mk (ho); clear BK261; clear BK278; clear HB; clear HO287; have BK261 := n0_; have BK278 := n1_; have HB := n2_; have HO290 := n3_; clear n0_ n1_ n2_ n3_; clear ho hb hg hat))
        go_roundg k1
        case measure => have := HK1.out; omega
        case rel => exact ⟨(y288), (wrap64 (x25_1 + 1)), (by first | rfl | (simp; done) | (simp [*]; done)), H', ⟨by have := HK1.out; omega⟩, ⟨by (with_reducible repeat (first | apply Kd.R_alloc | apply Kd.R_drewN | apply Kd.R_drew)); exact HO290.out⟩, ⟨by (with_reducible repeat (first | refine blk_drewN ?_ _ | refine blk_drew ?_ | refine blk_alloc ?_ _)); exact BK261.out⟩, ⟨by repeat (first | (with_reducible first | exact HB.out | apply below_alloc | apply pw_below_drewN | apply below_drew1 | refine below_set ?_ GE261.out | refine below_set ?_ GE278.out) | exact HB.out)⟩⟩
       ·rw [if_neg c27] at H
        exact absurd H (by simp)
      ·replace c26 := Bool.eq_false_iff.mpr c26
       subst c26
       have H1 : (if t285.length < 140737488355328 then (calepinref15_Reply.l0 k1 (t285 ++ [0]) l0_3 (l0_3.length : Int) (wrap64 (x25_1 + 1)) a0_0 a0_1 a0_2 l0_3 a0_4) else (none)) = some r := by rw [if_neg (show ¬ (false = true) by decide)] at H; exact H
       clear H
       have H := H1
       clear H1
       by_cases c43 : t285.length < 140737488355328
       ·rw [if_pos c43] at H
        have LMc43 := Aside0.mk c43
        clear c43
        obtain ⟨y291, hy291⟩ : ∃ y_ : List Int, y_ = (t285 ++ [0]) := ⟨_, rfl⟩
        replace H : (calepinref15_Reply.l0 k1 y291 l0_3 (l0_3.length : Int) (wrap64 (x25_1 + 1)) a0_0 a0_1 a0_2 l0_3 a0_4) = some r := by first | (rw [hy291]; with_reducible exact H) | (have H2_ := (Option.bind_some _ _).symm.trans H; rw [hy291]; with_reducible exact H2_) | (have H2_ := (Option.bind_some _ _).symm.trans H; with_reducible exact H2_) | with_reducible exact H | (rw [hy291]; exact H) | exact H
        have Ny291 := Aside0.mk hy291
        clear hy291
        have H' := Aside0.mk H
        clear H
        have p277 : 0 ≤ (x25_1 : Int) := of_decide_eq_true (by first | (with_reducible assumption) | assumption)
        have q277 : x25_1 < (l0_3.length : Int) := of_decide_eq_true (by first | (with_reducible assumption) | assumption)
        obtain ⟨ad277, e277, hx277_0, hx277_1, hx277_2, hx277_3⟩ := at_T93 HR0_3.out x25_1 p277 q277
        (try rw [← Nbq25.out] at hx277_3)
        cases e277
        replace hx277_0 := (HB.out.cell (World.block_lt_of_cell? w _ hx277_0)).trans hx277_0
        replace hx277_1 := (HB.out.cell (World.block_lt_of_cell? w _ hx277_1)).trans hx277_1
        replace hx277_2 := (HB.out.cell (World.block_lt_of_cell? w _ hx277_2)).trans hx277_2
        replace hx277_3 := (HB.out.cell (World.block_lt_of_cell? w _ hx277_3)).trans hx277_3
        replace p277 := eq_true p277
        replace q277 := eq_true q277
        go_wp2_with (first | ((with_reducible refine gate_dst (N := 5) rfl ?_); refine box_event ?hg (N := 5) ?hd (cs := #[.string (⟨#[]⟩ : ByteArray), .int .i64 0, .string (⟨#[]⟩ : ByteArray), .bool false]) (t := 93) ?hr ?_; (case hd => rfl); (case hg => rfl); (case hr => first | (go_simp; done) | (go_simp; rfl)); intro gb278 hg w44 hbox hb; have n0_ := Aside0.mk (Kd.R_below (by (with_reducible repeat (first | apply Kd.R_alloc | apply Kd.R_drewN | apply Kd.R_drew)); exact HO_3.out) hb); have n1_ := Aside0.mk (blk_below (g := gb261) (o := .cells #[.int .i64 a0_0, .int .i64 a0_1, .string a0_2, .slice (some ad277) l0_3.length c0_3, .string a0_4] 45 (0, 0)) (by (with_reducible repeat (first | refine blk_drewN ?_ _ | refine blk_drew ?_ | refine blk_alloc ?_ _)); exact BK261.out) hb); have n2_ := Aside0.mk (below_step (by repeat (first | (with_reducible first | exact HB.out | apply below_alloc | apply pw_below_drewN | apply below_drew1 | refine below_set ?_ GE261.out) | exact HB.out)) hb); have n3_ := Aside0.mk (hbox); have n4_ := Aside0.mk ((by rw [hg]; exact (below_size (by repeat (first | (with_reducible first | exact HB.out | apply below_alloc | apply pw_below_drewN | apply below_drew1 | refine below_set ?_ GE261.out) | exact HB.out))) : w.heap.size ≤ gb278)); have n5_ := Aside0.mk ((by rw [hg]; exact (below_size (by repeat (first | (with_reducible first | exact HB.out | apply below_alloc | apply pw_below_drewN | apply below_drew1 | refine below_set ?_ GE261.out) | exact HB.out))) : w.heap.size ≤ gb278)); have n6_ := Aside0.mk ((by rw [hg]; exact Nat.ne_of_lt (blk_lt (g := gb261) (o := .cells #[.int .i64 a0_0, .int .i64 a0_1, .string a0_2, .slice (some ad277) l0_3.length c0_3, .string a0_4] 45 (0, 0)) (by (with_reducible repeat (first | refine blk_drewN ?_ _ | refine blk_drew ?_ | refine blk_alloc ?_ _)); exact BK261.out)) : gb261 ≠ gb278)); have n7_ := Aside0.mk ((by rw [hg]; exact Nat.ne_of_gt (blk_lt (g := gb261) (o := .cells #[.int .i64 a0_0, .int .i64 a0_1, .string a0_2, .slice (some ad277) l0_3.length c0_3, .string a0_4] 45 (0, 0)) (by (with_reducible repeat (first | refine blk_drewN ?_ _ | refine blk_drew ?_ | refine blk_alloc ?_ _)); exact BK261.out)) : gb278 ≠ gb261)); clear HO_3; clear BK261; clear HB; have HO_3 := n0_; have BK261 := n1_; have HB := n2_; have BK278 := n3_; have GW278 := n4_; have GE278 := n5_; have NB261_278 := n6_; have NB278_261 := n7_; clear n0_ n1_ n2_ n3_ n4_ n5_ n6_ n7_; clear hb hbox hg; have hnb45 := NB278_261.out; have hnc45 := NB261_278.out; have hcz46_0 : w44.cell? ⟨gb278, 0, none⟩ = some (.string (⟨#[]⟩ : ByteArray)) := (blk_cell BK278.out 0).trans rfl; have hcz46_1 : w44.cell? ⟨gb278, 1, none⟩ = some (.int .i64 0) := (blk_cell BK278.out 1).trans rfl; have hcz46_2 : w44.cell? ⟨gb278, 2, none⟩ = some (.string (⟨#[]⟩ : ByteArray)) := (blk_cell BK278.out 2).trans rfl; have hcz46_3 : w44.cell? ⟨gb278, 3, none⟩ = some (.bool false) := (blk_cell BK278.out 3).trans rfl; have hfz46_0 := blk_frozen BK278.out 0; have hfz46_1 := blk_frozen BK278.out 1; have hfz46_2 := blk_frozen BK278.out 2; have hfz46_3 := blk_frozen BK278.out 3) | ((with_reducible refine gate_store (t := 93) (p := 5) rfl ?_); refine store_event (t := 93) (p := 5) (v := ?vo_w47) (w1 := ((((w44.setCell ⟨gb278, 0, none⟩ (.string ((rd_T93 l0_3 x25_1).f0))).setCell ⟨gb278, 1, none⟩ (.int .i64 ((rd_T93 l0_3 x25_1).f1))).setCell ⟨gb278, 2, none⟩ (.string ((rd_T93 l0_3 x25_1).f2))).setCell ⟨gb278, 3, none⟩ (.bool false))) ?hg ?ho ?hn ?hr ?_; (case ho => rfl); (case hg => rfl); (case hn => rfl); (case hr => first | (go_simp; done) | (go_simp; rfl)); intro w47 hw; have n0_ : Aside0 (Kd.R (Kd.int .u8) 5 w47 w.heap.size (fun _ => True) u3 x3_1) := ⟨(by rw [hw]; exact (by (with_reducible repeat (first | apply Kd.R_alloc | apply Kd.R_drewN | apply Kd.R_drew)); exact Kd.R_mono (Kd.R_far (p := ⟨gb278, 3, none⟩) (Kd.R_far (p := ⟨gb278, 2, none⟩) (Kd.R_far (p := ⟨gb278, 1, none⟩) (Kd.R_far (p := ⟨gb278, 0, none⟩) (Kd.R_types HO_3.out BK278.out (by decide)) (fun _ hk => hk.2) (.string ((rd_T93 l0_3 x25_1).f0))) (fun _ hk => hk.2) (.int .i64 ((rd_T93 l0_3 x25_1).f1))) (fun _ hk => hk.2) (.string ((rd_T93 l0_3 x25_1).f2))) (fun _ hk => hk.2) (.bool false)) (fun _ hk => trivial)))⟩; have n1_ : Aside0 (w47.heap[gb261]? = some (.cells #[.int .i64 a0_0, .int .i64 a0_1, .string a0_2, .slice (some ad277) l0_3.length c0_3, .string a0_4] 45 (0, 0))) := ⟨(by rw [hw]; exact (by (with_reducible repeat (first | refine blk_drewN ?_ _ | refine blk_drew ?_ | refine blk_alloc ?_ _)); refine blk_far ?_ NB261_278.out _; (with_reducible repeat (first | refine blk_drewN ?_ _ | refine blk_drew ?_ | refine blk_alloc ?_ _)); refine blk_far ?_ NB261_278.out _; (with_reducible repeat (first | refine blk_drewN ?_ _ | refine blk_drew ?_ | refine blk_alloc ?_ _)); refine blk_far ?_ NB261_278.out _; (with_reducible repeat (first | refine blk_drewN ?_ _ | refine blk_drew ?_ | refine blk_alloc ?_ _)); refine blk_far ?_ NB261_278.out _; (with_reducible repeat (first | refine blk_drewN ?_ _ | refine blk_drew ?_ | refine blk_alloc ?_ _)); exact BK261.out))⟩; have n2_ : Aside0 (w47.heap[gb278]? = some (.cells #[.string ((rd_T93 l0_3 x25_1).f0), .int .i64 ((rd_T93 l0_3 x25_1).f1), .string ((rd_T93 l0_3 x25_1).f2), .bool false] 93 (0, 0))) := ⟨(by rw [hw]; exact (by (with_reducible repeat (first | refine blk_drewN ?_ _ | refine blk_drew ?_ | refine blk_alloc ?_ _)); refine blk_put (cs := #[.string ((rd_T93 l0_3 x25_1).f0), .int .i64 ((rd_T93 l0_3 x25_1).f1), .string ((rd_T93 l0_3 x25_1).f2), .bool false]) ?_ 3 _ rfl; (with_reducible repeat (first | refine blk_drewN ?_ _ | refine blk_drew ?_ | refine blk_alloc ?_ _)); refine blk_put (cs := #[.string ((rd_T93 l0_3 x25_1).f0), .int .i64 ((rd_T93 l0_3 x25_1).f1), .string (⟨#[]⟩ : ByteArray), .bool false]) ?_ 2 _ rfl; (with_reducible repeat (first | refine blk_drewN ?_ _ | refine blk_drew ?_ | refine blk_alloc ?_ _)); refine blk_put (cs := #[.string ((rd_T93 l0_3 x25_1).f0), .int .i64 0, .string (⟨#[]⟩ : ByteArray), .bool false]) ?_ 1 _ rfl; (with_reducible repeat (first | refine blk_drewN ?_ _ | refine blk_drew ?_ | refine blk_alloc ?_ _)); refine blk_put (cs := #[.string (⟨#[]⟩ : ByteArray), .int .i64 0, .string (⟨#[]⟩ : ByteArray), .bool false]) ?_ 0 _ rfl; (with_reducible repeat (first | refine blk_drewN ?_ _ | refine blk_drew ?_ | refine blk_alloc ?_ _)); exact BK278.out))⟩; have n3_ : Aside0 (Below w.heap.size w w47) := ⟨(by rw [hw]; exact (by repeat (first | (with_reducible first | exact HB.out | apply below_alloc | apply pw_below_drewN | apply below_drew1 | refine below_set ?_ GE261.out | refine below_set ?_ GE278.out) | exact HB.out)))⟩; clear hw; clear HO_3; clear BK261; clear BK278; clear HB; have HO_3 := n0_; have BK261 := n1_; have BK278 := n2_; have HB := n3_; clear n0_ n1_ n2_ n3_; have hcz48_0 : w47.cell? ⟨gb278, 0, none⟩ = some (.string ((rd_T93 l0_3 x25_1).f0)) := (blk_cell BK278.out 0).trans rfl; have hcz48_1 : w47.cell? ⟨gb278, 1, none⟩ = some (.int .i64 ((rd_T93 l0_3 x25_1).f1)) := (blk_cell BK278.out 1).trans rfl; have hcz48_2 : w47.cell? ⟨gb278, 2, none⟩ = some (.string ((rd_T93 l0_3 x25_1).f2)) := (blk_cell BK278.out 2).trans rfl; have hcz48_3 : w47.cell? ⟨gb278, 3, none⟩ = some (.bool false) := (blk_cell BK278.out 3).trans rfl; have hfz48_0 := blk_frozen BK278.out 0; have hfz48_1 := blk_frozen BK278.out 1; have hfz48_2 := blk_frozen BK278.out 2; have hfz48_3 := blk_frozen BK278.out 3; obtain ⟨Ao49, co49, eo49⟩ := Kd.R_slice HO_3.out; subst eo49) | ((with_reducible refine gate_callee (f := 49) rfl ?_); refine goesL_ (some 32) rfl rfl Try.func49 (by kernel_rfl) rfl #[.slice Ao49 x3_1.length co49, .string ((rd_T93 l0_3 x25_1).f0)] rfl (by (try simp only [List.map_toArray, List.map_cons, List.map_nil]); first | done | rfl | (simp only [List.length_drop, List.length_take]; rfl)) ?_; (with_reducible refine (calepinref15_text.calls k1 (fun k_ => some k_ = (.slice Ao49 x3_1.length co49 : Value).ownBlock) (.slice Ao49 x3_1.length co49) x3_1 ((rd_T93 l0_3 x25_1).f0) t279 w _ ?side1 ?side2 A22.out).mono ?_); (case side1 => repeat (first | (with_reducible first | exact HB.out | apply below_alloc | apply pw_below_drewN | apply below_drew1 | refine below_set ?_ GE261.out | refine below_set ?_ GE278.out) | exact HB.out)); (case side2 => exact Kd.R_tight rfl HO_3.out); rintro e w50 ⟨v280, rfl, ho0, hb, hkp⟩; refine ⟨_, rfl, ?_⟩; have n0_ := Aside0.mk (blk_kept (by (with_reducible repeat (first | refine blk_drewN ?_ _ | refine blk_drew ?_ | refine blk_alloc ?_ _)); exact BK261.out) hkp (fun hs_ => (fun e_ => (Kd.R_ne HO_3.out BK261.out (by decide)) e_) hs_)); have n1_ := Aside0.mk (blk_kept (by (with_reducible repeat (first | refine blk_drewN ?_ _ | refine blk_drew ?_ | refine blk_alloc ?_ _)); exact BK278.out) hkp (fun hs_ => (fun e_ => (Kd.R_ne HO_3.out BK278.out (by decide)) e_) hs_)); have n2_ := Aside0.mk (Kd.R_mono (ok' := fun k_ => True) ho0 (fun k_ hk_ => trivial)); have n3_ := Aside0.mk (hb); clear BK261; clear BK278; clear HB; clear HO_3; have BK261 := n0_; have BK278 := n1_; have HO281 := n2_; have HB := n3_; clear n0_ n1_ n2_ n3_; (try clear hb); (try clear hkp); (try clear ho0); have hcz51_0 : w50.cell? ⟨gb278, 0, none⟩ = some (.string ((rd_T93 l0_3 x25_1).f0)) := (blk_cell BK278.out 0).trans rfl; have hcz51_1 : w50.cell? ⟨gb278, 1, none⟩ = some (.int .i64 ((rd_T93 l0_3 x25_1).f1)) := (blk_cell BK278.out 1).trans rfl; have hcz51_2 : w50.cell? ⟨gb278, 2, none⟩ = some (.string ((rd_T93 l0_3 x25_1).f2)) := (blk_cell BK278.out 2).trans rfl; have hcz51_3 : w50.cell? ⟨gb278, 3, none⟩ = some (.bool false) := (blk_cell BK278.out 3).trans rfl; have hfz51_0 := blk_frozen BK278.out 0; have hfz51_1 := blk_frozen BK278.out 1; have hfz51_2 := blk_frozen BK278.out 2; have hfz51_3 := blk_frozen BK278.out 3; obtain ⟨Ao52, co52, eo52⟩ := Kd.R_slice HO281.out; subst eo52) | ((with_reducible refine gate_callee (f := 48) rfl ?_); refine goesL_ (some 36) rfl rfl Try.func48 (by kernel_rfl) rfl #[.slice Ao52 t279.length co52, .int .i64 ((rd_T93 l0_3 x25_1).f1)] rfl (by (try simp only [List.map_toArray, List.map_cons, List.map_nil]); first | done | rfl | (simp only [List.length_drop, List.length_take]; rfl)) ?_; (with_reducible refine (calepinref15_number.calls k1 (fun k_ => some k_ = (.slice Ao52 t279.length co52 : Value).ownBlock) (.slice Ao52 t279.length co52) t279 ((rd_T93 l0_3 x25_1).f1) t282 w _ ?side1 ?side2 A23.out).mono ?_); (case side1 => repeat (first | (with_reducible first | exact HB.out | apply below_alloc | apply pw_below_drewN | apply below_drew1 | refine below_set ?_ GE261.out | refine below_set ?_ GE278.out) | exact HB.out)); (case side2 => exact Kd.R_tight rfl HO281.out); rintro e w53 ⟨v283, rfl, ho0, hb, hkp⟩; refine ⟨_, rfl, ?_⟩; have n0_ := Aside0.mk (blk_kept (by (with_reducible repeat (first | refine blk_drewN ?_ _ | refine blk_drew ?_ | refine blk_alloc ?_ _)); exact BK261.out) hkp (fun hs_ => (fun e_ => (Kd.R_ne HO281.out BK261.out (by decide)) e_) hs_)); have n1_ := Aside0.mk (blk_kept (by (with_reducible repeat (first | refine blk_drewN ?_ _ | refine blk_drew ?_ | refine blk_alloc ?_ _)); exact BK278.out) hkp (fun hs_ => (fun e_ => (Kd.R_ne HO281.out BK278.out (by decide)) e_) hs_)); have n2_ := Aside0.mk (Kd.R_mono (ok' := fun k_ => True) ho0 (fun k_ hk_ => trivial)); have n3_ := Aside0.mk (hb); clear BK261; clear BK278; clear HB; clear HO281; have BK261 := n0_; have BK278 := n1_; have HO284 := n2_; have HB := n3_; clear n0_ n1_ n2_ n3_; (try clear hb); (try clear hkp); (try clear ho0); have hcz54_0 : w53.cell? ⟨gb278, 0, none⟩ = some (.string ((rd_T93 l0_3 x25_1).f0)) := (blk_cell BK278.out 0).trans rfl; have hcz54_1 : w53.cell? ⟨gb278, 1, none⟩ = some (.int .i64 ((rd_T93 l0_3 x25_1).f1)) := (blk_cell BK278.out 1).trans rfl; have hcz54_2 : w53.cell? ⟨gb278, 2, none⟩ = some (.string ((rd_T93 l0_3 x25_1).f2)) := (blk_cell BK278.out 2).trans rfl; have hcz54_3 : w53.cell? ⟨gb278, 3, none⟩ = some (.bool false) := (blk_cell BK278.out 3).trans rfl; have hfz54_0 := blk_frozen BK278.out 0; have hfz54_1 := blk_frozen BK278.out 1; have hfz54_2 := blk_frozen BK278.out 2; have hfz54_3 := blk_frozen BK278.out 3; obtain ⟨Ao55, co55, eo55⟩ := Kd.R_slice HO284.out; subst eo55) | ((with_reducible refine gate_callee (f := 49) rfl ?_); refine goesL_ (some 40) rfl rfl Try.func49 (by kernel_rfl) rfl #[.slice Ao55 t282.length co55, .string ((rd_T93 l0_3 x25_1).f2)] rfl (by (try simp only [List.map_toArray, List.map_cons, List.map_nil]); first | done | rfl | (simp only [List.length_drop, List.length_take]; rfl)) ?_; (with_reducible refine (calepinref15_text.calls k1 (fun k_ => some k_ = (.slice Ao55 t282.length co55 : Value).ownBlock) (.slice Ao55 t282.length co55) t282 ((rd_T93 l0_3 x25_1).f2) t285 w _ ?side1 ?side2 A24.out).mono ?_); (case side1 => repeat (first | (with_reducible first | exact HB.out | apply below_alloc | apply pw_below_drewN | apply below_drew1 | refine below_set ?_ GE261.out | refine below_set ?_ GE278.out) | exact HB.out)); (case side2 => exact Kd.R_tight rfl HO284.out); rintro e w56 ⟨v286, rfl, ho0, hb, hkp⟩; refine ⟨_, rfl, ?_⟩; have n0_ := Aside0.mk (blk_kept (by (with_reducible repeat (first | refine blk_drewN ?_ _ | refine blk_drew ?_ | refine blk_alloc ?_ _)); exact BK261.out) hkp (fun hs_ => (fun e_ => (Kd.R_ne HO284.out BK261.out (by decide)) e_) hs_)); have n1_ := Aside0.mk (blk_kept (by (with_reducible repeat (first | refine blk_drewN ?_ _ | refine blk_drew ?_ | refine blk_alloc ?_ _)); exact BK278.out) hkp (fun hs_ => (fun e_ => (Kd.R_ne HO284.out BK278.out (by decide)) e_) hs_)); have n2_ := Aside0.mk (Kd.R_mono (ok' := fun k_ => True) ho0 (fun k_ hk_ => trivial)); have n3_ := Aside0.mk (hb); clear BK261; clear BK278; clear HB; clear HO284; have BK261 := n0_; have BK278 := n1_; have HO287 := n2_; have HB := n3_; clear n0_ n1_ n2_ n3_; (try clear hb); (try clear hkp); (try clear ho0); have hcz57_0 : w56.cell? ⟨gb278, 0, none⟩ = some (.string ((rd_T93 l0_3 x25_1).f0)) := (blk_cell BK278.out 0).trans rfl; have hcz57_1 : w56.cell? ⟨gb278, 1, none⟩ = some (.int .i64 ((rd_T93 l0_3 x25_1).f1)) := (blk_cell BK278.out 1).trans rfl; have hcz57_2 : w56.cell? ⟨gb278, 2, none⟩ = some (.string ((rd_T93 l0_3 x25_1).f2)) := (blk_cell BK278.out 2).trans rfl; have hcz57_3 : w56.cell? ⟨gb278, 3, none⟩ = some (.bool false) := (blk_cell BK278.out 3).trans rfl; have hfz57_0 := blk_frozen BK278.out 0; have hfz57_1 := blk_frozen BK278.out 1; have hfz57_2 := blk_frozen BK278.out 2; have hfz57_3 := blk_frozen BK278.out 3) | ((with_reducible refine gate_builtin (b := .append) (xs := #[.tmp 46, .tmp 47]) rfl ?_); at_builtin; refine Kd.R_append (Kd.int .u8) (w0 := w) w.heap.size rfl (.tmp 46) (.tmp 47) 27 5 (.int .u8 0) 1 rfl Try.underlying27 info5 rfl (by decide) (by omega) v286 t285 0 [.int .u8 0] (fun _ => True) (fun _ => False) rfl rfl ?aP (fun _ hk => hk.elim) ?aF ?aO ?aB ?aS ?aL ?_; (case aP => exact rfl); (case aB => exact (by repeat (first | (with_reducible first | exact HB.out | apply below_alloc | apply pw_below_drewN | apply below_drew1 | refine below_set ?_ GE261.out | refine below_set ?_ GE278.out) | exact HB.out))); (case aF => exact (fun _ _ => trivial)); (case aO => exact (by (with_reducible repeat (first | apply Kd.R_alloc | apply Kd.R_drewN | apply Kd.R_drew)); exact HO287.out)); (case aS => exact (below_size (by repeat (first | (with_reducible first | exact HB.out | apply below_alloc | apply pw_below_drewN | apply below_drew1 | refine below_set ?_ GE261.out | refine below_set ?_ GE278.out) | exact HB.out)))); (case aL => have := LMc43.out; omega); intro v292 w58 ho hb hg hat; rw [← Ny291.out] at ho; have n0_ := Aside0.mk (blk_grown (g := gb261) (o := .cells #[.int .i64 a0_0, .int .i64 a0_1, .string a0_2, .slice (some ad277) l0_3.length c0_3, .string a0_4] 45 (0, 0)) (by (with_reducible repeat (first | refine blk_drewN ?_ _ | refine blk_drew ?_ | refine blk_alloc ?_ _)); exact BK261.out) hg (Kd.R_ne HO287.out BK261.out (by decide))); have n1_ := Aside0.mk (blk_grown (g := gb278) (o := .cells #[.string ((rd_T93 l0_3 x25_1).f0), .int .i64 ((rd_T93 l0_3 x25_1).f1), .string ((rd_T93 l0_3 x25_1).f2), .bool false] 93 (0, 0)) (by (with_reducible repeat (first | refine blk_drewN ?_ _ | refine blk_drew ?_ | refine blk_alloc ?_ _)); exact BK278.out) hg (Kd.R_ne HO287.out BK278.out (by decide))); have n2_ := Aside0.mk (hb); have n3_ := Aside0.mk (ho); clear BK261; clear BK278; clear HB; clear HO287; have BK261 := n0_; have BK278 := n1_; have HB := n2_; have HO293 := n3_; clear n0_ n1_ n2_ n3_; clear ho hb hg hat))
        go_roundg k1
        case measure => have := HK1.out; omega
        case rel => exact ⟨(y291), (wrap64 (x25_1 + 1)), (by first | rfl | (simp; done) | (simp [*]; done)), H', ⟨by have := HK1.out; omega⟩, ⟨by (with_reducible repeat (first | apply Kd.R_alloc | apply Kd.R_drewN | apply Kd.R_drew)); exact HO293.out⟩, ⟨by (with_reducible repeat (first | refine blk_drewN ?_ _ | refine blk_drew ?_ | refine blk_alloc ?_ _)); exact BK261.out⟩, ⟨by repeat (first | (with_reducible first | exact HB.out | apply below_alloc | apply pw_below_drewN | apply below_drew1 | refine below_set ?_ GE261.out | refine below_set ?_ GE278.out) | exact HB.out)⟩⟩
       ·rw [if_neg c43] at H
        exact absurd H (by simp)
     ·rw [if_neg c21] at H
      exact absurd H (by simp)
    ·rw [if_neg c20] at H
     exact absurd H (by simp)
   ·rw [if_neg c19] at H
    have c19b0 : decide (x25_1 < (l0_3.length : Int)) = false := decide_eq_false c19
    clear c19
    replace H := Option.bind_eq_some_iff.mp H
    obtain ⟨t274, A590, H⟩ := H
    replace H : (some t274) = some r := H
    have A59 := Aside0.mk A590
    clear A590
    obtain rfl := Option.some.inj H
    have hcz60_0 : wr.cell? ⟨gb261, 0, none⟩ = some (.int .i64 a0_0) := (blk_cell BK261.out 0).trans rfl
    have hcz60_1 : wr.cell? ⟨gb261, 1, none⟩ = some (.int .i64 a0_1) := (blk_cell BK261.out 1).trans rfl
    have hcz60_2 : wr.cell? ⟨gb261, 2, none⟩ = some (.string a0_2) := (blk_cell BK261.out 2).trans rfl
    have hcz60_3 : wr.cell? ⟨gb261, 3, none⟩ = some (.slice A0_3 l0_3.length c0_3) := (blk_cell BK261.out 3).trans rfl
    have hcz60_4 : wr.cell? ⟨gb261, 4, none⟩ = some (.string a0_4) := (blk_cell BK261.out 4).trans rfl
    have hfz60_0 := blk_frozen BK261.out 0
    have hfz60_1 := blk_frozen BK261.out 1
    have hfz60_2 := blk_frozen BK261.out 2
    have hfz60_3 := blk_frozen BK261.out 3
    have hfz60_4 := blk_frozen BK261.out 4
    obtain ⟨Ao61, co61, eo61⟩ := Kd.R_slice HO_3.out
    subst eo61
    go_wp2_with (first | ((with_reducible refine gate_callee (f := 49) rfl ?_); refine goesL_ (some 53) rfl rfl Try.func49 (by kernel_rfl) rfl #[.slice Ao61 x3_1.length co61, .string a0_4] rfl (by (try simp only [List.map_toArray, List.map_cons, List.map_nil]); first | done | rfl | (simp only [List.length_drop, List.length_take]; rfl)) ?_; (with_reducible refine (calepinref15_text.calls k1 (fun k_ => some k_ = (.slice Ao61 x3_1.length co61 : Value).ownBlock) (.slice Ao61 x3_1.length co61) x3_1 a0_4 t274 w _ ?side1 ?side2 A59.out).mono ?_); (case side1 => repeat (first | (with_reducible first | exact HB.out | apply below_alloc | apply pw_below_drewN | apply below_drew1 | refine below_set ?_ GE261.out) | exact HB.out)); (case side2 => exact Kd.R_tight rfl HO_3.out); rintro e w62 ⟨v275, rfl, ho0, hb, hkp⟩; refine ⟨_, rfl, ?_⟩; have n0_ := Aside0.mk (blk_kept (by (with_reducible repeat (first | refine blk_drewN ?_ _ | refine blk_drew ?_ | refine blk_alloc ?_ _)); exact BK261.out) hkp (fun hs_ => (fun e_ => (Kd.R_ne HO_3.out BK261.out (by decide)) e_) hs_)); have n1_ := Aside0.mk (Kd.R_mono (ok' := fun k_ => True) ho0 (fun k_ hk_ => trivial)); have n2_ := Aside0.mk (hb); clear BK261; clear HB; clear HO_3; have BK261 := n0_; have HO276 := n1_; have HB := n2_; clear n0_ n1_ n2_; (try clear hb); (try clear hkp); (try clear ho0)))
    go_ret
    exact ⟨_, by first | rfl | (simp [errW_none, errW_some] <;> rfl) | (simp [*, errW_none, errW_some] <;> rfl), by (with_reducible repeat (first | apply Kd.R_alloc | apply Kd.R_drewN | apply Kd.R_drew)); exact HO276.out, by repeat (first | (with_reducible first | exact HB.out | apply below_alloc | apply pw_below_drewN | apply below_drew1 | refine below_set ?_ GE261.out) | exact HB.out)⟩

/-! ### calepinref15_Command: function 23 -/
def calepinref15_Command.l0 : Nat → List Int → List ByteArray → Int → Int → Int → ByteArray → ByteArray → ByteArray → ByteArray → ByteArray → ByteArray → List ByteArray → Int → Int → Int → Option (List Int)
 | 0, _, _, _, _, _, _, _, _, _, _, _, _, _, _, _ => none
 | k + 1, x3, x39, x40, x41, x295000, x295001, x295002, x295003, x295004, x295005, x295006, x295007, x295008, x295009, x295010 => if x41 < x40 then (if 0 ≤ x41 then (if x41 < (x39.length : Int) then ((calepinref15_text.f k x3 (rdOf ByteArray.empty x39 x41)).bind fun t320 => (calepinref15_Command.l0 k t320 x39 x40 (wrap64 (x41 + 1)) x295000 x295001 x295002 x295003 x295004 x295005 x295006 x295007 x295008 x295009 x295010)) else (none)) else (none)) else ((calepinref15_number.f k x3 x295008).bind fun t323 => ((calepinref15_number.f k t323 x295009).bind fun t326 => ((calepinref15_number.f k t326 x295010).bind fun t329 => (some t329))))
def calepinref15_Command.f (k : Nat) (a0_0 : Int) (a0_1 : ByteArray) (a0_2 : ByteArray) (a0_3 : ByteArray) (a0_4 : ByteArray) (a0_5 : ByteArray) (a0_6 : ByteArray) (l0_7 : List ByteArray) (a0_8 : Int) (a0_9 : Int) (a0_10 : Int) : Option (List Int) := (calepinref15_number.f k ([] : List Int) a0_0).bind fun t295 => ((calepinref15_text.f k t295 a0_1).bind fun t298 => ((calepinref15_text.f k t298 a0_2).bind fun t301 => ((calepinref15_text.f k t301 a0_3).bind fun t304 => ((calepinref15_text.f k t304 a0_4).bind fun t307 => ((calepinref15_text.f k t307 a0_5).bind fun t310 => ((calepinref15_text.f k t310 a0_6).bind fun t313 => ((calepinref15_number.f k t313 (l0_7.length : Int)).bind fun t316 => (calepinref15_Command.l0 k t316 l0_7 (l0_7.length : Int) 0 a0_0 a0_1 a0_2 a0_3 a0_4 a0_5 a0_6 l0_7 a0_8 a0_9 a0_10))))))))
theorem calepinref15_Command.mono_l : ∀ k, (∀ y0 y1 y2 y3 y4 y5 y6 y7 y8 y9 y10 y11 y12 y13 y14, LeO (calepinref15_Command.l0 k y0 y1 y2 y3 y4 y5 y6 y7 y8 y9 y10 y11 y12 y13 y14) (calepinref15_Command.l0 (k + 1) y0 y1 y2 y3 y4 y5 y6 y7 y8 y9 y10 y11 y12 y13 y14))
 | 0 => fun _ _ _ _ _ _ _ _ _ _ _ _ _ _ _ r h => by simp [calepinref15_Command.l0] at h
 | k + 1 => by
  have ih0 := calepinref15_Command.mono_l k
  ·intro y0 y1 y2 y3 y4 y5 y6 y7 y8 y9 y10 y11 y12 y13 y14
   unfold calepinref15_Command.l0
   repeat' first
   | (with_reducible exact ih0 _ _ _ _ _ _ _ _ _ _ _ _ _ _ _)
   | (with_reducible exact calepinref15_number.mono _ _ _)
   | (with_reducible exact calepinref15_text.mono _ _ _)
   | (with_reducible exact LeO.refl _)
   | (with_reducible exact LeO.none _)
   | (with_reducible refine LeO.ite ?_ ?_)
   | (with_reducible refine LeO.bind ?_ (fun _ => ?_))
   | exact ih0 _ _ _ _ _ _ _ _ _ _ _ _ _ _ _
   | exact calepinref15_number.mono _ _ _
   | exact calepinref15_text.mono _ _ _
   | exact LeO.none _
   | refine LeO.ite ?_ ?_
   | refine LeO.bind ?_ (fun _ => ?_)
theorem calepinref15_Command.mono : ∀ a0 a1 a2 a3 a4 a5 a6 a7 a8 a9 a10 k, LeO (calepinref15_Command.f k a0 a1 a2 a3 a4 a5 a6 a7 a8 a9 a10) (calepinref15_Command.f (k + 1) a0 a1 a2 a3 a4 a5 a6 a7 a8 a9 a10) := by
 intro a0 a1 a2 a3 a4 a5 a6 a7 a8 a9 a10 k
 have ih0 := calepinref15_Command.mono_l k
 unfold calepinref15_Command.f
 repeat' first
   | (with_reducible exact ih0 _ _ _ _ _ _ _ _ _ _ _ _ _ _ _)
   | (with_reducible exact calepinref15_number.mono _ _ _)
   | (with_reducible exact calepinref15_text.mono _ _ _)
   | (with_reducible exact LeO.refl _)
   | (with_reducible exact LeO.none _)
   | (with_reducible refine LeO.ite ?_ ?_)
   | (with_reducible refine LeO.bind ?_ (fun _ => ?_))
   | exact ih0 _ _ _ _ _ _ _ _ _ _ _ _ _ _ _
   | exact calepinref15_number.mono _ _ _
   | exact calepinref15_text.mono _ _ _
   | exact LeO.none _
   | refine LeO.ite ?_ ?_
   | refine LeO.bind ?_ (fun _ => ?_)
set_option maxHeartbeats 8000000 in
set_option maxRecDepth 100000 in
theorem calepinref15_Command.calls (k : Nat) (a0_0 : Int) (a0_1 : ByteArray) (a0_2 : ByteArray) (a0_3 : ByteArray) (a0_4 : ByteArray) (a0_5 : ByteArray) (a0_6 : ByteArray) (A0_7 : Option Addr) (c0_7 : Nat) (l0_7 : List ByteArray) (a0_8 : Int) (a0_9 : Int) (a0_10 : Int) (r : List Int) (w : World) (hr0_7 : Kd.C Kd.string w A0_7 l0_7.length l0_7) (hc0_7 : l0_7.length ≤ c0_7) (h : calepinref15_Command.f k a0_0 a0_1 a0_2 a0_3 a0_4 a0_5 a0_6 l0_7 a0_8 a0_9 a0_10 = some r) :
  Calls Try.prog 23 #[.agg #[.int .i64 a0_0, .string a0_1, .string a0_2, .string a0_3, .string a0_4, .string a0_5, .string a0_6, .slice A0_7 l0_7.length c0_7, .int .i64 a0_8, .int .i64 a0_9, .int .i64 a0_10]] w fun e w' => ∃ v0_ : Value, e = .returned (v0_) ∧ Kd.R (Kd.int .u8) 5 w' w.heap.size (fun _ => True) v0_ r ∧ Below w.heap.size w w' := by
 have hu25 := Try.underlying25
 have HR0_7 := Aside0.mk hr0_7
 have HC0_7 := Aside0.mk hc0_7
 clear hr0_7 hc0_7
 have HB := Aside0.mk (Below.refl w.heap.size w)
 have H : ((calepinref15_number.f k ([] : List Int) a0_0).bind fun t295 => ((calepinref15_text.f k t295 a0_1).bind fun t298 => ((calepinref15_text.f k t298 a0_2).bind fun t301 => ((calepinref15_text.f k t301 a0_3).bind fun t304 => ((calepinref15_text.f k t304 a0_4).bind fun t307 => ((calepinref15_text.f k t307 a0_5).bind fun t310 => ((calepinref15_text.f k t310 a0_6).bind fun t313 => ((calepinref15_number.f k t313 (l0_7.length : Int)).bind fun t316 => (calepinref15_Command.l0 k t316 l0_7 (l0_7.length : Int) 0 a0_0 a0_1 a0_2 a0_3 a0_4 a0_5 a0_6 l0_7 a0_8 a0_9 a0_10))))))))) = some r := h
 clear h
 replace H := Option.bind_eq_some_iff.mp H
 obtain ⟨t295, A20, H⟩ := H
 replace H : ((calepinref15_text.f k t295 a0_1).bind fun t298 => ((calepinref15_text.f k t298 a0_2).bind fun t301 => ((calepinref15_text.f k t301 a0_3).bind fun t304 => ((calepinref15_text.f k t304 a0_4).bind fun t307 => ((calepinref15_text.f k t307 a0_5).bind fun t310 => ((calepinref15_text.f k t310 a0_6).bind fun t313 => ((calepinref15_number.f k t313 (l0_7.length : Int)).bind fun t316 => (calepinref15_Command.l0 k t316 l0_7 (l0_7.length : Int) 0 a0_0 a0_1 a0_2 a0_3 a0_4 a0_5 a0_6 l0_7 a0_8 a0_9 a0_10)))))))) = some r := H
 have A2 := Aside0.mk A20
 clear A20
 replace H := Option.bind_eq_some_iff.mp H
 obtain ⟨t298, A30, H⟩ := H
 replace H : ((calepinref15_text.f k t298 a0_2).bind fun t301 => ((calepinref15_text.f k t301 a0_3).bind fun t304 => ((calepinref15_text.f k t304 a0_4).bind fun t307 => ((calepinref15_text.f k t307 a0_5).bind fun t310 => ((calepinref15_text.f k t310 a0_6).bind fun t313 => ((calepinref15_number.f k t313 (l0_7.length : Int)).bind fun t316 => (calepinref15_Command.l0 k t316 l0_7 (l0_7.length : Int) 0 a0_0 a0_1 a0_2 a0_3 a0_4 a0_5 a0_6 l0_7 a0_8 a0_9 a0_10))))))) = some r := H
 have A3 := Aside0.mk A30
 clear A30
 replace H := Option.bind_eq_some_iff.mp H
 obtain ⟨t301, A40, H⟩ := H
 replace H : ((calepinref15_text.f k t301 a0_3).bind fun t304 => ((calepinref15_text.f k t304 a0_4).bind fun t307 => ((calepinref15_text.f k t307 a0_5).bind fun t310 => ((calepinref15_text.f k t310 a0_6).bind fun t313 => ((calepinref15_number.f k t313 (l0_7.length : Int)).bind fun t316 => (calepinref15_Command.l0 k t316 l0_7 (l0_7.length : Int) 0 a0_0 a0_1 a0_2 a0_3 a0_4 a0_5 a0_6 l0_7 a0_8 a0_9 a0_10)))))) = some r := H
 have A4 := Aside0.mk A40
 clear A40
 replace H := Option.bind_eq_some_iff.mp H
 obtain ⟨t304, A50, H⟩ := H
 replace H : ((calepinref15_text.f k t304 a0_4).bind fun t307 => ((calepinref15_text.f k t307 a0_5).bind fun t310 => ((calepinref15_text.f k t310 a0_6).bind fun t313 => ((calepinref15_number.f k t313 (l0_7.length : Int)).bind fun t316 => (calepinref15_Command.l0 k t316 l0_7 (l0_7.length : Int) 0 a0_0 a0_1 a0_2 a0_3 a0_4 a0_5 a0_6 l0_7 a0_8 a0_9 a0_10))))) = some r := H
 have A5 := Aside0.mk A50
 clear A50
 replace H := Option.bind_eq_some_iff.mp H
 obtain ⟨t307, A60, H⟩ := H
 replace H : ((calepinref15_text.f k t307 a0_5).bind fun t310 => ((calepinref15_text.f k t310 a0_6).bind fun t313 => ((calepinref15_number.f k t313 (l0_7.length : Int)).bind fun t316 => (calepinref15_Command.l0 k t316 l0_7 (l0_7.length : Int) 0 a0_0 a0_1 a0_2 a0_3 a0_4 a0_5 a0_6 l0_7 a0_8 a0_9 a0_10)))) = some r := H
 have A6 := Aside0.mk A60
 clear A60
 replace H := Option.bind_eq_some_iff.mp H
 obtain ⟨t310, A70, H⟩ := H
 replace H : ((calepinref15_text.f k t310 a0_6).bind fun t313 => ((calepinref15_number.f k t313 (l0_7.length : Int)).bind fun t316 => (calepinref15_Command.l0 k t316 l0_7 (l0_7.length : Int) 0 a0_0 a0_1 a0_2 a0_3 a0_4 a0_5 a0_6 l0_7 a0_8 a0_9 a0_10))) = some r := H
 have A7 := Aside0.mk A70
 clear A70
 replace H := Option.bind_eq_some_iff.mp H
 obtain ⟨t313, A80, H⟩ := H
 replace H : ((calepinref15_number.f k t313 (l0_7.length : Int)).bind fun t316 => (calepinref15_Command.l0 k t316 l0_7 (l0_7.length : Int) 0 a0_0 a0_1 a0_2 a0_3 a0_4 a0_5 a0_6 l0_7 a0_8 a0_9 a0_10)) = some r := H
 have A8 := Aside0.mk A80
 clear A80
 replace H := Option.bind_eq_some_iff.mp H
 obtain ⟨t316, A90, H⟩ := H
 replace H : (calepinref15_Command.l0 k t316 l0_7 (l0_7.length : Int) 0 a0_0 a0_1 a0_2 a0_3 a0_4 a0_5 a0_6 l0_7 a0_8 a0_9 a0_10) = some r := H
 have A9 := Aside0.mk A90
 clear A90
 have H' := Aside0.mk H
 clear H
 go_enter Try.func23, Try.ntmps23
 go_wp2_with (first | ((with_reducible refine gate_dst (N := 1) rfl ?_); refine box_event ?hg (N := 1) ?hd (cs := #[.int .i64 a0_0, .string a0_1, .string a0_2, .string a0_3, .string a0_4, .string a0_5, .string a0_6, .slice A0_7 l0_7.length c0_7, .int .i64 a0_8, .int .i64 a0_9, .int .i64 a0_10]) (t := 25) ?hr ?_; (case hd => rfl); (case hg => rfl); (case hr => first | (go_simp; done) | (go_simp; rfl)); intro gb294 hg w10 hbox hb; have n0_ := Aside0.mk (below_step (by repeat (first | (with_reducible first | exact HB.out | apply below_alloc | apply pw_below_drewN | apply below_drew1) | exact HB.out)) hb); have n1_ := Aside0.mk (hbox); have n2_ := Aside0.mk ((by rw [hg]; exact (below_size (by repeat (first | (with_reducible first | exact HB.out | apply below_alloc | apply pw_below_drewN | apply below_drew1) | exact HB.out))) : w.heap.size ≤ gb294)); have n3_ := Aside0.mk ((by rw [hg]; exact (below_size (by repeat (first | (with_reducible first | exact HB.out | apply below_alloc | apply pw_below_drewN | apply below_drew1) | exact HB.out))) : w.heap.size ≤ gb294)); clear HB; have HB := n0_; have BK294 := n1_; have GW294 := n2_; have GE294 := n3_; clear n0_ n1_ n2_ n3_; clear hb hbox hg; have hcz11_0 : w10.cell? ⟨gb294, 0, none⟩ = some (.int .i64 a0_0) := (blk_cell BK294.out 0).trans rfl; have hcz11_1 : w10.cell? ⟨gb294, 1, none⟩ = some (.string a0_1) := (blk_cell BK294.out 1).trans rfl; have hcz11_2 : w10.cell? ⟨gb294, 2, none⟩ = some (.string a0_2) := (blk_cell BK294.out 2).trans rfl; have hcz11_3 : w10.cell? ⟨gb294, 3, none⟩ = some (.string a0_3) := (blk_cell BK294.out 3).trans rfl; have hcz11_4 : w10.cell? ⟨gb294, 4, none⟩ = some (.string a0_4) := (blk_cell BK294.out 4).trans rfl; have hcz11_5 : w10.cell? ⟨gb294, 5, none⟩ = some (.string a0_5) := (blk_cell BK294.out 5).trans rfl; have hcz11_6 : w10.cell? ⟨gb294, 6, none⟩ = some (.string a0_6) := (blk_cell BK294.out 6).trans rfl; have hcz11_7 : w10.cell? ⟨gb294, 7, none⟩ = some (.slice A0_7 l0_7.length c0_7) := (blk_cell BK294.out 7).trans rfl; have hcz11_8 : w10.cell? ⟨gb294, 8, none⟩ = some (.int .i64 a0_8) := (blk_cell BK294.out 8).trans rfl; have hcz11_9 : w10.cell? ⟨gb294, 9, none⟩ = some (.int .i64 a0_9) := (blk_cell BK294.out 9).trans rfl; have hcz11_10 : w10.cell? ⟨gb294, 10, none⟩ = some (.int .i64 a0_10) := (blk_cell BK294.out 10).trans rfl; have hfz11_0 := blk_frozen BK294.out 0; have hfz11_1 := blk_frozen BK294.out 1; have hfz11_2 := blk_frozen BK294.out 2; have hfz11_3 := blk_frozen BK294.out 3; have hfz11_4 := blk_frozen BK294.out 4; have hfz11_5 := blk_frozen BK294.out 5; have hfz11_6 := blk_frozen BK294.out 6; have hfz11_7 := blk_frozen BK294.out 7; have hfz11_8 := blk_frozen BK294.out 8; have hfz11_9 := blk_frozen BK294.out 9; have hfz11_10 := blk_frozen BK294.out 10) | ((with_reducible refine gate_callee (f := 48) rfl ?_); refine goesL_ (some 8) rfl rfl Try.func48 (by kernel_rfl) rfl #[.slice none 0 0, .int .i64 a0_0] rfl (by (try simp only [List.map_toArray, List.map_cons, List.map_nil]); first | done | rfl | (simp only [List.length_drop, List.length_take]; rfl)) ?_; (refine (calepinref15_number.calls k (fun k_ => some k_ = (.slice none 0 0 : Value).ownBlock) (.slice none 0 0) ([] : List Int) a0_0 t295 w _ ?side1 ?side2 A2.out).mono ?_); (case side1 => repeat (first | (with_reducible first | exact HB.out | apply below_alloc | apply pw_below_drewN | apply below_drew1 | refine below_set ?_ GE294.out) | exact HB.out)); (case side2 => exact Kd.R_nil _ _ _ _ _); rintro e w12 ⟨v296, rfl, ho0, hb, hkp⟩; refine ⟨_, rfl, ?_⟩; have n0_ := Aside0.mk (blk_kept (by (with_reducible repeat (first | refine blk_drewN ?_ _ | refine blk_drew ?_ | refine blk_alloc ?_ _)); exact BK294.out) hkp (fun hs_ => (fun e_ => by simp [Value.ownBlock] at e_) hs_)); have n1_ := Aside0.mk (Kd.R_mono (ok' := fun k_ => True) ho0 (fun k_ hk_ => trivial)); have n2_ := Aside0.mk (hb); clear BK294; clear HB; have BK294 := n0_; have HO297 := n1_; have HB := n2_; clear n0_ n1_ n2_; (try clear hb); (try clear hkp); (try clear ho0); have hcz13_0 : w12.cell? ⟨gb294, 0, none⟩ = some (.int .i64 a0_0) := (blk_cell BK294.out 0).trans rfl; have hcz13_1 : w12.cell? ⟨gb294, 1, none⟩ = some (.string a0_1) := (blk_cell BK294.out 1).trans rfl; have hcz13_2 : w12.cell? ⟨gb294, 2, none⟩ = some (.string a0_2) := (blk_cell BK294.out 2).trans rfl; have hcz13_3 : w12.cell? ⟨gb294, 3, none⟩ = some (.string a0_3) := (blk_cell BK294.out 3).trans rfl; have hcz13_4 : w12.cell? ⟨gb294, 4, none⟩ = some (.string a0_4) := (blk_cell BK294.out 4).trans rfl; have hcz13_5 : w12.cell? ⟨gb294, 5, none⟩ = some (.string a0_5) := (blk_cell BK294.out 5).trans rfl; have hcz13_6 : w12.cell? ⟨gb294, 6, none⟩ = some (.string a0_6) := (blk_cell BK294.out 6).trans rfl; have hcz13_7 : w12.cell? ⟨gb294, 7, none⟩ = some (.slice A0_7 l0_7.length c0_7) := (blk_cell BK294.out 7).trans rfl; have hcz13_8 : w12.cell? ⟨gb294, 8, none⟩ = some (.int .i64 a0_8) := (blk_cell BK294.out 8).trans rfl; have hcz13_9 : w12.cell? ⟨gb294, 9, none⟩ = some (.int .i64 a0_9) := (blk_cell BK294.out 9).trans rfl; have hcz13_10 : w12.cell? ⟨gb294, 10, none⟩ = some (.int .i64 a0_10) := (blk_cell BK294.out 10).trans rfl; have hfz13_0 := blk_frozen BK294.out 0; have hfz13_1 := blk_frozen BK294.out 1; have hfz13_2 := blk_frozen BK294.out 2; have hfz13_3 := blk_frozen BK294.out 3; have hfz13_4 := blk_frozen BK294.out 4; have hfz13_5 := blk_frozen BK294.out 5; have hfz13_6 := blk_frozen BK294.out 6; have hfz13_7 := blk_frozen BK294.out 7; have hfz13_8 := blk_frozen BK294.out 8; have hfz13_9 := blk_frozen BK294.out 9; have hfz13_10 := blk_frozen BK294.out 10; obtain ⟨Ao14, co14, eo14⟩ := Kd.R_slice HO297.out; subst eo14) | ((with_reducible refine gate_callee (f := 49) rfl ?_); refine goesL_ (some 12) rfl rfl Try.func49 (by kernel_rfl) rfl #[.slice Ao14 t295.length co14, .string a0_1] rfl (by (try simp only [List.map_toArray, List.map_cons, List.map_nil]); first | done | rfl | (simp only [List.length_drop, List.length_take]; rfl)) ?_; (with_reducible refine (calepinref15_text.calls k (fun k_ => some k_ = (.slice Ao14 t295.length co14 : Value).ownBlock) (.slice Ao14 t295.length co14) t295 a0_1 t298 w _ ?side1 ?side2 A3.out).mono ?_); (case side1 => repeat (first | (with_reducible first | exact HB.out | apply below_alloc | apply pw_below_drewN | apply below_drew1 | refine below_set ?_ GE294.out) | exact HB.out)); (case side2 => exact Kd.R_tight rfl HO297.out); rintro e w15 ⟨v299, rfl, ho0, hb, hkp⟩; refine ⟨_, rfl, ?_⟩; have n0_ := Aside0.mk (blk_kept (by (with_reducible repeat (first | refine blk_drewN ?_ _ | refine blk_drew ?_ | refine blk_alloc ?_ _)); exact BK294.out) hkp (fun hs_ => (fun e_ => (Kd.R_ne HO297.out BK294.out (by decide)) e_) hs_)); have n1_ := Aside0.mk (Kd.R_mono (ok' := fun k_ => True) ho0 (fun k_ hk_ => trivial)); have n2_ := Aside0.mk (hb); clear BK294; clear HB; clear HO297; have BK294 := n0_; have HO300 := n1_; have HB := n2_; clear n0_ n1_ n2_; (try clear hb); (try clear hkp); (try clear ho0); have hcz16_0 : w15.cell? ⟨gb294, 0, none⟩ = some (.int .i64 a0_0) := (blk_cell BK294.out 0).trans rfl; have hcz16_1 : w15.cell? ⟨gb294, 1, none⟩ = some (.string a0_1) := (blk_cell BK294.out 1).trans rfl; have hcz16_2 : w15.cell? ⟨gb294, 2, none⟩ = some (.string a0_2) := (blk_cell BK294.out 2).trans rfl; have hcz16_3 : w15.cell? ⟨gb294, 3, none⟩ = some (.string a0_3) := (blk_cell BK294.out 3).trans rfl; have hcz16_4 : w15.cell? ⟨gb294, 4, none⟩ = some (.string a0_4) := (blk_cell BK294.out 4).trans rfl; have hcz16_5 : w15.cell? ⟨gb294, 5, none⟩ = some (.string a0_5) := (blk_cell BK294.out 5).trans rfl; have hcz16_6 : w15.cell? ⟨gb294, 6, none⟩ = some (.string a0_6) := (blk_cell BK294.out 6).trans rfl; have hcz16_7 : w15.cell? ⟨gb294, 7, none⟩ = some (.slice A0_7 l0_7.length c0_7) := (blk_cell BK294.out 7).trans rfl; have hcz16_8 : w15.cell? ⟨gb294, 8, none⟩ = some (.int .i64 a0_8) := (blk_cell BK294.out 8).trans rfl; have hcz16_9 : w15.cell? ⟨gb294, 9, none⟩ = some (.int .i64 a0_9) := (blk_cell BK294.out 9).trans rfl; have hcz16_10 : w15.cell? ⟨gb294, 10, none⟩ = some (.int .i64 a0_10) := (blk_cell BK294.out 10).trans rfl; have hfz16_0 := blk_frozen BK294.out 0; have hfz16_1 := blk_frozen BK294.out 1; have hfz16_2 := blk_frozen BK294.out 2; have hfz16_3 := blk_frozen BK294.out 3; have hfz16_4 := blk_frozen BK294.out 4; have hfz16_5 := blk_frozen BK294.out 5; have hfz16_6 := blk_frozen BK294.out 6; have hfz16_7 := blk_frozen BK294.out 7; have hfz16_8 := blk_frozen BK294.out 8; have hfz16_9 := blk_frozen BK294.out 9; have hfz16_10 := blk_frozen BK294.out 10; obtain ⟨Ao17, co17, eo17⟩ := Kd.R_slice HO300.out; subst eo17) | ((with_reducible refine gate_callee (f := 49) rfl ?_); refine goesL_ (some 16) rfl rfl Try.func49 (by kernel_rfl) rfl #[.slice Ao17 t298.length co17, .string a0_2] rfl (by (try simp only [List.map_toArray, List.map_cons, List.map_nil]); first | done | rfl | (simp only [List.length_drop, List.length_take]; rfl)) ?_; (with_reducible refine (calepinref15_text.calls k (fun k_ => some k_ = (.slice Ao17 t298.length co17 : Value).ownBlock) (.slice Ao17 t298.length co17) t298 a0_2 t301 w _ ?side1 ?side2 A4.out).mono ?_); (case side1 => repeat (first | (with_reducible first | exact HB.out | apply below_alloc | apply pw_below_drewN | apply below_drew1 | refine below_set ?_ GE294.out) | exact HB.out)); (case side2 => exact Kd.R_tight rfl HO300.out); rintro e w18 ⟨v302, rfl, ho0, hb, hkp⟩; refine ⟨_, rfl, ?_⟩; have n0_ := Aside0.mk (blk_kept (by (with_reducible repeat (first | refine blk_drewN ?_ _ | refine blk_drew ?_ | refine blk_alloc ?_ _)); exact BK294.out) hkp (fun hs_ => (fun e_ => (Kd.R_ne HO300.out BK294.out (by decide)) e_) hs_)); have n1_ := Aside0.mk (Kd.R_mono (ok' := fun k_ => True) ho0 (fun k_ hk_ => trivial)); have n2_ := Aside0.mk (hb); clear BK294; clear HB; clear HO300; have BK294 := n0_; have HO303 := n1_; have HB := n2_; clear n0_ n1_ n2_; (try clear hb); (try clear hkp); (try clear ho0); have hcz19_0 : w18.cell? ⟨gb294, 0, none⟩ = some (.int .i64 a0_0) := (blk_cell BK294.out 0).trans rfl; have hcz19_1 : w18.cell? ⟨gb294, 1, none⟩ = some (.string a0_1) := (blk_cell BK294.out 1).trans rfl; have hcz19_2 : w18.cell? ⟨gb294, 2, none⟩ = some (.string a0_2) := (blk_cell BK294.out 2).trans rfl; have hcz19_3 : w18.cell? ⟨gb294, 3, none⟩ = some (.string a0_3) := (blk_cell BK294.out 3).trans rfl; have hcz19_4 : w18.cell? ⟨gb294, 4, none⟩ = some (.string a0_4) := (blk_cell BK294.out 4).trans rfl; have hcz19_5 : w18.cell? ⟨gb294, 5, none⟩ = some (.string a0_5) := (blk_cell BK294.out 5).trans rfl; have hcz19_6 : w18.cell? ⟨gb294, 6, none⟩ = some (.string a0_6) := (blk_cell BK294.out 6).trans rfl; have hcz19_7 : w18.cell? ⟨gb294, 7, none⟩ = some (.slice A0_7 l0_7.length c0_7) := (blk_cell BK294.out 7).trans rfl; have hcz19_8 : w18.cell? ⟨gb294, 8, none⟩ = some (.int .i64 a0_8) := (blk_cell BK294.out 8).trans rfl; have hcz19_9 : w18.cell? ⟨gb294, 9, none⟩ = some (.int .i64 a0_9) := (blk_cell BK294.out 9).trans rfl; have hcz19_10 : w18.cell? ⟨gb294, 10, none⟩ = some (.int .i64 a0_10) := (blk_cell BK294.out 10).trans rfl; have hfz19_0 := blk_frozen BK294.out 0; have hfz19_1 := blk_frozen BK294.out 1; have hfz19_2 := blk_frozen BK294.out 2; have hfz19_3 := blk_frozen BK294.out 3; have hfz19_4 := blk_frozen BK294.out 4; have hfz19_5 := blk_frozen BK294.out 5; have hfz19_6 := blk_frozen BK294.out 6; have hfz19_7 := blk_frozen BK294.out 7; have hfz19_8 := blk_frozen BK294.out 8; have hfz19_9 := blk_frozen BK294.out 9; have hfz19_10 := blk_frozen BK294.out 10; obtain ⟨Ao20, co20, eo20⟩ := Kd.R_slice HO303.out; subst eo20) | ((with_reducible refine gate_callee (f := 49) rfl ?_); refine goesL_ (some 20) rfl rfl Try.func49 (by kernel_rfl) rfl #[.slice Ao20 t301.length co20, .string a0_3] rfl (by (try simp only [List.map_toArray, List.map_cons, List.map_nil]); first | done | rfl | (simp only [List.length_drop, List.length_take]; rfl)) ?_; (with_reducible refine (calepinref15_text.calls k (fun k_ => some k_ = (.slice Ao20 t301.length co20 : Value).ownBlock) (.slice Ao20 t301.length co20) t301 a0_3 t304 w _ ?side1 ?side2 A5.out).mono ?_); (case side1 => repeat (first | (with_reducible first | exact HB.out | apply below_alloc | apply pw_below_drewN | apply below_drew1 | refine below_set ?_ GE294.out) | exact HB.out)); (case side2 => exact Kd.R_tight rfl HO303.out); rintro e w21 ⟨v305, rfl, ho0, hb, hkp⟩; refine ⟨_, rfl, ?_⟩; have n0_ := Aside0.mk (blk_kept (by (with_reducible repeat (first | refine blk_drewN ?_ _ | refine blk_drew ?_ | refine blk_alloc ?_ _)); exact BK294.out) hkp (fun hs_ => (fun e_ => (Kd.R_ne HO303.out BK294.out (by decide)) e_) hs_)); have n1_ := Aside0.mk (Kd.R_mono (ok' := fun k_ => True) ho0 (fun k_ hk_ => trivial)); have n2_ := Aside0.mk (hb); clear BK294; clear HB; clear HO303; have BK294 := n0_; have HO306 := n1_; have HB := n2_; clear n0_ n1_ n2_; (try clear hb); (try clear hkp); (try clear ho0); have hcz22_0 : w21.cell? ⟨gb294, 0, none⟩ = some (.int .i64 a0_0) := (blk_cell BK294.out 0).trans rfl; have hcz22_1 : w21.cell? ⟨gb294, 1, none⟩ = some (.string a0_1) := (blk_cell BK294.out 1).trans rfl; have hcz22_2 : w21.cell? ⟨gb294, 2, none⟩ = some (.string a0_2) := (blk_cell BK294.out 2).trans rfl; have hcz22_3 : w21.cell? ⟨gb294, 3, none⟩ = some (.string a0_3) := (blk_cell BK294.out 3).trans rfl; have hcz22_4 : w21.cell? ⟨gb294, 4, none⟩ = some (.string a0_4) := (blk_cell BK294.out 4).trans rfl; have hcz22_5 : w21.cell? ⟨gb294, 5, none⟩ = some (.string a0_5) := (blk_cell BK294.out 5).trans rfl; have hcz22_6 : w21.cell? ⟨gb294, 6, none⟩ = some (.string a0_6) := (blk_cell BK294.out 6).trans rfl; have hcz22_7 : w21.cell? ⟨gb294, 7, none⟩ = some (.slice A0_7 l0_7.length c0_7) := (blk_cell BK294.out 7).trans rfl; have hcz22_8 : w21.cell? ⟨gb294, 8, none⟩ = some (.int .i64 a0_8) := (blk_cell BK294.out 8).trans rfl; have hcz22_9 : w21.cell? ⟨gb294, 9, none⟩ = some (.int .i64 a0_9) := (blk_cell BK294.out 9).trans rfl; have hcz22_10 : w21.cell? ⟨gb294, 10, none⟩ = some (.int .i64 a0_10) := (blk_cell BK294.out 10).trans rfl; have hfz22_0 := blk_frozen BK294.out 0; have hfz22_1 := blk_frozen BK294.out 1; have hfz22_2 := blk_frozen BK294.out 2; have hfz22_3 := blk_frozen BK294.out 3; have hfz22_4 := blk_frozen BK294.out 4; have hfz22_5 := blk_frozen BK294.out 5; have hfz22_6 := blk_frozen BK294.out 6; have hfz22_7 := blk_frozen BK294.out 7; have hfz22_8 := blk_frozen BK294.out 8; have hfz22_9 := blk_frozen BK294.out 9; have hfz22_10 := blk_frozen BK294.out 10; obtain ⟨Ao23, co23, eo23⟩ := Kd.R_slice HO306.out; subst eo23) | ((with_reducible refine gate_callee (f := 49) rfl ?_); refine goesL_ (some 24) rfl rfl Try.func49 (by kernel_rfl) rfl #[.slice Ao23 t304.length co23, .string a0_4] rfl (by (try simp only [List.map_toArray, List.map_cons, List.map_nil]); first | done | rfl | (simp only [List.length_drop, List.length_take]; rfl)) ?_; (with_reducible refine (calepinref15_text.calls k (fun k_ => some k_ = (.slice Ao23 t304.length co23 : Value).ownBlock) (.slice Ao23 t304.length co23) t304 a0_4 t307 w _ ?side1 ?side2 A6.out).mono ?_); (case side1 => repeat (first | (with_reducible first | exact HB.out | apply below_alloc | apply pw_below_drewN | apply below_drew1 | refine below_set ?_ GE294.out) | exact HB.out)); (case side2 => exact Kd.R_tight rfl HO306.out); rintro e w24 ⟨v308, rfl, ho0, hb, hkp⟩; refine ⟨_, rfl, ?_⟩; have n0_ := Aside0.mk (blk_kept (by (with_reducible repeat (first | refine blk_drewN ?_ _ | refine blk_drew ?_ | refine blk_alloc ?_ _)); exact BK294.out) hkp (fun hs_ => (fun e_ => (Kd.R_ne HO306.out BK294.out (by decide)) e_) hs_)); have n1_ := Aside0.mk (Kd.R_mono (ok' := fun k_ => True) ho0 (fun k_ hk_ => trivial)); have n2_ := Aside0.mk (hb); clear BK294; clear HB; clear HO306; have BK294 := n0_; have HO309 := n1_; have HB := n2_; clear n0_ n1_ n2_; (try clear hb); (try clear hkp); (try clear ho0); have hcz25_0 : w24.cell? ⟨gb294, 0, none⟩ = some (.int .i64 a0_0) := (blk_cell BK294.out 0).trans rfl; have hcz25_1 : w24.cell? ⟨gb294, 1, none⟩ = some (.string a0_1) := (blk_cell BK294.out 1).trans rfl; have hcz25_2 : w24.cell? ⟨gb294, 2, none⟩ = some (.string a0_2) := (blk_cell BK294.out 2).trans rfl; have hcz25_3 : w24.cell? ⟨gb294, 3, none⟩ = some (.string a0_3) := (blk_cell BK294.out 3).trans rfl; have hcz25_4 : w24.cell? ⟨gb294, 4, none⟩ = some (.string a0_4) := (blk_cell BK294.out 4).trans rfl; have hcz25_5 : w24.cell? ⟨gb294, 5, none⟩ = some (.string a0_5) := (blk_cell BK294.out 5).trans rfl; have hcz25_6 : w24.cell? ⟨gb294, 6, none⟩ = some (.string a0_6) := (blk_cell BK294.out 6).trans rfl; have hcz25_7 : w24.cell? ⟨gb294, 7, none⟩ = some (.slice A0_7 l0_7.length c0_7) := (blk_cell BK294.out 7).trans rfl; have hcz25_8 : w24.cell? ⟨gb294, 8, none⟩ = some (.int .i64 a0_8) := (blk_cell BK294.out 8).trans rfl; have hcz25_9 : w24.cell? ⟨gb294, 9, none⟩ = some (.int .i64 a0_9) := (blk_cell BK294.out 9).trans rfl; have hcz25_10 : w24.cell? ⟨gb294, 10, none⟩ = some (.int .i64 a0_10) := (blk_cell BK294.out 10).trans rfl; have hfz25_0 := blk_frozen BK294.out 0; have hfz25_1 := blk_frozen BK294.out 1; have hfz25_2 := blk_frozen BK294.out 2; have hfz25_3 := blk_frozen BK294.out 3; have hfz25_4 := blk_frozen BK294.out 4; have hfz25_5 := blk_frozen BK294.out 5; have hfz25_6 := blk_frozen BK294.out 6; have hfz25_7 := blk_frozen BK294.out 7; have hfz25_8 := blk_frozen BK294.out 8; have hfz25_9 := blk_frozen BK294.out 9; have hfz25_10 := blk_frozen BK294.out 10; obtain ⟨Ao26, co26, eo26⟩ := Kd.R_slice HO309.out; subst eo26) | ((with_reducible refine gate_callee (f := 49) rfl ?_); refine goesL_ (some 28) rfl rfl Try.func49 (by kernel_rfl) rfl #[.slice Ao26 t307.length co26, .string a0_5] rfl (by (try simp only [List.map_toArray, List.map_cons, List.map_nil]); first | done | rfl | (simp only [List.length_drop, List.length_take]; rfl)) ?_; (with_reducible refine (calepinref15_text.calls k (fun k_ => some k_ = (.slice Ao26 t307.length co26 : Value).ownBlock) (.slice Ao26 t307.length co26) t307 a0_5 t310 w _ ?side1 ?side2 A7.out).mono ?_); (case side1 => repeat (first | (with_reducible first | exact HB.out | apply below_alloc | apply pw_below_drewN | apply below_drew1 | refine below_set ?_ GE294.out) | exact HB.out)); (case side2 => exact Kd.R_tight rfl HO309.out); rintro e w27 ⟨v311, rfl, ho0, hb, hkp⟩; refine ⟨_, rfl, ?_⟩; have n0_ := Aside0.mk (blk_kept (by (with_reducible repeat (first | refine blk_drewN ?_ _ | refine blk_drew ?_ | refine blk_alloc ?_ _)); exact BK294.out) hkp (fun hs_ => (fun e_ => (Kd.R_ne HO309.out BK294.out (by decide)) e_) hs_)); have n1_ := Aside0.mk (Kd.R_mono (ok' := fun k_ => True) ho0 (fun k_ hk_ => trivial)); have n2_ := Aside0.mk (hb); clear BK294; clear HB; clear HO309; have BK294 := n0_; have HO312 := n1_; have HB := n2_; clear n0_ n1_ n2_; (try clear hb); (try clear hkp); (try clear ho0); have hcz28_0 : w27.cell? ⟨gb294, 0, none⟩ = some (.int .i64 a0_0) := (blk_cell BK294.out 0).trans rfl; have hcz28_1 : w27.cell? ⟨gb294, 1, none⟩ = some (.string a0_1) := (blk_cell BK294.out 1).trans rfl; have hcz28_2 : w27.cell? ⟨gb294, 2, none⟩ = some (.string a0_2) := (blk_cell BK294.out 2).trans rfl; have hcz28_3 : w27.cell? ⟨gb294, 3, none⟩ = some (.string a0_3) := (blk_cell BK294.out 3).trans rfl; have hcz28_4 : w27.cell? ⟨gb294, 4, none⟩ = some (.string a0_4) := (blk_cell BK294.out 4).trans rfl; have hcz28_5 : w27.cell? ⟨gb294, 5, none⟩ = some (.string a0_5) := (blk_cell BK294.out 5).trans rfl; have hcz28_6 : w27.cell? ⟨gb294, 6, none⟩ = some (.string a0_6) := (blk_cell BK294.out 6).trans rfl; have hcz28_7 : w27.cell? ⟨gb294, 7, none⟩ = some (.slice A0_7 l0_7.length c0_7) := (blk_cell BK294.out 7).trans rfl; have hcz28_8 : w27.cell? ⟨gb294, 8, none⟩ = some (.int .i64 a0_8) := (blk_cell BK294.out 8).trans rfl; have hcz28_9 : w27.cell? ⟨gb294, 9, none⟩ = some (.int .i64 a0_9) := (blk_cell BK294.out 9).trans rfl; have hcz28_10 : w27.cell? ⟨gb294, 10, none⟩ = some (.int .i64 a0_10) := (blk_cell BK294.out 10).trans rfl; have hfz28_0 := blk_frozen BK294.out 0; have hfz28_1 := blk_frozen BK294.out 1; have hfz28_2 := blk_frozen BK294.out 2; have hfz28_3 := blk_frozen BK294.out 3; have hfz28_4 := blk_frozen BK294.out 4; have hfz28_5 := blk_frozen BK294.out 5; have hfz28_6 := blk_frozen BK294.out 6; have hfz28_7 := blk_frozen BK294.out 7; have hfz28_8 := blk_frozen BK294.out 8; have hfz28_9 := blk_frozen BK294.out 9; have hfz28_10 := blk_frozen BK294.out 10; obtain ⟨Ao29, co29, eo29⟩ := Kd.R_slice HO312.out; subst eo29) | ((with_reducible refine gate_callee (f := 49) rfl ?_); refine goesL_ (some 32) rfl rfl Try.func49 (by kernel_rfl) rfl #[.slice Ao29 t310.length co29, .string a0_6] rfl (by (try simp only [List.map_toArray, List.map_cons, List.map_nil]); first | done | rfl | (simp only [List.length_drop, List.length_take]; rfl)) ?_; (with_reducible refine (calepinref15_text.calls k (fun k_ => some k_ = (.slice Ao29 t310.length co29 : Value).ownBlock) (.slice Ao29 t310.length co29) t310 a0_6 t313 w _ ?side1 ?side2 A8.out).mono ?_); (case side1 => repeat (first | (with_reducible first | exact HB.out | apply below_alloc | apply pw_below_drewN | apply below_drew1 | refine below_set ?_ GE294.out) | exact HB.out)); (case side2 => exact Kd.R_tight rfl HO312.out); rintro e w30 ⟨v314, rfl, ho0, hb, hkp⟩; refine ⟨_, rfl, ?_⟩; have n0_ := Aside0.mk (blk_kept (by (with_reducible repeat (first | refine blk_drewN ?_ _ | refine blk_drew ?_ | refine blk_alloc ?_ _)); exact BK294.out) hkp (fun hs_ => (fun e_ => (Kd.R_ne HO312.out BK294.out (by decide)) e_) hs_)); have n1_ := Aside0.mk (Kd.R_mono (ok' := fun k_ => True) ho0 (fun k_ hk_ => trivial)); have n2_ := Aside0.mk (hb); clear BK294; clear HB; clear HO312; have BK294 := n0_; have HO315 := n1_; have HB := n2_; clear n0_ n1_ n2_; (try clear hb); (try clear hkp); (try clear ho0); have hcz31_0 : w30.cell? ⟨gb294, 0, none⟩ = some (.int .i64 a0_0) := (blk_cell BK294.out 0).trans rfl; have hcz31_1 : w30.cell? ⟨gb294, 1, none⟩ = some (.string a0_1) := (blk_cell BK294.out 1).trans rfl; have hcz31_2 : w30.cell? ⟨gb294, 2, none⟩ = some (.string a0_2) := (blk_cell BK294.out 2).trans rfl; have hcz31_3 : w30.cell? ⟨gb294, 3, none⟩ = some (.string a0_3) := (blk_cell BK294.out 3).trans rfl; have hcz31_4 : w30.cell? ⟨gb294, 4, none⟩ = some (.string a0_4) := (blk_cell BK294.out 4).trans rfl; have hcz31_5 : w30.cell? ⟨gb294, 5, none⟩ = some (.string a0_5) := (blk_cell BK294.out 5).trans rfl; have hcz31_6 : w30.cell? ⟨gb294, 6, none⟩ = some (.string a0_6) := (blk_cell BK294.out 6).trans rfl; have hcz31_7 : w30.cell? ⟨gb294, 7, none⟩ = some (.slice A0_7 l0_7.length c0_7) := (blk_cell BK294.out 7).trans rfl; have hcz31_8 : w30.cell? ⟨gb294, 8, none⟩ = some (.int .i64 a0_8) := (blk_cell BK294.out 8).trans rfl; have hcz31_9 : w30.cell? ⟨gb294, 9, none⟩ = some (.int .i64 a0_9) := (blk_cell BK294.out 9).trans rfl; have hcz31_10 : w30.cell? ⟨gb294, 10, none⟩ = some (.int .i64 a0_10) := (blk_cell BK294.out 10).trans rfl; have hfz31_0 := blk_frozen BK294.out 0; have hfz31_1 := blk_frozen BK294.out 1; have hfz31_2 := blk_frozen BK294.out 2; have hfz31_3 := blk_frozen BK294.out 3; have hfz31_4 := blk_frozen BK294.out 4; have hfz31_5 := blk_frozen BK294.out 5; have hfz31_6 := blk_frozen BK294.out 6; have hfz31_7 := blk_frozen BK294.out 7; have hfz31_8 := blk_frozen BK294.out 8; have hfz31_9 := blk_frozen BK294.out 9; have hfz31_10 := blk_frozen BK294.out 10; obtain ⟨Ao32, co32, eo32⟩ := Kd.R_slice HO315.out; subst eo32) | ((with_reducible refine gate_callee (f := 48) rfl ?_); refine goesL_ (some 37) rfl rfl Try.func48 (by kernel_rfl) rfl #[.slice Ao32 t313.length co32, .int .i64 (l0_7.length : Int)] rfl (by (try simp only [List.map_toArray, List.map_cons, List.map_nil]); first | done | rfl | (simp only [List.length_drop, List.length_take]; rfl)) ?_; (with_reducible refine (calepinref15_number.calls k (fun k_ => some k_ = (.slice Ao32 t313.length co32 : Value).ownBlock) (.slice Ao32 t313.length co32) t313 (l0_7.length : Int) t316 w _ ?side1 ?side2 A9.out).mono ?_); (case side1 => repeat (first | (with_reducible first | exact HB.out | apply below_alloc | apply pw_below_drewN | apply below_drew1 | refine below_set ?_ GE294.out) | exact HB.out)); (case side2 => exact Kd.R_tight rfl HO315.out); rintro e w33 ⟨v317, rfl, ho0, hb, hkp⟩; refine ⟨_, rfl, ?_⟩; have n0_ := Aside0.mk (blk_kept (by (with_reducible repeat (first | refine blk_drewN ?_ _ | refine blk_drew ?_ | refine blk_alloc ?_ _)); exact BK294.out) hkp (fun hs_ => (fun e_ => (Kd.R_ne HO315.out BK294.out (by decide)) e_) hs_)); have n1_ := Aside0.mk (Kd.R_mono (ok' := fun k_ => True) ho0 (fun k_ hk_ => trivial)); have n2_ := Aside0.mk (hb); clear BK294; clear HB; clear HO315; have BK294 := n0_; have HO318 := n1_; have HB := n2_; clear n0_ n1_ n2_; (try clear hb); (try clear hkp); (try clear ho0); have hcz34_0 : w33.cell? ⟨gb294, 0, none⟩ = some (.int .i64 a0_0) := (blk_cell BK294.out 0).trans rfl; have hcz34_1 : w33.cell? ⟨gb294, 1, none⟩ = some (.string a0_1) := (blk_cell BK294.out 1).trans rfl; have hcz34_2 : w33.cell? ⟨gb294, 2, none⟩ = some (.string a0_2) := (blk_cell BK294.out 2).trans rfl; have hcz34_3 : w33.cell? ⟨gb294, 3, none⟩ = some (.string a0_3) := (blk_cell BK294.out 3).trans rfl; have hcz34_4 : w33.cell? ⟨gb294, 4, none⟩ = some (.string a0_4) := (blk_cell BK294.out 4).trans rfl; have hcz34_5 : w33.cell? ⟨gb294, 5, none⟩ = some (.string a0_5) := (blk_cell BK294.out 5).trans rfl; have hcz34_6 : w33.cell? ⟨gb294, 6, none⟩ = some (.string a0_6) := (blk_cell BK294.out 6).trans rfl; have hcz34_7 : w33.cell? ⟨gb294, 7, none⟩ = some (.slice A0_7 l0_7.length c0_7) := (blk_cell BK294.out 7).trans rfl; have hcz34_8 : w33.cell? ⟨gb294, 8, none⟩ = some (.int .i64 a0_8) := (blk_cell BK294.out 8).trans rfl; have hcz34_9 : w33.cell? ⟨gb294, 9, none⟩ = some (.int .i64 a0_9) := (blk_cell BK294.out 9).trans rfl; have hcz34_10 : w33.cell? ⟨gb294, 10, none⟩ = some (.int .i64 a0_10) := (blk_cell BK294.out 10).trans rfl; have hfz34_0 := blk_frozen BK294.out 0; have hfz34_1 := blk_frozen BK294.out 1; have hfz34_2 := blk_frozen BK294.out 2; have hfz34_3 := blk_frozen BK294.out 3; have hfz34_4 := blk_frozen BK294.out 4; have hfz34_5 := blk_frozen BK294.out 5; have hfz34_6 := blk_frozen BK294.out 6; have hfz34_7 := blk_frozen BK294.out 7; have hfz34_8 := blk_frozen BK294.out 8; have hfz34_9 := blk_frozen BK294.out 9; have hfz34_10 := blk_frozen BK294.out 10))
 go_loopg [3, 41] k (fun kq v3 v41 w' => ∃ (x3_1 : List Int) (x41_1 : Int), v41 = .int .i64 x41_1 ∧ Aside0 (calepinref15_Command.l0 kq x3_1 l0_7 (l0_7.length : Int) x41_1 a0_0 a0_1 a0_2 a0_3 a0_4 a0_5 a0_6 l0_7 a0_8 a0_9 a0_10 = some r) ∧ Aside0 (kq ≤ k) ∧ Aside0 (Kd.R (Kd.int .u8) 5 w' w.heap.size (fun _ => True) v3 x3_1) ∧ Aside0 (w'.heap[gb294]? = some (.cells #[.int .i64 a0_0, .string a0_1, .string a0_2, .string a0_3, .string a0_4, .string a0_5, .string a0_6, (.slice A0_7 l0_7.length c0_7), .int .i64 a0_8, .int .i64 a0_9, .int .i64 a0_10] 25 (0, 0))) ∧ Aside0 (Below w.heap.size w w'))
 case atStart => exact ⟨(t316), (0), (by first | rfl | (simp; done) | (simp [*]; done)), H', ⟨Nat.le_refl _⟩, ⟨by (with_reducible repeat (first | apply Kd.R_alloc | apply Kd.R_drewN | apply Kd.R_drew)); exact HO318.out⟩, ⟨by (with_reducible repeat (first | refine blk_drewN ?_ _ | refine blk_drew ?_ | refine blk_alloc ?_ _)); exact BK294.out⟩, ⟨by repeat (first | (with_reducible first | exact HB.out | apply below_alloc | apply pw_below_drewN | apply below_drew1 | refine below_set ?_ GE294.out) | exact HB.out)⟩⟩
 case round =>
  clear H'
  try clear c2
  try clear p2
  try clear c4
  try clear c23
  try clear hcz11_0
  try clear hcz11_1
  try clear hcz11_10
  try clear hcz11_2
  try clear hcz11_3
  try clear hcz11_4
  try clear hcz11_5
  try clear hcz11_6
  try clear hcz11_7
  try clear hcz11_8
  try clear hcz11_9
  try clear hcz13_0
  try clear hcz13_1
  try clear hcz13_10
  try clear hcz13_2
  try clear hcz13_3
  try clear hcz13_4
  try clear hcz13_5
  try clear hcz13_6
  try clear hcz13_7
  try clear hcz13_8
  try clear hcz13_9
  try clear hcz16_0
  try clear hcz16_1
  try clear hcz16_10
  try clear hcz16_2
  try clear hcz16_3
  try clear hcz16_4
  try clear hcz16_5
  try clear hcz16_6
  try clear hcz16_7
  try clear hcz16_8
  try clear hcz16_9
  try clear hcz19_0
  try clear hcz19_1
  try clear hcz19_10
  try clear hcz19_2
  try clear hcz19_3
  try clear hcz19_4
  try clear hcz19_5
  try clear hcz19_6
  try clear hcz19_7
  try clear hcz19_8
  try clear hcz19_9
  try clear hcz22_0
  try clear hcz22_1
  try clear hcz22_10
  try clear hcz22_2
  try clear hcz22_3
  try clear hcz22_4
  try clear hcz22_5
  try clear hcz22_6
  try clear hcz22_7
  try clear hcz22_8
  try clear hcz22_9
  try clear hcz25_0
  try clear hcz25_1
  try clear hcz25_10
  try clear hcz25_2
  try clear hcz25_3
  try clear hcz25_4
  try clear hcz25_5
  try clear hcz25_6
  try clear hcz25_7
  try clear hcz25_8
  try clear hcz25_9
  try clear hcz28_0
  try clear hcz28_1
  try clear hcz28_10
  try clear hcz28_2
  try clear hcz28_3
  try clear hcz28_4
  try clear hcz28_5
  try clear hcz28_6
  try clear hcz28_7
  try clear hcz28_8
  try clear hcz28_9
  try clear hcz31_0
  try clear hcz31_1
  try clear hcz31_10
  try clear hcz31_2
  try clear hcz31_3
  try clear hcz31_4
  try clear hcz31_5
  try clear hcz31_6
  try clear hcz31_7
  try clear hcz31_8
  try clear hcz31_9
  try clear hcz34_0
  try clear hcz34_1
  try clear hcz34_10
  try clear hcz34_2
  try clear hcz34_3
  try clear hcz34_4
  try clear hcz34_5
  try clear hcz34_6
  try clear hcz34_7
  try clear hcz34_8
  try clear hcz34_9
  try clear hfz11_0
  try clear hfz11_1
  try clear hfz11_10
  try clear hfz11_2
  try clear hfz11_3
  try clear hfz11_4
  try clear hfz11_5
  try clear hfz11_6
  try clear hfz11_7
  try clear hfz11_8
  try clear hfz11_9
  try clear hfz13_0
  try clear hfz13_1
  try clear hfz13_10
  try clear hfz13_2
  try clear hfz13_3
  try clear hfz13_4
  try clear hfz13_5
  try clear hfz13_6
  try clear hfz13_7
  try clear hfz13_8
  try clear hfz13_9
  try clear hfz16_0
  try clear hfz16_1
  try clear hfz16_10
  try clear hfz16_2
  try clear hfz16_3
  try clear hfz16_4
  try clear hfz16_5
  try clear hfz16_6
  try clear hfz16_7
  try clear hfz16_8
  try clear hfz16_9
  try clear hfz19_0
  try clear hfz19_1
  try clear hfz19_10
  try clear hfz19_2
  try clear hfz19_3
  try clear hfz19_4
  try clear hfz19_5
  try clear hfz19_6
  try clear hfz19_7
  try clear hfz19_8
  try clear hfz19_9
  try clear hfz22_0
  try clear hfz22_1
  try clear hfz22_10
  try clear hfz22_2
  try clear hfz22_3
  try clear hfz22_4
  try clear hfz22_5
  try clear hfz22_6
  try clear hfz22_7
  try clear hfz22_8
  try clear hfz22_9
  try clear hfz25_0
  try clear hfz25_1
  try clear hfz25_10
  try clear hfz25_2
  try clear hfz25_3
  try clear hfz25_4
  try clear hfz25_5
  try clear hfz25_6
  try clear hfz25_7
  try clear hfz25_8
  try clear hfz25_9
  try clear hfz28_0
  try clear hfz28_1
  try clear hfz28_10
  try clear hfz28_2
  try clear hfz28_3
  try clear hfz28_4
  try clear hfz28_5
  try clear hfz28_6
  try clear hfz28_7
  try clear hfz28_8
  try clear hfz28_9
  try clear hfz31_0
  try clear hfz31_1
  try clear hfz31_10
  try clear hfz31_2
  try clear hfz31_3
  try clear hfz31_4
  try clear hfz31_5
  try clear hfz31_6
  try clear hfz31_7
  try clear hfz31_8
  try clear hfz31_9
  try clear hfz34_0
  try clear hfz34_1
  try clear hfz34_10
  try clear hfz34_2
  try clear hfz34_3
  try clear hfz34_4
  try clear hfz34_5
  try clear hfz34_6
  try clear hfz34_7
  try clear hfz34_8
  try clear hfz34_9
  obtain ⟨x3_1, x41_1, rfl, HA, HK1, HO_3, BK294, HB⟩ := hrel
  cases gk with
  | zero => exact absurd HA.out (by simp [calepinref15_Command.l0])
  | succ k1 =>
   have H := HA.out
   clear HA
   simp only [calepinref15_Command.l0] at H
   by_cases c35 : x41_1 < (l0_7.length : Int)
   ·rw [if_pos c35] at H
    have c35b0 : decide (x41_1 < (l0_7.length : Int)) = true := decide_eq_true c35
    clear c35
    by_cases c36 : 0 ≤ x41_1
    ·rw [if_pos c36] at H
     have c36b0 : decide (0 ≤ x41_1) = true := decide_eq_true c36
     clear c36
     by_cases c37 : x41_1 < (l0_7.length : Int)
     ·rw [if_pos c37] at H
      have c37b0 : decide (x41_1 < (l0_7.length : Int)) = true := decide_eq_true c37
      clear c37
      replace H := Option.bind_eq_some_iff.mp H
      obtain ⟨t320, A380, H⟩ := H
      replace H : (calepinref15_Command.l0 k1 t320 l0_7 (l0_7.length : Int) (wrap64 (x41_1 + 1)) a0_0 a0_1 a0_2 a0_3 a0_4 a0_5 a0_6 l0_7 a0_8 a0_9 a0_10) = some r := H
      have A38 := Aside0.mk A380
      clear A380
      have H' := Aside0.mk H
      clear H
      have p319 : 0 ≤ (x41_1 : Int) := of_decide_eq_true (by first | (with_reducible assumption) | assumption)
      have q319 : x41_1 < (l0_7.length : Int) := of_decide_eq_true (by first | (with_reducible assumption) | assumption)
      obtain ⟨ad319, e319, hx319_0⟩ := Kd.at_string HR0_7.out x41_1 p319 q319
      cases e319
      replace hx319_0 := (HB.out.cell (World.block_lt_of_cell? w _ hx319_0)).trans hx319_0
      replace p319 := eq_true p319
      replace q319 := eq_true q319
      obtain ⟨Ao39, co39, eo39⟩ := Kd.R_slice HO_3.out
      subst eo39
      go_wp2_with (first | ((with_reducible refine gate_callee (f := 49) rfl ?_); refine goesL_ (some 47) rfl rfl Try.func49 (by kernel_rfl) rfl #[.slice Ao39 x3_1.length co39, .string (rdOf ByteArray.empty l0_7 x41_1)] rfl (by (try simp only [List.map_toArray, List.map_cons, List.map_nil]); first | done | rfl | (simp only [List.length_drop, List.length_take]; rfl)) ?_; (with_reducible refine (calepinref15_text.calls k1 (fun k_ => some k_ = (.slice Ao39 x3_1.length co39 : Value).ownBlock) (.slice Ao39 x3_1.length co39) x3_1 (rdOf ByteArray.empty l0_7 x41_1) t320 w _ ?side1 ?side2 A38.out).mono ?_); (case side1 => repeat (first | (with_reducible first | exact HB.out | apply below_alloc | apply pw_below_drewN | apply below_drew1 | refine below_set ?_ GE294.out) | exact HB.out)); (case side2 => exact Kd.R_tight rfl HO_3.out); rintro e w40 ⟨v321, rfl, ho0, hb, hkp⟩; refine ⟨_, rfl, ?_⟩; have n0_ := Aside0.mk (blk_kept (by (with_reducible repeat (first | refine blk_drewN ?_ _ | refine blk_drew ?_ | refine blk_alloc ?_ _)); exact BK294.out) hkp (fun hs_ => (fun e_ => (Kd.R_ne HO_3.out BK294.out (by decide)) e_) hs_)); have n1_ := Aside0.mk (Kd.R_mono (ok' := fun k_ => True) ho0 (fun k_ hk_ => trivial)); have n2_ := Aside0.mk (hb); clear BK294; clear HB; clear HO_3; have BK294 := n0_; have HO322 := n1_; have HB := n2_; clear n0_ n1_ n2_; (try clear hb); (try clear hkp); (try clear ho0)))
      go_roundg k1
      case measure => have := HK1.out; omega
      case rel => exact ⟨(t320), (wrap64 (x41_1 + 1)), (by first | rfl | (simp; done) | (simp [*]; done)), H', ⟨by have := HK1.out; omega⟩, ⟨by (with_reducible repeat (first | apply Kd.R_alloc | apply Kd.R_drewN | apply Kd.R_drew)); exact HO322.out⟩, ⟨by (with_reducible repeat (first | refine blk_drewN ?_ _ | refine blk_drew ?_ | refine blk_alloc ?_ _)); exact BK294.out⟩, ⟨by repeat (first | (with_reducible first | exact HB.out | apply below_alloc | apply pw_below_drewN | apply below_drew1 | refine below_set ?_ GE294.out) | exact HB.out)⟩⟩
     ·rw [if_neg c37] at H
      exact absurd H (by simp)
    ·rw [if_neg c36] at H
     exact absurd H (by simp)
   ·rw [if_neg c35] at H
    have c35b0 : decide (x41_1 < (l0_7.length : Int)) = false := decide_eq_false c35
    clear c35
    replace H := Option.bind_eq_some_iff.mp H
    obtain ⟨t323, A410, H⟩ := H
    replace H : ((calepinref15_number.f k1 t323 a0_9).bind fun t326 => ((calepinref15_number.f k1 t326 a0_10).bind fun t329 => (some t329))) = some r := H
    have A41 := Aside0.mk A410
    clear A410
    replace H := Option.bind_eq_some_iff.mp H
    obtain ⟨t326, A420, H⟩ := H
    replace H : ((calepinref15_number.f k1 t326 a0_10).bind fun t329 => (some t329)) = some r := H
    have A42 := Aside0.mk A420
    clear A420
    replace H := Option.bind_eq_some_iff.mp H
    obtain ⟨t329, A430, H⟩ := H
    replace H : (some t329) = some r := H
    have A43 := Aside0.mk A430
    clear A430
    obtain rfl := Option.some.inj H
    have hcz44_0 : wr.cell? ⟨gb294, 0, none⟩ = some (.int .i64 a0_0) := (blk_cell BK294.out 0).trans rfl
    have hcz44_1 : wr.cell? ⟨gb294, 1, none⟩ = some (.string a0_1) := (blk_cell BK294.out 1).trans rfl
    have hcz44_2 : wr.cell? ⟨gb294, 2, none⟩ = some (.string a0_2) := (blk_cell BK294.out 2).trans rfl
    have hcz44_3 : wr.cell? ⟨gb294, 3, none⟩ = some (.string a0_3) := (blk_cell BK294.out 3).trans rfl
    have hcz44_4 : wr.cell? ⟨gb294, 4, none⟩ = some (.string a0_4) := (blk_cell BK294.out 4).trans rfl
    have hcz44_5 : wr.cell? ⟨gb294, 5, none⟩ = some (.string a0_5) := (blk_cell BK294.out 5).trans rfl
    have hcz44_6 : wr.cell? ⟨gb294, 6, none⟩ = some (.string a0_6) := (blk_cell BK294.out 6).trans rfl
    have hcz44_7 : wr.cell? ⟨gb294, 7, none⟩ = some (.slice A0_7 l0_7.length c0_7) := (blk_cell BK294.out 7).trans rfl
    have hcz44_8 : wr.cell? ⟨gb294, 8, none⟩ = some (.int .i64 a0_8) := (blk_cell BK294.out 8).trans rfl
    have hcz44_9 : wr.cell? ⟨gb294, 9, none⟩ = some (.int .i64 a0_9) := (blk_cell BK294.out 9).trans rfl
    have hcz44_10 : wr.cell? ⟨gb294, 10, none⟩ = some (.int .i64 a0_10) := (blk_cell BK294.out 10).trans rfl
    have hfz44_0 := blk_frozen BK294.out 0
    have hfz44_1 := blk_frozen BK294.out 1
    have hfz44_2 := blk_frozen BK294.out 2
    have hfz44_3 := blk_frozen BK294.out 3
    have hfz44_4 := blk_frozen BK294.out 4
    have hfz44_5 := blk_frozen BK294.out 5
    have hfz44_6 := blk_frozen BK294.out 6
    have hfz44_7 := blk_frozen BK294.out 7
    have hfz44_8 := blk_frozen BK294.out 8
    have hfz44_9 := blk_frozen BK294.out 9
    have hfz44_10 := blk_frozen BK294.out 10
    obtain ⟨Ao45, co45, eo45⟩ := Kd.R_slice HO_3.out
    subst eo45
    go_wp2_with (first | ((with_reducible refine gate_callee (f := 48) rfl ?_); refine goesL_ (some 52) rfl rfl Try.func48 (by kernel_rfl) rfl #[.slice Ao45 x3_1.length co45, .int .i64 a0_8] rfl (by (try simp only [List.map_toArray, List.map_cons, List.map_nil]); first | done | rfl | (simp only [List.length_drop, List.length_take]; rfl)) ?_; (with_reducible refine (calepinref15_number.calls k1 (fun k_ => some k_ = (.slice Ao45 x3_1.length co45 : Value).ownBlock) (.slice Ao45 x3_1.length co45) x3_1 a0_8 t323 w _ ?side1 ?side2 A41.out).mono ?_); (case side1 => repeat (first | (with_reducible first | exact HB.out | apply below_alloc | apply pw_below_drewN | apply below_drew1 | refine below_set ?_ GE294.out) | exact HB.out)); (case side2 => exact Kd.R_tight rfl HO_3.out); rintro e w46 ⟨v324, rfl, ho0, hb, hkp⟩; refine ⟨_, rfl, ?_⟩; have n0_ := Aside0.mk (blk_kept (by (with_reducible repeat (first | refine blk_drewN ?_ _ | refine blk_drew ?_ | refine blk_alloc ?_ _)); exact BK294.out) hkp (fun hs_ => (fun e_ => (Kd.R_ne HO_3.out BK294.out (by decide)) e_) hs_)); have n1_ := Aside0.mk (Kd.R_mono (ok' := fun k_ => True) ho0 (fun k_ hk_ => trivial)); have n2_ := Aside0.mk (hb); clear BK294; clear HB; clear HO_3; have BK294 := n0_; have HO325 := n1_; have HB := n2_; clear n0_ n1_ n2_; (try clear hb); (try clear hkp); (try clear ho0); have hcz47_0 : w46.cell? ⟨gb294, 0, none⟩ = some (.int .i64 a0_0) := (blk_cell BK294.out 0).trans rfl; have hcz47_1 : w46.cell? ⟨gb294, 1, none⟩ = some (.string a0_1) := (blk_cell BK294.out 1).trans rfl; have hcz47_2 : w46.cell? ⟨gb294, 2, none⟩ = some (.string a0_2) := (blk_cell BK294.out 2).trans rfl; have hcz47_3 : w46.cell? ⟨gb294, 3, none⟩ = some (.string a0_3) := (blk_cell BK294.out 3).trans rfl; have hcz47_4 : w46.cell? ⟨gb294, 4, none⟩ = some (.string a0_4) := (blk_cell BK294.out 4).trans rfl; have hcz47_5 : w46.cell? ⟨gb294, 5, none⟩ = some (.string a0_5) := (blk_cell BK294.out 5).trans rfl; have hcz47_6 : w46.cell? ⟨gb294, 6, none⟩ = some (.string a0_6) := (blk_cell BK294.out 6).trans rfl; have hcz47_7 : w46.cell? ⟨gb294, 7, none⟩ = some (.slice A0_7 l0_7.length c0_7) := (blk_cell BK294.out 7).trans rfl; have hcz47_8 : w46.cell? ⟨gb294, 8, none⟩ = some (.int .i64 a0_8) := (blk_cell BK294.out 8).trans rfl; have hcz47_9 : w46.cell? ⟨gb294, 9, none⟩ = some (.int .i64 a0_9) := (blk_cell BK294.out 9).trans rfl; have hcz47_10 : w46.cell? ⟨gb294, 10, none⟩ = some (.int .i64 a0_10) := (blk_cell BK294.out 10).trans rfl; have hfz47_0 := blk_frozen BK294.out 0; have hfz47_1 := blk_frozen BK294.out 1; have hfz47_2 := blk_frozen BK294.out 2; have hfz47_3 := blk_frozen BK294.out 3; have hfz47_4 := blk_frozen BK294.out 4; have hfz47_5 := blk_frozen BK294.out 5; have hfz47_6 := blk_frozen BK294.out 6; have hfz47_7 := blk_frozen BK294.out 7; have hfz47_8 := blk_frozen BK294.out 8; have hfz47_9 := blk_frozen BK294.out 9; have hfz47_10 := blk_frozen BK294.out 10; obtain ⟨Ao48, co48, eo48⟩ := Kd.R_slice HO325.out; subst eo48) | ((with_reducible refine gate_callee (f := 48) rfl ?_); refine goesL_ (some 56) rfl rfl Try.func48 (by kernel_rfl) rfl #[.slice Ao48 t323.length co48, .int .i64 a0_9] rfl (by (try simp only [List.map_toArray, List.map_cons, List.map_nil]); first | done | rfl | (simp only [List.length_drop, List.length_take]; rfl)) ?_; (with_reducible refine (calepinref15_number.calls k1 (fun k_ => some k_ = (.slice Ao48 t323.length co48 : Value).ownBlock) (.slice Ao48 t323.length co48) t323 a0_9 t326 w _ ?side1 ?side2 A42.out).mono ?_); (case side1 => repeat (first | (with_reducible first | exact HB.out | apply below_alloc | apply pw_below_drewN | apply below_drew1 | refine below_set ?_ GE294.out) | exact HB.out)); (case side2 => exact Kd.R_tight rfl HO325.out); rintro e w49 ⟨v327, rfl, ho0, hb, hkp⟩; refine ⟨_, rfl, ?_⟩; have n0_ := Aside0.mk (blk_kept (by (with_reducible repeat (first | refine blk_drewN ?_ _ | refine blk_drew ?_ | refine blk_alloc ?_ _)); exact BK294.out) hkp (fun hs_ => (fun e_ => (Kd.R_ne HO325.out BK294.out (by decide)) e_) hs_)); have n1_ := Aside0.mk (Kd.R_mono (ok' := fun k_ => True) ho0 (fun k_ hk_ => trivial)); have n2_ := Aside0.mk (hb); clear BK294; clear HB; clear HO325; have BK294 := n0_; have HO328 := n1_; have HB := n2_; clear n0_ n1_ n2_; (try clear hb); (try clear hkp); (try clear ho0); have hcz50_0 : w49.cell? ⟨gb294, 0, none⟩ = some (.int .i64 a0_0) := (blk_cell BK294.out 0).trans rfl; have hcz50_1 : w49.cell? ⟨gb294, 1, none⟩ = some (.string a0_1) := (blk_cell BK294.out 1).trans rfl; have hcz50_2 : w49.cell? ⟨gb294, 2, none⟩ = some (.string a0_2) := (blk_cell BK294.out 2).trans rfl; have hcz50_3 : w49.cell? ⟨gb294, 3, none⟩ = some (.string a0_3) := (blk_cell BK294.out 3).trans rfl; have hcz50_4 : w49.cell? ⟨gb294, 4, none⟩ = some (.string a0_4) := (blk_cell BK294.out 4).trans rfl; have hcz50_5 : w49.cell? ⟨gb294, 5, none⟩ = some (.string a0_5) := (blk_cell BK294.out 5).trans rfl; have hcz50_6 : w49.cell? ⟨gb294, 6, none⟩ = some (.string a0_6) := (blk_cell BK294.out 6).trans rfl; have hcz50_7 : w49.cell? ⟨gb294, 7, none⟩ = some (.slice A0_7 l0_7.length c0_7) := (blk_cell BK294.out 7).trans rfl; have hcz50_8 : w49.cell? ⟨gb294, 8, none⟩ = some (.int .i64 a0_8) := (blk_cell BK294.out 8).trans rfl; have hcz50_9 : w49.cell? ⟨gb294, 9, none⟩ = some (.int .i64 a0_9) := (blk_cell BK294.out 9).trans rfl; have hcz50_10 : w49.cell? ⟨gb294, 10, none⟩ = some (.int .i64 a0_10) := (blk_cell BK294.out 10).trans rfl; have hfz50_0 := blk_frozen BK294.out 0; have hfz50_1 := blk_frozen BK294.out 1; have hfz50_2 := blk_frozen BK294.out 2; have hfz50_3 := blk_frozen BK294.out 3; have hfz50_4 := blk_frozen BK294.out 4; have hfz50_5 := blk_frozen BK294.out 5; have hfz50_6 := blk_frozen BK294.out 6; have hfz50_7 := blk_frozen BK294.out 7; have hfz50_8 := blk_frozen BK294.out 8; have hfz50_9 := blk_frozen BK294.out 9; have hfz50_10 := blk_frozen BK294.out 10; obtain ⟨Ao51, co51, eo51⟩ := Kd.R_slice HO328.out; subst eo51) | ((with_reducible refine gate_callee (f := 48) rfl ?_); refine goesL_ (some 60) rfl rfl Try.func48 (by kernel_rfl) rfl #[.slice Ao51 t326.length co51, .int .i64 a0_10] rfl (by (try simp only [List.map_toArray, List.map_cons, List.map_nil]); first | done | rfl | (simp only [List.length_drop, List.length_take]; rfl)) ?_; (with_reducible refine (calepinref15_number.calls k1 (fun k_ => some k_ = (.slice Ao51 t326.length co51 : Value).ownBlock) (.slice Ao51 t326.length co51) t326 a0_10 t329 w _ ?side1 ?side2 A43.out).mono ?_); (case side1 => repeat (first | (with_reducible first | exact HB.out | apply below_alloc | apply pw_below_drewN | apply below_drew1 | refine below_set ?_ GE294.out) | exact HB.out)); (case side2 => exact Kd.R_tight rfl HO328.out); rintro e w52 ⟨v330, rfl, ho0, hb, hkp⟩; refine ⟨_, rfl, ?_⟩; have n0_ := Aside0.mk (blk_kept (by (with_reducible repeat (first | refine blk_drewN ?_ _ | refine blk_drew ?_ | refine blk_alloc ?_ _)); exact BK294.out) hkp (fun hs_ => (fun e_ => (Kd.R_ne HO328.out BK294.out (by decide)) e_) hs_)); have n1_ := Aside0.mk (Kd.R_mono (ok' := fun k_ => True) ho0 (fun k_ hk_ => trivial)); have n2_ := Aside0.mk (hb); clear BK294; clear HB; clear HO328; have BK294 := n0_; have HO331 := n1_; have HB := n2_; clear n0_ n1_ n2_; (try clear hb); (try clear hkp); (try clear ho0)))
    go_ret
    exact ⟨_, by first | rfl | (simp [errW_none, errW_some] <;> rfl) | (simp [*, errW_none, errW_some] <;> rfl), by (with_reducible repeat (first | apply Kd.R_alloc | apply Kd.R_drewN | apply Kd.R_drew)); exact HO331.out, by repeat (first | (with_reducible first | exact HB.out | apply below_alloc | apply pw_below_drewN | apply below_drew1 | refine below_set ?_ GE294.out) | exact HB.out)⟩

end Go.Proofs.Ytjhcbggpbfejgaa.XCodecGets
