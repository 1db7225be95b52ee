-- written by wip/xprint.py: the kit's print with functions walked by hand
import Derived.Test.YtpedfpeokedelaaDoorXCharPiecesx0
namespace Go.Proofs.YtpedfpeokedelaaDoor.XCharPieces
open Go.RowKit Go.Proofs.YtpedfpeokedelaaDoorW.PrintWords Go.Proofs.YtpedfpeokedelaaDoorW.PrintLast Go.Proofs.YtpedfpeokedelaaDoorW.PrintMore
attribute [local go_sem] max2_int min2_int max_two min_two max_three min_three max_four min_four   -- for this text's walks alone
set_option linter.unusedVariables false
set_option linter.unusedSimpArgs false

/-! ### char_Valid: function 21 -/
def char_Valid.f (s : ByteArray) : Option (Bool) := if s.size ≤ 281474976710656 then some (validB s) else none
theorem char_Valid.calls (s : ByteArray) (r : Bool) (w : World) (hT : Laid w) (h : char_Valid.f s = some r) :
    Calls Tryd.prog 21 #[.string s] w fun e w' => e = .returned (.bool r) ∧ Below w.heap.size w w' := by
  unfold char_Valid.f at h
  split at h
  · obtain rfl := Option.some.inj h
    exact valid_any s w hT (by omega)
  · cases h

/-! ### char_turned: function 56 -/
def char_turned.f (s : ByteArray) (a b : Int) : Option (ByteArray) := if s.size ≤ 281474976710656 ∧ 0 ≤ a ∧ a < 256 ∧ 0 ≤ b ∧ b < 256 then some (turnS s (UInt8.ofNat a.toNat) (UInt8.ofNat b.toNat)) else none
theorem char_turned.calls (s : ByteArray) (a b : Int) (r : ByteArray) (w : World) (hT : Laid w) (h : char_turned.f s a b = some r) :
    Calls Tryd.prog 56 #[.string s, .int .u8 a, .int .u8 b] w fun e w' => e = .returned (.string r) ∧ Below w.heap.size w w' := by
  unfold char_turned.f at h
  split at h
  · rename_i hc
    obtain ⟨h0, h1, h2, h3, h4⟩ := hc
    obtain rfl := Option.some.inj h
    have := turned_any s (UInt8.ofNat a.toNat) (UInt8.ofNat b.toNat) w h0
    rw [UInt8.toNat_ofNat_of_lt' (by show a.toNat < 256; omega), UInt8.toNat_ofNat_of_lt' (by show b.toNat < 256; omega), Int.toNat_of_nonneg h1, Int.toNat_of_nonneg h3] at this
    exact this
  · cases h

/-! ### char_Lower: function 23 -/
def char_Lower.f (a0 : ByteArray) : Option (ByteArray) := (char_turned.f a0 65 90).bind fun t101 => (some t101)
set_option maxHeartbeats 8000000 in
set_option maxRecDepth 100000 in
theorem char_Lower.calls (a0 : ByteArray) (r : ByteArray) (w : World) (hT : Laid w) (h : char_Lower.f a0 = some r) :
    Calls Tryd.prog 23 #[.string a0] w fun e w' => e = .returned (.string r) ∧ Below w.heap.size w w' := by
  have HB := Aside0.mk (Below.refl w.heap.size w)
  have HT := Aside0.mk hT
  clear hT
  have H : ((char_turned.f a0 65 90).bind fun t101 => (some t101)) = some r := h
  clear h
  replace H := Option.bind_eq_some_iff.mp H
  obtain ⟨t101, A20, H⟩ := H
  replace H : (some t101) = some r := H
  have A2 := Aside0.mk A20
  clear A20
  obtain rfl := Option.some.inj H
  go_enter Tryd.func23, Tryd.ntmps23
  go_wp2_with (first | ((with_reducible refine gate_callee (f := 56) rfl ?_); refine goesL_ (some 4) rfl rfl Tryd.func56 (by kernel_rfl) rfl #[.string a0, .int .u8 65, .int .u8 90] rfl (by (try simp only [List.map_toArray, List.map_cons, List.map_nil]); first | done | rfl | (simp only [List.length_drop, List.length_take]; rfl)) ?_; (with_reducible refine (char_turned.calls a0 65 90 t101 _ ?side1 A2.out).mono ?_); (case side1 => exact Laid.below HT.out (by repeat (first | (with_reducible first | exact HB.out | apply below_alloc | apply pw_below_drewN | apply below_drew1) | exact HB.out))); rintro e w3 ⟨rfl, hb⟩; refine ⟨_, rfl, ?_⟩; have n0_ := Aside0.mk (below_step (by repeat (first | (with_reducible first | exact HB.out | apply below_alloc | apply pw_below_drewN | apply below_drew1) | exact HB.out)) hb); clear HB; have HB := n0_; clear n0_; (try clear hb); (try clear hb2); (try clear hk); (try clear hi)))
  go_ret
  exact ⟨by first | rfl | (simp [errW_none, errW_some] <;> rfl) | (simp [*, errW_none, errW_some] <;> rfl), by repeat (first | (with_reducible first | exact HB.out | apply below_alloc | apply pw_below_drewN | apply below_drew1) | exact HB.out)⟩

/-! ### char_Number: function 28 -/
def char_Number.f (s : ByteArray) (m : Int) : Option (Int × Bool) := if s.size ≤ 281474976710656 ∧ 0 ≤ m ∧ m < 18446744073709551616 then some (((numV s m.toNat).1 : Nat), (numV s m.toNat).2) else none
theorem char_Number.calls (s : ByteArray) (m : Int) (r1 : Int) (r2 : Bool) (w : World) (hT : Laid w) (h : char_Number.f s m = some (r1, r2)) :
    Calls Tryd.prog 28 #[.string s, .int .u64 m] w fun e w' => e = .returned (.tuple #[.int .u64 r1, .bool r2]) ∧ Below w.heap.size w w' := by
  unfold char_Number.f at h
  split at h
  · rename_i hc
    obtain ⟨h0, h1, h2⟩ := hc
    simp only [Option.some.injEq, Prod.mk.injEq] at h
    obtain ⟨rfl, rfl⟩ := h
    have := number_any s m.toNat (by omega) w hT h0 _ rfl
    rw [Int.toNat_of_nonneg h1] at this
    exact this
  · cases h

/-! ### calepinlaw01_first: function 20 -/
def calepinlaw01_first.f  : Option (Bool) := (char_Number.f (⟨#[57, 48]⟩ : ByteArray) 90).bind fun bt102 => ((char_Number.f (⟨#[48, 55]⟩ : ByteArray) 9).bind fun bt104 => (if bt102.1 = 90 then (if bt102.2 = true then (if bt104.2 = true then (some false) else ((char_Lower.f (⟨#[65, 98, 45, 49]⟩ : ByteArray)).bind fun t106 => (if t106.toList = ([97, 98, 45, 49] : List UInt8) then ((char_Valid.f (⟨#[97]⟩ : ByteArray)).bind fun t107 => (if t107 = true then ((char_Valid.f (⟨#[1]⟩ : ByteArray)).bind fun t108 => (some (!t108))) else (some false))) else (some false)))) else (some false)) else (some false)))
set_option maxHeartbeats 8000000 in
set_option maxRecDepth 100000 in
theorem calepinlaw01_first.calls  (r : Bool) (w : World) (hT : Laid w) (h : calepinlaw01_first.f  = some r) :
    Calls Tryd.prog 20 #[] w fun e w' => e = .returned (.bool r) ∧ Below w.heap.size w w' := by
  have HB := Aside0.mk (Below.refl w.heap.size w)
  have HT := Aside0.mk hT
  clear hT
  have H : ((char_Number.f (⟨#[57, 48]⟩ : ByteArray) 90).bind fun bt102 => ((char_Number.f (⟨#[48, 55]⟩ : ByteArray) 9).bind fun bt104 => (if bt102.1 = 90 then (if bt102.2 = true then (if bt104.2 = true then (some false) else ((char_Lower.f (⟨#[65, 98, 45, 49]⟩ : ByteArray)).bind fun t106 => (if t106.toList = ([97, 98, 45, 49] : List UInt8) then ((char_Valid.f (⟨#[97]⟩ : ByteArray)).bind fun t107 => (if t107 = true then ((char_Valid.f (⟨#[1]⟩ : ByteArray)).bind fun t108 => (some (!t108))) else (some false))) else (some false)))) else (some false)) else (some false)))) = some r := h
  clear h
  replace H := Option.bind_eq_some_iff.mp H
  obtain ⟨⟨t102, t103⟩, A10, H⟩ := H
  replace H : ((char_Number.f (⟨#[48, 55]⟩ : ByteArray) 9).bind fun bt104 => (if t102 = 90 then (if t103 = true then (if bt104.2 = true then (some false) else ((char_Lower.f (⟨#[65, 98, 45, 49]⟩ : ByteArray)).bind fun t106 => (if t106.toList = ([97, 98, 45, 49] : List UInt8) then ((char_Valid.f (⟨#[97]⟩ : ByteArray)).bind fun t107 => (if t107 = true then ((char_Valid.f (⟨#[1]⟩ : ByteArray)).bind fun t108 => (some (!t108))) else (some false))) else (some false)))) else (some false)) else (some false))) = some r := H
  have A1 := Aside0.mk A10
  clear A10
  replace H := Option.bind_eq_some_iff.mp H
  obtain ⟨⟨t104, t105⟩, A20, H⟩ := H
  replace H : (if t102 = 90 then (if t103 = true then (if t105 = true then (some false) else ((char_Lower.f (⟨#[65, 98, 45, 49]⟩ : ByteArray)).bind fun t106 => (if t106.toList = ([97, 98, 45, 49] : List UInt8) then ((char_Valid.f (⟨#[97]⟩ : ByteArray)).bind fun t107 => (if t107 = true then ((char_Valid.f (⟨#[1]⟩ : ByteArray)).bind fun t108 => (some (!t108))) else (some false))) else (some false)))) else (some false)) else (some false)) = some r := H
  have A2 := Aside0.mk A20
  clear A20
  by_cases c3 : t102 = 90
  · rw [if_pos c3] at H
    have c3b0 : (t102 == 90) = true := beq_iff_eq.mpr c3
    have c3b1 : (t102 != 90) = false := bne_eq_false_iff_eq.mpr c3
    clear c3
    by_cases c4 : t103 = true
    · subst c4
      have H1 : (if t105 = true then (some false) else ((char_Lower.f (⟨#[65, 98, 45, 49]⟩ : ByteArray)).bind fun t106 => (if t106.toList = ([97, 98, 45, 49] : List UInt8) then ((char_Valid.f (⟨#[97]⟩ : ByteArray)).bind fun t107 => (if t107 = true then ((char_Valid.f (⟨#[1]⟩ : ByteArray)).bind fun t108 => (some (!t108))) else (some false))) else (some false)))) = some r := by rw [if_pos rfl] at H; exact H
      clear H
      have H := H1
      clear H1
      by_cases c5 : t105 = true
      · subst c5
        have H1 : (some false) = some r := by rw [if_pos rfl] at H; exact H
        clear H
        have H := H1
        clear H1
        obtain rfl := Option.some.inj H
        go_enter Tryd.func20, Tryd.ntmps20
        go_wp2_with (first | ((with_reducible refine gate_callee (f := 28) rfl ?_); refine goesL_ (some 6) rfl rfl Tryd.func28 (by kernel_rfl) rfl #[.string (⟨#[57, 48]⟩ : ByteArray), .int .u64 90] rfl (by (try simp only [List.map_toArray, List.map_cons, List.map_nil]); first | done | rfl | (simp only [List.length_drop, List.length_take]; rfl)) ?_; (with_reducible refine (char_Number.calls (⟨#[57, 48]⟩ : ByteArray) 90 t102 true _ ?side1 A1.out).mono ?_); (case side1 => exact Laid.below HT.out (by repeat (first | (with_reducible first | exact HB.out | apply below_alloc | apply pw_below_drewN | apply below_drew1) | exact HB.out))); rintro e w6 ⟨rfl, hb⟩; refine ⟨_, rfl, ?_⟩; have n0_ := Aside0.mk (below_step (by repeat (first | (with_reducible first | exact HB.out | apply below_alloc | apply pw_below_drewN | apply below_drew1) | exact HB.out)) hb); clear HB; have HB := n0_; clear n0_; (try clear hb); (try clear hb2); (try clear hk); (try clear hi)) | ((with_reducible refine gate_callee (f := 28) rfl ?_); refine goesL_ (some 10) rfl rfl Tryd.func28 (by kernel_rfl) rfl #[.string (⟨#[48, 55]⟩ : ByteArray), .int .u64 9] rfl (by (try simp only [List.map_toArray, List.map_cons, List.map_nil]); first | done | rfl | (simp only [List.length_drop, List.length_take]; rfl)) ?_; (with_reducible refine (char_Number.calls (⟨#[48, 55]⟩ : ByteArray) 9 t104 true _ ?side1 A2.out).mono ?_); (case side1 => exact Laid.below HT.out (by repeat (first | (with_reducible first | exact HB.out | apply below_alloc | apply pw_below_drewN | apply below_drew1) | exact HB.out))); rintro e w7 ⟨rfl, hb⟩; refine ⟨_, rfl, ?_⟩; have n0_ := Aside0.mk (below_step (by repeat (first | (with_reducible first | exact HB.out | apply below_alloc | apply pw_below_drewN | apply below_drew1) | exact HB.out)) hb); clear HB; have HB := n0_; clear n0_; (try clear hb); (try clear hb2); (try clear hk); (try clear hi)))
        go_ret
        exact ⟨by first | rfl | (simp [errW_none, errW_some] <;> rfl) | (simp [*, errW_none, errW_some] <;> rfl), by repeat (first | (with_reducible first | exact HB.out | apply below_alloc | apply pw_below_drewN | apply below_drew1) | exact HB.out)⟩
      · replace c5 := Bool.eq_false_iff.mpr c5
        subst c5
        have H1 : ((char_Lower.f (⟨#[65, 98, 45, 49]⟩ : ByteArray)).bind fun t106 => (if t106.toList = ([97, 98, 45, 49] : List UInt8) then ((char_Valid.f (⟨#[97]⟩ : ByteArray)).bind fun t107 => (if t107 = true then ((char_Valid.f (⟨#[1]⟩ : ByteArray)).bind fun t108 => (some (!t108))) else (some false))) else (some false))) = some r := by rw [if_neg (show ¬ (false = true) by decide)] at H; exact H
        clear H
        have H := H1
        clear H1
        replace H := Option.bind_eq_some_iff.mp H
        obtain ⟨t106, A80, H⟩ := H
        replace H : (if t106.toList = ([97, 98, 45, 49] : List UInt8) then ((char_Valid.f (⟨#[97]⟩ : ByteArray)).bind fun t107 => (if t107 = true then ((char_Valid.f (⟨#[1]⟩ : ByteArray)).bind fun t108 => (some (!t108))) else (some false))) else (some false)) = some r := H
        have A8 := Aside0.mk A80
        clear A80
        by_cases c9 : t106.toList = ([97, 98, 45, 49] : List UInt8)
        · rw [if_pos c9] at H
          have c9b0 : (t106.toList == ([97, 98, 45, 49] : List UInt8)) = true := beq_iff_eq.mpr c9
          have c9b1 : (t106.toList != ([97, 98, 45, 49] : List UInt8)) = false := bne_eq_false_iff_eq.mpr c9
          clear c9
          replace H := Option.bind_eq_some_iff.mp H
          obtain ⟨t107, A100, H⟩ := H
          replace H : (if t107 = true then ((char_Valid.f (⟨#[1]⟩ : ByteArray)).bind fun t108 => (some (!t108))) else (some false)) = some r := H
          have A10 := Aside0.mk A100
          clear A100
          by_cases c11 : t107 = true
          · subst c11
            have H1 : ((char_Valid.f (⟨#[1]⟩ : ByteArray)).bind fun t108 => (some (!t108))) = some r := by rw [if_pos rfl] at H; exact H
            clear H
            have H := H1
            clear H1
            replace H := Option.bind_eq_some_iff.mp H
            obtain ⟨t108, A120, H⟩ := H
            replace H : (some (!t108)) = some r := H
            have A12 := Aside0.mk A120
            clear A120
            obtain rfl := Option.some.inj H
            go_enter Tryd.func20, Tryd.ntmps20
            go_wp2_with (first | ((with_reducible refine gate_callee (f := 28) rfl ?_); refine goesL_ (some 6) rfl rfl Tryd.func28 (by kernel_rfl) rfl #[.string (⟨#[57, 48]⟩ : ByteArray), .int .u64 90] rfl (by (try simp only [List.map_toArray, List.map_cons, List.map_nil]); first | done | rfl | (simp only [List.length_drop, List.length_take]; rfl)) ?_; (with_reducible refine (char_Number.calls (⟨#[57, 48]⟩ : ByteArray) 90 t102 true _ ?side1 A1.out).mono ?_); (case side1 => exact Laid.below HT.out (by repeat (first | (with_reducible first | exact HB.out | apply below_alloc | apply pw_below_drewN | apply below_drew1) | exact HB.out))); rintro e w13 ⟨rfl, hb⟩; refine ⟨_, rfl, ?_⟩; have n0_ := Aside0.mk (below_step (by repeat (first | (with_reducible first | exact HB.out | apply below_alloc | apply pw_below_drewN | apply below_drew1) | exact HB.out)) hb); clear HB; have HB := n0_; clear n0_; (try clear hb); (try clear hb2); (try clear hk); (try clear hi)) | ((with_reducible refine gate_callee (f := 28) rfl ?_); refine goesL_ (some 10) rfl rfl Tryd.func28 (by kernel_rfl) rfl #[.string (⟨#[48, 55]⟩ : ByteArray), .int .u64 9] rfl (by (try simp only [List.map_toArray, List.map_cons, List.map_nil]); first | done | rfl | (simp only [List.length_drop, List.length_take]; rfl)) ?_; (with_reducible refine (char_Number.calls (⟨#[48, 55]⟩ : ByteArray) 9 t104 false _ ?side1 A2.out).mono ?_); (case side1 => exact Laid.below HT.out (by repeat (first | (with_reducible first | exact HB.out | apply below_alloc | apply pw_below_drewN | apply below_drew1) | exact HB.out))); rintro e w14 ⟨rfl, hb⟩; refine ⟨_, rfl, ?_⟩; have n0_ := Aside0.mk (below_step (by repeat (first | (with_reducible first | exact HB.out | apply below_alloc | apply pw_below_drewN | apply below_drew1) | exact HB.out)) hb); clear HB; have HB := n0_; clear n0_; (try clear hb); (try clear hb2); (try clear hk); (try clear hi)) | (go_at_call 23; (with_reducible refine (char_Lower.calls (⟨#[65, 98, 45, 49]⟩ : ByteArray) t106 _ ?side1 A8.out).mono ?_); (case side1 => exact Laid.below HT.out (by repeat (first | (with_reducible first | exact HB.out | apply below_alloc | apply pw_below_drewN | apply below_drew1) | exact HB.out))); rintro e w15 ⟨rfl, hb⟩; have n0_ := Aside0.mk (below_step (by repeat (first | (with_reducible first | exact HB.out | apply below_alloc | apply pw_below_drewN | apply below_drew1) | exact HB.out)) hb); clear HB; have HB := n0_; clear n0_; (try clear hb); (try clear hb2); (try clear hk); (try clear hi)) | (go_at_call 21; (with_reducible refine (char_Valid.calls (⟨#[97]⟩ : ByteArray) true _ ?side1 A10.out).mono ?_); (case side1 => exact Laid.below HT.out (by repeat (first | (with_reducible first | exact HB.out | apply below_alloc | apply pw_below_drewN | apply below_drew1) | exact HB.out))); rintro e w16 ⟨rfl, hb⟩; have n0_ := Aside0.mk (below_step (by repeat (first | (with_reducible first | exact HB.out | apply below_alloc | apply pw_below_drewN | apply below_drew1) | exact HB.out)) hb); clear HB; have HB := n0_; clear n0_; (try clear hb); (try clear hb2); (try clear hk); (try clear hi)) | (go_at_call 21; (with_reducible refine (char_Valid.calls (⟨#[1]⟩ : ByteArray) t108 _ ?side1 A12.out).mono ?_); (case side1 => exact Laid.below HT.out (by repeat (first | (with_reducible first | exact HB.out | apply below_alloc | apply pw_below_drewN | apply below_drew1) | exact HB.out))); rintro e w17 ⟨rfl, hb⟩; have n0_ := Aside0.mk (below_step (by repeat (first | (with_reducible first | exact HB.out | apply below_alloc | apply pw_below_drewN | apply below_drew1) | exact HB.out)) hb); clear HB; have HB := n0_; clear n0_; (try clear hb); (try clear hb2); (try clear hk); (try clear hi)))
            go_ret
            exact ⟨by first | rfl | (simp [errW_none, errW_some] <;> rfl) | (simp [*, errW_none, errW_some] <;> rfl), by repeat (first | (with_reducible first | exact HB.out | apply below_alloc | apply pw_below_drewN | apply below_drew1) | exact HB.out)⟩
          · replace c11 := Bool.eq_false_iff.mpr c11
            subst c11
            have H1 : (some false) = some r := by rw [if_neg (show ¬ (false = true) by decide)] at H; exact H
            clear H
            have H := H1
            clear H1
            obtain rfl := Option.some.inj H
            go_enter Tryd.func20, Tryd.ntmps20
            go_wp2_with (first | ((with_reducible refine gate_callee (f := 28) rfl ?_); refine goesL_ (some 6) rfl rfl Tryd.func28 (by kernel_rfl) rfl #[.string (⟨#[57, 48]⟩ : ByteArray), .int .u64 90] rfl (by (try simp only [List.map_toArray, List.map_cons, List.map_nil]); first | done | rfl | (simp only [List.length_drop, List.length_take]; rfl)) ?_; (with_reducible refine (char_Number.calls (⟨#[57, 48]⟩ : ByteArray) 90 t102 true _ ?side1 A1.out).mono ?_); (case side1 => exact Laid.below HT.out (by repeat (first | (with_reducible first | exact HB.out | apply below_alloc | apply pw_below_drewN | apply below_drew1) | exact HB.out))); rintro e w18 ⟨rfl, hb⟩; refine ⟨_, rfl, ?_⟩; have n0_ := Aside0.mk (below_step (by repeat (first | (with_reducible first | exact HB.out | apply below_alloc | apply pw_below_drewN | apply below_drew1) | exact HB.out)) hb); clear HB; have HB := n0_; clear n0_; (try clear hb); (try clear hb2); (try clear hk); (try clear hi)) | ((with_reducible refine gate_callee (f := 28) rfl ?_); refine goesL_ (some 10) rfl rfl Tryd.func28 (by kernel_rfl) rfl #[.string (⟨#[48, 55]⟩ : ByteArray), .int .u64 9] rfl (by (try simp only [List.map_toArray, List.map_cons, List.map_nil]); first | done | rfl | (simp only [List.length_drop, List.length_take]; rfl)) ?_; (with_reducible refine (char_Number.calls (⟨#[48, 55]⟩ : ByteArray) 9 t104 false _ ?side1 A2.out).mono ?_); (case side1 => exact Laid.below HT.out (by repeat (first | (with_reducible first | exact HB.out | apply below_alloc | apply pw_below_drewN | apply below_drew1) | exact HB.out))); rintro e w19 ⟨rfl, hb⟩; refine ⟨_, rfl, ?_⟩; have n0_ := Aside0.mk (below_step (by repeat (first | (with_reducible first | exact HB.out | apply below_alloc | apply pw_below_drewN | apply below_drew1) | exact HB.out)) hb); clear HB; have HB := n0_; clear n0_; (try clear hb); (try clear hb2); (try clear hk); (try clear hi)) | (go_at_call 23; (with_reducible refine (char_Lower.calls (⟨#[65, 98, 45, 49]⟩ : ByteArray) t106 _ ?side1 A8.out).mono ?_); (case side1 => exact Laid.below HT.out (by repeat (first | (with_reducible first | exact HB.out | apply below_alloc | apply pw_below_drewN | apply below_drew1) | exact HB.out))); rintro e w20 ⟨rfl, hb⟩; have n0_ := Aside0.mk (below_step (by repeat (first | (with_reducible first | exact HB.out | apply below_alloc | apply pw_below_drewN | apply below_drew1) | exact HB.out)) hb); clear HB; have HB := n0_; clear n0_; (try clear hb); (try clear hb2); (try clear hk); (try clear hi)) | (go_at_call 21; (with_reducible refine (char_Valid.calls (⟨#[97]⟩ : ByteArray) false _ ?side1 A10.out).mono ?_); (case side1 => exact Laid.below HT.out (by repeat (first | (with_reducible first | exact HB.out | apply below_alloc | apply pw_below_drewN | apply below_drew1) | exact HB.out))); rintro e w21 ⟨rfl, hb⟩; have n0_ := Aside0.mk (below_step (by repeat (first | (with_reducible first | exact HB.out | apply below_alloc | apply pw_below_drewN | apply below_drew1) | exact HB.out)) hb); clear HB; have HB := n0_; clear n0_; (try clear hb); (try clear hb2); (try clear hk); (try clear hi)))
            go_ret
            exact ⟨by first | rfl | (simp [errW_none, errW_some] <;> rfl) | (simp [*, errW_none, errW_some] <;> rfl), by repeat (first | (with_reducible first | exact HB.out | apply below_alloc | apply pw_below_drewN | apply below_drew1) | exact HB.out)⟩
        · rw [if_neg c9] at H
          have c9b0 : (t106.toList == ([97, 98, 45, 49] : List UInt8)) = false := beq_eq_false_iff_ne.mpr c9
          have c9b1 : (t106.toList != ([97, 98, 45, 49] : List UInt8)) = true := bne_iff_ne.mpr c9
          obtain rfl := Option.some.inj H
          go_enter Tryd.func20, Tryd.ntmps20
          go_wp2_with (first | ((with_reducible refine gate_callee (f := 28) rfl ?_); refine goesL_ (some 6) rfl rfl Tryd.func28 (by kernel_rfl) rfl #[.string (⟨#[57, 48]⟩ : ByteArray), .int .u64 90] rfl (by (try simp only [List.map_toArray, List.map_cons, List.map_nil]); first | done | rfl | (simp only [List.length_drop, List.length_take]; rfl)) ?_; (with_reducible refine (char_Number.calls (⟨#[57, 48]⟩ : ByteArray) 90 t102 true _ ?side1 A1.out).mono ?_); (case side1 => exact Laid.below HT.out (by repeat (first | (with_reducible first | exact HB.out | apply below_alloc | apply pw_below_drewN | apply below_drew1) | exact HB.out))); rintro e w22 ⟨rfl, hb⟩; refine ⟨_, rfl, ?_⟩; have n0_ := Aside0.mk (below_step (by repeat (first | (with_reducible first | exact HB.out | apply below_alloc | apply pw_below_drewN | apply below_drew1) | exact HB.out)) hb); clear HB; have HB := n0_; clear n0_; (try clear hb); (try clear hb2); (try clear hk); (try clear hi)) | ((with_reducible refine gate_callee (f := 28) rfl ?_); refine goesL_ (some 10) rfl rfl Tryd.func28 (by kernel_rfl) rfl #[.string (⟨#[48, 55]⟩ : ByteArray), .int .u64 9] rfl (by (try simp only [List.map_toArray, List.map_cons, List.map_nil]); first | done | rfl | (simp only [List.length_drop, List.length_take]; rfl)) ?_; (with_reducible refine (char_Number.calls (⟨#[48, 55]⟩ : ByteArray) 9 t104 false _ ?side1 A2.out).mono ?_); (case side1 => exact Laid.below HT.out (by repeat (first | (with_reducible first | exact HB.out | apply below_alloc | apply pw_below_drewN | apply below_drew1) | exact HB.out))); rintro e w23 ⟨rfl, hb⟩; refine ⟨_, rfl, ?_⟩; have n0_ := Aside0.mk (below_step (by repeat (first | (with_reducible first | exact HB.out | apply below_alloc | apply pw_below_drewN | apply below_drew1) | exact HB.out)) hb); clear HB; have HB := n0_; clear n0_; (try clear hb); (try clear hb2); (try clear hk); (try clear hi)) | (go_at_call 23; (with_reducible refine (char_Lower.calls (⟨#[65, 98, 45, 49]⟩ : ByteArray) t106 _ ?side1 A8.out).mono ?_); (case side1 => exact Laid.below HT.out (by repeat (first | (with_reducible first | exact HB.out | apply below_alloc | apply pw_below_drewN | apply below_drew1) | exact HB.out))); rintro e w24 ⟨rfl, hb⟩; have n0_ := Aside0.mk (below_step (by repeat (first | (with_reducible first | exact HB.out | apply below_alloc | apply pw_below_drewN | apply below_drew1) | exact HB.out)) hb); clear HB; have HB := n0_; clear n0_; (try clear hb); (try clear hb2); (try clear hk); (try clear hi)))
          go_ret
          exact ⟨by first | rfl | (simp [errW_none, errW_some] <;> rfl) | (simp [*, errW_none, errW_some] <;> rfl), by repeat (first | (with_reducible first | exact HB.out | apply below_alloc | apply pw_below_drewN | apply below_drew1) | exact HB.out)⟩
    · replace c4 := Bool.eq_false_iff.mpr c4
      subst c4
      have H1 : (some false) = some r := by rw [if_neg (show ¬ (false = true) by decide)] at H; exact H
      clear H
      have H := H1
      clear H1
      obtain rfl := Option.some.inj H
      go_enter Tryd.func20, Tryd.ntmps20
      go_wp2_with (first | ((with_reducible refine gate_callee (f := 28) rfl ?_); refine goesL_ (some 6) rfl rfl Tryd.func28 (by kernel_rfl) rfl #[.string (⟨#[57, 48]⟩ : ByteArray), .int .u64 90] rfl (by (try simp only [List.map_toArray, List.map_cons, List.map_nil]); first | done | rfl | (simp only [List.length_drop, List.length_take]; rfl)) ?_; (with_reducible refine (char_Number.calls (⟨#[57, 48]⟩ : ByteArray) 90 t102 false _ ?side1 A1.out).mono ?_); (case side1 => exact Laid.below HT.out (by repeat (first | (with_reducible first | exact HB.out | apply below_alloc | apply pw_below_drewN | apply below_drew1) | exact HB.out))); rintro e w25 ⟨rfl, hb⟩; refine ⟨_, rfl, ?_⟩; have n0_ := Aside0.mk (below_step (by repeat (first | (with_reducible first | exact HB.out | apply below_alloc | apply pw_below_drewN | apply below_drew1) | exact HB.out)) hb); clear HB; have HB := n0_; clear n0_; (try clear hb); (try clear hb2); (try clear hk); (try clear hi)) | ((with_reducible refine gate_callee (f := 28) rfl ?_); refine goesL_ (some 10) rfl rfl Tryd.func28 (by kernel_rfl) rfl #[.string (⟨#[48, 55]⟩ : ByteArray), .int .u64 9] rfl (by (try simp only [List.map_toArray, List.map_cons, List.map_nil]); first | done | rfl | (simp only [List.length_drop, List.length_take]; rfl)) ?_; (with_reducible refine (char_Number.calls (⟨#[48, 55]⟩ : ByteArray) 9 t104 t105 _ ?side1 A2.out).mono ?_); (case side1 => exact Laid.below HT.out (by repeat (first | (with_reducible first | exact HB.out | apply below_alloc | apply pw_below_drewN | apply below_drew1) | exact HB.out))); rintro e w26 ⟨rfl, hb⟩; refine ⟨_, rfl, ?_⟩; have n0_ := Aside0.mk (below_step (by repeat (first | (with_reducible first | exact HB.out | apply below_alloc | apply pw_below_drewN | apply below_drew1) | exact HB.out)) hb); clear HB; have HB := n0_; clear n0_; (try clear hb); (try clear hb2); (try clear hk); (try clear hi)))
      go_ret
      exact ⟨by first | rfl | (simp [errW_none, errW_some] <;> rfl) | (simp [*, errW_none, errW_some] <;> rfl), by repeat (first | (with_reducible first | exact HB.out | apply below_alloc | apply pw_below_drewN | apply below_drew1) | exact HB.out)⟩
  · rw [if_neg c3] at H
    have c3b0 : (t102 == 90) = false := beq_eq_false_iff_ne.mpr c3
    have c3b1 : (t102 != 90) = true := bne_iff_ne.mpr c3
    obtain rfl := Option.some.inj H
    go_enter Tryd.func20, Tryd.ntmps20
    go_wp2_with (first | ((with_reducible refine gate_callee (f := 28) rfl ?_); refine goesL_ (some 6) rfl rfl Tryd.func28 (by kernel_rfl) rfl #[.string (⟨#[57, 48]⟩ : ByteArray), .int .u64 90] rfl (by (try simp only [List.map_toArray, List.map_cons, List.map_nil]); first | done | rfl | (simp only [List.length_drop, List.length_take]; rfl)) ?_; (with_reducible refine (char_Number.calls (⟨#[57, 48]⟩ : ByteArray) 90 t102 t103 _ ?side1 A1.out).mono ?_); (case side1 => exact Laid.below HT.out (by repeat (first | (with_reducible first | exact HB.out | apply below_alloc | apply pw_below_drewN | apply below_drew1) | exact HB.out))); rintro e w27 ⟨rfl, hb⟩; refine ⟨_, rfl, ?_⟩; have n0_ := Aside0.mk (below_step (by repeat (first | (with_reducible first | exact HB.out | apply below_alloc | apply pw_below_drewN | apply below_drew1) | exact HB.out)) hb); clear HB; have HB := n0_; clear n0_; (try clear hb); (try clear hb2); (try clear hk); (try clear hi)) | ((with_reducible refine gate_callee (f := 28) rfl ?_); refine goesL_ (some 10) rfl rfl Tryd.func28 (by kernel_rfl) rfl #[.string (⟨#[48, 55]⟩ : ByteArray), .int .u64 9] rfl (by (try simp only [List.map_toArray, List.map_cons, List.map_nil]); first | done | rfl | (simp only [List.length_drop, List.length_take]; rfl)) ?_; (with_reducible refine (char_Number.calls (⟨#[48, 55]⟩ : ByteArray) 9 t104 t105 _ ?side1 A2.out).mono ?_); (case side1 => exact Laid.below HT.out (by repeat (first | (with_reducible first | exact HB.out | apply below_alloc | apply pw_below_drewN | apply below_drew1) | exact HB.out))); rintro e w28 ⟨rfl, hb⟩; refine ⟨_, rfl, ?_⟩; have n0_ := Aside0.mk (below_step (by repeat (first | (with_reducible first | exact HB.out | apply below_alloc | apply pw_below_drewN | apply below_drew1) | exact HB.out)) hb); clear HB; have HB := n0_; clear n0_; (try clear hb); (try clear hb2); (try clear hk); (try clear hi)))
    go_ret
    exact ⟨by first | rfl | (simp [errW_none, errW_some] <;> rfl) | (simp [*, errW_none, errW_some] <;> rfl), by repeat (first | (with_reducible first | exact HB.out | apply below_alloc | apply pw_below_drewN | apply below_drew1) | exact HB.out)⟩

end Go.Proofs.YtpedfpeokedelaaDoor.XCharPieces
