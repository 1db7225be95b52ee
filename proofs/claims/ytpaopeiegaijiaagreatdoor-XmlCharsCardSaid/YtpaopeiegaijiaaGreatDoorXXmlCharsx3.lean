-- written by wip/xprint.py: the kit's print with functions walked by hand
import Derived.Test.YtpaopeiegaijiaaGreatDoorXXmlCharsx0
import Derived.Test.YtpaopeiegaijiaaGreatDoorXXmlCharsx2
namespace Go.Proofs.YtpaopeiegaijiaaGreatDoor.XXmlChars
open Go.RowKit Go.Proofs.YtpaopeiegaijiaaGreatDoorW.PrintWords Go.Proofs.YtpaopeiegaijiaaGreatDoorW.PrintLast Go.Proofs.YtpaopeiegaijiaaGreatDoorW.PrintMore
attribute [local go_sem] max2_int min2_int max_two min_two max_three min_three max_four min_four   -- for this text's walks alone
set_option linter.unusedVariables false
set_option linter.unusedSimpArgs false

/-! ### xml_Print: function 21 -/
def ofS60 (x : S60) : Pc := ⟨x.f0, x.f1, x.f2, x.f3⟩
theorem ofS60_at (l0 : List S60) (i : Nat) (h : i < l0.length) : pcAt (l0.map ofS60) i = ofS60 (rd_T60 l0 i) := by
  unfold pcAt rd_T60
  rw [Int.toNat_natCast, List.getD_eq_getElem?_getD, List.getD_eq_getElem?_getD, List.getElem?_map, List.getElem?_eq_getElem h]
  rfl
theorem prow_of {w : World} {A : Addr} {l0 : List S60} (h : Kd.C k60 w (some A) l0.length l0) : PRow A (l0.map ofS60) w := fun i hi => by
  have hi' : i < l0.length := by simpa using hi
  obtain ⟨ad, e, h0, h1, h2, h3⟩ := at_T60 h i (by omega) (by omega)
  cases e
  rw [Int.toNat_natCast] at h0 h1 h2 h3
  rw [ofS60_at _ _ hi']
  exact ⟨h0, h1, h2, h3⟩
def xml_Print.f (k : Nat) (l0 : List S60) : Option (ByteArray × Int) :=
  (xml_Check.f k l0).bind fun n => if n = 0 then (if l0.length ≤ 4611686018427387904 ∧ (List.range l0.length).all (goodA (l0.map ofS60)) = true then some (resT (l0.map ofS60), resN (l0.map ofS60)) else none) else some (⟨#[]⟩, n)
theorem xml_Print.mono : ∀ a0 k, LeO (xml_Print.f k a0) (xml_Print.f (k + 1) a0) := fun a0 k => by
  unfold xml_Print.f
  exact LeO.bind (xml_Check.mono a0 k) (fun _ => LeO.refl _)
theorem xml_Print.calls (k : Nat) (A0 : Option Addr) (c0 : Nat) (l0 : List (S60)) (r1 : ByteArray) (r2 : Int) (w : World) (hr0 : Kd.C k60 w A0 l0.length l0) (hc0 : l0.length ≤ c0) (hT : LaidM w) (h : xml_Print.f k l0 = some (r1, r2)) :
    Calls Tryz.prog 21 #[.slice A0 l0.length c0] w fun e w' => e = .returned (.tuple #[.string r1, .int .i64 r2]) ∧ Below w.heap.size w w' := by
  unfold xml_Print.f at h
  obtain ⟨n, h1, h2⟩ := Option.bind_eq_some_iff.1 h
  have hC := xml_Check.calls k A0 c0 l0 n w hr0 hc0 hT h1
  by_cases hn : n = 0
  · subst hn
    rw [if_pos rfl] at h2
    split at h2
    · rename_i hc
      obtain ⟨hm, hg⟩ := hc
      simp only [Option.some.injEq, Prod.mk.injEq] at h2
      obtain ⟨rfl, rfl⟩ := h2
      have hl : (l0.map ofS60).length = l0.length := List.length_map ..
      have hp := print_ok A0 c0 (l0.map ofS60) w (fun A hA => by subst hA; exact prow_of hr0) (fun hA => by
        subst hA
        cases l0 with
        | nil => rfl
        | cons x l => obtain ⟨ad, e, _⟩ := at_T60 hr0 0 (by omega) (by first | (simp; done) | (simp; omega)); cases e) (by rw [hl]; exact hc0)
        (fun j hj => List.all_eq_true.1 hg j (by rw [List.mem_range, ← hl]; exact hj)) (by rw [hl]; exact hC) (by rw [hl]; exact hm)
      rw [hl] at hp
      refine hp.mono ?_
      rintro e w' ⟨rfl, hb⟩
      exact ⟨by rw [resV_T], hb⟩
    · cases h2
  · rw [if_neg hn] at h2
    simp only [Option.some.injEq, Prod.mk.injEq] at h2
    obtain ⟨rfl, rfl⟩ := h2
    exact print_bad A0 c0 l0.length n w hn hC

/-! ### xml_Parse: function 25 -/
def toS60 (p : Pc) : S60 := ⟨p.kind, p.space, p.name, p.text⟩
theorem pcs_reps {R : S60 → List Value → Prop} (hR : ∀ p : Pc, R (toS60 p) (pcCells p)) : ∀ (ps acc : List Pc), Reps R 4 (acc.map toS60) (pcs acc) → Reps R 4 ((acc ++ ps).map toS60) (pcs (acc ++ ps))
  | [], acc, h => by rw [List.append_nil]; exact h
  | p :: ps, acc, h => by
    rw [show acc ++ p :: ps = (acc ++ [p]) ++ ps by simp]
    refine pcs_reps hR ps (acc ++ [p]) ?_
    rw [List.map_append, pcs_app]
    exact Reps.snoc h (hR p) rfl
theorem row_R60 {w : World} {B : Nat} {v : Value} {ps : List Pc} (ho : w.ownsRow B 60 4 v ps.length (pcs ps)) : Kd.R k60 60 w B (fun _ => True) v (ps.map toS60) :=
  ⟨fun _ _ => trivial, pcs ps, by rw [List.length_map]; exact ho, by have h := pcs_reps (R := k60.M w B (fun k => True ∧ some k ≠ v.ownBlock)) (fun p => k60_mkM w B _ (toS60 p)) ps [] (Reps.none _ _); exact h⟩
def xml_Parse.f (s : ByteArray) : Option (List S60 × Int) := if s.size ≤ 9223372036854775807 then (parseL (s.size + 1) s.data.toList).map fun r => (r.2.map toS60, r.1) else none
theorem xml_Parse.calls (s : ByteArray) (r1 : List S60) (r2 : Int) (w : World) (hT : LaidM w) (h : xml_Parse.f s = some (r1, r2)) :
    Calls Tryz.prog 25 #[.string s] w fun e w' => ∃ v0_ : Value, e = .returned (.tuple #[v0_, .int .i64 r2]) ∧ Kd.R k60 60 w' w.heap.size (fun _ => True) v0_ r1 ∧ Below w.heap.size w w' := by
  unfold xml_Parse.f at h
  split at h
  · rename_i hc
    obtain ⟨⟨n, ps⟩, h1, h2⟩ := Option.map_eq_some_iff.1 h
    simp only [Prod.mk.injEq] at h2
    obtain ⟨rfl, rfl⟩ := h2
    have hl : s.data.toList.length = s.size := rfl
    have hp := parse_any (s.size + 1) s.data.toList w hT (by omega) _ h1
    refine hp.mono ?_
    rintro e w' ⟨v, rfl, ho, hb⟩
    exact ⟨v, rfl, row_R60 ho, hb⟩
  · cases h

/-! ### calepinlaw07_first: function 19 -/
def calepinlaw07_first.f (k : Nat)  : Option (Bool) := (xml_Parse.f (⟨#[60, 97, 32, 120, 109, 108, 110, 115, 61, 34, 68, 65, 86, 58, 34, 62, 32, 60, 98, 47, 62, 120, 38, 97, 109, 112, 59, 60, 47, 97, 62]⟩ : ByteArray)).bind fun bt119 => ((xml_Print.f k bt119.1).bind fun bt123 => ((xml_Parse.f (⟨#[60, 97, 62, 60, 47, 98, 62]⟩ : ByteArray)).bind fun bt125 => (if bt119.2 = 0 then (if (bt119.1.length : Int) = 5 then (if bt123.2 = 0 then (if bt123.1.toList = ([60, 68, 58, 97, 32, 120, 109, 108, 110, 115, 58, 68, 61, 34, 68, 65, 86, 58, 34, 32, 120, 109, 108, 110, 115, 58, 67, 61, 34, 117, 114, 110, 58, 105, 101, 116, 102, 58, 112, 97, 114, 97, 109, 115, 58, 120, 109, 108, 58, 110, 115, 58, 99, 97, 114, 100, 100, 97, 118, 34, 62, 60, 68, 58, 98, 47, 62, 120, 38, 97, 109, 112, 59, 60, 47, 68, 58, 97, 62] : List UInt8) then (some (bt125.2 == 70)) else (some false)) else (some false)) else (some false)) else (some false))))
theorem calepinlaw07_first.mono : ∀ k, LeO (calepinlaw07_first.f k ) (calepinlaw07_first.f (k + 1) ) := by
  intro  k
  unfold calepinlaw07_first.f
  repeat' first
      | (with_reducible exact xml_Print.mono _ _)
      | (with_reducible exact LeO.refl _)
      | (with_reducible exact LeO.none _)
      | (with_reducible refine LeO.ite ?_ ?_)
      | (with_reducible refine LeO.bind ?_ (fun _ => ?_))
      | exact xml_Print.mono _ _
      | exact LeO.none _
      | refine LeO.ite ?_ ?_
      | refine LeO.bind ?_ (fun _ => ?_)
set_option maxHeartbeats 8000000 in
set_option maxRecDepth 100000 in
theorem calepinlaw07_first.calls (k : Nat)  (r : Bool) (w : World) (hT : LaidM w) (h : calepinlaw07_first.f k  = some r) :
    Calls Tryz.prog 19 #[] w fun e w' => e = .returned (.bool r) ∧ Below w.heap.size w w' := by
  have HB := Aside0.mk (Below.refl w.heap.size w)
  have HT := Aside0.mk hT
  clear hT
  have H : ((xml_Parse.f (⟨#[60, 97, 32, 120, 109, 108, 110, 115, 61, 34, 68, 65, 86, 58, 34, 62, 32, 60, 98, 47, 62, 120, 38, 97, 109, 112, 59, 60, 47, 97, 62]⟩ : ByteArray)).bind fun bt119 => ((xml_Print.f k bt119.1).bind fun bt123 => ((xml_Parse.f (⟨#[60, 97, 62, 60, 47, 98, 62]⟩ : ByteArray)).bind fun bt125 => (if bt119.2 = 0 then (if (bt119.1.length : Int) = 5 then (if bt123.2 = 0 then (if bt123.1.toList = ([60, 68, 58, 97, 32, 120, 109, 108, 110, 115, 58, 68, 61, 34, 68, 65, 86, 58, 34, 32, 120, 109, 108, 110, 115, 58, 67, 61, 34, 117, 114, 110, 58, 105, 101, 116, 102, 58, 112, 97, 114, 97, 109, 115, 58, 120, 109, 108, 58, 110, 115, 58, 99, 97, 114, 100, 100, 97, 118, 34, 62, 60, 68, 58, 98, 47, 62, 120, 38, 97, 109, 112, 59, 60, 47, 68, 58, 97, 62] : List UInt8) then (some (bt125.2 == 70)) else (some false)) else (some false)) else (some false)) else (some false))))) = some r := h
  clear h
  replace H := Option.bind_eq_some_iff.mp H
  obtain ⟨⟨t119, t120⟩, A10, H⟩ := H
  replace H : ((xml_Print.f k t119).bind fun bt123 => ((xml_Parse.f (⟨#[60, 97, 62, 60, 47, 98, 62]⟩ : ByteArray)).bind fun bt125 => (if t120 = 0 then (if (t119.length : Int) = 5 then (if bt123.2 = 0 then (if bt123.1.toList = ([60, 68, 58, 97, 32, 120, 109, 108, 110, 115, 58, 68, 61, 34, 68, 65, 86, 58, 34, 32, 120, 109, 108, 110, 115, 58, 67, 61, 34, 117, 114, 110, 58, 105, 101, 116, 102, 58, 112, 97, 114, 97, 109, 115, 58, 120, 109, 108, 58, 110, 115, 58, 99, 97, 114, 100, 100, 97, 118, 34, 62, 60, 68, 58, 98, 47, 62, 120, 38, 97, 109, 112, 59, 60, 47, 68, 58, 97, 62] : List UInt8) then (some (bt125.2 == 70)) else (some false)) else (some false)) else (some false)) else (some false)))) = some r := H
  have A1 := Aside0.mk A10
  clear A10
  replace H := Option.bind_eq_some_iff.mp H
  obtain ⟨⟨t123, t124⟩, A20, H⟩ := H
  replace H : ((xml_Parse.f (⟨#[60, 97, 62, 60, 47, 98, 62]⟩ : ByteArray)).bind fun bt125 => (if t120 = 0 then (if (t119.length : Int) = 5 then (if t124 = 0 then (if t123.toList = ([60, 68, 58, 97, 32, 120, 109, 108, 110, 115, 58, 68, 61, 34, 68, 65, 86, 58, 34, 32, 120, 109, 108, 110, 115, 58, 67, 61, 34, 117, 114, 110, 58, 105, 101, 116, 102, 58, 112, 97, 114, 97, 109, 115, 58, 120, 109, 108, 58, 110, 115, 58, 99, 97, 114, 100, 100, 97, 118, 34, 62, 60, 68, 58, 98, 47, 62, 120, 38, 97, 109, 112, 59, 60, 47, 68, 58, 97, 62] : List UInt8) then (some (bt125.2 == 70)) else (some false)) else (some false)) else (some false)) else (some false))) = some r := H
  have A2 := Aside0.mk A20
  clear A20
  replace H := Option.bind_eq_some_iff.mp H
  obtain ⟨⟨t125, t126⟩, A30, H⟩ := H
  replace H : (if t120 = 0 then (if (t119.length : Int) = 5 then (if t124 = 0 then (if t123.toList = ([60, 68, 58, 97, 32, 120, 109, 108, 110, 115, 58, 68, 61, 34, 68, 65, 86, 58, 34, 32, 120, 109, 108, 110, 115, 58, 67, 61, 34, 117, 114, 110, 58, 105, 101, 116, 102, 58, 112, 97, 114, 97, 109, 115, 58, 120, 109, 108, 58, 110, 115, 58, 99, 97, 114, 100, 100, 97, 118, 34, 62, 60, 68, 58, 98, 47, 62, 120, 38, 97, 109, 112, 59, 60, 47, 68, 58, 97, 62] : List UInt8) then (some (t126 == 70)) else (some false)) else (some false)) else (some false)) else (some false)) = some r := H
  have A3 := Aside0.mk A30
  clear A30
  by_cases c4 : t120 = 0
  · rw [if_pos c4] at H
    have c4b0 : (t120 == 0) = true := beq_iff_eq.mpr c4
    have c4b1 : (t120 != 0) = false := bne_eq_false_iff_eq.mpr c4
    clear c4
    by_cases c5 : (t119.length : Int) = 5
    · rw [if_pos c5] at H
      have c5b0 : ((t119.length : Int) == 5) = true := beq_iff_eq.mpr c5
      have c5b1 : ((t119.length : Int) != 5) = false := bne_eq_false_iff_eq.mpr c5
      clear c5
      by_cases c6 : t124 = 0
      · rw [if_pos c6] at H
        have c6b0 : (t124 == 0) = true := beq_iff_eq.mpr c6
        have c6b1 : (t124 != 0) = false := bne_eq_false_iff_eq.mpr c6
        clear c6
        by_cases c7 : t123.toList = ([60, 68, 58, 97, 32, 120, 109, 108, 110, 115, 58, 68, 61, 34, 68, 65, 86, 58, 34, 32, 120, 109, 108, 110, 115, 58, 67, 61, 34, 117, 114, 110, 58, 105, 101, 116, 102, 58, 112, 97, 114, 97, 109, 115, 58, 120, 109, 108, 58, 110, 115, 58, 99, 97, 114, 100, 100, 97, 118, 34, 62, 60, 68, 58, 98, 47, 62, 120, 38, 97, 109, 112, 59, 60, 47, 68, 58, 97, 62] : List UInt8)
        · rw [if_pos c7] at H
          have c7b0 : (t123.toList == ([60, 68, 58, 97, 32, 120, 109, 108, 110, 115, 58, 68, 61, 34, 68, 65, 86, 58, 34, 32, 120, 109, 108, 110, 115, 58, 67, 61, 34, 117, 114, 110, 58, 105, 101, 116, 102, 58, 112, 97, 114, 97, 109, 115, 58, 120, 109, 108, 58, 110, 115, 58, 99, 97, 114, 100, 100, 97, 118, 34, 62, 60, 68, 58, 98, 47, 62, 120, 38, 97, 109, 112, 59, 60, 47, 68, 58, 97, 62] : List UInt8)) = true := beq_iff_eq.mpr c7
          have c7b1 : (t123.toList != ([60, 68, 58, 97, 32, 120, 109, 108, 110, 115, 58, 68, 61, 34, 68, 65, 86, 58, 34, 32, 120, 109, 108, 110, 115, 58, 67, 61, 34, 117, 114, 110, 58, 105, 101, 116, 102, 58, 112, 97, 114, 97, 109, 115, 58, 120, 109, 108, 58, 110, 115, 58, 99, 97, 114, 100, 100, 97, 118, 34, 62, 60, 68, 58, 98, 47, 62, 120, 38, 97, 109, 112, 59, 60, 47, 68, 58, 97, 62] : List UInt8)) = false := bne_eq_false_iff_eq.mpr c7
          clear c7
          obtain rfl := Option.some.inj H
          go_enter Tryz.func19, Tryz.ntmps19
          go_wp2_with (first | ((with_reducible refine gate_callee (f := 25) rfl ?_); refine goesL_ (some 8) rfl rfl Tryz.func25 (by kernel_rfl) rfl #[.string (⟨#[60, 97, 32, 120, 109, 108, 110, 115, 61, 34, 68, 65, 86, 58, 34, 62, 32, 60, 98, 47, 62, 120, 38, 97, 109, 112, 59, 60, 47, 97, 62]⟩ : ByteArray)] rfl (by (try simp only [List.map_toArray, List.map_cons, List.map_nil]); first | done | rfl | (simp only [List.length_drop, List.length_take]; rfl)) ?_; (with_reducible refine (xml_Parse.calls (⟨#[60, 97, 32, 120, 109, 108, 110, 115, 61, 34, 68, 65, 86, 58, 34, 62, 32, 60, 98, 47, 62, 120, 38, 97, 109, 112, 59, 60, 47, 97, 62]⟩ : ByteArray) t119 t120 _ ?side1 A1.out).mono ?_); (case side1 => exact LaidM.below HT.out (by repeat (first | (with_reducible first | exact HB.out | apply below_alloc | apply pw_below_drewN | apply below_drew1) | exact HB.out))); rintro e w8 ⟨v121, rfl, ho0, hb⟩; refine ⟨_, rfl, ?_⟩; have n0_ := Aside0.mk (Kd.R_lower ho0 (below_size (by repeat (first | (with_reducible first | exact HB.out | apply below_alloc | apply pw_below_drewN | apply below_drew1) | exact HB.out)))); have n1_ := Aside0.mk (below_step (by repeat (first | (with_reducible first | exact HB.out | apply below_alloc | apply pw_below_drewN | apply below_drew1) | exact HB.out)) hb); clear HB; have HO122 := n0_; have HB := n1_; clear n0_ n1_; (try clear hb); (try clear hb2); (try clear hk); (try clear hi); (try clear ho0); obtain ⟨Ao9, co9, eo9⟩ := Kd.R_slice HO122.out; subst eo9) | ((with_reducible refine gate_callee (f := 21) rfl ?_); refine goesL_ (some 13) rfl rfl Tryz.func21 (by kernel_rfl) rfl #[.slice Ao9 t119.length co9] rfl (by (try simp only [List.map_toArray, List.map_cons, List.map_nil]); first | done | rfl | (simp only [List.length_drop, List.length_take]; rfl)) ?_; (with_reducible refine (xml_Print.calls k _ _ t119 t123 t124 _ ?side1 ?side2 ?side3 A2.out).mono ?_); (case side1 => repeat (first | exact (Kd.R_reads' HO122.out).2.2 | (with_reducible refine Kd.C_alloc ?_ _) | (with_reducible refine Kd.C_drewN ?_ _) | (with_reducible refine Kd.C_drew ?_))); (case side2 => exact (Kd.R_reads' HO122.out).2.1); (case side3 => exact LaidM.below HT.out (by repeat (first | (with_reducible first | exact HB.out | apply below_alloc | apply pw_below_drewN | apply below_drew1) | exact HB.out))); rintro e w10 ⟨rfl, hb⟩; refine ⟨_, rfl, ?_⟩; have n0_ := Aside0.mk (Kd.R_below (by (with_reducible repeat (first | apply Kd.R_alloc | apply Kd.R_drewN | apply Kd.R_drew)); exact HO122.out) hb); have n1_ := Aside0.mk (below_step (by repeat (first | (with_reducible first | exact HB.out | apply below_alloc | apply pw_below_drewN | apply below_drew1) | exact HB.out)) hb); clear HO122; clear HB; have HO122 := n0_; have HB := n1_; clear n0_ n1_; (try clear hb); (try clear hb2); (try clear hk); (try clear hi)) | ((with_reducible refine gate_callee (f := 25) rfl ?_); refine goesL_ (some 17) rfl rfl Tryz.func25 (by kernel_rfl) rfl #[.string (⟨#[60, 97, 62, 60, 47, 98, 62]⟩ : ByteArray)] rfl (by (try simp only [List.map_toArray, List.map_cons, List.map_nil]); first | done | rfl | (simp only [List.length_drop, List.length_take]; rfl)) ?_; (with_reducible refine (xml_Parse.calls (⟨#[60, 97, 62, 60, 47, 98, 62]⟩ : ByteArray) t125 t126 _ ?side1 A3.out).mono ?_); (case side1 => exact LaidM.below HT.out (by repeat (first | (with_reducible first | exact HB.out | apply below_alloc | apply pw_below_drewN | apply below_drew1) | exact HB.out))); rintro e w11 ⟨v127, rfl, ho0, hb⟩; refine ⟨_, rfl, ?_⟩; have n0_ := Aside0.mk (Kd.R_elder' (by (with_reducible repeat (first | apply Kd.R_alloc | apply Kd.R_drewN | apply Kd.R_drew)); exact HO122.out) (Kd.R_base ho0) hb); have n1_ := Aside0.mk (Kd.R_lower (Kd.R_new' ho0 (Kd.R_lt (by (with_reducible repeat (first | apply Kd.R_alloc | apply Kd.R_drewN | apply Kd.R_drew)); exact HO122.out))) (below_size (by repeat (first | (with_reducible first | exact HB.out | apply below_alloc | apply pw_below_drewN | apply below_drew1) | exact HB.out)))); have n2_ := Aside0.mk (below_step (by repeat (first | (with_reducible first | exact HB.out | apply below_alloc | apply pw_below_drewN | apply below_drew1) | exact HB.out)) hb); clear HO122; clear HB; have HO122 := n0_; have HO128 := n1_; have HB := n2_; clear n0_ n1_ n2_; (try clear hb); (try clear hb2); (try clear hk); (try clear hi); (try clear ho0)))
          go_ret
          exact ⟨by first | rfl | (simp [errW_none, errW_some] <;> rfl) | (simp [*, errW_none, errW_some] <;> rfl), by repeat (first | (with_reducible first | exact HB.out | apply below_alloc | apply pw_below_drewN | apply below_drew1) | exact HB.out)⟩
        · rw [if_neg c7] at H
          have c7b0 : (t123.toList == ([60, 68, 58, 97, 32, 120, 109, 108, 110, 115, 58, 68, 61, 34, 68, 65, 86, 58, 34, 32, 120, 109, 108, 110, 115, 58, 67, 61, 34, 117, 114, 110, 58, 105, 101, 116, 102, 58, 112, 97, 114, 97, 109, 115, 58, 120, 109, 108, 58, 110, 115, 58, 99, 97, 114, 100, 100, 97, 118, 34, 62, 60, 68, 58, 98, 47, 62, 120, 38, 97, 109, 112, 59, 60, 47, 68, 58, 97, 62] : List UInt8)) = false := beq_eq_false_iff_ne.mpr c7
          have c7b1 : (t123.toList != ([60, 68, 58, 97, 32, 120, 109, 108, 110, 115, 58, 68, 61, 34, 68, 65, 86, 58, 34, 32, 120, 109, 108, 110, 115, 58, 67, 61, 34, 117, 114, 110, 58, 105, 101, 116, 102, 58, 112, 97, 114, 97, 109, 115, 58, 120, 109, 108, 58, 110, 115, 58, 99, 97, 114, 100, 100, 97, 118, 34, 62, 60, 68, 58, 98, 47, 62, 120, 38, 97, 109, 112, 59, 60, 47, 68, 58, 97, 62] : List UInt8)) = true := bne_iff_ne.mpr c7
          obtain rfl := Option.some.inj H
          go_enter Tryz.func19, Tryz.ntmps19
          go_wp2_with (first | ((with_reducible refine gate_callee (f := 25) rfl ?_); refine goesL_ (some 8) rfl rfl Tryz.func25 (by kernel_rfl) rfl #[.string (⟨#[60, 97, 32, 120, 109, 108, 110, 115, 61, 34, 68, 65, 86, 58, 34, 62, 32, 60, 98, 47, 62, 120, 38, 97, 109, 112, 59, 60, 47, 97, 62]⟩ : ByteArray)] rfl (by (try simp only [List.map_toArray, List.map_cons, List.map_nil]); first | done | rfl | (simp only [List.length_drop, List.length_take]; rfl)) ?_; (with_reducible refine (xml_Parse.calls (⟨#[60, 97, 32, 120, 109, 108, 110, 115, 61, 34, 68, 65, 86, 58, 34, 62, 32, 60, 98, 47, 62, 120, 38, 97, 109, 112, 59, 60, 47, 97, 62]⟩ : ByteArray) t119 t120 _ ?side1 A1.out).mono ?_); (case side1 => exact LaidM.below HT.out (by repeat (first | (with_reducible first | exact HB.out | apply below_alloc | apply pw_below_drewN | apply below_drew1) | exact HB.out))); rintro e w12 ⟨v121, rfl, ho0, hb⟩; refine ⟨_, rfl, ?_⟩; have n0_ := Aside0.mk (Kd.R_lower ho0 (below_size (by repeat (first | (with_reducible first | exact HB.out | apply below_alloc | apply pw_below_drewN | apply below_drew1) | exact HB.out)))); have n1_ := Aside0.mk (below_step (by repeat (first | (with_reducible first | exact HB.out | apply below_alloc | apply pw_below_drewN | apply below_drew1) | exact HB.out)) hb); clear HB; have HO122 := n0_; have HB := n1_; clear n0_ n1_; (try clear hb); (try clear hb2); (try clear hk); (try clear hi); (try clear ho0); obtain ⟨Ao13, co13, eo13⟩ := Kd.R_slice HO122.out; subst eo13) | ((with_reducible refine gate_callee (f := 21) rfl ?_); refine goesL_ (some 13) rfl rfl Tryz.func21 (by kernel_rfl) rfl #[.slice Ao13 t119.length co13] rfl (by (try simp only [List.map_toArray, List.map_cons, List.map_nil]); first | done | rfl | (simp only [List.length_drop, List.length_take]; rfl)) ?_; (with_reducible refine (xml_Print.calls k _ _ t119 t123 t124 _ ?side1 ?side2 ?side3 A2.out).mono ?_); (case side1 => repeat (first | exact (Kd.R_reads' HO122.out).2.2 | (with_reducible refine Kd.C_alloc ?_ _) | (with_reducible refine Kd.C_drewN ?_ _) | (with_reducible refine Kd.C_drew ?_))); (case side2 => exact (Kd.R_reads' HO122.out).2.1); (case side3 => exact LaidM.below HT.out (by repeat (first | (with_reducible first | exact HB.out | apply below_alloc | apply pw_below_drewN | apply below_drew1) | exact HB.out))); rintro e w14 ⟨rfl, hb⟩; refine ⟨_, rfl, ?_⟩; have n0_ := Aside0.mk (Kd.R_below (by (with_reducible repeat (first | apply Kd.R_alloc | apply Kd.R_drewN | apply Kd.R_drew)); exact HO122.out) hb); have n1_ := Aside0.mk (below_step (by repeat (first | (with_reducible first | exact HB.out | apply below_alloc | apply pw_below_drewN | apply below_drew1) | exact HB.out)) hb); clear HO122; clear HB; have HO122 := n0_; have HB := n1_; clear n0_ n1_; (try clear hb); (try clear hb2); (try clear hk); (try clear hi)) | ((with_reducible refine gate_callee (f := 25) rfl ?_); refine goesL_ (some 17) rfl rfl Tryz.func25 (by kernel_rfl) rfl #[.string (⟨#[60, 97, 62, 60, 47, 98, 62]⟩ : ByteArray)] rfl (by (try simp only [List.map_toArray, List.map_cons, List.map_nil]); first | done | rfl | (simp only [List.length_drop, List.length_take]; rfl)) ?_; (with_reducible refine (xml_Parse.calls (⟨#[60, 97, 62, 60, 47, 98, 62]⟩ : ByteArray) t125 t126 _ ?side1 A3.out).mono ?_); (case side1 => exact LaidM.below HT.out (by repeat (first | (with_reducible first | exact HB.out | apply below_alloc | apply pw_below_drewN | apply below_drew1) | exact HB.out))); rintro e w15 ⟨v127, rfl, ho0, hb⟩; refine ⟨_, rfl, ?_⟩; have n0_ := Aside0.mk (Kd.R_elder' (by (with_reducible repeat (first | apply Kd.R_alloc | apply Kd.R_drewN | apply Kd.R_drew)); exact HO122.out) (Kd.R_base ho0) hb); have n1_ := Aside0.mk (Kd.R_lower (Kd.R_new' ho0 (Kd.R_lt (by (with_reducible repeat (first | apply Kd.R_alloc | apply Kd.R_drewN | apply Kd.R_drew)); exact HO122.out))) (below_size (by repeat (first | (with_reducible first | exact HB.out | apply below_alloc | apply pw_below_drewN | apply below_drew1) | exact HB.out)))); have n2_ := Aside0.mk (below_step (by repeat (first | (with_reducible first | exact HB.out | apply below_alloc | apply pw_below_drewN | apply below_drew1) | exact HB.out)) hb); clear HO122; clear HB; have HO122 := n0_; have HO128 := n1_; have HB := n2_; clear n0_ n1_ n2_; (try clear hb); (try clear hb2); (try clear hk); (try clear hi); (try clear ho0)))
          go_ret
          exact ⟨by first | rfl | (simp [errW_none, errW_some] <;> rfl) | (simp [*, errW_none, errW_some] <;> rfl), by repeat (first | (with_reducible first | exact HB.out | apply below_alloc | apply pw_below_drewN | apply below_drew1) | exact HB.out)⟩
      · rw [if_neg c6] at H
        have c6b0 : (t124 == 0) = false := beq_eq_false_iff_ne.mpr c6
        have c6b1 : (t124 != 0) = true := bne_iff_ne.mpr c6
        obtain rfl := Option.some.inj H
        go_enter Tryz.func19, Tryz.ntmps19
        go_wp2_with (first | ((with_reducible refine gate_callee (f := 25) rfl ?_); refine goesL_ (some 8) rfl rfl Tryz.func25 (by kernel_rfl) rfl #[.string (⟨#[60, 97, 32, 120, 109, 108, 110, 115, 61, 34, 68, 65, 86, 58, 34, 62, 32, 60, 98, 47, 62, 120, 38, 97, 109, 112, 59, 60, 47, 97, 62]⟩ : ByteArray)] rfl (by (try simp only [List.map_toArray, List.map_cons, List.map_nil]); first | done | rfl | (simp only [List.length_drop, List.length_take]; rfl)) ?_; (with_reducible refine (xml_Parse.calls (⟨#[60, 97, 32, 120, 109, 108, 110, 115, 61, 34, 68, 65, 86, 58, 34, 62, 32, 60, 98, 47, 62, 120, 38, 97, 109, 112, 59, 60, 47, 97, 62]⟩ : ByteArray) t119 t120 _ ?side1 A1.out).mono ?_); (case side1 => exact LaidM.below HT.out (by repeat (first | (with_reducible first | exact HB.out | apply below_alloc | apply pw_below_drewN | apply below_drew1) | exact HB.out))); rintro e w16 ⟨v121, rfl, ho0, hb⟩; refine ⟨_, rfl, ?_⟩; have n0_ := Aside0.mk (Kd.R_lower ho0 (below_size (by repeat (first | (with_reducible first | exact HB.out | apply below_alloc | apply pw_below_drewN | apply below_drew1) | exact HB.out)))); have n1_ := Aside0.mk (below_step (by repeat (first | (with_reducible first | exact HB.out | apply below_alloc | apply pw_below_drewN | apply below_drew1) | exact HB.out)) hb); clear HB; have HO122 := n0_; have HB := n1_; clear n0_ n1_; (try clear hb); (try clear hb2); (try clear hk); (try clear hi); (try clear ho0); obtain ⟨Ao17, co17, eo17⟩ := Kd.R_slice HO122.out; subst eo17) | ((with_reducible refine gate_callee (f := 21) rfl ?_); refine goesL_ (some 13) rfl rfl Tryz.func21 (by kernel_rfl) rfl #[.slice Ao17 t119.length co17] rfl (by (try simp only [List.map_toArray, List.map_cons, List.map_nil]); first | done | rfl | (simp only [List.length_drop, List.length_take]; rfl)) ?_; (with_reducible refine (xml_Print.calls k _ _ t119 t123 t124 _ ?side1 ?side2 ?side3 A2.out).mono ?_); (case side1 => repeat (first | exact (Kd.R_reads' HO122.out).2.2 | (with_reducible refine Kd.C_alloc ?_ _) | (with_reducible refine Kd.C_drewN ?_ _) | (with_reducible refine Kd.C_drew ?_))); (case side2 => exact (Kd.R_reads' HO122.out).2.1); (case side3 => exact LaidM.below HT.out (by repeat (first | (with_reducible first | exact HB.out | apply below_alloc | apply pw_below_drewN | apply below_drew1) | exact HB.out))); rintro e w18 ⟨rfl, hb⟩; refine ⟨_, rfl, ?_⟩; have n0_ := Aside0.mk (Kd.R_below (by (with_reducible repeat (first | apply Kd.R_alloc | apply Kd.R_drewN | apply Kd.R_drew)); exact HO122.out) hb); have n1_ := Aside0.mk (below_step (by repeat (first | (with_reducible first | exact HB.out | apply below_alloc | apply pw_below_drewN | apply below_drew1) | exact HB.out)) hb); clear HO122; clear HB; have HO122 := n0_; have HB := n1_; clear n0_ n1_; (try clear hb); (try clear hb2); (try clear hk); (try clear hi)) | ((with_reducible refine gate_callee (f := 25) rfl ?_); refine goesL_ (some 17) rfl rfl Tryz.func25 (by kernel_rfl) rfl #[.string (⟨#[60, 97, 62, 60, 47, 98, 62]⟩ : ByteArray)] rfl (by (try simp only [List.map_toArray, List.map_cons, List.map_nil]); first | done | rfl | (simp only [List.length_drop, List.length_take]; rfl)) ?_; (with_reducible refine (xml_Parse.calls (⟨#[60, 97, 62, 60, 47, 98, 62]⟩ : ByteArray) t125 t126 _ ?side1 A3.out).mono ?_); (case side1 => exact LaidM.below HT.out (by repeat (first | (with_reducible first | exact HB.out | apply below_alloc | apply pw_below_drewN | apply below_drew1) | exact HB.out))); rintro e w19 ⟨v127, rfl, ho0, hb⟩; refine ⟨_, rfl, ?_⟩; have n0_ := Aside0.mk (Kd.R_elder' (by (with_reducible repeat (first | apply Kd.R_alloc | apply Kd.R_drewN | apply Kd.R_drew)); exact HO122.out) (Kd.R_base ho0) hb); have n1_ := Aside0.mk (Kd.R_lower (Kd.R_new' ho0 (Kd.R_lt (by (with_reducible repeat (first | apply Kd.R_alloc | apply Kd.R_drewN | apply Kd.R_drew)); exact HO122.out))) (below_size (by repeat (first | (with_reducible first | exact HB.out | apply below_alloc | apply pw_below_drewN | apply below_drew1) | exact HB.out)))); have n2_ := Aside0.mk (below_step (by repeat (first | (with_reducible first | exact HB.out | apply below_alloc | apply pw_below_drewN | apply below_drew1) | exact HB.out)) hb); clear HO122; clear HB; have HO122 := n0_; have HO128 := n1_; have HB := n2_; clear n0_ n1_ n2_; (try clear hb); (try clear hb2); (try clear hk); (try clear hi); (try clear ho0)))
        go_ret
        exact ⟨by first | rfl | (simp [errW_none, errW_some] <;> rfl) | (simp [*, errW_none, errW_some] <;> rfl), by repeat (first | (with_reducible first | exact HB.out | apply below_alloc | apply pw_below_drewN | apply below_drew1) | exact HB.out)⟩
    · rw [if_neg c5] at H
      have c5b0 : ((t119.length : Int) == 5) = false := beq_eq_false_iff_ne.mpr c5
      have c5b1 : ((t119.length : Int) != 5) = true := bne_iff_ne.mpr c5
      obtain rfl := Option.some.inj H
      go_enter Tryz.func19, Tryz.ntmps19
      go_wp2_with (first | ((with_reducible refine gate_callee (f := 25) rfl ?_); refine goesL_ (some 8) rfl rfl Tryz.func25 (by kernel_rfl) rfl #[.string (⟨#[60, 97, 32, 120, 109, 108, 110, 115, 61, 34, 68, 65, 86, 58, 34, 62, 32, 60, 98, 47, 62, 120, 38, 97, 109, 112, 59, 60, 47, 97, 62]⟩ : ByteArray)] rfl (by (try simp only [List.map_toArray, List.map_cons, List.map_nil]); first | done | rfl | (simp only [List.length_drop, List.length_take]; rfl)) ?_; (with_reducible refine (xml_Parse.calls (⟨#[60, 97, 32, 120, 109, 108, 110, 115, 61, 34, 68, 65, 86, 58, 34, 62, 32, 60, 98, 47, 62, 120, 38, 97, 109, 112, 59, 60, 47, 97, 62]⟩ : ByteArray) t119 t120 _ ?side1 A1.out).mono ?_); (case side1 => exact LaidM.below HT.out (by repeat (first | (with_reducible first | exact HB.out | apply below_alloc | apply pw_below_drewN | apply below_drew1) | exact HB.out))); rintro e w20 ⟨v121, rfl, ho0, hb⟩; refine ⟨_, rfl, ?_⟩; have n0_ := Aside0.mk (Kd.R_lower ho0 (below_size (by repeat (first | (with_reducible first | exact HB.out | apply below_alloc | apply pw_below_drewN | apply below_drew1) | exact HB.out)))); have n1_ := Aside0.mk (below_step (by repeat (first | (with_reducible first | exact HB.out | apply below_alloc | apply pw_below_drewN | apply below_drew1) | exact HB.out)) hb); clear HB; have HO122 := n0_; have HB := n1_; clear n0_ n1_; (try clear hb); (try clear hb2); (try clear hk); (try clear hi); (try clear ho0); obtain ⟨Ao21, co21, eo21⟩ := Kd.R_slice HO122.out; subst eo21) | ((with_reducible refine gate_callee (f := 21) rfl ?_); refine goesL_ (some 13) rfl rfl Tryz.func21 (by kernel_rfl) rfl #[.slice Ao21 t119.length co21] rfl (by (try simp only [List.map_toArray, List.map_cons, List.map_nil]); first | done | rfl | (simp only [List.length_drop, List.length_take]; rfl)) ?_; (with_reducible refine (xml_Print.calls k _ _ t119 t123 t124 _ ?side1 ?side2 ?side3 A2.out).mono ?_); (case side1 => repeat (first | exact (Kd.R_reads' HO122.out).2.2 | (with_reducible refine Kd.C_alloc ?_ _) | (with_reducible refine Kd.C_drewN ?_ _) | (with_reducible refine Kd.C_drew ?_))); (case side2 => exact (Kd.R_reads' HO122.out).2.1); (case side3 => exact LaidM.below HT.out (by repeat (first | (with_reducible first | exact HB.out | apply below_alloc | apply pw_below_drewN | apply below_drew1) | exact HB.out))); rintro e w22 ⟨rfl, hb⟩; refine ⟨_, rfl, ?_⟩; have n0_ := Aside0.mk (Kd.R_below (by (with_reducible repeat (first | apply Kd.R_alloc | apply Kd.R_drewN | apply Kd.R_drew)); exact HO122.out) hb); have n1_ := Aside0.mk (below_step (by repeat (first | (with_reducible first | exact HB.out | apply below_alloc | apply pw_below_drewN | apply below_drew1) | exact HB.out)) hb); clear HO122; clear HB; have HO122 := n0_; have HB := n1_; clear n0_ n1_; (try clear hb); (try clear hb2); (try clear hk); (try clear hi)) | ((with_reducible refine gate_callee (f := 25) rfl ?_); refine goesL_ (some 17) rfl rfl Tryz.func25 (by kernel_rfl) rfl #[.string (⟨#[60, 97, 62, 60, 47, 98, 62]⟩ : ByteArray)] rfl (by (try simp only [List.map_toArray, List.map_cons, List.map_nil]); first | done | rfl | (simp only [List.length_drop, List.length_take]; rfl)) ?_; (with_reducible refine (xml_Parse.calls (⟨#[60, 97, 62, 60, 47, 98, 62]⟩ : ByteArray) t125 t126 _ ?side1 A3.out).mono ?_); (case side1 => exact LaidM.below HT.out (by repeat (first | (with_reducible first | exact HB.out | apply below_alloc | apply pw_below_drewN | apply below_drew1) | exact HB.out))); rintro e w23 ⟨v127, rfl, ho0, hb⟩; refine ⟨_, rfl, ?_⟩; have n0_ := Aside0.mk (Kd.R_elder' (by (with_reducible repeat (first | apply Kd.R_alloc | apply Kd.R_drewN | apply Kd.R_drew)); exact HO122.out) (Kd.R_base ho0) hb); have n1_ := Aside0.mk (Kd.R_lower (Kd.R_new' ho0 (Kd.R_lt (by (with_reducible repeat (first | apply Kd.R_alloc | apply Kd.R_drewN | apply Kd.R_drew)); exact HO122.out))) (below_size (by repeat (first | (with_reducible first | exact HB.out | apply below_alloc | apply pw_below_drewN | apply below_drew1) | exact HB.out)))); have n2_ := Aside0.mk (below_step (by repeat (first | (with_reducible first | exact HB.out | apply below_alloc | apply pw_below_drewN | apply below_drew1) | exact HB.out)) hb); clear HO122; clear HB; have HO122 := n0_; have HO128 := n1_; have HB := n2_; clear n0_ n1_ n2_; (try clear hb); (try clear hb2); (try clear hk); (try clear hi); (try clear ho0)))
      go_ret
      exact ⟨by first | rfl | (simp [errW_none, errW_some] <;> rfl) | (simp [*, errW_none, errW_some] <;> rfl), by repeat (first | (with_reducible first | exact HB.out | apply below_alloc | apply pw_below_drewN | apply below_drew1) | exact HB.out)⟩
  · rw [if_neg c4] at H
    have c4b0 : (t120 == 0) = false := beq_eq_false_iff_ne.mpr c4
    have c4b1 : (t120 != 0) = true := bne_iff_ne.mpr c4
    obtain rfl := Option.some.inj H
    go_enter Tryz.func19, Tryz.ntmps19
    go_wp2_with (first | ((with_reducible refine gate_callee (f := 25) rfl ?_); refine goesL_ (some 8) rfl rfl Tryz.func25 (by kernel_rfl) rfl #[.string (⟨#[60, 97, 32, 120, 109, 108, 110, 115, 61, 34, 68, 65, 86, 58, 34, 62, 32, 60, 98, 47, 62, 120, 38, 97, 109, 112, 59, 60, 47, 97, 62]⟩ : ByteArray)] rfl (by (try simp only [List.map_toArray, List.map_cons, List.map_nil]); first | done | rfl | (simp only [List.length_drop, List.length_take]; rfl)) ?_; (with_reducible refine (xml_Parse.calls (⟨#[60, 97, 32, 120, 109, 108, 110, 115, 61, 34, 68, 65, 86, 58, 34, 62, 32, 60, 98, 47, 62, 120, 38, 97, 109, 112, 59, 60, 47, 97, 62]⟩ : ByteArray) t119 t120 _ ?side1 A1.out).mono ?_); (case side1 => exact LaidM.below HT.out (by repeat (first | (with_reducible first | exact HB.out | apply below_alloc | apply pw_below_drewN | apply below_drew1) | exact HB.out))); rintro e w24 ⟨v121, rfl, ho0, hb⟩; refine ⟨_, rfl, ?_⟩; have n0_ := Aside0.mk (Kd.R_lower ho0 (below_size (by repeat (first | (with_reducible first | exact HB.out | apply below_alloc | apply pw_below_drewN | apply below_drew1) | exact HB.out)))); have n1_ := Aside0.mk (below_step (by repeat (first | (with_reducible first | exact HB.out | apply below_alloc | apply pw_below_drewN | apply below_drew1) | exact HB.out)) hb); clear HB; have HO122 := n0_; have HB := n1_; clear n0_ n1_; (try clear hb); (try clear hb2); (try clear hk); (try clear hi); (try clear ho0); obtain ⟨Ao25, co25, eo25⟩ := Kd.R_slice HO122.out; subst eo25) | ((with_reducible refine gate_callee (f := 21) rfl ?_); refine goesL_ (some 13) rfl rfl Tryz.func21 (by kernel_rfl) rfl #[.slice Ao25 t119.length co25] rfl (by (try simp only [List.map_toArray, List.map_cons, List.map_nil]); first | done | rfl | (simp only [List.length_drop, List.length_take]; rfl)) ?_; (with_reducible refine (xml_Print.calls k _ _ t119 t123 t124 _ ?side1 ?side2 ?side3 A2.out).mono ?_); (case side1 => repeat (first | exact (Kd.R_reads' HO122.out).2.2 | (with_reducible refine Kd.C_alloc ?_ _) | (with_reducible refine Kd.C_drewN ?_ _) | (with_reducible refine Kd.C_drew ?_))); (case side2 => exact (Kd.R_reads' HO122.out).2.1); (case side3 => exact LaidM.below HT.out (by repeat (first | (with_reducible first | exact HB.out | apply below_alloc | apply pw_below_drewN | apply below_drew1) | exact HB.out))); rintro e w26 ⟨rfl, hb⟩; refine ⟨_, rfl, ?_⟩; have n0_ := Aside0.mk (Kd.R_below (by (with_reducible repeat (first | apply Kd.R_alloc | apply Kd.R_drewN | apply Kd.R_drew)); exact HO122.out) hb); have n1_ := Aside0.mk (below_step (by repeat (first | (with_reducible first | exact HB.out | apply below_alloc | apply pw_below_drewN | apply below_drew1) | exact HB.out)) hb); clear HO122; clear HB; have HO122 := n0_; have HB := n1_; clear n0_ n1_; (try clear hb); (try clear hb2); (try clear hk); (try clear hi)) | ((with_reducible refine gate_callee (f := 25) rfl ?_); refine goesL_ (some 17) rfl rfl Tryz.func25 (by kernel_rfl) rfl #[.string (⟨#[60, 97, 62, 60, 47, 98, 62]⟩ : ByteArray)] rfl (by (try simp only [List.map_toArray, List.map_cons, List.map_nil]); first | done | rfl | (simp only [List.length_drop, List.length_take]; rfl)) ?_; (with_reducible refine (xml_Parse.calls (⟨#[60, 97, 62, 60, 47, 98, 62]⟩ : ByteArray) t125 t126 _ ?side1 A3.out).mono ?_); (case side1 => exact LaidM.below HT.out (by repeat (first | (with_reducible first | exact HB.out | apply below_alloc | apply pw_below_drewN | apply below_drew1) | exact HB.out))); rintro e w27 ⟨v127, rfl, ho0, hb⟩; refine ⟨_, rfl, ?_⟩; have n0_ := Aside0.mk (Kd.R_elder' (by (with_reducible repeat (first | apply Kd.R_alloc | apply Kd.R_drewN | apply Kd.R_drew)); exact HO122.out) (Kd.R_base ho0) hb); have n1_ := Aside0.mk (Kd.R_lower (Kd.R_new' ho0 (Kd.R_lt (by (with_reducible repeat (first | apply Kd.R_alloc | apply Kd.R_drewN | apply Kd.R_drew)); exact HO122.out))) (below_size (by repeat (first | (with_reducible first | exact HB.out | apply below_alloc | apply pw_below_drewN | apply below_drew1) | exact HB.out)))); have n2_ := Aside0.mk (below_step (by repeat (first | (with_reducible first | exact HB.out | apply below_alloc | apply pw_below_drewN | apply below_drew1) | exact HB.out)) hb); clear HO122; clear HB; have HO122 := n0_; have HO128 := n1_; have HB := n2_; clear n0_ n1_ n2_; (try clear hb); (try clear hb2); (try clear hk); (try clear hi); (try clear ho0)))
    go_ret
    exact ⟨by first | rfl | (simp [errW_none, errW_some] <;> rfl) | (simp [*, errW_none, errW_some] <;> rfl), by repeat (first | (with_reducible first | exact HB.out | apply below_alloc | apply pw_below_drewN | apply below_drew1) | exact HB.out)⟩

/-! ### calepinlaw07_valid: function 27 -/
def calepinlaw07_valid.f (a0 : ByteArray) : Option (Bool) := if 3 + a0.size ≤ 9223372036854775807 then (if ((⟨#[60, 97, 62]⟩ : ByteArray) ++ a0).size + 4 ≤ 9223372036854775807 then ((xml_Parse.f (((⟨#[60, 97, 62]⟩ : ByteArray) ++ a0) ++ (⟨#[60, 47, 97, 62]⟩ : ByteArray))).bind fun bt129 => (some (bt129.2 != 10))) else (none)) else (none)
set_option maxHeartbeats 8000000 in
set_option maxRecDepth 100000 in
theorem calepinlaw07_valid.calls (a0 : ByteArray) (r : Bool) (w : World) (hT : LaidM w) (h : calepinlaw07_valid.f a0 = some r) :
    Calls Tryz.prog 27 #[.string a0] w fun e w' => e = .returned (.bool r) ∧ Below w.heap.size w w' := by
  have HB := Aside0.mk (Below.refl w.heap.size w)
  have HT := Aside0.mk hT
  clear hT
  have H : (if 3 + a0.size ≤ 9223372036854775807 then (if ((⟨#[60, 97, 62]⟩ : ByteArray) ++ a0).size + 4 ≤ 9223372036854775807 then ((xml_Parse.f (((⟨#[60, 97, 62]⟩ : ByteArray) ++ a0) ++ (⟨#[60, 47, 97, 62]⟩ : ByteArray))).bind fun bt129 => (some (bt129.2 != 10))) else (none)) else (none)) = some r := h
  clear h
  by_cases c2 : 3 + a0.size ≤ 9223372036854775807
  · rw [if_pos c2] at H
    have c2b0 := eq_true c2
    have c2b1 : decide (3 + a0.size ≤ 9223372036854775807) = true := decide_eq_true c2
    try have c2b2 : (9223372036854775807 < 3 + a0.size) = False := eq_false (Nat.not_lt.2 c2)
    by_cases c3 : ((⟨#[60, 97, 62]⟩ : ByteArray) ++ a0).size + 4 ≤ 9223372036854775807
    · rw [if_pos c3] at H
      have c3e := c3
      (try simp only [ByteArray.size_append, gt_iff_lt, ge_iff_le, show (⟨#[60, 97, 62]⟩ : ByteArray).size = 3 from rfl] at c3e)
      (try simp only [Int.natCast_add, Int.cast_ofNat_Int] at c3e)
      (try (have c3e2 := decide_eq_true c3e))
      (try replace c3e := eq_true c3e)
      have c3b0 := eq_true c3
      have c3b1 : decide (((⟨#[60, 97, 62]⟩ : ByteArray) ++ a0).size + 4 ≤ 9223372036854775807) = true := decide_eq_true c3
      try have c3b2 : (9223372036854775807 < ((⟨#[60, 97, 62]⟩ : ByteArray) ++ a0).size + 4) = False := eq_false (Nat.not_lt.2 c3)
      have c3b8 : (9223372036854775807 < 3 + a0.size + 4) = False := by have h_ := c3; simp only [ByteArray.size_append] at h_; exact eq_false (Nat.not_lt.2 h_)
      replace H := Option.bind_eq_some_iff.mp H
      obtain ⟨⟨t129, t130⟩, A40, H⟩ := H
      replace H : (some (t130 != 10)) = some r := H
      have A4 := Aside0.mk A40
      clear A40
      obtain rfl := Option.some.inj H
      go_enter Tryz.func27, Tryz.ntmps27
      go_wp2_with (first | ((with_reducible refine gate_callee (f := 25) rfl ?_); refine goesL_ (some 9) rfl rfl Tryz.func25 (by kernel_rfl) rfl #[.string (((⟨#[60, 97, 62]⟩ : ByteArray) ++ a0) ++ (⟨#[60, 47, 97, 62]⟩ : ByteArray))] rfl (by (try simp only [List.map_toArray, List.map_cons, List.map_nil]); first | done | rfl | (simp only [List.length_drop, List.length_take]; rfl)) ?_; (with_reducible refine (xml_Parse.calls (((⟨#[60, 97, 62]⟩ : ByteArray) ++ a0) ++ (⟨#[60, 47, 97, 62]⟩ : ByteArray)) t129 t130 _ ?side1 A4.out).mono ?_); (case side1 => exact LaidM.below HT.out (by repeat (first | (with_reducible first | exact HB.out | apply below_alloc | apply pw_below_drewN | apply below_drew1) | exact HB.out))); rintro e w5 ⟨v131, rfl, ho0, hb⟩; refine ⟨_, rfl, ?_⟩; have n0_ := Aside0.mk (Kd.R_lower ho0 (below_size (by repeat (first | (with_reducible first | exact HB.out | apply below_alloc | apply pw_below_drewN | apply below_drew1) | exact HB.out)))); have n1_ := Aside0.mk (below_step (by repeat (first | (with_reducible first | exact HB.out | apply below_alloc | apply pw_below_drewN | apply below_drew1) | exact HB.out)) hb); clear HB; have HO132 := n0_; have HB := n1_; clear n0_ n1_; (try clear hb); (try clear hb2); (try clear hk); (try clear hi); (try clear ho0)))
      go_ret
      exact ⟨by first | rfl | (simp [errW_none, errW_some] <;> rfl) | (simp [*, errW_none, errW_some] <;> rfl), by repeat (first | (with_reducible first | exact HB.out | apply below_alloc | apply pw_below_drewN | apply below_drew1) | exact HB.out)⟩
    · rw [if_neg c3] at H
      have c3e := c3
      (try simp only [ByteArray.size_append, gt_iff_lt, ge_iff_le, show (⟨#[60, 97, 62]⟩ : ByteArray).size = 3 from rfl] at c3e)
      (try simp only [Int.natCast_add, Int.cast_ofNat_Int] at c3e)
      (try (have c3e2 := decide_eq_false c3e))
      (try replace c3e := eq_false c3e)
      exact absurd H (by simp)
  · rw [if_neg c2] at H
    exact absurd H (by simp)

/-! ### calepinref07_blank: function 62 -/
def calepinref07_blank.f (a0 : Int) : Option (Bool) := if a0 = 32 then (some true) else (if a0 = 9 then (some true) else (if a0 = 10 then (some true) else (some (a0 == 13))))
set_option maxHeartbeats 8000000 in
set_option maxRecDepth 100000 in
theorem calepinref07_blank.calls (a0 : Int) (r : Bool) (w : World) (h : calepinref07_blank.f a0 = some r) :
    Calls Tryz.prog 62 #[.int .u8 a0] w fun e w' => e = .returned (.bool r) ∧ Drawn0 w w' := by
  have H : (if a0 = 32 then (some true) else (if a0 = 9 then (some true) else (if a0 = 10 then (some true) else (some (a0 == 13))))) = some r := h
  clear h
  by_cases c2 : a0 = 32
  · rw [if_pos c2] at H
    have c2b0 : (a0 == 32) = true := beq_iff_eq.mpr c2
    have c2b1 : (a0 != 32) = false := bne_eq_false_iff_eq.mpr c2
    clear c2
    obtain rfl := Option.some.inj H
    go_enter Tryz.func62, Tryz.ntmps62
    go_wp2
    go_ret
    exact ⟨by first | rfl | (simp; done) | (simp [*]; done), by repeat (first | exact Drawn0.refl _ | apply Drawn0.step)⟩
  · rw [if_neg c2] at H
    have c2b0 : (a0 == 32) = false := beq_eq_false_iff_ne.mpr c2
    have c2b1 : (a0 != 32) = true := bne_iff_ne.mpr c2
    by_cases c3 : a0 = 9
    · rw [if_pos c3] at H
      have c3b0 : (a0 == 9) = true := beq_iff_eq.mpr c3
      have c3b1 : (a0 != 9) = false := bne_eq_false_iff_eq.mpr c3
      clear c3
      obtain rfl := Option.some.inj H
      go_enter Tryz.func62, Tryz.ntmps62
      go_wp2
      go_ret
      exact ⟨by first | rfl | (simp; done) | (simp [*]; done), by repeat (first | exact Drawn0.refl _ | apply Drawn0.step)⟩
    · rw [if_neg c3] at H
      have c3b0 : (a0 == 9) = false := beq_eq_false_iff_ne.mpr c3
      have c3b1 : (a0 != 9) = true := bne_iff_ne.mpr c3
      by_cases c4 : a0 = 10
      · rw [if_pos c4] at H
        have c4b0 : (a0 == 10) = true := beq_iff_eq.mpr c4
        have c4b1 : (a0 != 10) = false := bne_eq_false_iff_eq.mpr c4
        clear c4
        obtain rfl := Option.some.inj H
        go_enter Tryz.func62, Tryz.ntmps62
        go_wp2
        go_ret
        exact ⟨by first | rfl | (simp; done) | (simp [*]; done), by repeat (first | exact Drawn0.refl _ | apply Drawn0.step)⟩
      · rw [if_neg c4] at H
        have c4b0 : (a0 == 10) = false := beq_eq_false_iff_ne.mpr c4
        have c4b1 : (a0 != 10) = true := bne_iff_ne.mpr c4
        obtain rfl := Option.some.inj H
        go_enter Tryz.func62, Tryz.ntmps62
        go_wp2
        go_ret
        exact ⟨by first | rfl | (simp; done) | (simp [*]; done), by repeat (first | exact Drawn0.refl _ | apply Drawn0.step)⟩

/-! ### calepinref07_Blanks: function 28 -/
def calepinref07_Blanks.l0 : Nat → ByteArray → Int → Option (Bool)
  | 0, _, _ => none
  | k + 1, x0, x3 => if x3 < (x0.size : Int) then (if 0 ≤ x3 then ((calepinref07_blank.f (bt x0 x3)).bind fun t133 => (if t133 = true then (calepinref07_Blanks.l0 k x0 (wrap64 (x3 + 1))) else (some false))) else (none)) else (some true)
def calepinref07_Blanks.f (k : Nat) (a0 : ByteArray) : Option (Bool) := calepinref07_Blanks.l0 k a0 0
theorem calepinref07_Blanks.mono_l : ∀ k, (∀ y0 y1, LeO (calepinref07_Blanks.l0 k y0 y1) (calepinref07_Blanks.l0 (k + 1) y0 y1))
  | 0 => fun _ _ r h => by simp [calepinref07_Blanks.l0] at h
  | k + 1 => by
    have ih0 := calepinref07_Blanks.mono_l k
    · intro y0 y1
      unfold calepinref07_Blanks.l0
      repeat' first
      | (with_reducible exact ih0 _ _)
      | (with_reducible exact LeO.refl _)
      | (with_reducible exact LeO.none _)
      | (with_reducible refine LeO.ite ?_ ?_)
      | (with_reducible refine LeO.bind ?_ (fun _ => ?_))
      | exact ih0 _ _
      | exact LeO.none _
      | refine LeO.ite ?_ ?_
      | refine LeO.bind ?_ (fun _ => ?_)
theorem calepinref07_Blanks.mono : ∀ a0 k, LeO (calepinref07_Blanks.f k a0) (calepinref07_Blanks.f (k + 1) a0) := by
  intro a0 k
  have ih0 := calepinref07_Blanks.mono_l k
  unfold calepinref07_Blanks.f
  repeat' first
      | (with_reducible exact ih0 _ _)
      | (with_reducible exact LeO.refl _)
      | (with_reducible exact LeO.none _)
      | (with_reducible refine LeO.ite ?_ ?_)
      | (with_reducible refine LeO.bind ?_ (fun _ => ?_))
      | exact ih0 _ _
      | exact LeO.none _
      | refine LeO.ite ?_ ?_
      | refine LeO.bind ?_ (fun _ => ?_)
set_option maxHeartbeats 8000000 in
set_option maxRecDepth 100000 in
theorem calepinref07_Blanks.calls (k : Nat) (a0 : ByteArray) (r : Bool) (w : World) (h : calepinref07_Blanks.f k a0 = some r) :
    Calls Tryz.prog 28 #[.string a0] w fun e w' => e = .returned (.bool r) ∧ Drawn0 w w' := by
  have H : (calepinref07_Blanks.l0 k a0 0) = some r := h
  clear h
  have H' := Aside0.mk H
  clear H
  go_enter Tryz.func28, Tryz.ntmps28
  go_wp2
  go_loopg [3] k (fun kq v3 w' => ∃ (x3_1 : Int), v3 = .int .i64 x3_1 ∧ Aside0 (calepinref07_Blanks.l0 kq a0 x3_1 = some r) ∧ Aside0 (kq ≤ k) ∧ Drawn0 w w')
  case atStart => exact ⟨(0), (by first | rfl | (simp; done) | (simp [*]; done)), H', ⟨Nat.le_refl _⟩, by repeat (first | exact Drawn0.refl _ | apply Drawn0.step)⟩
  case round =>
    clear H'
    obtain ⟨x3_1, rfl, HA, HK1, ⟨m1, rfl⟩⟩ := hrel
    cases gk with
    | zero => exact absurd HA.out (by simp [calepinref07_Blanks.l0])
    | succ k1 =>
      have H := HA.out
      clear HA
      simp only [calepinref07_Blanks.l0] at H
      by_cases c2 : x3_1 < (a0.size : Int)
      · rw [if_pos c2] at H
        have c2b0 : decide (x3_1 < (a0.size : Int)) = true := decide_eq_true c2
        clear c2
        by_cases c3 : 0 ≤ x3_1
        · rw [if_pos c3] at H
          have c3b0 : decide (0 ≤ x3_1) = true := decide_eq_true c3
          clear c3
          replace H := Option.bind_eq_some_iff.mp H
          obtain ⟨t133, A50, H⟩ := H
          replace H : (if t133 = true then (calepinref07_Blanks.l0 k1 a0 (wrap64 (x3_1 + 1))) else (some false)) = some r := H
          have A5 := Aside0.mk A50
          clear A50
          by_cases c6 : t133 = true
          · subst c6
            have H1 : (calepinref07_Blanks.l0 k1 a0 (wrap64 (x3_1 + 1))) = some r := by rw [if_pos rfl] at H; exact H
            clear H
            have H := H1
            clear H1
            have H' := Aside0.mk H
            clear H
            have p4 : 0 ≤ (x3_1 : Int) := of_decide_eq_true (by first | (with_reducible assumption) | assumption)
            have q4 : x3_1 < (a0.size : Int) := of_decide_eq_true (by first | (with_reducible assumption) | assumption)
            have hx4 := bt_at a0 x3_1
            replace p4 := eq_true p4
            replace q4 := eq_true q4
            go_wp2_with (first | ((with_reducible refine gate_callee (f := 62) rfl ?_); refine goesL_ (some 13) rfl rfl Tryz.func62 (by kernel_rfl) rfl #[.int .u8 (bt a0 x3_1)] rfl (by (try simp only [List.map_toArray, List.map_cons, List.map_nil]); first | done | rfl | (simp only [List.length_drop, List.length_take]; rfl)) ?_; (with_reducible refine (calepinref07_blank.calls (bt a0 x3_1) true _ A5.out).mono ?_); rintro e w' ⟨rfl, ⟨nd, rfl⟩⟩; refine ⟨_, rfl, ?_⟩))
            go_roundg k1
            case measure => have := HK1.out; omega
            case rel => exact ⟨(wrap64 (x3_1 + 1)), (by first | rfl | (simp; done) | (simp [*]; done)), H', ⟨by have := HK1.out; omega⟩, by repeat (first | exact Drawn0.refl _ | apply Drawn0.step)⟩
          · replace c6 := Bool.eq_false_iff.mpr c6
            subst c6
            have H1 : (some false) = some r := by rw [if_neg (show ¬ (false = true) by decide)] at H; exact H
            clear H
            have H := H1
            clear H1
            obtain rfl := Option.some.inj H
            have p4 : 0 ≤ (x3_1 : Int) := of_decide_eq_true (by first | (with_reducible assumption) | assumption)
            have q4 : x3_1 < (a0.size : Int) := of_decide_eq_true (by first | (with_reducible assumption) | assumption)
            have hx4 := bt_at a0 x3_1
            replace p4 := eq_true p4
            replace q4 := eq_true q4
            go_wp2_with (first | ((with_reducible refine gate_callee (f := 62) rfl ?_); refine goesL_ (some 13) rfl rfl Tryz.func62 (by kernel_rfl) rfl #[.int .u8 (bt a0 x3_1)] rfl (by (try simp only [List.map_toArray, List.map_cons, List.map_nil]); first | done | rfl | (simp only [List.length_drop, List.length_take]; rfl)) ?_; (with_reducible refine (calepinref07_blank.calls (bt a0 x3_1) false _ A5.out).mono ?_); rintro e w' ⟨rfl, ⟨nd, rfl⟩⟩; refine ⟨_, rfl, ?_⟩))
            go_ret
            exact ⟨by first | rfl | (simp; done) | (simp [*]; done), by repeat (first | exact Drawn0.refl _ | apply Drawn0.step)⟩
        · rw [if_neg c3] at H
          exact absurd H (by simp)
      · rw [if_neg c2] at H
        have c2b0 : decide (x3_1 < (a0.size : Int)) = false := decide_eq_false c2
        clear c2
        obtain rfl := Option.some.inj H
        go_wp2
        go_ret
        exact ⟨by first | rfl | (simp; done) | (simp [*]; done), by repeat (first | exact Drawn0.refl _ | apply Drawn0.step)⟩

/-! ### calepinlaw07_digits: function 29 -/
def calepinlaw07_digits.l0 : Nat → Int → Int → ByteArray → Option (ByteArray)
  | 0, _, _, _ => none
  | k + 1, x0, x1, x5 => if x1 = 0 then (none) else (if 0 ≤ (Int.tmod x0 x1) then (if (Int.tmod x0 x1) ≤ (IntKind.u64.wrap ((Int.tmod x0 x1) + 1)) then (if (IntKind.u64.wrap ((Int.tmod x0 x1) + 1)) ≤ 16 then (if ((⟨#[48, 49, 50, 51, 52, 53, 54, 55, 56, 57, 97, 98, 99, 100, 101, 102]⟩ : ByteArray).extract ((Int.tmod x0 x1) : Int).toNat ((IntKind.u64.wrap ((Int.tmod x0 x1) + 1)) : Int).toNat).size + x5.size ≤ 9223372036854775807 then (if (IntKind.u64.wrap (Int.tdiv x0 x1)) = 0 then (some (((⟨#[48, 49, 50, 51, 52, 53, 54, 55, 56, 57, 97, 98, 99, 100, 101, 102]⟩ : ByteArray).extract ((Int.tmod x0 x1) : Int).toNat ((IntKind.u64.wrap ((Int.tmod x0 x1) + 1)) : Int).toNat) ++ x5)) else (calepinlaw07_digits.l0 k (IntKind.u64.wrap (Int.tdiv x0 x1)) x1 (((⟨#[48, 49, 50, 51, 52, 53, 54, 55, 56, 57, 97, 98, 99, 100, 101, 102]⟩ : ByteArray).extract ((Int.tmod x0 x1) : Int).toNat ((IntKind.u64.wrap ((Int.tmod x0 x1) + 1)) : Int).toNat) ++ x5))) else (none)) else (none)) else (none)) else (none))
def calepinlaw07_digits.f (k : Nat) (a0 : Int) (a1 : Int) : Option (ByteArray) := calepinlaw07_digits.l0 k a0 a1 (⟨#[]⟩ : ByteArray)
theorem calepinlaw07_digits.mono_l : ∀ k, (∀ y0 y1 y2, LeO (calepinlaw07_digits.l0 k y0 y1 y2) (calepinlaw07_digits.l0 (k + 1) y0 y1 y2))
  | 0 => fun _ _ _ r h => by simp [calepinlaw07_digits.l0] at h
  | k + 1 => by
    have ih0 := calepinlaw07_digits.mono_l k
    · intro y0 y1 y2
      unfold calepinlaw07_digits.l0
      repeat' first
      | (with_reducible exact ih0 _ _ _)
      | (with_reducible exact LeO.refl _)
      | (with_reducible exact LeO.none _)
      | (with_reducible refine LeO.ite ?_ ?_)
      | (with_reducible refine LeO.bind ?_ (fun _ => ?_))
      | exact ih0 _ _ _
      | exact LeO.none _
      | refine LeO.ite ?_ ?_
      | refine LeO.bind ?_ (fun _ => ?_)
theorem calepinlaw07_digits.mono : ∀ a0 a1 k, LeO (calepinlaw07_digits.f k a0 a1) (calepinlaw07_digits.f (k + 1) a0 a1) := by
  intro a0 a1 k
  have ih0 := calepinlaw07_digits.mono_l k
  unfold calepinlaw07_digits.f
  repeat' first
      | (with_reducible exact ih0 _ _ _)
      | (with_reducible exact LeO.refl _)
      | (with_reducible exact LeO.none _)
      | (with_reducible refine LeO.ite ?_ ?_)
      | (with_reducible refine LeO.bind ?_ (fun _ => ?_))
      | exact ih0 _ _ _
      | exact LeO.none _
      | refine LeO.ite ?_ ?_
      | refine LeO.bind ?_ (fun _ => ?_)
set_option maxHeartbeats 8000000 in
set_option maxRecDepth 100000 in
theorem calepinlaw07_digits.calls (k : Nat) (a0 : Int) (a1 : Int) (r : ByteArray) (w : World) (h : calepinlaw07_digits.f k a0 a1 = some r) :
    Calls Tryz.prog 29 #[.int .u64 a0, .int .u64 a1] w fun e w' => e = .returned (.string r) ∧ Drawn0 w w' := by
  have H : (calepinlaw07_digits.l0 k a0 a1 (⟨#[]⟩ : ByteArray)) = some r := h
  clear h
  have H' := Aside0.mk H
  clear H
  go_enter Tryz.func29, Tryz.ntmps29
  go_wp2
  repeat (go_quiet (fail); try go_wp2)
  go_loopg [0, 5] k (fun kq v0 v5 w' => ∃ (x0_1 : Int) (x5_1 : ByteArray), v0 = .int .u64 x0_1 ∧ v5 = .string x5_1 ∧ Aside0 (calepinlaw07_digits.l0 kq x0_1 a1 x5_1 = some r) ∧ Aside0 (kq ≤ k) ∧ Drawn0 w w')
  case atStart => exact ⟨(a0), ((⟨#[]⟩ : ByteArray)), (by first | rfl | (simp; done) | (simp [*]; done)), (by first | rfl | (simp; done) | (simp [*]; done)), H', ⟨Nat.le_refl _⟩, by repeat (first | exact Drawn0.refl _ | apply Drawn0.step)⟩
  case round =>
    clear H'
    try clear c2
    try clear p2
    obtain ⟨x0_1, x5_1, rfl, rfl, HA, HK1, ⟨m1, rfl⟩⟩ := hrel
    cases gk with
    | zero => exact absurd HA.out (by simp [calepinlaw07_digits.l0])
    | succ k1 =>
      have H := HA.out
      clear HA
      simp only [calepinlaw07_digits.l0] at H
      by_cases c3 : a1 = 0
      · rw [if_pos c3] at H
        exact absurd H (by simp)
      · rw [if_neg c3] at H
        have c3b0 : (a1 == 0) = false := beq_eq_false_iff_ne.mpr c3
        have c3b1 : (a1 != 0) = true := bne_iff_ne.mpr c3
        obtain ⟨ji4, hji4⟩ : ∃ j_ : Int, (Int.tmod x0_1 a1) = j_ := ⟨_, rfl⟩
        replace H : (if 0 ≤ (ji4) then (if (ji4) ≤ (IntKind.u64.wrap ((ji4) + 1)) then (if (IntKind.u64.wrap ((ji4) + 1)) ≤ 16 then (if ((⟨#[48, 49, 50, 51, 52, 53, 54, 55, 56, 57, 97, 98, 99, 100, 101, 102]⟩ : ByteArray).extract ((ji4) : Int).toNat ((IntKind.u64.wrap ((ji4) + 1)) : Int).toNat).size + x5_1.size ≤ 9223372036854775807 then (if (IntKind.u64.wrap (Int.tdiv x0_1 a1)) = 0 then (some (((⟨#[48, 49, 50, 51, 52, 53, 54, 55, 56, 57, 97, 98, 99, 100, 101, 102]⟩ : ByteArray).extract ((ji4) : Int).toNat ((IntKind.u64.wrap ((ji4) + 1)) : Int).toNat) ++ x5_1)) else (calepinlaw07_digits.l0 k1 (IntKind.u64.wrap (Int.tdiv x0_1 a1)) a1 (((⟨#[48, 49, 50, 51, 52, 53, 54, 55, 56, 57, 97, 98, 99, 100, 101, 102]⟩ : ByteArray).extract ((ji4) : Int).toNat ((IntKind.u64.wrap ((ji4) + 1)) : Int).toNat) ++ x5_1))) else (none)) else (none)) else (none)) else (none)) = some r := by first | (rw [hji4] at H; exact H) | (simp only [hji4] at H ⊢; exact H)
        by_cases c5 : 0 ≤ (ji4)
        · rw [if_pos c5] at H
          have c5b0 := eq_true c5
          have c5b1 : decide (0 ≤ (ji4)) = true := decide_eq_true c5
          clear c5
          by_cases c6 : (ji4) ≤ (IntKind.u64.wrap ((ji4) + 1))
          · rw [if_pos c6] at H
            have c6b0 := eq_true c6
            have c6b1 : decide ((ji4) ≤ (IntKind.u64.wrap ((ji4) + 1))) = true := decide_eq_true c6
            by_cases c7 : (IntKind.u64.wrap ((ji4) + 1)) ≤ 16
            · rw [if_pos c7] at H
              have c7b0 := eq_true c7
              have c7b1 : decide ((IntKind.u64.wrap ((ji4) + 1)) ≤ 16) = true := decide_eq_true c7
              by_cases c8 : ((⟨#[48, 49, 50, 51, 52, 53, 54, 55, 56, 57, 97, 98, 99, 100, 101, 102]⟩ : ByteArray).extract ((ji4) : Int).toNat ((IntKind.u64.wrap ((ji4) + 1)) : Int).toNat).size + x5_1.size ≤ 9223372036854775807
              · rw [if_pos c8] at H
                have c8b0 := eq_true c8
                have c8b1 : decide (((⟨#[48, 49, 50, 51, 52, 53, 54, 55, 56, 57, 97, 98, 99, 100, 101, 102]⟩ : ByteArray).extract ((ji4) : Int).toNat ((IntKind.u64.wrap ((ji4) + 1)) : Int).toNat).size + x5_1.size ≤ 9223372036854775807) = true := decide_eq_true c8
                try have c8b2 : (9223372036854775807 < ((⟨#[48, 49, 50, 51, 52, 53, 54, 55, 56, 57, 97, 98, 99, 100, 101, 102]⟩ : ByteArray).extract ((ji4) : Int).toNat ((IntKind.u64.wrap ((ji4) + 1)) : Int).toNat).size + x5_1.size) = False := eq_false (Nat.not_lt.2 c8)
                by_cases c9 : (IntKind.u64.wrap (Int.tdiv x0_1 a1)) = 0
                · rw [if_pos c9] at H
                  have c9b0 : ((IntKind.u64.wrap (Int.tdiv x0_1 a1)) == 0) = true := beq_iff_eq.mpr c9
                  have c9b1 : ((IntKind.u64.wrap (Int.tdiv x0_1 a1)) != 0) = false := bne_eq_false_iff_eq.mpr c9
                  clear c9
                  obtain rfl := Option.some.inj H
                  go_wp2
                  repeat (go_quiet (fail); try go_wp2)
                  go_ret
                  exact ⟨by first | rfl | (simp; done) | (simp only [← hji4] <;> (first | rfl | simp)) | (simp [*]; done), by repeat (first | exact Drawn0.refl _ | apply Drawn0.step)⟩
                · rw [if_neg c9] at H
                  have c9b0 : ((IntKind.u64.wrap (Int.tdiv x0_1 a1)) == 0) = false := beq_eq_false_iff_ne.mpr c9
                  have c9b1 : ((IntKind.u64.wrap (Int.tdiv x0_1 a1)) != 0) = true := bne_iff_ne.mpr c9
                  have H' := Aside0.mk H
                  clear H
                  go_wp2
                  repeat (go_quiet (fail); try go_wp2)
                  go_roundg k1
                  case measure => have := HK1.out; omega
                  case rel => exact ⟨(IntKind.u64.wrap (Int.tdiv x0_1 a1)), (((⟨#[48, 49, 50, 51, 52, 53, 54, 55, 56, 57, 97, 98, 99, 100, 101, 102]⟩ : ByteArray).extract ((ji4) : Int).toNat ((IntKind.u64.wrap ((ji4) + 1)) : Int).toNat) ++ x5_1), (by first | rfl | (simp; done) | (simp [*]; done)), (by first | rfl | (simp; done) | (simp only [← hji4] <;> (first | rfl | simp)) | (simp [*]; done)), H', ⟨by have := HK1.out; omega⟩, by repeat (first | exact Drawn0.refl _ | apply Drawn0.step)⟩
              · rw [if_neg c8] at H
                exact absurd H (by simp)
            · rw [if_neg c7] at H
              exact absurd H (by simp)
          · rw [if_neg c6] at H
            exact absurd H (by simp)
        · rw [if_neg c5] at H
          exact absurd H (by simp)

/-! ### calepinlaw07_XmlChars: function 9 -/
def calepinlaw07_XmlChars.f (k : Nat) (a0 : ByteArray) (a1 : Bool) : Option Bool := none

end Go.Proofs.YtpaopeiegaijiaaGreatDoor.XXmlChars
