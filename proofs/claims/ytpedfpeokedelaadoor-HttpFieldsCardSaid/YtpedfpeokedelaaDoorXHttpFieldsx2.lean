-- written by wip/xprint.py: the kit's print with functions walked by hand
import Derived.Test.YtpedfpeokedelaaDoorXHttpFieldsx0
namespace Go.Proofs.YtpedfpeokedelaaDoor.XHttpFields
open Go.RowKit Go.Proofs.YtpedfpeokedelaaDoorW.PrintWords Go.Proofs.YtpedfpeokedelaaDoorW.PrintLast Go.Proofs.YtpedfpeokedelaaDoorW.PrintMore
attribute [local go_sem] max2_int min2_int max_two min_two max_three min_three max_four min_four   -- for this text's walks alone
set_option linter.unusedVariables false
set_option linter.unusedSimpArgs false

/-! ### calepinref01_Decimal: function 31 -/
def calepinref01_Decimal.l0 : Nat → Int → ByteArray → Option (ByteArray)
  | 0, _, _ => none
  | k + 1, x0, x3 => (some (([(IntKind.u64.wrap (48 + (Int.tmod x0 10))) % 256] : List Int) : List Int)).bind fun y101 => (if (strOfNums y101).size + x3.size ≤ 9223372036854775807 then (if (IntKind.u64.wrap (Int.tdiv x0 10)) = 0 then (some ((strOfNums y101) ++ x3)) else (calepinref01_Decimal.l0 k (IntKind.u64.wrap (Int.tdiv x0 10)) ((strOfNums y101) ++ x3))) else (none))
def calepinref01_Decimal.f (k : Nat) (a0 : Int) : Option (ByteArray) := calepinref01_Decimal.l0 k a0 (⟨#[]⟩ : ByteArray)
theorem calepinref01_Decimal.mono_l : ∀ k, (∀ y0 y1, LeO (calepinref01_Decimal.l0 k y0 y1) (calepinref01_Decimal.l0 (k + 1) y0 y1))
  | 0 => fun _ _ r h => by simp [calepinref01_Decimal.l0] at h
  | k + 1 => by
    have ih0 := calepinref01_Decimal.mono_l k
    · intro y0 y1
      unfold calepinref01_Decimal.l0
      repeat' first
      | (with_reducible exact ih0 _ _)
      | (with_reducible exact LeO.refl _)
      | (with_reducible exact LeO.none _)
      | (with_reducible refine LeO.ite ?_ ?_)
      | (with_reducible refine LeO.bind ?_ (fun _ => ?_))
      | exact ih0 _ _
      | exact LeO.none _
      | refine LeO.ite ?_ ?_
      | refine LeO.bind ?_ (fun _ => ?_)
theorem calepinref01_Decimal.mono : ∀ a0 k, LeO (calepinref01_Decimal.f k a0) (calepinref01_Decimal.f (k + 1) a0) := by
  intro a0 k
  have ih0 := calepinref01_Decimal.mono_l k
  unfold calepinref01_Decimal.f
  repeat' first
      | (with_reducible exact ih0 _ _)
      | (with_reducible exact LeO.refl _)
      | (with_reducible exact LeO.none _)
      | (with_reducible refine LeO.ite ?_ ?_)
      | (with_reducible refine LeO.bind ?_ (fun _ => ?_))
      | exact ih0 _ _
      | exact LeO.none _
      | refine LeO.ite ?_ ?_
      | refine LeO.bind ?_ (fun _ => ?_)
set_option maxHeartbeats 8000000 in
set_option maxRecDepth 100000 in
theorem calepinref01_Decimal.calls (k : Nat) (a0 : Int) (r : ByteArray) (w : World) (hT : LaidM w) (h : calepinref01_Decimal.f k a0 = some r) :
    Calls Tryd.prog 31 #[.int .u64 a0] w fun e w' => e = .returned (.string r) ∧ Below w.heap.size w w' := by
  have HB := Aside0.mk (Below.refl w.heap.size w)
  have HT := Aside0.mk hT
  clear hT
  have H : (calepinref01_Decimal.l0 k a0 (⟨#[]⟩ : ByteArray)) = some r := h
  clear h
  have H' := Aside0.mk H
  clear H
  go_enter Tryd.func31, Tryd.ntmps31
  go_wp2
  go_loopg [0, 3] k (fun kq v0 v3 w' => ∃ (x0_1 : Int) (x3_1 : ByteArray), v0 = .int .u64 x0_1 ∧ v3 = .string x3_1 ∧ Aside0 (calepinref01_Decimal.l0 kq x0_1 x3_1 = some r) ∧ Aside0 (kq ≤ k) ∧ Aside0 (Below w.heap.size w w'))
  case atStart => exact ⟨(a0), ((⟨#[]⟩ : ByteArray)), (by first | rfl | (simp; done) | (simp [*]; done)), (by first | rfl | (simp; done) | (simp [*]; done)), H', ⟨Nat.le_refl _⟩, ⟨by repeat (first | (with_reducible first | exact HB.out | apply below_alloc | apply pw_below_drewN | apply below_drew1) | exact HB.out)⟩⟩
  case round =>
    clear H'
    obtain ⟨x0_1, x3_1, rfl, rfl, HA, HK1, HB⟩ := hrel
    cases gk with
    | zero => exact absurd HA.out (by simp [calepinref01_Decimal.l0])
    | succ k1 =>
      have H := HA.out
      clear HA
      simp only [calepinref01_Decimal.l0] at H
      obtain ⟨y101, hy101⟩ : ∃ y_ : List Int, y_ = (([(IntKind.u64.wrap (48 + (Int.tmod x0_1 10))) % 256] : List Int)) := ⟨_, rfl⟩
      replace H : (if (strOfNums y101).size + x3_1.size ≤ 9223372036854775807 then (if (IntKind.u64.wrap (Int.tdiv x0_1 10)) = 0 then (some ((strOfNums y101) ++ x3_1)) else (calepinref01_Decimal.l0 k1 (IntKind.u64.wrap (Int.tdiv x0_1 10)) ((strOfNums y101) ++ x3_1))) else (none)) = some r := by first | (rw [hy101]; with_reducible exact H) | (have H2_ := (Option.bind_some _ _).symm.trans H; rw [hy101]; with_reducible exact H2_) | (have H2_ := (Option.bind_some _ _).symm.trans H; with_reducible exact H2_) | with_reducible exact H | (rw [hy101]; exact H) | exact H
      have Ny101 := Aside0.mk hy101
      clear hy101
      by_cases c2 : (strOfNums y101).size + x3_1.size ≤ 9223372036854775807
      · rw [if_pos c2] at H
        have c2b0 := eq_true c2
        have c2b1 : decide ((strOfNums y101).size + x3_1.size ≤ 9223372036854775807) = true := decide_eq_true c2
        try have c2b2 : (9223372036854775807 < (strOfNums y101).size + x3_1.size) = False := eq_false (Nat.not_lt.2 c2)
        by_cases c3 : (IntKind.u64.wrap (Int.tdiv x0_1 10)) = 0
        · rw [if_pos c3] at H
          have c3b0 : ((IntKind.u64.wrap (Int.tdiv x0_1 10)) == 0) = true := beq_iff_eq.mpr c3
          have c3b1 : ((IntKind.u64.wrap (Int.tdiv x0_1 10)) != 0) = false := bne_eq_false_iff_eq.mpr c3
          clear c3
          obtain rfl := Option.some.inj H
          go_wp2_with (first | ((with_reducible refine gate_dst (N := 8) rfl ?_); refine Kd.R_lit (Kd.int .u8) _ 5 ?hg (N := 8) ?hd (xs := ([(IntKind.u64.wrap (48 + (Int.tmod x0_1 10))) % 256] : List Int)) (inner := [.int .u8 ((IntKind.u64.wrap (48 + (Int.tmod x0_1 10))) % 256)]) (ok := fun _ => True) (okp := fun _ => True) ?hr ?hp (fun _ hk => hk) trivial (Below.refl _ _) (Nat.le_refl _) (by simp) ?_; (case hd => rfl); (case hg => rfl); (case hr => first | (go_simp; done) | (go_simp; rfl)); (case hp => exact (Reps.one (show Kd.M (Kd.int .u8) _ _ _ ((IntKind.u64.wrap (48 + (Int.tmod x0_1 10))) % 256) [.int .u8 ((IntKind.u64.wrap (48 + (Int.tmod x0_1 10))) % 256)] from rfl) (Reps.none _ _))); intro v102 w4 ho5 hb hg_ hnew_; clear hg_ hnew_; (first | rw [← Ny101.out] at ho5 | (simp only [Int.reduceToNat] at ho5; rw [← Ny101.out] at ho5)); have n0_ := Aside0.mk (Kd.R_lower ho5 (below_size (by repeat (first | (with_reducible first | exact HB.out | apply below_alloc | apply pw_below_drewN | apply below_drew1) | exact HB.out)))); have n1_ := Aside0.mk (below_step (by repeat (first | (with_reducible first | exact HB.out | apply below_alloc | apply pw_below_drewN | apply below_drew1) | exact HB.out)) hb); clear HB; have HO103 := n0_; have HB := n1_; clear n0_ n1_; clear hb ho5; have hcv6 := own_string (P := Tryd.prog) Tryd.underlying68 Tryd.underlying5 Tryd.underlying9 (Kd.own_of_R HO103.out)))
          go_ret
          exact ⟨by first | rfl | (simp [errW_none, errW_some] <;> rfl) | (simp [*, errW_none, errW_some] <;> rfl), by repeat (first | (with_reducible first | exact HB.out | apply below_alloc | apply pw_below_drewN | apply below_drew1) | exact HB.out)⟩
        · rw [if_neg c3] at H
          have c3b0 : ((IntKind.u64.wrap (Int.tdiv x0_1 10)) == 0) = false := beq_eq_false_iff_ne.mpr c3
          have c3b1 : ((IntKind.u64.wrap (Int.tdiv x0_1 10)) != 0) = true := bne_iff_ne.mpr c3
          have H' := Aside0.mk H
          clear H
          go_wp2_with (first | ((with_reducible refine gate_dst (N := 8) rfl ?_); refine Kd.R_lit (Kd.int .u8) _ 5 ?hg (N := 8) ?hd (xs := ([(IntKind.u64.wrap (48 + (Int.tmod x0_1 10))) % 256] : List Int)) (inner := [.int .u8 ((IntKind.u64.wrap (48 + (Int.tmod x0_1 10))) % 256)]) (ok := fun _ => True) (okp := fun _ => True) ?hr ?hp (fun _ hk => hk) trivial (Below.refl _ _) (Nat.le_refl _) (by simp) ?_; (case hd => rfl); (case hg => rfl); (case hr => first | (go_simp; done) | (go_simp; rfl)); (case hp => exact (Reps.one (show Kd.M (Kd.int .u8) _ _ _ ((IntKind.u64.wrap (48 + (Int.tmod x0_1 10))) % 256) [.int .u8 ((IntKind.u64.wrap (48 + (Int.tmod x0_1 10))) % 256)] from rfl) (Reps.none _ _))); intro v102 w7 ho8 hb hg_ hnew_; clear hg_ hnew_; (first | rw [← Ny101.out] at ho8 | (simp only [Int.reduceToNat] at ho8; rw [← Ny101.out] at ho8)); have n0_ := Aside0.mk (Kd.R_lower ho8 (below_size (by repeat (first | (with_reducible first | exact HB.out | apply below_alloc | apply pw_below_drewN | apply below_drew1) | exact HB.out)))); have n1_ := Aside0.mk (below_step (by repeat (first | (with_reducible first | exact HB.out | apply below_alloc | apply pw_below_drewN | apply below_drew1) | exact HB.out)) hb); clear HB; have HO103 := n0_; have HB := n1_; clear n0_ n1_; clear hb ho8; have hcv9 := own_string (P := Tryd.prog) Tryd.underlying68 Tryd.underlying5 Tryd.underlying9 (Kd.own_of_R HO103.out)))
          go_roundg k1
          case measure => have := HK1.out; omega
          case rel => exact ⟨(IntKind.u64.wrap (Int.tdiv x0_1 10)), ((strOfNums y101) ++ x3_1), (by first | rfl | (simp; done) | (simp [*]; done)), (by first | rfl | (simp; done) | (simp [*]; done)), H', ⟨by have := HK1.out; omega⟩, ⟨by repeat (first | (with_reducible first | exact HB.out | apply below_alloc | apply pw_below_drewN | apply below_drew1) | exact HB.out)⟩⟩
      · rw [if_neg c2] at H
        exact absurd H (by simp)

/-! ### strings_Split: function 64 -/
def strings_Split.f (s sep : ByteArray) : Option (List ByteArray) := if s.size < 4294967281 ∧ 1 ≤ sep.size then some (Lib.splitB sep 0 (Lib.countB s sep) s) else none
theorem strings_Split.calls (s sep : ByteArray) (r : List ByteArray) (w : World) (hT : LaidM w) (h : strings_Split.f s sep = some r) :
    Calls Tryd.prog 64 #[.string s, .string sep] w fun e w' => ∃ v0_ : Value, e = .returned (v0_) ∧ Kd.R Kd.string 9 w' w.heap.size (fun _ => True) v0_ r ∧ Below w.heap.size w w' := by
  unfold strings_Split.f at h
  split at h
  · rename_i hc
    injection h with h
    subst h
    exact split_any s sep w hT hc.1 hc.2
  · cases h

/-! ### http_only: function 91 -/
def http_only.l0 : Nat → ByteArray → Int → Int → Int → Int → Option (Bool)
  | 0, _, _, _, _, _ => none
  | k + 1, x0, x1, x2, x9, x10 => if x10 < x9 then (if 0 ≤ x10 then (if x10 < (x0.size : Int) then (if (bt x0 x10) < x1 then (some false) else (if (bt x0 x10) > x2 then (some false) else (http_only.l0 k x0 x1 x2 x9 (wrap64 (x10 + 1))))) else (none)) else (none)) else (some true)
def http_only.f (k : Nat) (a0 : ByteArray) (a1 : Int) (a2 : Int) : Option (Bool) := http_only.l0 k a0 a1 a2 (a0.size : Int) 0
theorem http_only.mono_l : ∀ k, (∀ y0 y1 y2 y3 y4, LeO (http_only.l0 k y0 y1 y2 y3 y4) (http_only.l0 (k + 1) y0 y1 y2 y3 y4))
  | 0 => fun _ _ _ _ _ r h => by simp [http_only.l0] at h
  | k + 1 => by
    have ih0 := http_only.mono_l k
    · intro y0 y1 y2 y3 y4
      unfold http_only.l0
      repeat' first
      | (with_reducible exact ih0 _ _ _ _ _)
      | (with_reducible exact LeO.refl _)
      | (with_reducible exact LeO.none _)
      | (with_reducible refine LeO.ite ?_ ?_)
      | (with_reducible refine LeO.bind ?_ (fun _ => ?_))
      | exact ih0 _ _ _ _ _
      | exact LeO.none _
      | refine LeO.ite ?_ ?_
      | refine LeO.bind ?_ (fun _ => ?_)
theorem http_only.mono : ∀ a0 a1 a2 k, LeO (http_only.f k a0 a1 a2) (http_only.f (k + 1) a0 a1 a2) := by
  intro a0 a1 a2 k
  have ih0 := http_only.mono_l k
  unfold http_only.f
  repeat' first
      | (with_reducible exact ih0 _ _ _ _ _)
      | (with_reducible exact LeO.refl _)
      | (with_reducible exact LeO.none _)
      | (with_reducible refine LeO.ite ?_ ?_)
      | (with_reducible refine LeO.bind ?_ (fun _ => ?_))
      | exact ih0 _ _ _ _ _
      | exact LeO.none _
      | refine LeO.ite ?_ ?_
      | refine LeO.bind ?_ (fun _ => ?_)
set_option maxHeartbeats 8000000 in
set_option maxRecDepth 100000 in
theorem http_only.calls (k : Nat) (a0 : ByteArray) (a1 : Int) (a2 : Int) (r : Bool) (w : World) (h : http_only.f k a0 a1 a2 = some r) :
    Calls Tryd.prog 91 #[.string a0, .int .u8 a1, .int .u8 a2] w fun e w' => e = .returned (.bool r) ∧ Drawn0 w w' := by
  have H : (http_only.l0 k a0 a1 a2 (a0.size : Int) 0) = some r := h
  clear h
  have H' := Aside0.mk H
  clear H
  go_enter Tryd.func91, Tryd.ntmps91
  go_wp2
  go_loopg [10] k (fun kq v10 w' => ∃ (x10_1 : Int), v10 = .int .i64 x10_1 ∧ Aside0 (http_only.l0 kq a0 a1 a2 (a0.size : Int) x10_1 = some r) ∧ Aside0 (kq ≤ k) ∧ Drawn0 w w')
  case atStart => exact ⟨(0), (by first | rfl | (simp; done) | (simp [*]; done)), H', ⟨Nat.le_refl _⟩, by repeat (first | exact Drawn0.refl _ | apply Drawn0.step)⟩
  case round =>
    clear H'
    try clear p2
    obtain ⟨x10_1, rfl, HA, HK1, ⟨m1, rfl⟩⟩ := hrel
    cases gk with
    | zero => exact absurd HA.out (by simp [http_only.l0])
    | succ k1 =>
      have H := HA.out
      clear HA
      simp only [http_only.l0] at H
      by_cases c4 : x10_1 < (a0.size : Int)
      · rw [if_pos c4] at H
        have c4b0 : decide (x10_1 < (a0.size : Int)) = true := decide_eq_true c4
        clear c4
        by_cases c5 : 0 ≤ x10_1
        · rw [if_pos c5] at H
          have c5b0 : decide (0 ≤ x10_1) = true := decide_eq_true c5
          clear c5
          by_cases c6 : x10_1 < (a0.size : Int)
          · rw [if_pos c6] at H
            have c6b0 : decide (x10_1 < (a0.size : Int)) = true := decide_eq_true c6
            clear c6
            by_cases c8 : (bt a0 x10_1) < a1
            · rw [if_pos c8] at H
              have c8b0 : decide ((bt a0 x10_1) < a1) = true := decide_eq_true c8
              clear c8
              obtain rfl := Option.some.inj H
              have p7 : 0 ≤ (x10_1 : Int) := of_decide_eq_true (by first | (with_reducible assumption) | assumption)
              have q7 : x10_1 < (a0.size : Int) := of_decide_eq_true (by first | (with_reducible assumption) | assumption)
              have hx7 := bt_at a0 x10_1
              replace p7 := eq_true p7
              replace q7 := eq_true q7
              go_wp2
              go_ret
              exact ⟨by first | rfl | (simp; done) | (simp [*]; done), by repeat (first | exact Drawn0.refl _ | apply Drawn0.step)⟩
            · rw [if_neg c8] at H
              have c8b0 : decide ((bt a0 x10_1) < a1) = false := decide_eq_false c8
              clear c8
              by_cases c10 : (bt a0 x10_1) > a2
              · rw [if_pos c10] at H
                have c10b0 : decide (a2 < (bt a0 x10_1)) = true := decide_eq_true c10
                clear c10
                obtain rfl := Option.some.inj H
                have p7 : 0 ≤ (x10_1 : Int) := of_decide_eq_true (by first | (with_reducible assumption) | assumption)
                have q7 : x10_1 < (a0.size : Int) := of_decide_eq_true (by first | (with_reducible assumption) | assumption)
                have hx7 := bt_at a0 x10_1
                replace p7 := eq_true p7
                replace q7 := eq_true q7
                have p9 : 0 ≤ (x10_1 : Int) := of_decide_eq_true (by first | (with_reducible assumption) | assumption)
                have q9 : x10_1 < (a0.size : Int) := of_decide_eq_true (by first | (with_reducible assumption) | assumption)
                have hx9 := bt_at a0 x10_1
                replace p9 := eq_true p9
                replace q9 := eq_true q9
                go_wp2
                go_ret
                exact ⟨by first | rfl | (simp; done) | (simp [*]; done), by repeat (first | exact Drawn0.refl _ | apply Drawn0.step)⟩
              · rw [if_neg c10] at H
                have c10b0 : decide (a2 < (bt a0 x10_1)) = false := decide_eq_false c10
                clear c10
                have H' := Aside0.mk H
                clear H
                have p7 : 0 ≤ (x10_1 : Int) := of_decide_eq_true (by first | (with_reducible assumption) | assumption)
                have q7 : x10_1 < (a0.size : Int) := of_decide_eq_true (by first | (with_reducible assumption) | assumption)
                have hx7 := bt_at a0 x10_1
                replace p7 := eq_true p7
                replace q7 := eq_true q7
                have p9 : 0 ≤ (x10_1 : Int) := of_decide_eq_true (by first | (with_reducible assumption) | assumption)
                have q9 : x10_1 < (a0.size : Int) := of_decide_eq_true (by first | (with_reducible assumption) | assumption)
                have hx9 := bt_at a0 x10_1
                replace p9 := eq_true p9
                replace q9 := eq_true q9
                go_wp2
                go_roundg k1
                case measure => have := HK1.out; omega
                case rel => exact ⟨(wrap64 (x10_1 + 1)), (by first | rfl | (simp; done) | (simp [*]; done)), H', ⟨by have := HK1.out; omega⟩, by repeat (first | exact Drawn0.refl _ | apply Drawn0.step)⟩
          · rw [if_neg c6] at H
            exact absurd H (by simp)
        · rw [if_neg c5] at H
          exact absurd H (by simp)
      · rw [if_neg c4] at H
        have c4b0 : decide (x10_1 < (a0.size : Int)) = false := decide_eq_false c4
        clear c4
        obtain rfl := Option.some.inj H
        go_wp2
        go_ret
        exact ⟨by first | rfl | (simp; done) | (simp [*]; done), by repeat (first | exact Drawn0.refl _ | apply Drawn0.step)⟩

/-! ### http_asked: function 70 -/
def http_asked.f (k : Nat) (a0 : ByteArray) (a1 : ByteArray) : Option (Bool) := if a0.toList = ([] : List UInt8) then (some false) else (if (a0.size : Int) ≤ 16 then ((http_only.f k a0 65 90).bind fun t104 => (if t104 = true then (if a1.toList = ([] : List UInt8) then (some false) else (if (a1.size : Int) ≤ 256 then ((http_only.f k a1 33 126).bind fun t105 => (some t105)) else (some false))) else (some false))) else (some false))
theorem http_asked.mono : ∀ a0 a1 k, LeO (http_asked.f k a0 a1) (http_asked.f (k + 1) a0 a1) := by
  intro a0 a1 k
  unfold http_asked.f
  repeat' first
      | (with_reducible exact http_only.mono _ _ _ _)
      | (with_reducible exact LeO.refl _)
      | (with_reducible exact LeO.none _)
      | (with_reducible refine LeO.ite ?_ ?_)
      | (with_reducible refine LeO.bind ?_ (fun _ => ?_))
      | exact http_only.mono _ _ _ _
      | exact LeO.none _
      | refine LeO.ite ?_ ?_
      | refine LeO.bind ?_ (fun _ => ?_)
set_option maxHeartbeats 8000000 in
set_option maxRecDepth 100000 in
theorem http_asked.calls (k : Nat) (a0 : ByteArray) (a1 : ByteArray) (r : Bool) (w : World) (h : http_asked.f k a0 a1 = some r) :
    Calls Tryd.prog 70 #[.string a0, .string a1] w fun e w' => e = .returned (.bool r) ∧ Drawn0 w w' := by
  have H : (if a0.toList = ([] : List UInt8) then (some false) else (if (a0.size : Int) ≤ 16 then ((http_only.f k a0 65 90).bind fun t104 => (if t104 = true then (if a1.toList = ([] : List UInt8) then (some false) else (if (a1.size : Int) ≤ 256 then ((http_only.f k a1 33 126).bind fun t105 => (some t105)) else (some false))) else (some false))) else (some false))) = some r := h
  clear h
  by_cases c3 : a0.toList = ([] : List UInt8)
  · rw [if_pos c3] at H
    have c3b0 : (a0.toList == ([] : List UInt8)) = true := beq_iff_eq.mpr c3
    have c3b7 : a0.toList.isEmpty = true := List.isEmpty_iff.2 c3
    have c3b1 : (a0.toList != ([] : List UInt8)) = false := bne_eq_false_iff_eq.mpr c3
    clear c3
    obtain rfl := Option.some.inj H
    go_enter Tryd.func70, Tryd.ntmps70
    go_wp2
    go_ret
    exact ⟨by first | rfl | (simp; done) | (simp [*]; done), by repeat (first | exact Drawn0.refl _ | apply Drawn0.step)⟩
  · rw [if_neg c3] at H
    have c3b0 : (a0.toList == ([] : List UInt8)) = false := beq_eq_false_iff_ne.mpr c3
    have c3b7 : a0.toList.isEmpty = false := Bool.eq_false_iff.2 fun h_ => c3 (List.isEmpty_iff.1 h_)
    have c3b1 : (a0.toList != ([] : List UInt8)) = true := bne_iff_ne.mpr c3
    by_cases c4 : (a0.size : Int) ≤ 16
    · rw [if_pos c4] at H
      have c4b0 : decide ((a0.size : Int) ≤ 16) = true := decide_eq_true c4
      have c4b1 : decide (a0.size ≤ 16) = true := decide_eq_true (by omega)
      clear c4
      replace H := Option.bind_eq_some_iff.mp H
      obtain ⟨t104, A50, H⟩ := H
      replace H : (if t104 = true then (if a1.toList = ([] : List UInt8) then (some false) else (if (a1.size : Int) ≤ 256 then ((http_only.f k a1 33 126).bind fun t105 => (some t105)) else (some false))) else (some false)) = some r := H
      have A5 := Aside0.mk A50
      clear A50
      by_cases c6 : t104 = true
      · subst c6
        have H1 : (if a1.toList = ([] : List UInt8) then (some false) else (if (a1.size : Int) ≤ 256 then ((http_only.f k a1 33 126).bind fun t105 => (some t105)) else (some false))) = some r := by rw [if_pos rfl] at H; exact H
        clear H
        have H := H1
        clear H1
        by_cases c7 : a1.toList = ([] : List UInt8)
        · rw [if_pos c7] at H
          have c7b0 : (a1.toList == ([] : List UInt8)) = true := beq_iff_eq.mpr c7
          have c7b7 : a1.toList.isEmpty = true := List.isEmpty_iff.2 c7
          have c7b1 : (a1.toList != ([] : List UInt8)) = false := bne_eq_false_iff_eq.mpr c7
          clear c7
          obtain rfl := Option.some.inj H
          go_enter Tryd.func70, Tryd.ntmps70
          go_wp2_with (first | (go_at_call 91; (with_reducible refine (http_only.calls k a0 65 90 true _ A5.out).mono ?_); rintro e w' ⟨rfl, ⟨nd, rfl⟩⟩))
          go_ret
          exact ⟨by first | rfl | (simp; done) | (simp [*]; done), by repeat (first | exact Drawn0.refl _ | apply Drawn0.step)⟩
        · rw [if_neg c7] at H
          have c7b0 : (a1.toList == ([] : List UInt8)) = false := beq_eq_false_iff_ne.mpr c7
          have c7b7 : a1.toList.isEmpty = false := Bool.eq_false_iff.2 fun h_ => c7 (List.isEmpty_iff.1 h_)
          have c7b1 : (a1.toList != ([] : List UInt8)) = true := bne_iff_ne.mpr c7
          by_cases c8 : (a1.size : Int) ≤ 256
          · rw [if_pos c8] at H
            have c8b0 : decide ((a1.size : Int) ≤ 256) = true := decide_eq_true c8
            have c8b1 : decide (a1.size ≤ 256) = true := decide_eq_true (by omega)
            clear c8
            replace H := Option.bind_eq_some_iff.mp H
            obtain ⟨t105, A90, H⟩ := H
            replace H : (some t105) = some r := H
            have A9 := Aside0.mk A90
            clear A90
            obtain rfl := Option.some.inj H
            go_enter Tryd.func70, Tryd.ntmps70
            go_wp2_with (first | (go_at_call 91; (with_reducible refine (http_only.calls k a0 65 90 true _ A5.out).mono ?_); rintro e w' ⟨rfl, ⟨nd, rfl⟩⟩) | (go_at_call 91; (with_reducible refine (http_only.calls k a1 33 126 t105 _ A9.out).mono ?_); rintro e w' ⟨rfl, ⟨nd, rfl⟩⟩))
            go_ret
            exact ⟨by first | rfl | (simp; done) | (simp [*]; done), by repeat (first | exact Drawn0.refl _ | apply Drawn0.step)⟩
          · rw [if_neg c8] at H
            have c8b0 : decide ((a1.size : Int) ≤ 256) = false := decide_eq_false c8
            have c8b1 : decide (a1.size ≤ 256) = false := decide_eq_false (by omega)
            clear c8
            obtain rfl := Option.some.inj H
            go_enter Tryd.func70, Tryd.ntmps70
            go_wp2_with (first | (go_at_call 91; (with_reducible refine (http_only.calls k a0 65 90 true _ A5.out).mono ?_); rintro e w' ⟨rfl, ⟨nd, rfl⟩⟩))
            go_ret
            exact ⟨by first | rfl | (simp; done) | (simp [*]; done), by repeat (first | exact Drawn0.refl _ | apply Drawn0.step)⟩
      · replace c6 := Bool.eq_false_iff.mpr c6
        subst c6
        have H1 : (some false) = some r := by rw [if_neg (show ¬ (false = true) by decide)] at H; exact H
        clear H
        have H := H1
        clear H1
        obtain rfl := Option.some.inj H
        go_enter Tryd.func70, Tryd.ntmps70
        go_wp2_with (first | (go_at_call 91; (with_reducible refine (http_only.calls k a0 65 90 false _ A5.out).mono ?_); rintro e w' ⟨rfl, ⟨nd, rfl⟩⟩))
        go_ret
        exact ⟨by first | rfl | (simp; done) | (simp [*]; done), by repeat (first | exact Drawn0.refl _ | apply Drawn0.step)⟩
    · rw [if_neg c4] at H
      have c4b0 : decide ((a0.size : Int) ≤ 16) = false := decide_eq_false c4
      have c4b1 : decide (a0.size ≤ 16) = false := decide_eq_false (by omega)
      clear c4
      obtain rfl := Option.some.inj H
      go_enter Tryd.func70, Tryd.ntmps70
      go_wp2
      go_ret
      exact ⟨by first | rfl | (simp; done) | (simp [*]; done), by repeat (first | exact Drawn0.refl _ | apply Drawn0.step)⟩

/-! ### http_ParseRequest_1: function 69 -/
def http_ParseRequest_1.f (k : Nat) (a0 : ByteArray) : Option (Bool) := (strings_Split.f a0 (⟨#[32]⟩ : ByteArray)).bind fun t106 => (if (t106.length : Int) = 3 then (if 0 < (t106.length : Int) then (if 1 < (t106.length : Int) then ((http_asked.f k (rdOf ByteArray.empty t106 0) (rdOf ByteArray.empty t106 1)).bind fun t111 => (if t111 = true then (if 2 < (t106.length : Int) then (some ((rdOf ByteArray.empty t106 2).toList == ([72, 84, 84, 80, 47, 49, 46, 49] : List UInt8))) else (none)) else (some false))) else (none)) else (none)) else (some false))
theorem http_ParseRequest_1.mono : ∀ a0 k, LeO (http_ParseRequest_1.f k a0) (http_ParseRequest_1.f (k + 1) a0) := by
  intro a0 k
  unfold http_ParseRequest_1.f
  repeat' first
      | (with_reducible exact http_asked.mono _ _ _)
      | (with_reducible exact LeO.refl _)
      | (with_reducible exact LeO.none _)
      | (with_reducible refine LeO.ite ?_ ?_)
      | (with_reducible refine LeO.bind ?_ (fun _ => ?_))
      | exact http_asked.mono _ _ _
      | exact LeO.none _
      | refine LeO.ite ?_ ?_
      | refine LeO.bind ?_ (fun _ => ?_)
set_option maxHeartbeats 8000000 in
set_option maxRecDepth 100000 in
theorem http_ParseRequest_1.calls (k : Nat) (a0 : ByteArray) (r : Bool) (w : World) (hT : LaidM w) (h : http_ParseRequest_1.f k a0 = some r) :
    Calls Tryd.prog 69 #[.string a0] w fun e w' => e = .returned (.bool r) ∧ Below w.heap.size w w' := by
  have HB := Aside0.mk (Below.refl w.heap.size w)
  have HT := Aside0.mk hT
  clear hT
  have H : ((strings_Split.f a0 (⟨#[32]⟩ : ByteArray)).bind fun t106 => (if (t106.length : Int) = 3 then (if 0 < (t106.length : Int) then (if 1 < (t106.length : Int) then ((http_asked.f k (rdOf ByteArray.empty t106 0) (rdOf ByteArray.empty t106 1)).bind fun t111 => (if t111 = true then (if 2 < (t106.length : Int) then (some ((rdOf ByteArray.empty t106 2).toList == ([72, 84, 84, 80, 47, 49, 46, 49] : List UInt8))) else (none)) else (some false))) else (none)) else (none)) else (some false))) = some r := h
  clear h
  replace H := Option.bind_eq_some_iff.mp H
  obtain ⟨t106, A20, H⟩ := H
  replace H : (if (t106.length : Int) = 3 then (if 0 < (t106.length : Int) then (if 1 < (t106.length : Int) then ((http_asked.f k (rdOf ByteArray.empty t106 0) (rdOf ByteArray.empty t106 1)).bind fun t111 => (if t111 = true then (if 2 < (t106.length : Int) then (some ((rdOf ByteArray.empty t106 2).toList == ([72, 84, 84, 80, 47, 49, 46, 49] : List UInt8))) else (none)) else (some false))) else (none)) else (none)) else (some false)) = some r := H
  have A2 := Aside0.mk A20
  clear A20
  by_cases c3 : (t106.length : Int) = 3
  · rw [if_pos c3] at H
    have c3b0 : ((t106.length : Int) == 3) = true := beq_iff_eq.mpr c3
    have c3b1 : ((t106.length : Int) != 3) = false := bne_eq_false_iff_eq.mpr c3
    clear c3
    by_cases c4 : 0 < (t106.length : Int)
    · rw [if_pos c4] at H
      have c4b0 : decide (0 < (t106.length : Int)) = true := decide_eq_true c4
      have c4b1 : decide (0 < t106.length) = true := decide_eq_true (by omega)
      clear c4
      by_cases c5 : 1 < (t106.length : Int)
      · rw [if_pos c5] at H
        have c5b0 : decide (1 < (t106.length : Int)) = true := decide_eq_true c5
        have c5b1 : decide (1 < t106.length) = true := decide_eq_true (by omega)
        clear c5
        replace H := Option.bind_eq_some_iff.mp H
        obtain ⟨t111, A60, H⟩ := H
        replace H : (if t111 = true then (if 2 < (t106.length : Int) then (some ((rdOf ByteArray.empty t106 2).toList == ([72, 84, 84, 80, 47, 49, 46, 49] : List UInt8))) else (none)) else (some false)) = some r := H
        have A6 := Aside0.mk A60
        clear A60
        by_cases c7 : t111 = true
        · subst c7
          have H1 : (if 2 < (t106.length : Int) then (some ((rdOf ByteArray.empty t106 2).toList == ([72, 84, 84, 80, 47, 49, 46, 49] : List UInt8))) else (none)) = some r := by rw [if_pos rfl] at H; exact H
          clear H
          have H := H1
          clear H1
          by_cases c8 : 2 < (t106.length : Int)
          · rw [if_pos c8] at H
            have c8b0 : decide (2 < (t106.length : Int)) = true := decide_eq_true c8
            have c8b1 : decide (2 < t106.length) = true := decide_eq_true (by omega)
            clear c8
            obtain rfl := Option.some.inj H
            go_enter Tryd.func69, Tryd.ntmps69
            go_wp2_with (first | (go_at_call 64; (with_reducible refine (strings_Split.calls a0 (⟨#[32]⟩ : ByteArray) t106 _ ?side1 A2.out).mono ?_); (case side1 => exact LaidM.below HT.out (by repeat (first | (with_reducible first | exact HB.out | apply below_alloc | apply pw_below_drewN | apply below_drew1) | exact HB.out))); rintro e w9 ⟨v107, rfl, ho0, hb⟩; have n0_ := Aside0.mk (Kd.R_lower ho0 (below_size (by repeat (first | (with_reducible first | exact HB.out | apply below_alloc | apply pw_below_drewN | apply below_drew1) | exact HB.out)))); have n1_ := Aside0.mk (below_step (by repeat (first | (with_reducible first | exact HB.out | apply below_alloc | apply pw_below_drewN | apply below_drew1) | exact HB.out)) hb); clear HB; have HO108 := n0_; have HB := n1_; clear n0_ n1_; (try clear hb); (try clear hb2); (try clear hk); (try clear hi); (try clear ho0); obtain ⟨Ao10, co10, eo10⟩ := Kd.R_slice HO108.out; subst eo10; have p109 : 0 ≤ (0 : Int) := (by omega); have q109 : 0 < (t106.length : Int) := of_decide_eq_true (by first | (with_reducible assumption) | assumption); obtain ⟨ad109, e109, hx109_0⟩ := Kd.at_string (Kd.R_reads' HO108.out).2.2 0 p109 q109; cases e109; have qi109 : (0 < t106.length) = True := eq_true (by omega); (try rw [show ((0 : Int)).toNat = 0 from rfl] at hx109_0); (try rw [Addr.add_zero'] at hx109_0); replace p109 := eq_true p109; replace q109 := eq_true q109; have p110 : 0 ≤ (1 : Int) := (by omega); have q110 : 1 < (t106.length : Int) := of_decide_eq_true (by first | (with_reducible assumption) | assumption); obtain ⟨ad110, e110, hx110_0⟩ := Kd.at_string (Kd.R_reads' HO108.out).2.2 1 p110 q110; obtain rfl : ad109 = ad110 := (by injection e110); (try simp only [show (1 : Int).toNat = 1 from rfl, Nat.reduceMul, Nat.reduceEqDiff, Go.Addr.add, ↓reduceIte] at hx110_0); have qi110 : (1 < t106.length) = True := eq_true (by omega); (try rw [show ((1 : Int)).toNat = 1 from rfl] at hx110_0); replace p110 := eq_true p110; replace q110 := eq_true q110) | (go_at_call 70; (with_reducible refine (http_asked.calls k (rdOf ByteArray.empty t106 0) (rdOf ByteArray.empty t106 1) true _ A6.out).mono ?_); rintro e w' ⟨rfl, ⟨nd, rfl⟩⟩; (try first | exact ⟨rfl, _, World.drewN_drewN _ _ _⟩ | exact ⟨rfl, _, Eq.trans (World.drewN_drewN _ _ _) (congrArg (World.drewN _) (Nat.add_assoc _ _ _))⟩); have p112 : 0 ≤ (2 : Int) := (by omega); have q112 : 2 < (t106.length : Int) := of_decide_eq_true (by first | (with_reducible assumption) | assumption); obtain ⟨ad112, e112, hx112_0⟩ := Kd.at_string (Kd.R_reads' HO108.out).2.2 2 p112 q112; obtain rfl : ad109 = ad112 := (by injection e112); (try simp only [show (2 : Int).toNat = 2 from rfl, Nat.reduceMul, Nat.reduceEqDiff, Go.Addr.add, ↓reduceIte] at hx112_0); have qi112 : (2 < t106.length) = True := eq_true (by omega); (try rw [show ((2 : Int)).toNat = 2 from rfl] at hx112_0); replace p112 := eq_true p112; replace q112 := eq_true q112))
            repeat (go_quiet (first | (go_at_call 64; (with_reducible refine (strings_Split.calls a0 (⟨#[32]⟩ : ByteArray) t106 _ ?side1 A2.out).mono ?_); (case side1 => exact LaidM.below HT.out (by repeat (first | (with_reducible first | exact HB.out | apply below_alloc | apply pw_below_drewN | apply below_drew1) | exact HB.out))); rintro e w9 ⟨v107, rfl, ho0, hb⟩; have n0_ := Aside0.mk (Kd.R_lower ho0 (below_size (by repeat (first | (with_reducible first | exact HB.out | apply below_alloc | apply pw_below_drewN | apply below_drew1) | exact HB.out)))); have n1_ := Aside0.mk (below_step (by repeat (first | (with_reducible first | exact HB.out | apply below_alloc | apply pw_below_drewN | apply below_drew1) | exact HB.out)) hb); clear HB; have HO108 := n0_; have HB := n1_; clear n0_ n1_; (try clear hb); (try clear hb2); (try clear hk); (try clear hi); (try clear ho0); obtain ⟨Ao10, co10, eo10⟩ := Kd.R_slice HO108.out; subst eo10; have p109 : 0 ≤ (0 : Int) := (by omega); have q109 : 0 < (t106.length : Int) := of_decide_eq_true (by first | (with_reducible assumption) | assumption); obtain ⟨ad109, e109, hx109_0⟩ := Kd.at_string (Kd.R_reads' HO108.out).2.2 0 p109 q109; cases e109; have qi109 : (0 < t106.length) = True := eq_true (by omega); (try rw [show ((0 : Int)).toNat = 0 from rfl] at hx109_0); (try rw [Addr.add_zero'] at hx109_0); replace p109 := eq_true p109; replace q109 := eq_true q109; have p110 : 0 ≤ (1 : Int) := (by omega); have q110 : 1 < (t106.length : Int) := of_decide_eq_true (by first | (with_reducible assumption) | assumption); obtain ⟨ad110, e110, hx110_0⟩ := Kd.at_string (Kd.R_reads' HO108.out).2.2 1 p110 q110; obtain rfl : ad109 = ad110 := (by injection e110); (try simp only [show (1 : Int).toNat = 1 from rfl, Nat.reduceMul, Nat.reduceEqDiff, Go.Addr.add, ↓reduceIte] at hx110_0); have qi110 : (1 < t106.length) = True := eq_true (by omega); (try rw [show ((1 : Int)).toNat = 1 from rfl] at hx110_0); replace p110 := eq_true p110; replace q110 := eq_true q110) | (go_at_call 70; (with_reducible refine (http_asked.calls k (rdOf ByteArray.empty t106 0) (rdOf ByteArray.empty t106 1) true _ A6.out).mono ?_); rintro e w' ⟨rfl, ⟨nd, rfl⟩⟩; (try first | exact ⟨rfl, _, World.drewN_drewN _ _ _⟩ | exact ⟨rfl, _, Eq.trans (World.drewN_drewN _ _ _) (congrArg (World.drewN _) (Nat.add_assoc _ _ _))⟩); have p112 : 0 ≤ (2 : Int) := (by omega); have q112 : 2 < (t106.length : Int) := of_decide_eq_true (by first | (with_reducible assumption) | assumption); obtain ⟨ad112, e112, hx112_0⟩ := Kd.at_string (Kd.R_reads' HO108.out).2.2 2 p112 q112; obtain rfl : ad109 = ad112 := (by injection e112); (try simp only [show (2 : Int).toNat = 2 from rfl, Nat.reduceMul, Nat.reduceEqDiff, Go.Addr.add, ↓reduceIte] at hx112_0); have qi112 : (2 < t106.length) = True := eq_true (by omega); (try rw [show ((2 : Int)).toNat = 2 from rfl] at hx112_0); replace p112 := eq_true p112; replace q112 := eq_true q112)); try go_wp2_with (first | (go_at_call 64; (with_reducible refine (strings_Split.calls a0 (⟨#[32]⟩ : ByteArray) t106 _ ?side1 A2.out).mono ?_); (case side1 => exact LaidM.below HT.out (by repeat (first | (with_reducible first | exact HB.out | apply below_alloc | apply pw_below_drewN | apply below_drew1) | exact HB.out))); rintro e w9 ⟨v107, rfl, ho0, hb⟩; have n0_ := Aside0.mk (Kd.R_lower ho0 (below_size (by repeat (first | (with_reducible first | exact HB.out | apply below_alloc | apply pw_below_drewN | apply below_drew1) | exact HB.out)))); have n1_ := Aside0.mk (below_step (by repeat (first | (with_reducible first | exact HB.out | apply below_alloc | apply pw_below_drewN | apply below_drew1) | exact HB.out)) hb); clear HB; have HO108 := n0_; have HB := n1_; clear n0_ n1_; (try clear hb); (try clear hb2); (try clear hk); (try clear hi); (try clear ho0); obtain ⟨Ao10, co10, eo10⟩ := Kd.R_slice HO108.out; subst eo10; have p109 : 0 ≤ (0 : Int) := (by omega); have q109 : 0 < (t106.length : Int) := of_decide_eq_true (by first | (with_reducible assumption) | assumption); obtain ⟨ad109, e109, hx109_0⟩ := Kd.at_string (Kd.R_reads' HO108.out).2.2 0 p109 q109; cases e109; have qi109 : (0 < t106.length) = True := eq_true (by omega); (try rw [show ((0 : Int)).toNat = 0 from rfl] at hx109_0); (try rw [Addr.add_zero'] at hx109_0); replace p109 := eq_true p109; replace q109 := eq_true q109; have p110 : 0 ≤ (1 : Int) := (by omega); have q110 : 1 < (t106.length : Int) := of_decide_eq_true (by first | (with_reducible assumption) | assumption); obtain ⟨ad110, e110, hx110_0⟩ := Kd.at_string (Kd.R_reads' HO108.out).2.2 1 p110 q110; obtain rfl : ad109 = ad110 := (by injection e110); (try simp only [show (1 : Int).toNat = 1 from rfl, Nat.reduceMul, Nat.reduceEqDiff, Go.Addr.add, ↓reduceIte] at hx110_0); have qi110 : (1 < t106.length) = True := eq_true (by omega); (try rw [show ((1 : Int)).toNat = 1 from rfl] at hx110_0); replace p110 := eq_true p110; replace q110 := eq_true q110) | (go_at_call 70; (with_reducible refine (http_asked.calls k (rdOf ByteArray.empty t106 0) (rdOf ByteArray.empty t106 1) true _ A6.out).mono ?_); rintro e w' ⟨rfl, ⟨nd, rfl⟩⟩; (try first | exact ⟨rfl, _, World.drewN_drewN _ _ _⟩ | exact ⟨rfl, _, Eq.trans (World.drewN_drewN _ _ _) (congrArg (World.drewN _) (Nat.add_assoc _ _ _))⟩); have p112 : 0 ≤ (2 : Int) := (by omega); have q112 : 2 < (t106.length : Int) := of_decide_eq_true (by first | (with_reducible assumption) | assumption); obtain ⟨ad112, e112, hx112_0⟩ := Kd.at_string (Kd.R_reads' HO108.out).2.2 2 p112 q112; obtain rfl : ad109 = ad112 := (by injection e112); (try simp only [show (2 : Int).toNat = 2 from rfl, Nat.reduceMul, Nat.reduceEqDiff, Go.Addr.add, ↓reduceIte] at hx112_0); have qi112 : (2 < t106.length) = True := eq_true (by omega); (try rw [show ((2 : Int)).toNat = 2 from rfl] at hx112_0); replace p112 := eq_true p112; replace q112 := eq_true q112)))
            go_ret
            exact ⟨by first | rfl | (simp [errW_none, errW_some] <;> rfl) | (simp [*, errW_none, errW_some] <;> rfl), by repeat (first | (with_reducible first | exact HB.out | apply below_alloc | apply pw_below_drewN | apply below_drew1) | exact HB.out)⟩
          · rw [if_neg c8] at H
            exact absurd H (by simp)
        · replace c7 := Bool.eq_false_iff.mpr c7
          subst c7
          have H1 : (some false) = some r := by rw [if_neg (show ¬ (false = true) by decide)] at H; exact H
          clear H
          have H := H1
          clear H1
          obtain rfl := Option.some.inj H
          go_enter Tryd.func69, Tryd.ntmps69
          go_wp2_with (first | (go_at_call 64; (with_reducible refine (strings_Split.calls a0 (⟨#[32]⟩ : ByteArray) t106 _ ?side1 A2.out).mono ?_); (case side1 => exact LaidM.below HT.out (by repeat (first | (with_reducible first | exact HB.out | apply below_alloc | apply pw_below_drewN | apply below_drew1) | exact HB.out))); rintro e w11 ⟨v107, rfl, ho0, hb⟩; have n0_ := Aside0.mk (Kd.R_lower ho0 (below_size (by repeat (first | (with_reducible first | exact HB.out | apply below_alloc | apply pw_below_drewN | apply below_drew1) | exact HB.out)))); have n1_ := Aside0.mk (below_step (by repeat (first | (with_reducible first | exact HB.out | apply below_alloc | apply pw_below_drewN | apply below_drew1) | exact HB.out)) hb); clear HB; have HO108 := n0_; have HB := n1_; clear n0_ n1_; (try clear hb); (try clear hb2); (try clear hk); (try clear hi); (try clear ho0); obtain ⟨Ao12, co12, eo12⟩ := Kd.R_slice HO108.out; subst eo12; have p109 : 0 ≤ (0 : Int) := (by omega); have q109 : 0 < (t106.length : Int) := of_decide_eq_true (by first | (with_reducible assumption) | assumption); obtain ⟨ad109, e109, hx109_0⟩ := Kd.at_string (Kd.R_reads' HO108.out).2.2 0 p109 q109; cases e109; have qi109 : (0 < t106.length) = True := eq_true (by omega); (try rw [show ((0 : Int)).toNat = 0 from rfl] at hx109_0); (try rw [Addr.add_zero'] at hx109_0); replace p109 := eq_true p109; replace q109 := eq_true q109; have p110 : 0 ≤ (1 : Int) := (by omega); have q110 : 1 < (t106.length : Int) := of_decide_eq_true (by first | (with_reducible assumption) | assumption); obtain ⟨ad110, e110, hx110_0⟩ := Kd.at_string (Kd.R_reads' HO108.out).2.2 1 p110 q110; obtain rfl : ad109 = ad110 := (by injection e110); (try simp only [show (1 : Int).toNat = 1 from rfl, Nat.reduceMul, Nat.reduceEqDiff, Go.Addr.add, ↓reduceIte] at hx110_0); have qi110 : (1 < t106.length) = True := eq_true (by omega); (try rw [show ((1 : Int)).toNat = 1 from rfl] at hx110_0); replace p110 := eq_true p110; replace q110 := eq_true q110) | (go_at_call 70; (with_reducible refine (http_asked.calls k (rdOf ByteArray.empty t106 0) (rdOf ByteArray.empty t106 1) false _ A6.out).mono ?_); rintro e w' ⟨rfl, ⟨nd, rfl⟩⟩; (try first | exact ⟨rfl, _, World.drewN_drewN _ _ _⟩ | exact ⟨rfl, _, Eq.trans (World.drewN_drewN _ _ _) (congrArg (World.drewN _) (Nat.add_assoc _ _ _))⟩)))
          repeat (go_quiet (first | (go_at_call 64; (with_reducible refine (strings_Split.calls a0 (⟨#[32]⟩ : ByteArray) t106 _ ?side1 A2.out).mono ?_); (case side1 => exact LaidM.below HT.out (by repeat (first | (with_reducible first | exact HB.out | apply below_alloc | apply pw_below_drewN | apply below_drew1) | exact HB.out))); rintro e w11 ⟨v107, rfl, ho0, hb⟩; have n0_ := Aside0.mk (Kd.R_lower ho0 (below_size (by repeat (first | (with_reducible first | exact HB.out | apply below_alloc | apply pw_below_drewN | apply below_drew1) | exact HB.out)))); have n1_ := Aside0.mk (below_step (by repeat (first | (with_reducible first | exact HB.out | apply below_alloc | apply pw_below_drewN | apply below_drew1) | exact HB.out)) hb); clear HB; have HO108 := n0_; have HB := n1_; clear n0_ n1_; (try clear hb); (try clear hb2); (try clear hk); (try clear hi); (try clear ho0); obtain ⟨Ao12, co12, eo12⟩ := Kd.R_slice HO108.out; subst eo12; have p109 : 0 ≤ (0 : Int) := (by omega); have q109 : 0 < (t106.length : Int) := of_decide_eq_true (by first | (with_reducible assumption) | assumption); obtain ⟨ad109, e109, hx109_0⟩ := Kd.at_string (Kd.R_reads' HO108.out).2.2 0 p109 q109; cases e109; have qi109 : (0 < t106.length) = True := eq_true (by omega); (try rw [show ((0 : Int)).toNat = 0 from rfl] at hx109_0); (try rw [Addr.add_zero'] at hx109_0); replace p109 := eq_true p109; replace q109 := eq_true q109; have p110 : 0 ≤ (1 : Int) := (by omega); have q110 : 1 < (t106.length : Int) := of_decide_eq_true (by first | (with_reducible assumption) | assumption); obtain ⟨ad110, e110, hx110_0⟩ := Kd.at_string (Kd.R_reads' HO108.out).2.2 1 p110 q110; obtain rfl : ad109 = ad110 := (by injection e110); (try simp only [show (1 : Int).toNat = 1 from rfl, Nat.reduceMul, Nat.reduceEqDiff, Go.Addr.add, ↓reduceIte] at hx110_0); have qi110 : (1 < t106.length) = True := eq_true (by omega); (try rw [show ((1 : Int)).toNat = 1 from rfl] at hx110_0); replace p110 := eq_true p110; replace q110 := eq_true q110) | (go_at_call 70; (with_reducible refine (http_asked.calls k (rdOf ByteArray.empty t106 0) (rdOf ByteArray.empty t106 1) false _ A6.out).mono ?_); rintro e w' ⟨rfl, ⟨nd, rfl⟩⟩; (try first | exact ⟨rfl, _, World.drewN_drewN _ _ _⟩ | exact ⟨rfl, _, Eq.trans (World.drewN_drewN _ _ _) (congrArg (World.drewN _) (Nat.add_assoc _ _ _))⟩))); try go_wp2_with (first | (go_at_call 64; (with_reducible refine (strings_Split.calls a0 (⟨#[32]⟩ : ByteArray) t106 _ ?side1 A2.out).mono ?_); (case side1 => exact LaidM.below HT.out (by repeat (first | (with_reducible first | exact HB.out | apply below_alloc | apply pw_below_drewN | apply below_drew1) | exact HB.out))); rintro e w11 ⟨v107, rfl, ho0, hb⟩; have n0_ := Aside0.mk (Kd.R_lower ho0 (below_size (by repeat (first | (with_reducible first | exact HB.out | apply below_alloc | apply pw_below_drewN | apply below_drew1) | exact HB.out)))); have n1_ := Aside0.mk (below_step (by repeat (first | (with_reducible first | exact HB.out | apply below_alloc | apply pw_below_drewN | apply below_drew1) | exact HB.out)) hb); clear HB; have HO108 := n0_; have HB := n1_; clear n0_ n1_; (try clear hb); (try clear hb2); (try clear hk); (try clear hi); (try clear ho0); obtain ⟨Ao12, co12, eo12⟩ := Kd.R_slice HO108.out; subst eo12; have p109 : 0 ≤ (0 : Int) := (by omega); have q109 : 0 < (t106.length : Int) := of_decide_eq_true (by first | (with_reducible assumption) | assumption); obtain ⟨ad109, e109, hx109_0⟩ := Kd.at_string (Kd.R_reads' HO108.out).2.2 0 p109 q109; cases e109; have qi109 : (0 < t106.length) = True := eq_true (by omega); (try rw [show ((0 : Int)).toNat = 0 from rfl] at hx109_0); (try rw [Addr.add_zero'] at hx109_0); replace p109 := eq_true p109; replace q109 := eq_true q109; have p110 : 0 ≤ (1 : Int) := (by omega); have q110 : 1 < (t106.length : Int) := of_decide_eq_true (by first | (with_reducible assumption) | assumption); obtain ⟨ad110, e110, hx110_0⟩ := Kd.at_string (Kd.R_reads' HO108.out).2.2 1 p110 q110; obtain rfl : ad109 = ad110 := (by injection e110); (try simp only [show (1 : Int).toNat = 1 from rfl, Nat.reduceMul, Nat.reduceEqDiff, Go.Addr.add, ↓reduceIte] at hx110_0); have qi110 : (1 < t106.length) = True := eq_true (by omega); (try rw [show ((1 : Int)).toNat = 1 from rfl] at hx110_0); replace p110 := eq_true p110; replace q110 := eq_true q110) | (go_at_call 70; (with_reducible refine (http_asked.calls k (rdOf ByteArray.empty t106 0) (rdOf ByteArray.empty t106 1) false _ A6.out).mono ?_); rintro e w' ⟨rfl, ⟨nd, rfl⟩⟩; (try first | exact ⟨rfl, _, World.drewN_drewN _ _ _⟩ | exact ⟨rfl, _, Eq.trans (World.drewN_drewN _ _ _) (congrArg (World.drewN _) (Nat.add_assoc _ _ _))⟩))))
          go_ret
          exact ⟨by first | rfl | (simp [errW_none, errW_some] <;> rfl) | (simp [*, errW_none, errW_some] <;> rfl), by repeat (first | (with_reducible first | exact HB.out | apply below_alloc | apply pw_below_drewN | apply below_drew1) | exact HB.out)⟩
      · rw [if_neg c5] at H
        exact absurd H (by simp)
    · rw [if_neg c4] at H
      exact absurd H (by simp)
  · rw [if_neg c3] at H
    have c3b0 : ((t106.length : Int) == 3) = false := beq_eq_false_iff_ne.mpr c3
    have c3b1 : ((t106.length : Int) != 3) = true := bne_iff_ne.mpr c3
    obtain rfl := Option.some.inj H
    go_enter Tryd.func69, Tryd.ntmps69
    go_wp2_with (first | (go_at_call 64; (with_reducible refine (strings_Split.calls a0 (⟨#[32]⟩ : ByteArray) t106 _ ?side1 A2.out).mono ?_); (case side1 => exact LaidM.below HT.out (by repeat (first | (with_reducible first | exact HB.out | apply below_alloc | apply pw_below_drewN | apply below_drew1) | exact HB.out))); rintro e w13 ⟨v107, rfl, ho0, hb⟩; have n0_ := Aside0.mk (Kd.R_lower ho0 (below_size (by repeat (first | (with_reducible first | exact HB.out | apply below_alloc | apply pw_below_drewN | apply below_drew1) | exact HB.out)))); have n1_ := Aside0.mk (below_step (by repeat (first | (with_reducible first | exact HB.out | apply below_alloc | apply pw_below_drewN | apply below_drew1) | exact HB.out)) hb); clear HB; have HO108 := n0_; have HB := n1_; clear n0_ n1_; (try clear hb); (try clear hb2); (try clear hk); (try clear hi); (try clear ho0); obtain ⟨Ao14, co14, eo14⟩ := Kd.R_slice HO108.out; subst eo14))
    repeat (go_quiet (first | (go_at_call 64; (with_reducible refine (strings_Split.calls a0 (⟨#[32]⟩ : ByteArray) t106 _ ?side1 A2.out).mono ?_); (case side1 => exact LaidM.below HT.out (by repeat (first | (with_reducible first | exact HB.out | apply below_alloc | apply pw_below_drewN | apply below_drew1) | exact HB.out))); rintro e w13 ⟨v107, rfl, ho0, hb⟩; have n0_ := Aside0.mk (Kd.R_lower ho0 (below_size (by repeat (first | (with_reducible first | exact HB.out | apply below_alloc | apply pw_below_drewN | apply below_drew1) | exact HB.out)))); have n1_ := Aside0.mk (below_step (by repeat (first | (with_reducible first | exact HB.out | apply below_alloc | apply pw_below_drewN | apply below_drew1) | exact HB.out)) hb); clear HB; have HO108 := n0_; have HB := n1_; clear n0_ n1_; (try clear hb); (try clear hb2); (try clear hk); (try clear hi); (try clear ho0); obtain ⟨Ao14, co14, eo14⟩ := Kd.R_slice HO108.out; subst eo14)); try go_wp2_with (first | (go_at_call 64; (with_reducible refine (strings_Split.calls a0 (⟨#[32]⟩ : ByteArray) t106 _ ?side1 A2.out).mono ?_); (case side1 => exact LaidM.below HT.out (by repeat (first | (with_reducible first | exact HB.out | apply below_alloc | apply pw_below_drewN | apply below_drew1) | exact HB.out))); rintro e w13 ⟨v107, rfl, ho0, hb⟩; have n0_ := Aside0.mk (Kd.R_lower ho0 (below_size (by repeat (first | (with_reducible first | exact HB.out | apply below_alloc | apply pw_below_drewN | apply below_drew1) | exact HB.out)))); have n1_ := Aside0.mk (below_step (by repeat (first | (with_reducible first | exact HB.out | apply below_alloc | apply pw_below_drewN | apply below_drew1) | exact HB.out)) hb); clear HB; have HO108 := n0_; have HB := n1_; clear n0_ n1_; (try clear hb); (try clear hb2); (try clear hk); (try clear hi); (try clear ho0); obtain ⟨Ao14, co14, eo14⟩ := Kd.R_slice HO108.out; subst eo14)))
    go_ret
    exact ⟨by first | rfl | (simp [errW_none, errW_some] <;> rfl) | (simp [*, errW_none, errW_some] <;> rfl), by repeat (first | (with_reducible first | exact HB.out | apply below_alloc | apply pw_below_drewN | apply below_drew1) | exact HB.out)⟩

/-! ### strings_Index: function 89 -/
def strings_Index.f (s sub : ByteArray) : Option Int := if s.size < 4294967281 ∧ 1 ≤ sub.size then some (Lib.indexB s sub) else none
theorem strings_Index.calls (s sub : ByteArray) (r : Int) (w : World) (hT : LaidM w) (h : strings_Index.f s sub = some r) :
    Calls Tryd.prog 89 #[.string s, .string sub] w fun e w' => e = .returned (.int .i64 r) ∧ Below w.heap.size w w' := by
  unfold strings_Index.f at h
  split at h
  · rename_i hc
    injection h with h
    subst h
    exact index_any s sub w hT hc.1 hc.2
  · cases h

/-! ### char_turned: function 56 -/
def char_turned.f (s : ByteArray) (a b : Int) : Option (ByteArray) := if s.size ≤ 281474976710656 ∧ 0 ≤ a ∧ a < 256 ∧ 0 ≤ b ∧ b < 256 then some (turnS s (UInt8.ofNat a.toNat) (UInt8.ofNat b.toNat)) else none
theorem char_turned.calls (s : ByteArray) (a b : Int) (r : ByteArray) (w : World) (hT : LaidM w) (h : char_turned.f s a b = some r) :
    Calls Tryd.prog 56 #[.string s, .int .u8 a, .int .u8 b] w fun e w' => e = .returned (.string r) ∧ Below w.heap.size w w' := by
  replace hT := hT.laid
  unfold char_turned.f at h
  split at h
  · rename_i hc
    obtain ⟨h0, h1, h2, h3, h4⟩ := hc
    obtain rfl := Option.some.inj h
    have := turned_any s (UInt8.ofNat a.toNat) (UInt8.ofNat b.toNat) w h0
    rw [UInt8.toNat_ofNat_of_lt' (by show a.toNat < 256; omega), UInt8.toNat_ofNat_of_lt' (by show b.toNat < 256; omega), Int.toNat_of_nonneg h1, Int.toNat_of_nonneg h3] at this
    exact this
  · cases h

/-! ### char_Lower: function 23 -/
def char_Lower.f (a0 : ByteArray) : Option (ByteArray) := (char_turned.f a0 65 90).bind fun t113 => (some t113)
set_option maxHeartbeats 8000000 in
set_option maxRecDepth 100000 in
theorem char_Lower.calls (a0 : ByteArray) (r : ByteArray) (w : World) (hT : LaidM w) (h : char_Lower.f a0 = some r) :
    Calls Tryd.prog 23 #[.string a0] w fun e w' => e = .returned (.string r) ∧ Below w.heap.size w w' := by
  have HB := Aside0.mk (Below.refl w.heap.size w)
  have HT := Aside0.mk hT
  clear hT
  have H : ((char_turned.f a0 65 90).bind fun t113 => (some t113)) = some r := h
  clear h
  replace H := Option.bind_eq_some_iff.mp H
  obtain ⟨t113, A20, H⟩ := H
  replace H : (some t113) = some r := H
  have A2 := Aside0.mk A20
  clear A20
  obtain rfl := Option.some.inj H
  go_enter Tryd.func23, Tryd.ntmps23
  go_wp2_with (first | ((with_reducible refine gate_callee (f := 56) rfl ?_); refine goesL_ (some 4) rfl rfl Tryd.func56 (by kernel_rfl) rfl #[.string a0, .int .u8 65, .int .u8 90] rfl (by (try simp only [List.map_toArray, List.map_cons, List.map_nil]); first | done | rfl | (simp only [List.length_drop, List.length_take]; rfl)) ?_; (with_reducible refine (char_turned.calls a0 65 90 t113 _ ?side1 A2.out).mono ?_); (case side1 => exact LaidM.below HT.out (by repeat (first | (with_reducible first | exact HB.out | apply below_alloc | apply pw_below_drewN | apply below_drew1) | exact HB.out))); rintro e w3 ⟨rfl, hb⟩; refine ⟨_, rfl, ?_⟩; have n0_ := Aside0.mk (below_step (by repeat (first | (with_reducible first | exact HB.out | apply below_alloc | apply pw_below_drewN | apply below_drew1) | exact HB.out)) hb); clear HB; have HB := n0_; clear n0_; (try clear hb); (try clear hb2); (try clear hk); (try clear hi)))
  go_ret
  exact ⟨by first | rfl | (simp [errW_none, errW_some] <;> rfl) | (simp [*, errW_none, errW_some] <;> rfl), by repeat (first | (with_reducible first | exact HB.out | apply below_alloc | apply pw_below_drewN | apply below_drew1) | exact HB.out)⟩

/-! ### char_Same: function 27 -/
def char_Same.f (a0 : ByteArray) (a1 : ByteArray) : Option (Bool) := (char_Lower.f a0).bind fun t114 => ((char_Lower.f a1).bind fun t115 => (some (t114.toList == t115.toList)))
set_option maxHeartbeats 8000000 in
set_option maxRecDepth 100000 in
theorem char_Same.calls (a0 : ByteArray) (a1 : ByteArray) (r : Bool) (w : World) (hT : LaidM w) (h : char_Same.f a0 a1 = some r) :
    Calls Tryd.prog 27 #[.string a0, .string a1] w fun e w' => e = .returned (.bool r) ∧ Below w.heap.size w w' := by
  have HB := Aside0.mk (Below.refl w.heap.size w)
  have HT := Aside0.mk hT
  clear hT
  have H : ((char_Lower.f a0).bind fun t114 => ((char_Lower.f a1).bind fun t115 => (some (t114.toList == t115.toList)))) = some r := h
  clear h
  replace H := Option.bind_eq_some_iff.mp H
  obtain ⟨t114, A30, H⟩ := H
  replace H : ((char_Lower.f a1).bind fun t115 => (some (t114.toList == t115.toList))) = some r := H
  have A3 := Aside0.mk A30
  clear A30
  replace H := Option.bind_eq_some_iff.mp H
  obtain ⟨t115, A40, H⟩ := H
  replace H : (some (t114.toList == t115.toList)) = some r := H
  have A4 := Aside0.mk A40
  clear A40
  obtain rfl := Option.some.inj H
  go_enter Tryd.func27, Tryd.ntmps27
  go_wp2_with (first | ((with_reducible refine gate_callee (f := 23) rfl ?_); refine goesL_ (some 6) rfl rfl Tryd.func23 (by kernel_rfl) rfl #[.string a0] rfl (by (try simp only [List.map_toArray, List.map_cons, List.map_nil]); first | done | rfl | (simp only [List.length_drop, List.length_take]; rfl)) ?_; (with_reducible refine (char_Lower.calls a0 t114 _ ?side1 A3.out).mono ?_); (case side1 => exact LaidM.below HT.out (by repeat (first | (with_reducible first | exact HB.out | apply below_alloc | apply pw_below_drewN | apply below_drew1) | exact HB.out))); rintro e w5 ⟨rfl, hb⟩; refine ⟨_, rfl, ?_⟩; have n0_ := Aside0.mk (below_step (by repeat (first | (with_reducible first | exact HB.out | apply below_alloc | apply pw_below_drewN | apply below_drew1) | exact HB.out)) hb); clear HB; have HB := n0_; clear n0_; (try clear hb); (try clear hb2); (try clear hk); (try clear hi)) | ((with_reducible refine gate_callee (f := 23) rfl ?_); refine goesL_ (some 8) rfl rfl Tryd.func23 (by kernel_rfl) rfl #[.string a1] rfl (by (try simp only [List.map_toArray, List.map_cons, List.map_nil]); first | done | rfl | (simp only [List.length_drop, List.length_take]; rfl)) ?_; (with_reducible refine (char_Lower.calls a1 t115 _ ?side1 A4.out).mono ?_); (case side1 => exact LaidM.below HT.out (by repeat (first | (with_reducible first | exact HB.out | apply below_alloc | apply pw_below_drewN | apply below_drew1) | exact HB.out))); rintro e w6 ⟨rfl, hb⟩; refine ⟨_, rfl, ?_⟩; have n0_ := Aside0.mk (below_step (by repeat (first | (with_reducible first | exact HB.out | apply below_alloc | apply pw_below_drewN | apply below_drew1) | exact HB.out)) hb); clear HB; have HB := n0_; clear n0_; (try clear hb); (try clear hb2); (try clear hk); (try clear hi)))
  go_ret
  exact ⟨by first | rfl | (simp [errW_none, errW_some] <;> rfl) | (simp [*, errW_none, errW_some] <;> rfl), by repeat (first | (with_reducible first | exact HB.out | apply below_alloc | apply pw_below_drewN | apply below_drew1) | exact HB.out)⟩

/-! ### char_Number: function 28 -/
def char_Number.f (s : ByteArray) (m : Int) : Option (Int × Bool) := if s.size ≤ 281474976710656 ∧ 0 ≤ m ∧ m < 18446744073709551616 then some (((numV s m.toNat).1 : Nat), (numV s m.toNat).2) else none
theorem char_Number.calls (s : ByteArray) (m : Int) (r1 : Int) (r2 : Bool) (w : World) (hT : LaidM w) (h : char_Number.f s m = some (r1, r2)) :
    Calls Tryd.prog 28 #[.string s, .int .u64 m] w fun e w' => e = .returned (.tuple #[.int .u64 r1, .bool r2]) ∧ Below w.heap.size w w' := by
  replace hT := hT.laid
  unfold char_Number.f at h
  split at h
  · rename_i hc
    obtain ⟨h0, h1, h2⟩ := hc
    simp only [Option.some.injEq, Prod.mk.injEq] at h
    obtain ⟨rfl, rfl⟩ := h
    have := number_any s m.toNat (by omega) w hT h0 _ rfl
    rw [Int.toNat_of_nonneg h1] at this
    exact this
  · cases h

/-! ### strings_Trim: function 57 -/
def strings_Trim.f (s cut : ByteArray) : Option ByteArray := if s.size ≤ 281474976710656 ∧ cut.data.toList = [32, 9] then some ⟨(Lib.trimS s.data.toList [32, 9]).toArray⟩ else none
theorem strings_Trim.calls (s cut : ByteArray) (r : ByteArray) (w : World) (hT : LaidM w) (h : strings_Trim.f s cut = some r) :
    Calls Tryd.prog 57 #[.string s, .string cut] w fun e w' => e = .returned (.string r) ∧ Below w.heap.size w w' := by
  replace hT := hT.laid
  unfold strings_Trim.f at h
  split at h
  · rename_i hc
    injection h with h
    subst h
    obtain rfl : cut = ⟨#[32, 9]⟩ := ByteArray.ext (Array.toList_inj.1 hc.2)
    exact trim_blank s w hc.1
  · cases h

/-! ### strings_Cut: function 63 -/
def strings_Cut.f (s sep : ByteArray) : Option (ByteArray × ByteArray × Bool) := if s.size ≤ 281474976710656 ∧ sep.data.toList.length = 1 then some (⟨(Lib.cut s.data.toList sep.data.toList).1.toArray⟩, ⟨(Lib.cut s.data.toList sep.data.toList).2.1.toArray⟩, (Lib.cut s.data.toList sep.data.toList).2.2) else none
theorem strings_Cut.calls (s sep : ByteArray) (r1 r2 : ByteArray) (r3 : Bool) (w : World) (hT : LaidM w) (h : strings_Cut.f s sep = some (r1, r2, r3)) :
    Calls Tryd.prog 63 #[.string s, .string sep] w fun e w' => e = .returned (.tuple #[.string r1, .string r2, .bool r3]) ∧ Below w.heap.size w w' := by
  replace hT := hT.laid
  unfold strings_Cut.f at h
  split at h
  · rename_i hc
    simp only [Option.some.injEq, Prod.mk.injEq] at h
    obtain ⟨rfl, rfl, rfl⟩ := h
    obtain ⟨c, hl⟩ := List.length_eq_one_iff.1 hc.2
    obtain rfl : sep = ⟨#[c]⟩ := ByteArray.ext (Array.toList_inj.1 hl)
    exact cut_one s c w hc.1
  · cases h

/-! ### http_name: function 92 -/
def http_name.f (s : ByteArray) : Option Bool := some (nameV s)
theorem http_name.calls (s : ByteArray) (r : Bool) (w : World) (hT : LaidM w) (h : http_name.f s = some r) :
    Calls Tryd.prog 92 #[.string s] w fun e w' => e = .returned (.bool r) ∧ Below w.heap.size w w' := by
  obtain rfl := Option.some.inj h
  exact name_any s w

/-! ### strings_ReplaceAll: function 114 -/
def strings_ReplaceAll.f (s old new : ByteArray) : Option ByteArray := if s.size ≤ 140737488355328 ∧ old.data.toList = [9] ∧ new.data.toList = [32] then some ⟨(s.data.toList.map tabC).toArray⟩ else none
theorem strings_ReplaceAll.calls (s old new : ByteArray) (r : ByteArray) (w : World) (hT : LaidM w) (h : strings_ReplaceAll.f s old new = some r) :
    Calls Tryd.prog 114 #[.string s, .string old, .string new] w fun e w' => e = .returned (.string r) ∧ Below w.heap.size w w' := by
  unfold strings_ReplaceAll.f at h
  split at h
  · rename_i hc
    injection h with h
    subst h
    obtain rfl : old = ⟨#[9]⟩ := ByteArray.ext (Array.toList_inj.1 hc.2.1)
    obtain rfl : new = ⟨#[32]⟩ := ByteArray.ext (Array.toList_inj.1 hc.2.2)
    exact replaceAll_tab s w hc.1
  · cases h

/-! ### http_content: function 93 -/
def http_content.f (k : Nat) (a0 : ByteArray) : Option (Bool) := (strings_ReplaceAll.f a0 (⟨#[9]⟩ : ByteArray) (⟨#[32]⟩ : ByteArray)).bind fun t116 => ((http_only.f k t116 32 126).bind fun t117 => (some t117))
theorem http_content.mono : ∀ a0 k, LeO (http_content.f k a0) (http_content.f (k + 1) a0) := by
  intro a0 k
  unfold http_content.f
  repeat' first
      | (with_reducible exact http_only.mono _ _ _ _)
      | (with_reducible exact LeO.refl _)
      | (with_reducible exact LeO.none _)
      | (with_reducible refine LeO.ite ?_ ?_)
      | (with_reducible refine LeO.bind ?_ (fun _ => ?_))
      | exact http_only.mono _ _ _ _
      | exact LeO.none _
      | refine LeO.ite ?_ ?_
      | refine LeO.bind ?_ (fun _ => ?_)
set_option maxHeartbeats 8000000 in
set_option maxRecDepth 100000 in
theorem http_content.calls (k : Nat) (a0 : ByteArray) (r : Bool) (w : World) (hT : LaidM w) (h : http_content.f k a0 = some r) :
    Calls Tryd.prog 93 #[.string a0] w fun e w' => e = .returned (.bool r) ∧ Below w.heap.size w w' := by
  have HB := Aside0.mk (Below.refl w.heap.size w)
  have HT := Aside0.mk hT
  clear hT
  have H : ((strings_ReplaceAll.f a0 (⟨#[9]⟩ : ByteArray) (⟨#[32]⟩ : ByteArray)).bind fun t116 => ((http_only.f k t116 32 126).bind fun t117 => (some t117))) = some r := h
  clear h
  replace H := Option.bind_eq_some_iff.mp H
  obtain ⟨t116, A20, H⟩ := H
  replace H : ((http_only.f k t116 32 126).bind fun t117 => (some t117)) = some r := H
  have A2 := Aside0.mk A20
  clear A20
  replace H := Option.bind_eq_some_iff.mp H
  obtain ⟨t117, A30, H⟩ := H
  replace H : (some t117) = some r := H
  have A3 := Aside0.mk A30
  clear A30
  obtain rfl := Option.some.inj H
  go_enter Tryd.func93, Tryd.ntmps93
  go_wp2_with (first | ((with_reducible refine gate_callee (f := 114) rfl ?_); refine goesL_ (some 4) rfl rfl Tryd.func114 (by kernel_rfl) rfl #[.string a0, .string (⟨#[9]⟩ : ByteArray), .string (⟨#[32]⟩ : ByteArray)] rfl (by (try simp only [List.map_toArray, List.map_cons, List.map_nil]); first | done | rfl | (simp only [List.length_drop, List.length_take]; rfl)) ?_; (with_reducible refine (strings_ReplaceAll.calls a0 (⟨#[9]⟩ : ByteArray) (⟨#[32]⟩ : ByteArray) t116 _ ?side1 A2.out).mono ?_); (case side1 => exact LaidM.below HT.out (by repeat (first | (with_reducible first | exact HB.out | apply below_alloc | apply pw_below_drewN | apply below_drew1) | exact HB.out))); rintro e w4 ⟨rfl, hb⟩; refine ⟨_, rfl, ?_⟩; have n0_ := Aside0.mk (below_step (by repeat (first | (with_reducible first | exact HB.out | apply below_alloc | apply pw_below_drewN | apply below_drew1) | exact HB.out)) hb); clear HB; have HB := n0_; clear n0_; (try clear hb); (try clear hb2); (try clear hk); (try clear hi)) | ((with_reducible refine gate_callee (f := 91) rfl ?_); refine goesL_ (some 5) rfl rfl Tryd.func91 (by kernel_rfl) rfl #[.string t116, .int .u8 32, .int .u8 126] rfl (by (try simp only [List.map_toArray, List.map_cons, List.map_nil]); first | done | rfl | (simp only [List.length_drop, List.length_take]; rfl)) ?_; (with_reducible refine (http_only.calls k t116 32 126 t117 _ A3.out).mono ?_); rintro e w' ⟨rfl, ⟨nd, rfl⟩⟩; refine ⟨_, rfl, ?_⟩))
  go_ret
  exact ⟨by first | rfl | (simp [errW_none, errW_some] <;> rfl) | (simp [*, errW_none, errW_some] <;> rfl), by repeat (first | (with_reducible first | exact HB.out | apply below_alloc | apply pw_below_drewN | apply below_drew1) | exact HB.out)⟩

end Go.Proofs.YtpedfpeokedelaaDoor.XHttpFields
