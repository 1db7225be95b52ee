-- written by wip/xprint.py: the kit's print with functions walked by hand
import Derived.Test.YtpedfpeokedelaaDoorXHttpFieldsx0
import Derived.Test.YtpedfpeokedelaaDoorXHttpFieldsx2
import Derived.Test.YtpedfpeokedelaaDoorXHttpFieldsx4
import Derived.Test.YtpedfpeokedelaaDoorXHttpFieldsx6
namespace Go.Proofs.YtpedfpeokedelaaDoor.XHttpFields
open Go.RowKit Go.Proofs.YtpedfpeokedelaaDoorW.PrintWords Go.Proofs.YtpedfpeokedelaaDoorW.PrintLast Go.Proofs.YtpedfpeokedelaaDoorW.PrintMore
attribute [local go_sem] max2_int min2_int max_two min_two max_three min_three max_four min_four   -- for this text's walks alone
set_option linter.unusedVariables false
set_option linter.unusedSimpArgs false

/-! ### calepinlaw08_HttpFields: function 18 -/
mutual
def calepinlaw08_HttpFields.j0 : Nat → Int → List Int → Bool → ByteArray → ByteArray → List (S74) → ByteArray → Option (Bool)
  | 0, _, _, _, _, _, _, _ => none
  | k + 1, x1, x2, x36, x204000, x204001, x204002, x204003 => if x36 = true then (some true) else (if x204000.size + 1 ≤ 9223372036854775807 then (if (x204000 ++ (⟨#[32]⟩ : ByteArray)).size + x204001.size ≤ 9223372036854775807 then (if ((x204000 ++ (⟨#[32]⟩ : ByteArray)) ++ x204001).size + 11 ≤ 9223372036854775807 then (if (IntKind.u64.wrap (wrap64 ((x204002.length : Int) + 1))) = 0 then (none) else (calepinlaw08_HttpFields.l0 k x2 (((x204000 ++ (⟨#[32]⟩ : ByteArray)) ++ x204001) ++ (⟨#[32, 72, 84, 84, 80, 47, 49, 46, 49, 13, 10]⟩ : ByteArray)) (wrap64 (Int.tmod (IntKind.u64.wrap (x1)) (IntKind.u64.wrap (wrap64 ((x204002.length : Int) + 1))))) 0 x204000 x204001 x204002 x204003)) else (none)) else (none)) else (none))
def calepinlaw08_HttpFields.j4 : Nat → ByteArray → ByteArray → ByteArray → List (S74) → ByteArray → Option (Bool)
  | 0, _, _, _, _, _ => none
  | k + 1, x9, x204000, x204001, x204002, x204003 => if 2 + x204003.size ≤ 9223372036854775807 then (if x9.size + ((⟨#[13, 10]⟩ : ByteArray) ++ x204003).size ≤ 9223372036854775807 then ((http_ParseRequest.f k (x9 ++ ((⟨#[13, 10]⟩ : ByteArray) ++ x204003))).bind fun bt215 => (if (wrap64 (((x9 ++ ((⟨#[13, 10]⟩ : ByteArray) ++ x204003)).size : Int) - (x204003.size : Int))) > 8192 then (some true) else (if bt215.2.2.2.2.2 = 0 then (if bt215.2.2.2.2.1 = ((x9 ++ ((⟨#[13, 10]⟩ : ByteArray) ++ x204003)).size : Int) then (if bt215.2.2.2.1.toList = x204003.toList then ((calepinref08_Same.f k bt215.2.2.1 x204002).bind fun t224 => (some t224)) else (some false)) else (some false)) else (some false)))) else (none)) else (none)
def calepinlaw08_HttpFields.l0 : Nat → List Int → ByteArray → Int → Int → ByteArray → ByteArray → List (S74) → ByteArray → Option (Bool)
  | 0, _, _, _, _, _, _, _, _ => none
  | k + 1, x2, x9, x10, x11, x204000, x204001, x204002, x204003 => if x11 ≤ (x204002.length : Int) then (if x11 = x10 then ((calepinref01_Decimal.f k (IntKind.u64.wrap ((x204003.size : Int)))).bind fun t207 => (if 15 + t207.size ≤ 9223372036854775807 then (if ((⟨#[99, 111, 110, 116, 101, 110, 116, 45, 76, 69, 78, 71, 84, 72, 58]⟩ : ByteArray) ++ t207).size + 2 ≤ 9223372036854775807 then (if x9.size + (((⟨#[99, 111, 110, 116, 101, 110, 116, 45, 76, 69, 78, 71, 84, 72, 58]⟩ : ByteArray) ++ t207) ++ (⟨#[13, 10]⟩ : ByteArray)).size ≤ 9223372036854775807 then (calepinlaw08_HttpFields.j2 k x2 (x9 ++ (((⟨#[99, 111, 110, 116, 101, 110, 116, 45, 76, 69, 78, 71, 84, 72, 58]⟩ : ByteArray) ++ t207) ++ (⟨#[13, 10]⟩ : ByteArray))) x10 x11 x204000 x204001 x204002 x204003) else (none)) else (none)) else (none))) else (calepinlaw08_HttpFields.j2 k x2 x9 x10 x11 x204000 x204001 x204002 x204003)) else (calepinlaw08_HttpFields.j4 k x9 x204000 x204001 x204002 x204003)
def calepinlaw08_HttpFields.j2 : Nat → List Int → ByteArray → Int → Int → ByteArray → ByteArray → List (S74) → ByteArray → Option (Bool)
  | 0, _, _, _, _, _, _, _, _ => none
  | k + 1, x2, x9, x10, x11, x204000, x204001, x204002, x204003 => if x11 = (x204002.length : Int) then (calepinlaw08_HttpFields.j4 k x9 x204000 x204001 x204002 x204003) else (if 0 ≤ x11 then (if x11 < (x204002.length : Int) then (if ((rd_T74 x204002 x11).f0).size + 1 ≤ 9223372036854775807 then (if x9.size + (((rd_T74 x204002 x11).f0) ++ (⟨#[58]⟩ : ByteArray)).size ≤ 9223372036854775807 then (calepinlaw08_HttpFields.l1 k x2 (x9 ++ (((rd_T74 x204002 x11).f0) ++ (⟨#[58]⟩ : ByteArray))) x10 x11 x2 (x2.length : Int) 0 x204000 x204001 x204002 x204003) else (none)) else (none)) else (none)) else (none))
def calepinlaw08_HttpFields.l1 : Nat → List Int → ByteArray → Int → Int → List Int → Int → Int → ByteArray → ByteArray → List (S74) → ByteArray → Option (Bool)
  | 0, _, _, _, _, _, _, _, _, _, _, _ => none
  | k + 1, x2, x9, x10, x11, x86, x87, x88, x204000, x204001, x204002, x204003 => if x88 < x87 then (if 0 ≤ x88 then (if x88 < (x86.length : Int) then ((some (([(⟨#[32]⟩ : ByteArray), (⟨#[9]⟩ : ByteArray)] : List ByteArray) : List ByteArray)).bind fun y210 => (if 0 ≤ (Int.tmod (rd x86 x88) 2) then (if (Int.tmod (rd x86 x88) 2) < (y210.length : Int) then (if x9.size + (rdOf ByteArray.empty y210 (Int.tmod (rd x86 x88) 2)).size ≤ 9223372036854775807 then (calepinlaw08_HttpFields.l1 k x2 (x9 ++ (rdOf ByteArray.empty y210 (Int.tmod (rd x86 x88) 2))) x10 x11 x86 x87 (wrap64 (x88 + 1)) x204000 x204001 x204002 x204003) else (none)) else (none)) else (none))) else (none)) else (none)) else (if 0 ≤ x11 then (if x11 < (x204002.length : Int) then (if ((rd_T74 x204002 x11).f1).size + 3 ≤ 9223372036854775807 then (if x9.size + (((rd_T74 x204002 x11).f1) ++ (⟨#[32, 13, 10]⟩ : ByteArray)).size ≤ 9223372036854775807 then (calepinlaw08_HttpFields.l0 k x2 (x9 ++ (((rd_T74 x204002 x11).f1) ++ (⟨#[32, 13, 10]⟩ : ByteArray))) x10 (wrap64 (x11 + 1)) x204000 x204001 x204002 x204003) else (none)) else (none)) else (none)) else (none))
end
def calepinlaw08_HttpFields.f (k : Nat) (a0_0 : ByteArray) (a0_1 : ByteArray) (l0_2 : List (S74)) (a0_3 : ByteArray) (a1 : Int) (l2 : List Int) : Option (Bool) := (calepinlaw08_first.f k).bind fun t204 => (if t204 = true then ((http_PrintRequest.f k a0_0 a0_1 l0_2 a0_3).bind fun bt205 => (if bt205.2 = 0 then (if (l2.length : Int) > 50 then (calepinlaw08_HttpFields.j0 k a1 l2 true a0_0 a0_1 l0_2 a0_3) else (calepinlaw08_HttpFields.j0 k a1 l2 (decide ((a0_3.size : Int) > 5000)) a0_0 a0_1 l0_2 a0_3)) else (calepinlaw08_HttpFields.j0 k a1 l2 true a0_0 a0_1 l0_2 a0_3))) else (some false))
theorem calepinlaw08_HttpFields.mono_l : ∀ k, (∀ y0 y1 y2 y3 y4 y5 y6, LeO (calepinlaw08_HttpFields.j0 k y0 y1 y2 y3 y4 y5 y6) (calepinlaw08_HttpFields.j0 (k + 1) y0 y1 y2 y3 y4 y5 y6)) ∧ (∀ y0 y1 y2 y3 y4, LeO (calepinlaw08_HttpFields.j4 k y0 y1 y2 y3 y4) (calepinlaw08_HttpFields.j4 (k + 1) y0 y1 y2 y3 y4)) ∧ (∀ y0 y1 y2 y3 y4 y5 y6 y7, LeO (calepinlaw08_HttpFields.l0 k y0 y1 y2 y3 y4 y5 y6 y7) (calepinlaw08_HttpFields.l0 (k + 1) y0 y1 y2 y3 y4 y5 y6 y7)) ∧ (∀ y0 y1 y2 y3 y4 y5 y6 y7, LeO (calepinlaw08_HttpFields.j2 k y0 y1 y2 y3 y4 y5 y6 y7) (calepinlaw08_HttpFields.j2 (k + 1) y0 y1 y2 y3 y4 y5 y6 y7)) ∧ (∀ y0 y1 y2 y3 y4 y5 y6 y7 y8 y9 y10, LeO (calepinlaw08_HttpFields.l1 k y0 y1 y2 y3 y4 y5 y6 y7 y8 y9 y10) (calepinlaw08_HttpFields.l1 (k + 1) y0 y1 y2 y3 y4 y5 y6 y7 y8 y9 y10))
  | 0 => ⟨fun _ _ _ _ _ _ _ r h => by simp [calepinlaw08_HttpFields.j0] at h, fun _ _ _ _ _ r h => by simp [calepinlaw08_HttpFields.j4] at h, fun _ _ _ _ _ _ _ _ r h => by simp [calepinlaw08_HttpFields.l0] at h, fun _ _ _ _ _ _ _ _ r h => by simp [calepinlaw08_HttpFields.j2] at h, fun _ _ _ _ _ _ _ _ _ _ _ r h => by simp [calepinlaw08_HttpFields.l1] at h⟩
  | k + 1 => by
    obtain ⟨ih0, ih1, ih2, ih3, ih4⟩ := calepinlaw08_HttpFields.mono_l k
    refine ⟨?_, ?_, ?_, ?_, ?_⟩
    · intro y0 y1 y2 y3 y4 y5 y6
      unfold calepinlaw08_HttpFields.j0
      repeat' first
      | (with_reducible exact ih0 _ _ _ _ _ _ _)
      | (with_reducible exact ih1 _ _ _ _ _)
      | (with_reducible exact ih2 _ _ _ _ _ _ _ _)
      | (with_reducible exact ih3 _ _ _ _ _ _ _ _)
      | (with_reducible exact ih4 _ _ _ _ _ _ _ _ _ _ _)
      | (with_reducible exact calepinlaw08_first.mono _)
      | (with_reducible exact calepinref01_Decimal.mono _ _)
      | (with_reducible exact calepinref08_Same.mono _ _ _)
      | (with_reducible exact http_ParseRequest.mono _ _)
      | (with_reducible exact http_PrintRequest.mono _ _ _ _ _)
      | (with_reducible exact LeO.refl _)
      | (with_reducible exact LeO.none _)
      | (with_reducible refine LeO.ite ?_ ?_)
      | (with_reducible refine LeO.bind ?_ (fun _ => ?_))
      | exact ih0 _ _ _ _ _ _ _
      | exact ih1 _ _ _ _ _
      | exact ih2 _ _ _ _ _ _ _ _
      | exact ih3 _ _ _ _ _ _ _ _
      | exact ih4 _ _ _ _ _ _ _ _ _ _ _
      | exact calepinlaw08_first.mono _
      | exact calepinref01_Decimal.mono _ _
      | exact calepinref08_Same.mono _ _ _
      | exact http_ParseRequest.mono _ _
      | exact http_PrintRequest.mono _ _ _ _ _
      | exact LeO.none _
      | refine LeO.ite ?_ ?_
      | refine LeO.bind ?_ (fun _ => ?_)
    · intro y0 y1 y2 y3 y4
      unfold calepinlaw08_HttpFields.j4
      repeat' first
      | (with_reducible exact ih0 _ _ _ _ _ _ _)
      | (with_reducible exact ih1 _ _ _ _ _)
      | (with_reducible exact ih2 _ _ _ _ _ _ _ _)
      | (with_reducible exact ih3 _ _ _ _ _ _ _ _)
      | (with_reducible exact ih4 _ _ _ _ _ _ _ _ _ _ _)
      | (with_reducible exact calepinlaw08_first.mono _)
      | (with_reducible exact calepinref01_Decimal.mono _ _)
      | (with_reducible exact calepinref08_Same.mono _ _ _)
      | (with_reducible exact http_ParseRequest.mono _ _)
      | (with_reducible exact http_PrintRequest.mono _ _ _ _ _)
      | (with_reducible exact LeO.refl _)
      | (with_reducible exact LeO.none _)
      | (with_reducible refine LeO.ite ?_ ?_)
      | (with_reducible refine LeO.bind ?_ (fun _ => ?_))
      | exact ih0 _ _ _ _ _ _ _
      | exact ih1 _ _ _ _ _
      | exact ih2 _ _ _ _ _ _ _ _
      | exact ih3 _ _ _ _ _ _ _ _
      | exact ih4 _ _ _ _ _ _ _ _ _ _ _
      | exact calepinlaw08_first.mono _
      | exact calepinref01_Decimal.mono _ _
      | exact calepinref08_Same.mono _ _ _
      | exact http_ParseRequest.mono _ _
      | exact http_PrintRequest.mono _ _ _ _ _
      | exact LeO.none _
      | refine LeO.ite ?_ ?_
      | refine LeO.bind ?_ (fun _ => ?_)
    · intro y0 y1 y2 y3 y4 y5 y6 y7
      unfold calepinlaw08_HttpFields.l0
      repeat' first
      | (with_reducible exact ih0 _ _ _ _ _ _ _)
      | (with_reducible exact ih1 _ _ _ _ _)
      | (with_reducible exact ih2 _ _ _ _ _ _ _ _)
      | (with_reducible exact ih3 _ _ _ _ _ _ _ _)
      | (with_reducible exact ih4 _ _ _ _ _ _ _ _ _ _ _)
      | (with_reducible exact calepinlaw08_first.mono _)
      | (with_reducible exact calepinref01_Decimal.mono _ _)
      | (with_reducible exact calepinref08_Same.mono _ _ _)
      | (with_reducible exact http_ParseRequest.mono _ _)
      | (with_reducible exact http_PrintRequest.mono _ _ _ _ _)
      | (with_reducible exact LeO.refl _)
      | (with_reducible exact LeO.none _)
      | (with_reducible refine LeO.ite ?_ ?_)
      | (with_reducible refine LeO.bind ?_ (fun _ => ?_))
      | exact ih0 _ _ _ _ _ _ _
      | exact ih1 _ _ _ _ _
      | exact ih2 _ _ _ _ _ _ _ _
      | exact ih3 _ _ _ _ _ _ _ _
      | exact ih4 _ _ _ _ _ _ _ _ _ _ _
      | exact calepinlaw08_first.mono _
      | exact calepinref01_Decimal.mono _ _
      | exact calepinref08_Same.mono _ _ _
      | exact http_ParseRequest.mono _ _
      | exact http_PrintRequest.mono _ _ _ _ _
      | exact LeO.none _
      | refine LeO.ite ?_ ?_
      | refine LeO.bind ?_ (fun _ => ?_)
    · intro y0 y1 y2 y3 y4 y5 y6 y7
      unfold calepinlaw08_HttpFields.j2
      repeat' first
      | (with_reducible exact ih0 _ _ _ _ _ _ _)
      | (with_reducible exact ih1 _ _ _ _ _)
      | (with_reducible exact ih2 _ _ _ _ _ _ _ _)
      | (with_reducible exact ih3 _ _ _ _ _ _ _ _)
      | (with_reducible exact ih4 _ _ _ _ _ _ _ _ _ _ _)
      | (with_reducible exact calepinlaw08_first.mono _)
      | (with_reducible exact calepinref01_Decimal.mono _ _)
      | (with_reducible exact calepinref08_Same.mono _ _ _)
      | (with_reducible exact http_ParseRequest.mono _ _)
      | (with_reducible exact http_PrintRequest.mono _ _ _ _ _)
      | (with_reducible exact LeO.refl _)
      | (with_reducible exact LeO.none _)
      | (with_reducible refine LeO.ite ?_ ?_)
      | (with_reducible refine LeO.bind ?_ (fun _ => ?_))
      | exact ih0 _ _ _ _ _ _ _
      | exact ih1 _ _ _ _ _
      | exact ih2 _ _ _ _ _ _ _ _
      | exact ih3 _ _ _ _ _ _ _ _
      | exact ih4 _ _ _ _ _ _ _ _ _ _ _
      | exact calepinlaw08_first.mono _
      | exact calepinref01_Decimal.mono _ _
      | exact calepinref08_Same.mono _ _ _
      | exact http_ParseRequest.mono _ _
      | exact http_PrintRequest.mono _ _ _ _ _
      | exact LeO.none _
      | refine LeO.ite ?_ ?_
      | refine LeO.bind ?_ (fun _ => ?_)
    · intro y0 y1 y2 y3 y4 y5 y6 y7 y8 y9 y10
      unfold calepinlaw08_HttpFields.l1
      repeat' first
      | (with_reducible exact ih0 _ _ _ _ _ _ _)
      | (with_reducible exact ih1 _ _ _ _ _)
      | (with_reducible exact ih2 _ _ _ _ _ _ _ _)
      | (with_reducible exact ih3 _ _ _ _ _ _ _ _)
      | (with_reducible exact ih4 _ _ _ _ _ _ _ _ _ _ _)
      | (with_reducible exact calepinlaw08_first.mono _)
      | (with_reducible exact calepinref01_Decimal.mono _ _)
      | (with_reducible exact calepinref08_Same.mono _ _ _)
      | (with_reducible exact http_ParseRequest.mono _ _)
      | (with_reducible exact http_PrintRequest.mono _ _ _ _ _)
      | (with_reducible exact LeO.refl _)
      | (with_reducible exact LeO.none _)
      | (with_reducible refine LeO.ite ?_ ?_)
      | (with_reducible refine LeO.bind ?_ (fun _ => ?_))
      | exact ih0 _ _ _ _ _ _ _
      | exact ih1 _ _ _ _ _
      | exact ih2 _ _ _ _ _ _ _ _
      | exact ih3 _ _ _ _ _ _ _ _
      | exact ih4 _ _ _ _ _ _ _ _ _ _ _
      | exact calepinlaw08_first.mono _
      | exact calepinref01_Decimal.mono _ _
      | exact calepinref08_Same.mono _ _ _
      | exact http_ParseRequest.mono _ _
      | exact http_PrintRequest.mono _ _ _ _ _
      | exact LeO.none _
      | refine LeO.ite ?_ ?_
      | refine LeO.bind ?_ (fun _ => ?_)
theorem calepinlaw08_HttpFields.mono : ∀ a0 a1 a2 a3 a4 a5 k, LeO (calepinlaw08_HttpFields.f k a0 a1 a2 a3 a4 a5) (calepinlaw08_HttpFields.f (k + 1) a0 a1 a2 a3 a4 a5) := by
  intro a0 a1 a2 a3 a4 a5 k
  obtain ⟨ih0, ih1, ih2, ih3, ih4⟩ := calepinlaw08_HttpFields.mono_l k
  unfold calepinlaw08_HttpFields.f
  repeat' first
      | (with_reducible exact ih0 _ _ _ _ _ _ _)
      | (with_reducible exact ih1 _ _ _ _ _)
      | (with_reducible exact ih2 _ _ _ _ _ _ _ _)
      | (with_reducible exact ih3 _ _ _ _ _ _ _ _)
      | (with_reducible exact ih4 _ _ _ _ _ _ _ _ _ _ _)
      | (with_reducible exact calepinlaw08_first.mono _)
      | (with_reducible exact calepinref01_Decimal.mono _ _)
      | (with_reducible exact calepinref08_Same.mono _ _ _)
      | (with_reducible exact http_ParseRequest.mono _ _)
      | (with_reducible exact http_PrintRequest.mono _ _ _ _ _)
      | (with_reducible exact LeO.refl _)
      | (with_reducible exact LeO.none _)
      | (with_reducible refine LeO.ite ?_ ?_)
      | (with_reducible refine LeO.bind ?_ (fun _ => ?_))
      | exact ih0 _ _ _ _ _ _ _
      | exact ih1 _ _ _ _ _
      | exact ih2 _ _ _ _ _ _ _ _
      | exact ih3 _ _ _ _ _ _ _ _
      | exact ih4 _ _ _ _ _ _ _ _ _ _ _
      | exact calepinlaw08_first.mono _
      | exact calepinref01_Decimal.mono _ _
      | exact calepinref08_Same.mono _ _ _
      | exact http_ParseRequest.mono _ _
      | exact http_PrintRequest.mono _ _ _ _ _
      | exact LeO.none _
      | refine LeO.ite ?_ ?_
      | refine LeO.bind ?_ (fun _ => ?_)
set_option maxHeartbeats 8000000 in
set_option maxRecDepth 100000 in
theorem calepinlaw08_HttpFields.calls (k : Nat) (a0_0 : ByteArray) (a0_1 : ByteArray) (A0_2 : Option Addr) (c0_2 : Nat) (l0_2 : List (S74)) (a0_3 : ByteArray) (a1 : Int) (A2 : Option Addr) (c2 : Nat) (l2 : List Int) (r : Bool) (w : World) (hr0_2 : Kd.C k74 w A0_2 l0_2.length l0_2) (hc0_2 : l0_2.length ≤ c0_2) (hr2 : Kd.C (Kd.int .u8) w A2 l2.length l2) (hc2 : l2.length ≤ c2) (hT : LaidM w) (h : calepinlaw08_HttpFields.f k a0_0 a0_1 l0_2 a0_3 a1 l2 = some r) :
    Calls Tryd.prog 18 #[.agg #[.string a0_0, .string a0_1, .slice A0_2 l0_2.length c0_2, .string a0_3], .int .i64 a1, .slice A2 l2.length c2] w fun e w' => e = .returned (.bool r) ∧ Below w.heap.size w w' := by
  have hu65 := Tryd.underlying65
  have HR0_2 := Aside0.mk hr0_2
  have HC0_2 := Aside0.mk hc0_2
  clear hr0_2 hc0_2
  have HR2 := Aside0.mk hr2
  have HC2 := Aside0.mk hc2
  clear hr2 hc2
  have HB := Aside0.mk (Below.refl w.heap.size w)
  have HT := Aside0.mk hT
  clear hT
  have H : ((calepinlaw08_first.f k).bind fun t204 => (if t204 = true then ((http_PrintRequest.f k a0_0 a0_1 l0_2 a0_3).bind fun bt205 => (if bt205.2 = 0 then (if (l2.length : Int) > 50 then (calepinlaw08_HttpFields.j0 k a1 l2 true a0_0 a0_1 l0_2 a0_3) else (calepinlaw08_HttpFields.j0 k a1 l2 (decide ((a0_3.size : Int) > 5000)) a0_0 a0_1 l0_2 a0_3)) else (calepinlaw08_HttpFields.j0 k a1 l2 true a0_0 a0_1 l0_2 a0_3))) else (some false))) = some r := h
  clear h
  replace H := Option.bind_eq_some_iff.mp H
  obtain ⟨t204, A40, H⟩ := H
  replace H : (if t204 = true then ((http_PrintRequest.f k a0_0 a0_1 l0_2 a0_3).bind fun bt205 => (if bt205.2 = 0 then (if (l2.length : Int) > 50 then (calepinlaw08_HttpFields.j0 k a1 l2 true a0_0 a0_1 l0_2 a0_3) else (calepinlaw08_HttpFields.j0 k a1 l2 (decide ((a0_3.size : Int) > 5000)) a0_0 a0_1 l0_2 a0_3)) else (calepinlaw08_HttpFields.j0 k a1 l2 true a0_0 a0_1 l0_2 a0_3))) else (some false)) = some r := H
  have A4 := Aside0.mk A40
  clear A40
  by_cases c5 : t204 = true
  · subst c5
    have H1 : ((http_PrintRequest.f k a0_0 a0_1 l0_2 a0_3).bind fun bt205 => (if bt205.2 = 0 then (if (l2.length : Int) > 50 then (calepinlaw08_HttpFields.j0 k a1 l2 true a0_0 a0_1 l0_2 a0_3) else (calepinlaw08_HttpFields.j0 k a1 l2 (decide ((a0_3.size : Int) > 5000)) a0_0 a0_1 l0_2 a0_3)) else (calepinlaw08_HttpFields.j0 k a1 l2 true a0_0 a0_1 l0_2 a0_3))) = some r := by rw [if_pos rfl] at H; exact H
    clear H
    have H := H1
    clear H1
    replace H := Option.bind_eq_some_iff.mp H
    obtain ⟨⟨t205, t206⟩, A60, H⟩ := H
    replace H : (if t206 = 0 then (if (l2.length : Int) > 50 then (calepinlaw08_HttpFields.j0 k a1 l2 true a0_0 a0_1 l0_2 a0_3) else (calepinlaw08_HttpFields.j0 k a1 l2 (decide ((a0_3.size : Int) > 5000)) a0_0 a0_1 l0_2 a0_3)) else (calepinlaw08_HttpFields.j0 k a1 l2 true a0_0 a0_1 l0_2 a0_3)) = some r := H
    have A6 := Aside0.mk A60
    clear A60
    have HC7 := Aside0.mk H
    clear H
    go_enter Tryd.func18, Tryd.ntmps18
    go_upto_region 4 with (first | ((with_reducible refine gate_dst (N := 3) rfl ?_); (try (refine gate_guard (by rfl) ?_; dsimp only)); refine box_event ?hg (N := 3) ?hd (cs := #[.string a0_0, .string a0_1, .slice A0_2 l0_2.length c0_2, .string a0_3]) (t := 65) ?hr ?_; (case hd => rfl); (case hg => rfl); (case hr => first | (go_simp; done) | (go_simp; rfl)); intro gb203 hg w8 hbox hb; have n0_ := Aside0.mk (below_step (by repeat (first | (with_reducible first | exact HB.out | apply below_alloc | apply pw_below_drewN | apply below_drew1) | exact HB.out)) hb); have n1_ := Aside0.mk (hbox); have n2_ := Aside0.mk ((by rw [hg]; exact (below_size (by repeat (first | (with_reducible first | exact HB.out | apply below_alloc | apply pw_below_drewN | apply below_drew1) | exact HB.out))) : w.heap.size ≤ gb203)); have n3_ := Aside0.mk ((by rw [hg]; exact (below_size (by repeat (first | (with_reducible first | exact HB.out | apply below_alloc | apply pw_below_drewN | apply below_drew1) | exact HB.out))) : w.heap.size ≤ gb203)); clear HB; have HB := n0_; have BK203 := n1_; have GW203 := n2_; have GE203 := n3_; clear n0_ n1_ n2_ n3_; clear hb hbox hg) | ((with_reducible refine gate_callee (f := 47) rfl ?_); refine goesL_ (some 17) rfl rfl Tryd.func47 (by kernel_rfl) rfl #[] rfl (by (try simp only [List.map_toArray, List.map_cons, List.map_nil]); first | done | rfl | (simp only [List.length_drop, List.length_take]; rfl)) ?_; (with_reducible refine (calepinlaw08_first.calls k  true _ ?side1 A4.out).mono ?_); (case side1 => exact LaidM.below HT.out (by repeat (first | (with_reducible first | exact HB.out | apply below_alloc | apply pw_below_drewN | apply below_drew1 | refine below_set ?_ GE203.out) | exact HB.out))); rintro e w9 ⟨rfl, hb⟩; refine ⟨_, rfl, ?_⟩; have n0_ := Aside0.mk (blk_below (g := gb203) (o := .cells #[.string a0_0, .string a0_1, .slice A0_2 l0_2.length c0_2, .string a0_3] 65 (0, 0)) (by (with_reducible repeat (first | refine blk_drewN ?_ _ | refine blk_drew ?_ | refine blk_alloc ?_ _)); exact BK203.out) hb); have n1_ := Aside0.mk (below_step (by repeat (first | (with_reducible first | exact HB.out | apply below_alloc | apply pw_below_drewN | apply below_drew1 | refine below_set ?_ GE203.out) | exact HB.out)) hb); clear BK203; clear HB; have BK203 := n0_; have HB := n1_; clear n0_ n1_; (try clear hb); (try clear hb2); (try clear hk); (try clear hi); have hcz10_0 : w9.cell? ⟨gb203, 0, none⟩ = some (.string a0_0) := (blk_cell BK203.out 0).trans rfl; have hcz10_1 : w9.cell? ⟨gb203, 1, none⟩ = some (.string a0_1) := (blk_cell BK203.out 1).trans rfl; have hcz10_2 : w9.cell? ⟨gb203, 2, none⟩ = some (.slice A0_2 l0_2.length c0_2) := (blk_cell BK203.out 2).trans rfl; have hcz10_3 : w9.cell? ⟨gb203, 3, none⟩ = some (.string a0_3) := (blk_cell BK203.out 3).trans rfl; have hfz10_0 := blk_frozen BK203.out 0; have hfz10_1 := blk_frozen BK203.out 1; have hfz10_2 := blk_frozen BK203.out 2; have hfz10_3 := blk_frozen BK203.out 3) | ((with_reducible refine gate_callee (f := 49) rfl ?_); refine goesL_ (some 21) rfl rfl Tryd.func49 (by kernel_rfl) rfl #[.agg #[.string a0_0, .string a0_1, .slice A0_2 l0_2.length c0_2, .string a0_3]] rfl (by (try simp only [List.map_toArray, List.map_cons, List.map_nil]); first | done | rfl | (simp only [List.length_drop, List.length_take]; rfl)) ?_; (with_reducible refine (http_PrintRequest.calls k a0_0 a0_1 _ _ l0_2 a0_3 t205 t206 _ ?side1 ?side2 ?side3 A6.out).mono ?_); (case side1 => repeat (first | exact (Kd.C_below HR0_2.out HB.out) | (with_reducible refine Kd.C_alloc ?_ _) | (with_reducible refine Kd.C_drewN ?_ _) | (with_reducible refine Kd.C_drew ?_))); (case side2 => exact HC0_2.out); (case side3 => exact LaidM.below HT.out (by repeat (first | (with_reducible first | exact HB.out | apply below_alloc | apply pw_below_drewN | apply below_drew1 | refine below_set ?_ GE203.out) | exact HB.out))); rintro e w11 ⟨rfl, hb⟩; refine ⟨_, rfl, ?_⟩; have n0_ := Aside0.mk (blk_below (g := gb203) (o := .cells #[.string a0_0, .string a0_1, .slice A0_2 l0_2.length c0_2, .string a0_3] 65 (0, 0)) (by (with_reducible repeat (first | refine blk_drewN ?_ _ | refine blk_drew ?_ | refine blk_alloc ?_ _)); exact BK203.out) hb); have n1_ := Aside0.mk (below_step (by repeat (first | (with_reducible first | exact HB.out | apply below_alloc | apply pw_below_drewN | apply below_drew1 | refine below_set ?_ GE203.out) | exact HB.out)) hb); clear BK203; clear HB; have BK203 := n0_; have HB := n1_; clear n0_ n1_; (try clear hb); (try clear hb2); (try clear hk); (try clear hi)))
    (try simp only [Act.put, List.setIfInBounds_toArray, List.set_cons_zero, List.set_cons_succ])
    go_cut [36] (fun v36 wc => ∃ (kq : Nat) (x36_6 : Bool), v36 = .bool x36_6 ∧ Aside0 (calepinlaw08_HttpFields.j0 kq a1 l2 x36_6 a0_0 a0_1 l0_2 a0_3 = some r) ∧ Aside0 (kq ≤ k) ∧ Aside0 (wc.heap[gb203]? = some (.cells #[.string a0_0, .string a0_1, (.slice A0_2 l0_2.length c0_2), .string a0_3] 65 (0, 0))) ∧ Aside0 (Below w.heap.size w wc))
    case first =>
      have H := HC7.out
      clear HC7
      by_cases c12 : t206 = 0
      · rw [if_pos c12] at H
        have c12b0 : (t206 == 0) = true := beq_iff_eq.mpr c12
        have c12b1 : (t206 != 0) = false := bne_eq_false_iff_eq.mpr c12
        clear c12
        (first | rw [c12b0] | rw [c12b1] | (simp only [i64_w, i32_w]; rw [c12b0]) | skip)
        by_cases c13 : (l2.length : Int) > 50
        · rw [if_pos c13] at H
          have c13b0 : decide (50 < (l2.length : Int)) = true := decide_eq_true c13
          have c13b1 : decide (50 < l2.length) = true := decide_eq_true (by omega)
          clear c13
          have H' := Aside0.mk H
          clear H
          go_wp2
          go_meet
          case rel => exact ⟨_, (true), (by first | rfl | (simp; done) | (simp [*]; done)), H', ⟨by first | omega | exact Nat.le_refl _⟩, ⟨by (with_reducible repeat (first | refine blk_drewN ?_ _ | refine blk_drew ?_ | refine blk_alloc ?_ _)); exact BK203.out⟩, ⟨by repeat (first | (with_reducible first | exact HB.out | apply below_alloc | apply pw_below_drewN | apply below_drew1 | refine below_set ?_ GE203.out) | exact HB.out)⟩⟩
        · rw [if_neg c13] at H
          have c13b0 : decide (50 < (l2.length : Int)) = false := decide_eq_false c13
          have c13b1 : decide (50 < l2.length) = false := decide_eq_false (by omega)
          clear c13
          have H' := Aside0.mk H
          clear H
          have hcz14_0 : w11.cell? ⟨gb203, 0, none⟩ = some (.string a0_0) := (blk_cell BK203.out 0).trans rfl
          have hcz14_1 : w11.cell? ⟨gb203, 1, none⟩ = some (.string a0_1) := (blk_cell BK203.out 1).trans rfl
          have hcz14_2 : w11.cell? ⟨gb203, 2, none⟩ = some (.slice A0_2 l0_2.length c0_2) := (blk_cell BK203.out 2).trans rfl
          have hcz14_3 : w11.cell? ⟨gb203, 3, none⟩ = some (.string a0_3) := (blk_cell BK203.out 3).trans rfl
          have hfz14_0 := blk_frozen BK203.out 0
          have hfz14_1 := blk_frozen BK203.out 1
          have hfz14_2 := blk_frozen BK203.out 2
          have hfz14_3 := blk_frozen BK203.out 3
          go_wp2
          go_meet
          case rel => exact ⟨_, (decide ((a0_3.size : Int) > 5000)), (by first | rfl | (simp; done) | (simp [*]; done)), H', ⟨by first | omega | exact Nat.le_refl _⟩, ⟨by (with_reducible repeat (first | refine blk_drewN ?_ _ | refine blk_drew ?_ | refine blk_alloc ?_ _)); exact BK203.out⟩, ⟨by repeat (first | (with_reducible first | exact HB.out | apply below_alloc | apply pw_below_drewN | apply below_drew1 | refine below_set ?_ GE203.out) | exact HB.out)⟩⟩
      · rw [if_neg c12] at H
        have c12b0 : (t206 == 0) = false := beq_eq_false_iff_ne.mpr c12
        have c12b1 : (t206 != 0) = true := bne_iff_ne.mpr c12
        (first | rw [c12b0] | rw [c12b1] | (simp only [i64_w, i32_w]; rw [c12b0]) | skip)
        have H' := Aside0.mk H
        clear H
        go_wp2
        go_meet
        case rel => exact ⟨_, (true), (by first | rfl | (simp; done) | (simp [*]; done)), H', ⟨by first | omega | exact Nat.le_refl _⟩, ⟨by (with_reducible repeat (first | refine blk_drewN ?_ _ | refine blk_drew ?_ | refine blk_alloc ?_ _)); exact BK203.out⟩, ⟨by repeat (first | (with_reducible first | exact HB.out | apply below_alloc | apply pw_below_drewN | apply below_drew1 | refine below_set ?_ GE203.out) | exact HB.out)⟩⟩
    case rest =>
      clear HC7
      try clear c1
      try clear c2
      try clear p2
      try clear c4
      try clear c5
      try clear c12
      try clear c12b0
      try clear c12b1
      try clear c13
      try clear c13b0
      try clear c13b1
      try clear hcz10_0
      try clear hcz10_1
      try clear hcz10_2
      try clear hcz10_3
      try clear hcz14_0
      try clear hcz14_1
      try clear hcz14_2
      try clear hcz14_3
      try clear hfz10_0
      try clear hfz10_1
      try clear hfz10_2
      try clear hfz10_3
      try clear hfz14_0
      try clear hfz14_1
      try clear hfz14_2
      try clear hfz14_3
      obtain ⟨kq, x36_6, rfl, HA, HJ6, BK203, HB⟩ := hcut
      cases kq with
      | zero => exact absurd HA.out (by simp [calepinlaw08_HttpFields.j0])
      | succ kj6 =>
        have H := HA.out
        clear HA
        simp only [calepinlaw08_HttpFields.j0] at H
        by_cases c15 : x36_6 = true
        · subst c15
          have H1 : (some true) = some r := by rw [if_pos rfl] at H; exact H
          clear H
          have H := H1
          clear H1
          obtain rfl := Option.some.inj H
          go_wp2
          go_ret
          exact ⟨by first | rfl | (simp [errW_none, errW_some] <;> rfl) | (simp [*, errW_none, errW_some] <;> rfl), by repeat (first | (with_reducible first | exact HB.out | apply below_alloc | apply pw_below_drewN | apply below_drew1 | refine below_set ?_ GE203.out) | exact HB.out)⟩
        · replace c15 := Bool.eq_false_iff.mpr c15
          subst c15
          have H1 : (if a0_0.size + 1 ≤ 9223372036854775807 then (if (a0_0 ++ (⟨#[32]⟩ : ByteArray)).size + a0_1.size ≤ 9223372036854775807 then (if ((a0_0 ++ (⟨#[32]⟩ : ByteArray)) ++ a0_1).size + 11 ≤ 9223372036854775807 then (if (IntKind.u64.wrap (wrap64 ((l0_2.length : Int) + 1))) = 0 then (none) else (calepinlaw08_HttpFields.l0 kj6 l2 (((a0_0 ++ (⟨#[32]⟩ : ByteArray)) ++ a0_1) ++ (⟨#[32, 72, 84, 84, 80, 47, 49, 46, 49, 13, 10]⟩ : ByteArray)) (wrap64 (Int.tmod (IntKind.u64.wrap (a1)) (IntKind.u64.wrap (wrap64 ((l0_2.length : Int) + 1))))) 0 a0_0 a0_1 l0_2 a0_3)) else (none)) else (none)) else (none)) = some r := by rw [if_neg (show ¬ (false = true) by decide)] at H; exact H
          clear H
          have H := H1
          clear H1
          by_cases c16 : a0_0.size + 1 ≤ 9223372036854775807
          · rw [if_pos c16] at H
            have c16b0 := eq_true c16
            have c16b1 : decide (a0_0.size + 1 ≤ 9223372036854775807) = true := decide_eq_true c16
            try have c16b2 : (9223372036854775807 < a0_0.size + 1) = False := eq_false (Nat.not_lt.2 c16)
            by_cases c17 : (a0_0 ++ (⟨#[32]⟩ : ByteArray)).size + a0_1.size ≤ 9223372036854775807
            · rw [if_pos c17] at H
              have c17e := c17
              (try simp only [ByteArray.size_append, gt_iff_lt, ge_iff_le, show (⟨#[32]⟩ : ByteArray).size = 1 from rfl] at c17e)
              (try push_cast at c17e)
              (try (have c17e2 := decide_eq_true c17e))
              (try replace c17e := eq_true c17e)
              have c17b0 := eq_true c17
              have c17b1 : decide ((a0_0 ++ (⟨#[32]⟩ : ByteArray)).size + a0_1.size ≤ 9223372036854775807) = true := decide_eq_true c17
              try have c17b2 : (9223372036854775807 < (a0_0 ++ (⟨#[32]⟩ : ByteArray)).size + a0_1.size) = False := eq_false (Nat.not_lt.2 c17)
              have c17b8 : (9223372036854775807 < a0_0.size + 1 + a0_1.size) = False := by have h_ := c17; simp only [ByteArray.size_append] at h_; exact eq_false (Nat.not_lt.2 h_)
              by_cases c18 : ((a0_0 ++ (⟨#[32]⟩ : ByteArray)) ++ a0_1).size + 11 ≤ 9223372036854775807
              · rw [if_pos c18] at H
                have c18e := c18
                (try simp only [ByteArray.size_append, gt_iff_lt, ge_iff_le, show (⟨#[32]⟩ : ByteArray).size = 1 from rfl] at c18e)
                (try push_cast at c18e)
                (try (have c18e2 := decide_eq_true c18e))
                (try replace c18e := eq_true c18e)
                have c18b0 := eq_true c18
                have c18b1 : decide (((a0_0 ++ (⟨#[32]⟩ : ByteArray)) ++ a0_1).size + 11 ≤ 9223372036854775807) = true := decide_eq_true c18
                try have c18b2 : (9223372036854775807 < ((a0_0 ++ (⟨#[32]⟩ : ByteArray)) ++ a0_1).size + 11) = False := eq_false (Nat.not_lt.2 c18)
                have c18b8 : (9223372036854775807 < a0_0.size + 1 + a0_1.size + 11) = False := by have h_ := c18; simp only [ByteArray.size_append] at h_; exact eq_false (Nat.not_lt.2 h_)
                by_cases c19 : (IntKind.u64.wrap (wrap64 ((l0_2.length : Int) + 1))) = 0
                · rw [if_pos c19] at H
                  exact absurd H (by simp)
                · rw [if_neg c19] at H
                  have c19b0 : ((IntKind.u64.wrap (wrap64 ((l0_2.length : Int) + 1))) == 0) = false := beq_eq_false_iff_ne.mpr c19
                  have c19b1 : ((IntKind.u64.wrap (wrap64 ((l0_2.length : Int) + 1))) != 0) = true := bne_iff_ne.mpr c19
                  have HC20 := Aside0.mk H
                  clear H
                  have hcz21_0 : wc.cell? ⟨gb203, 0, none⟩ = some (.string a0_0) := (blk_cell BK203.out 0).trans rfl
                  have hcz21_1 : wc.cell? ⟨gb203, 1, none⟩ = some (.string a0_1) := (blk_cell BK203.out 1).trans rfl
                  have hcz21_2 : wc.cell? ⟨gb203, 2, none⟩ = some (.slice A0_2 l0_2.length c0_2) := (blk_cell BK203.out 2).trans rfl
                  have hcz21_3 : wc.cell? ⟨gb203, 3, none⟩ = some (.string a0_3) := (blk_cell BK203.out 3).trans rfl
                  have hfz21_0 := blk_frozen BK203.out 0
                  have hfz21_1 := blk_frozen BK203.out 1
                  have hfz21_2 := blk_frozen BK203.out 2
                  have hfz21_3 := blk_frozen BK203.out 3
                  go_upto_block 0 with (fail)
                  go_cut [9] (fun v9 wc => ∃ (kq : Nat) (x9_19 : ByteArray), v9 = .string x9_19 ∧ Aside0 (calepinlaw08_HttpFields.j4 kq x9_19 a0_0 a0_1 l0_2 a0_3 = some r) ∧ Aside0 (kq ≤ kj6) ∧ Aside0 (wc.heap[gb203]? = some (.cells #[.string a0_0, .string a0_1, (.slice A0_2 l0_2.length c0_2), .string a0_3] 65 (0, 0))) ∧ Aside0 (Below w.heap.size w wc))
                  case first =>
                    have H := HC20.out
                    clear HC20
                    have H' := Aside0.mk H
                    clear H
                    go_wp2
                    go_loopg [9, 11] kj6 (fun kq v9 v11 w' => ∃ (x9_2 : ByteArray) (x11_2 : Int), v9 = .string x9_2 ∧ v11 = .int .i64 x11_2 ∧ Aside0 (calepinlaw08_HttpFields.l0 kq l2 x9_2 (wrap64 (Int.tmod (IntKind.u64.wrap (a1)) (IntKind.u64.wrap (wrap64 ((l0_2.length : Int) + 1))))) x11_2 a0_0 a0_1 l0_2 a0_3 = some r) ∧ Aside0 (kq ≤ kj6) ∧ Aside0 (w'.heap[gb203]? = some (.cells #[.string a0_0, .string a0_1, (.slice A0_2 l0_2.length c0_2), .string a0_3] 65 (0, 0))) ∧ Aside0 (Below w.heap.size w w'))
                    case atStart => exact ⟨(((a0_0 ++ (⟨#[32]⟩ : ByteArray)) ++ a0_1) ++ (⟨#[32, 72, 84, 84, 80, 47, 49, 46, 49, 13, 10]⟩ : ByteArray)), (0), (by first | rfl | (simp; done) | (simp [*]; done)), (by first | rfl | (simp; done) | (simp [*]; done)), H', ⟨Nat.le_refl _⟩, ⟨by (with_reducible repeat (first | refine blk_drewN ?_ _ | refine blk_drew ?_ | refine blk_alloc ?_ _)); exact BK203.out⟩, ⟨by repeat (first | (with_reducible first | exact HB.out | apply below_alloc | apply pw_below_drewN | apply below_drew1 | refine below_set ?_ GE203.out) | exact HB.out)⟩⟩
                    case round =>
                      clear H'
                      try clear c1
                      try clear c2
                      try clear p2
                      try clear c4
                      try clear c5
                      try clear p6
                      try clear c12
                      try clear c12b0
                      try clear c12b1
                      try clear c13
                      try clear c13b0
                      try clear c13b1
                      try clear c15
                      try clear c16
                      try clear c16b0
                      try clear c16b1
                      try clear c16b2
                      try clear c17
                      try clear c17b0
                      try clear c17b1
                      try clear c17b2
                      try clear c18
                      try clear c18b0
                      try clear c18b1
                      try clear c18b2
                      try clear c19
                      try clear c19b0
                      try clear c19b1
                      try clear hcz10_0
                      try clear hcz10_1
                      try clear hcz10_2
                      try clear hcz10_3
                      try clear hcz14_0
                      try clear hcz14_1
                      try clear hcz14_2
                      try clear hcz14_3
                      try clear hcz21_0
                      try clear hcz21_1
                      try clear hcz21_2
                      try clear hcz21_3
                      try clear hfz10_0
                      try clear hfz10_1
                      try clear hfz10_2
                      try clear hfz10_3
                      try clear hfz14_0
                      try clear hfz14_1
                      try clear hfz14_2
                      try clear hfz14_3
                      try clear hfz21_0
                      try clear hfz21_1
                      try clear hfz21_2
                      try clear hfz21_3
                      try clear p2
                      obtain ⟨x9_2, x11_2, rfl, rfl, HA, HK2, BK203, HB⟩ := hrel
                      cases gk with
                      | zero => exact absurd HA.out (by simp [calepinlaw08_HttpFields.l0])
                      | succ k2 =>
                        have H := HA.out
                        clear HA
                        simp only [calepinlaw08_HttpFields.l0] at H
                        by_cases c22 : x11_2 ≤ (l0_2.length : Int)
                        · rw [if_pos c22] at H
                          have c22b0 : decide (x11_2 ≤ (l0_2.length : Int)) = true := decide_eq_true c22
                          clear c22
                          (first | rw [c22b0] | (simp only [i64_w, i32_w]; rw [c22b0]) | skip)
                          have HC23 := Aside0.mk H
                          clear H
                          have hcz24_0 : wr.cell? ⟨gb203, 0, none⟩ = some (.string a0_0) := (blk_cell BK203.out 0).trans rfl
                          have hcz24_1 : wr.cell? ⟨gb203, 1, none⟩ = some (.string a0_1) := (blk_cell BK203.out 1).trans rfl
                          have hcz24_2 : wr.cell? ⟨gb203, 2, none⟩ = some (.slice A0_2 l0_2.length c0_2) := (blk_cell BK203.out 2).trans rfl
                          have hcz24_3 : wr.cell? ⟨gb203, 3, none⟩ = some (.string a0_3) := (blk_cell BK203.out 3).trans rfl
                          have hfz24_0 := blk_frozen BK203.out 0
                          have hfz24_1 := blk_frozen BK203.out 1
                          have hfz24_2 := blk_frozen BK203.out 2
                          have hfz24_3 := blk_frozen BK203.out 3
                          go_upto_if 62 with (fail)
                          go_cut [9] (fun v9 wc => ∃ (kq : Nat) (x9_22 : ByteArray), v9 = .string x9_22 ∧ Aside0 (calepinlaw08_HttpFields.j2 kq l2 x9_22 (wrap64 (Int.tmod (IntKind.u64.wrap (a1)) (IntKind.u64.wrap (wrap64 ((l0_2.length : Int) + 1))))) x11_2 a0_0 a0_1 l0_2 a0_3 = some r) ∧ Aside0 (kq ≤ k2) ∧ Aside0 (wc.heap[gb203]? = some (.cells #[.string a0_0, .string a0_1, (.slice A0_2 l0_2.length c0_2), .string a0_3] 65 (0, 0))) ∧ Aside0 (Below w.heap.size w wc))
                          case first =>
                            have H := HC23.out
                            clear HC23
                            by_cases c25 : x11_2 = (wrap64 (Int.tmod (IntKind.u64.wrap (a1)) (IntKind.u64.wrap (wrap64 ((l0_2.length : Int) + 1)))))
                            · rw [if_pos c25] at H
                              have c25b0 : (x11_2 == (wrap64 (Int.tmod (IntKind.u64.wrap (a1)) (IntKind.u64.wrap (wrap64 ((l0_2.length : Int) + 1)))))) = true := beq_iff_eq.mpr c25
                              have c25b1 : (x11_2 != (wrap64 (Int.tmod (IntKind.u64.wrap (a1)) (IntKind.u64.wrap (wrap64 ((l0_2.length : Int) + 1)))))) = false := bne_eq_false_iff_eq.mpr c25
                              clear c25
                              (first | rw [c25b0] | rw [c25b1] | (simp only [i64_w, i32_w]; rw [c25b0]) | skip)
                              replace H := Option.bind_eq_some_iff.mp H
                              obtain ⟨t207, A260, H⟩ := H
                              replace H : (if 15 + t207.size ≤ 9223372036854775807 then (if ((⟨#[99, 111, 110, 116, 101, 110, 116, 45, 76, 69, 78, 71, 84, 72, 58]⟩ : ByteArray) ++ t207).size + 2 ≤ 9223372036854775807 then (if x9_2.size + (((⟨#[99, 111, 110, 116, 101, 110, 116, 45, 76, 69, 78, 71, 84, 72, 58]⟩ : ByteArray) ++ t207) ++ (⟨#[13, 10]⟩ : ByteArray)).size ≤ 9223372036854775807 then (calepinlaw08_HttpFields.j2 k2 l2 (x9_2 ++ (((⟨#[99, 111, 110, 116, 101, 110, 116, 45, 76, 69, 78, 71, 84, 72, 58]⟩ : ByteArray) ++ t207) ++ (⟨#[13, 10]⟩ : ByteArray))) (wrap64 (Int.tmod (IntKind.u64.wrap (a1)) (IntKind.u64.wrap (wrap64 ((l0_2.length : Int) + 1))))) x11_2 a0_0 a0_1 l0_2 a0_3) else (none)) else (none)) else (none)) = some r := H
                              have A26 := Aside0.mk A260
                              clear A260
                              by_cases c27 : 15 + t207.size ≤ 9223372036854775807
                              · rw [if_pos c27] at H
                                have c27b0 := eq_true c27
                                have c27b1 : decide (15 + t207.size ≤ 9223372036854775807) = true := decide_eq_true c27
                                try have c27b2 : (9223372036854775807 < 15 + t207.size) = False := eq_false (Nat.not_lt.2 c27)
                                by_cases c28 : ((⟨#[99, 111, 110, 116, 101, 110, 116, 45, 76, 69, 78, 71, 84, 72, 58]⟩ : ByteArray) ++ t207).size + 2 ≤ 9223372036854775807
                                · rw [if_pos c28] at H
                                  have c28e := c28
                                  (try simp only [ByteArray.size_append, gt_iff_lt, ge_iff_le, show (⟨#[99, 111, 110, 116, 101, 110, 116, 45, 76, 69, 78, 71, 84, 72, 58]⟩ : ByteArray).size = 15 from rfl] at c28e)
                                  (try push_cast at c28e)
                                  (try (have c28e2 := decide_eq_true c28e))
                                  (try replace c28e := eq_true c28e)
                                  have c28b0 := eq_true c28
                                  have c28b1 : decide (((⟨#[99, 111, 110, 116, 101, 110, 116, 45, 76, 69, 78, 71, 84, 72, 58]⟩ : ByteArray) ++ t207).size + 2 ≤ 9223372036854775807) = true := decide_eq_true c28
                                  try have c28b2 : (9223372036854775807 < ((⟨#[99, 111, 110, 116, 101, 110, 116, 45, 76, 69, 78, 71, 84, 72, 58]⟩ : ByteArray) ++ t207).size + 2) = False := eq_false (Nat.not_lt.2 c28)
                                  have c28b8 : (9223372036854775807 < 15 + t207.size + 2) = False := by have h_ := c28; simp only [ByteArray.size_append] at h_; exact eq_false (Nat.not_lt.2 h_)
                                  by_cases c29 : x9_2.size + (((⟨#[99, 111, 110, 116, 101, 110, 116, 45, 76, 69, 78, 71, 84, 72, 58]⟩ : ByteArray) ++ t207) ++ (⟨#[13, 10]⟩ : ByteArray)).size ≤ 9223372036854775807
                                  · rw [if_pos c29] at H
                                    have c29e := c29
                                    (try simp only [ByteArray.size_append, gt_iff_lt, ge_iff_le, show (⟨#[13, 10]⟩ : ByteArray).size = 2 from rfl, show (⟨#[99, 111, 110, 116, 101, 110, 116, 45, 76, 69, 78, 71, 84, 72, 58]⟩ : ByteArray).size = 15 from rfl] at c29e)
                                    (try push_cast at c29e)
                                    (try (have c29e2 := decide_eq_true c29e))
                                    (try replace c29e := eq_true c29e)
                                    have c29b0 := eq_true c29
                                    have c29b1 : decide (x9_2.size + (((⟨#[99, 111, 110, 116, 101, 110, 116, 45, 76, 69, 78, 71, 84, 72, 58]⟩ : ByteArray) ++ t207) ++ (⟨#[13, 10]⟩ : ByteArray)).size ≤ 9223372036854775807) = true := decide_eq_true c29
                                    try have c29b2 : (9223372036854775807 < x9_2.size + (((⟨#[99, 111, 110, 116, 101, 110, 116, 45, 76, 69, 78, 71, 84, 72, 58]⟩ : ByteArray) ++ t207) ++ (⟨#[13, 10]⟩ : ByteArray)).size) = False := eq_false (Nat.not_lt.2 c29)
                                    have c29b8 : (9223372036854775807 < x9_2.size + (15 + t207.size + 2)) = False := by have h_ := c29; simp only [ByteArray.size_append] at h_; exact eq_false (Nat.not_lt.2 h_)
                                    have H' := Aside0.mk H
                                    clear H
                                    have hcz30_0 : wr.cell? ⟨gb203, 0, none⟩ = some (.string a0_0) := (blk_cell BK203.out 0).trans rfl
                                    have hcz30_1 : wr.cell? ⟨gb203, 1, none⟩ = some (.string a0_1) := (blk_cell BK203.out 1).trans rfl
                                    have hcz30_2 : wr.cell? ⟨gb203, 2, none⟩ = some (.slice A0_2 l0_2.length c0_2) := (blk_cell BK203.out 2).trans rfl
                                    have hcz30_3 : wr.cell? ⟨gb203, 3, none⟩ = some (.string a0_3) := (blk_cell BK203.out 3).trans rfl
                                    have hfz30_0 := blk_frozen BK203.out 0
                                    have hfz30_1 := blk_frozen BK203.out 1
                                    have hfz30_2 := blk_frozen BK203.out 2
                                    have hfz30_3 := blk_frozen BK203.out 3
                                    go_wp2_with (first | ((with_reducible refine gate_callee (f := 31) rfl ?_); refine goesL_ (some 68) rfl rfl Tryd.func31 (by kernel_rfl) rfl #[.int .u64 (IntKind.u64.wrap ((a0_3.size : Int)))] rfl (by (try simp only [List.map_toArray, List.map_cons, List.map_nil]); first | done | rfl | (simp only [List.length_drop, List.length_take]; rfl)) ?_; (with_reducible refine (calepinref01_Decimal.calls k2 (IntKind.u64.wrap ((a0_3.size : Int))) t207 _ ?side1 A26.out).mono ?_); (case side1 => exact LaidM.below HT.out (by repeat (first | (with_reducible first | exact HB.out | apply below_alloc | apply pw_below_drewN | apply below_drew1 | refine below_set ?_ GE203.out) | exact HB.out))); rintro e w31 ⟨rfl, hb⟩; refine ⟨_, rfl, ?_⟩; have n0_ := Aside0.mk (blk_below (g := gb203) (o := .cells #[.string a0_0, .string a0_1, .slice A0_2 l0_2.length c0_2, .string a0_3] 65 (0, 0)) (by (with_reducible repeat (first | refine blk_drewN ?_ _ | refine blk_drew ?_ | refine blk_alloc ?_ _)); exact BK203.out) hb); have n1_ := Aside0.mk (below_step (by repeat (first | (with_reducible first | exact HB.out | apply below_alloc | apply pw_below_drewN | apply below_drew1 | refine below_set ?_ GE203.out) | exact HB.out)) hb); clear BK203; clear HB; have BK203 := n0_; have HB := n1_; clear n0_ n1_; (try clear hb); (try clear hb2); (try clear hk); (try clear hi)))
                                    go_meet
                                    case rel => exact ⟨_, (x9_2 ++ (((⟨#[99, 111, 110, 116, 101, 110, 116, 45, 76, 69, 78, 71, 84, 72, 58]⟩ : ByteArray) ++ t207) ++ (⟨#[13, 10]⟩ : ByteArray))), (by first | rfl | (simp; done) | (simp [*]; done)), H', ⟨by have := HJ6.out; have := HK2.out; first | omega | exact Nat.le_refl _⟩, ⟨by (with_reducible repeat (first | refine blk_drewN ?_ _ | refine blk_drew ?_ | refine blk_alloc ?_ _)); exact BK203.out⟩, ⟨by repeat (first | (with_reducible first | exact HB.out | apply below_alloc | apply pw_below_drewN | apply below_drew1 | refine below_set ?_ GE203.out) | exact HB.out)⟩⟩
                                  · rw [if_neg c29] at H
                                    have c29e := c29
                                    (try simp only [ByteArray.size_append, gt_iff_lt, ge_iff_le, show (⟨#[13, 10]⟩ : ByteArray).size = 2 from rfl, show (⟨#[99, 111, 110, 116, 101, 110, 116, 45, 76, 69, 78, 71, 84, 72, 58]⟩ : ByteArray).size = 15 from rfl] at c29e)
                                    (try push_cast at c29e)
                                    (try (have c29e2 := decide_eq_false c29e))
                                    (try replace c29e := eq_false c29e)
                                    exact absurd H (by simp)
                                · rw [if_neg c28] at H
                                  have c28e := c28
                                  (try simp only [ByteArray.size_append, gt_iff_lt, ge_iff_le, show (⟨#[99, 111, 110, 116, 101, 110, 116, 45, 76, 69, 78, 71, 84, 72, 58]⟩ : ByteArray).size = 15 from rfl] at c28e)
                                  (try push_cast at c28e)
                                  (try (have c28e2 := decide_eq_false c28e))
                                  (try replace c28e := eq_false c28e)
                                  exact absurd H (by simp)
                              · rw [if_neg c27] at H
                                exact absurd H (by simp)
                            · rw [if_neg c25] at H
                              have c25b0 : (x11_2 == (wrap64 (Int.tmod (IntKind.u64.wrap (a1)) (IntKind.u64.wrap (wrap64 ((l0_2.length : Int) + 1)))))) = false := beq_eq_false_iff_ne.mpr c25
                              have c25b1 : (x11_2 != (wrap64 (Int.tmod (IntKind.u64.wrap (a1)) (IntKind.u64.wrap (wrap64 ((l0_2.length : Int) + 1)))))) = true := bne_iff_ne.mpr c25
                              (first | rw [c25b0] | rw [c25b1] | (simp only [i64_w, i32_w]; rw [c25b0]) | skip)
                              have H' := Aside0.mk H
                              clear H
                              go_wp2
                              go_meet
                              case rel => exact ⟨_, (x9_2), (by first | rfl | (simp; done) | (simp [*]; done)), H', ⟨by have := HJ6.out; have := HK2.out; first | omega | exact Nat.le_refl _⟩, ⟨by (with_reducible repeat (first | refine blk_drewN ?_ _ | refine blk_drew ?_ | refine blk_alloc ?_ _)); exact BK203.out⟩, ⟨by repeat (first | (with_reducible first | exact HB.out | apply below_alloc | apply pw_below_drewN | apply below_drew1 | refine below_set ?_ GE203.out) | exact HB.out)⟩⟩
                          case rest =>
                            clear HC23
                            try clear c1
                            try clear c2
                            try clear p2
                            try clear c3
                            try clear c4
                            try clear c5
                            try clear p6
                            try clear c12
                            try clear c12b0
                            try clear c12b1
                            try clear c13
                            try clear c13b0
                            try clear c13b1
                            try clear c15
                            try clear c16
                            try clear c16b0
                            try clear c16b1
                            try clear c16b2
                            try clear c17
                            try clear c17b0
                            try clear c17b1
                            try clear c17b2
                            try clear c18
                            try clear c18b0
                            try clear c18b1
                            try clear c18b2
                            try clear c19
                            try clear c19b0
                            try clear c19b1
                            try clear c22
                            try clear c22b0
                            try clear c25
                            try clear c25b0
                            try clear c25b1
                            try clear c27
                            try clear c27b0
                            try clear c27b1
                            try clear c27b2
                            try clear c28
                            try clear c28b0
                            try clear c28b1
                            try clear c28b2
                            try clear c29
                            try clear c29b0
                            try clear c29b1
                            try clear c29b2
                            try clear c31
                            try clear hcz10_0
                            try clear hcz10_1
                            try clear hcz10_2
                            try clear hcz10_3
                            try clear hcz14_0
                            try clear hcz14_1
                            try clear hcz14_2
                            try clear hcz14_3
                            try clear hcz21_0
                            try clear hcz21_1
                            try clear hcz21_2
                            try clear hcz21_3
                            try clear hcz24_0
                            try clear hcz24_1
                            try clear hcz24_2
                            try clear hcz24_3
                            try clear hcz30_0
                            try clear hcz30_1
                            try clear hcz30_2
                            try clear hcz30_3
                            try clear hfz10_0
                            try clear hfz10_1
                            try clear hfz10_2
                            try clear hfz10_3
                            try clear hfz14_0
                            try clear hfz14_1
                            try clear hfz14_2
                            try clear hfz14_3
                            try clear hfz21_0
                            try clear hfz21_1
                            try clear hfz21_2
                            try clear hfz21_3
                            try clear hfz24_0
                            try clear hfz24_1
                            try clear hfz24_2
                            try clear hfz24_3
                            try clear hfz30_0
                            try clear hfz30_1
                            try clear hfz30_2
                            try clear hfz30_3
                            try clear p2
                            try clear p6
                            obtain ⟨kq, x9_22, rfl, HA, HJ22, BK203, HB⟩ := hcut
                            cases kq with
                            | zero => exact absurd HA.out (by simp [calepinlaw08_HttpFields.j2])
                            | succ kj22 =>
                              have H := HA.out
                              clear HA
                              simp only [calepinlaw08_HttpFields.j2] at H
                              by_cases c32 : x11_2 = (l0_2.length : Int)
                              · rw [if_pos c32] at H
                                have c32b0 : (x11_2 == (l0_2.length : Int)) = true := beq_iff_eq.mpr c32
                                have c32b1 : (x11_2 != (l0_2.length : Int)) = false := bne_eq_false_iff_eq.mpr c32
                                clear c32
                                have H' := Aside0.mk H
                                clear H
                                have hcz33_0 : wc.cell? ⟨gb203, 0, none⟩ = some (.string a0_0) := (blk_cell BK203.out 0).trans rfl
                                have hcz33_1 : wc.cell? ⟨gb203, 1, none⟩ = some (.string a0_1) := (blk_cell BK203.out 1).trans rfl
                                have hcz33_2 : wc.cell? ⟨gb203, 2, none⟩ = some (.slice A0_2 l0_2.length c0_2) := (blk_cell BK203.out 2).trans rfl
                                have hcz33_3 : wc.cell? ⟨gb203, 3, none⟩ = some (.string a0_3) := (blk_cell BK203.out 3).trans rfl
                                have hfz33_0 := blk_frozen BK203.out 0
                                have hfz33_1 := blk_frozen BK203.out 1
                                have hfz33_2 := blk_frozen BK203.out 2
                                have hfz33_3 := blk_frozen BK203.out 3
                                go_wp2
                                go_meet
                                case rel => exact ⟨_, (x9_22), (by first | rfl | (simp; done) | (simp [*]; done)), H', ⟨by have := HJ6.out; have := HK2.out; have := HJ22.out; first | omega | exact Nat.le_refl _⟩, ⟨by (with_reducible repeat (first | refine blk_drewN ?_ _ | refine blk_drew ?_ | refine blk_alloc ?_ _)); exact BK203.out⟩, ⟨by repeat (first | (with_reducible first | exact HB.out | apply below_alloc | apply pw_below_drewN | apply below_drew1 | refine below_set ?_ GE203.out) | exact HB.out)⟩⟩
                              · rw [if_neg c32] at H
                                have c32b0 : (x11_2 == (l0_2.length : Int)) = false := beq_eq_false_iff_ne.mpr c32
                                have c32b1 : (x11_2 != (l0_2.length : Int)) = true := bne_iff_ne.mpr c32
                                by_cases c34 : 0 ≤ x11_2
                                · rw [if_pos c34] at H
                                  have c34b0 : decide (0 ≤ x11_2) = true := decide_eq_true c34
                                  clear c34
                                  by_cases c35 : x11_2 < (l0_2.length : Int)
                                  · rw [if_pos c35] at H
                                    have c35b0 : decide (x11_2 < (l0_2.length : Int)) = true := decide_eq_true c35
                                    clear c35
                                    by_cases c36 : ((rd_T74 l0_2 x11_2).f0).size + 1 ≤ 9223372036854775807
                                    · rw [if_pos c36] at H
                                      have c36b0 := eq_true c36
                                      have c36b1 : decide (((rd_T74 l0_2 x11_2).f0).size + 1 ≤ 9223372036854775807) = true := decide_eq_true c36
                                      try have c36b2 : (9223372036854775807 < ((rd_T74 l0_2 x11_2).f0).size + 1) = False := eq_false (Nat.not_lt.2 c36)
                                      by_cases c37 : x9_22.size + (((rd_T74 l0_2 x11_2).f0) ++ (⟨#[58]⟩ : ByteArray)).size ≤ 9223372036854775807
                                      · rw [if_pos c37] at H
                                        have c37e := c37
                                        (try simp only [ByteArray.size_append, gt_iff_lt, ge_iff_le, show (⟨#[58]⟩ : ByteArray).size = 1 from rfl] at c37e)
                                        (try push_cast at c37e)
                                        (try (have c37e2 := decide_eq_true c37e))
                                        (try replace c37e := eq_true c37e)
                                        have c37b0 := eq_true c37
                                        have c37b1 : decide (x9_22.size + (((rd_T74 l0_2 x11_2).f0) ++ (⟨#[58]⟩ : ByteArray)).size ≤ 9223372036854775807) = true := decide_eq_true c37
                                        try have c37b2 : (9223372036854775807 < x9_22.size + (((rd_T74 l0_2 x11_2).f0) ++ (⟨#[58]⟩ : ByteArray)).size) = False := eq_false (Nat.not_lt.2 c37)
                                        have c37b8 : (9223372036854775807 < x9_22.size + (((rd_T74 l0_2 x11_2).f0).size + 1)) = False := by have h_ := c37; simp only [ByteArray.size_append] at h_; exact eq_false (Nat.not_lt.2 h_)
                                        have H' := Aside0.mk H
                                        clear H
                                        have hcz38_0 : wc.cell? ⟨gb203, 0, none⟩ = some (.string a0_0) := (blk_cell BK203.out 0).trans rfl
                                        have hcz38_1 : wc.cell? ⟨gb203, 1, none⟩ = some (.string a0_1) := (blk_cell BK203.out 1).trans rfl
                                        have hcz38_2 : wc.cell? ⟨gb203, 2, none⟩ = some (.slice A0_2 l0_2.length c0_2) := (blk_cell BK203.out 2).trans rfl
                                        have hcz38_3 : wc.cell? ⟨gb203, 3, none⟩ = some (.string a0_3) := (blk_cell BK203.out 3).trans rfl
                                        have hfz38_0 := blk_frozen BK203.out 0
                                        have hfz38_1 := blk_frozen BK203.out 1
                                        have hfz38_2 := blk_frozen BK203.out 2
                                        have hfz38_3 := blk_frozen BK203.out 3
                                        have p208 : 0 ≤ (x11_2 : Int) := of_decide_eq_true (by first | (with_reducible assumption) | assumption)
                                        have q208 : x11_2 < (l0_2.length : Int) := of_decide_eq_true (by first | (with_reducible assumption) | assumption)
                                        obtain ⟨ad208, e208, hx208_0, hx208_1⟩ := at_T74 HR0_2.out x11_2 p208 q208
                                        cases e208
                                        replace hx208_0 := (HB.out.cell (World.block_lt_of_cell? w _ hx208_0)).trans hx208_0
                                        replace hx208_1 := (HB.out.cell (World.block_lt_of_cell? w _ hx208_1)).trans hx208_1
                                        replace p208 := eq_true p208
                                        replace q208 := eq_true q208
                                        go_wp2
                                        go_loopg [9, 88] kj22 (fun kq v9 v88 w' => ∃ (x9_4 : ByteArray) (x88_4 : Int), v9 = .string x9_4 ∧ v88 = .int .i64 x88_4 ∧ Aside0 (calepinlaw08_HttpFields.l1 kq l2 x9_4 (wrap64 (Int.tmod (IntKind.u64.wrap (a1)) (IntKind.u64.wrap (wrap64 ((l0_2.length : Int) + 1))))) x11_2 l2 (l2.length : Int) x88_4 a0_0 a0_1 l0_2 a0_3 = some r) ∧ Aside0 (kq ≤ kj22) ∧ Aside0 (w'.heap[gb203]? = some (.cells #[.string a0_0, .string a0_1, (.slice (some ad208) l0_2.length c0_2), .string a0_3] 65 (0, 0))) ∧ Aside0 (Below w.heap.size w w'))
                                        case atStart => exact ⟨(x9_22 ++ (((rd_T74 l0_2 x11_2).f0) ++ (⟨#[58]⟩ : ByteArray))), (0), (by first | rfl | (simp; done) | (simp [*]; done)), (by first | rfl | (simp; done) | (simp [*]; done)), H', ⟨Nat.le_refl _⟩, ⟨by (with_reducible repeat (first | refine blk_drewN ?_ _ | refine blk_drew ?_ | refine blk_alloc ?_ _)); exact BK203.out⟩, ⟨by repeat (first | (with_reducible first | exact HB.out | apply below_alloc | apply pw_below_drewN | apply below_drew1 | refine below_set ?_ GE203.out) | exact HB.out)⟩⟩
                                        case round =>
                                          clear H'
                                          try clear c1
                                          try clear c2
                                          try clear p2
                                          try clear q2
                                          try clear hx2
                                          try clear c3
                                          try clear c4
                                          try clear c5
                                          try clear p6
                                          try clear c12
                                          try clear c12b0
                                          try clear c12b1
                                          try clear c13
                                          try clear c13b0
                                          try clear c13b1
                                          try clear c15
                                          try clear c16
                                          try clear c16b0
                                          try clear c16b1
                                          try clear c16b2
                                          try clear c17
                                          try clear c17b0
                                          try clear c17b1
                                          try clear c17b2
                                          try clear c18
                                          try clear c18b0
                                          try clear c18b1
                                          try clear c18b2
                                          try clear c19
                                          try clear c19b0
                                          try clear c19b1
                                          try clear p20
                                          try clear q20
                                          try clear hx20
                                          try clear c22
                                          try clear c22b0
                                          try clear c25
                                          try clear c25b0
                                          try clear c25b1
                                          try clear c27
                                          try clear c27b0
                                          try clear c27b1
                                          try clear c27b2
                                          try clear c28
                                          try clear c28b0
                                          try clear c28b1
                                          try clear c28b2
                                          try clear c29
                                          try clear c29b0
                                          try clear c29b1
                                          try clear c29b2
                                          try clear c31
                                          try clear c32
                                          try clear c32b0
                                          try clear c32b1
                                          try clear c34
                                          try clear c34b0
                                          try clear c35
                                          try clear c35b0
                                          try clear c36
                                          try clear c36b0
                                          try clear c36b1
                                          try clear c36b2
                                          try clear c37
                                          try clear c37b0
                                          try clear c37b1
                                          try clear c37b2
                                          try clear hcz10_0
                                          try clear hcz10_1
                                          try clear hcz10_2
                                          try clear hcz10_3
                                          try clear hcz14_0
                                          try clear hcz14_1
                                          try clear hcz14_2
                                          try clear hcz14_3
                                          try clear hcz21_0
                                          try clear hcz21_1
                                          try clear hcz21_2
                                          try clear hcz21_3
                                          try clear hcz24_0
                                          try clear hcz24_1
                                          try clear hcz24_2
                                          try clear hcz24_3
                                          try clear hcz30_0
                                          try clear hcz30_1
                                          try clear hcz30_2
                                          try clear hcz30_3
                                          try clear hcz33_0
                                          try clear hcz33_1
                                          try clear hcz33_2
                                          try clear hcz33_3
                                          try clear hcz38_0
                                          try clear hcz38_1
                                          try clear hcz38_2
                                          try clear hcz38_3
                                          try clear hfz10_0
                                          try clear hfz10_1
                                          try clear hfz10_2
                                          try clear hfz10_3
                                          try clear hfz14_0
                                          try clear hfz14_1
                                          try clear hfz14_2
                                          try clear hfz14_3
                                          try clear hfz21_0
                                          try clear hfz21_1
                                          try clear hfz21_2
                                          try clear hfz21_3
                                          try clear hfz24_0
                                          try clear hfz24_1
                                          try clear hfz24_2
                                          try clear hfz24_3
                                          try clear hfz30_0
                                          try clear hfz30_1
                                          try clear hfz30_2
                                          try clear hfz30_3
                                          try clear hfz33_0
                                          try clear hfz33_1
                                          try clear hfz33_2
                                          try clear hfz33_3
                                          try clear hfz38_0
                                          try clear hfz38_1
                                          try clear hfz38_2
                                          try clear hfz38_3
                                          try clear hx208_0
                                          try clear hx208_1
                                          try clear p2
                                          try clear p208
                                          try clear p6
                                          try clear q208
                                          obtain ⟨x9_4, x88_4, rfl, rfl, HA, HK4, BK203, HB⟩ := hrel
                                          cases gk with
                                          | zero => exact absurd HA.out (by simp [calepinlaw08_HttpFields.l1])
                                          | succ k4 =>
                                            have H := HA.out
                                            clear HA
                                            simp only [calepinlaw08_HttpFields.l1] at H
                                            by_cases c39 : x88_4 < (l2.length : Int)
                                            · rw [if_pos c39] at H
                                              have c39b0 : decide (x88_4 < (l2.length : Int)) = true := decide_eq_true c39
                                              clear c39
                                              by_cases c40 : 0 ≤ x88_4
                                              · rw [if_pos c40] at H
                                                have c40b0 : decide (0 ≤ x88_4) = true := decide_eq_true c40
                                                clear c40
                                                by_cases c41 : x88_4 < (l2.length : Int)
                                                · rw [if_pos c41] at H
                                                  have c41b0 : decide (x88_4 < (l2.length : Int)) = true := decide_eq_true c41
                                                  clear c41
                                                  obtain ⟨y210, hy210⟩ : ∃ y_ : List ByteArray, y_ = (([(⟨#[32]⟩ : ByteArray), (⟨#[9]⟩ : ByteArray)] : List ByteArray)) := ⟨_, rfl⟩
                                                  replace H : (if 0 ≤ (Int.tmod (rd l2 x88_4) 2) then (if (Int.tmod (rd l2 x88_4) 2) < (y210.length : Int) then (if x9_4.size + (rdOf ByteArray.empty y210 (Int.tmod (rd l2 x88_4) 2)).size ≤ 9223372036854775807 then (calepinlaw08_HttpFields.l1 k4 l2 (x9_4 ++ (rdOf ByteArray.empty y210 (Int.tmod (rd l2 x88_4) 2))) (wrap64 (Int.tmod (IntKind.u64.wrap (a1)) (IntKind.u64.wrap (wrap64 ((l0_2.length : Int) + 1))))) x11_2 l2 (l2.length : Int) (wrap64 (x88_4 + 1)) a0_0 a0_1 l0_2 a0_3) else (none)) else (none)) else (none)) = some r := by first | (rw [hy210]; with_reducible exact H) | (have H2_ := (Option.bind_some _ _).symm.trans H; rw [hy210]; with_reducible exact H2_) | (have H2_ := (Option.bind_some _ _).symm.trans H; with_reducible exact H2_) | with_reducible exact H | (rw [hy210]; exact H) | exact H
                                                  have Ny210 := Aside0.mk hy210
                                                  clear hy210
                                                  obtain ⟨ji42, hji42⟩ : ∃ j_ : Int, (Int.tmod (rd l2 x88_4) 2) = j_ := ⟨_, rfl⟩
                                                  replace H : (if 0 ≤ (ji42) then (if (ji42) < (y210.length : Int) then (if x9_4.size + (rdOf ByteArray.empty y210 (ji42)).size ≤ 9223372036854775807 then (calepinlaw08_HttpFields.l1 k4 l2 (x9_4 ++ (rdOf ByteArray.empty y210 (ji42))) (wrap64 (Int.tmod (IntKind.u64.wrap (a1)) (IntKind.u64.wrap (wrap64 ((l0_2.length : Int) + 1))))) x11_2 l2 (l2.length : Int) (wrap64 (x88_4 + 1)) a0_0 a0_1 l0_2 a0_3) else (none)) else (none)) else (none)) = some r := by first | (rw [hji42] at H; exact H) | (simp only [hji42] at H ⊢; exact H)
                                                  by_cases c43 : 0 ≤ (ji42)
                                                  · rw [if_pos c43] at H
                                                    have c43b0 : decide (0 ≤ (ji42)) = true := decide_eq_true c43
                                                    clear c43
                                                    by_cases c44 : (ji42) < (y210.length : Int)
                                                    · rw [if_pos c44] at H
                                                      have c44b0 : decide ((ji42) < (y210.length : Int)) = true := decide_eq_true c44
                                                      clear c44
                                                      by_cases c45 : x9_4.size + (rdOf ByteArray.empty y210 (ji42)).size ≤ 9223372036854775807
                                                      · rw [if_pos c45] at H
                                                        have c45b0 := eq_true c45
                                                        have c45b1 : decide (x9_4.size + (rdOf ByteArray.empty y210 (ji42)).size ≤ 9223372036854775807) = true := decide_eq_true c45
                                                        try have c45b2 : (9223372036854775807 < x9_4.size + (rdOf ByteArray.empty y210 (ji42)).size) = False := eq_false (Nat.not_lt.2 c45)
                                                        have H' := Aside0.mk H
                                                        clear H
                                                        have p209 : 0 ≤ (x88_4 : Int) := of_decide_eq_true (by first | (with_reducible assumption) | assumption)
                                                        have q209 : x88_4 < (l2.length : Int) := of_decide_eq_true (by first | (with_reducible assumption) | assumption)
                                                        obtain ⟨ad209, e209, hx209_0⟩ := Kd.at_int HR2.out x88_4 p209 q209
                                                        cases e209
                                                        replace hx209_0 := (HB.out.cell (World.block_lt_of_cell? w _ hx209_0)).trans hx209_0
                                                        replace p209 := eq_true p209
                                                        replace q209 := eq_true q209
                                                        go_wp2_with (first | ((with_reducible refine gate_dst (N := 93) rfl ?_); (try (refine gate_guard (by rfl) ?_; dsimp only)); refine Kd.R_lit Kd.string _ 9 ?hg (N := 93) ?hd (xs := ([(⟨#[32]⟩ : ByteArray), (⟨#[9]⟩ : ByteArray)] : List ByteArray)) (inner := [.string (⟨#[32]⟩ : ByteArray), .string (⟨#[9]⟩ : ByteArray)]) (ok := fun _ => True) (okp := fun _ => True) ?hr ?hp (fun _ hk => hk) trivial (Below.refl _ _) (Nat.le_refl _) (by simp) ?_; (case hd => rfl); (case hg => rfl); (case hr => first | (go_simp; done) | (go_simp; rfl)); (case hp => exact (Reps.one (show Kd.M Kd.string _ _ _ (⟨#[32]⟩ : ByteArray) [.string (⟨#[32]⟩ : ByteArray)] from rfl) (Reps.one (show Kd.M Kd.string _ _ _ (⟨#[9]⟩ : ByteArray) [.string (⟨#[9]⟩ : ByteArray)] from rfl) (Reps.none _ _)))); intro v211 w46 ho47 hb hg_ hnew_; clear hg_ hnew_; (first | rw [← Ny210.out] at ho47 | (simp only [Int.reduceToNat] at ho47; rw [← Ny210.out] at ho47)); have n0_ := Aside0.mk (Kd.R_lower ho47 (below_size (by repeat (first | (with_reducible first | exact HB.out | apply below_alloc | apply pw_below_drewN | apply below_drew1 | refine below_set ?_ GE203.out) | exact HB.out)))); have n1_ := Aside0.mk (blk_below (g := gb203) (o := .cells #[.string a0_0, .string a0_1, .slice (some ad208) l0_2.length c0_2, .string a0_3] 65 (0, 0)) (by (with_reducible repeat (first | refine blk_drewN ?_ _ | refine blk_drew ?_ | refine blk_alloc ?_ _)); exact BK203.out) hb); have n2_ := Aside0.mk (below_step (by repeat (first | (with_reducible first | exact HB.out | apply below_alloc | apply pw_below_drewN | apply below_drew1 | refine below_set ?_ GE203.out) | exact HB.out)) hb); clear BK203; clear HB; have HO212 := n0_; have BK203 := n1_; have HB := n2_; clear n0_ n1_ n2_; clear hb ho47; obtain ⟨Ao48, co48, eo48⟩ := Kd.R_slice HO212.out; subst eo48; have p213 : 0 ≤ ((ji42) : Int) := of_decide_eq_true (by first | (with_reducible assumption) | assumption); have q213 : (ji42) < (y210.length : Int) := of_decide_eq_true (by first | (with_reducible assumption) | assumption); obtain ⟨ad213, e213, hx213_0⟩ := Kd.at_string (Kd.R_reads' HO212.out).2.2 (ji42) p213 q213; cases e213; replace p213 := eq_true p213; replace q213 := eq_true q213))
                                                        go_roundg k4
                                                        case measure => have := HJ6.out; have := HK2.out; have := HJ22.out; have := HK4.out; omega
                                                        case rel => exact ⟨(x9_4 ++ (rdOf ByteArray.empty y210 (ji42))), (wrap64 (x88_4 + 1)), (by first | rfl | (simp; done) | (simp only [← hji42] <;> (first | rfl | simp)) | (simp [*]; done)), (by first | rfl | (simp; done) | (simp [*]; done)), H', ⟨by have := HJ6.out; have := HK2.out; have := HJ22.out; have := HK4.out; omega⟩, ⟨by (with_reducible repeat (first | refine blk_drewN ?_ _ | refine blk_drew ?_ | refine blk_alloc ?_ _)); exact BK203.out⟩, ⟨by repeat (first | (with_reducible first | exact HB.out | apply below_alloc | apply pw_below_drewN | apply below_drew1 | refine below_set ?_ GE203.out) | exact HB.out)⟩⟩
                                                      · rw [if_neg c45] at H
                                                        exact absurd H (by simp)
                                                    · rw [if_neg c44] at H
                                                      exact absurd H (by simp)
                                                  · rw [if_neg c43] at H
                                                    exact absurd H (by simp)
                                                · rw [if_neg c41] at H
                                                  exact absurd H (by simp)
                                              · rw [if_neg c40] at H
                                                exact absurd H (by simp)
                                            · rw [if_neg c39] at H
                                              have c39b0 : decide (x88_4 < (l2.length : Int)) = false := decide_eq_false c39
                                              clear c39
                                              by_cases c49 : 0 ≤ x11_2
                                              · rw [if_pos c49] at H
                                                have c49b0 : decide (0 ≤ x11_2) = true := decide_eq_true c49
                                                clear c49
                                                by_cases c50 : x11_2 < (l0_2.length : Int)
                                                · rw [if_pos c50] at H
                                                  have c50b0 : decide (x11_2 < (l0_2.length : Int)) = true := decide_eq_true c50
                                                  clear c50
                                                  by_cases c51 : ((rd_T74 l0_2 x11_2).f1).size + 3 ≤ 9223372036854775807
                                                  · rw [if_pos c51] at H
                                                    have c51b0 := eq_true c51
                                                    have c51b1 : decide (((rd_T74 l0_2 x11_2).f1).size + 3 ≤ 9223372036854775807) = true := decide_eq_true c51
                                                    try have c51b2 : (9223372036854775807 < ((rd_T74 l0_2 x11_2).f1).size + 3) = False := eq_false (Nat.not_lt.2 c51)
                                                    by_cases c52 : x9_4.size + (((rd_T74 l0_2 x11_2).f1) ++ (⟨#[32, 13, 10]⟩ : ByteArray)).size ≤ 9223372036854775807
                                                    · rw [if_pos c52] at H
                                                      have c52e := c52
                                                      (try simp only [ByteArray.size_append, gt_iff_lt, ge_iff_le, show (⟨#[32, 13, 10]⟩ : ByteArray).size = 3 from rfl] at c52e)
                                                      (try push_cast at c52e)
                                                      (try (have c52e2 := decide_eq_true c52e))
                                                      (try replace c52e := eq_true c52e)
                                                      have c52b0 := eq_true c52
                                                      have c52b1 : decide (x9_4.size + (((rd_T74 l0_2 x11_2).f1) ++ (⟨#[32, 13, 10]⟩ : ByteArray)).size ≤ 9223372036854775807) = true := decide_eq_true c52
                                                      try have c52b2 : (9223372036854775807 < x9_4.size + (((rd_T74 l0_2 x11_2).f1) ++ (⟨#[32, 13, 10]⟩ : ByteArray)).size) = False := eq_false (Nat.not_lt.2 c52)
                                                      have c52b8 : (9223372036854775807 < x9_4.size + (((rd_T74 l0_2 x11_2).f1).size + 3)) = False := by have h_ := c52; simp only [ByteArray.size_append] at h_; exact eq_false (Nat.not_lt.2 h_)
                                                      have H' := Aside0.mk H
                                                      clear H
                                                      have hcz53_0 : wr.cell? ⟨gb203, 0, none⟩ = some (.string a0_0) := (blk_cell BK203.out 0).trans rfl
                                                      have hcz53_1 : wr.cell? ⟨gb203, 1, none⟩ = some (.string a0_1) := (blk_cell BK203.out 1).trans rfl
                                                      have hcz53_2 : wr.cell? ⟨gb203, 2, none⟩ = some (.slice (some ad208) l0_2.length c0_2) := (blk_cell BK203.out 2).trans rfl
                                                      have hcz53_3 : wr.cell? ⟨gb203, 3, none⟩ = some (.string a0_3) := (blk_cell BK203.out 3).trans rfl
                                                      have hfz53_0 := blk_frozen BK203.out 0
                                                      have hfz53_1 := blk_frozen BK203.out 1
                                                      have hfz53_2 := blk_frozen BK203.out 2
                                                      have hfz53_3 := blk_frozen BK203.out 3
                                                      have p214 : 0 ≤ (x11_2 : Int) := of_decide_eq_true (by first | (with_reducible assumption) | assumption)
                                                      have q214 : x11_2 < (l0_2.length : Int) := of_decide_eq_true (by first | (with_reducible assumption) | assumption)
                                                      obtain ⟨ad214, e214, hx214_0, hx214_1⟩ := at_T74 HR0_2.out x11_2 p214 q214
                                                      obtain rfl : ad208 = ad214 := (by injection e214)
                                                      replace hx214_0 := (HB.out.cell (World.block_lt_of_cell? w _ hx214_0)).trans hx214_0
                                                      replace hx214_1 := (HB.out.cell (World.block_lt_of_cell? w _ hx214_1)).trans hx214_1
                                                      replace p214 := eq_true p214
                                                      replace q214 := eq_true q214
                                                      go_wp2
                                                      go_roundg k4
                                                      case measure => have := HJ6.out; have := HK2.out; have := HJ22.out; have := HK4.out; omega
                                                      case rel => exact ⟨(x9_4 ++ (((rd_T74 l0_2 x11_2).f1) ++ (⟨#[32, 13, 10]⟩ : ByteArray))), (wrap64 (x11_2 + 1)), (by first | rfl | (simp; done) | (simp [*]; done)), (by first | rfl | (simp; done) | (simp [*]; done)), H', ⟨by have := HJ6.out; have := HK2.out; have := HJ22.out; have := HK4.out; omega⟩, ⟨by (with_reducible repeat (first | refine blk_drewN ?_ _ | refine blk_drew ?_ | refine blk_alloc ?_ _)); exact BK203.out⟩, ⟨by repeat (first | (with_reducible first | exact HB.out | apply below_alloc | apply pw_below_drewN | apply below_drew1 | refine below_set ?_ GE203.out) | exact HB.out)⟩⟩
                                                    · rw [if_neg c52] at H
                                                      have c52e := c52
                                                      (try simp only [ByteArray.size_append, gt_iff_lt, ge_iff_le, show (⟨#[32, 13, 10]⟩ : ByteArray).size = 3 from rfl] at c52e)
                                                      (try push_cast at c52e)
                                                      (try (have c52e2 := decide_eq_false c52e))
                                                      (try replace c52e := eq_false c52e)
                                                      exact absurd H (by simp)
                                                  · rw [if_neg c51] at H
                                                    exact absurd H (by simp)
                                                · rw [if_neg c50] at H
                                                  exact absurd H (by simp)
                                              · rw [if_neg c49] at H
                                                exact absurd H (by simp)
                                      · rw [if_neg c37] at H
                                        have c37e := c37
                                        (try simp only [ByteArray.size_append, gt_iff_lt, ge_iff_le, show (⟨#[58]⟩ : ByteArray).size = 1 from rfl] at c37e)
                                        (try push_cast at c37e)
                                        (try (have c37e2 := decide_eq_false c37e))
                                        (try replace c37e := eq_false c37e)
                                        exact absurd H (by simp)
                                    · rw [if_neg c36] at H
                                      exact absurd H (by simp)
                                  · rw [if_neg c35] at H
                                    exact absurd H (by simp)
                                · rw [if_neg c34] at H
                                  exact absurd H (by simp)
                        · rw [if_neg c22] at H
                          have c22b0 : decide (x11_2 ≤ (l0_2.length : Int)) = false := decide_eq_false c22
                          clear c22
                          (first | rw [c22b0] | (simp only [i64_w, i32_w]; rw [c22b0]) | skip)
                          have H' := Aside0.mk H
                          clear H
                          have hcz54_0 : wr.cell? ⟨gb203, 0, none⟩ = some (.string a0_0) := (blk_cell BK203.out 0).trans rfl
                          have hcz54_1 : wr.cell? ⟨gb203, 1, none⟩ = some (.string a0_1) := (blk_cell BK203.out 1).trans rfl
                          have hcz54_2 : wr.cell? ⟨gb203, 2, none⟩ = some (.slice A0_2 l0_2.length c0_2) := (blk_cell BK203.out 2).trans rfl
                          have hcz54_3 : wr.cell? ⟨gb203, 3, none⟩ = some (.string a0_3) := (blk_cell BK203.out 3).trans rfl
                          have hfz54_0 := blk_frozen BK203.out 0
                          have hfz54_1 := blk_frozen BK203.out 1
                          have hfz54_2 := blk_frozen BK203.out 2
                          have hfz54_3 := blk_frozen BK203.out 3
                          go_wp2
                          go_meet
                          case rel => exact ⟨_, (x9_2), (by first | rfl | (simp; done) | (simp [*]; done)), H', ⟨by have := HJ6.out; have := HK2.out; first | omega | exact Nat.le_refl _⟩, ⟨by (with_reducible repeat (first | refine blk_drewN ?_ _ | refine blk_drew ?_ | refine blk_alloc ?_ _)); exact BK203.out⟩, ⟨by repeat (first | (with_reducible first | exact HB.out | apply below_alloc | apply pw_below_drewN | apply below_drew1 | refine below_set ?_ GE203.out) | exact HB.out)⟩⟩
                  case rest =>
                    clear HC20
                    try clear c1
                    try clear c2
                    try clear p2
                    try clear q2
                    try clear hx2
                    try clear c3
                    try clear c4
                    try clear c5
                    try clear p6
                    try clear c12
                    try clear c12b0
                    try clear c12b1
                    try clear c13
                    try clear c13b0
                    try clear c13b1
                    try clear c15
                    try clear c16
                    try clear c16b0
                    try clear c16b1
                    try clear c16b2
                    try clear c17
                    try clear c17b0
                    try clear c17b1
                    try clear c17b2
                    try clear c18
                    try clear c18b0
                    try clear c18b1
                    try clear c18b2
                    try clear c19
                    try clear c19b0
                    try clear c19b1
                    try clear p20
                    try clear q20
                    try clear hx20
                    try clear p21
                    try clear q21
                    try clear hx21
                    try clear c22
                    try clear c22b0
                    try clear c25
                    try clear c25b0
                    try clear c25b1
                    try clear c27
                    try clear c27b0
                    try clear c27b1
                    try clear c27b2
                    try clear c28
                    try clear c28b0
                    try clear c28b1
                    try clear c28b2
                    try clear c29
                    try clear c29b0
                    try clear c29b1
                    try clear c29b2
                    try clear c31
                    try clear c32
                    try clear c32b0
                    try clear c32b1
                    try clear c34
                    try clear c34b0
                    try clear c35
                    try clear c35b0
                    try clear c36
                    try clear c36b0
                    try clear c36b1
                    try clear c36b2
                    try clear c37
                    try clear c37b0
                    try clear c37b1
                    try clear c37b2
                    try clear c39
                    try clear c39b0
                    try clear c40
                    try clear c40b0
                    try clear c41
                    try clear c41b0
                    try clear c43
                    try clear c43b0
                    try clear c44
                    try clear c44b0
                    try clear c45
                    try clear c45b0
                    try clear c45b1
                    try clear c45b2
                    try clear c49
                    try clear c49b0
                    try clear c50
                    try clear c50b0
                    try clear c51
                    try clear c51b0
                    try clear c51b1
                    try clear c51b2
                    try clear c52
                    try clear c52b0
                    try clear c52b1
                    try clear c52b2
                    try clear hcz10_0
                    try clear hcz10_1
                    try clear hcz10_2
                    try clear hcz10_3
                    try clear hcz14_0
                    try clear hcz14_1
                    try clear hcz14_2
                    try clear hcz14_3
                    try clear hcz21_0
                    try clear hcz21_1
                    try clear hcz21_2
                    try clear hcz21_3
                    try clear hcz24_0
                    try clear hcz24_1
                    try clear hcz24_2
                    try clear hcz24_3
                    try clear hcz30_0
                    try clear hcz30_1
                    try clear hcz30_2
                    try clear hcz30_3
                    try clear hcz33_0
                    try clear hcz33_1
                    try clear hcz33_2
                    try clear hcz33_3
                    try clear hcz38_0
                    try clear hcz38_1
                    try clear hcz38_2
                    try clear hcz38_3
                    try clear hcz53_0
                    try clear hcz53_1
                    try clear hcz53_2
                    try clear hcz53_3
                    try clear hcz54_0
                    try clear hcz54_1
                    try clear hcz54_2
                    try clear hcz54_3
                    try clear hfz10_0
                    try clear hfz10_1
                    try clear hfz10_2
                    try clear hfz10_3
                    try clear hfz14_0
                    try clear hfz14_1
                    try clear hfz14_2
                    try clear hfz14_3
                    try clear hfz21_0
                    try clear hfz21_1
                    try clear hfz21_2
                    try clear hfz21_3
                    try clear hfz24_0
                    try clear hfz24_1
                    try clear hfz24_2
                    try clear hfz24_3
                    try clear hfz30_0
                    try clear hfz30_1
                    try clear hfz30_2
                    try clear hfz30_3
                    try clear hfz33_0
                    try clear hfz33_1
                    try clear hfz33_2
                    try clear hfz33_3
                    try clear hfz38_0
                    try clear hfz38_1
                    try clear hfz38_2
                    try clear hfz38_3
                    try clear hfz53_0
                    try clear hfz53_1
                    try clear hfz53_2
                    try clear hfz53_3
                    try clear hfz54_0
                    try clear hfz54_1
                    try clear hfz54_2
                    try clear hfz54_3
                    try clear hx208_0
                    try clear hx208_1
                    try clear hx209_0
                    try clear hx213_0
                    try clear hx214_0
                    try clear hx214_1
                    try clear p2
                    try clear p20
                    try clear p208
                    try clear p209
                    try clear p213
                    try clear p214
                    try clear p6
                    try clear q2
                    try clear q20
                    try clear q208
                    try clear q209
                    try clear q213
                    try clear q214
                    obtain ⟨kq, x9_19, rfl, HA, HJ19, BK203, HB⟩ := hcut
                    cases kq with
                    | zero => exact absurd HA.out (by simp [calepinlaw08_HttpFields.j4])
                    | succ kj19 =>
                      have H := HA.out
                      clear HA
                      simp only [calepinlaw08_HttpFields.j4] at H
                      by_cases c55 : 2 + a0_3.size ≤ 9223372036854775807
                      · rw [if_pos c55] at H
                        have c55b0 := eq_true c55
                        have c55b1 : decide (2 + a0_3.size ≤ 9223372036854775807) = true := decide_eq_true c55
                        try have c55b2 : (9223372036854775807 < 2 + a0_3.size) = False := eq_false (Nat.not_lt.2 c55)
                        by_cases c56 : x9_19.size + ((⟨#[13, 10]⟩ : ByteArray) ++ a0_3).size ≤ 9223372036854775807
                        · rw [if_pos c56] at H
                          have c56e := c56
                          (try simp only [ByteArray.size_append, gt_iff_lt, ge_iff_le, show (⟨#[13, 10]⟩ : ByteArray).size = 2 from rfl] at c56e)
                          (try push_cast at c56e)
                          (try (have c56e2 := decide_eq_true c56e))
                          (try replace c56e := eq_true c56e)
                          have c56b0 := eq_true c56
                          have c56b1 : decide (x9_19.size + ((⟨#[13, 10]⟩ : ByteArray) ++ a0_3).size ≤ 9223372036854775807) = true := decide_eq_true c56
                          try have c56b2 : (9223372036854775807 < x9_19.size + ((⟨#[13, 10]⟩ : ByteArray) ++ a0_3).size) = False := eq_false (Nat.not_lt.2 c56)
                          have c56b8 : (9223372036854775807 < x9_19.size + (2 + a0_3.size)) = False := by have h_ := c56; simp only [ByteArray.size_append] at h_; exact eq_false (Nat.not_lt.2 h_)
                          replace H := Option.bind_eq_some_iff.mp H
                          obtain ⟨⟨t215, t216, t217, t220, t221, t222⟩, A570, H⟩ := H
                          replace H : (if (wrap64 (((x9_19 ++ ((⟨#[13, 10]⟩ : ByteArray) ++ a0_3)).size : Int) - (a0_3.size : Int))) > 8192 then (some true) else (if t222 = 0 then (if t221 = ((x9_19 ++ ((⟨#[13, 10]⟩ : ByteArray) ++ a0_3)).size : Int) then (if t220.toList = a0_3.toList then ((calepinref08_Same.f kj19 t217 l0_2).bind fun t224 => (some t224)) else (some false)) else (some false)) else (some false))) = some r := H
                          have A57 := Aside0.mk A570
                          clear A570
                          by_cases c58 : (wrap64 (((x9_19 ++ ((⟨#[13, 10]⟩ : ByteArray) ++ a0_3)).size : Int) - (a0_3.size : Int))) > 8192
                          · rw [if_pos c58] at H
                            have c58e := c58
                            (try simp only [ByteArray.size_append, gt_iff_lt, ge_iff_le, show (⟨#[13, 10]⟩ : ByteArray).size = 2 from rfl] at c58e)
                            (try push_cast at c58e)
                            (try (have c58e2 := decide_eq_true c58e))
                            (try replace c58e := eq_true c58e)
                            have c58b0 : decide (8192 < (wrap64 (((x9_19 ++ ((⟨#[13, 10]⟩ : ByteArray) ++ a0_3)).size : Int) - (a0_3.size : Int)))) = true := decide_eq_true c58
                            clear c58
                            obtain rfl := Option.some.inj H
                            have hcz59_0 : wc.cell? ⟨gb203, 0, none⟩ = some (.string a0_0) := (blk_cell BK203.out 0).trans rfl
                            have hcz59_1 : wc.cell? ⟨gb203, 1, none⟩ = some (.string a0_1) := (blk_cell BK203.out 1).trans rfl
                            have hcz59_2 : wc.cell? ⟨gb203, 2, none⟩ = some (.slice A0_2 l0_2.length c0_2) := (blk_cell BK203.out 2).trans rfl
                            have hcz59_3 : wc.cell? ⟨gb203, 3, none⟩ = some (.string a0_3) := (blk_cell BK203.out 3).trans rfl
                            have hfz59_0 := blk_frozen BK203.out 0
                            have hfz59_1 := blk_frozen BK203.out 1
                            have hfz59_2 := blk_frozen BK203.out 2
                            have hfz59_3 := blk_frozen BK203.out 3
                            go_wp2_with (first | ((with_reducible refine gate_callee (f := 48) rfl ?_); refine goesL_ (some 116) rfl rfl Tryd.func48 (by kernel_rfl) rfl #[.string (x9_19 ++ ((⟨#[13, 10]⟩ : ByteArray) ++ a0_3))] rfl (by (try simp only [List.map_toArray, List.map_cons, List.map_nil]); first | done | rfl | (simp only [List.length_drop, List.length_take]; rfl)) ?_; (with_reducible refine (http_ParseRequest.calls kj19 (x9_19 ++ ((⟨#[13, 10]⟩ : ByteArray) ++ a0_3)) t215 t216 t217 t220 t221 t222 _ ?side1 A57.out).mono ?_); (case side1 => exact LaidM.below HT.out (by repeat (first | (with_reducible first | exact HB.out | apply below_alloc | apply pw_below_drewN | apply below_drew1 | refine below_set ?_ GE203.out) | exact HB.out))); rintro e w60 ⟨v218, rfl, ho0, hb⟩; refine ⟨_, rfl, ?_⟩; have n0_ := Aside0.mk (Kd.R_lower ho0 (below_size (by repeat (first | (with_reducible first | exact HB.out | apply below_alloc | apply pw_below_drewN | apply below_drew1 | refine below_set ?_ GE203.out) | exact HB.out)))); have n1_ := Aside0.mk (blk_below (g := gb203) (o := .cells #[.string a0_0, .string a0_1, .slice A0_2 l0_2.length c0_2, .string a0_3] 65 (0, 0)) (by (with_reducible repeat (first | refine blk_drewN ?_ _ | refine blk_drew ?_ | refine blk_alloc ?_ _)); exact BK203.out) hb); have n2_ := Aside0.mk (below_step (by repeat (first | (with_reducible first | exact HB.out | apply below_alloc | apply pw_below_drewN | apply below_drew1 | refine below_set ?_ GE203.out) | exact HB.out)) hb); clear BK203; clear HB; have HO219 := n0_; have BK203 := n1_; have HB := n2_; clear n0_ n1_ n2_; (try clear hb); (try clear hb2); (try clear hk); (try clear hi); (try clear ho0)) | ((with_reducible refine gate_dst (N := 14) rfl ?_); (try (refine gate_guard (by rfl) ?_; dsimp only)); refine box_event ?hg (N := 14) ?hd (cs := #[.string (⟨#[]⟩ : ByteArray), .string (⟨#[]⟩ : ByteArray), .slice none 0 0, .string (⟨#[]⟩ : ByteArray)]) (t := 65) ?hr ?_; (case hd => rfl); (case hg => rfl); (case hr => first | (go_simp; done) | (go_simp; rfl)); intro gb223 hg w61 hbox hb; have n0_ := Aside0.mk (Kd.R_below (by (with_reducible repeat (first | apply Kd.R_alloc | apply Kd.R_drewN | apply Kd.R_drew)); exact HO219.out) hb); have n1_ := Aside0.mk (blk_below (g := gb203) (o := .cells #[.string a0_0, .string a0_1, .slice A0_2 l0_2.length c0_2, .string a0_3] 65 (0, 0)) (by (with_reducible repeat (first | refine blk_drewN ?_ _ | refine blk_drew ?_ | refine blk_alloc ?_ _)); exact BK203.out) hb); have n2_ := Aside0.mk (below_step (by repeat (first | (with_reducible first | exact HB.out | apply below_alloc | apply pw_below_drewN | apply below_drew1 | refine below_set ?_ GE203.out) | exact HB.out)) hb); have n3_ := Aside0.mk (hbox); have n4_ := Aside0.mk ((by rw [hg]; exact (below_size (by repeat (first | (with_reducible first | exact HB.out | apply below_alloc | apply pw_below_drewN | apply below_drew1 | refine below_set ?_ GE203.out) | exact HB.out))) : w.heap.size ≤ gb223)); have n5_ := Aside0.mk ((by rw [hg]; exact (below_size (by repeat (first | (with_reducible first | exact HB.out | apply below_alloc | apply pw_below_drewN | apply below_drew1 | refine below_set ?_ GE203.out) | exact HB.out))) : w.heap.size ≤ gb223)); have n6_ := Aside0.mk ((by rw [hg]; exact Nat.ne_of_lt (blk_lt (g := gb203) (o := .cells #[.string a0_0, .string a0_1, .slice A0_2 l0_2.length c0_2, .string a0_3] 65 (0, 0)) (by (with_reducible repeat (first | refine blk_drewN ?_ _ | refine blk_drew ?_ | refine blk_alloc ?_ _)); exact BK203.out)) : gb203 ≠ gb223)); have n7_ := Aside0.mk ((by rw [hg]; exact Nat.ne_of_gt (blk_lt (g := gb203) (o := .cells #[.string a0_0, .string a0_1, .slice A0_2 l0_2.length c0_2, .string a0_3] 65 (0, 0)) (by (with_reducible repeat (first | refine blk_drewN ?_ _ | refine blk_drew ?_ | refine blk_alloc ?_ _)); exact BK203.out)) : gb223 ≠ gb203)); clear HO219; clear BK203; clear HB; have HO219 := n0_; have BK203 := n1_; have HB := n2_; have BK223 := n3_; have GW223 := n4_; have GE223 := n5_; have NB203_223 := n6_; have NB223_203 := n7_; clear n0_ n1_ n2_ n3_ n4_ n5_ n6_ n7_; clear hb hbox hg; have hnb62 := NB223_203.out; have hnc62 := NB203_223.out; have hcz63_0 : w61.cell? ⟨gb223, 0, none⟩ = some (.string (⟨#[]⟩ : ByteArray)) := (blk_cell BK223.out 0).trans rfl; have hcz63_1 : w61.cell? ⟨gb223, 1, none⟩ = some (.string (⟨#[]⟩ : ByteArray)) := (blk_cell BK223.out 1).trans rfl; have hcz63_2 : w61.cell? ⟨gb223, 2, none⟩ = some (.slice none 0 0) := (blk_cell BK223.out 2).trans rfl; have hcz63_3 : w61.cell? ⟨gb223, 3, none⟩ = some (.string (⟨#[]⟩ : ByteArray)) := (blk_cell BK223.out 3).trans rfl; have hfz63_0 := blk_frozen BK223.out 0; have hfz63_1 := blk_frozen BK223.out 1; have hfz63_2 := blk_frozen BK223.out 2; have hfz63_3 := blk_frozen BK223.out 3; obtain ⟨Ao64, co64, eo64⟩ := Kd.R_slice HO219.out; subst eo64; have hcz65_0 : w61.cell? ⟨gb203, 0, none⟩ = some (.string a0_0) := (blk_cell BK203.out 0).trans rfl; have hcz65_1 : w61.cell? ⟨gb203, 1, none⟩ = some (.string a0_1) := (blk_cell BK203.out 1).trans rfl; have hcz65_2 : w61.cell? ⟨gb203, 2, none⟩ = some (.slice A0_2 l0_2.length c0_2) := (blk_cell BK203.out 2).trans rfl; have hcz65_3 : w61.cell? ⟨gb203, 3, none⟩ = some (.string a0_3) := (blk_cell BK203.out 3).trans rfl; have hfz65_0 := blk_frozen BK203.out 0; have hfz65_1 := blk_frozen BK203.out 1; have hfz65_2 := blk_frozen BK203.out 2; have hfz65_3 := blk_frozen BK203.out 3))
                            go_ret
                            exact ⟨by first | rfl | (simp [errW_none, errW_some] <;> rfl) | (simp [*, errW_none, errW_some] <;> rfl), by repeat (first | (with_reducible first | exact HB.out | apply below_alloc | apply pw_below_drewN | apply below_drew1 | refine below_set ?_ GE203.out | refine below_set ?_ GE223.out) | exact HB.out)⟩
                          · rw [if_neg c58] at H
                            have c58e := c58
                            (try simp only [ByteArray.size_append, gt_iff_lt, ge_iff_le, show (⟨#[13, 10]⟩ : ByteArray).size = 2 from rfl] at c58e)
                            (try push_cast at c58e)
                            (try (have c58e2 := decide_eq_false c58e))
                            (try replace c58e := eq_false c58e)
                            have c58b0 : decide (8192 < (wrap64 (((x9_19 ++ ((⟨#[13, 10]⟩ : ByteArray) ++ a0_3)).size : Int) - (a0_3.size : Int)))) = false := decide_eq_false c58
                            clear c58
                            by_cases c66 : t222 = 0
                            · rw [if_pos c66] at H
                              have c66b0 : (t222 == 0) = true := beq_iff_eq.mpr c66
                              have c66b1 : (t222 != 0) = false := bne_eq_false_iff_eq.mpr c66
                              clear c66
                              by_cases c67 : t221 = ((x9_19 ++ ((⟨#[13, 10]⟩ : ByteArray) ++ a0_3)).size : Int)
                              · rw [if_pos c67] at H
                                have c67e := c67
                                (try simp only [ByteArray.size_append, gt_iff_lt, ge_iff_le, show (⟨#[13, 10]⟩ : ByteArray).size = 2 from rfl] at c67e)
                                (try push_cast at c67e)
                                (try (have c67e1 := beq_iff_eq.mpr c67e))
                                (try (have c67e2 := bne_eq_false_iff_eq.mpr c67e))
                                (try replace c67e := eq_true c67e)
                                have c67b0 : (t221 == ((x9_19 ++ ((⟨#[13, 10]⟩ : ByteArray) ++ a0_3)).size : Int)) = true := beq_iff_eq.mpr c67
                                have c67b1 : (t221 != ((x9_19 ++ ((⟨#[13, 10]⟩ : ByteArray) ++ a0_3)).size : Int)) = false := bne_eq_false_iff_eq.mpr c67
                                clear c67
                                by_cases c68 : t220.toList = a0_3.toList
                                · rw [if_pos c68] at H
                                  have c68b0 : (t220.toList == a0_3.toList) = true := beq_iff_eq.mpr c68
                                  have c68b1 : (t220.toList != a0_3.toList) = false := bne_eq_false_iff_eq.mpr c68
                                  clear c68
                                  replace H := Option.bind_eq_some_iff.mp H
                                  obtain ⟨t224, A690, H⟩ := H
                                  replace H : (some t224) = some r := H
                                  have A69 := Aside0.mk A690
                                  clear A690
                                  obtain rfl := Option.some.inj H
                                  have hcz70_0 : wc.cell? ⟨gb203, 0, none⟩ = some (.string a0_0) := (blk_cell BK203.out 0).trans rfl
                                  have hcz70_1 : wc.cell? ⟨gb203, 1, none⟩ = some (.string a0_1) := (blk_cell BK203.out 1).trans rfl
                                  have hcz70_2 : wc.cell? ⟨gb203, 2, none⟩ = some (.slice A0_2 l0_2.length c0_2) := (blk_cell BK203.out 2).trans rfl
                                  have hcz70_3 : wc.cell? ⟨gb203, 3, none⟩ = some (.string a0_3) := (blk_cell BK203.out 3).trans rfl
                                  have hfz70_0 := blk_frozen BK203.out 0
                                  have hfz70_1 := blk_frozen BK203.out 1
                                  have hfz70_2 := blk_frozen BK203.out 2
                                  have hfz70_3 := blk_frozen BK203.out 3
                                  go_wp2_with (first | ((with_reducible refine gate_callee (f := 48) rfl ?_); refine goesL_ (some 116) rfl rfl Tryd.func48 (by kernel_rfl) rfl #[.string (x9_19 ++ ((⟨#[13, 10]⟩ : ByteArray) ++ a0_3))] rfl (by (try simp only [List.map_toArray, List.map_cons, List.map_nil]); first | done | rfl | (simp only [List.length_drop, List.length_take]; rfl)) ?_; (with_reducible refine (http_ParseRequest.calls kj19 (x9_19 ++ ((⟨#[13, 10]⟩ : ByteArray) ++ a0_3)) t215 t216 t217 t220 t221 t222 _ ?side1 A57.out).mono ?_); (case side1 => exact LaidM.below HT.out (by repeat (first | (with_reducible first | exact HB.out | apply below_alloc | apply pw_below_drewN | apply below_drew1 | refine below_set ?_ GE203.out) | exact HB.out))); rintro e w71 ⟨v218, rfl, ho0, hb⟩; refine ⟨_, rfl, ?_⟩; have n0_ := Aside0.mk (Kd.R_lower ho0 (below_size (by repeat (first | (with_reducible first | exact HB.out | apply below_alloc | apply pw_below_drewN | apply below_drew1 | refine below_set ?_ GE203.out) | exact HB.out)))); have n1_ := Aside0.mk (blk_below (g := gb203) (o := .cells #[.string a0_0, .string a0_1, .slice A0_2 l0_2.length c0_2, .string a0_3] 65 (0, 0)) (by (with_reducible repeat (first | refine blk_drewN ?_ _ | refine blk_drew ?_ | refine blk_alloc ?_ _)); exact BK203.out) hb); have n2_ := Aside0.mk (below_step (by repeat (first | (with_reducible first | exact HB.out | apply below_alloc | apply pw_below_drewN | apply below_drew1 | refine below_set ?_ GE203.out) | exact HB.out)) hb); clear BK203; clear HB; have HO219 := n0_; have BK203 := n1_; have HB := n2_; clear n0_ n1_ n2_; (try clear hb); (try clear hb2); (try clear hk); (try clear hi); (try clear ho0)) | ((with_reducible refine gate_dst (N := 14) rfl ?_); (try (refine gate_guard (by rfl) ?_; dsimp only)); refine box_event ?hg (N := 14) ?hd (cs := #[.string (⟨#[]⟩ : ByteArray), .string (⟨#[]⟩ : ByteArray), .slice none 0 0, .string (⟨#[]⟩ : ByteArray)]) (t := 65) ?hr ?_; (case hd => rfl); (case hg => rfl); (case hr => first | (go_simp; done) | (go_simp; rfl)); intro gb223 hg w72 hbox hb; have n0_ := Aside0.mk (Kd.R_below (by (with_reducible repeat (first | apply Kd.R_alloc | apply Kd.R_drewN | apply Kd.R_drew)); exact HO219.out) hb); have n1_ := Aside0.mk (blk_below (g := gb203) (o := .cells #[.string a0_0, .string a0_1, .slice A0_2 l0_2.length c0_2, .string a0_3] 65 (0, 0)) (by (with_reducible repeat (first | refine blk_drewN ?_ _ | refine blk_drew ?_ | refine blk_alloc ?_ _)); exact BK203.out) hb); have n2_ := Aside0.mk (below_step (by repeat (first | (with_reducible first | exact HB.out | apply below_alloc | apply pw_below_drewN | apply below_drew1 | refine below_set ?_ GE203.out) | exact HB.out)) hb); have n3_ := Aside0.mk (hbox); have n4_ := Aside0.mk ((by rw [hg]; exact (below_size (by repeat (first | (with_reducible first | exact HB.out | apply below_alloc | apply pw_below_drewN | apply below_drew1 | refine below_set ?_ GE203.out) | exact HB.out))) : w.heap.size ≤ gb223)); have n5_ := Aside0.mk ((by rw [hg]; exact (below_size (by repeat (first | (with_reducible first | exact HB.out | apply below_alloc | apply pw_below_drewN | apply below_drew1 | refine below_set ?_ GE203.out) | exact HB.out))) : w.heap.size ≤ gb223)); have n6_ := Aside0.mk ((by rw [hg]; exact Nat.ne_of_lt (blk_lt (g := gb203) (o := .cells #[.string a0_0, .string a0_1, .slice A0_2 l0_2.length c0_2, .string a0_3] 65 (0, 0)) (by (with_reducible repeat (first | refine blk_drewN ?_ _ | refine blk_drew ?_ | refine blk_alloc ?_ _)); exact BK203.out)) : gb203 ≠ gb223)); have n7_ := Aside0.mk ((by rw [hg]; exact Nat.ne_of_gt (blk_lt (g := gb203) (o := .cells #[.string a0_0, .string a0_1, .slice A0_2 l0_2.length c0_2, .string a0_3] 65 (0, 0)) (by (with_reducible repeat (first | refine blk_drewN ?_ _ | refine blk_drew ?_ | refine blk_alloc ?_ _)); exact BK203.out)) : gb223 ≠ gb203)); clear HO219; clear BK203; clear HB; have HO219 := n0_; have BK203 := n1_; have HB := n2_; have BK223 := n3_; have GW223 := n4_; have GE223 := n5_; have NB203_223 := n6_; have NB223_203 := n7_; clear n0_ n1_ n2_ n3_ n4_ n5_ n6_ n7_; clear hb hbox hg; have hnb73 := NB223_203.out; have hnc73 := NB203_223.out; have hcz74_0 : w72.cell? ⟨gb223, 0, none⟩ = some (.string (⟨#[]⟩ : ByteArray)) := (blk_cell BK223.out 0).trans rfl; have hcz74_1 : w72.cell? ⟨gb223, 1, none⟩ = some (.string (⟨#[]⟩ : ByteArray)) := (blk_cell BK223.out 1).trans rfl; have hcz74_2 : w72.cell? ⟨gb223, 2, none⟩ = some (.slice none 0 0) := (blk_cell BK223.out 2).trans rfl; have hcz74_3 : w72.cell? ⟨gb223, 3, none⟩ = some (.string (⟨#[]⟩ : ByteArray)) := (blk_cell BK223.out 3).trans rfl; have hfz74_0 := blk_frozen BK223.out 0; have hfz74_1 := blk_frozen BK223.out 1; have hfz74_2 := blk_frozen BK223.out 2; have hfz74_3 := blk_frozen BK223.out 3; obtain ⟨Ao75, co75, eo75⟩ := Kd.R_slice HO219.out; subst eo75; have hcz76_0 : w72.cell? ⟨gb203, 0, none⟩ = some (.string a0_0) := (blk_cell BK203.out 0).trans rfl; have hcz76_1 : w72.cell? ⟨gb203, 1, none⟩ = some (.string a0_1) := (blk_cell BK203.out 1).trans rfl; have hcz76_2 : w72.cell? ⟨gb203, 2, none⟩ = some (.slice A0_2 l0_2.length c0_2) := (blk_cell BK203.out 2).trans rfl; have hcz76_3 : w72.cell? ⟨gb203, 3, none⟩ = some (.string a0_3) := (blk_cell BK203.out 3).trans rfl; have hfz76_0 := blk_frozen BK203.out 0; have hfz76_1 := blk_frozen BK203.out 1; have hfz76_2 := blk_frozen BK203.out 2; have hfz76_3 := blk_frozen BK203.out 3) | (go_at_call 50; (with_reducible refine (calepinref08_Same.calls kj19 _ _ t217 _ _ l0_2 t224 _ ?side1 ?side2 ?side3 ?side4 A69.out).mono ?_); (case side1 => refine (Kd.R_reads' (e := 74) (base := w.heap.size) (ok := fun k_ => True) (n := t217.length) (c := co75) ?_).2.2; exact (by (with_reducible repeat (first | apply Kd.R_alloc | apply Kd.R_drewN | apply Kd.R_drew)); exact (Kd.R_mono (Kd.R_far (p := ⟨gb223, 3, none⟩) (Kd.R_far (p := ⟨gb223, 2, none⟩) (Kd.R_far (p := ⟨gb223, 1, none⟩) (Kd.R_far (p := ⟨gb223, 0, none⟩) (Kd.R_types HO219.out BK223.out (by decide)) (fun _ hk => hk.2) (.string t215)) (fun _ hk => hk.2) (.string t216)) (fun _ hk => hk.2) (.slice Ao75 t217.length co75)) (fun _ hk => hk.2) (.string t220)) (fun _ h_ => h_.1)))); (case side2 => exact (Kd.R_reads' HO219.out).2.1); (case side3 => exact Kd.C_below HR0_2.out (by repeat (first | (with_reducible first | exact HB.out | apply below_alloc | apply pw_below_drewN | apply below_drew1 | refine below_set ?_ GE203.out | refine below_set ?_ GE223.out) | exact HB.out))); (case side4 => exact HC0_2.out); rintro e w' ⟨rfl, ⟨nd, rfl⟩⟩))
                                  go_ret
                                  exact ⟨by first | rfl | (simp [errW_none, errW_some] <;> rfl) | (simp [*, errW_none, errW_some] <;> rfl), by repeat (first | (with_reducible first | exact HB.out | apply below_alloc | apply pw_below_drewN | apply below_drew1 | refine below_set ?_ GE203.out | refine below_set ?_ GE223.out) | exact HB.out)⟩
                                · rw [if_neg c68] at H
                                  have c68b0 : (t220.toList == a0_3.toList) = false := beq_eq_false_iff_ne.mpr c68
                                  have c68b1 : (t220.toList != a0_3.toList) = true := bne_iff_ne.mpr c68
                                  obtain rfl := Option.some.inj H
                                  have hcz77_0 : wc.cell? ⟨gb203, 0, none⟩ = some (.string a0_0) := (blk_cell BK203.out 0).trans rfl
                                  have hcz77_1 : wc.cell? ⟨gb203, 1, none⟩ = some (.string a0_1) := (blk_cell BK203.out 1).trans rfl
                                  have hcz77_2 : wc.cell? ⟨gb203, 2, none⟩ = some (.slice A0_2 l0_2.length c0_2) := (blk_cell BK203.out 2).trans rfl
                                  have hcz77_3 : wc.cell? ⟨gb203, 3, none⟩ = some (.string a0_3) := (blk_cell BK203.out 3).trans rfl
                                  have hfz77_0 := blk_frozen BK203.out 0
                                  have hfz77_1 := blk_frozen BK203.out 1
                                  have hfz77_2 := blk_frozen BK203.out 2
                                  have hfz77_3 := blk_frozen BK203.out 3
                                  go_wp2_with (first | ((with_reducible refine gate_callee (f := 48) rfl ?_); refine goesL_ (some 116) rfl rfl Tryd.func48 (by kernel_rfl) rfl #[.string (x9_19 ++ ((⟨#[13, 10]⟩ : ByteArray) ++ a0_3))] rfl (by (try simp only [List.map_toArray, List.map_cons, List.map_nil]); first | done | rfl | (simp only [List.length_drop, List.length_take]; rfl)) ?_; (with_reducible refine (http_ParseRequest.calls kj19 (x9_19 ++ ((⟨#[13, 10]⟩ : ByteArray) ++ a0_3)) t215 t216 t217 t220 t221 t222 _ ?side1 A57.out).mono ?_); (case side1 => exact LaidM.below HT.out (by repeat (first | (with_reducible first | exact HB.out | apply below_alloc | apply pw_below_drewN | apply below_drew1 | refine below_set ?_ GE203.out) | exact HB.out))); rintro e w78 ⟨v218, rfl, ho0, hb⟩; refine ⟨_, rfl, ?_⟩; have n0_ := Aside0.mk (Kd.R_lower ho0 (below_size (by repeat (first | (with_reducible first | exact HB.out | apply below_alloc | apply pw_below_drewN | apply below_drew1 | refine below_set ?_ GE203.out) | exact HB.out)))); have n1_ := Aside0.mk (blk_below (g := gb203) (o := .cells #[.string a0_0, .string a0_1, .slice A0_2 l0_2.length c0_2, .string a0_3] 65 (0, 0)) (by (with_reducible repeat (first | refine blk_drewN ?_ _ | refine blk_drew ?_ | refine blk_alloc ?_ _)); exact BK203.out) hb); have n2_ := Aside0.mk (below_step (by repeat (first | (with_reducible first | exact HB.out | apply below_alloc | apply pw_below_drewN | apply below_drew1 | refine below_set ?_ GE203.out) | exact HB.out)) hb); clear BK203; clear HB; have HO219 := n0_; have BK203 := n1_; have HB := n2_; clear n0_ n1_ n2_; (try clear hb); (try clear hb2); (try clear hk); (try clear hi); (try clear ho0)) | ((with_reducible refine gate_dst (N := 14) rfl ?_); (try (refine gate_guard (by rfl) ?_; dsimp only)); refine box_event ?hg (N := 14) ?hd (cs := #[.string (⟨#[]⟩ : ByteArray), .string (⟨#[]⟩ : ByteArray), .slice none 0 0, .string (⟨#[]⟩ : ByteArray)]) (t := 65) ?hr ?_; (case hd => rfl); (case hg => rfl); (case hr => first | (go_simp; done) | (go_simp; rfl)); intro gb223 hg w79 hbox hb; have n0_ := Aside0.mk (Kd.R_below (by (with_reducible repeat (first | apply Kd.R_alloc | apply Kd.R_drewN | apply Kd.R_drew)); exact HO219.out) hb); have n1_ := Aside0.mk (blk_below (g := gb203) (o := .cells #[.string a0_0, .string a0_1, .slice A0_2 l0_2.length c0_2, .string a0_3] 65 (0, 0)) (by (with_reducible repeat (first | refine blk_drewN ?_ _ | refine blk_drew ?_ | refine blk_alloc ?_ _)); exact BK203.out) hb); have n2_ := Aside0.mk (below_step (by repeat (first | (with_reducible first | exact HB.out | apply below_alloc | apply pw_below_drewN | apply below_drew1 | refine below_set ?_ GE203.out) | exact HB.out)) hb); have n3_ := Aside0.mk (hbox); have n4_ := Aside0.mk ((by rw [hg]; exact (below_size (by repeat (first | (with_reducible first | exact HB.out | apply below_alloc | apply pw_below_drewN | apply below_drew1 | refine below_set ?_ GE203.out) | exact HB.out))) : w.heap.size ≤ gb223)); have n5_ := Aside0.mk ((by rw [hg]; exact (below_size (by repeat (first | (with_reducible first | exact HB.out | apply below_alloc | apply pw_below_drewN | apply below_drew1 | refine below_set ?_ GE203.out) | exact HB.out))) : w.heap.size ≤ gb223)); have n6_ := Aside0.mk ((by rw [hg]; exact Nat.ne_of_lt (blk_lt (g := gb203) (o := .cells #[.string a0_0, .string a0_1, .slice A0_2 l0_2.length c0_2, .string a0_3] 65 (0, 0)) (by (with_reducible repeat (first | refine blk_drewN ?_ _ | refine blk_drew ?_ | refine blk_alloc ?_ _)); exact BK203.out)) : gb203 ≠ gb223)); have n7_ := Aside0.mk ((by rw [hg]; exact Nat.ne_of_gt (blk_lt (g := gb203) (o := .cells #[.string a0_0, .string a0_1, .slice A0_2 l0_2.length c0_2, .string a0_3] 65 (0, 0)) (by (with_reducible repeat (first | refine blk_drewN ?_ _ | refine blk_drew ?_ | refine blk_alloc ?_ _)); exact BK203.out)) : gb223 ≠ gb203)); clear HO219; clear BK203; clear HB; have HO219 := n0_; have BK203 := n1_; have HB := n2_; have BK223 := n3_; have GW223 := n4_; have GE223 := n5_; have NB203_223 := n6_; have NB223_203 := n7_; clear n0_ n1_ n2_ n3_ n4_ n5_ n6_ n7_; clear hb hbox hg; have hnb80 := NB223_203.out; have hnc80 := NB203_223.out; have hcz81_0 : w79.cell? ⟨gb223, 0, none⟩ = some (.string (⟨#[]⟩ : ByteArray)) := (blk_cell BK223.out 0).trans rfl; have hcz81_1 : w79.cell? ⟨gb223, 1, none⟩ = some (.string (⟨#[]⟩ : ByteArray)) := (blk_cell BK223.out 1).trans rfl; have hcz81_2 : w79.cell? ⟨gb223, 2, none⟩ = some (.slice none 0 0) := (blk_cell BK223.out 2).trans rfl; have hcz81_3 : w79.cell? ⟨gb223, 3, none⟩ = some (.string (⟨#[]⟩ : ByteArray)) := (blk_cell BK223.out 3).trans rfl; have hfz81_0 := blk_frozen BK223.out 0; have hfz81_1 := blk_frozen BK223.out 1; have hfz81_2 := blk_frozen BK223.out 2; have hfz81_3 := blk_frozen BK223.out 3; obtain ⟨Ao82, co82, eo82⟩ := Kd.R_slice HO219.out; subst eo82; have hcz83_0 : w79.cell? ⟨gb203, 0, none⟩ = some (.string a0_0) := (blk_cell BK203.out 0).trans rfl; have hcz83_1 : w79.cell? ⟨gb203, 1, none⟩ = some (.string a0_1) := (blk_cell BK203.out 1).trans rfl; have hcz83_2 : w79.cell? ⟨gb203, 2, none⟩ = some (.slice A0_2 l0_2.length c0_2) := (blk_cell BK203.out 2).trans rfl; have hcz83_3 : w79.cell? ⟨gb203, 3, none⟩ = some (.string a0_3) := (blk_cell BK203.out 3).trans rfl; have hfz83_0 := blk_frozen BK203.out 0; have hfz83_1 := blk_frozen BK203.out 1; have hfz83_2 := blk_frozen BK203.out 2; have hfz83_3 := blk_frozen BK203.out 3))
                                  go_ret
                                  exact ⟨by first | rfl | (simp [errW_none, errW_some] <;> rfl) | (simp [*, errW_none, errW_some] <;> rfl), by repeat (first | (with_reducible first | exact HB.out | apply below_alloc | apply pw_below_drewN | apply below_drew1 | refine below_set ?_ GE203.out | refine below_set ?_ GE223.out) | exact HB.out)⟩
                              · rw [if_neg c67] at H
                                have c67e := c67
                                (try simp only [ByteArray.size_append, gt_iff_lt, ge_iff_le, show (⟨#[13, 10]⟩ : ByteArray).size = 2 from rfl] at c67e)
                                (try push_cast at c67e)
                                (try (have c67e1 := beq_eq_false_iff_ne.mpr c67e))
                                (try (have c67e2 := bne_iff_ne.mpr c67e))
                                (try replace c67e := eq_false c67e)
                                have c67b0 : (t221 == ((x9_19 ++ ((⟨#[13, 10]⟩ : ByteArray) ++ a0_3)).size : Int)) = false := beq_eq_false_iff_ne.mpr c67
                                have c67b1 : (t221 != ((x9_19 ++ ((⟨#[13, 10]⟩ : ByteArray) ++ a0_3)).size : Int)) = true := bne_iff_ne.mpr c67
                                obtain rfl := Option.some.inj H
                                have hcz84_0 : wc.cell? ⟨gb203, 0, none⟩ = some (.string a0_0) := (blk_cell BK203.out 0).trans rfl
                                have hcz84_1 : wc.cell? ⟨gb203, 1, none⟩ = some (.string a0_1) := (blk_cell BK203.out 1).trans rfl
                                have hcz84_2 : wc.cell? ⟨gb203, 2, none⟩ = some (.slice A0_2 l0_2.length c0_2) := (blk_cell BK203.out 2).trans rfl
                                have hcz84_3 : wc.cell? ⟨gb203, 3, none⟩ = some (.string a0_3) := (blk_cell BK203.out 3).trans rfl
                                have hfz84_0 := blk_frozen BK203.out 0
                                have hfz84_1 := blk_frozen BK203.out 1
                                have hfz84_2 := blk_frozen BK203.out 2
                                have hfz84_3 := blk_frozen BK203.out 3
                                go_wp2_with (first | ((with_reducible refine gate_callee (f := 48) rfl ?_); refine goesL_ (some 116) rfl rfl Tryd.func48 (by kernel_rfl) rfl #[.string (x9_19 ++ ((⟨#[13, 10]⟩ : ByteArray) ++ a0_3))] rfl (by (try simp only [List.map_toArray, List.map_cons, List.map_nil]); first | done | rfl | (simp only [List.length_drop, List.length_take]; rfl)) ?_; (with_reducible refine (http_ParseRequest.calls kj19 (x9_19 ++ ((⟨#[13, 10]⟩ : ByteArray) ++ a0_3)) t215 t216 t217 t220 t221 t222 _ ?side1 A57.out).mono ?_); (case side1 => exact LaidM.below HT.out (by repeat (first | (with_reducible first | exact HB.out | apply below_alloc | apply pw_below_drewN | apply below_drew1 | refine below_set ?_ GE203.out) | exact HB.out))); rintro e w85 ⟨v218, rfl, ho0, hb⟩; refine ⟨_, rfl, ?_⟩; have n0_ := Aside0.mk (Kd.R_lower ho0 (below_size (by repeat (first | (with_reducible first | exact HB.out | apply below_alloc | apply pw_below_drewN | apply below_drew1 | refine below_set ?_ GE203.out) | exact HB.out)))); have n1_ := Aside0.mk (blk_below (g := gb203) (o := .cells #[.string a0_0, .string a0_1, .slice A0_2 l0_2.length c0_2, .string a0_3] 65 (0, 0)) (by (with_reducible repeat (first | refine blk_drewN ?_ _ | refine blk_drew ?_ | refine blk_alloc ?_ _)); exact BK203.out) hb); have n2_ := Aside0.mk (below_step (by repeat (first | (with_reducible first | exact HB.out | apply below_alloc | apply pw_below_drewN | apply below_drew1 | refine below_set ?_ GE203.out) | exact HB.out)) hb); clear BK203; clear HB; have HO219 := n0_; have BK203 := n1_; have HB := n2_; clear n0_ n1_ n2_; (try clear hb); (try clear hb2); (try clear hk); (try clear hi); (try clear ho0)) | ((with_reducible refine gate_dst (N := 14) rfl ?_); (try (refine gate_guard (by rfl) ?_; dsimp only)); refine box_event ?hg (N := 14) ?hd (cs := #[.string (⟨#[]⟩ : ByteArray), .string (⟨#[]⟩ : ByteArray), .slice none 0 0, .string (⟨#[]⟩ : ByteArray)]) (t := 65) ?hr ?_; (case hd => rfl); (case hg => rfl); (case hr => first | (go_simp; done) | (go_simp; rfl)); intro gb223 hg w86 hbox hb; have n0_ := Aside0.mk (Kd.R_below (by (with_reducible repeat (first | apply Kd.R_alloc | apply Kd.R_drewN | apply Kd.R_drew)); exact HO219.out) hb); have n1_ := Aside0.mk (blk_below (g := gb203) (o := .cells #[.string a0_0, .string a0_1, .slice A0_2 l0_2.length c0_2, .string a0_3] 65 (0, 0)) (by (with_reducible repeat (first | refine blk_drewN ?_ _ | refine blk_drew ?_ | refine blk_alloc ?_ _)); exact BK203.out) hb); have n2_ := Aside0.mk (below_step (by repeat (first | (with_reducible first | exact HB.out | apply below_alloc | apply pw_below_drewN | apply below_drew1 | refine below_set ?_ GE203.out) | exact HB.out)) hb); have n3_ := Aside0.mk (hbox); have n4_ := Aside0.mk ((by rw [hg]; exact (below_size (by repeat (first | (with_reducible first | exact HB.out | apply below_alloc | apply pw_below_drewN | apply below_drew1 | refine below_set ?_ GE203.out) | exact HB.out))) : w.heap.size ≤ gb223)); have n5_ := Aside0.mk ((by rw [hg]; exact (below_size (by repeat (first | (with_reducible first | exact HB.out | apply below_alloc | apply pw_below_drewN | apply below_drew1 | refine below_set ?_ GE203.out) | exact HB.out))) : w.heap.size ≤ gb223)); have n6_ := Aside0.mk ((by rw [hg]; exact Nat.ne_of_lt (blk_lt (g := gb203) (o := .cells #[.string a0_0, .string a0_1, .slice A0_2 l0_2.length c0_2, .string a0_3] 65 (0, 0)) (by (with_reducible repeat (first | refine blk_drewN ?_ _ | refine blk_drew ?_ | refine blk_alloc ?_ _)); exact BK203.out)) : gb203 ≠ gb223)); have n7_ := Aside0.mk ((by rw [hg]; exact Nat.ne_of_gt (blk_lt (g := gb203) (o := .cells #[.string a0_0, .string a0_1, .slice A0_2 l0_2.length c0_2, .string a0_3] 65 (0, 0)) (by (with_reducible repeat (first | refine blk_drewN ?_ _ | refine blk_drew ?_ | refine blk_alloc ?_ _)); exact BK203.out)) : gb223 ≠ gb203)); clear HO219; clear BK203; clear HB; have HO219 := n0_; have BK203 := n1_; have HB := n2_; have BK223 := n3_; have GW223 := n4_; have GE223 := n5_; have NB203_223 := n6_; have NB223_203 := n7_; clear n0_ n1_ n2_ n3_ n4_ n5_ n6_ n7_; clear hb hbox hg; have hnb87 := NB223_203.out; have hnc87 := NB203_223.out; have hcz88_0 : w86.cell? ⟨gb223, 0, none⟩ = some (.string (⟨#[]⟩ : ByteArray)) := (blk_cell BK223.out 0).trans rfl; have hcz88_1 : w86.cell? ⟨gb223, 1, none⟩ = some (.string (⟨#[]⟩ : ByteArray)) := (blk_cell BK223.out 1).trans rfl; have hcz88_2 : w86.cell? ⟨gb223, 2, none⟩ = some (.slice none 0 0) := (blk_cell BK223.out 2).trans rfl; have hcz88_3 : w86.cell? ⟨gb223, 3, none⟩ = some (.string (⟨#[]⟩ : ByteArray)) := (blk_cell BK223.out 3).trans rfl; have hfz88_0 := blk_frozen BK223.out 0; have hfz88_1 := blk_frozen BK223.out 1; have hfz88_2 := blk_frozen BK223.out 2; have hfz88_3 := blk_frozen BK223.out 3; obtain ⟨Ao89, co89, eo89⟩ := Kd.R_slice HO219.out; subst eo89; have hcz90_0 : w86.cell? ⟨gb203, 0, none⟩ = some (.string a0_0) := (blk_cell BK203.out 0).trans rfl; have hcz90_1 : w86.cell? ⟨gb203, 1, none⟩ = some (.string a0_1) := (blk_cell BK203.out 1).trans rfl; have hcz90_2 : w86.cell? ⟨gb203, 2, none⟩ = some (.slice A0_2 l0_2.length c0_2) := (blk_cell BK203.out 2).trans rfl; have hcz90_3 : w86.cell? ⟨gb203, 3, none⟩ = some (.string a0_3) := (blk_cell BK203.out 3).trans rfl; have hfz90_0 := blk_frozen BK203.out 0; have hfz90_1 := blk_frozen BK203.out 1; have hfz90_2 := blk_frozen BK203.out 2; have hfz90_3 := blk_frozen BK203.out 3))
                                go_ret
                                exact ⟨by first | rfl | (simp [errW_none, errW_some] <;> rfl) | (simp [*, errW_none, errW_some] <;> rfl), by repeat (first | (with_reducible first | exact HB.out | apply below_alloc | apply pw_below_drewN | apply below_drew1 | refine below_set ?_ GE203.out | refine below_set ?_ GE223.out) | exact HB.out)⟩
                            · rw [if_neg c66] at H
                              have c66b0 : (t222 == 0) = false := beq_eq_false_iff_ne.mpr c66
                              have c66b1 : (t222 != 0) = true := bne_iff_ne.mpr c66
                              obtain rfl := Option.some.inj H
                              have hcz91_0 : wc.cell? ⟨gb203, 0, none⟩ = some (.string a0_0) := (blk_cell BK203.out 0).trans rfl
                              have hcz91_1 : wc.cell? ⟨gb203, 1, none⟩ = some (.string a0_1) := (blk_cell BK203.out 1).trans rfl
                              have hcz91_2 : wc.cell? ⟨gb203, 2, none⟩ = some (.slice A0_2 l0_2.length c0_2) := (blk_cell BK203.out 2).trans rfl
                              have hcz91_3 : wc.cell? ⟨gb203, 3, none⟩ = some (.string a0_3) := (blk_cell BK203.out 3).trans rfl
                              have hfz91_0 := blk_frozen BK203.out 0
                              have hfz91_1 := blk_frozen BK203.out 1
                              have hfz91_2 := blk_frozen BK203.out 2
                              have hfz91_3 := blk_frozen BK203.out 3
                              go_wp2_with (first | ((with_reducible refine gate_callee (f := 48) rfl ?_); refine goesL_ (some 116) rfl rfl Tryd.func48 (by kernel_rfl) rfl #[.string (x9_19 ++ ((⟨#[13, 10]⟩ : ByteArray) ++ a0_3))] rfl (by (try simp only [List.map_toArray, List.map_cons, List.map_nil]); first | done | rfl | (simp only [List.length_drop, List.length_take]; rfl)) ?_; (with_reducible refine (http_ParseRequest.calls kj19 (x9_19 ++ ((⟨#[13, 10]⟩ : ByteArray) ++ a0_3)) t215 t216 t217 t220 t221 t222 _ ?side1 A57.out).mono ?_); (case side1 => exact LaidM.below HT.out (by repeat (first | (with_reducible first | exact HB.out | apply below_alloc | apply pw_below_drewN | apply below_drew1 | refine below_set ?_ GE203.out) | exact HB.out))); rintro e w92 ⟨v218, rfl, ho0, hb⟩; refine ⟨_, rfl, ?_⟩; have n0_ := Aside0.mk (Kd.R_lower ho0 (below_size (by repeat (first | (with_reducible first | exact HB.out | apply below_alloc | apply pw_below_drewN | apply below_drew1 | refine below_set ?_ GE203.out) | exact HB.out)))); have n1_ := Aside0.mk (blk_below (g := gb203) (o := .cells #[.string a0_0, .string a0_1, .slice A0_2 l0_2.length c0_2, .string a0_3] 65 (0, 0)) (by (with_reducible repeat (first | refine blk_drewN ?_ _ | refine blk_drew ?_ | refine blk_alloc ?_ _)); exact BK203.out) hb); have n2_ := Aside0.mk (below_step (by repeat (first | (with_reducible first | exact HB.out | apply below_alloc | apply pw_below_drewN | apply below_drew1 | refine below_set ?_ GE203.out) | exact HB.out)) hb); clear BK203; clear HB; have HO219 := n0_; have BK203 := n1_; have HB := n2_; clear n0_ n1_ n2_; (try clear hb); (try clear hb2); (try clear hk); (try clear hi); (try clear ho0)) | ((with_reducible refine gate_dst (N := 14) rfl ?_); (try (refine gate_guard (by rfl) ?_; dsimp only)); refine box_event ?hg (N := 14) ?hd (cs := #[.string (⟨#[]⟩ : ByteArray), .string (⟨#[]⟩ : ByteArray), .slice none 0 0, .string (⟨#[]⟩ : ByteArray)]) (t := 65) ?hr ?_; (case hd => rfl); (case hg => rfl); (case hr => first | (go_simp; done) | (go_simp; rfl)); intro gb223 hg w93 hbox hb; have n0_ := Aside0.mk (Kd.R_below (by (with_reducible repeat (first | apply Kd.R_alloc | apply Kd.R_drewN | apply Kd.R_drew)); exact HO219.out) hb); have n1_ := Aside0.mk (blk_below (g := gb203) (o := .cells #[.string a0_0, .string a0_1, .slice A0_2 l0_2.length c0_2, .string a0_3] 65 (0, 0)) (by (with_reducible repeat (first | refine blk_drewN ?_ _ | refine blk_drew ?_ | refine blk_alloc ?_ _)); exact BK203.out) hb); have n2_ := Aside0.mk (below_step (by repeat (first | (with_reducible first | exact HB.out | apply below_alloc | apply pw_below_drewN | apply below_drew1 | refine below_set ?_ GE203.out) | exact HB.out)) hb); have n3_ := Aside0.mk (hbox); have n4_ := Aside0.mk ((by rw [hg]; exact (below_size (by repeat (first | (with_reducible first | exact HB.out | apply below_alloc | apply pw_below_drewN | apply below_drew1 | refine below_set ?_ GE203.out) | exact HB.out))) : w.heap.size ≤ gb223)); have n5_ := Aside0.mk ((by rw [hg]; exact (below_size (by repeat (first | (with_reducible first | exact HB.out | apply below_alloc | apply pw_below_drewN | apply below_drew1 | refine below_set ?_ GE203.out) | exact HB.out))) : w.heap.size ≤ gb223)); have n6_ := Aside0.mk ((by rw [hg]; exact Nat.ne_of_lt (blk_lt (g := gb203) (o := .cells #[.string a0_0, .string a0_1, .slice A0_2 l0_2.length c0_2, .string a0_3] 65 (0, 0)) (by (with_reducible repeat (first | refine blk_drewN ?_ _ | refine blk_drew ?_ | refine blk_alloc ?_ _)); exact BK203.out)) : gb203 ≠ gb223)); have n7_ := Aside0.mk ((by rw [hg]; exact Nat.ne_of_gt (blk_lt (g := gb203) (o := .cells #[.string a0_0, .string a0_1, .slice A0_2 l0_2.length c0_2, .string a0_3] 65 (0, 0)) (by (with_reducible repeat (first | refine blk_drewN ?_ _ | refine blk_drew ?_ | refine blk_alloc ?_ _)); exact BK203.out)) : gb223 ≠ gb203)); clear HO219; clear BK203; clear HB; have HO219 := n0_; have BK203 := n1_; have HB := n2_; have BK223 := n3_; have GW223 := n4_; have GE223 := n5_; have NB203_223 := n6_; have NB223_203 := n7_; clear n0_ n1_ n2_ n3_ n4_ n5_ n6_ n7_; clear hb hbox hg; have hnb94 := NB223_203.out; have hnc94 := NB203_223.out; have hcz95_0 : w93.cell? ⟨gb223, 0, none⟩ = some (.string (⟨#[]⟩ : ByteArray)) := (blk_cell BK223.out 0).trans rfl; have hcz95_1 : w93.cell? ⟨gb223, 1, none⟩ = some (.string (⟨#[]⟩ : ByteArray)) := (blk_cell BK223.out 1).trans rfl; have hcz95_2 : w93.cell? ⟨gb223, 2, none⟩ = some (.slice none 0 0) := (blk_cell BK223.out 2).trans rfl; have hcz95_3 : w93.cell? ⟨gb223, 3, none⟩ = some (.string (⟨#[]⟩ : ByteArray)) := (blk_cell BK223.out 3).trans rfl; have hfz95_0 := blk_frozen BK223.out 0; have hfz95_1 := blk_frozen BK223.out 1; have hfz95_2 := blk_frozen BK223.out 2; have hfz95_3 := blk_frozen BK223.out 3; obtain ⟨Ao96, co96, eo96⟩ := Kd.R_slice HO219.out; subst eo96; have hcz97_0 : w93.cell? ⟨gb203, 0, none⟩ = some (.string a0_0) := (blk_cell BK203.out 0).trans rfl; have hcz97_1 : w93.cell? ⟨gb203, 1, none⟩ = some (.string a0_1) := (blk_cell BK203.out 1).trans rfl; have hcz97_2 : w93.cell? ⟨gb203, 2, none⟩ = some (.slice A0_2 l0_2.length c0_2) := (blk_cell BK203.out 2).trans rfl; have hcz97_3 : w93.cell? ⟨gb203, 3, none⟩ = some (.string a0_3) := (blk_cell BK203.out 3).trans rfl; have hfz97_0 := blk_frozen BK203.out 0; have hfz97_1 := blk_frozen BK203.out 1; have hfz97_2 := blk_frozen BK203.out 2; have hfz97_3 := blk_frozen BK203.out 3))
                              go_ret
                              exact ⟨by first | rfl | (simp [errW_none, errW_some] <;> rfl) | (simp [*, errW_none, errW_some] <;> rfl), by repeat (first | (with_reducible first | exact HB.out | apply below_alloc | apply pw_below_drewN | apply below_drew1 | refine below_set ?_ GE203.out | refine below_set ?_ GE223.out) | exact HB.out)⟩
                        · rw [if_neg c56] at H
                          have c56e := c56
                          (try simp only [ByteArray.size_append, gt_iff_lt, ge_iff_le, show (⟨#[13, 10]⟩ : ByteArray).size = 2 from rfl] at c56e)
                          (try push_cast at c56e)
                          (try (have c56e2 := decide_eq_false c56e))
                          (try replace c56e := eq_false c56e)
                          exact absurd H (by simp)
                      · rw [if_neg c55] at H
                        exact absurd H (by simp)
              · rw [if_neg c18] at H
                have c18e := c18
                (try simp only [ByteArray.size_append, gt_iff_lt, ge_iff_le, show (⟨#[32]⟩ : ByteArray).size = 1 from rfl] at c18e)
                (try push_cast at c18e)
                (try (have c18e2 := decide_eq_false c18e))
                (try replace c18e := eq_false c18e)
                exact absurd H (by simp)
            · rw [if_neg c17] at H
              have c17e := c17
              (try simp only [ByteArray.size_append, gt_iff_lt, ge_iff_le, show (⟨#[32]⟩ : ByteArray).size = 1 from rfl] at c17e)
              (try push_cast at c17e)
              (try (have c17e2 := decide_eq_false c17e))
              (try replace c17e := eq_false c17e)
              exact absurd H (by simp)
          · rw [if_neg c16] at H
            exact absurd H (by simp)
  · replace c5 := Bool.eq_false_iff.mpr c5
    subst c5
    have H1 : (some false) = some r := by rw [if_neg (show ¬ (false = true) by decide)] at H; exact H
    clear H
    have H := H1
    clear H1
    obtain rfl := Option.some.inj H
    go_enter Tryd.func18, Tryd.ntmps18
    go_wp2_with (first | ((with_reducible refine gate_dst (N := 3) rfl ?_); (try (refine gate_guard (by rfl) ?_; dsimp only)); refine box_event ?hg (N := 3) ?hd (cs := #[.string a0_0, .string a0_1, .slice A0_2 l0_2.length c0_2, .string a0_3]) (t := 65) ?hr ?_; (case hd => rfl); (case hg => rfl); (case hr => first | (go_simp; done) | (go_simp; rfl)); intro gb203 hg w98 hbox hb; have n0_ := Aside0.mk (below_step (by repeat (first | (with_reducible first | exact HB.out | apply below_alloc | apply pw_below_drewN | apply below_drew1) | exact HB.out)) hb); have n1_ := Aside0.mk (hbox); have n2_ := Aside0.mk ((by rw [hg]; exact (below_size (by repeat (first | (with_reducible first | exact HB.out | apply below_alloc | apply pw_below_drewN | apply below_drew1) | exact HB.out))) : w.heap.size ≤ gb203)); have n3_ := Aside0.mk ((by rw [hg]; exact (below_size (by repeat (first | (with_reducible first | exact HB.out | apply below_alloc | apply pw_below_drewN | apply below_drew1) | exact HB.out))) : w.heap.size ≤ gb203)); clear HB; have HB := n0_; have BK203 := n1_; have GW203 := n2_; have GE203 := n3_; clear n0_ n1_ n2_ n3_; clear hb hbox hg) | ((with_reducible refine gate_callee (f := 47) rfl ?_); refine goesL_ (some 17) rfl rfl Tryd.func47 (by kernel_rfl) rfl #[] rfl (by (try simp only [List.map_toArray, List.map_cons, List.map_nil]); first | done | rfl | (simp only [List.length_drop, List.length_take]; rfl)) ?_; (with_reducible refine (calepinlaw08_first.calls k  false _ ?side1 A4.out).mono ?_); (case side1 => exact LaidM.below HT.out (by repeat (first | (with_reducible first | exact HB.out | apply below_alloc | apply pw_below_drewN | apply below_drew1 | refine below_set ?_ GE203.out) | exact HB.out))); rintro e w99 ⟨rfl, hb⟩; refine ⟨_, rfl, ?_⟩; have n0_ := Aside0.mk (blk_below (g := gb203) (o := .cells #[.string a0_0, .string a0_1, .slice A0_2 l0_2.length c0_2, .string a0_3] 65 (0, 0)) (by (with_reducible repeat (first | refine blk_drewN ?_ _ | refine blk_drew ?_ | refine blk_alloc ?_ _)); exact BK203.out) hb); have n1_ := Aside0.mk (below_step (by repeat (first | (with_reducible first | exact HB.out | apply below_alloc | apply pw_below_drewN | apply below_drew1 | refine below_set ?_ GE203.out) | exact HB.out)) hb); clear BK203; clear HB; have BK203 := n0_; have HB := n1_; clear n0_ n1_; (try clear hb); (try clear hb2); (try clear hk); (try clear hi)))
    go_ret
    exact ⟨by first | rfl | (simp [errW_none, errW_some] <;> rfl) | (simp [*, errW_none, errW_some] <;> rfl), by repeat (first | (with_reducible first | exact HB.out | apply below_alloc | apply pw_below_drewN | apply below_drew1 | refine below_set ?_ GE203.out) | exact HB.out)⟩

end Go.Proofs.YtpedfpeokedelaaDoor.XHttpFields
