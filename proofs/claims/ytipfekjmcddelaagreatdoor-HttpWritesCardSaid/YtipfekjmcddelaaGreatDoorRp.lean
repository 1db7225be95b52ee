/- strings.ReplaceAll of tabs by blanks, at every text. -/
import Derived.Test.YtipfekjmcddelaaGreatDoorCo
import Derived.Test.YtipfekjmcddelaaGreatDoorSpc
import Derived.Shelf.RegionOpenPlain
import Derived.Lib.Walk
import Derived.Lib.Strings
import Derived.Laws.Strings3
import Derived.Deep.OwnRows
import Derived.Lib.SlicesS
import Derived.Deep.LoopGhost
namespace Go.Proofs.YtipfekjmcddelaaGreatDoor
open Go.RowKit Go.Shelf Go.Lib Go.Joins Go.Sort Go.Proofs.YtipfekjmcddelaaGreatDoorW.zgo
set_option linter.unusedVariables false
set_option linter.unusedSimpArgs false
/-- Tabs made blanks. -/
def tabC (c : UInt8) : UInt8 := if c = 9 then 32 else c
theorem zfo : ∀ {l : List UInt8}, l.count 9 = 0 → l.map tabC = l
  | [], _ => rfl
  | c :: l, h => by
    have hc : c ≠ 9 := fun e => by subst e; simp at h
    rw [List.count_cons_of_ne (by simpa using hc)] at h
    rw [List.map_cons, zfo h, tabC, if_neg hc]
theorem tab_split : ∀ {l : List UInt8}, l.count 9 ≠ 0 → ∃ j : Nat, j < l.length ∧ indexByte l 9 = j ∧ (l.take j).map tabC = l.take j ∧ (l.drop (j + 1)).count 9 + 1 = l.count 9 ∧ l.take (j + 1) = l.take j ++ [9]
  | [], h => absurd rfl h
  | c :: l, h => by
    by_cases hc : c = 9
    · subst hc
      exact ⟨0, by simp, by simp [indexByte], rfl, by simp, by simp⟩
    · rw [List.count_cons_of_ne (by simpa using hc)] at h ⊢
      obtain ⟨j, h1, h2, h3, h4, h5⟩ := tab_split h
      refine ⟨j + 1, by simp; omega, ?_, ?_, by simpa using h4, ?_⟩
      · rw [indexByte]
        simp only [h2]
        simp [hc]
      · rw [List.take_succ_cons, List.map_cons, h3, tabC, if_neg hc]
      · rw [List.take_succ_cons, h5, List.take_succ_cons]; rfl
set_option maxHeartbeats 4000000 in
set_option maxRecDepth 100000 in
theorem replace_tab (s : ByteArray) (w : World) (hs : s.size ≤ 140737488355328) :
    Calls Tryz.prog 81 #[.string s, .string ⟨#[9]⟩, .string ⟨#[32]⟩, .int .i64 (-1)] w fun e w' => e = .returned (.string ⟨(s.data.toList.map tabC).toArray⟩) ∧ Below w.heap.size w w' := by
  have hC := Tryz.strings_Count_one s 9 w
  have hsz := size_eq s
  have hbeq : ((⟨#[9]⟩ : ByteArray).toList == (⟨#[32]⟩ : ByteArray).toList) = false := by rw [Lib.toList_data, Lib.toList_data]; decide
  obtain ⟨K, hK⟩ : ∃ K, Lib.countByte s.data.toList 9 = K := ⟨_, rfl⟩
  have hK' : s.data.toList.count 9 = K := hK
  rw [hK] at hC
  by_cases h0 : K = 0
  · subst h0
    rw [zfo hK', Lib.mk_data]
    go_enter Tryz.func81, Tryz.ntmps81
    go_wp2_with (first | (go_at_call 48; refine hC.mono ?_; rintro e w' ⟨rfl, hw⟩; rw [hw]))
    go_ret
    exact ⟨rfl, Below.refl _ _⟩
  · have t9 := Tryz.underlying9
    have u9 := run_underlying Tryz.underlying9
    have t164 := Tryz.underlying124
    have hcz : ((K : Int) == 0) = false := beq_eq_false_iff_ne.2 (by omega)
    have hKs : K ≤ s.size := by rw [hsz, ← hK']; exact List.count_le_length
    have HK := Aside0.mk hK'
    have HZ := Aside0.mk hsz
    clear hK hK' hsz
    go_enter Tryz.func81, Tryz.ntmps81
    go_wp2_with (first | (go_at_call 48; refine hC.mono ?_; rintro e w' ⟨rfl, hw⟩; rw [hw]))
    refine (Any.Builder_Grow_fresh (ρ := Tryz.zdl) { Tryz.lays155 with } Tryz.zcz w.heap.size w.heap.size s.size _ (Nat.le_refl _) (heap_alloc_new w _) (by simp) (by omega)).mono ?_
    rintro e w1 ⟨rfl, hb0, hb1⟩
    have H1 := Aside0.mk (Or.inr hb0 : Lib.IsBuilder 124 5 w.heap.size w.heap.size (Lib.byteCells []) w1)
    have Hb1 := Aside0.mk (((Below.refl w.heap.size w).alloc (Nat.le_refl _) _).trans hb1)
    clear hb0 hb1 hC
    go_wp2_with fail
    go_loopg [11, 53] K (fun g s11 s53 wx => ∃ (i start : Nat), s53 = .int .i64 i ∧ s11 = .int .i64 start ∧ i + g = K ∧ start ≤ s.size ∧
      Aside0 (Lib.IsBuilder 124 5 w.heap.size w.heap.size (Lib.byteCells ((s.data.toList.take start).map tabC)) wx) ∧ Aside0 (Below w.heap.size w wx) ∧ Aside0 ((s.data.toList.drop start).count 9 = g))
    case atStart => exact ⟨0, 0, rfl, rfl, by omega, Nat.zero_le _, H1, Hb1, ⟨by simpa using HK.out⟩⟩
    case round =>
      obtain ⟨i, start, rfl, rfl, hig, hst, HBd, HW, HR⟩ := hrel
      have hBw : w.heap.size ≤ wr.heap.size := HW.out.size
      have c1 : (0 : Int) ≤ (start : Int) := by omega
      have c2 : (start : Int) ≤ (s.size : Int) := by omega
      have hln : ((s.data.toList.take start).map tabC).length = start := by have := HZ.out; simp; omega
      have HL := Aside0.mk hln
      clear hln
      cases gk with
      | zero =>
        have hiK : ¬ ((i : Int) < (K : Int)) := by omega
        go_wp2_with fail
        refine (Any.Builder_WriteString (ρ := Tryz.zdl) { Tryz.lays155 with } Tryz.zcz w.heap.size w.heap.size _ _ wr HBd.out (by rw [Lib.byteCells_length, ByteArray.size_extract, HL.out]; omega) hBw).mono ?_
        rintro e w3 ⟨rfl, h3, hb3⟩
        have hfin : (s.data.toList.take start).map tabC ++ s.data.toList.drop start = s.data.toList.map tabC := by
          have h := zfo HR.out
          conv => rhs; rw [← List.take_append_drop start s.data.toList, List.map_append, h]
        rw [Lib.strCells_eq, Lib.extract_to_end, ← Lib.byteCells_append, hfin] at h3
        have H3 := Aside0.mk (Or.inr h3 : Lib.IsBuilder 124 5 w.heap.size w.heap.size _ w3)
        have Hb3 := Aside0.mk (HW.out.trans hb3)
        have hBw3 : w.heap.size ≤ w3.heap.size := Hb3.out.size
        clear h3 hb3 hfin
        go_wp2_with fail
        refine (Any.Builder_String_any (ρ := Tryz.zdl) { Tryz.lays155 with } Tryz.zcz w.heap.size w.heap.size _ w3 H3.out hBw3).mono ?_
        rintro e w5 ⟨rfl, hb5⟩
        have Hb5 := Aside0.mk (Hb3.out.trans hb5)
        clear hb5
        go_wp2
        go_ret
        exact ⟨rfl, Hb5.out⟩
      | succ g =>
        have hiK : (i : Int) < (K : Int) := by omega
        obtain ⟨j, hj1, hj2, hj3, hj4, hj5⟩ := tab_split (l := s.data.toList.drop start) (by have := HR.out; omega)
        have hj0 : start + j + 1 ≤ s.size := by have hZ := HZ.out; rw [List.length_drop] at hj1; omega
        have hmin : min (start + j) s.size = start + j := Nat.min_eq_left (by omega)
        have c3 : (start : Int) ≤ (start : Int) + (j : Int) := by omega
        have c4 : (start : Int) + (j : Int) ≤ (s.size : Int) := by omega
        have hnext : Lib.byteCells ((s.data.toList.take start).map tabC) ++ Lib.strCells (s.extract start (start + j)) ++ Lib.strCells ⟨#[32]⟩ = Lib.byteCells ((s.data.toList.take (start + j + 1)).map tabC) := by
          rw [Lib.strCells_eq, Lib.strCells_eq, Lib.extract_data, Nat.add_sub_cancel_left, ← Lib.byteCells_append, ← Lib.byteCells_append]
          congr 1
          have e1 : s.data.toList.take (start + j + 1) = s.data.toList.take start ++ ((s.data.toList.drop start).take j ++ [9]) := by
            rw [← hj5, ← List.take_add]
            rfl
          rw [e1, List.map_append, List.map_append, hj3]
          simp [tabC]
        have hcnt : (s.data.toList.drop (start + j + 1)).count 9 = g := by
          have := HR.out
          rw [List.drop_drop] at hj4
          rw [show start + j + 1 = start + (j + 1) by omega]
          omega
        have Hn := Aside0.mk hnext
        have Hc := Aside0.mk hcnt
        have hix : Lib.indexByte (s.extract start s.size).data.toList 9 = j := by rw [Lib.extract_to_end]; exact hj2
        have HX := Aside0.mk hix
        have HM := Aside0.mk hmin
        clear hnext hcnt hix hj1 hj2 hj3 hj4 hj5 hmin
        go_wp2_with (first | (go_at_call 35; refine (Tryz.strings_Index_one _ 9 _).mono ?_; rintro e w' ⟨rfl, hw⟩; rw [hw, HX.out]))
        refine (Any.Builder_WriteString (ρ := Tryz.zdl) { Tryz.lays155 with } Tryz.zcz w.heap.size w.heap.size _ (s.extract start (start + j)) wr HBd.out (by rw [Lib.byteCells_length, ByteArray.size_extract, HL.out, HM.out]; omega) hBw).mono ?_
        rintro e w3 ⟨rfl, h3, hb3⟩
        have hBw3 : w.heap.size ≤ w3.heap.size := Nat.le_trans hBw hb3.size
        have H3 := Aside0.mk h3
        have Hb3 := Aside0.mk hb3
        clear h3 hb3
        go_wp2_with fail
        refine (Any.Builder_WriteString (ρ := Tryz.zdl) { Tryz.lays155 with } Tryz.zcz w.heap.size w.heap.size _ ⟨#[32]⟩ w3 (Or.inr H3.out) (by rw [List.length_append, Lib.byteCells_length, Lib.strCells_length, ByteArray.size_extract, HL.out, HM.out]; show _ + 1 ≤ _; omega) hBw3).mono ?_
        rintro e w4 ⟨rfl, h4, hb4⟩
        rw [Hn.out] at h4
        have H4 := Aside0.mk (Or.inr h4 : Lib.IsBuilder 124 5 w.heap.size w.heap.size _ w4)
        have Hb4 := Aside0.mk ((HW.out.trans Hb3.out).trans hb4)
        clear h4 hb4
        go_wp2
        go_roundg g
        case measure => omega
        case rel => exact ⟨i + 1, start + j + 1, by first | rfl | (simp; unfold wrap64; omega), by first | rfl | simp | (simp; unfold wrap64; omega), by omega, by omega, H4, Hb4, Hc⟩
set_option maxRecDepth 100000 in
theorem replaceAll_tab (s : ByteArray) (w : World) (hs : s.size ≤ 140737488355328) :
    Calls Tryz.prog 60 #[.string s, .string ⟨#[9]⟩, .string ⟨#[32]⟩] w fun e w' => e = .returned (.string ⟨(s.data.toList.map tabC).toArray⟩) ∧ Below w.heap.size w w' := by
  go_enter Tryz.func60, Tryz.ntmps60
  go_wp2_with (first | (go_at_call 81; refine (replace_tab s _ hs).mono ?_; rintro e w' ⟨rfl, hb⟩))
  go_ret
  exact ⟨rfl, hb⟩
end Go.Proofs.YtipfekjmcddelaaGreatDoor
