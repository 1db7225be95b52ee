import Derived.Test.YtpaopeiegaijiaaGreatDoorXv
import Derived.Test.YtpaopeiegaijiaaGreatDoorXo
/- A strings.Builder in a block of its own: WriteString. -/
namespace Go.Proofs.YtpaopeiegaijiaaGreatDoor
open Go.RowKit Go.Shelf Go.Lib Go.Joins Go.Proofs.YtpaopeiegaijiaaGreatDoorW.PrintWords
set_option linter.unusedVariables false
set_option linter.unusedSimpArgs false
abbrev BAt (B b : Nat) (p : Value) (X : List UInt8) (w : World) : Prop := Lib.BuilderAt 95 5 B b p (Lib.byteCells X) w
abbrev IsB (B b : Nat) (X : List UInt8) (w : World) : Prop := Lib.IsBuilder 95 5 B b (Lib.byteCells X) w
theorem bat_below {B b : Nat} {p : Value} {X : List UInt8} {w w' : World} (h : BAt B b p X w) (hb : Below w.heap.size w w') : BAt B b p X w' := by
  obtain ⟨h1, v, h2, h3, h4⟩ := h
  refine ⟨h1, v, (hb.block b (lt_heap h2)).trans h2, row_kept h3 fun k hk => hb.block k (h3.lt k hk).2, h4⟩
theorem isb_below {B b : Nat} {X : List UInt8} {w w' : World} (h : IsB B b X w) (hb : Below w.heap.size w w') : IsB B b X w' := h.imp (fun h => bat_below h hb) (fun h => bat_below h hb)
set_option maxHeartbeats 1000000 in
set_option maxRecDepth 100000 in
theorem bcheck_any {B b : Nat} {X : List UInt8} {w : World} (h : IsB B b X w) :
    Calls Tryz.prog 93 #[.pointer (some ⟨b, 0, none⟩)] w fun e w' => e = .returned (.tuple #[]) ∧ BAt B b (.pointer (some ⟨b, 0, none⟩)) X w' ∧ Below B w w' ∧ w'.heap.size = w.heap.size := by
  obtain ⟨j, hj, hjs⟩ := Option.map_eq_some_iff.1 (show (Tryz.prog.info? 95).map (·.size) = some 2 by kernel_rfl)
  rcases h with ⟨hB, v, hb, hown, hne⟩ | ⟨hB, v, hb, hown, hne⟩
  · have c2 : w.cell? ⟨b, 0, none⟩ = some (.pointer none) := by rw [Lib.cell_of_heap hb]; rfl
    have f2 : w.frozen? ⟨b, 0, none⟩ = false := Lib.frozen_of_heap hb 0
    have hshape : w.shape? b = some (95, 2) := by simp [World.shape?, hb]
    go_enter Tryz.func93, Tryz.ntmps93
    go_wp2
    rw [Lib.run_to_unsafe w ⟨b, 0, none⟩ Tryz.underlying92 Tryz.underlying182 hj (by rw [hjs]; decide) hshape (show 0 < 2 by decide)]
    simp only [Result.andThen]
    rw [Oper.upon_value]
    go_wp2
    rw [run_callFunc_extern Tryz.func129 (by kernel_rfl) (by kernel_rfl) (by kernel_rfl) (e := Extern.AbiNoEscape.same) (by kernel_rfl)]
    rw [Lib.run_noEscape]
    simp only [Result.andThen]
    rw [Oper.upon_value]
    go_wp2
    rw [Lib.run_from_unsafe w ⟨b, 0, none⟩ Tryz.underlying182 Tryz.underlying92 hj hshape (by kernel_rfl)]
    simp only [Result.andThen]
    rw [Oper.upon_value]
    go_wp2
    go_end0
    refine ⟨rfl, ⟨hB, v, ?_, row_kept hown fun k hk => ?_, hne⟩, (Below.refl B w).setCell hB _, by simp [World.setCell]⟩
    · simp [World.setCell, Array.getElem?_modify, hb]
    · exact heap_set _ _ _ _ (fun e => hne (by rw [hk, e]))
  · have c2 : w.cell? ⟨b, 0, none⟩ = some (.pointer (some ⟨b, 0, none⟩)) := by rw [Lib.cell_of_heap hb]; rfl
    go_enter Tryz.func93, Tryz.ntmps93
    go_wp2
    rw [Lib.run_neq_ptr_same w _ Tryz.underlying92 hj]
    go_wp2
    go_end0
    exact ⟨rfl, ⟨hB, v, hb, hown, hne⟩, Below.refl _ _, rfl⟩
set_option maxHeartbeats 2000000 in
set_option maxRecDepth 100000 in
theorem bwrite_any {B b : Nat} {X : List UInt8} {w : World} (s : ByteArray) (hBw : B ≤ w.heap.size) (hlen : X.length + s.size ≤ 140737488355328) (h : IsB B b X w) :
    Calls Tryz.prog 46 #[.pointer (some ⟨b, 0, none⟩), .string s] w fun e w' => e = .returned (.tuple #[.int .i64 (s.size : Int), .nilIface]) ∧ IsB B b (X ++ s.data.toList) w' ∧ Below B w w' := by
  obtain ⟨i0, hi, hz⟩ := Option.map_eq_some_iff.1 (show (Tryz.prog.info? 5).map (fun i => (i.zero, i.size, i.bytes)) = some (some (.int .u8 0), 1, 1) by kernel_rfl)
  simp only [Prod.mk.injEq] at hz
  obtain ⟨hz0, hz1, hz2⟩ := hz
  have hstr : Lib.strCells s = Lib.byteCells s.data.toList := by simp [Lib.strCells, Lib.byteCells]
  have hXl : (Lib.byteCells X).length = X.length := by simp [Lib.byteCells]
  go_enter Tryz.func46, Tryz.ntmps46
  go_wp2_with (go_at_call 93; refine (bcheck_any h).mono ?_)
  rintro e w1 ⟨rfl, ⟨hB, v, hb, hown, hne⟩, hbl, hsz⟩
  have c3 : w1.cell? ⟨b, 1, none⟩ = some v := by rw [Lib.cell_of_heap hb]; rfl
  go_wp2_with (at_builtin; refine wpList_apps _ rfl _ _ 93 9 rfl B 5 i0 Tryz.underlying93 Tryz.underlying9 hi hz0 hz1 hz2 _ _ _ rfl hown s rfl ?c4 ?c5 ?_)
  case c4 => rw [hXl]; omega
  case c5 => omega
  intro u' w2 hown' hgrow hwh
  have hq2 : w2.heap[b]? = some (.cells #[.pointer (some ⟨b, 0, none⟩), v] 95 (0, 0)) := (hgrow.block b (lt_heap hb) fun e => hne e.symm).trans hb
  have d3 : w2.cell? ⟨b, 1, none⟩ = some v := by rw [Lib.cell_of_heap hq2]; rfl
  have f3 : w2.frozen? ⟨b, 1, none⟩ = false := Lib.frozen_of_heap hq2 1
  have hne' : u'.ownBlock ≠ some b := by
    rcases hwh with h | ⟨x, h, hx⟩
    · rw [h]; exact hne
    · rw [h]; intro e; have := lt_heap hb; injection e with e; omega
  obtain ⟨ao, n', cap, rfl⟩ : ∃ ao n' cap, u' = .slice ao n' cap := by
    rcases hown'.2 with ⟨hv, _⟩ | ⟨g, cap, cur, hv, _⟩
    · exact ⟨_, _, _, hv⟩
    · exact ⟨_, _, _, hv⟩
  have hown3 : w2.ownsRow B 5 1 (.slice ao n' cap) (Lib.byteCells (X ++ s.data.toList)).length (Lib.byteCells (X ++ s.data.toList)) := by
    have e : (Lib.byteCells (X ++ s.data.toList)).length = (Lib.byteCells X).length + s.size := by
      have : s.data.toList.length = s.size := rfl
      simp [Lib.byteCells]
    rw [e, byteCells_app, hXl]
    exact hown'
  go_wp2
  go_ret2
  refine ⟨by simp, .inr ⟨hB, _, ?_, row_kept hown3 fun k hk => ?_, hne'⟩, ?_⟩
  · simp [World.setCell, Array.getElem?_modify, hq2]
  · exact heap_set _ _ _ _ (fun e => hne' (by rw [hk, e]))
  · exact (hbl.grown hgrow (by omega) (fun k hk => (hown.lt k hk).1)).setCell hB _
theorem blen_any {B b : Nat} {X : List UInt8} {w : World} (h : IsB B b X w) :
    Calls Tryz.prog 49 #[.pointer (some ⟨b, 0, none⟩)] w fun e w' => e = .returned (.int .i64 (X.length : Int)) ∧ w' = w := by
  have h := Any.Builder_Len Tryz.laysBL B b _ w h
  rw [show (Lib.byteCells X).length = X.length by simp [Lib.byteCells]] at h
  exact h
theorem bstring_any {B b : Nat} {X : List UInt8} {w : World} (hBw : B ≤ w.heap.size) (h : IsB B b X w) :
    Calls Tryz.prog 50 #[.pointer (some ⟨b, 0, none⟩)] w fun e w' => e = .returned (strV X) ∧ Below B w w' :=
  Any.Builder_String_any (ρ := Tryz.laysBS_ren) { Tryz.laysBS with } Tryz.Builder_Extra_BS B b X w h hBw
end Go.Proofs.YtpaopeiegaijiaaGreatDoor
