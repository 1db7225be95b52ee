import Derived.Test.YtpaopeiegaijiaaGreatDoorXt
/- (*strings.Replacer).buildOnce and Replace at the eight texts of xml.Print. -/
namespace Go.Proofs.YtpaopeiegaijiaaGreatDoor
open Go.RowKit Go.Shelf Go.Lib Go.Joins Go.Proofs.YtpaopeiegaijiaaGreatDoorW.PrintWords
set_option linter.unusedVariables false
set_option linter.unusedSimpArgs false
/-- The replacer behind its first call. -/
def Built (B q nb : Nat) (x0 x1 : Value) (w w' : World) : Prop := w'.heap[q]? = some (.cells #[x0, x1, .int .u32 0, .iface 212 (.pointer (some ⟨nb, 0, none⟩)), .slice none 0 0] 154 (0, 0)) ∧ w.heap.size ≤ nb ∧ Tab nb w' ∧ Below B w w'
/-- A value that stands nowhere in the table. -/
def Alien (x : Value) : Prop := (∀ s n c, n ≤ 5 → x ≠ .slice s n c) ∧ (∀ i, x ≠ .int .u8 i) ∧ (∀ s, x ≠ .string s)
theorem Tab.set {nb : Nat} {w : World} (h : Tab nb w) (a : Addr) (x v : Value) (hx : w.cell? a = some x) (hA : Alien x) : Tab nb (w.setCell a v) := by
  have key : ∀ (p : Addr) (y : Value), w.cell? p = some y → y ≠ x → (w.setCell a v).cell? p = some y := fun p y hp hn =>
    (World.cell?_setCell_other _ _ _ _ (fun e => by subst e; rw [hx] at hp; exact hn (Option.some.inj hp).symm)).trans hp
  obtain ⟨h1, h2, h3⟩ := hA
  refine ⟨fun c hc => key _ _ (h.plain c hc) (fun e => h1 _ _ _ (by decide) e.symm), fun c hc => ?_, ?_⟩
  · obtain ⟨b, cap, a1, a2⟩ := h.esc c hc
    refine ⟨b, cap, key _ _ a1 (fun e => h1 _ _ _ (escB_len5 c) e.symm), fun j u hj => key _ _ (a2 j u hj) (fun e => ?_)⟩
    have hjl : j < (escB c).length := by
      have := (List.getElem?_eq_some_iff.1 hj).1
      rwa [bytesV_len] at this
    rw [bytesV_get _ _ hjl] at hj
    cases hj
    exact h2 _ e.symm
  · obtain ⟨tb, cap, a1, a2⟩ := h.rep
    exact ⟨tb, cap, key _ _ a1 (fun e => h1 _ _ _ (by decide) e.symm), fun k c hk => key _ _ (a2 k c hk) (fun e => h3 _ e.symm)⟩
theorem alien_nil : Alien .nilIface := ⟨by intros; simp, by intros; simp, by intros; simp⟩
theorem alien_int (k : IntKind) (i : Int) (hk : k ≠ .u8) : Alien (.int k i) := ⟨by intros; simp, by intro j h; cases h; exact hk rfl, by intros; simp⟩
theorem alien_row (s : Option Addr) (c : Nat) : Alien (.slice s 8 c) := ⟨by intro s n c h e; cases e; omega, by intros; simp, by intros; simp⟩
set_option maxHeartbeats 2000000 in
set_option maxRecDepth 100000 in
theorem buildOnce_any (B q g cap : Nat) (x0 x1 : Value) (w : World) (hB : B ≤ q) (hq : w.heap[q]? = some (.cells #[x0, x1, .int .u32 0, .nilIface, .slice (some ⟨g, 0, none⟩) 8 cap] 154 (0, 0)))
    (hg : ∀ j v, (strsV escs)[j]? = some v → w.cell? ⟨g, j, none⟩ = some v) :
    Calls Tryz.prog 95 #[.pointer (some ⟨q, 0, none⟩)] w fun e w' => e = .returned (.tuple #[]) ∧ ∃ nb, Built B q nb x0 x1 w w' := by
  have hb := build_any q g cap x0 x1 w hq hg
  have hql := lt_heap hq
  go_enter Tryz.func95, Tryz.ntmps95
  go_wp2_with (go_at_call 132; refine hb.mono ?_; rintro e w1 ⟨nb, rfl, hnb, hT, hb1⟩; have hq1 := (hb1.block q hql).trans hq; have c3 : w1.cell? ⟨q, 3, none⟩ = some .nilIface := (by rw [Lib.cell_of_heap hq1]; rfl); have f3 : w1.frozen? ⟨q, 3, none⟩ = false := Lib.frozen_of_heap hq1 3; have c4 : ∀ v, (w1.setCell ⟨q, 3, none⟩ v).cell? ⟨q, 4, none⟩ = some (.slice (some ⟨g, 0, none⟩) 8 cap) := (fun v => by rw [World.cell?_setCell_other _ _ _ _ (by simp), Lib.cell_of_heap hq1]; rfl); have f4 : ∀ v, (w1.setCell ⟨q, 3, none⟩ v).frozen? ⟨q, 4, none⟩ = false := (fun v => by rw [World.frozen?_setCell]; exact Lib.frozen_of_heap hq1 4))
  go_end0
  refine ⟨rfl, nb, ?_, hnb, ((hT.set _ _ _ c3 alien_nil).set _ _ _ (c4 _) (alien_row _ _)), ?_⟩
  · simp [World.setCell, Array.getElem?_modify, hq1]
  · exact ((hb1.mono (by omega)).setCell hB _).setCell hB _
set_option maxHeartbeats 2000000 in
set_option maxRecDepth 100000 in
theorem replacer_any (B q g cap : Nat) (s : ByteArray) (w : World) (hs : s.size ≤ 35184372088832) (hB : B ≤ q) (hBw : B ≤ w.heap.size) (hq : w.heap[q]? = some (.cells #[.int .u32 0, .int .i32 0, .int .u32 0, .nilIface, .slice (some ⟨g, 0, none⟩) 8 cap] 154 (0, 0)))
    (hg : ∀ j v, (strsV escs)[j]? = some v → w.cell? ⟨g, j, none⟩ = some v) :
    Calls Tryz.prog 48 #[.pointer (some ⟨q, 0, none⟩), .string s] w fun e w' => e = .returned (.string ⟨(escL s.data.toList).toArray⟩) ∧ Below B w w' := by
  have c0 : w.cell? ⟨q, 0, none⟩ = some (.int .u32 0) := by rw [Lib.cell_of_heap hq]; rfl
  have c1 : w.cell? ⟨q, 1, none⟩ = some (.int .i32 0) := by rw [Lib.cell_of_heap hq]; rfl
  have f0 : w.frozen? ⟨q, 0, none⟩ = false := Lib.frozen_of_heap hq 0
  have f1 : w.frozen? ⟨q, 1, none⟩ = false := Lib.frozen_of_heap hq 1
  have hql := lt_heap hq
  have hq' : (w.setCell ⟨q, 1, none⟩ (.int .i32 1)).heap[q]? = some (.cells #[.int .u32 0, .int .i32 1, .int .u32 0, .nilIface, .slice (some ⟨g, 0, none⟩) 8 cap] 154 (0, 0)) := by
    simp [World.setCell, Array.getElem?_modify, hq]
  have hg' : ∀ j v, (strsV escs)[j]? = some v → (w.setCell ⟨q, 1, none⟩ (.int .i32 1)).cell? ⟨g, j, none⟩ = some v := fun j v hj => by
    have h := hg j v hj
    refine (World.cell?_setCell_other _ _ _ _ (fun e => ?_)).trans h
    rw [← e, c1] at h
    obtain ⟨x, _, hx⟩ := List.mem_map.1 (List.mem_of_getElem? hj)
    rw [← Option.some.inj h] at hx
    cases hx
  have hbo := buildOnce_any B q g cap _ _ _ hB hq' hg'
  have hdo := once_do q 0 (.pointer (some ⟨q, 0, none⟩)) w (fun w' => ∃ nb, Built B q nb (.int .u32 0) (.int .i32 1) (w.setCell ⟨q, 1, none⟩ (.int .i32 1)) w') c0 c1 f0 f1 hbo (fun w' h => by
    obtain ⟨nb, h, _⟩ := h
    exact ⟨⟨_, by rw [Lib.cell_of_heap h]; rfl⟩, Lib.frozen_of_heap h 0, by rw [Lib.cell_of_heap h]; rfl, Lib.frozen_of_heap h 1⟩)
  have hmeth : ∀ (x : Value) (W : World), (method 396 212 x "Replace").run Tryz.prog W = .ok (243, x) W := fun x W => by kernel_rfl
  go_enter Tryz.func48, Tryz.ntmps48
  go_wp2_with (go_at_call 94; refine hdo.mono ?_; rintro e w3 ⟨rfl, w2, ⟨nb, hqb, hnb, hT, hbl⟩, hw3⟩; have d0 : w2.drew.cell? ⟨q, 0, none⟩ = some (.int .u32 0) := (by rw [World.cell?_drew, Lib.cell_of_heap hqb]; rfl); have d1 : (w2.drew.setCell ⟨q, 0, none⟩ (.int .u32 1)).cell? ⟨q, 1, none⟩ = some (.int .i32 1) := (by rw [World.cell?_setCell_other _ _ _ _ (by simp), World.cell?_drew, Lib.cell_of_heap hqb]; rfl); have hT3 : Tab nb w3 := (by rw [hw3]; exact ((hT.below ((Below.refl _ w2).drew)).set _ _ _ d0 (alien_int _ _ (by decide))).set _ _ _ d1 (alien_int _ _ (by decide))); have c3 : w3.cell? ⟨q, 3, none⟩ = some (.iface 212 (.pointer (some ⟨nb, 0, none⟩))) := (by rw [hw3, World.cell?_setCell_other _ _ _ _ (by simp), World.cell?_setCell_other _ _ _ _ (by simp), World.cell?_drew, Lib.cell_of_heap hqb]; rfl); have hB3 : Below B w w3 := (by rw [hw3]; exact ((((Below.refl B w).setCell hB _).trans hbl).drew.setCell hB _).setCell hB _); clear hw3 d0 d1 hT hbl hqb; have hrp := replace_any nb s w3 hs hT3)
  refine hrp.mono ?_
  rintro e w4 ⟨rfl, hb4⟩
  go_wp2
  go_ret
  exact ⟨rfl, hB3.trans (hb4.mono (Nat.le_trans hBw hB3.size))⟩
end Go.Proofs.YtpaopeiegaijiaaGreatDoor
