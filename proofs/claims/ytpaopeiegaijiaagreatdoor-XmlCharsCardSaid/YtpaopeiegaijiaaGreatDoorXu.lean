import Derived.Test.YtpaopeiegaijiaaGreatDoorXz
import Derived.Test.YtpaopeiegaijiaaGreatDoorSy
import Derived.Test.YtpaopeiegaijiaaGreatDoorVw
import Derived.Lib.SmallJoins
import Derived.WalkKit
import Derived.WalkMore
import Derived.WalkLawsBesides
import Derived.Below
import Derived.BigQuiet
import Derived.Deep.QuietTactic
import Derived.OwnWalk
import Derived.KernelRfl
import Derived.RegionTactic
import Derived.Laws.CopyOwn
import Derived.Deep.LoopGhost
import Derived.Deep.CutBlock
import Derived.Deep.DeepCutAuto
/- (*strings.byteStringReplacer).Replace over the table of xml.Print. -/
namespace Go.Proofs.YtpaopeiegaijiaaGreatDoor
open Go.RowKit Go.Shelf Go.Lib Go.Joins Go.Proofs.YtpaopeiegaijiaaGreatDoorW.PrintWords
set_option linter.unusedVariables false
set_option linter.unusedSimpArgs false
theorem wrapN (x : Int) (n : Nat) (hx : x = (n : Int)) (h : n ≤ 9223372036854775807) : wrap64 x = (n : Int) := by
  subst hx
  unfold wrap64
  omega
def bytesV (l : List UInt8) : List Value := l.map fun b => Value.int .u8 (b.toNat : Int)
theorem bytesV_len (l : List UInt8) : (bytesV l).length = l.length := by simp [bytesV]
theorem bytesV_app (a b : List UInt8) : bytesV (a ++ b) = bytesV a ++ bytesV b := by simp [bytesV]
theorem bytesV_one (l : List UInt8) : ∀ v ∈ bytesV l, v.oneCell' = true := by
  intro v hv; unfold bytesV at hv; rw [List.mem_map] at hv; obtain ⟨y, _, rfl⟩ := hv; rfl
theorem bytesV_get (l : List UInt8) (j : Nat) (h : j < l.length) : (bytesV l)[j]? = some (.int .u8 (l[j].toNat : Int)) := by simp [bytesV, h]
/-- The replacer's table, as a call finds it. -/
structure Tab (nb : Nat) (w : World) : Prop where
  plain : ∀ c : UInt8, isEsc c = false → w.cell? ⟨nb, c.toNat, none⟩ = some (.slice none 0 0)
  esc : ∀ c : UInt8, isEsc c = true → ∃ b cap, w.cell? ⟨nb, c.toNat, none⟩ = some (.slice (some ⟨b, 0, none⟩) (escB c).length cap) ∧ ∀ j v, (bytesV (escB c))[j]? = some v → w.cell? ⟨b, j, none⟩ = some v
  rep : ∃ tb cap, w.cell? ⟨nb, 256, none⟩ = some (.slice (some ⟨tb, 0, none⟩) 4 cap) ∧ ∀ k c, repL[k]? = some c → w.cell? ⟨tb, k, none⟩ = some (.string ⟨#[c]⟩)
theorem Tab.below {nb : Nat} {w w' : World} (h : Tab nb w) (hb : Below w.heap.size w w') : Tab nb w' where
  plain := fun c hc => by have := h.plain c hc; rw [hb.cell (World.block_lt_of_cell? w _ this)]; exact this
  esc := fun c hc => by
    obtain ⟨b, cap, h1, h2⟩ := h.esc c hc
    refine ⟨b, cap, by rw [hb.cell (World.block_lt_of_cell? w _ h1)]; exact h1, fun j v hj => ?_⟩
    have := h2 j v hj
    rw [hb.cell (World.block_lt_of_cell? w _ this)]; exact this
  rep := by
    obtain ⟨tb, cap, h1, h2⟩ := h.rep
    refine ⟨tb, cap, by rw [hb.cell (World.block_lt_of_cell? w _ h1)]; exact h1, fun k c hk => ?_⟩
    have := h2 k c hk
    rw [hb.cell (World.block_lt_of_cell? w _ this)]; exact this
/-- A row of bytes that is being written: what is written, what is left. -/
def RowB (g : Nat) (X : List UInt8) (Z : List Value) (w : World) : Prop := w.heap[g]? = some (.cells (bytesV X ++ Z).toArray 5 (0, 0))
theorem RowB.fz {g : Nat} {X : List UInt8} {Z : List Value} {w : World} (h : RowB g X Z w) (j : Nat) : w.frozen? ⟨g, j, none⟩ = false := Lib.frozen_of_heap h j
theorem RowB.cell {g : Nat} {X : List UInt8} {z : Value} {Z : List Value} {w : World} (h : RowB g X (z :: Z) w) (j : Nat) (hj : X.length = j) : w.cell? ⟨g, j, none⟩ = some z := by
  rw [Lib.cell_of_heap h]; subst hj; simp [bytesV]
theorem RowB.put {g : Nat} {X : List UInt8} {z : Value} {Z : List Value} {w : World} (h : RowB g X (z :: Z) w) (j : Nat) (hj : X.length = j) (c : UInt8) : RowB g (X ++ [c]) Z (w.setCell ⟨g, j, none⟩ (.int .u8 (c.toNat : Int))) := by
  have h1 := h
  unfold RowB at h1 ⊢
  subst hj
  have e : (bytesV X ++ z :: Z).toArray.setIfInBounds X.length (.int .u8 (c.toNat : Int)) = (bytesV (X ++ [c]) ++ Z).toArray := by
    apply Array.ext'
    simp [bytesV, List.set_append]
  simp only [World.setCell, Array.getElem?_modify, h1]
  simp [e]
theorem splice_put (X l : List UInt8) (Z : List Value) (h : l.length ≤ Z.length) : splice (bytesV X ++ Z) X.length (bytesV l) = bytesV (X ++ l) ++ Z.drop l.length := by
  unfold splice
  rw [bytesV_len, bytesV_app, List.take_append_of_le_length (by rw [bytesV_len]; omega), List.take_of_length_le (by rw [bytesV_len]; omega), List.drop_append, bytesV_len]
  rw [List.drop_eq_nil_of_le (by rw [bytesV_len]; omega)]
  simp
set_option maxHeartbeats 4000000 in
set_option maxRecDepth 100000 in
theorem replace_any (nb : Nat) (s : ByteArray) (w : World) (hs : s.size ≤ 35184372088832) (hT : Tab nb w) :
    Calls Tryz.prog 243 #[.pointer (some ⟨nb, 0, none⟩), .string s] w fun e w' => e = .returned (.string ⟨(escL s.data.toList).toArray⟩) ∧ Below w.heap.size w w' := by
  obtain ⟨S, hS⟩ : ∃ S, s.data.toList = S := ⟨_, rfl⟩
  have hN : s.size = S.length := by rw [← hS]; exact size_eq s
  have hg4 := growA_all S
  have hl5 := escL_len5 S
  have hl1 := escL_len S
  obtain ⟨tb, rcap, hr, hrep⟩ := hT.rep
  obtain ⟨TT, hTT⟩ : ∃ TT, (escL S).length = TT := ⟨_, rfl⟩
  rw [hTT] at hg4 hl5 hl1
  have hrw : ∀ wx, Below w.heap.size w wx → ∀ k c, repL[k]? = some c → wx.cell? ⟨tb, k, none⟩ = some (.string ⟨#[c]⟩) := fun wx hb k c hk => by
    have := hrep k c hk
    rw [hb.cell (World.block_lt_of_cell? w _ this)]; exact this
  rw [hN] at hs
  have HS := Aside0.mk hS
  have HN := Aside0.mk hN
  have HG := Aside0.mk hg4
  have HTT := Aside0.mk hTT
  clear hS hg4 hTT
  go_enter Tryz.func243, Tryz.ntmps243
  go_upto_if 26 with (fail)
  go_cut [5, 6] (fun a5 a6 wc => a5 = .int .i64 (TT : Int) ∧ a6 = .bool (decide (S.length < TT)) ∧ Aside0 (Below w.heap.size w wc))
  case first =>
    by_cases h32 : 32 ≤ S.length
    · have z0 : decide ((32 : Int) ≤ (S.length : Int)) = true := decide_eq_true (by omega)
      go_wp2_with fail
      rw [z0]
      go_loopg [32, 5, 6] 4 (fun g v32 v5 v6 wx => ∃ k : Nat, v32 = .int .i64 (k : Int) ∧ v5 = .int .i64 ((S.length + growA S k : Nat) : Int) ∧ v6 = .bool (decide (0 < growA S k)) ∧ Aside0 (k + g = 4) ∧ Aside0 (Below w.heap.size w wx))
      case atStart => exact ⟨0, rfl, by simp [growA_zero], by simp [growA_zero], ⟨by omega⟩, ⟨Below.refl _ _⟩⟩
      case round =>
        obtain ⟨k, rfl, rfl, rfl, HK, HW⟩ := hrel
        have hTr := hT.below HW.out
        cases gk with
        | zero =>
          have hk : k = 4 := by have := HK.out; omega
          subst hk
          have z1 : decide ((((4 : Nat) : Int)) < 4) = false := by decide
          go_wp2_with fail
          go_meet
          have hgt := HG.out
          exact ⟨by congr 1; omega, by congr 1; exact decide_eq_decide.2 (by omega), ⟨HW.out⟩⟩
        | succ gk =>
          have hk : k < 4 := by have := HK.out; omega
          have z1 : decide ((k : Int) < 4) = true := decide_eq_true (by omega)
          obtain ⟨c, hc⟩ : ∃ c, repL[k]? = some c := ⟨_, List.getElem?_eq_getElem (by simpa [repL] using hk)⟩
          have hcell := hrw wr HW.out k c hc
          have hesc : isEsc c = true := by
            have hm := List.mem_of_getElem? hc
            simp only [repL, List.mem_cons, List.not_mem_nil, or_false] at hm
            rcases hm with rfl | rfl | rfl | rfl <;> decide
          obtain ⟨bb, bcap, he1, he2⟩ := hTr.esc c hesc
          have he4 := esc_yes hesc
          have he5 := escB_len5 c
          have hst := growA_step S k c hc
          have hcnt : S.count c ≤ S.length := List.count_le_length
          have hgk : growA S k ≤ 4 * S.length := by
            have h4 := growA_four S
            have : growA S k ≤ growA S 4 := by
              rcases (show k = 0 ∨ k = 1 ∨ k = 2 ∨ k = 3 by omega) with rfl | rfl | rfl | rfl
              · simp [growA_zero]
              · rw [h4, growA_step S 0 13 rfl, growA_zero, show (escB 13).length - 1 = 4 from rfl]; omega
              · rw [h4, growA_step S 1 62 rfl, growA_step S 0 13 rfl, growA_zero, show (escB 13).length - 1 = 4 from rfl, show (escB 62).length - 1 = 3 from rfl]; omega
              · rw [h4, growA_step S 2 60 rfl, growA_step S 1 62 rfl, growA_step S 0 13 rfl, growA_zero, show (escB 13).length - 1 = 4 from rfl, show (escB 62).length - 1 = 3 from rfl, show (escB 60).length - 1 = 3 from rfl]; omega
            have := HG.out
            omega
          have hC : Calls Tryz.prog 245 #[.string s, .string ⟨#[c]⟩] wr fun e w' => e = .returned (.int .i64 ((S.count c : Nat) : Int)) ∧ w' = wr := by
            have h := Any.strings_Count_one Tryz.laysCount s c wr
            rw [HS.out] at h
            exact h
          have hc256 : ((c.toNat : Nat) : Int) < 256 := by have := c.toNat_lt; omega
          have hc0 : (⟨#[c]⟩ : ByteArray)[0]'(Nat.zero_lt_one) = c := rfl
          by_cases hcz : S.count c = 0
          · rw [hcz] at hC
            go_wp2_with (go_at_call 245; refine hC.mono ?_; rintro e w' ⟨rfl, hw⟩; rw [hw])
            go_roundg gk
            case measure => omega
            case rel =>
              rw [hcz, Nat.zero_mul, Nat.add_zero] at hst
              exact ⟨k + 1, by simp, by rw [hst]; simp, by rw [hst]; rfl, ⟨by have := HK.out; omega⟩, ⟨HW.out⟩⟩
          · have hcz' : ((((S.count c : Nat) : Int)) == 0) = false := beq_eq_false_iff_ne.2 (by omega)
            go_wp2_with (go_at_call 245; refine hC.mono ?_; rintro e w' ⟨rfl, hw⟩; rw [hw])
            have hkg := HK.out
            rcases (show (escB c).length = 4 ∨ (escB c).length = 5 by omega) with hL | hL
            · rw [hL] at he1 hst
              go_region_with (fail)
              all_goals
                go_wp2
                go_roundg gk
                case measure => omega
                case rel => exact ⟨k + 1, by simp, by congr 1; rw [hst]; omega, by rw [hst]; congr 1; exact (decide_eq_true (by omega)).symm, ⟨by omega⟩, ⟨HW.out.drew⟩⟩
            · rw [hL] at he1 hst
              go_region_with (fail)
              all_goals
                go_wp2
                go_roundg gk
                case measure => omega
                case rel => exact ⟨k + 1, by simp, by congr 1; rw [hst]; omega, by rw [hst]; congr 1; exact (decide_eq_true (by omega)).symm, ⟨by omega⟩, ⟨HW.out.drew⟩⟩
    · have z0 : decide ((32 : Int) ≤ (S.length : Int)) = false := decide_eq_false (by omega)
      go_wp2_with fail
      rw [z0]
      go_loopg [10, 5, 6] S.length (fun g v10 v5 v6 wx => ∃ k : Nat, v10 = .int .i64 (k : Int) ∧ v5 = .int .i64 (((escL (S.take k)).length + g : Nat) : Int) ∧ v6 = .bool (decide (k < (escL (S.take k)).length)) ∧ Aside0 (k + g = S.length) ∧ Aside0 (Below w.heap.size w wx))
      case atStart => exact ⟨0, rfl, by simp [escL], by simp [escL], ⟨by omega⟩, ⟨Below.refl _ _⟩⟩
      case round =>
        obtain ⟨k, rfl, rfl, rfl, HK, HW⟩ := hrel
        have hTr := hT.below HW.out
        cases gk with
        | zero =>
          have hk : k = S.length := by have := HK.out; omega
          subst hk
          have z1 : decide ((S.length : Int) < (S.length : Int)) = false := by simp
          go_wp2_with fail
          go_meet
          have hgt : (escL (S.take S.length)).length = TT := by rw [List.take_length]; exact HTT.out
          exact ⟨by congr 1; omega, by congr 1; exact decide_eq_decide.2 (by omega), ⟨HW.out⟩⟩
        | succ gk =>
          have hk : k < S.length := by have := HK.out; omega
          have z1 : decide ((k : Int) < (S.length : Int)) = true := decide_eq_true (by omega)
          have hks : k < s.size := by rw [HN.out]; exact hk
          have hc256 : ((s[k].toNat : Nat) : Int) < 256 := by have := s[k].toNat_lt; omega
          have htk : S.take (k + 1) = S.take k ++ [s[k]] := by
            have hS := HS.out
            subst hS
            rw [List.take_add_one]
            congr 1
            have : s.data.toList[k]? = some (s.data.toList[k]'hk) := List.getElem?_eq_getElem hk
            rw [this]
            rfl
          have hnx : (escL (S.take (k + 1))).length = (escL (S.take k)).length + (escB s[k]).length := by rw [htk, escL_app, List.length_append]; simp [escL]
          have hlk := escL_len (S.take k)
          have hlk5 := escL_len5 (S.take k)
          rw [List.length_take, Nat.min_eq_left (by omega)] at hlk hlk5
          cases hesc : isEsc s[k] with
          | false =>
            have hcl := hTr.plain _ hesc
            rw [esc_no hesc] at hnx
            go_wp2_with fail
            go_roundg gk
            case measure => omega
            case rel =>
              exact ⟨k + 1, by simp, by congr 1; rw [hnx]; simp; omega, by rw [hnx]; congr 1; exact decide_eq_decide.2 (by simp), ⟨by have := HK.out; omega⟩, ⟨HW.out⟩⟩
          | true =>
            obtain ⟨bb, bcap, hcl, _⟩ := hTr.esc _ hesc
            have he4 := esc_yes hesc
            have he5 := escB_len5 s[k]
            go_wp2_with fail
            go_roundg gk
            case measure => omega
            case rel =>
              exact ⟨k + 1, by simp, by have hkg := HK.out; rw [wrapN _ ((escL (S.take k)).length + gk + (escB s[k]).length) (by omega) (by omega)]; congr 1; rw [hnx]; omega, by congr 1; rw [hnx]; exact (decide_eq_true (by omega)).symm, ⟨by have := HK.out; omega⟩, ⟨HW.out⟩⟩
  case rest =>
    obtain ⟨rfl, rfl, HW⟩ := hcut
    have hTc := hT.below HW.out
    by_cases hany : S.length < TT
    · have z0 : decide (S.length < TT) = true := decide_eq_true hany
      have hsz := HW.out.size
      obtain ⟨i5, hi, hz⟩ := Option.map_eq_some_iff.1 (show (Tryz.prog.info? 5).map (fun i => (i.zero, i.size, i.bytes)) = some (some (.int .u8 0), 1, 1) by kernel_rfl)
      simp only [Prod.mk.injEq] at hz
      obtain ⟨hz0, hz1, hz2⟩ := hz
      have hb2 : i5.bytes * TT ≤ 281474976710656 := by rw [hz2]; omega
      have hb3 : TT ≤ maxLen := by unfold maxLen; omega
      go_wp2_with (at_make; refine wpList_make_full _ rfl _ _ 93 rfl wc.heap.size 5 i5 _ 1 Tryz.underlying93 hi hz0 hz1 .i64 .i64 _ _ TT rfl rfl rfl rfl hb2 hb3 (Nat.le_refl _) ?_; intro w1 hown1 hgrow1)
      obtain ⟨g, hg⟩ : ∃ g, wc.heap.size = g := ⟨_, rfl⟩
      have hrow : ∃ Z, Z.length = TT ∧ RowB g [] Z w1 := by
        rcases hown1.2 with ⟨h, _⟩ | ⟨g2, c2, cur, h, hb, h3, h4, h5, h6, h7⟩
        · cases h
        · simp only [Value.slice.injEq, Option.some.injEq, Addr.mk.injEq] at h
          obtain ⟨⟨rfl, _⟩, _, rfl⟩ := h
          refine ⟨cur.toList, by simp; omega, ?_⟩
          rw [RowB, ← hg, h3]
          simp [bytesV]
      obtain ⟨Z, hZl, hZ⟩ := hrow
      have hb1 : Below w.heap.size w w1 := HW.out.grown hgrow1 hsz (fun k h => by cases h)
      rw [hg]
      have HZ := Aside0.mk hZ
      have HB1 := Aside0.mk hb1
      have HZL := Aside0.mk hZl
      have hgB : w.heap.size ≤ g := by omega
      clear hZ hb1 hown1 hgrow1 hZl hTc
      go_loopg [14, 13] S.length (fun n v14 v13 wx => ∃ (k : Nat) (Z' : List Value), v14 = .int .i64 (k : Int) ∧ v13 = .int .i64 (((escL (S.take k)).length : Nat) : Int) ∧ Aside0 (k + n = S.length) ∧ Aside0 (Below w.heap.size w wx) ∧
        Aside0 (RowB g (escL (S.take k)) Z' wx) ∧ Aside0 ((escL (S.take k)).length + Z'.length = TT))
      case atStart => exact ⟨0, Z, rfl, rfl, ⟨by omega⟩, HB1, HZ, ⟨by simpa [escL] using HZL.out⟩⟩
      case round =>
        obtain ⟨k, Z', rfl, rfl, HK, HWr, HR, HL⟩ := hrel
        have hTr := hT.below HWr.out
        cases gk with
        | zero =>
          have hk : k = S.length := by have := HK.out; omega
          subst hk
          have z1 : decide ((S.length : Int) < (S.length : Int)) = false := by simp
          have hR := HR.out
          rw [List.take_length] at hR
          have hcv := run_convert_bytes_back (P := Tryz.prog) wr 93 9 5 ⟨g, 0, none⟩ TT (escL S) Tryz.underlying93 Tryz.underlying5 Tryz.underlying9 (fun j hj => by
            have e : (⟨g, 0, none⟩ : Addr).add j = ⟨g, j, none⟩ := by simp [Addr.add]; omega
            rw [e, Lib.cell_of_heap hR]
            show (bytesV (escL S) ++ Z').toArray[j]? = _
            rw [List.getElem?_toArray, List.getElem?_append_left (by rw [bytesV_len]; exact hj), bytesV_get _ _ hj])
          rw [HTT.out] at hcv
          go_wp2_with fail
          go_ret
          exact ⟨by rw [HS.out]; rfl, HWr.out⟩
        | succ gk =>
          have hk : k < S.length := by have := HK.out; omega
          have z1 : decide ((k : Int) < (S.length : Int)) = true := decide_eq_true (by omega)
          have hks : k < s.size := by rw [HN.out]; exact hk
          have hc256 : ((s[k].toNat : Nat) : Int) < 256 := by have := s[k].toNat_lt; omega
          have htk : S.take (k + 1) = S.take k ++ [s[k]] := by
            have hS := HS.out
            subst hS
            rw [List.take_add_one]
            congr 1
            have : s.data.toList[k]? = some (s.data.toList[k]'hk) := List.getElem?_eq_getElem hk
            rw [this]
            rfl
          have hnx : escL (S.take (k + 1)) = escL (S.take k) ++ escB s[k] := by rw [htk, escL_app]; simp [escL]
          have htot : (escL (S.take (k + 1))).length ≤ TT := by
            rw [← HTT.out]
            conv => rhs; rw [← List.take_append_drop (k + 1) S, escL_app, List.length_append]
            omega
          have HNX := Aside0.mk hnx
          have HTK := Aside0.mk htot
          clear htk hnx htot
          cases hesc : isEsc s[k] with
          | false =>
            have hcl := hTr.plain _ hesc
            obtain ⟨J, hJ⟩ : ∃ J, (escL (S.take k)).length = J := ⟨_, rfl⟩
            have hJ1 : J + 1 ≤ TT := by have h := HTK.out; rw [HNX.out, List.length_append, hJ, esc_no hesc] at h; simpa using h
            obtain ⟨z, Z2, hZ2⟩ : ∃ z Z2, Z' = z :: Z2 := by
              cases Z' with
              | nil => have h := HL.out; rw [hJ] at h; simp at h; omega
              | cons z Z2 => exact ⟨z, Z2, rfl⟩
            have hR := HR.out
            rw [hZ2] at hR
            have hcg := hR.cell J hJ
            have hfg := hR.fz J
            have hput := hR.put J hJ s[k]
            have HP := Aside0.mk hput
            have HJ := Aside0.mk hJ
            have hlen2 : J + 1 + Z2.length = TT := by have h := HL.out; rw [hJ, hZ2] at h; simp at h; omega
            rw [hJ]
            clear hJ hput hR
            go_wp2_with fail
            go_roundg gk
            case measure => omega
            case rel =>
              refine ⟨k + 1, Z2, by simp, ?_, ⟨by have := HK.out; omega⟩, ⟨HWr.out.setCell hgB _⟩, ⟨?_⟩, ⟨?_⟩⟩
              · rw [HNX.out, List.length_append, HJ.out, esc_no hesc]; simp
              · rw [HNX.out, esc_no hesc]; exact HP.out
              · rw [HNX.out, List.length_append, HJ.out, esc_no hesc]; simpa using hlen2
          | true =>
            obtain ⟨bb, bcap, hcl, hby⟩ := hTr.esc _ hesc
            have he4 := esc_yes hesc
            have he5 := escB_len5 s[k]
            obtain ⟨J, hJ⟩ : ∃ J, (escL (S.take k)).length = J := ⟨_, rfl⟩
            have hJ1 : J + (escB s[k]).length ≤ TT := by have h := HTK.out; rw [HNX.out, List.length_append, hJ] at h; exact h
            have hR := HR.out
            have HJ := Aside0.mk hJ
            have hlen2 : J + Z'.length = TT := by have h := HL.out; rw [hJ] at h; exact h
            rw [hJ]
            have hsp := splice_put (escL (S.take k)) (escB s[k]) Z' (by omega)
            rw [hJ] at hsp
            have HSP := Aside0.mk hsp
            have HRg := Aside0.mk (show wr.heap[g]? = some (.cells (bytesV (escL (S.take k)) ++ Z').toArray 5 (0, 0)) from hR)
            have HBY := Aside0.mk hby
            have q1 : J ≤ TT := by omega
            have q2 : ¬ (TT = J) := by omega
            clear hsp hR hby hJ
            go_upto_region 28 with (fail)
            go_region_law
              ((refine step_copy_splice rfl (.tmp 105) (.tmp 111) 93 93 rfl 5 Tryz.underlying93 (by kernel_rfl) _ _ _ _ _ _ (by rfl) (by rfl) g J (bytesV (escL (S.take k)) ++ Z') 5 HRg.out (bytesV (escB s[k]))
                  (by rw [bytesV_len]; exact (Nat.min_eq_left (by omega)).symm) (fun _ => ⟨rfl, ⟨bb, 0, none⟩, rfl, fun j v hj => by have e : (⟨bb, 0, none⟩ : Addr).add j = ⟨bb, j, none⟩ := by { simp [Addr.add]; omega }; rw [e]; exact HBY.out j v hj⟩) (by have := HJ.out; rw [List.length_append, bytesV_len, bytesV_len]; omega) (bytesV_one _) w.heap.size w HWr.out.drew hgB ?_; intro w2 HG2 hB2))
            all_goals
              go_wp2
              go_roundg gk
              case measure => omega
              case rel =>
                refine ⟨k + 1, Z'.drop (escB s[k]).length, by simp, ?_, ⟨by have := HK.out; omega⟩, ⟨hB2⟩, ⟨?_⟩, ⟨?_⟩⟩
                · rw [bytesV_len, HNX.out, List.length_append, HJ.out]; simp; exact wrapN _ (J + (escB s[k]).length) (by omega) (by omega)
                · have h := HG2.out
                  rw [HSP.out] at h
                  rw [HNX.out]
                  exact h
                · rw [HNX.out, List.length_append, HJ.out, List.length_drop]; omega
    · have z0 : decide (S.length < TT) = false := decide_eq_false hany
      go_wp2_with fail
      go_ret
      refine ⟨?_, HW.out⟩
      have e : (⟨(escL s.data.toList).toArray⟩ : ByteArray) = s := by
        have hS := HS.out
        have := HTT.out
        rw [hS, escL_same (by omega), ← hS]
      rw [e]
      rfl
end Go.Proofs.YtpaopeiegaijiaaGreatDoor
