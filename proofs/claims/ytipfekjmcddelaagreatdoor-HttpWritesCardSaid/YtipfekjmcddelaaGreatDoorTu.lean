/- char.turned, walked. -/
import Derived.Test.YtipfekjmcddelaaGreatDoorNu
namespace Go.Proofs.YtipfekjmcddelaaGreatDoor
open Go.RowKit Go.Shelf Go.Lib Go.Joins Go.Sort Go.Proofs.YtipfekjmcddelaaGreatDoorW.zgo
set_option linter.unusedVariables false
set_option linter.unusedSimpArgs false
def turnB (lo hi c : UInt8) : UInt8 := if lo ≤ c ∧ c ≤ hi then c ^^^ 32 else c
def turnS (s : ByteArray) (lo hi : UInt8) : ByteArray := ⟨(s.data.toList.map (turnB lo hi)).toArray⟩
set_option maxRecDepth 100000 in
theorem xor32 : ∀ c : UInt8, bits .xor .u8 (c.toNat : Int) 32 = ((c ^^^ 32).toNat : Int) := by
  have h : ∀ x : Fin 256, bits .xor .u8 ((x.val : Nat) : Int) 32 = (((UInt8.ofNat x.val) ^^^ 32).toNat : Int) := by decide
  intro c
  have := h ⟨c.toNat, c.toNat_lt⟩
  simpa using this
/-- The bytes at N, the first x of them turned. -/
structure Row (w wr : World) (N : Nat) (l : List UInt8) (lo hi : UInt8) (x : Nat) : Prop where
  below : Below w.heap.size w wr
  cell : ∀ j, j < l.length → wr.cell? ⟨N, j, none⟩ = some (.int .u8 (((if j < x then turnB lo hi (l.getD j 0) else l.getD j 0).toNat : Nat) : Int))
  froz : ∀ j, j < l.length → wr.frozen? ⟨N, j, none⟩ = false
  ge : w.heap.size ≤ N
theorem Row.same {w wr : World} {N : Nat} {l : List UInt8} {lo hi : UInt8} {x : Nat} (h : Row w wr N l lo hi x) (hx : turnB lo hi (l.getD x 0) = l.getD x 0) : Row w wr N l lo hi (x + 1) :=
  ⟨h.below, fun j hj => by
    rw [h.cell j hj]
    by_cases h1 : j < x
    · rw [if_pos h1, if_pos (by omega)]
    · by_cases h2 : j = x
      · subst h2; rw [if_neg h1, if_pos (by omega), hx]
      · rw [if_neg h1, if_neg (by omega)], h.froz, h.ge⟩
theorem Row.store {w wr : World} {N : Nat} {l : List UInt8} {lo hi : UInt8} {x : Nat} (h : Row w wr N l lo hi x) (hl : x < l.length) {v : Int} (hv : v = ((turnB lo hi (l.getD x 0)).toNat : Int)) :
    Row w (wr.setCell ⟨N, x, none⟩ (.int .u8 v)) N l lo hi (x + 1) :=
  ⟨zad h.below h.ge, fun j hj => by
    by_cases h2 : j = x
    · subst h2; rw [World.cell?_setCell_same _ _ _ (h.cell j hj), if_pos (by omega), hv]
    · rw [World.cell?_setCell_other _ _ _ _ (by simp [h2]), h.cell j hj]
      by_cases h1 : j < x
      · rw [if_pos h1, if_pos (by omega)]
      · rw [if_neg h1, if_neg (by omega)], fun j hj => by rw [World.frozen?_setCell]; exact h.froz j hj, h.ge⟩
theorem bytes_froz (W : World) (e : TypeId) (s : ByteArray) (j : Nat) (hj : j < s.size) : (bytesWorld W e s).frozen? ⟨W.heap.size, j, none⟩ = false := by
  have h1 := bytesWorld_at_new W e s
  have h2 : s.size ≤ (bytesCells W e s).size := by
    simp only [bytesCells, Array.size_append, Array.size_map]
    exact Nat.le_add_right _ _
  simp only [World.frozen?, h1]
  simp; omega
set_option maxHeartbeats 2000000 in
set_option maxRecDepth 100000 in
theorem turned_any (s : ByteArray) (lo hi : UInt8) (w : World) (hs : s.size ≤ 281474976710656) :
    Calls Tryz.prog 82 #[.string s, .int .u8 lo.toNat, .int .u8 hi.toNat] w fun e w' => e = .returned (.string (turnS s lo hi)) ∧ Below w.heap.size w w' := by
  have hconv : ∀ W, (convert 9 70 (.string s)).run Tryz.prog W = .ok (.slice (some ⟨W.heap.size, 0, none⟩) s.size (grownCap W s.size 0 5)) (bytesWorld W 5 s) := fun W => Lib.run_convert_string_bytes W 9 70 5 s Tryz.underlying9 Tryz.underlying70 Tryz.underlying5
  obtain ⟨l, hl⟩ : ∃ l, s.data.toList = l := ⟨_, rfl⟩
  have hn : s.size = l.length := by rw [← hl]; exact size_eq s
  have h0 : ∀ W : World, Row W (bytesWorld W 5 s) W.heap.size l lo hi 0 := fun W => ⟨below_bytesWorld _ _ _, fun j hj => by rw [bytesWorld_cell _ _ _ _ (by omega), if_neg (by omega), hl], fun j hj => bytes_froz W 5 s j (by omega), Nat.le_refl _⟩
  rw [hn] at hconv hs
  go_enter Tryz.func82, Tryz.ntmps82
  go_wp2
  have HR := Aside0.mk (h0 w)
  generalize bytesWorld w 5 s = wb at HR ⊢
  have HE : ∀ wr, Aside0 (Row w wr w.heap.size l lo hi l.length) → (convert 70 9 (.slice (some ⟨w.heap.size, 0, none⟩) l.length (grownCap w l.length 0 5))).run Tryz.prog wr = .ok (.string (turnS s lo hi)) wr := fun wr h => by
    have h2 := run_convert_bytes_back (P := Tryz.prog) wr 70 9 5 ⟨w.heap.size, 0, none⟩ (grownCap w l.length 0 5) (l.map (turnB lo hi)) Tryz.underlying70 Tryz.underlying5 Tryz.underlying9 (fun j hj => by
      have hj' : j < l.length := by simpa using hj
      rw [Lib.add_plain, show 0 + j = j by omega, h.out.cell j hj', if_pos hj', List.getElem_map, List.getD_eq_getElem?_getD, List.getElem?_eq_getElem hj']
      rfl)
    rw [List.length_map] at h2
    rw [h2, turnS, hl]
  clear h0 hconv
  go_loopw [14] (fun i wr => ∃ x : Nat, i = .int .i64 (x : Int) ∧ Aside0 (x ≤ l.length) ∧ Aside0 (Row w wr w.heap.size l lo hi x)) (fun i _ => l.length - (intOf i).toNat)
  case atStart => exact ⟨0, rfl, ⟨by omega⟩, HR⟩
  case round =>
    obtain ⟨x, rfl, HX, HW⟩ := hrel
    have hx := HX.out
    by_cases cx : x < l.length
    · have hc := HW.out.cell x cx
      rw [if_neg (Nat.lt_irrefl x)] at hc
      have hf := HW.out.froz x cx
      have z1 : decide ((x : Int) < (l.length : Int)) = true := decide_eq_true (by omega)
      obtain ⟨c, hcc⟩ : ∃ c, l.getD x 0 = c := ⟨_, rfl⟩
      rw [hcc] at hc
      go_wp2
      all_goals refine ⟨⟨x + 1, by simp, ⟨by omega⟩, ⟨?_⟩⟩, by simp [intOf]; omega⟩
      all_goals first
        | (refine HW.out.store cx ?_
           rw [hcc, xor32, turnB, if_pos ⟨UInt8.le_iff_toNat_le.2 ‹_›, UInt8.le_iff_toNat_le.2 ‹_›⟩])
        | (refine HW.out.same ?_
           rw [hcc, turnB, if_neg (by rw [UInt8.le_iff_toNat_le, UInt8.le_iff_toNat_le]; omega)])
    · have z1 : decide ((x : Int) < (l.length : Int)) = false := decide_eq_false (by omega)
      obtain rfl : x = l.length := by omega
      have he := HE wr HW
      go_wp2
      go_ret
      exact ⟨rfl, HW.out.below⟩
end Go.Proofs.YtipfekjmcddelaaGreatDoor
