/- How a command, an entry, a reply read as arguments: their cells, and what their bulk says of their bytes. -/
import Derived.Test.YtjhcbggpbfejgaaBulk
import Derived.Test.YtjhcbggpbfejgaaL3
import Derived.ProofKit
import Derived.OpenShut
import Derived.SliceStrings
import Derived.Lib.SmallJoins
namespace Go.Proofs.Ytjhcbggpbfejgaa.Rd
open Go.ChangeShapes Go.WideShapes Go.ChangeAt Go.RowKit Go.Joins
open Go.ChangeMaps (open_string shut_string)
open Go.Proofs.YtjhcbggpbfejgaaW.PrintWords Go.Proofs.YtjhcbggpbfejgaaW.PrintLast Go.Proofs.YtjhcbggpbfejgaaW.PrintMore
open Go.Proofs.Ytjhcbggpbfejgaa.Cp Go.Proofs.Ytjhcbggpbfejgaa.Cw Go.Proofs.Ytjhcbggpbfejgaa.Cr
set_option linter.unusedVariables false
set_option linter.unusedSimpArgs false

theorem i64_of {n : Int} (h : (Lit.int .i64 n).wf = true) : I64 n := bounds_i64 h
theorem bulk_strs {H : Type} (l : List ByteArray) : (txts l).length ≤ 8 * Rows.uptoBulkAll (strs (H := H) l) := by
  induction l with
  | nil => simp [txts]
  | cons s l ih =>
    have e : txts (s :: l) = txt s ++ txts l := by simp [txts]
    have e2 : strs (H := H) (s :: l) = .lit (.string s.data.toList) :: strs l := rfl
    have e3 : s.data.toList.length = s.size := by rw [Array.length_toList]; rfl
    rw [e, e2, List.length_append, txt_len]
    simp only [Rows.uptoBulkAll, Rows.uptoBulk]
    omega

theorem cells22 : Try.prog.cellsOf 22 = 1 := by kernel_rfl
theorem cells9 : Try.prog.cellsOf 9 = 1 := by kernel_rfl
theorem cells23 : Try.prog.cellsOf 23 = 1 := by kernel_rfl
theorem cells3 : Try.prog.cellsOf 3 = 1 := by kernel_rfl
theorem cells35 : Try.prog.cellsOf 35 = 1 := by kernel_rfl
theorem cells36 : Try.prog.cellsOf 36 = 1 := by kernel_rfl
theorem cells25 : Try.prog.cellsOf 25 = 11 := by kernel_rfl
section
variable {H : Type} {en : TypeId × Value → H} {w : World} {base : Nat} {spare : Nat → Bool} {held : Bool}
set_option maxRecDepth 100000 in
theorem read_strings {t fuel : Nat} {cs : List Value} {x : DataW H × List MemPlace} (ht : Try.prog.underlying t = some (.slice 9)) (h : DataW.trod en Try.prog w base spare held fuel t cs = some x) :
    ∃ (A : Option Addr) (cap : Nat) (l : List ByteArray), cs = [.slice A l.length cap] ∧ l.length ≤ cap ∧ Kd.C Kd.string w A l.length l ∧ (txts l).length ≤ 8 * Rows.uptoBulk x.1 ∧ l.length ≤ Rows.uptoBulk x.1 := by
  rcases open_strings ht Try.underlying9 (by kernel_rfl) h with ⟨rfl, rfl⟩ | ⟨a, len, cap, ss, rfl, _, hl, hm, hz, rfl, hcell, _⟩
  · exact ⟨none, 0, [], rfl, Nat.le_refl _, Kd.C_nil _ _, by simp [txts], by simp⟩
  · have hle : len ≤ ss.length := by split at hz <;> omega
    have e : (ss.take len).length = len := by rw [List.length_take]; omega
    refine ⟨some a, cap, ss.take len, by rw [e], by omega, ?_, ?_, ?_⟩
    · refine Kd.C_of_reads (d := ByteArray.empty) ⟨rfl, by simp only [maxLen] at hm; omega, fun _ => ⟨a, rfl, fun j hj => ?_⟩⟩
      rw [hcell j (by omega)]
      congr 2
      simp only [List.getD_eq_getElem?_getD, List.getElem?_take]
      rw [if_pos (by omega)]
    · have h1 := bulk_strs (H := H) (ss.take len)
      have h2 := bulks.slice_elems (H := H) (strs (ss.take len)) (strs (ss.drop len))
      dsimp only
      omega
    · have h1 := bulks.slice_le (H := H) (strs (ss.take len)) (strs (ss.drop len))
      simp only [strs, List.length_map] at h1
      dsimp only [strs]
      omega
set_option maxRecDepth 100000 in
theorem read_ints {t fuel : Nat} {cs : List Value} {x : DataW H × List MemPlace} (ht : Try.prog.underlying t = some (.slice 3)) (h : DataW.trod en Try.prog w base spare held fuel t cs = some x) :
    ∃ (A : Option Addr) (cap : Nat) (l : List Int), cs = [.slice A l.length cap] ∧ l.length ≤ cap ∧ Kd.C (Kd.int .i64) w A l.length l ∧ l.length ≤ Rows.uptoBulk x.1 ∧ ∀ n ∈ l, I64 n := by
  rcases open_ints ht Try.underlying3 (by kernel_rfl) h with ⟨rfl, rfl⟩ | ⟨a, len, cap, ss, rfl, _, hl, hm, hz, rfl, hcell, hw⟩
  · exact ⟨none, 0, [], rfl, Nat.le_refl _, Kd.C_nil _ _, by simp, by simp⟩
  · have hle : len ≤ ss.length := by split at hz <;> omega
    have e : (ss.take len).length = len := by rw [List.length_take]; omega
    refine ⟨some a, cap, ss.take len, by rw [e], by omega, ?_, ?_, fun n hn => i64_of (hw n (List.mem_of_mem_take hn))⟩
    · refine Kd.C_of_reads (d := 0) ⟨rfl, by simp only [maxLen] at hm; omega, fun _ => ⟨a, rfl, fun j hj => ?_⟩⟩
      rw [hcell j (by omega)]
      congr 2
      simp only [List.getD_eq_getElem?_getD, List.getElem?_take]
      rw [if_pos (by omega)]
    · have h1 := bulks.slice_le (H := H) (lits .i64 (ss.take len)) (lits .i64 (ss.drop len))
      simp only [lits, List.length_map] at h1
      dsimp only [lits]
      omega
set_option maxRecDepth 100000 in
theorem read_cmd {fuel : Nat} {cs : List Value} {x : DataW H × List MemPlace} (hlen : cs.length = 11) (h : DataW.trod en Try.prog w base spare held fuel 25 cs = some x) :
    ∃ (c : Cmd) (A : Option Addr) (cap : Nat), cs = (cmdK c A cap).toList ∧ c.Ok ∧ Kd.C Kd.string w A c.names.length c.names ∧ c.names.length ≤ cap ∧ (Cp.enc c).length ≤ 40 + 8 * Rows.uptoBulk x.1 := by
  obtain ⟨xs, n, _, hx, _, hl, hg⟩ := DataW.trod_struct Try.underlying25 h
  match cs, hlen, xs, hl with
  | [c0, c1, c2, c3, c4, c5, c6, c7, c8, c9, c10], _, [y0, y1, y2, y3, y4, y5, y6, y7, y8, y9, y10], _ =>
    have g0 : DataW.trod en Try.prog w base spare held n 22 [c0] = some y0 := by simpa [cells22] using hg 0 _ rfl
    have g1 : DataW.trod en Try.prog w base spare held n 9 [c1] = some y1 := by simpa [cells9] using hg 1 _ rfl
    have g2 : DataW.trod en Try.prog w base spare held n 9 [c2] = some y2 := by simpa [cells9] using hg 2 _ rfl
    have g3 : DataW.trod en Try.prog w base spare held n 9 [c3] = some y3 := by simpa [cells9] using hg 3 _ rfl
    have g4 : DataW.trod en Try.prog w base spare held n 9 [c4] = some y4 := by simpa [cells9] using hg 4 _ rfl
    have g5 : DataW.trod en Try.prog w base spare held n 9 [c5] = some y5 := by simpa [cells9] using hg 5 _ rfl
    have g6 : DataW.trod en Try.prog w base spare held n 9 [c6] = some y6 := by simpa [cells9] using hg 6 _ rfl
    have g7 : DataW.trod en Try.prog w base spare held n 23 [c7] = some y7 := by simpa [cells23] using hg 7 _ rfl
    have g8 : DataW.trod en Try.prog w base spare held n 3 [c8] = some y8 := by simpa [cells3] using hg 8 _ rfl
    have g9 : DataW.trod en Try.prog w base spare held n 3 [c9] = some y9 := by simpa [cells3] using hg 9 _ rfl
    have g10 : DataW.trod en Try.prog w base spare held n 3 [c10] = some y10 := by simpa [cells3] using hg 10 _ rfl
    clear hg
    obtain ⟨n0, e0, rfl, w0⟩ := DataW.trod_int Try.underlying22 g0
    obtain rfl := List.cons.inj e0 |>.1
    obtain ⟨s1, e1, rfl, m1⟩ := DataW.trod_string Try.underlying9 g1
    obtain rfl := List.cons.inj e1 |>.1
    obtain ⟨s2, e2, rfl, m2⟩ := DataW.trod_string Try.underlying9 g2
    obtain rfl := List.cons.inj e2 |>.1
    obtain ⟨s3, e3, rfl, m3⟩ := DataW.trod_string Try.underlying9 g3
    obtain rfl := List.cons.inj e3 |>.1
    obtain ⟨s4, e4, rfl, m4⟩ := DataW.trod_string Try.underlying9 g4
    obtain rfl := List.cons.inj e4 |>.1
    obtain ⟨s5, e5, rfl, m5⟩ := DataW.trod_string Try.underlying9 g5
    obtain rfl := List.cons.inj e5 |>.1
    obtain ⟨s6, e6, rfl, m6⟩ := DataW.trod_string Try.underlying9 g6
    obtain rfl := List.cons.inj e6 |>.1
    obtain ⟨A, cap, l, e7, h7, r7, b7, _⟩ := read_strings Try.underlying23 g7
    obtain rfl := List.cons.inj e7 |>.1
    obtain ⟨n8, e8, rfl, w8⟩ := DataW.trod_int Try.underlying3 g8
    obtain rfl := List.cons.inj e8 |>.1
    obtain ⟨n9, e9, rfl, w9⟩ := DataW.trod_int Try.underlying3 g9
    obtain rfl := List.cons.inj e9 |>.1
    obtain ⟨n10, e10, rfl, w10⟩ := DataW.trod_int Try.underlying3 g10
    obtain rfl := List.cons.inj e10 |>.1
    refine ⟨⟨n0, s1, s2, s3, s4, s5, s6, l, n8, n9, n10⟩, A, cap, rfl, ⟨i64_of w0, i64_of w8, i64_of w9, i64_of w10⟩, r7, h7, ?_⟩
    rw [hx, enc_len]
    have z : ∀ s : ByteArray, s.data.toList.length = s.size := fun s => by rw [Array.length_toList]; rfl
    simp only [Cmd.six, txts, List.flatMap_cons, List.flatMap_nil, List.length_append, txt_len, List.length_nil, List.map_cons, List.map_nil, Rows.uptoBulk, Rows.uptoBulkAll, z]
    unfold txts at b7
    omega
end
end Go.Proofs.Ytjhcbggpbfejgaa.Rd
