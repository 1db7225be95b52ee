import Derived.Test.YtpaopeiegaijiaaGreatDoorCd
import Derived.Lib.OthersKept
import Derived.Deep.LoopGhost
/- XmlChars' law function, walked by hand. -/
namespace Go.Proofs.YtpaopeiegaijiaaGreatDoor.PwXmlChars
open Go.RowKit Go.Shelf Go.Lib Go.Joins Go.Proofs.YtpaopeiegaijiaaGreatDoor Go.Proofs.YtpaopeiegaijiaaGreatDoor.XXmlChars Go.Proofs.YtpaopeiegaijiaaGreatDoorW.PrintWords Go.Proofs.YtpaopeiegaijiaaGreatDoorW.PrintLast
set_option linter.unusedVariables false
set_option linter.unusedSimpArgs false
theorem ent_str10 (X D : List UInt8) : (⟨X.toArray⟩ : ByteArray) ++ (((⟨#[38, 35]⟩ : ByteArray) ++ ⟨D.toArray⟩) ++ ⟨#[59]⟩) = ⟨(X ++ (38 :: 35 :: (D ++ [59]))).toArray⟩ := by
  have h : ((⟨X.toArray⟩ : ByteArray) ++ (((⟨#[38, 35]⟩ : ByteArray) ++ ⟨D.toArray⟩) ++ ⟨#[59]⟩)).data.toList = X ++ (38 :: 35 :: (D ++ [59])) := by simp [ByteArray.data_append]
  rw [← h]
theorem ent_str16 (X D : List UInt8) : (⟨X.toArray⟩ : ByteArray) ++ (((⟨#[38, 35, 120]⟩ : ByteArray) ++ ⟨D.toArray⟩) ++ ⟨#[59]⟩) = ⟨(X ++ (38 :: 35 :: 120 :: (D ++ [59]))).toArray⟩ := by
  have h : ((⟨X.toArray⟩ : ByteArray) ++ (((⟨#[38, 35, 120]⟩ : ByteArray) ++ ⟨D.toArray⟩) ++ ⟨#[59]⟩)).data.toList = X ++ (38 :: 35 :: 120 :: (D ++ [59])) := by simp [ByteArray.data_append]
  rw [← h]
theorem doc_str (X : List UInt8) : ((⟨#[60, 97, 62]⟩ : ByteArray) ++ ⟨X.toArray⟩) ++ ⟨#[60, 47, 97, 62]⟩ = ⟨(60 :: 97 :: 62 :: (X ++ [60, 47, 97, 62])).toArray⟩ := by
  have h : (((⟨#[60, 97, 62]⟩ : ByteArray) ++ ⟨X.toArray⟩) ++ ⟨#[60, 47, 97, 62]⟩).data.toList = 60 :: 97 :: 62 :: (X ++ [60, 47, 97, 62]) := by simp [ByteArray.data_append]
  rw [← h]
set_option maxHeartbeats 4000000 in
set_option maxRecDepth 100000 in
theorem chars_true (s : ByteArray) (tens : Bool) (w : World) (hT : LaidM w) (k : Nat) (hf : calepinlaw07_first.f k = some true)
    (hv : s.size ≤ 2000 → ∃ b, calepinlaw07_valid.f s = some b ∧ (b = true → ∃ b2, calepinref07_Blanks.f k s = some b2 ∧ (b2 = false → ∃ K p0 p2, parseL K (60 :: 97 :: 62 :: (allL tens s.size s.data.toList ++ [60, 47, 97, 62])) = some (0, [p0, ⟨3, 0, ⟨#[]⟩, s⟩, p2])))) :
    Calls Tryz.prog 9 #[.string s, .bool tens] w fun e w' => e = .returned (.bool true) ∧ Below w.heap.size w w' := by
  have c1 := calepinlaw07_first.calls k true w hT hf
  by_cases h1 : s.size ≤ 2000
  case neg =>
    have i1 : (2000 : Int) < (s.size : Int) := by omega
    clear hv
    go_enter Tryz.func9, Tryz.ntmps9
    go_wp2_with (go_at_call 19; refine c1.mono ?_; rintro e w1 ⟨rfl, hb1⟩)
    go_ret
    exact ⟨rfl, hb1⟩
  have i1 : ¬ (2000 : Int) < (s.size : Int) := by omega
  obtain ⟨b, hv1, hv2⟩ := hv h1
  clear hv
  cases b with
  | false =>
    clear hv2
    have c2 := fun W hW => calepinlaw07_valid.calls s false W hW hv1
    go_enter Tryz.func9, Tryz.ntmps9
    go_wp2_with (first
      | (go_at_call 19; refine c1.mono ?_; rintro e w1 ⟨rfl, hb1⟩)
      | (go_at_call 27; refine (c2 _ ?side).mono ?_; (case side => exact hT.below (by repeat (first | exact hb1 | apply below_alloc | apply pw_below_drewN | apply below_drew1))); rintro e w2 ⟨rfl, hb2⟩))
    go_ret
    exact ⟨rfl, hb1.trans (hb2.mono hb1.size)⟩
  | true =>
  obtain ⟨b2, hk2, hp⟩ := hv2 rfl
  clear hv2
  have c2 := fun W hW => calepinlaw07_valid.calls s true W hW hv1
  have c3 := fun W => calepinref07_Blanks.calls k s b2 W hk2
  clear hv1 hk2 hf
  cases b2 with
  | true =>
    clear hp
    go_enter Tryz.func9, Tryz.ntmps9
    go_wp2_with (first
      | (go_at_call 19; refine c1.mono ?_; rintro e w1 ⟨rfl, hb1⟩)
      | (go_at_call 27; refine (c2 _ ?side).mono ?_; (case side => exact hT.below (by repeat (first | exact hb1 | apply below_alloc | apply pw_below_drewN | apply below_drew1))); rintro e w2 ⟨rfl, hb2⟩)
      | (go_at_call 28; refine (c3 _).mono ?_; rintro e w3 ⟨rfl, hd3⟩; have hb3 := hd3.below; clear hd3))
    go_ret
    exact ⟨rfl, hb1.trans ((hb2.trans (hb3.mono hb2.size)).mono hb1.size)⟩
  | false =>
    obtain ⟨K0, p0, p2, hP⟩ := hp rfl
    clear hp
    obtain ⟨X, hX⟩ : ∃ X, allL tens s.size s.data.toList = X := ⟨_, rfl⟩
    rw [hX] at hP
    have hbl : w.heap.size ≤ w.heap.size := Nat.le_refl _
    go_enter Tryz.func9, Tryz.ntmps9
    go_wp2_with (first
      | (go_at_call 19; refine c1.mono ?_; rintro e w1 ⟨rfl, hb1⟩)
      | (go_at_call 27; refine (c2 _ ?side).mono ?_; (case side => exact hT.below (by repeat (first | exact hb1 | apply below_alloc | apply pw_below_drewN | apply below_drew1))); rintro e w2 ⟨rfl, hb2⟩)
      | (go_at_call 28; refine (c3 _).mono ?_; rintro e w3 ⟨rfl, hd3⟩; have hb3 := hd3.below; clear hd3))
    have hb := hb1.trans ((hb2.trans (hb3.mono hb2.size)).mono hb1.size)
    clear hb1 hb2 hb3 c1 c2 c3
    have hXl := Lib.hid hX
    clear hX
    go_loopg [5] s.size (fun gf v5 wx => ∃ (pos : Nat) (x : List UInt8), v5 = strV x ∧ wx.heap[w3.heap.size]? = some (.stringIter s pos) ∧ Below w3.heap.size w3 wx ∧ Hid (x ++ allL tens gf (s.data.toList.drop pos) = X) ∧ x.length ≤ 40 * pos ∧ x.length ≤ 40 * s.size ∧ s.size ≤ pos + gf)
    case atStart => exact ⟨0, [], rfl, World.iter_heap w3 s 0, (Below.refl _ w3).alloc (Nat.le_refl _) _, hXl.out, by simp, by simp, by omega⟩
    case round =>
      obtain ⟨pos, x, rfl, hit, hbw, hleft, hx1, hx2, hfu⟩ := hrel
      by_cases hps : pos < s.size
      · obtain ⟨g', rfl⟩ : ∃ g', gk = g' + 1 := ⟨gk - 1, by omega⟩
        have hnx : ∀ ty, (Instr.next (.pointer (some ⟨w3.heap.size, 0, none⟩)) true ty).run Tryz.prog wr = _ := fun ty => Lib.run_next_any_at wr w3.heap.size s pos ty hit hps
        have hwd := Lib.width_pos s pos
        have hrn := rune_le s pos
        have hdl := decodeL_drop s pos
        have hne : s.data.toList.drop pos ≠ [] := by
          intro e
          have := congrArg List.length e
          rw [List.length_drop] at this
          have h3 : s.data.toList.length = s.size := rfl
          simp only [List.length_nil] at this
          omega
        have hall : allL tens (g' + 1) (s.data.toList.drop pos) = entR tens (Utf8.decode s pos).1 ++ allL tens g' (s.data.toList.drop (pos + (Utf8.decode s pos).2)) := by
          show (if _ then _ else _) = _
          rw [if_neg hne, hdl, List.drop_drop]
        obtain ⟨R, hR⟩ : ∃ R, (Utf8.decode s pos).1 = R := ⟨_, rfl⟩
        obtain ⟨K, hK⟩ : ∃ K, (Utf8.decode s pos).2 = K := ⟨_, rfl⟩
        rw [hR, hK] at hnx hall
        rw [hK] at hwd
        rw [hR] at hrn
        have hleft2 := hleft.out
        rw [hall] at hleft2
        clear hleft hall hne hdl
        have hel := entR_len tens R
        have hit2 := Lib.iterAt_heap wr w3.heap.size s pos (pos + K) hit
        have hbw2 := Lib.below_iterAt hbw (k := w3.heap.size) (Nat.le_refl _) s (pos + K)
        obtain ⟨W, hWd⟩ : ∃ W, wr.iterAt w3.heap.size s (pos + K) = W := ⟨_, rfl⟩
        rw [hWd] at hnx hit2 hbw2
        clear hR hK hWd hbw hit
        have hr0 : (0 : Int) ≤ (R : Int) := by omega
        have hr1 : (R : Int) ≤ 1114111 := by omega
        have hp0 : (0 : Int) ≤ (pos : Int) := by omega
        cases tens with
        | true =>
          have cD := fun W => calepinlaw07_digits.calls 30 (R : Int) 10 _ W (dig_f 10 (.inl rfl) R (by omega))
          have hD := digF_len 10 30 R []
          have hE : entR true R = 38 :: 35 :: (digF 10 30 R [] ++ [59]) := rfl
          rw [hE] at hleft2 hel
          generalize digF 10 30 R [] = D at *
          have hleft3 := Lib.hid hleft2
          clear hleft2 hE
          simp only [List.length_nil, Nat.zero_add] at hD
          have z1 : (9223372036854775807 < 2 + D.length) = False := eq_false (by omega)
          have z2 : (9223372036854775807 < 2 + D.length + 1) = False := eq_false (by omega)
          have z3 : (9223372036854775807 < x.length + (2 + D.length + 1)) = False := eq_false (by omega)
          go_wp2_with (go_at_call 29; refine (cD _).mono ?_; rintro e W' ⟨rfl, hd⟩; have hbd := hd.below; have hit3 := (hbd.block _ (Array.getElem?_eq_some_iff.1 hit2).1).trans hit2; clear hd)
          go_roundg g'
          case measure => omega
          case rel => exact ⟨pos + K, x ++ (38 :: 35 :: (D ++ [59])), congrArg Value.string (ent_str10 x D), hit3, hbw2.trans (hbd.mono hbw2.size), Lib.hid (by have h := hleft3.out; rw [List.append_assoc]; exact h), by simp only [List.length_append, List.length_cons, List.length_nil]; omega, by simp only [List.length_append, List.length_cons, List.length_nil]; omega, by omega⟩
        | false =>
          have cD := fun W => calepinlaw07_digits.calls 30 (R : Int) 16 _ W (dig_f 16 (.inr rfl) R (by omega))
          have hD := digF_len 16 30 R []
          have hE : entR false R = 38 :: 35 :: 120 :: (digF 16 30 R [] ++ [59]) := rfl
          rw [hE] at hleft2 hel
          generalize digF 16 30 R [] = D at *
          have hleft3 := Lib.hid hleft2
          clear hleft2 hE
          simp only [List.length_nil, Nat.zero_add] at hD
          have z1 : (9223372036854775807 < 3 + D.length) = False := eq_false (by omega)
          have z2 : (9223372036854775807 < 3 + D.length + 1) = False := eq_false (by omega)
          have z3 : (9223372036854775807 < x.length + (3 + D.length + 1)) = False := eq_false (by omega)
          go_wp2_with (go_at_call 29; refine (cD _).mono ?_; rintro e W' ⟨rfl, hd⟩; have hbd := hd.below; have hit3 := (hbd.block _ (Array.getElem?_eq_some_iff.1 hit2).1).trans hit2; clear hd)
          go_roundg g'
          case measure => omega
          case rel => exact ⟨pos + K, x ++ (38 :: 35 :: 120 :: (D ++ [59])), congrArg Value.string (ent_str16 x D), hit3, hbw2.trans (hbd.mono hbw2.size), Lib.hid (by have h := hleft3.out; rw [List.append_assoc]; exact h), by simp only [List.length_append, List.length_cons, List.length_nil]; omega, by simp only [List.length_append, List.length_cons, List.length_nil]; omega, by omega⟩
      · have hnx : ∀ ty, (Instr.next (.pointer (some ⟨w3.heap.size, 0, none⟩)) true ty).run Tryz.prog wr = _ := fun ty => Lib.run_next_end_at wr w3.heap.size s pos ty hit hps
        have hxe : x = X := by
          have h := hleft.out
          rw [List.drop_eq_nil_of_le (by show s.data.toList.length ≤ pos; have h3 : s.data.toList.length = s.size := rfl; omega)] at h
          have h0 : allL tens gk [] = [] := by cases gk <;> rfl
          rw [h0, List.append_nil] at h
          exact h
        subst hxe
        have hTr := hT.below (hb.trans (hbw.mono hb.size))
        have hcall := parse_any K0 _ wr hTr (by simp only [List.length_cons, List.length_append, List.length_nil]; omega) _ hP
        have hds := doc_str x
        change Calls Tryz.prog 25 #[.string ⟨(60 :: 97 :: 62 :: (x ++ [60, 47, 97, 62])).toArray⟩] _ _ at hcall
        rw [← hds] at hcall
        clear hleft hXl hds hP hit
        have z1 : (9223372036854775807 < 3 + x.length) = False := eq_false (by omega)
        have z2 : (9223372036854775807 < 3 + x.length + 4) = False := eq_false (by omega)
        go_wp2_with fail
        with_reducible refine hcall.mono ?_
        rintro e w4 ⟨v, rfl, ho, hb4⟩
        obtain ⟨ho1, ho2⟩ := ho
        obtain ⟨g, cap, cur, rfl, hgw, hg, hn, hc1, hc2, hpx⟩ := ho2.resolve_left (fun h => absurd h.2 (by simp))
        have hpc : pcs [p0, ⟨3, 0, ⟨#[]⟩, s⟩, p2] = pcCells p0 ++ ([.int .i64 3, .int .i64 0, .string ⟨#[]⟩, .string s] ++ pcCells p2) := by simp [pcs, pcCells]
        have hce : ∀ j, j < 12 → w4.cell? ⟨g, j, none⟩ = (pcCells p0 ++ ([.int .i64 3, .int .i64 0, .string ⟨#[]⟩, .string s] ++ pcCells p2))[j]? := fun j hj => by
          rw [Lib.cell_of_heap hg, ← hpc, ← hpx, List.getElem?_take_of_lt (by simpa using hj), Array.getElem?_toList]
        have d4 : w4.cell? ⟨g, 4, none⟩ = some (.int .i64 3) := (hce 4 (by decide)).trans rfl
        have d5 : w4.cell? ⟨g, 5, none⟩ = some (.int .i64 0) := (hce 5 (by decide)).trans rfl
        have d6 : w4.cell? ⟨g, 6, none⟩ = some (.string ⟨#[]⟩) := (hce 6 (by decide)).trans rfl
        have d7 : w4.cell? ⟨g, 7, none⟩ = some (.string s) := (hce 7 (by decide)).trans rfl
        clear hce hg hpx ho1 ho2 hpc hn
        go_wp2
        go_ret
        exact ⟨by simp, hb.trans ((hbw.trans (hb4.mono hbw.size)).mono hb.size)⟩
end Go.Proofs.YtpaopeiegaijiaaGreatDoor.PwXmlChars
