/- char.Number, walked. -/
import Derived.Test.YtipfekjmcddelaaGreatDoorDc
namespace Go.Proofs.YtipfekjmcddelaaGreatDoor
open Go.RowKit Go.Shelf Go.Lib Go.Joins Go.Sort Go.Proofs.YtipfekjmcddelaaGreatDoorW.zgo
set_option linter.unusedVariables false
set_option linter.unusedSimpArgs false
def digitSet : List UInt8 := [48, 49, 50, 51, 52, 53, 54, 55, 56, 57]
def numV (s : ByteArray) (most : Nat) : Nat × Bool :=
  if s.data.toList = [] then (0, false) else if s.data.toList.head? = some 48 ∧ 1 < s.data.toList.length then (0, false) else if Lib.trimS s.data.toList digitSet ≠ [] then (0, false)
  else match Lib.parseUintB 64 s.data.toList with
    | .ok u => if u ≤ most then (u, true) else (0, false)
    | _ => (0, false)
theorem trimDigits (s : ByteArray) (W : World) (hs : s.size ≤ 281474976710656) :
    Calls Tryz.prog 39 #[.string s, .string ⟨#[48, 49, 50, 51, 52, 53, 54, 55, 56, 57]⟩] W fun e w' => e = .returned (.string ⟨(Lib.trimS s.data.toList digitSet).toArray⟩) ∧ Below W.heap.size W w' :=
  Any.strings_Trim_laid Tryz.lays160 (by kernel_rfl) s ⟨#[48, 49, 50, 51, 52, 53, 54, 55, 56, 57]⟩ W (by omega) (by decide) (by
    intro j b hb
    have h : b ∈ digitSet := List.mem_of_getElem? hb
    clear hb
    simp only [digitSet, List.mem_cons, List.not_mem_nil, or_false] at h
    rcases h with rfl | rfl | rfl | rfl | rfl | rfl | rfl | rfl | rfl | rfl <;> decide)
theorem below_bytesWorld (w : World) (T : TypeId) (s : ByteArray) : Below w.heap.size w (Lib.bytesWorld w T s) :=
  ⟨rfl, rfl, rfl, by rw [Lib.bytesWorld_size]; omega, fun j hj => Lib.bytesWorld_at_old w T s j hj⟩
/-- strconv.ParseUint at ten and 64 bits: a number and none, or a number and an error. -/
theorem parse_ok (s : ByteArray) (W : World) (hs : s.size ≤ 281474976710656) (u : Nat) (h : Lib.parseUintB 64 s.data.toList = .ok u) :
    Calls Tryz.prog 40 #[.string s, .int .i64 10, .int .i64 64] W fun e w' => e = .returned (.tuple #[.int .u64 u, .nilIface]) ∧ Below W.heap.size W w' :=
  (Tryz.strconv_ParseUint_10_at64_ok s (by omega) u h W).mono fun e w' ⟨he, hw⟩ => ⟨he, by rcases hw with rfl | rfl; exact Below.refl _ _; exact below_bytesWorld _ _ _⟩
theorem parse_no (s : ByteArray) (W : World) (hs : s.size ≤ 281474976710656) (hT : Laid W) (h : ∀ u, Lib.parseUintB 64 s.data.toList ≠ .ok u) :
    Calls Tryz.prog 40 #[.string s, .int .i64 10, .int .i64 64] W fun e w' => (∃ (u : Int) (N : Nat), e = .returned (.tuple #[.int .u64 u, .iface 104 (.pointer (some ⟨N, 0, none⟩))])) ∧ Below W.heap.size W w' := by
  rcases hp : Lib.parseUintB 64 s.data.toList with u | _ | _
  · exact absurd hp (h u)
  · obtain ⟨tp, p, hv⟩ := hT.syn
    exact (Any.strconv_ParseUint_10_at64_syntax_var Tryz.laysPu14 s (by omega) hp tp p W hv).mono fun e w' ⟨N, he, _, _, hb⟩ => ⟨⟨_, N, he⟩, hb⟩
  · obtain ⟨tp, p, hv⟩ := hT.ran
    exact (Tryz.strconv_ParseUint_10_at64_range_var s (by omega) hp tp p W hv).mono fun e w' ⟨N, he, _, _, hb⟩ => ⟨⟨_, N, he⟩, hb⟩
set_option maxHeartbeats 2000000 in
set_option maxRecDepth 100000 in
theorem number_any (s : ByteArray) (most : Nat) (hm : most < 18446744073709551616) (w : World) (hT : Laid w) (hs : s.size ≤ 281474976710656) (R : Nat × Bool) (hR : numV s most = R) :
    Calls Tryz.prog 28 #[.string s, .int .u64 most] w fun e w' => e = .returned (.tuple #[.int .u64 R.1, .bool R.2]) ∧ Below w.heap.size w w' := by
  unfold numV at hR
  have hTrim := fun W => trimDigits s W hs
  have hOk := fun W => parse_ok s W hs
  have hNo := fun W => parse_no s W hs
  have HT := Aside0.mk hT
  clear hT
  obtain ⟨l, hl⟩ : ∃ l, s.data.toList = l := ⟨_, rfl⟩
  obtain rfl : s = ⟨l.toArray⟩ := by rw [← hl]
  simp only at hl hR hTrim hOk hNo
  clear hl
  cases l with
  | nil =>
    rw [if_pos rfl] at hR
    subst hR
    go_enter Tryz.func28, Tryz.ntmps28
    go_wp2
    go_ret2
    exact ⟨rfl, Below.refl _ _⟩
  | cons a l =>
    rw [if_neg (by simp)] at hR
    have hg : ∀ h, ((⟨(a :: l).toArray⟩ : ByteArray)[0]'h) = a := fun _ => rfl
    by_cases c1 : (a :: l).head? = some 48 ∧ 1 < (a :: l).length
    · rw [if_pos c1] at hR
      subst hR
      obtain ⟨c1, c2⟩ := c1
      obtain rfl : a = 48 := by simpa using c1
      have c3 : 1 < l.length + 1 := by simpa using c2
      clear hTrim hOk hNo
      go_enter Tryz.func28, Tryz.ntmps28
      go_wp2
      all_goals first | (exfalso; rename_i h; exact h rfl) | (go_ret2; exact ⟨rfl, Below.refl _ _⟩)
    · rw [if_neg c1] at hR
      obtain ⟨T, hTr⟩ : ∃ T, Lib.trimS (a :: l) digitSet = T := ⟨_, rfl⟩
      rw [hTr] at hR hTrim
      cases T with
      | cons x T =>
        rw [if_pos (by simp)] at hR
        subst hR
        clear hOk hNo
        go_enter Tryz.func28, Tryz.ntmps28
        go_wp2_with (go_at_call 39; refine (hTrim _).mono ?_; rintro e w1 ⟨rfl, hb1⟩)
        all_goals first | (go_ret2; exact ⟨rfl, hb1⟩) | (go_ret2; exact ⟨rfl, Below.refl _ _⟩)
      | nil =>
        rw [if_neg (by simp)] at hR
        have hbad : ∀ (h1 : (a.toNat : Int) = 48) (h2 : 1 < (l.length : Int) + 1), False := by
          intro h1 h2
          have h3 : a.toNat = (48 : UInt8).toNat := by show a.toNat = 48; omega
          exact c1 ⟨by rw [List.head?_cons, UInt8.toNat_inj.1 h3], by simp only [List.length_cons]; omega⟩
        by_cases hk : ∃ u, Lib.parseUintB 64 (a :: l) = .ok u
        · obtain ⟨u, hu⟩ := hk
          simp only [hu] at hR
          have hOk' := fun W => hOk W u hu
          clear hOk hNo hu
          by_cases cu : u ≤ most
          · rw [if_pos cu] at hR
            subst hR
            have cu' : ¬ (most : Int) < (u : Int) := by omega
            go_enter Tryz.func28, Tryz.ntmps28
            go_wp2_with (first | (go_at_call 39; refine (hTrim _).mono ?_; rintro e w1 ⟨rfl, hb1⟩) | (go_at_call 40; refine (hOk' _).mono ?_; rintro e w2 ⟨rfl, hb2⟩))
            all_goals first | (exfalso; exact hbad ‹_› ‹_›) | (go_ret2; exact ⟨rfl, hb1.trans (hb2.mono hb1.size)⟩)
          · rw [if_neg cu] at hR
            subst hR
            have cu' : (most : Int) < (u : Int) := by omega
            go_enter Tryz.func28, Tryz.ntmps28
            go_wp2_with (first | (go_at_call 39; refine (hTrim _).mono ?_; rintro e w1 ⟨rfl, hb1⟩) | (go_at_call 40; refine (hOk' _).mono ?_; rintro e w2 ⟨rfl, hb2⟩))
            all_goals first | (exfalso; exact hbad ‹_› ‹_›) | (go_ret2; exact ⟨rfl, hb1.trans (hb2.mono hb1.size)⟩)
        · have hR' : (0, false) = R := by
            rw [← hR]
            split
            · rename_i u hu; exact absurd ⟨u, hu⟩ hk
            · rfl
          subst hR'
          have hNo' := fun W hW => hNo W hW (fun u hu => hk ⟨u, hu⟩)
          clear hOk hNo hk hR
          go_enter Tryz.func28, Tryz.ntmps28
          go_wp2_with (first | (go_at_call 39; refine (hTrim _).mono ?_; rintro e w1 ⟨rfl, hb1⟩) | (go_at_call 40; refine (hNo' _ (HT.out.below hb1)).mono ?_; rintro e w2 ⟨⟨u, N, rfl⟩, hb2⟩))
          all_goals first | (exfalso; exact hbad ‹_› ‹_›) | (go_ret2; exact ⟨rfl, hb1.trans (hb2.mono hb1.size)⟩)
end Go.Proofs.YtipfekjmcddelaaGreatDoor
