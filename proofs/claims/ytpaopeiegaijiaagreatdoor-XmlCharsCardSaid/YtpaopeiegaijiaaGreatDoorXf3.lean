import Derived.Test.YtpaopeiegaijiaaGreatDoorXf1
/- Entities told by their numbers. -/
namespace Go.Proofs.YtpaopeiegaijiaaGreatDoor
open Go.RowKit Go.Shelf Go.Lib Go.Joins Go.Proofs.YtpaopeiegaijiaaGreatDoorW.PrintWords
set_option linter.unusedVariables false
set_option linter.unusedSimpArgs false
/-- How entity ends. -/
def ResE (w : World) (r : Option (List UInt8)) (e : Ending) (w' : World) : Prop :=
  match r with
  | some t => e = .returned (strV t) ∧ Below w.heap.size w w'
  | none => e = .panicked [flt] ∧ Below w.heap.size w w'
/-- The number of an entity's digits, in tens or sixteens. -/
def numL (b : Bool) (l : List UInt8) : Option Nat :=
  if b then hexM 0 l else match Lib.parseUintB 32 l with
    | .ok u => some u
    | _ => none
def PuE (r : Option Nat) (e : Ending) : Prop :=
  match r with
  | some n => e = .returned (.tuple #[.int .u64 n, .nilIface])
  | none => ∃ (m : Int) (N : Nat), e = .returned (.tuple #[.int .u64 m, .iface 234 (.pointer (some ⟨N, 0, none⟩))])
theorem pub10 (l : List UInt8) (w : World) (hT : LaidM w) (hl : l.length ≤ 65536) : Calls Tryz.prog 140 #[strV l, .int .i64 10, .int .i64 32] w fun e w' => PuE (numL false l) e ∧ Below w.heap.size w w' := by
  obtain ⟨tp, p, hs⟩ := hT.syn
  obtain ⟨tp2, p2, hr⟩ := hT.ran
  have hsz : (⟨l.toArray⟩ : ByteArray).size = l.length := sz_l l
  unfold numL
  rw [if_neg (by decide)]
  rcases h : Lib.parseUintB 32 l with u | _ | _
  · refine (Any.strconv_ParseUint_10_at32_ok Tryz.laysPu14 ⟨l.toArray⟩ (by omega) u h w).mono ?_
    rintro e w' ⟨rfl, h⟩
    refine ⟨rfl, ?_⟩
    rcases h with rfl | rfl
    · exact Below.refl _ _
    · exact below_bytesWorld _ _ _ _ (Nat.le_refl _)
  · refine (Any.strconv_ParseUint_10_at32_syntax Tryz.laysPu14 ⟨l.toArray⟩ (by omega) h (.iface tp p) w hs (Or.inr ⟨tp, p, rfl⟩)).mono ?_
    rintro e w' ⟨N, rfl, _, _, hb⟩
    exact ⟨⟨_, N, rfl⟩, hb⟩
  · refine (Any.strconv_ParseUint_10_at32_range Tryz.laysPu14 ⟨l.toArray⟩ (by omega) h (.iface tp2 p2) w hr (Or.inr ⟨tp2, p2, rfl⟩)).mono ?_
    rintro e w' ⟨N, rfl, _, _, hb⟩
    exact ⟨⟨_, N, rfl⟩, hb⟩
set_option maxRecDepth 100000 in
theorem pub16 (l : List UInt8) (w : World) (hT : LaidM w) (hl : l.length ≤ 65536) (hne : l ≠ []) (hx : ∀ c ∈ l, isHex c = true) : Calls Tryz.prog 140 #[strV l, .int .i64 16, .int .i64 32] w fun e w' => PuE (numL true l) e ∧ Below w.heap.size w w' := by
  have hsz : (⟨l.toArray⟩ : ByteArray).size = l.length := sz_l l
  have hI := pu16 l hne hl hx w
  unfold numL
  rw [if_pos rfl]
  cases h : hexM 0 l with
  | some n =>
    rw [h] at hI
    go_enter Tryz.func140, Tryz.ntmps140
    go_wp2_with (go_at_call 158; refine hI.mono ?_; rintro e w1 ⟨rfl, hb1⟩; unfold hexV)
    go_ret2
    exact ⟨rfl, hb1⟩
  | none =>
    rw [h] at hI
    go_enter Tryz.func140, Tryz.ntmps140
    go_wp2_with (go_at_call 158; refine hI.mono ?_; rintro e w1 ⟨rfl, hb1⟩; unfold hexV)
    obtain ⟨tp2, p2, hr⟩ := (hT.below hb1).ran
    have hE := AnyPu.strconv_toError_range (P := Tryz.prog) (ρ := Tryz.laysPu14_ren) { Tryz.laysPu14 with } ⟨#[80, 97, 114, 115, 101, 85, 105, 110, 116]⟩ ⟨l.toArray⟩ 16 32 (.iface tp2 p2) w1 (by omega) hr (Or.inr ⟨tp2, p2, rfl⟩)
    change Calls Tryz.prog 159 #[.string ⟨#[80, 97, 114, 115, 101, 85, 105, 110, 116]⟩, .string ⟨l.toArray⟩, .int .i64 16, .int .i64 32, .iface 232 (.int .i64 1)] w1 _ at hE
    go_wp2_with (go_at_call 159; refine hE.mono ?_)
    rintro e w2 ⟨N, rfl, _, _, hb2⟩
    go_wp2
    go_ret2
    exact ⟨⟨_, N, rfl⟩, hb1.trans (hb2.mono hb1.size)⟩
theorem dropWhile_nil {p : UInt8 → Bool} : ∀ {l : List UInt8}, l.dropWhile p = [] → ∀ c ∈ l, p c = true
  | [], _, c, hc => by cases hc
  | x :: l, h, c, hc => by
    rw [List.dropWhile_cons] at h
    split at h
    · rename_i hx
      rcases List.mem_cons.1 hc with rfl | hc
      · exact hx
      · exact dropWhile_nil h c hc
    · cases h
theorem tw_mem {p : UInt8 → Bool} {c : UInt8} : ∀ {l : List UInt8}, c ∈ l.takeWhile p → p c = true
  | [], h => by cases h
  | x :: l, h => by
    rw [List.takeWhile_cons] at h
    split at h
    · rename_i hx
      rcases List.mem_cons.1 h with rfl | h
      · exact hx
      · exact tw_mem h
    · cases h
theorem hex_all : ∀ c ∈ ([48, 49, 50, 51, 52, 53, 54, 55, 56, 57, 97, 98, 99, 100, 101, 102, 65, 66, 67, 68, 69, 70] : List UInt8), isHex c = true := by decide +kernel
theorem hex_of_trim {l : List UInt8} (h : Lib.trimS l [48, 49, 50, 51, 52, 53, 54, 55, 56, 57, 97, 98, 99, 100, 101, 102, 65, 66, 67, 68, 69, 70] = []) : ∀ c ∈ l, isHex c = true := by
  intro c hc
  have hin : ∀ {c : UInt8}, ([48, 49, 50, 51, 52, 53, 54, 55, 56, 57, 97, 98, 99, 100, 101, 102, 65, 66, 67, 68, 69, 70] : List UInt8).contains c = true → isHex c = true := fun h => hex_all _ (List.contains_iff_mem.1 h)
  unfold Lib.trimS Lib.trimLeftS Lib.trimRightS at h
  have h1 := dropWhile_nil h
  have hc' : c ∈ l.reverse := List.mem_reverse.2 hc
  rw [← List.takeWhile_append_dropWhile (p := fun x => ([48, 49, 50, 51, 52, 53, 54, 55, 56, 57, 97, 98, 99, 100, 101, 102, 65, 66, 67, 68, 69, 70] : List UInt8).contains x) (l := l.reverse)] at hc'
  rcases List.mem_append.1 hc' with hc' | hc'
  · exact hin (tw_mem hc')
  · exact hin (h1 c (List.mem_reverse.2 hc'))
/-- The text of a number. -/
def encV (n : Nat) : Option (List UInt8) := if validB (Utf8.encode n) = true then some (Utf8.encode n).data.toList else none
def entD (b : Bool) (l : List UInt8) : Option (List UInt8) :=
  if l = [] then none else
  match Lib.trimS l [48, 49, 50, 51, 52, 53, 54, 55, 56, 57, 97, 98, 99, 100, 101, 102, 65, 66, 67, 68, 69, 70] with
  | _ :: _ => none
  | [] => match numL b l with
    | none => none
    | some n => if n ≤ 1114111 ∧ (n < 55296 ∨ 57343 < n) then encV n else none
/-- What &#r; stands for. -/
def numE : List UInt8 → Option (List UInt8)
  | 120 :: l => entD true l
  | l => entD false l
theorem ascii_digits : ∀ c ∈ ([48, 49, 50, 51, 52, 53, 54, 55, 56, 57, 97, 98, 99, 100, 101, 102, 65, 66, 67, 68, 69, 70] : List UInt8), c.toNat < 128 := by decide
theorem strV_enc (s : ByteArray) : strV s.data.toList = .string s := rfl
set_option maxRecDepth 100000 in
set_option maxHeartbeats 4000000 in
theorem entD_any (x : Value) (c : UInt8) (l : List UInt8) (w : World) (hT : LaidM w) (hl : l.length ≤ 65532) (h120 : c ≠ 120) : Calls Tryz.prog 106 #[x, strV (35 :: c :: l)] w fun e w' => ResE w (entD false (c :: l)) e w' := by
  have htr := fun W => Any.strings_Trim_laid Tryz.laysTrim (by kernel_rfl) ⟨(c :: l).toArray⟩ ⟨#[48, 49, 50, 51, 52, 53, 54, 55, 56, 57, 97, 98, 99, 100, 101, 102, 65, 66, 67, 68, 69, 70]⟩ W (by rw [sz_l]; simp only [List.length_cons]; omega) (by decide) (ascii_of_all (by decide))
  change ∀ W, Calls Tryz.prog 92 #[strV (c :: l), .string ⟨#[48, 49, 50, 51, 52, 53, 54, 55, 56, 57, 97, 98, 99, 100, 101, 102, 65, 66, 67, 68, 69, 70]⟩] W (fun e w' => e = .returned (strV (Lib.trimS (c :: l) [48, 49, 50, 51, 52, 53, 54, 55, 56, 57, 97, 98, 99, 100, 101, 102, 65, 66, 67, 68, 69, 70])) ∧ Below W.heap.size W w') at htr
  obtain ⟨R, hR⟩ : ∃ R, entD false (c :: l) = R := ⟨_, rfl⟩
  rw [hR]
  obtain ⟨Q, hQ⟩ : ∃ Q : Ending → World → Prop, ∀ e w', Q e w' = ResE w R e w' := ⟨_, fun _ _ => rfl⟩
  have hQQ : (fun e w' => ResE w R e w') = Q := funext fun e => funext fun w' => (hQ e w').symm
  rw [hQQ]
  clear hQQ
  replace hQ := Lib.hid hQ
  unfold entD at hR
  rw [if_neg (by simp)] at hR
  go_enter Tryz.func106, Tryz.ntmps106
  go_wp2_with fail
  refine (hasPre (35 :: c :: l) ⟨#[35]⟩ true (by simp [List.isPrefixOf]) _).mono ?_
  rintro e w' ⟨rfl, rfl⟩
  go_wp2_with fail
  refine (must_ok _ _).mono ?_
  rintro e w' ⟨rfl, rfl⟩
  have hex : (⟨((35 :: c :: l) : List UInt8).toArray⟩ : ByteArray).extract 1 (l.length + 1 + 1) = ⟨((c :: l) : List UInt8).toArray⟩ := by
    rw [ext_l]; congr 2; simp
  go_wp2_with fail
  refine (hasPre (c :: l) ⟨#[120]⟩ false (by simp [List.isPrefixOf]; exact fun h => h120 h.symm) _).mono ?_
  rintro e w' ⟨rfl, rfl⟩
  cases hT0 : Lib.trimS (c :: l) [48, 49, 50, 51, 52, 53, 54, 55, 56, 57, 97, 98, 99, 100, 101, 102, 65, 66, 67, 68, 69, 70] with
  | cons d ds =>
    rw [hT0] at htr hR
    dsimp only at hR
    subst hR
    go_wp2_with fail
    refine (htr _).mono ?_
    rintro e w2 ⟨rfl, hb2⟩
    go_wp2_with fail
    refine (must_bad _ _).mono ?_
    rintro e w' ⟨rfl, rfl⟩
    refine ⟨rfl, (hQ.out _ _).symm ▸ ?_⟩
    exact ⟨rfl, hb2⟩
  | nil =>
    rw [hT0] at htr hR
    dsimp only at hR
    go_wp2_with fail
    refine (htr _).mono ?_
    rintro e w2 ⟨rfl, hb2⟩
    go_wp2_with fail
    refine (must_ok _ _).mono ?_
    rintro e w' ⟨rfl, rfl⟩
    clear htr
    have hpu := fun W hb2 => pub10 (c :: l) W (hT.below hb2) (by simp only [List.length_cons]; omega)
    cases hn : numL false (c :: l) with
    | none =>
      rw [hn] at hpu hR
      dsimp only at hR
      subst hR
      go_wp2_with fail
      refine (hpu _ hb2).mono ?_
      rintro e w3 ⟨⟨m, N, rfl⟩, hb3⟩
      go_wp2_with fail
      refine (must_bad _ _).mono ?_
      rintro e w' ⟨rfl, rfl⟩
      refine ⟨rfl, (hQ.out _ _).symm ▸ ?_⟩
      exact ⟨rfl, hb2.trans (hb3.mono hb2.size)⟩
    | some n =>
      rw [hn] at hpu hR
      dsimp only at hR
      go_wp2_with fail
      refine (hpu _ hb2).mono ?_
      rintro e w3 ⟨rfl, hb3⟩
      have hb23 := hb2.trans (hb3.mono hb2.size)
      obtain ⟨N, hN⟩ : ∃ N : Int, N = n := ⟨_, rfl⟩
      rw [← hN]
      clear hpu hb3 hn
      by_cases h0 : n ≤ 1114111 ∧ (n < 55296 ∨ 57343 < n)
      case neg =>
        rw [if_neg h0] at hR
        subst hR
        have i3 : 1114111 < N ∨ (55296 ≤ N ∧ N ≤ 57343) := by omega
        clear h0 hN
        have hb : ¬ 1114111 < N → (decide (N < 55296) || decide (57343 < N)) = false := fun h => by rw [Bool.or_eq_false_iff]; exact ⟨decide_eq_false (by omega), decide_eq_false (by omega)⟩
        replace hb := Lib.hid hb
        rcases i3 with i3 | ⟨i3, i4⟩
        all_goals
          go_wp2_with fail
          try rw [hb.out (by omega)]
          with_reducible refine (must_bad _ _).mono ?_
          rintro e w' ⟨rfl, rfl⟩
          refine ⟨rfl, (hQ.out _ _).symm ▸ ?_⟩
          exact ⟨rfl, hb23⟩
      case pos =>
        rw [if_pos h0] at hR
        have i1 : N ≤ 1114111 := by omega
        have i0 : 0 ≤ N := by omega
        have i2 : N < 55296 ∨ 57343 < N := by omega
        have hNh := Lib.hid hN
        subst hR
        have hb : (decide (N < 55296) || decide (57343 < N)) = true := by
          rw [Bool.or_eq_true]; exact i2.imp decide_eq_true decide_eq_true
        replace hb := Lib.hid hb
        clear h0 hN i2
        go_wp2_with fail
        all_goals
          try rw [hb.out]
          with_reducible refine (must_ok _ _).mono ?_
          rintro e w' ⟨rfl, rfl⟩
          have hva := valid_any (Utf8.encode N) w' (hT.below hb23) (Nat.le_trans (encode_size_le N) (by decide))
          go_wp2_with fail
          with_reducible refine hva.mono ?_
          rintro e w5 ⟨rfl, hb5⟩
          cases hv : validB (Utf8.encode N) with
          | false =>
            have hE : encV n = none := by unfold encV; rw [← hNh.out, hv, if_neg (by decide)]
            have hQ2 := hQ.out
            simp only [hE] at hQ2
            clear hE
            replace hQ2 := Lib.hid hQ2
            go_wp2_with fail
            with_reducible refine (must_bad _ _).mono ?_
            rintro e w' ⟨rfl, rfl⟩
            refine ⟨rfl, (hQ2.out _ _).symm ▸ ?_⟩
            exact ⟨rfl, hb23.trans (hb5.mono hb23.size)⟩
          | true =>
            have hE : encV n = some (Utf8.encode N).data.toList := by unfold encV; rw [← hNh.out, hv, if_pos rfl]
            have hQ2 := hQ.out
            simp only [hE] at hQ2
            clear hE
            replace hQ2 := Lib.hid hQ2
            go_wp2_with fail
            with_reducible refine (must_ok _ _).mono ?_
            rintro e w' ⟨rfl, rfl⟩
            go_wp2
            rw [hQ2.out]
            exact ⟨rfl, hb23.trans (hb5.mono hb23.size)⟩
set_option maxRecDepth 100000 in
set_option maxHeartbeats 4000000 in
theorem entH_any (x : Value) (c : UInt8) (l : List UInt8) (w : World) (hT : LaidM w) (hl : l.length ≤ 65532) : Calls Tryz.prog 106 #[x, strV (35 :: 120 :: c :: l)] w fun e w' => ResE w (entD true (c :: l)) e w' := by
  have htr := fun W => Any.strings_Trim_laid Tryz.laysTrim (by kernel_rfl) ⟨(c :: l).toArray⟩ ⟨#[48, 49, 50, 51, 52, 53, 54, 55, 56, 57, 97, 98, 99, 100, 101, 102, 65, 66, 67, 68, 69, 70]⟩ W (by rw [sz_l]; simp only [List.length_cons]; omega) (by decide) (ascii_of_all (by decide))
  change ∀ W, Calls Tryz.prog 92 #[strV (c :: l), .string ⟨#[48, 49, 50, 51, 52, 53, 54, 55, 56, 57, 97, 98, 99, 100, 101, 102, 65, 66, 67, 68, 69, 70]⟩] W (fun e w' => e = .returned (strV (Lib.trimS (c :: l) [48, 49, 50, 51, 52, 53, 54, 55, 56, 57, 97, 98, 99, 100, 101, 102, 65, 66, 67, 68, 69, 70])) ∧ Below W.heap.size W w') at htr
  obtain ⟨R, hR⟩ : ∃ R, entD true (c :: l) = R := ⟨_, rfl⟩
  rw [hR]
  obtain ⟨Q, hQ⟩ : ∃ Q : Ending → World → Prop, ∀ e w', Q e w' = ResE w R e w' := ⟨_, fun _ _ => rfl⟩
  have hQQ : (fun e w' => ResE w R e w') = Q := funext fun e => funext fun w' => (hQ e w').symm
  rw [hQQ]
  clear hQQ
  replace hQ := Lib.hid hQ
  unfold entD at hR
  rw [if_neg (by simp)] at hR
  go_enter Tryz.func106, Tryz.ntmps106
  go_wp2_with fail
  refine (hasPre (35 :: 120 :: c :: l) ⟨#[35]⟩ true (by simp [List.isPrefixOf]) _).mono ?_
  rintro e w' ⟨rfl, rfl⟩
  go_wp2_with fail
  refine (must_ok _ _).mono ?_
  rintro e w' ⟨rfl, rfl⟩
  have hex : (⟨((35 :: 120 :: c :: l) : List UInt8).toArray⟩ : ByteArray).extract 1 (l.length + 1 + 1 + 1) = ⟨((120 :: c :: l) : List UInt8).toArray⟩ := by
    rw [ext_l]; congr 2; simp
  have hex2 : (⟨(120 :: c :: l : List UInt8).toArray⟩ : ByteArray).extract 1 (l.length + 1 + 1) = ⟨(c :: l : List UInt8).toArray⟩ := by
    rw [ext_l]; congr 2; simp
  go_wp2_with fail
  refine (hasPre (120 :: c :: l) ⟨#[120]⟩ true (by simp [List.isPrefixOf]) _).mono ?_
  rintro e w' ⟨rfl, rfl⟩
  cases hT0 : Lib.trimS (c :: l) [48, 49, 50, 51, 52, 53, 54, 55, 56, 57, 97, 98, 99, 100, 101, 102, 65, 66, 67, 68, 69, 70] with
  | cons d ds =>
    rw [hT0] at htr hR
    dsimp only at hR
    subst hR
    go_wp2_with fail
    refine (htr _).mono ?_
    rintro e w2 ⟨rfl, hb2⟩
    go_wp2_with fail
    refine (must_bad _ _).mono ?_
    rintro e w' ⟨rfl, rfl⟩
    refine ⟨rfl, (hQ.out _ _).symm ▸ ?_⟩
    exact ⟨rfl, hb2⟩
  | nil =>
    rw [hT0] at htr hR
    dsimp only at hR
    go_wp2_with fail
    refine (htr _).mono ?_
    rintro e w2 ⟨rfl, hb2⟩
    go_wp2_with fail
    refine (must_ok _ _).mono ?_
    rintro e w' ⟨rfl, rfl⟩
    clear htr
    have hpu := fun W hb2 => pub16 (c :: l) W (hT.below hb2) (by simp only [List.length_cons]; omega) (by simp) (hex_of_trim hT0)
    cases hn : numL true (c :: l) with
    | none =>
      rw [hn] at hpu hR
      dsimp only at hR
      subst hR
      go_wp2_with fail
      refine (hpu _ hb2).mono ?_
      rintro e w3 ⟨⟨m, N, rfl⟩, hb3⟩
      go_wp2_with fail
      refine (must_bad _ _).mono ?_
      rintro e w' ⟨rfl, rfl⟩
      refine ⟨rfl, (hQ.out _ _).symm ▸ ?_⟩
      exact ⟨rfl, hb2.trans (hb3.mono hb2.size)⟩
    | some n =>
      rw [hn] at hpu hR
      dsimp only at hR
      go_wp2_with fail
      refine (hpu _ hb2).mono ?_
      rintro e w3 ⟨rfl, hb3⟩
      have hb23 := hb2.trans (hb3.mono hb2.size)
      obtain ⟨N, hN⟩ : ∃ N : Int, N = n := ⟨_, rfl⟩
      rw [← hN]
      clear hpu hb3 hn
      by_cases h0 : n ≤ 1114111 ∧ (n < 55296 ∨ 57343 < n)
      case neg =>
        rw [if_neg h0] at hR
        subst hR
        have i3 : 1114111 < N ∨ (55296 ≤ N ∧ N ≤ 57343) := by omega
        clear h0 hN
        have hb : ¬ 1114111 < N → (decide (N < 55296) || decide (57343 < N)) = false := fun h => by rw [Bool.or_eq_false_iff]; exact ⟨decide_eq_false (by omega), decide_eq_false (by omega)⟩
        replace hb := Lib.hid hb
        rcases i3 with i3 | ⟨i3, i4⟩
        all_goals
          go_wp2_with fail
          try rw [hb.out (by omega)]
          with_reducible refine (must_bad _ _).mono ?_
          rintro e w' ⟨rfl, rfl⟩
          refine ⟨rfl, (hQ.out _ _).symm ▸ ?_⟩
          exact ⟨rfl, hb23⟩
      case pos =>
        rw [if_pos h0] at hR
        have i1 : N ≤ 1114111 := by omega
        have i0 : 0 ≤ N := by omega
        have i2 : N < 55296 ∨ 57343 < N := by omega
        have hNh := Lib.hid hN
        subst hR
        have hb : (decide (N < 55296) || decide (57343 < N)) = true := by
          rw [Bool.or_eq_true]; exact i2.imp decide_eq_true decide_eq_true
        replace hb := Lib.hid hb
        clear h0 hN i2
        go_wp2_with fail
        all_goals
          try rw [hb.out]
          with_reducible refine (must_ok _ _).mono ?_
          rintro e w' ⟨rfl, rfl⟩
          have hva := valid_any (Utf8.encode N) w' (hT.below hb23) (Nat.le_trans (encode_size_le N) (by decide))
          go_wp2_with fail
          with_reducible refine hva.mono ?_
          rintro e w5 ⟨rfl, hb5⟩
          cases hv : validB (Utf8.encode N) with
          | false =>
            have hE : encV n = none := by unfold encV; rw [← hNh.out, hv, if_neg (by decide)]
            have hQ2 := hQ.out
            simp only [hE] at hQ2
            clear hE
            replace hQ2 := Lib.hid hQ2
            go_wp2_with fail
            with_reducible refine (must_bad _ _).mono ?_
            rintro e w' ⟨rfl, rfl⟩
            refine ⟨rfl, (hQ2.out _ _).symm ▸ ?_⟩
            exact ⟨rfl, hb23.trans (hb5.mono hb23.size)⟩
          | true =>
            have hE : encV n = some (Utf8.encode N).data.toList := by unfold encV; rw [← hNh.out, hv, if_pos rfl]
            have hQ2 := hQ.out
            simp only [hE] at hQ2
            clear hE
            replace hQ2 := Lib.hid hQ2
            go_wp2_with fail
            with_reducible refine (must_ok _ _).mono ?_
            rintro e w' ⟨rfl, rfl⟩
            go_wp2
            rw [hQ2.out]
            exact ⟨rfl, hb23.trans (hb5.mono hb23.size)⟩
end Go.Proofs.YtpaopeiegaijiaaGreatDoor
