import Derived.Test.YtpaopeiegaijiaaGreatDoorXf
import Derived.Deep.RegionHeld3
import Derived.Deep.AppendLies
import Derived.StillTailTactics
import Derived.RegionDies
/- Elements. -/
namespace Go.Proofs.YtpaopeiegaijiaaGreatDoor
open Go.RowKit Go.Shelf Go.Lib Go.Joins Go.Proofs.YtpaopeiegaijiaaGreatDoorW.PrintWords
set_option linter.unusedVariables false
set_option linter.unusedSimpArgs false
abbrev Sps := List UInt8 → Option Int
/-- What a reader has after a step: the text, the pieces, the characters. -/
abbrev Trio := List UInt8 × List Pc × List UInt8
def opnP (z : Int) (nm : List UInt8) : Pc := ⟨1, z, ⟨nm.toArray⟩, ⟨#[]⟩⟩
def clsP (z : Int) (nm : List UInt8) : Pc := ⟨2, z, ⟨nm.toArray⟩, ⟨#[]⟩⟩
/-- The beginning of an element: prefix, name, spaces, its own space. -/
def headL (A : Sps) (s : List UInt8) : Option ((List UInt8 × List UInt8 × Sps × Int) × List UInt8) :=
  if ([60] : List UInt8).isPrefixOf s = true then (match writtenL (s.drop 1) with
    | none => none
    | some ((pf, nm), s2) => match declL (s2.length + 1) s2 (fun _ => none) with
      | none => none
      | some (s3, M) => match (M pf).or (A pf) with
        | some z => some ((pf, nm, (fun k => (M k).or (A k)), z), s3)
        | none => if pf = [] then some ((pf, nm, (fun k => (M k).or (A k)), 0), s3) else none) else none
/-- Its end tag. -/
def closeL (pf nm : List UInt8) (z : Int) (s : List UInt8) (ps : List Pc) (t : List UInt8) : Option Trio :=
  match writtenL (s.drop 2) with
  | none => none
  | some ((pq, mm), s1) => if pf = pq ∧ nm = mm then (if ([62] : List UInt8).isPrefixOf (afterBl s1) = true then some ((afterBl s1).drop 1, flushL ps t ++ [clsP z nm], []) else none) else none
abbrev Body := Nat → Sps → List UInt8 → List UInt8 → Int → List UInt8 → List Pc → List UInt8 → Option (Option Trio)
def elemF (body : Body) (deep : Nat) (A : Sps) (s : List UInt8) (ps : List Pc) (t : List UInt8) : Option (Option Trio) :=
  if deep < 16 then (match headL A s with
    | none => some none
    | some ((pf, nm, M, z), s1) =>
      if ([47] : List UInt8).isPrefixOf s1 = true then (if ([47, 62] : List UInt8).isPrefixOf s1 = true then some (some (s1.drop 2, flushL ps t ++ [opnP z nm] ++ [clsP z nm], [])) else some none)
      else if ([62] : List UInt8).isPrefixOf s1 = true then body deep M pf nm z (s1.drop 1) (flushL ps t ++ [opnP z nm]) [] else some none) else some none
/-- The content and the end tag, by fuel. -/
def bodyL : Nat → Body
  | 0 => fun _ _ _ _ _ _ _ _ => none
  | k + 1 => fun deep M pf nm z s ps t =>
    if ([60, 47] : List UInt8).isPrefixOf s = true then some (closeL pf nm z s ps t) else
    match s with
    | [] => some none
    | c :: r => match remarkL (c :: r) with
      | none => some none
      | some (true, s1) => bodyL k deep M pf nm z s1 ps t
      | some (false, _) =>
        if c = 60 then (match elemF (bodyL k) (deep + 1) M (c :: r) ps t with
          | none => none
          | some none => some none
          | some (some (s1, ps1, t1)) => bodyL k deep M pf nm z s1 ps1 t1)
        else if c = 38 then (match untilL [59] r with
          | none => some none
          | some (a, s1) => match entL a with
            | none => none
            | some none => some none
            | some (some x) => bodyL k deep M pf nm z s1 ps (t ++ x))
        else bodyL k deep M pf nm z r ps (t ++ [c])
theorem flush_len (ps : List Pc) (t : List UInt8) : (flushL ps t).length ≤ ps.length + t.length := by
  unfold flushL
  split
  · omega
  · rename_i h
    cases t with
    | nil => exact absurd (show blankL [] = true by decide) h
    | cons c r => simp
/-- How an element ends. -/
def ResL (B q N : Nat) (w : World) (s : List UInt8) (r : Option Trio) (e : Ending) (w' : World) : Prop :=
  match r with
  | some (s', ps', t') => e = .returned (.tuple #[]) ∧ Rd B q s' ps' t' w' ∧ St q w w' ∧ t' = [] ∧ s'.length ≤ s.length ∧ ps'.length + 2 * s'.length ≤ N
  | none => e = .panicked [flt] ∧ Kp (ownOf q w) w w'
theorem until_len2 {t s a s1 : List UInt8} (h : untilL t s = some (a, s1)) : a.length + t.length + s1.length = s.length := by
  unfold untilL at h
  split at h
  · rename_i h0
    simp only [Option.some.injEq, Prod.mk.injEq] at h
    obtain ⟨rfl, rfl⟩ := h
    unfold Lib.cut at h0 ⊢
    by_cases hi : 0 ≤ Lib.index s t
    · rw [if_pos hi]
      have := Lib.index_room s t hi
      simp only [List.length_take, List.length_drop]
      omega
    · rw [if_neg hi] at h0
      cases h0
  · cases h
theorem remark_len {s s' : List UInt8} {x : Bool} (h : remarkL s = some (x, s')) : s'.length ≤ s.length ∧ (x = false → s' = s) := by
  unfold remarkL at h
  split at h
  · split at h
    · cases h
    · rename_i a s1 hu
      have := until_len hu
      have h4 : (s.drop 4).length ≤ s.length := by rw [List.length_drop]; omega
      split at h
      · simp only [Option.some.injEq, Prod.mk.injEq] at h
        obtain ⟨rfl, rfl⟩ := h
        exact ⟨by rw [List.length_drop]; omega, fun h => by cases h⟩
      · cases h
  · simp only [Option.some.injEq, Prod.mk.injEq] at h
    obtain ⟨rfl, rfl⟩ := h
    exact ⟨Nat.le_refl _, fun _ => rfl⟩
section
variable {B q : Nat}
set_option maxHeartbeats 4000000 in
set_option maxRecDepth 100000 in
theorem elem_any (k : Nat) (ih : ∀ k' < k, ∀ (N deep : Nat) (x : Value) (nA : Nat) (A : Sps) (s : List UInt8) (ps : List Pc) (t : List UInt8) (w : World) (R : Option Trio), Cx B w → t.length + s.length ≤ 65536 → nA + s.length ≤ 65536 → ps.length + t.length + 2 * s.length ≤ N → N ≤ 400000 →
      Rd B q s ps t w → Aro x nA A w → deep ≤ 16 → elemF (bodyL k') deep A s ps t = some R →
      Calls Tryz.prog 59 #[.pointer (some ⟨q, 0, none⟩), .int .i64 (deep : Int), x] w fun e w' => ResL B q N w s R e w')
    (N deep : Nat) (x : Value) (nA : Nat) (A : Sps) (s : List UInt8) (ps : List Pc) (t : List UInt8) (w : World) (R : Option Trio) (hC : Cx B w) (hlen : t.length + s.length ≤ 65536) (hnA : nA + s.length ≤ 65536) (hN : ps.length + t.length + 2 * s.length ≤ N) (hN4 : N ≤ 400000)
    (hR0 : Rd B q s ps t w) (hA : Aro x nA A w) (hd : deep ≤ 16) (hE : elemF (bodyL k) deep A s ps t = some R) :
    Calls Tryz.prog 59 #[.pointer (some ⟨q, 0, none⟩), .int .i64 (deep : Int), x] w fun e w' => ResL B q N w s R e w' := by
  obtain ⟨wS, hwS⟩ : ∃ wS, wS = w := ⟨_, rfl⟩
  unfold elemF at hE
  by_cases hd16 : deep < 16
  case neg =>
    rw [if_neg hd16] at hE
    have h : none = R := by injection hE
    subst h
    have hdi : ¬ (deep : Int) < 16 := by omega
    go_enter Tryz.func59, Tryz.ntmps59
    go_wp2_with (go_at_call 60; refine (must_bad _ _).mono ?_; rintro e w' ⟨rfl, rfl⟩)
    exact ⟨rfl, rfl, Kp.refl _ _⟩
  rw [if_pos hd16] at hE
  have hdi : (deep : Int) < 16 := by omega
  unfold headL at hE
  cases hp : ([60] : List UInt8).isPrefixOf s with
  | false =>
    rw [hp] at hE
    have h : none = R := by simpa using hE
    subst h
    go_enter Tryz.func59, Tryz.ntmps59
    go_wp2_with (first
      | (go_at_call 60; refine (must_ok _ _).mono ?_; rintro e w' ⟨rfl, rfl⟩)
      | (go_at_call 55; refine (skip_bad [60] _ hR0 hp).mono ?_; rintro e w1 ⟨rfl, hk⟩))
    exact ⟨rfl, rfl, hk⟩
  | true =>
    rw [hp, if_pos rfl] at hE
    have hs1 : (s.drop 1).length + 1 = s.length := by
      cases s with
      | nil => cases hp
      | cons c r => rfl
    go_enter Tryz.func59, Tryz.ntmps59
    go_wp2_with (first
      | (go_at_call 60; refine (must_ok _ _).mono ?_; rintro e w' ⟨rfl, rfl⟩)
      | (go_at_call 55; refine (skip_ok [60] _ hR0 hp).mono ?_; rintro e w1 ⟨rfl, hR1, hS1⟩; change Rd B q (s.drop 1) ps t w1 at hR1; have hw := written_any (by omega) hR1)
      | (go_at_call 103; refine hw.mono ?_))
    intro e w2 hr
    have hA1 : Aro x nA A w1 := hA.imp id fun ⟨b, h1, h2⟩ => ⟨b, h1, h2.st hR0 hS1.kp⟩
    cases hwr : writtenL (s.drop 1) with
    | none =>
      rw [hwr] at hr hE
      obtain ⟨rfl, hk⟩ := hr
      have h : none = R := by injection hE
      subst h
      go_wp2
      exact ⟨rfl, rfl, hS1.kp_trans hk⟩
    | some y =>
      obtain ⟨⟨pf, nm⟩, s2⟩ := y
      have hwl := written_lens hwr
      rw [hwr] at hr hE
      change e = Ending.returned (.tuple #[strV pf, strV nm]) ∧ Rd B q s2 ps t w2 ∧ St q _ w2 at hr
      obtain ⟨rfl, hR2, hS2⟩ := hr
      have hA2 : Aro x nA A w2 := hA1.imp id fun ⟨b, h1, h2⟩ => ⟨b, h1, h2.st hR1 hS2.kp⟩
      have hS02 := hS1.trans hS2
      have hC2 : Cx B w2 := hC.kp hR0 hS02.kp
      have hde := declared_any hC2 (by omega) hR2 x nA (by omega) A hA2
      dsimp only at hE
      cases hdl : declL (s2.length + 1) s2 (fun _ => none) with
      | none =>
        rw [hdl] at hde hE
        go_wp2_with (go_at_call 104; refine hde.mono ?_)
        rintro e w3 ⟨rfl, hk⟩
        have h : none = R := by injection hE
        subst h
        go_wp2
        exact ⟨rfl, rfl, hS02.kp_trans hk⟩
      | some y =>
        obtain ⟨s3, M0⟩ := y
        rw [hdl] at hde hE
        go_wp2_with (go_at_call 104; refine hde.mono ?_)
        rintro e w3 ⟨b, rfl, hwb, hM3, hR3, hS3, hl3⟩
        try dsimp only at hE
        obtain ⟨M, hM⟩ : ∃ M, (fun k => (M0 k).or (A k)) = M := ⟨_, rfl⟩
        have hMp : (M0 pf).or (A pf) = M pf := by rw [← hM]
        rw [hM, hMp] at hE
        rw [hM] at hM3
        clear hMp
        have hS03 := hS02.trans hS3
        have hpl : pf.length ≤ 1000000 := by omega
        obtain ⟨nM, hnM⟩ : ∃ nM, nA + (s2.length - s3.length) = nM := ⟨_, rfl⟩
        rw [hnM] at hM3
        have hC3 : Cx B w3 := hC2.kp hR2 hS3.kp
        obtain ⟨z, hz⟩ : ∃ z, (M pf).getD 0 = z := ⟨_, rfl⟩
        obtain ⟨ok, hok⟩ : ∃ ok, (M pf).isSome = ok := ⟨_, rfl⟩
        have hE2 : ((ok = true ∨ pf = []) → (if ([47] : List UInt8).isPrefixOf s3 = true then (if ([47, 62] : List UInt8).isPrefixOf s3 = true then some (some (s3.drop 2, flushL ps t ++ [opnP z nm] ++ [clsP z nm], [])) else some none)
            else if ([62] : List UInt8).isPrefixOf s3 = true then bodyL k deep M pf nm z (s3.drop 1) (flushL ps t ++ [opnP z nm]) [] else some none) = some R) ∧ (¬ (ok = true ∨ pf = []) → none = R) := by
          cases hMp : M pf with
          | none =>
            rw [hMp] at hE hz hok
            subst hz hok
            by_cases hpf : pf = []
            · subst hpf
              rw [if_pos rfl] at hE
              exact ⟨fun _ => hE, fun h => absurd (.inr rfl) h⟩
            · rw [if_neg hpf] at hE
              exact ⟨fun h => (by rcases h with h | h; cases h; exact absurd h hpf), fun _ => (by injection hE)⟩
          | some y =>
            rw [hMp] at hE hz hok
            subst hz hok
            exact ⟨fun _ => hE, fun h => absurd (.inl rfl) h⟩
        have HE := Aside0.mk hE2
        have HZ := Aside0.mk hz
        have HOKK := Aside0.mk hok
        clear hE hE2
        go_upto_region 5 with (at_lookup; refine sm_lookup _ rfl _ _ rfl b nM M pf rfl hM3 rfl hpl ?_; rw [HZ.out, HOKK.out])
        go_cut [] (fun wc => Aside0 (ok = true ∨ pf = []) ∧ Aside0 (w3 = wc))
        case first =>
          clear hz hok
          cases ok with
          | true =>
            go_wp2_with (go_at_call 60; refine (must_ok _ _).mono ?_; rintro e w' ⟨rfl, rfl⟩)
            go_meet
            exact ⟨⟨by simp⟩, ⟨rfl⟩⟩
          | false =>
            by_cases hpf : pf = []
            · subst hpf
              go_wp2_with (go_at_call 60; refine (must_ok _ _).mono ?_; rintro e w' ⟨rfl, rfl⟩)
              go_meet
              exact ⟨⟨by simp⟩, ⟨rfl⟩⟩
            · have h := HE.out.2 (fun h => by rcases h with h | h; cases h; exact absurd h hpf)
              subst h
              have hpe : pf.isEmpty = false := by cases pf with | nil => exact absurd rfl hpf | cons _ _ => rfl
              go_wp2_with (go_at_call 60; refine (must_bad _ _).mono ?_; rintro e w' ⟨rfl, rfl⟩)
              exact ⟨rfl, rfl, hS03.kp⟩
        case rest =>
          obtain ⟨HOP, HW⟩ := hcut
          have hwe := HW.out
          subst hwe
          have HT := Aside0.mk (HE.out.1 HOP.out)
          clear HE HOP hz hok HZ HOKK HW
          have hfl := flush_any hC3 (by omega) (by omega) hR3
          have hflen := flush_len ps t
          obtain ⟨ps1, hps1⟩ : ∃ ps1, flushL ps t = ps1 := ⟨_, rfl⟩
          rw [hps1] at hfl hflen
          go_wp2_with (go_at_call 105; refine hfl.mono ?_)
          rintro e w4 ⟨rfl, hR4, hS4⟩
          have hS04 := hS03.trans hS4
          have hM4 := hM3.st hR3 hS4.kp
          have hC4 : Cx B w4 := hC3.kp hR3 hS4.kp
          obtain ⟨v4, p4, u4, hA4⟩ := hR4
          obtain ⟨ao4, n4, cap4, rfl⟩ : ∃ ao n cap, v4 = .slice ao n cap := by
            rcases hA4.own.2 with ⟨hv, h0⟩ | ⟨g, cap, cur, hv, _⟩
            · exact ⟨_, _, _, hv⟩
            · exact ⟨_, _, _, hv⟩
          obtain ⟨i0, hi, hz⟩ := Option.map_eq_some_iff.1 (show (Tryz.prog.info? 60).map (fun i => (i.zero, i.size, i.bytes)) = some (some (.agg #[.int .i64 0, .int .i64 0, .string ByteArray.empty, .string ByteArray.empty]), 4, 48) by kernel_rfl)
          simp only [Prod.mk.injEq] at hz
          obtain ⟨hz0, hz1, hz2⟩ := hz
          have d1 := hA4.c1
          have g1 := hA4.fz 1
          obtain ⟨hA5, hS5⟩ := hA4.kept ((Below.refl w4.heap.size w4).alloc (Nat.le_refl _) (.cells #[.int .i64 1, .int .i64 z, strV nm, .string ⟨#[]⟩] 60))
          have hM5 := hM4.kept (w' := w4.alloc (.cells #[.int .i64 1, .int .i64 z, strV nm, .string ⟨#[]⟩] 60)) (((Below.refl w4.heap.size w4).alloc (Nat.le_refl _) _).block _ hM4.lt)
          go_wp2_with (at_builtin; refine wpList_app _ rfl _ _ 48 rfl B 60 i0 _ 4 48 Tryz.underlying48 hi hz0 hz1 hz2 rfl (by decide) _ _ _ rfl hA5.own ⟨w4.heap.size, 0, none⟩ 1 1 (pcCells (opnP z nm)) rfl rfl ?c1 ?c2 ?c3 ?c4 ?c5 ?_)
          case c1 =>
            intro j x hj
            match j, hj with
            | 0, hj => simp [pcCells, opnP] at hj; subst hj; simp [Addr.add]
            | 1, hj => simp [pcCells, opnP] at hj; subst hj; simp [Addr.add]
            | 2, hj => simp [pcCells, opnP] at hj; subst hj; simp [Addr.add]
            | 3, hj => simp [pcCells, opnP] at hj; subst hj; simp [Addr.add]
          case c2 => intro x hx; simp [pcCells, opnP] at hx; rcases hx with rfl | rfl | rfl | rfl <;> rfl
          case c3 => unfold maxLen; omega
          case c4 => omega
          case c5 => have := hC4.le; simp; omega
          intro v' w5 hown' hgrow hwh
          obtain ⟨ao', n', cap', rfl⟩ : ∃ ao n' cap, v' = .slice ao n' cap := by
            rcases hown'.2 with ⟨hv, _⟩ | ⟨g, cap, cur, hv, _⟩
            · exact ⟨_, _, _, hv⟩
            · exact ⟨_, _, _, hv⟩
          obtain ⟨hA6, hS6⟩ := hA5.putV (ps' := ps1 ++ [opnP z nm]) hgrow (by rw [List.length_append, pcs_app]; simpa [pcs] using hown') hwh
          have hq5 : w5.heap[q]? = some (.cells #[.string ⟨s3.toArray⟩, .slice ao4 n4 cap4, p4, u4] 111 (0, 0)) := (hgrow.block q hA5.lt fun e => hA5.nev e.symm).trans hA5.blk
          have e5 : w5.cell? ⟨q, 1, none⟩ = some (.slice ao4 n4 cap4) := by rw [Lib.cell_of_heap hq5]; rfl
          have f5 : w5.frozen? ⟨q, 1, none⟩ = false := Lib.frozen_of_heap hq5 1
          go_upto_region 9 with (fail)
          obtain ⟨en, hen⟩ : ∃ en, w5.heap.size = en := ⟨_, rfl⟩
          have hA6s : (w5.setCell ⟨q, 1, none⟩ (.slice ao' n' cap')).heap.size = en := by rw [← hen]; simp [World.setCell]
          obtain ⟨hA7, hS7⟩ := hA6.kept ((Below.refl _ _).alloc (Nat.le_refl _) (.cells #[.int .i64 2, .int .i64 z, strV nm, .string ⟨#[]⟩] 60))
          have hM7 : Sm b nM M ((w5.setCell ⟨q, 1, none⟩ (.slice ao' n' cap')).alloc (.cells #[.int .i64 2, .int .i64 z, strV nm, .string ⟨#[]⟩] 60)) :=
            (hM5.st ⟨_, _, _, hA5⟩ hS6.kp).kept (((Below.refl _ _).alloc (Nat.le_refl _) _).block _ (by have := hM5.st ⟨_, _, _, hA5⟩ hS6.kp; exact this.lt))
          have hN7 : ((w5.setCell ⟨q, 1, none⟩ (.slice ao' n' cap')).alloc (.cells #[.int .i64 2, .int .i64 z, strV nm, .string ⟨#[]⟩] 60)).heap[en]? = some (.cells #[.int .i64 2, .int .i64 z, strV nm, .string ⟨#[]⟩] 60 (0, 0)) := by
            have h := heap_alloc_new (w5.setCell ⟨q, 1, none⟩ (.slice ao' n' cap')) (.cells #[.int .i64 2, .int .i64 z, strV nm, .string ⟨#[]⟩] 60)
            rw [hA6s] at h
            exact h
          have hS07 := hS04.trans (hS5.trans (hS6.trans hS7))
          have hC7 : Cx B _ := hC.kp hR0 hS07.kp
          have hO7 : ¬ ownOf q ((w5.setCell ⟨q, 1, none⟩ (.slice ao' n' cap')).alloc (.cells #[.int .i64 2, .int .i64 z, strV nm, .string ⟨#[]⟩] 60)) en := fun h => by
            have := (hA6.owns en).1 (by rw [hA6.owns]; exact (hA7.owns en).1 h)
            rcases this with h1 | h1 | h1
            · have := hA6.lt; omega
            · obtain ⟨_, c, hc⟩ := row_blk hA6.own h1; have := blk_lt hc; omega
            · obtain ⟨_, c, hc⟩ := row_blk hA6.txt h1; have := blk_lt hc; omega
          have hR7 : Rd B q s3 (ps1 ++ [opnP z nm]) [] _ := ⟨_, _, _, hA7⟩
          rw [hen]
          generalize ((w5.setCell ⟨q, 1, none⟩ (.slice ao' n' cap')).alloc (.cells #[.int .i64 2, .int .i64 z, strV nm, .string ⟨#[]⟩] 60)) = W at *
          clear hA7 hA6 hA5 hA4 hq5 e5 f5 d1 g1 hgrow hwh hown' hA6s hS7 hS6 hS5 hS4 hM5 hM4 hC4
          have hnb : nM + s3.length ≤ 65536 := by omega
          have h3s : s3.length + 2 ≤ s.length := by omega
          rw [hps1] at HT
          clear hS1 hR1 hw hA1 hwr hwl hR2 hS2 hA2 hS02 hC2 hde hdl hwb hR3 hS3 hl3 hM hS03 hpl hM3 hnM hC3 hfl hps1 hs1 hR0 hA hC hS04 hp
          obtain ⟨ps2, hps2⟩ : ∃ ps2, ps1 ++ [opnP z nm] = ps2 := ⟨_, rfl⟩
          rw [hps2] at HT hR7
          have hp2 : ps2.length ≤ ps1.length + 1 := by rw [← hps2]; simp
          clear hps2
          obtain ⟨v7, p7, u7, hA7⟩ := id hR7
          have c0 := hA7.c0
          cases hq1 : ([47] : List UInt8).isPrefixOf s3 with
          | true =>
            rw [hq1, if_pos rfl] at HT
            cases hq2 : ([47, 62] : List UInt8).isPrefixOf s3 with
            | false =>
              rw [hq2, if_neg (by simp)] at HT
              have h : none = R := by injection HT.out
              subst h
              go_wp2_with (first
                | (go_at_call 54; refine (hasPre _ _ true hq1 _).mono ?_; rintro e w' ⟨rfl, rfl⟩)
                | (go_at_call 55; refine (skip_bad [47, 62] _ hR7 hq2).mono ?_; rintro e w8 ⟨rfl, hk⟩))
              exact ⟨rfl, rfl, hS07.kp_trans hk⟩
            | true =>
              rw [hq2, if_pos rfl] at HT
              have h : some (s3.drop 2, ps2 ++ [clsP z nm], []) = R := by injection HT.out
              subst h
              clear HT
              go_wp2_with (first
                | (go_at_call 54; refine (hasPre _ _ true hq1 _).mono ?_; rintro e w' ⟨rfl, rfl⟩)
                | (go_at_call 55; refine (skip_ok [47, 62] _ hR7 hq2).mono ?_; rintro e w8 ⟨rfl, hR8, hS8⟩))
              obtain ⟨v8, p8, u8, hA8⟩ := id hR8
              obtain ⟨ao8, n8, cap8, rfl⟩ : ∃ ao n cap, v8 = .slice ao n cap := by
                rcases hA8.own.2 with ⟨hv, h0⟩ | ⟨g, cap, cur, hv, _⟩
                · exact ⟨_, _, _, hv⟩
                · exact ⟨_, _, _, hv⟩
              have hN8 := (hS8.kp.block en (blk_lt hN7) hO7).trans hN7
              have hO8 : ¬ ownOf q w8 en := fun h => hO7 (hS8.own en (blk_lt hN7) h)
              have hve : (Value.slice ao8 n8 cap8).ownBlock ≠ some en := fun h => hO8 ((hA8.owns en).2 (.inr (.inl h)))
              have hvq := hA8.nev
              have hql := hA8.lt
              have hel := blk_lt hN8
              have hC8 : Cx B w8 := hC7.kp hR7 hS8.kp
              have hB8 := hC8.le
              have d1 := hA8.c1
              have g1 := hA8.fz 1
              have y0 : w8.cell? ⟨en, 0, none⟩ = some (.int .i64 2) := by rw [Lib.cell_of_heap hN8]; rfl
              have y1 : w8.cell? ⟨en, 1, none⟩ = some (.int .i64 z) := by rw [Lib.cell_of_heap hN8]; rfl
              have y2 : w8.cell? ⟨en, 2, none⟩ = some (strV nm) := by rw [Lib.cell_of_heap hN8]; rfl
              have y3 : w8.cell? ⟨en, 3, none⟩ = some (.string ⟨#[]⟩) := by rw [Lib.cell_of_heap hN8]; rfl
              have hown := hA8.own
              have hbw := fun o => (Below.drew ((Below.refl w8.heap.size w8).alloc (Nat.le_refl _) o))
              have k0 := fun o => (hA8.kept (hbw o)).1.c1
              have k1 := fun o => (hA8.kept (hbw o)).1.fz 1
              have k2 : ∀ o, (w8.alloc o).drew.cell? ⟨en, 0, none⟩ = some (.int .i64 2) := fun o => by rw [Lib.cell_of_heap (((hbw o).block en hel).trans hN8)]; rfl
              have k3 : ∀ o, (w8.alloc o).drew.cell? ⟨en, 1, none⟩ = some (.int .i64 z) := fun o => by rw [Lib.cell_of_heap (((hbw o).block en hel).trans hN8)]; rfl
              have k4 : ∀ o, (w8.alloc o).drew.cell? ⟨en, 2, none⟩ = some (strV nm) := fun o => by rw [Lib.cell_of_heap (((hbw o).block en hel).trans hN8)]; rfl
              have k5 : ∀ o, (w8.alloc o).drew.cell? ⟨en, 3, none⟩ = some (.string ⟨#[]⟩) := fun o => by rw [Lib.cell_of_heap (((hbw o).block en hel).trans hN8)]; rfl
              have hp2m : ps2.length + 1 ≤ maxLen := by unfold maxLen; omega
              have hp2b : (ps2.length + 1) * 48 ≤ 140737488355328 := by omega
              go_region_law
                ((refine step_append_lies _ (by rfl) _ _ _ (by rfl) B 60 i0 _ 4 48 Tryz.underlying48 hi hz0 hz1 hz2 rfl (by omega) (.slice ao8 n8 cap8) ps2.length (pcs ps2) (by rfl) ((hown.alloc _).drew)
                    ⟨w8.heap.size, 0, none⟩ 1 1 (pcCells (clsP z nm)) (by rfl) (by rfl) (World.news_of_block (cs := #[.int .i64 2, .int .i64 z, strV nm, .string ⟨#[]⟩]) (t := 60) (fr := (0, 0)) (heap_alloc_new w8 _)) (by simp [Value.oneCell', pcCells, clsP])
                    (by omega) hp2m hp2b (by simp; omega) (w8.heap.size + 1) (by simp) ?_; intro gg cap w9 hown9 hgrow hat hlt; have hA9 := (hA8.kept (hbw (.cells #[.int .i64 2, .int .i64 z, strV nm, .string ⟨#[]⟩] 60))).1; have e9 := (hgrow.cell_far ⟨q, 1, none⟩ (by simp; omega) (Ne.symm hvq)).trans hA9.c1; have f9 := (hgrow.frozen_far ⟨q, 1, none⟩ (by simp; omega) (Ne.symm hvq)).trans (hA9.fz 1)))
              all_goals
                go_wp2
                refine bodyPost_ret (results_none rfl _ _ _) rfl ?_
                have hwh9 : Where (w8.alloc (.cells #[.int .i64 2, .int .i64 z, strV nm, .string ⟨#[]⟩] 60)).drew (.slice ao8 n8 cap8) (.slice (some ⟨gg, 0, none⟩) (ps2.length + 1) cap) := by
                  rcases hat with h | h
                  · exact .inl h.symm
                  · exact .inr ⟨gg, rfl, by simp; omega⟩
                have hA10 := hA9.putV (ps' := ps2 ++ [clsP z nm]) hgrow (by rw [List.length_append, pcs_app]; simpa [pcs] using hown9) hwh9
                exact ⟨rfl, ⟨_, _, _, hA10.1⟩, hS07.trans (hS8.trans ((hA8.kept (hbw _)).2.trans hA10.2)), rfl, by rw [List.length_drop]; omega, by rw [List.length_append, List.length_drop]; simp only [List.length_cons, List.length_nil]; omega⟩
          | false =>
            rw [hq1, if_neg (by simp)] at HT
            cases hq2 : ([62] : List UInt8).isPrefixOf s3 with
            | false =>
              rw [hq2, if_neg (by simp)] at HT
              have h : none = R := by injection HT.out
              subst h
              go_wp2_with (first
                | (go_at_call 54; refine (hasPre _ _ false hq1 _).mono ?_; rintro e w' ⟨rfl, rfl⟩)
                | (go_at_call 55; refine (skip_bad [62] _ hR7 hq2).mono ?_; rintro e w8 ⟨rfl, hk⟩))
              exact ⟨rfl, rfl, hS07.kp_trans hk⟩
            | true =>
              rw [hq2, if_pos rfl] at HT
              go_upto_block 0 with (first
                | (go_at_call 54; refine (hasPre _ _ false hq1 _).mono ?_; rintro e w' ⟨rfl, rfl⟩)
                | (go_at_call 55; refine (skip_ok [62] _ hR7 hq2).mono ?_; rintro e w8 ⟨rfl, hR8, hS8⟩))
              have hS08 := hS07.trans hS8
              rw [← hwS] at hS08
              have hN8 := (hS8.kp.block en (blk_lt hN7) hO7).trans hN7
              have hO8 : ¬ ownOf q w8 en := fun h => hO7 (hS8.own en (blk_lt hN7) h)
              have hC8 : Cx B w8 := hC7.kp hR7 hS8.kp
              have hM8 := hM7.st hR7 hS8.kp
              change Rd B q (s3.drop 1) ps2 [] w8 at hR8
              obtain ⟨s4, hs4⟩ : ∃ s4, s3.drop 1 = s4 := ⟨_, rfl⟩
              rw [hs4] at HT hR8
              have hl4 : s4.length ≤ s3.length := by rw [← hs4, List.length_drop]; omega
              clear hR7 hN7 hO7 hC7 hM7 hS8 hA7 c0 hs4
              have hps2 : ps2.length + 2 * s4.length ≤ N := by have := hflen; omega
              have hl4' : s4.length + 2 ≤ s.length := by omega
              have hnb4 : nM + s4.length ≤ 65536 := by omega
              go_cut [] (fun wc => ∃ (s' : List UInt8) (ps' : List Pc) (t' : List UInt8), Aside0 (closeL pf nm z s' ps' t' = R) ∧ Aside0 (([60, 47] : List UInt8).isPrefixOf s' = true) ∧ Aside0 (Rd B q s' ps' t' wc) ∧ Aside0 (St q wS wc) ∧ Aside0 (wc.heap[en]? = some (.cells #[.int .i64 2, .int .i64 z, strV nm, .string ⟨#[]⟩] 60 (0, 0)) ∧ ¬ ownOf q wc en) ∧ Aside0 (t'.length + s'.length ≤ 65536 ∧ ps'.length + t'.length + 2 * s'.length ≤ N ∧ s'.length ≤ s.length) ∧ Aside0 (Cx B wc))
              case first =>
                go_wp2_with fail
                go_loopg [107, 110, 122] k (fun kq v107 v110 v122 wr => ∃ (s1 : List UInt8) (ps5 : List Pc) (t1 : List UInt8), Aside0 (bodyL kq deep M pf nm z s1 ps5 t1 = some R) ∧ Aside0 (kq ≤ k) ∧ Aside0 (Rd B q s1 ps5 t1 wr) ∧ Aside0 (St q wS wr) ∧ Aside0 (wr.heap[en]? = some (.cells #[.int .i64 2, .int .i64 z, strV nm, .string ⟨#[]⟩] 60 (0, 0)) ∧ ¬ ownOf q wr en) ∧ Aside0 (Sm b nM M wr) ∧ Aside0 (Cx B wr) ∧ Aside0 (t1.length + s1.length ≤ 65536 ∧ ps5.length + t1.length + 2 * s1.length ≤ N ∧ s1.length ≤ s4.length))
                case atStart => exact ⟨s4, ps2, [], HT, ⟨Nat.le_refl _⟩, ⟨hR8⟩, ⟨hS08⟩, ⟨hN8, hO8⟩, ⟨hM8⟩, ⟨hC8⟩, ⟨by simp; omega, by simp; omega, Nat.le_refl _⟩⟩
                case round =>
                  obtain ⟨s1, ps5, t1, HB, HK, HR, HS, HEn, HM, HCx, HLn⟩ := hrel
                  clear hR8 hS08 hN8 hO8 hC8 hM8 HT
                  cases gk with
                  | zero => exact absurd HB.out (by simp [bodyL])
                  | succ k1 =>
                    have hB := HB.out
                    rw [bodyL] at hB
                    dsimp only at hB
                    have hRr := HR.out
                    obtain ⟨v1, p1, u1, hA1⟩ := id hRr
                    have c0 := hA1.c0
                    obtain ⟨hl1, hl2, hl3⟩ := HLn.out
                    cases hP : ([60, 47] : List UInt8).isPrefixOf s1 with
                    | true =>
                      rw [if_pos hP] at hB
                      have hcl : closeL pf nm z s1 ps5 t1 = R := by injection hB
                      go_wp2_with (go_at_call 54; refine (hasPre _ _ true hP _).mono ?_; rintro e w' ⟨rfl, rfl⟩)
                      go_meet
                      exact ⟨s1, ps5, t1, ⟨hcl⟩, ⟨hP⟩, HR, HS, HEn, ⟨hl1, hl2, by omega⟩, HCx⟩
                    | false =>
                      rw [if_neg (by rw [hP]; simp)] at hB
                      cases s1 with
                      | nil =>
                        have h : none = R := by injection hB
                        subst h
                        go_wp2_with (first
                          | (go_at_call 54; refine (hasPre _ _ false hP _).mono ?_; rintro e w' ⟨rfl, rfl⟩)
                          | (go_at_call 60; refine (must_bad _ _).mono ?_; rintro e w' ⟨rfl, rfl⟩))
                        rw [hwS] at HS
                        exact ⟨rfl, rfl, HS.out.kp⟩
                      | cons c r =>
                        have hrm := remark_any HCx.out (by omega) hRr
                        dsimp only at hB
                        cases hre : remarkL (c :: r) with
                        | none =>
                          rw [hre] at hB hrm
                          have h : none = R := by injection hB
                          subst h
                          go_wp2_with (first
                            | (go_at_call 54; refine (hasPre _ _ false hP _).mono ?_; rintro e w' ⟨rfl, rfl⟩)
                            | (go_at_call 60; refine (must_ok _ _).mono ?_; rintro e w' ⟨rfl, rfl⟩)
                            | (go_at_call 58; refine hrm.mono ?_; rintro e w2 ⟨rfl, hk⟩))
                          rw [hwS] at HS
                          exact ⟨rfl, rfl, HS.out.kp_trans hk⟩
                        | some y =>
                          obtain ⟨isR, s2⟩ := y
                          rw [hre] at hB hrm
                          have hrl := remark_len hre
                          go_upto_block 2 with (first
                            | (go_at_call 54; refine (hasPre _ _ false hP _).mono ?_; rintro e w' ⟨rfl, rfl⟩)
                            | (go_at_call 60; refine (must_ok _ _).mono ?_; rintro e w' ⟨rfl, rfl⟩))
                          cases isR with
                          | true =>
                            go_wp2_with (go_at_call 58; refine hrm.mono ?_; rintro e w2 ⟨rfl, hR2, hS2⟩)
                            go_roundg k1
                            case measure => omega
                            case rel =>
                              exact ⟨s2, ps5, t1, ⟨hB⟩, ⟨by have := HK.out; omega⟩, ⟨hR2⟩, ⟨HS.out.trans hS2⟩, ⟨(hS2.kp.block en (blk_lt HEn.out.1) HEn.out.2).trans HEn.out.1, fun h => HEn.out.2 (hS2.own en (blk_lt HEn.out.1) h)⟩, ⟨HM.out.st hRr hS2.kp⟩, ⟨HCx.out.kp hRr hS2.kp⟩, ⟨by omega, by omega, by omega⟩⟩
                          | false =>
                            obtain rfl := hrl.2 rfl
                            go_upto_region 18 with (go_at_call 58; refine hrm.mono ?_; rintro e w2 ⟨rfl, hR2, hS2⟩)
                            have hS02 := HS.out.trans hS2
                            have hN2 := (hS2.kp.block en (blk_lt HEn.out.1) HEn.out.2).trans HEn.out.1
                            have hO2 : ¬ ownOf q w2 en := fun h => HEn.out.2 (hS2.own en (blk_lt HEn.out.1) h)
                            have hM2 := HM.out.st hRr hS2.kp
                            have hC2 := HCx.out.kp hRr hS2.kp
                            have hk1 : k1 < k := by have := HK.out; omega
                            clear HS HEn HM HCx hRr hA1 HR HB hrm c0 HLn
                            obtain ⟨v2, p2, u2, hA2⟩ := id hR2
                            have c0 := hA2.c0
                            have hz : ((⟨(c :: r).toArray⟩ : ByteArray)[0]'(by simp [ByteArray.size])) = c := rfl
                            simp only [List.length_cons] at hl1 hl2 hl3
                            by_cases e1 : c = 60
                            · subst e1
                              rw [if_pos rfl] at hB
                              cases hel : elemF (bodyL k1) (deep + 1) M (60 :: r) ps5 t1 with
                              | none => rw [hel] at hB; cases hB
                              | some Rr =>
                                rw [hel] at hB
                                have hi := ih k1 hk1 N (deep + 1) (.map (some b)) nM M (60 :: r) ps5 t1 w2 Rr hC2 (by simp only [List.length_cons]; omega) (by simp only [List.length_cons]; omega) (by simp only [List.length_cons]; omega) hN4 hR2 (.inr ⟨b, rfl, hM2⟩) (by omega) hel
                                rw [Int.natCast_add, Int.natCast_one] at hi
                                cases Rr with
                                | none =>
                                  have h : none = R := by injection hB
                                  subst h
                                  go_wp2_with (go_at_call 59; refine hi.mono ?_; rintro e w3 ⟨rfl, hk⟩)
                                  rw [hwS] at hS02
                                  exact ⟨rfl, rfl, hS02.kp_trans hk⟩
                                | some y =>
                                  obtain ⟨s5, ps6, t5⟩ := y
                                  dsimp only at hB
                                  go_wp2_with (go_at_call 59; refine hi.mono ?_; rintro e w3 ⟨rfl, hR3, hS3, rfl, hq1, hq2⟩)
                                  simp only [List.length_cons] at hq1
                                  go_roundg k1
                                  case measure => omega
                                  case rel =>
                                    exact ⟨s5, ps6, [], ⟨hB⟩, ⟨by omega⟩, ⟨hR3⟩, ⟨hS02.trans hS3⟩, ⟨(hS3.kp.block en (blk_lt hN2) hO2).trans hN2, fun h => hO2 (hS3.own en (blk_lt hN2) h)⟩, ⟨hM2.st hR2 hS3.kp⟩, ⟨hC2.kp hR2 hS3.kp⟩, ⟨by simp only [List.length_nil]; omega, by simp only [List.length_nil]; omega, by omega⟩⟩
                            · rw [if_neg e1] at hB
                              have q1 : ((c.toNat : Int) == 60) = false := beq_eq_false_iff_ne.2 fun h => e1 (UInt8.toNat_inj.1 (by show c.toNat = 60; omega))
                              by_cases e2 : c = 38
                              · subst e2
                                rw [if_pos rfl] at hB
                                go_upto_region 22 with (go_at_call 55; refine (skip_ok [38] _ hR2 (by simp [List.isPrefixOf])).mono ?_; rintro e w3 ⟨rfl, hR3, hS3⟩)
                                change Rd B q r ps5 t1 w3 at hR3
                                have hS03 := hS02.trans hS3
                                have hN3 := (hS3.kp.block en (blk_lt hN2) hO2).trans hN2
                                have hO3 : ¬ ownOf q w3 en := fun h => hO2 (hS3.own en (blk_lt hN2) h)
                                have hM3 := hM2.st hR2 hS3.kp
                                have hC3 := hC2.kp hR2 hS3.kp
                                obtain ⟨v3, p3, u3, hA3⟩ := id hR3
                                obtain ⟨hA3d, hS3d⟩ := hA3.kept (Below.drew (Below.refl _ w3))
                                have hR3d : Rd B q r ps5 t1 w3.drew := ⟨_, _, _, hA3d⟩
                                have hC3d := hC3.kp hR3 hS3d.kp
                                have hun := until_any (s := r) [59] hC3d (by omega) hR3d
                                cases hu : untilL [59] r with
                                | none =>
                                  rw [hu] at hun hB
                                  have h : none = R := by injection hB
                                  subst h
                                  rw [hwS] at hS03
                                  go_region_dies
                                  all_goals
                                    refine hun.mono ?_
                                    rintro e w4 ⟨rfl, hk⟩
                                    exact ⟨rfl, rfl, hS03.kp_trans (hS3d.kp_trans hk)⟩
                                | some y =>
                                  obtain ⟨a, s5⟩ := y
                                  have hul := until_len2 hu
                                  simp only [List.length_cons, List.length_nil] at hul
                                  rw [hu] at hun hB
                                  dsimp only at hB
                                  cases hen2 : entL a with
                                  | none => rw [hen2] at hB; cases hB
                                  | some xx =>
                                    rw [hen2] at hB
                                    have hent := fun W (hT : LaidM W) => entity_any (.pointer (some ⟨q, 0, none⟩)) a W hT (by omega) xx hen2
                                    cases xx with
                                    | none =>
                                      have h : none = R := by injection hB
                                      subst h
                                      rw [hwS] at hS03
                                      go_region_dies
                                      all_goals
                                        rename_i K1 hK1
                                        refine hun.mono ?_
                                        rintro e w4 ⟨rfl, hR4, hS4⟩
                                        refine hK1 _ _ ?_
                                        refine wpAny_ready (rs := [6]) (by kernel_rfl) (by simp) ?_
                                        refine AllReady.cons rfl (fun K hK => ?_) AllReady.nil
                                        go_simp
                                        refine (hent _ (hC3d.kp hR3d hS4.kp).laid).mono ?_
                                        rintro e w5 ⟨rfl, hb5⟩
                                        exact ⟨rfl, rfl, hS03.kp_trans (hS3d.kp_trans (hS4.kp_trans (Kp.of_below hb5)))⟩
                                    | some xx =>
                                      dsimp only at hB
                                      have hxl := ent_len hen2
                                      go_region_with (first
                                        | (go_at_call 56; refine hun.mono ?_; rintro e w4 ⟨rfl, hR4, hS4⟩; obtain ⟨v4, p4', u4', hA4⟩ := id hR4)
                                        | (go_at_call 106; refine (hent _ (hC3d.kp hR3d hS4.kp).laid).mono ?_; rintro e w5 ⟨rfl, hb5⟩; obtain ⟨hA5, hS5⟩ := hA4.kept hb5)
                                        | (go_at_call 46; refine (writeString_any xx ((hC3d.kp hR3d hS4.kp).kp hR4 hS5.kp).le (by omega) hA5).mono ?_; rintro e w6 ⟨rfl, v6, p6, u6, hA6, hS6'⟩))
                                      all_goals
                                        have hS6 := hS3d.trans (hS4.trans (hS5.trans hS6'))
                                        go_wp2_with fail
                                        go_roundg k1
                                        case measure => omega
                                        case rel =>
                                          exact ⟨s5, ps5, t1 ++ xx, ⟨hB⟩, ⟨by omega⟩, ⟨_, _, _, hA6⟩, ⟨hS03.trans hS6⟩, ⟨(hS6.kp.block en (blk_lt hN3) hO3).trans hN3, fun h => hO3 (hS6.own en (blk_lt hN3) h)⟩, ⟨hM3.st hR3 hS6.kp⟩, ⟨hC3.kp hR3 hS6.kp⟩, ⟨by rw [List.length_append]; omega, by rw [List.length_append]; omega, by omega⟩⟩
                              · rw [if_neg e2] at hB
                                have q2 : ((c.toNat : Int) == 38) = false := beq_eq_false_iff_ne.2 fun h => e2 (UInt8.toNat_inj.1 (by show c.toNat = 38; omega))
                                go_upto_region 15 with (fail)
                                go_cut [] (fun wc => Aside0 (∃ v p u, RdAt B q ⟨(c :: r).toArray⟩ ps5 (t1 ++ [c]) v p u wc ∧ St q w2 wc))
                                case first =>
                                  go_still_tail 8, (by kernel_rfl)
                                  obtain ⟨hA2d, hS2d⟩ := hA2.kept (Below.drew (Below.refl _ w2))
                                  change wpList _ _ _ _ _ w2.drew
                                  have hwb := writeByte_any c (w := w2.drew) hC2.le (by omega) hA2d
                                  go_wp2_with fail
                                  refine hwb.mono ?_
                                  rintro e w3 ⟨rfl, v3, p3, u3, hA3, hS3⟩
                                  go_wp2_with fail
                                  go_meet
                                  exact ⟨⟨v3, p3, u3, hA3, hS2d.trans hS3⟩⟩
                                case rest =>
                                  obtain ⟨v3, p3, u3, hA3, hS3⟩ := hcut.out
                                  have d0 := hA3.c0
                                  have g0 := hA3.fz 0
                                  have h4 := rd_put hA3 (x := (⟨(c :: r).toArray⟩ : ByteArray).extract 1 (r.length + 1)) (s' := r) (by rw [ext_l]; simp)
                                  go_wp2
                                  have hS04 := hS3.trans h4.2
                                  go_roundg k1
                                  case measure => omega
                                  case rel =>
                                    exact ⟨r, ps5, t1 ++ [c], ⟨hB⟩, ⟨by omega⟩, ⟨h4.1⟩, ⟨hS02.trans hS04⟩, ⟨(hS04.kp.block en (blk_lt hN2) hO2).trans hN2, fun h => hO2 (hS04.own en (blk_lt hN2) h)⟩, ⟨hM2.st hR2 hS04.kp⟩, ⟨hC2.kp hR2 hS04.kp⟩, ⟨by simp only [List.length_append, List.length_cons, List.length_nil]; omega, by simp only [List.length_append, List.length_cons, List.length_nil]; omega, by omega⟩⟩
              case rest =>
                obtain ⟨s', ps', t', HCl, HPx, HR, HS, HEn, HLn, HCx⟩ := hcut
                clear hR8 hS08 hN8 hO8 hC8 hM8 HT
                subst hwS
                have hP := HPx.out
                have hCl := HCl.out
                obtain ⟨hl1', hl2', hl3'⟩ := HLn.out
                have hRr := HR.out
                have hld : (s'.drop 2).length ≤ s'.length := by rw [List.length_drop]; omega
                unfold closeL at hCl
                go_wp2_with (go_at_call 55; refine (skip_ok [60, 47] _ hRr hP).mono ?_)
                rintro e w1 ⟨rfl, hR1, hS1⟩
                change Rd B q (s'.drop 2) ps' t' w1 at hR1
                have hw := written_any (by omega) hR1
                have hS01 := HS.out.trans hS1
                have hN1 := (hS1.kp.block en (blk_lt HEn.out.1) HEn.out.2).trans HEn.out.1
                have hO1 : ¬ ownOf q w1 en := fun h => HEn.out.2 (hS1.own en (blk_lt HEn.out.1) h)
                have hC1 := HCx.out.kp hRr hS1.kp
                cases hwr : writtenL (s'.drop 2) with
                | none =>
                  rw [hwr] at hw hCl
                  go_wp2_with (go_at_call 103; refine hw.mono ?_)
                  rintro e w2 ⟨rfl, hk⟩
                  have h : none = R := hCl
                  subst h
                  go_wp2
                  exact ⟨rfl, rfl, hS01.kp_trans hk⟩
                | some y =>
                  obtain ⟨⟨pq, mm⟩, s1⟩ := y
                  have hwl := written_lens hwr
                  rw [hwr] at hw hCl
                  dsimp only at hCl
                  go_upto_region 25 with (go_at_call 103; refine hw.mono ?_; rintro e w2 ⟨rfl, hR2, hS2⟩)
                  have hS02 := hS01.trans hS2
                  have hN2 := (hS2.kp.block en (blk_lt hN1) hO1).trans hN1
                  have hO2 : ¬ ownOf q w2 en := fun h => hO1 (hS2.own en (blk_lt hN1) h)
                  have hC2 := hC1.kp hR1 hS2.kp
                  by_cases heq : pf = pq ∧ nm = mm
                  case neg =>
                    rw [if_neg heq] at hCl
                    subst hCl
                    by_cases e1 : pf = pq
                    · subst e1
                      have e2 : nm ≠ mm := fun h => heq ⟨rfl, h⟩
                      have q2 : (nm == mm) = false := beq_eq_false_iff_ne.2 e2
                      go_wp2_with (go_at_call 60; refine (must_bad _ _).mono ?_; rintro e w' ⟨rfl, rfl⟩)
                      exact ⟨rfl, rfl, hS02.kp⟩
                    · have q1 : (pf == pq) = false := beq_eq_false_iff_ne.2 e1
                      go_wp2_with (go_at_call 60; refine (must_bad _ _).mono ?_; rintro e w' ⟨rfl, rfl⟩)
                      exact ⟨rfl, rfl, hS02.kp⟩
                  case pos =>
                    rw [if_pos heq] at hCl
                    obtain ⟨rfl, rfl⟩ := heq
                    have hbl := blank_any hR2
                    have hal := afterBl_le s1
                    go_wp2_with (first
                      | (go_at_call 60; refine (must_ok _ _).mono ?_; rintro e w' ⟨rfl, rfl⟩)
                      | (go_at_call 57; refine hbl.mono ?_))
                    rintro e w3 ⟨rfl, hR3, hS3⟩
                    have hS03 := hS02.trans hS3
                    have hN3 := (hS3.kp.block en (blk_lt hN2) hO2).trans hN2
                    have hO3 : ¬ ownOf q w3 en := fun h => hO2 (hS3.own en (blk_lt hN2) h)
                    have hC3 := hC2.kp hR2 hS3.kp
                    cases hq3 : ([62] : List UInt8).isPrefixOf (afterBl s1) with
                    | false =>
                      rw [hq3, if_neg (by simp)] at hCl
                      subst hCl
                      go_wp2_with (go_at_call 55; refine (skip_bad [62] _ hR3 hq3).mono ?_; rintro e w4 ⟨rfl, hk⟩)
                      exact ⟨rfl, rfl, hS03.kp_trans hk⟩
                    | true =>
                      rw [hq3, if_pos rfl] at hCl
                      go_wp2_with (go_at_call 55; refine (skip_ok [62] _ hR3 hq3).mono ?_)
                      rintro e w4 ⟨rfl, hR4, hS4⟩
                      change Rd B q ((afterBl s1).drop 1) ps' t' w4 at hR4
                      have hS04 := hS03.trans hS4
                      have hN4 := (hS4.kp.block en (blk_lt hN3) hO3).trans hN3
                      have hO4 : ¬ ownOf q w4 en := fun h => hO3 (hS4.own en (blk_lt hN3) h)
                      have hC4 := hC3.kp hR3 hS4.kp
                      have hfl := flush_any hC4 (by omega) (by omega) hR4
                      have hflen' := flush_len ps' t'
                      obtain ⟨ps3, hps3⟩ : ∃ ps3, flushL ps' t' = ps3 := ⟨_, rfl⟩
                      rw [hps3] at hfl hflen' hCl
                      subst hCl
                      go_upto_region 29 with (go_at_call 105; refine hfl.mono ?_; rintro e w6 ⟨rfl, hRf, hSf⟩)
                      have hS06 := hS04.trans hSf
                      have hNf := (hSf.kp.block en (blk_lt hN4) hO4).trans hN4
                      have hOf : ¬ ownOf q w6 en := fun h => hO4 (hSf.own en (blk_lt hN4) h)
                      have hCf := hC4.kp hR4 hSf.kp
                      clear hR1 hR2 hR3 hR4 hS1 hS2 hS3 hS4 hN1 hN2 hN3 hN4 hO1 hO2 hO3 hO4 hC1 hC2 hC3 hS01 hS02 hS03 hS04 HCl HPx HR HS HEn HLn HCx hRr hw hbl hfl hSf
                      obtain ⟨v8, p8, u8, hA8⟩ := id hRf
                      obtain ⟨ao8, n8, cap8, rfl⟩ : ∃ ao n cap, v8 = .slice ao n cap := by
                        rcases hA8.own.2 with ⟨hv, h0⟩ | ⟨g, cap, cur, hv, _⟩
                        · exact ⟨_, _, _, hv⟩
                        · exact ⟨_, _, _, hv⟩
                      have hN8 := hNf
                      have hO8 := hOf
                      have hve : (Value.slice ao8 n8 cap8).ownBlock ≠ some en := fun h => hO8 ((hA8.owns en).2 (.inr (.inl h)))
                      have hvq := hA8.nev
                      have hql := hA8.lt
                      have hel := blk_lt hN8
                      have hC8 := hCf
                      have hB8 := hC8.le
                      have d1 := hA8.c1
                      have g1 := hA8.fz 1
                      have y0 : w6.cell? ⟨en, 0, none⟩ = some (.int .i64 2) := by rw [Lib.cell_of_heap hN8]; rfl
                      have y1 : w6.cell? ⟨en, 1, none⟩ = some (.int .i64 z) := by rw [Lib.cell_of_heap hN8]; rfl
                      have y2 : w6.cell? ⟨en, 2, none⟩ = some (strV nm) := by rw [Lib.cell_of_heap hN8]; rfl
                      have y3 : w6.cell? ⟨en, 3, none⟩ = some (.string ⟨#[]⟩) := by rw [Lib.cell_of_heap hN8]; rfl
                      have hown := hA8.own
                      have hbw := fun o => (Below.drew ((Below.refl w6.heap.size w6).alloc (Nat.le_refl _) o))
                      have k0 := fun o => (hA8.kept (hbw o)).1.c1
                      have k1 := fun o => (hA8.kept (hbw o)).1.fz 1
                      have k2 : ∀ o, (w6.alloc o).drew.cell? ⟨en, 0, none⟩ = some (.int .i64 2) := fun o => by rw [Lib.cell_of_heap (((hbw o).block en hel).trans hN8)]; rfl
                      have k3 : ∀ o, (w6.alloc o).drew.cell? ⟨en, 1, none⟩ = some (.int .i64 z) := fun o => by rw [Lib.cell_of_heap (((hbw o).block en hel).trans hN8)]; rfl
                      have k4 : ∀ o, (w6.alloc o).drew.cell? ⟨en, 2, none⟩ = some (strV nm) := fun o => by rw [Lib.cell_of_heap (((hbw o).block en hel).trans hN8)]; rfl
                      have k5 : ∀ o, (w6.alloc o).drew.cell? ⟨en, 3, none⟩ = some (.string ⟨#[]⟩) := fun o => by rw [Lib.cell_of_heap (((hbw o).block en hel).trans hN8)]; rfl
                      have hp2m : ps3.length + 1 ≤ maxLen := by unfold maxLen; omega
                      have hp2b : (ps3.length + 1) * 48 ≤ 140737488355328 := by omega
                      go_region_law
                        ((refine step_append_lies _ (by rfl) _ _ _ (by rfl) B 60 i0 _ 4 48 Tryz.underlying48 hi hz0 hz1 hz2 rfl (by omega) (.slice ao8 n8 cap8) ps3.length (pcs ps3) (by rfl) ((hown.alloc _).drew)
                            ⟨w6.heap.size, 0, none⟩ 1 1 (pcCells (clsP z nm)) (by rfl) (by rfl) (World.news_of_block (cs := #[.int .i64 2, .int .i64 z, strV nm, .string ⟨#[]⟩]) (t := 60) (fr := (0, 0)) (heap_alloc_new w6 _)) (by simp [Value.oneCell', pcCells, clsP])
                            (by omega) hp2m hp2b (by simp; omega) (w6.heap.size + 1) (by simp) ?_; intro gg cap w9 hown9 hgrow hat hlt; have hA9 := (hA8.kept (hbw (.cells #[.int .i64 2, .int .i64 z, strV nm, .string ⟨#[]⟩] 60))).1; have e9 := (hgrow.cell_far ⟨q, 1, none⟩ (by simp; omega) (Ne.symm hvq)).trans hA9.c1; have f9 := (hgrow.frozen_far ⟨q, 1, none⟩ (by simp; omega) (Ne.symm hvq)).trans (hA9.fz 1)))
                      all_goals
                        go_wp2
                        go_end0
                        have hwh9 : Where (w6.alloc (.cells #[.int .i64 2, .int .i64 z, strV nm, .string ⟨#[]⟩] 60)).drew (.slice ao8 n8 cap8) (.slice (some ⟨gg, 0, none⟩) (ps3.length + 1) cap) := by
                          rcases hat with h | h
                          · exact .inl h.symm
                          · exact .inr ⟨gg, rfl, by simp; omega⟩
                        have hA10 := hA9.putV (ps' := ps3 ++ [clsP z nm]) hgrow (by rw [List.length_append, pcs_app]; simpa [pcs] using hown9) hwh9
                        exact ⟨rfl, ⟨_, _, _, hA10.1⟩, hS06.trans ((hA8.kept (hbw _)).2.trans hA10.2), rfl, by rw [List.length_drop]; omega, by rw [List.length_append, List.length_drop]; simp only [List.length_cons, List.length_nil]; omega⟩
/-- Elements, by the fuel. -/
theorem elem_all (k : Nat) : ∀ (N deep : Nat) (x : Value) (nA : Nat) (A : Sps) (s : List UInt8) (ps : List Pc) (t : List UInt8) (w : World) (R : Option Trio), Cx B w → t.length + s.length ≤ 65536 → nA + s.length ≤ 65536 → ps.length + t.length + 2 * s.length ≤ N → N ≤ 400000 →
      Rd B q s ps t w → Aro x nA A w → deep ≤ 16 → elemF (bodyL k) deep A s ps t = some R →
      Calls Tryz.prog 59 #[.pointer (some ⟨q, 0, none⟩), .int .i64 (deep : Int), x] w fun e w' => ResL B q N w s R e w' := by
  induction k using Nat.strongRecOn with
  | _ k ih =>
    intro N deep x nA A s ps t w R h1 h2 h3 h4 h5 h6 h7 h8 h9
    exact elem_any k (fun k' hk' => ih k' hk') N deep x nA A s ps t w R h1 h2 h3 h4 h5 h6 h7 h8 h9
end
end Go.Proofs.YtpaopeiegaijiaaGreatDoor
