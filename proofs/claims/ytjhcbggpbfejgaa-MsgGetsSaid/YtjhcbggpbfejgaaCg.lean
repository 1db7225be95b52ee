/- The walks of codec's reader: lists and commands. -/
import Derived.Test.YtjhcbggpbfejgaaCc
import Derived.Deep.QuietTactic
import Derived.Deep.RegionWith
import Derived.Deep.RegionLaw
namespace Go.Proofs.Ytjhcbggpbfejgaa.Cr
open Go.Proofs.Ytjhcbggpbfejgaa.Cw
open Go.RowKit Go.Proofs.zjt.zjq Go.Proofs.zjt.zjr Go.Proofs.zjt.zjs
open Go.Proofs.Ytjhcbggpbfejgaa.Cp
set_option linter.unusedVariables false
set_option linter.unusedSimpArgs false
theorem RSt.parts {w0 W : World} {g : Nat} {s : St} (h : RSt w0 W g s) : ∃ A c, W.cell? ⟨g, 0, none⟩ = some (.slice A s.1.length c) ∧ W.cell? ⟨g, 1, none⟩ = some (.int .i64 s.2) ∧ W.frozen? ⟨g, 1, none⟩ = false ∧ s.1.length ≤ 9223372036854775807 := by
  obtain ⟨A, c, hb, _, hc, _⟩ := h
  exact ⟨A, c, (zaa hb 0).trans rfl, (zaa hb 1).trans rfl, zab hb 1, hc.2.1⟩
set_option maxHeartbeats 800000 in
set_option maxRecDepth 100000 in
theorem zff (w0 W : World) (g : Nat) (s : St) (h : RSt w0 W g s) :
    Calls Try.prog 34 #[.pointer (some ⟨g, 0, none⟩)] W fun e w' => e = .returned (.int .i64 (doneE s)) ∧ W = w' := by
  obtain ⟨A, c, c0, c1, f1, hm⟩ := h.parts
  clear h
  obtain ⟨xs, bad⟩ := s
  dsimp only at c0 c1 hm
  by_cases b1 : bad = 150
  · have E := Aside0.mk (show doneE (xs, bad) = bad by simp [doneE, b1])
    have e1 : (bad == 150) = true := beq_iff_eq.2 b1
    have e2 : (bad != 150) = false := by simp [b1]
    clear b1
    go_enter Try.func34, Try.ntmps34
    go_wp2
    go_ret
    exact ⟨by rw [E.out]; rfl, rfl⟩
  · have e1 : (bad == 150) = false := beq_eq_false_iff_ne.2 b1
    have e2 : (bad != 150) = true := by simp [b1]
    by_cases b2 : 0 < xs.length
    · have E := Aside0.mk (show doneE (xs, bad) = 151 by simp [doneE, b1, b2])
      have d1 : decide (0 < xs.length) = true := decide_eq_true b2
      have d2 : decide (0 < (xs.length : Int)) = true := decide_eq_true (by omega)
      clear b1 b2
      go_enter Try.func34, Try.ntmps34
      go_wp2
      go_ret
      exact ⟨by rw [E.out]; rfl, rfl⟩
    · have E := Aside0.mk (show doneE (xs, bad) = bad by simp [doneE, b2])
      have d1 : decide (0 < xs.length) = false := decide_eq_false b2
      have d2 : decide (0 < (xs.length : Int)) = false := decide_eq_false (by omega)
      clear b1 b2
      go_enter Try.func34, Try.ntmps34
      go_wp2
      go_ret
      exact ⟨by rw [E.out]; rfl, rfl⟩
/-- What GetCommand answers. -/
def GetOut (w : World) (r : Cmd × Int) (e : Ending) (w' : World) : Prop :=
  ∃ A cap, e = .returned (.tuple #[cmdV r.1 A cap, .int .i64 r.2]) ∧ Kd.R Kd.string 9 w' w.heap.size (fun _ => True) (.slice A r.1.names.length cap) r.1.names ∧ Below w.heap.size w w'
theorem RSt.begin {w W : World} {A : Option Addr} {c : Nat} {xs : List Int} (hB : Below w.heap.size w W) (hc : Kd.C (Kd.int .u8) w A xs.length xs) (hl : xs.length ≤ c) {g : Nat} (hg : W.heap.size = g) : RSt w (W.alloc (.cells #[.slice A xs.length c, .int .i64 0] 84)) g (xs, 0) := by
  subst hg
  exact ⟨A, c, zbt W _, hB.size, hc, hl, zad hB _⟩
set_option maxHeartbeats 800000 in
set_option maxRecDepth 100000 in
theorem GetCommand_any (xs : List Int) (A : Option Addr) (c : Nat) (w : World) (hc : Kd.C (Kd.int .u8) w A xs.length xs) (hl : xs.length ≤ c) (hs : Bs xs) (hb : xs.length ≤ 1099511627776) :
    Calls Try.prog 13 #[.slice A xs.length c] w (GetOut w (getCommand xs)) := by
  have HC := Aside0.mk hc
  have HL := Aside0.mk hl
  have HS := Aside0.mk hs
  have HB := Aside0.mk hb
  clear hc hl hs hb
  by_cases he : doneE (cmdR (xs, 0)).2 = 0
  · have HG := Aside0.mk (show getCommand xs = ((cmdR (xs, 0)).1, 0) by rw [getCommand, if_pos he])
    have e1 : (doneE (cmdR (xs, 0)).2 == 0) = true := beq_iff_eq.2 he
    have e2 : (doneE (cmdR (xs, 0)).2 != 0) = false := by simp [he]
    clear he
    go_enter Try.func13, Try.ntmps13
    go_wp2_with (first
      | (go_at_call 33; (with_reducible refine (zef w _ _ (xs, 0) (RSt.begin (zad (Below.refl _ _) _) HC.out HL.out (by simp)) HS.out HB.out).mono ?_); rintro e w1 ⟨A1, c1, rfl, ho1, h1, hk1⟩; have HR1 := Aside0.mk (RSt.other (RSt.begin (zad (Below.refl w.heap.size w) (.cells #[.int .i64 0, .string ⟨#[]⟩, .string ⟨#[]⟩, .string ⟨#[]⟩, .string ⟨#[]⟩, .string ⟨#[]⟩, .string ⟨#[]⟩, .slice none 0 0, .int .i64 0, .int .i64 0, .int .i64 0] 25)) HC.out HL.out (by simp)) hk1 (zaf (zbt w (.cells #[.int .i64 0, .string ⟨#[]⟩, .string ⟨#[]⟩, .string ⟨#[]⟩, .string ⟨#[]⟩, .string ⟨#[]⟩, .string ⟨#[]⟩, .slice none 0 0, .int .i64 0, .int .i64 0, .int .i64 0] 25)) _) (by decide)); have HO1 := Aside0.mk ho1; have H1 := Aside0.mk h1; have HK1 := Aside0.mk hk1; clear ho1 h1 hk1)
      | (go_at_call 34; (with_reducible refine (zff w _ _ (cmdR (xs, 0)).2 (RSt.alloc H1.out _)).mono ?_); rintro e w2 ⟨rfl, rfl⟩)
      | ((with_reducible refine zbw (t := 25) (p := 2) rfl ?_); go_must (refine Ca.zbq (g := w.heap.size) (e := 25) (old := #[.int .i64 0, .string ⟨#[]⟩, .string ⟨#[]⟩, .string ⟨#[]⟩, .string ⟨#[]⟩, .string ⟨#[]⟩, .string ⟨#[]⟩, .slice none 0 0, .int .i64 0, .int .i64 0, .int .i64 0]) rfl rfl 25 (.tmp 2) (.tmp 18) rfl rfl rfl ?hb rfl info25 ?h1 ?_); go_must (case hb => exact zaf HR1.out _); go_must (case h1 => intro q hq; simp at hq; rcases hq with rfl | rfl | rfl | rfl | rfl | rfl | rfl | rfl | rfl | rfl | rfl <;> rfl); intro w9 hb9 hg9; have HB9 := Aside0.mk hb9; have HG9 := Aside0.mk hg9; clear hb9 hg9))
    have z0 := (zaa HB9.out 0).trans rfl
    have z1 := (zaa HB9.out 1).trans rfl
    have z2 := (zaa HB9.out 2).trans rfl
    have z3 := (zaa HB9.out 3).trans rfl
    have z4 := (zaa HB9.out 4).trans rfl
    have z5 := (zaa HB9.out 5).trans rfl
    have z6 := (zaa HB9.out 6).trans rfl
    have z7 := (zaa HB9.out 7).trans rfl
    have z8 := (zaa HB9.out 8).trans rfl
    have z9 := (zaa HB9.out 9).trans rfl
    have z10 := (zaa HB9.out 10).trans rfl
    refine bodyPost_ret (v := .tuple #[cmdV (cmdR (xs, 0)).1 A1 c1, .int .i64 0]) (by simp [results, Try.results13, go_sem, z0, z1, z2, z3, z4, z5, z6, z7, z8, z9, z10]) rfl ?_
    rw [HG.out]
    refine ⟨A1, c1, rfl, ?_, ?_⟩
    · exact Kd.zbh (Kd.zeo (Kd.zco (Kd.zcq HO1.out (zad (Below.refl _ _) _)) (zaf HR1.out _) (by decide)) HG9.out (fun k hk he => hk.2 (by injection he))) (fun _ _ => trivial)
    · exact (zad H1.out.below _).grown HG9.out (zad H1.out.below _).size (fun k hk => by injection hk with hk; omega)
  · have HG := Aside0.mk (show getCommand xs = (zeroCmd, doneE (cmdR (xs, 0)).2) by rw [getCommand, if_neg he])
    have e1 : (doneE (cmdR (xs, 0)).2 == 0) = false := beq_eq_false_iff_ne.2 he
    have e2 : (doneE (cmdR (xs, 0)).2 != 0) = true := by simp [he]
    clear he
    go_enter Try.func13, Try.ntmps13
    go_wp2_with (first
      | (go_at_call 33; (with_reducible refine (zef w _ _ (xs, 0) (RSt.begin (zad (Below.refl _ _) _) HC.out HL.out (by simp)) HS.out HB.out).mono ?_); rintro e w1 ⟨A1, c1, rfl, ho1, h1, hk1⟩; have HR1 := Aside0.mk (RSt.other (RSt.begin (zad (Below.refl w.heap.size w) (.cells #[.int .i64 0, .string ⟨#[]⟩, .string ⟨#[]⟩, .string ⟨#[]⟩, .string ⟨#[]⟩, .string ⟨#[]⟩, .string ⟨#[]⟩, .slice none 0 0, .int .i64 0, .int .i64 0, .int .i64 0] 25)) HC.out HL.out (by simp)) hk1 (zaf (zbt w (.cells #[.int .i64 0, .string ⟨#[]⟩, .string ⟨#[]⟩, .string ⟨#[]⟩, .string ⟨#[]⟩, .string ⟨#[]⟩, .string ⟨#[]⟩, .slice none 0 0, .int .i64 0, .int .i64 0, .int .i64 0] 25)) _) (by decide)); have HO1 := Aside0.mk ho1; have H1 := Aside0.mk h1; have HK1 := Aside0.mk hk1; clear ho1 h1 hk1)
      | (go_at_call 34; (with_reducible refine (zff w _ _ (cmdR (xs, 0)).2 (RSt.alloc H1.out _)).mono ?_); rintro e w2 ⟨rfl, rfl⟩)
      | ((with_reducible refine zbw (t := 25) (p := 2) rfl ?_); go_must (refine Ca.zbq (g := w.heap.size) (e := 25) (old := #[.int .i64 0, .string ⟨#[]⟩, .string ⟨#[]⟩, .string ⟨#[]⟩, .string ⟨#[]⟩, .string ⟨#[]⟩, .string ⟨#[]⟩, .slice none 0 0, .int .i64 0, .int .i64 0, .int .i64 0]) rfl rfl 25 (.tmp 2) (.tmp 16) rfl rfl rfl ?hb rfl info25 ?h1 ?_); go_must (case hb => exact zaf HR1.out _); go_must (case h1 => intro q hq; simp at hq; rcases hq with rfl | rfl | rfl | rfl | rfl | rfl | rfl | rfl | rfl | rfl | rfl <;> rfl); intro w9 hb9 hg9; have HB9 := Aside0.mk hb9; have HG9 := Aside0.mk hg9; clear hb9 hg9))
    have z0 := (zaa HB9.out 0).trans rfl
    have z1 := (zaa HB9.out 1).trans rfl
    have z2 := (zaa HB9.out 2).trans rfl
    have z3 := (zaa HB9.out 3).trans rfl
    have z4 := (zaa HB9.out 4).trans rfl
    have z5 := (zaa HB9.out 5).trans rfl
    have z6 := (zaa HB9.out 6).trans rfl
    have z7 := (zaa HB9.out 7).trans rfl
    have z8 := (zaa HB9.out 8).trans rfl
    have z9 := (zaa HB9.out 9).trans rfl
    have z10 := (zaa HB9.out 10).trans rfl
    refine bodyPost_ret (v := .tuple #[cmdV zeroCmd none 0, .int .i64 (doneE (cmdR (xs, 0)).2)]) (by simp [results, Try.results13, go_sem, z0, z1, z2, z3, z4, z5, z6, z7, z8, z9, z10, zeroCmd]) rfl ?_
    rw [HG.out]
    refine ⟨none, 0, rfl, Kd.zdf _ _ _ _ _, ?_⟩
    exact (zad H1.out.below _).grown HG9.out (zad H1.out.below _).size (fun k hk => by injection hk with hk; omega)
end Go.Proofs.Ytjhcbggpbfejgaa.Cr
