/- The walks of codec's reader: lists and commands. -/
import Derived.Test.YtjhcbggpbfejgaaCh
import Derived.Test.YtjhcbggpbfejgaaCn
import Derived.Deep.QuietTactic
import Derived.Deep.RegionWith
import Derived.Deep.RegionLaw
namespace Go.Proofs.Ytjhcbggpbfejgaa.Cr
open Go.Proofs.Ytjhcbggpbfejgaa.Cw
open Go.RowKit Go.Proofs.zjt.zjq Go.Proofs.zjt.zjr Go.Proofs.zjt.zjs
open Go.Proofs.Ytjhcbggpbfejgaa.Cp
set_option linter.unusedVariables false
set_option linter.unusedSimpArgs false
theorem info38 : (Try.prog.info? 38).map (·.size) = some 14 := by kernel_rfl
/-- What GetLog answers. -/
def GetLogOut (w : World) (r : Log × Int) (e : Ending) (w' : World) : Prop :=
  ∃ A cap A2 cap2, e = .returned (.tuple #[logV r.1 A cap A2 cap2, .int .i64 r.2]) ∧ Kd.R Kd.string 9 w' w.heap.size (fun _ => True) (.slice A r.1.cmd.names.length cap) r.1.cmd.names ∧ Kd.R (Kd.int .i64) 3 w' w.heap.size (fun _ => True) (.slice A2 r.1.nodes.length cap2) r.1.nodes ∧ Below w.heap.size w w'
set_option maxHeartbeats 3200000 in
set_option maxRecDepth 100000 in
theorem GetLog_one (xs : List Int) (A : Option Addr) (c : Nat) (w : World) (hc : Kd.C (Kd.int .u8) w A xs.length xs) (hl : xs.length ≤ c) (hs : Bs xs) (hb : xs.length ≤ 1099511627776) (hk : (byteR 3 (numR (xs, 0)).2).1 = 1) :
    Calls Try.prog 15 #[.slice A xs.length c] w (GetLogOut w (getLog xs)) := by
  have HC := Aside0.mk hc
  have HL := Aside0.mk hl
  have HS := Aside0.mk hs
  have HB := Aside0.mk hb
  have hbd := zhx 3 _ (zcw (xs, 0) hs)
  clear hc hl hs hb
  have HLR := Aside0.mk (show logR (xs, 0) = (⟨(numR (xs, 0)).1, (byteR 3 (numR (xs, 0)).2).1, (cmdR (byteR 3 (numR (xs, 0)).2).2).1, []⟩, (cmdR (byteR 3 (numR (xs, 0)).2).2).2) by simp [logR, hk])
  have k1 : ((byteR 3 (numR (xs, 0)).2).1 == 1) = true := by simp [hk]
  have k2 : ((byteR 3 (numR (xs, 0)).2).1 == 2) = false := by simp [hk]
  clear hk
  by_cases he : doneE (cmdR (byteR 3 (numR (xs, 0)).2).2).2 = 0
  · have HG := Aside0.mk (show getLog xs = (⟨(numR (xs, 0)).1, (byteR 3 (numR (xs, 0)).2).1, (cmdR (byteR 3 (numR (xs, 0)).2).2).1, []⟩, 0) by rw [getLog, HLR.out, if_pos he])
    have e1 : (doneE (cmdR (byteR 3 (numR (xs, 0)).2).2).2 == 0) = true := beq_iff_eq.2 he
    have e2 : (doneE (cmdR (byteR 3 (numR (xs, 0)).2).2).2 != 0) = false := by simp [he]
    clear he
    go_enter Try.func15, Try.ntmps15
    go_wp2_with (first
      | (go_at_call 38; (with_reducible refine (zby w _ _ (xs, 0) (RSt.begin (zad (Below.refl w.heap.size w) (.cells #[.int .i64 0, .int .i64 0, .int .i64 0, .string ⟨#[]⟩, .string ⟨#[]⟩, .string ⟨#[]⟩, .string ⟨#[]⟩, .string ⟨#[]⟩, .string ⟨#[]⟩, .slice none 0 0, .int .i64 0, .int .i64 0, .int .i64 0, .slice none 0 0] 38)) HC.out HL.out (by simp)) HS.out).mono ?_); rintro e w1 ⟨rfl, h1, hk1⟩; have HR1 := Aside0.mk (RSt.other (RSt.begin (zad (Below.refl w.heap.size w) (.cells #[.int .i64 0, .int .i64 0, .int .i64 0, .string ⟨#[]⟩, .string ⟨#[]⟩, .string ⟨#[]⟩, .string ⟨#[]⟩, .string ⟨#[]⟩, .string ⟨#[]⟩, .slice none 0 0, .int .i64 0, .int .i64 0, .int .i64 0, .slice none 0 0] 38)) HC.out HL.out (by simp)) hk1 (zaf (zbt w (.cells #[.int .i64 0, .int .i64 0, .int .i64 0, .string ⟨#[]⟩, .string ⟨#[]⟩, .string ⟨#[]⟩, .string ⟨#[]⟩, .string ⟨#[]⟩, .string ⟨#[]⟩, .slice none 0 0, .int .i64 0, .int .i64 0, .int .i64 0, .slice none 0 0] 38)) _) (by decide)); have H1 := Aside0.mk (show RSt w w1 _ (numR (xs, 0)).2 from h1); have hz1 := hk1.1; have HZ1 := Aside0.mk (show w.heap.size + 1 < w1.heap.size by simp at hz1; omega); clear h1 hk1 hz1)
      | (go_at_call 39; (with_reducible refine (zex w w1 _ (numR (xs, 0)).2 3 H1.out (zcw (xs, 0) HS.out)).mono ?_); rintro e w2 ⟨rfl, h2, hk2⟩; have HR2 := Aside0.mk (H1.out.other hk2 HR1.out (by decide)); have H2 := Aside0.mk h2; have HZ2 := Aside0.mk (Nat.lt_of_lt_of_le HZ1.out hk2.1); clear h2 hk2)
      | (go_at_call 33; (with_reducible refine (zef w _ _ (byteR 3 (numR (xs, 0)).2).2 (H2.out.alloc (.cells #[.int .i64 (wrap64 (raw (xs, 0)).1), .int .i64 ((byteR 3 (numR (xs, 0)).2).1), .int .i64 0, .string ⟨#[]⟩, .string ⟨#[]⟩, .string ⟨#[]⟩, .string ⟨#[]⟩, .string ⟨#[]⟩, .string ⟨#[]⟩, .slice none 0 0, .int .i64 0, .int .i64 0, .int .i64 0, .slice none 0 0] 38)) (zhw 3 _ (zcw (xs, 0) HS.out)) (Nat.le_trans (zhe 3 _) (Nat.le_trans (zgw (xs, 0)) HB.out))).mono ?_); rintro e w3 ⟨A1, c1, rfl, ho3, h3, hk3⟩; have HR3 := Aside0.mk (RSt.other (H2.out.alloc (.cells #[.int .i64 (wrap64 (raw (xs, 0)).1), .int .i64 ((byteR 3 (numR (xs, 0)).2).1), .int .i64 0, .string ⟨#[]⟩, .string ⟨#[]⟩, .string ⟨#[]⟩, .string ⟨#[]⟩, .string ⟨#[]⟩, .string ⟨#[]⟩, .slice none 0 0, .int .i64 0, .int .i64 0, .int .i64 0, .slice none 0 0] 38)) hk3 (zaf HR2.out _) (by decide)); have HL3 := Aside0.mk (RSt.other (H2.out.alloc (.cells #[.int .i64 (wrap64 (raw (xs, 0)).1), .int .i64 ((byteR 3 (numR (xs, 0)).2).1), .int .i64 0, .string ⟨#[]⟩, .string ⟨#[]⟩, .string ⟨#[]⟩, .string ⟨#[]⟩, .string ⟨#[]⟩, .string ⟨#[]⟩, .slice none 0 0, .int .i64 0, .int .i64 0, .int .i64 0, .slice none 0 0] 38)) hk3 (zbt w2 (.cells #[.int .i64 (wrap64 (raw (xs, 0)).1), .int .i64 ((byteR 3 (numR (xs, 0)).2).1), .int .i64 0, .string ⟨#[]⟩, .string ⟨#[]⟩, .string ⟨#[]⟩, .string ⟨#[]⟩, .string ⟨#[]⟩, .string ⟨#[]⟩, .slice none 0 0, .int .i64 0, .int .i64 0, .int .i64 0, .slice none 0 0] 38)) (by decide)); have H3 := Aside0.mk h3; have HO3 := Aside0.mk ho3; clear h3 hk3 ho3)
      | ((with_reducible refine zbw (t := 25) (p := 22) rfl ?_); go_must (refine Ca.store_seg (g := w2.heap.size) (e := 38) (off := 2) (old := #[.int .i64 (wrap64 (raw (xs, 0)).1), .int .i64 ((byteR 3 (numR (xs, 0)).2).1), .int .i64 0, .string ⟨#[]⟩, .string ⟨#[]⟩, .string ⟨#[]⟩, .string ⟨#[]⟩, .string ⟨#[]⟩, .string ⟨#[]⟩, .slice none 0 0, .int .i64 0, .int .i64 0, .int .i64 0, .slice none 0 0]) (cs := #[.int .i64 (cmdR (byteR 3 (numR (xs, 0)).2).2).1.op, .string (cmdR (byteR 3 (numR (xs, 0)).2).2).1.book, .string (cmdR (byteR 3 (numR (xs, 0)).2).2).1.name, .string (cmdR (byteR 3 (numR (xs, 0)).2).2).1.data, .string (cmdR (byteR 3 (numR (xs, 0)).2).2).1.mat, .string (cmdR (byteR 3 (numR (xs, 0)).2).2).1.non, .string (cmdR (byteR 3 (numR (xs, 0)).2).2).1.token, .slice A1 (cmdR (byteR 3 (numR (xs, 0)).2).2).1.names.length c1, .int .i64 (cmdR (byteR 3 (numR (xs, 0)).2).2).1.at_, .int .i64 (cmdR (byteR 3 (numR (xs, 0)).2).2).1.session, .int .i64 (cmdR (byteR 3 (numR (xs, 0)).2).2).1.seq]) (new := #[.int .i64 (wrap64 (raw (xs, 0)).1), .int .i64 ((byteR 3 (numR (xs, 0)).2).1), .int .i64 (cmdR (byteR 3 (numR (xs, 0)).2).2).1.op, .string (cmdR (byteR 3 (numR (xs, 0)).2).2).1.book, .string (cmdR (byteR 3 (numR (xs, 0)).2).2).1.name, .string (cmdR (byteR 3 (numR (xs, 0)).2).2).1.data, .string (cmdR (byteR 3 (numR (xs, 0)).2).2).1.mat, .string (cmdR (byteR 3 (numR (xs, 0)).2).2).1.non, .string (cmdR (byteR 3 (numR (xs, 0)).2).2).1.token, .slice A1 (cmdR (byteR 3 (numR (xs, 0)).2).2).1.names.length c1, .int .i64 (cmdR (byteR 3 (numR (xs, 0)).2).2).1.at_, .int .i64 (cmdR (byteR 3 (numR (xs, 0)).2).2).1.session, .int .i64 (cmdR (byteR 3 (numR (xs, 0)).2).2).1.seq, .slice none 0 0]) rfl rfl 25 (.tmp 22) (.tmp 21) rfl rfl rfl ?hb0 (by simp) info25 ?h1 rfl ?_); go_must (case hb0 => exact HL3.out); go_must (case h1 => intro q hq; simp at hq; rcases hq with rfl | rfl | rfl | rfl | rfl | rfl | rfl | rfl | rfl | rfl | rfl <;> rfl); intro w4 hb4 hg4; have H4 := Aside0.mk (H3.out.grown hg4 (by intro he; injection he with he; have := HZ2.out; omega) (H3.out.below.grown hg4 H3.out.below.size (fun k hk => by injection hk with hk; have := HZ2.out; omega))); have HR4 := Aside0.mk (zbm HR3.out hg4 (by intro he; injection he with he; have := HZ2.out; omega)); have HO4 := Aside0.mk (Kd.zbh (Kd.zeo (Kd.zco HO3.out HL3.out (by decide)) hg4 (fun k hk he => hk.2 (by injection he))) (fun k hk => hk.1)); have y0 := (zaa hb4 0).trans rfl; have y1 := (zaa hb4 1).trans rfl; have y2 := (zaa hb4 2).trans rfl; have y3 := (zaa hb4 3).trans rfl; have y4 := (zaa hb4 4).trans rfl; have y5 := (zaa hb4 5).trans rfl; have y6 := (zaa hb4 6).trans rfl; have y7 := (zaa hb4 7).trans rfl; have y8 := (zaa hb4 8).trans rfl; have y9 := (zaa hb4 9).trans rfl; have y10 := (zaa hb4 10).trans rfl; have y11 := (zaa hb4 11).trans rfl; have y12 := (zaa hb4 12).trans rfl; have y13 := (zaa hb4 13).trans rfl; clear hb4 hg4)
      | (go_at_call 34; (with_reducible refine (zff w _ _ (cmdR (byteR 3 (numR (xs, 0)).2).2).2 H4.out).mono ?_); rintro e wd ⟨rfl, rfl⟩)
      | ((with_reducible refine zbw (t := 38) (p := 2) rfl ?_); go_must (refine Ca.zbq (g := w.heap.size) (e := 38) (old := #[.int .i64 0, .int .i64 0, .int .i64 0, .string ⟨#[]⟩, .string ⟨#[]⟩, .string ⟨#[]⟩, .string ⟨#[]⟩, .string ⟨#[]⟩, .string ⟨#[]⟩, .slice none 0 0, .int .i64 0, .int .i64 0, .int .i64 0, .slice none 0 0]) rfl rfl 38 (.tmp 2) (.tmp 36) rfl rfl rfl ?hb rfl info38 ?h1b ?_); go_must (case hb => exact HR4.out); go_must (case h1b => intro q hq; simp at hq; rcases hq with rfl | rfl | rfl | rfl | rfl | rfl | rfl | rfl | rfl | rfl | rfl | rfl | rfl | rfl <;> rfl); intro w9 hb9 hg9; have HB9 := Aside0.mk hb9; have HG9 := Aside0.mk hg9; clear hb9 hg9))
    have z0 := (zaa HB9.out 0).trans rfl
    have z1 := (zaa HB9.out 1).trans rfl
    have z2 := (zaa HB9.out 2).trans rfl
    have z3 := (zaa HB9.out 3).trans rfl
    have z4 := (zaa HB9.out 4).trans rfl
    have z5 := (zaa HB9.out 5).trans rfl
    have z6 := (zaa HB9.out 6).trans rfl
    have z7 := (zaa HB9.out 7).trans rfl
    have z8 := (zaa HB9.out 8).trans rfl
    have z9 := (zaa HB9.out 9).trans rfl
    have z10 := (zaa HB9.out 10).trans rfl
    have z11 := (zaa HB9.out 11).trans rfl
    have z12 := (zaa HB9.out 12).trans rfl
    have z13 := (zaa HB9.out 13).trans rfl
    refine bodyPost_ret (v := .tuple #[logV ⟨(numR (xs, 0)).1, (byteR 3 (numR (xs, 0)).2).1, (cmdR (byteR 3 (numR (xs, 0)).2).2).1, []⟩ A1 c1 none 0, .int .i64 (0)]) (by simp [results, Try.results15, go_sem, z0, z1, z2, z3, z4, z5, z6, z7, z8, z9, z10, z11, z12, z13, zeroCmd, zeroLog, numR]) rfl ?_
    rw [HG.out]
    exact ⟨A1, c1, none, 0, rfl, Kd.zbh (Kd.zeo (Kd.zco HO4.out HR4.out (by decide)) HG9.out (fun k hk he => hk.2 (by injection he))) (fun _ _ => trivial), Kd.zdf _ _ _ _ _, (H4.out.below).grown HG9.out (H4.out.below).size (fun k hk => by injection hk with hk; omega)⟩
  · have HG := Aside0.mk (show getLog xs = (zeroLog, doneE (cmdR (byteR 3 (numR (xs, 0)).2).2).2) by rw [getLog, HLR.out, if_neg he])
    have e1 : (doneE (cmdR (byteR 3 (numR (xs, 0)).2).2).2 == 0) = false := beq_eq_false_iff_ne.2 he
    have e2 : (doneE (cmdR (byteR 3 (numR (xs, 0)).2).2).2 != 0) = true := by simp [he]
    clear he
    go_enter Try.func15, Try.ntmps15
    go_wp2_with (first
      | (go_at_call 38; (with_reducible refine (zby w _ _ (xs, 0) (RSt.begin (zad (Below.refl w.heap.size w) (.cells #[.int .i64 0, .int .i64 0, .int .i64 0, .string ⟨#[]⟩, .string ⟨#[]⟩, .string ⟨#[]⟩, .string ⟨#[]⟩, .string ⟨#[]⟩, .string ⟨#[]⟩, .slice none 0 0, .int .i64 0, .int .i64 0, .int .i64 0, .slice none 0 0] 38)) HC.out HL.out (by simp)) HS.out).mono ?_); rintro e w1 ⟨rfl, h1, hk1⟩; have HR1 := Aside0.mk (RSt.other (RSt.begin (zad (Below.refl w.heap.size w) (.cells #[.int .i64 0, .int .i64 0, .int .i64 0, .string ⟨#[]⟩, .string ⟨#[]⟩, .string ⟨#[]⟩, .string ⟨#[]⟩, .string ⟨#[]⟩, .string ⟨#[]⟩, .slice none 0 0, .int .i64 0, .int .i64 0, .int .i64 0, .slice none 0 0] 38)) HC.out HL.out (by simp)) hk1 (zaf (zbt w (.cells #[.int .i64 0, .int .i64 0, .int .i64 0, .string ⟨#[]⟩, .string ⟨#[]⟩, .string ⟨#[]⟩, .string ⟨#[]⟩, .string ⟨#[]⟩, .string ⟨#[]⟩, .slice none 0 0, .int .i64 0, .int .i64 0, .int .i64 0, .slice none 0 0] 38)) _) (by decide)); have H1 := Aside0.mk (show RSt w w1 _ (numR (xs, 0)).2 from h1); have hz1 := hk1.1; have HZ1 := Aside0.mk (show w.heap.size + 1 < w1.heap.size by simp at hz1; omega); clear h1 hk1 hz1)
      | (go_at_call 39; (with_reducible refine (zex w w1 _ (numR (xs, 0)).2 3 H1.out (zcw (xs, 0) HS.out)).mono ?_); rintro e w2 ⟨rfl, h2, hk2⟩; have HR2 := Aside0.mk (H1.out.other hk2 HR1.out (by decide)); have H2 := Aside0.mk h2; have HZ2 := Aside0.mk (Nat.lt_of_lt_of_le HZ1.out hk2.1); clear h2 hk2)
      | (go_at_call 33; (with_reducible refine (zef w _ _ (byteR 3 (numR (xs, 0)).2).2 (H2.out.alloc (.cells #[.int .i64 (wrap64 (raw (xs, 0)).1), .int .i64 ((byteR 3 (numR (xs, 0)).2).1), .int .i64 0, .string ⟨#[]⟩, .string ⟨#[]⟩, .string ⟨#[]⟩, .string ⟨#[]⟩, .string ⟨#[]⟩, .string ⟨#[]⟩, .slice none 0 0, .int .i64 0, .int .i64 0, .int .i64 0, .slice none 0 0] 38)) (zhw 3 _ (zcw (xs, 0) HS.out)) (Nat.le_trans (zhe 3 _) (Nat.le_trans (zgw (xs, 0)) HB.out))).mono ?_); rintro e w3 ⟨A1, c1, rfl, ho3, h3, hk3⟩; have HR3 := Aside0.mk (RSt.other (H2.out.alloc (.cells #[.int .i64 (wrap64 (raw (xs, 0)).1), .int .i64 ((byteR 3 (numR (xs, 0)).2).1), .int .i64 0, .string ⟨#[]⟩, .string ⟨#[]⟩, .string ⟨#[]⟩, .string ⟨#[]⟩, .string ⟨#[]⟩, .string ⟨#[]⟩, .slice none 0 0, .int .i64 0, .int .i64 0, .int .i64 0, .slice none 0 0] 38)) hk3 (zaf HR2.out _) (by decide)); have HL3 := Aside0.mk (RSt.other (H2.out.alloc (.cells #[.int .i64 (wrap64 (raw (xs, 0)).1), .int .i64 ((byteR 3 (numR (xs, 0)).2).1), .int .i64 0, .string ⟨#[]⟩, .string ⟨#[]⟩, .string ⟨#[]⟩, .string ⟨#[]⟩, .string ⟨#[]⟩, .string ⟨#[]⟩, .slice none 0 0, .int .i64 0, .int .i64 0, .int .i64 0, .slice none 0 0] 38)) hk3 (zbt w2 (.cells #[.int .i64 (wrap64 (raw (xs, 0)).1), .int .i64 ((byteR 3 (numR (xs, 0)).2).1), .int .i64 0, .string ⟨#[]⟩, .string ⟨#[]⟩, .string ⟨#[]⟩, .string ⟨#[]⟩, .string ⟨#[]⟩, .string ⟨#[]⟩, .slice none 0 0, .int .i64 0, .int .i64 0, .int .i64 0, .slice none 0 0] 38)) (by decide)); have H3 := Aside0.mk h3; have HO3 := Aside0.mk ho3; clear h3 hk3 ho3)
      | ((with_reducible refine zbw (t := 25) (p := 22) rfl ?_); go_must (refine Ca.store_seg (g := w2.heap.size) (e := 38) (off := 2) (old := #[.int .i64 (wrap64 (raw (xs, 0)).1), .int .i64 ((byteR 3 (numR (xs, 0)).2).1), .int .i64 0, .string ⟨#[]⟩, .string ⟨#[]⟩, .string ⟨#[]⟩, .string ⟨#[]⟩, .string ⟨#[]⟩, .string ⟨#[]⟩, .slice none 0 0, .int .i64 0, .int .i64 0, .int .i64 0, .slice none 0 0]) (cs := #[.int .i64 (cmdR (byteR 3 (numR (xs, 0)).2).2).1.op, .string (cmdR (byteR 3 (numR (xs, 0)).2).2).1.book, .string (cmdR (byteR 3 (numR (xs, 0)).2).2).1.name, .string (cmdR (byteR 3 (numR (xs, 0)).2).2).1.data, .string (cmdR (byteR 3 (numR (xs, 0)).2).2).1.mat, .string (cmdR (byteR 3 (numR (xs, 0)).2).2).1.non, .string (cmdR (byteR 3 (numR (xs, 0)).2).2).1.token, .slice A1 (cmdR (byteR 3 (numR (xs, 0)).2).2).1.names.length c1, .int .i64 (cmdR (byteR 3 (numR (xs, 0)).2).2).1.at_, .int .i64 (cmdR (byteR 3 (numR (xs, 0)).2).2).1.session, .int .i64 (cmdR (byteR 3 (numR (xs, 0)).2).2).1.seq]) (new := #[.int .i64 (wrap64 (raw (xs, 0)).1), .int .i64 ((byteR 3 (numR (xs, 0)).2).1), .int .i64 (cmdR (byteR 3 (numR (xs, 0)).2).2).1.op, .string (cmdR (byteR 3 (numR (xs, 0)).2).2).1.book, .string (cmdR (byteR 3 (numR (xs, 0)).2).2).1.name, .string (cmdR (byteR 3 (numR (xs, 0)).2).2).1.data, .string (cmdR (byteR 3 (numR (xs, 0)).2).2).1.mat, .string (cmdR (byteR 3 (numR (xs, 0)).2).2).1.non, .string (cmdR (byteR 3 (numR (xs, 0)).2).2).1.token, .slice A1 (cmdR (byteR 3 (numR (xs, 0)).2).2).1.names.length c1, .int .i64 (cmdR (byteR 3 (numR (xs, 0)).2).2).1.at_, .int .i64 (cmdR (byteR 3 (numR (xs, 0)).2).2).1.session, .int .i64 (cmdR (byteR 3 (numR (xs, 0)).2).2).1.seq, .slice none 0 0]) rfl rfl 25 (.tmp 22) (.tmp 21) rfl rfl rfl ?hb0 (by simp) info25 ?h1 rfl ?_); go_must (case hb0 => exact HL3.out); go_must (case h1 => intro q hq; simp at hq; rcases hq with rfl | rfl | rfl | rfl | rfl | rfl | rfl | rfl | rfl | rfl | rfl <;> rfl); intro w4 hb4 hg4; have H4 := Aside0.mk (H3.out.grown hg4 (by intro he; injection he with he; have := HZ2.out; omega) (H3.out.below.grown hg4 H3.out.below.size (fun k hk => by injection hk with hk; have := HZ2.out; omega))); have HR4 := Aside0.mk (zbm HR3.out hg4 (by intro he; injection he with he; have := HZ2.out; omega)); have HO4 := Aside0.mk (Kd.zbh (Kd.zeo (Kd.zco HO3.out HL3.out (by decide)) hg4 (fun k hk he => hk.2 (by injection he))) (fun k hk => hk.1)); have y0 := (zaa hb4 0).trans rfl; have y1 := (zaa hb4 1).trans rfl; have y2 := (zaa hb4 2).trans rfl; have y3 := (zaa hb4 3).trans rfl; have y4 := (zaa hb4 4).trans rfl; have y5 := (zaa hb4 5).trans rfl; have y6 := (zaa hb4 6).trans rfl; have y7 := (zaa hb4 7).trans rfl; have y8 := (zaa hb4 8).trans rfl; have y9 := (zaa hb4 9).trans rfl; have y10 := (zaa hb4 10).trans rfl; have y11 := (zaa hb4 11).trans rfl; have y12 := (zaa hb4 12).trans rfl; have y13 := (zaa hb4 13).trans rfl; clear hb4 hg4)
      | (go_at_call 34; (with_reducible refine (zff w _ _ (cmdR (byteR 3 (numR (xs, 0)).2).2).2 H4.out).mono ?_); rintro e wd ⟨rfl, rfl⟩)
      | ((with_reducible refine zbw (t := 38) (p := 2) rfl ?_); go_must (refine Ca.zbq (g := w.heap.size) (e := 38) (old := #[.int .i64 0, .int .i64 0, .int .i64 0, .string ⟨#[]⟩, .string ⟨#[]⟩, .string ⟨#[]⟩, .string ⟨#[]⟩, .string ⟨#[]⟩, .string ⟨#[]⟩, .slice none 0 0, .int .i64 0, .int .i64 0, .int .i64 0, .slice none 0 0]) rfl rfl 38 (.tmp 2) (.tmp 34) rfl rfl rfl ?hb rfl info38 ?h1b ?_); go_must (case hb => exact HR4.out); go_must (case h1b => intro q hq; simp at hq; rcases hq with rfl | rfl | rfl | rfl | rfl | rfl | rfl | rfl | rfl | rfl | rfl | rfl | rfl | rfl <;> rfl); intro w9 hb9 hg9; have HB9 := Aside0.mk hb9; have HG9 := Aside0.mk hg9; clear hb9 hg9))
    have z0 := (zaa HB9.out 0).trans rfl
    have z1 := (zaa HB9.out 1).trans rfl
    have z2 := (zaa HB9.out 2).trans rfl
    have z3 := (zaa HB9.out 3).trans rfl
    have z4 := (zaa HB9.out 4).trans rfl
    have z5 := (zaa HB9.out 5).trans rfl
    have z6 := (zaa HB9.out 6).trans rfl
    have z7 := (zaa HB9.out 7).trans rfl
    have z8 := (zaa HB9.out 8).trans rfl
    have z9 := (zaa HB9.out 9).trans rfl
    have z10 := (zaa HB9.out 10).trans rfl
    have z11 := (zaa HB9.out 11).trans rfl
    have z12 := (zaa HB9.out 12).trans rfl
    have z13 := (zaa HB9.out 13).trans rfl
    refine bodyPost_ret (v := .tuple #[logV zeroLog none 0 none 0, .int .i64 (doneE (cmdR (byteR 3 (numR (xs, 0)).2).2).2)]) (by simp [results, Try.results15, go_sem, z0, z1, z2, z3, z4, z5, z6, z7, z8, z9, z10, z11, z12, z13, zeroCmd, zeroLog, numR]) rfl ?_
    rw [HG.out]
    exact ⟨none, 0, none, 0, rfl, Kd.zdf _ _ _ _ _, Kd.zdf _ _ _ _ _, (H4.out.below).grown HG9.out (H4.out.below).size (fun k hk => by injection hk with hk; omega)⟩
set_option maxHeartbeats 3200000 in
set_option maxRecDepth 100000 in
theorem GetLog_two (xs : List Int) (A : Option Addr) (c : Nat) (w : World) (hc : Kd.C (Kd.int .u8) w A xs.length xs) (hl : xs.length ≤ c) (hs : Bs xs) (hb : xs.length ≤ 1099511627776) (hk : (byteR 3 (numR (xs, 0)).2).1 = 2) :
    Calls Try.prog 15 #[.slice A xs.length c] w (GetLogOut w (getLog xs)) := by
  have HC := Aside0.mk hc
  have HL := Aside0.mk hl
  have HS := Aside0.mk hs
  have HB := Aside0.mk hb
  have hbd := zhx 3 _ (zcw (xs, 0) hs)
  clear hc hl hs hb
  have HLR := Aside0.mk (show logR (xs, 0) = (⟨(numR (xs, 0)).1, (byteR 3 (numR (xs, 0)).2).1, zeroCmd, (many numR (byteR 3 (numR (xs, 0)).2).2).1⟩, (many numR (byteR 3 (numR (xs, 0)).2).2).2) by simp [logR, hk])
  have k1 : ((byteR 3 (numR (xs, 0)).2).1 == 1) = false := by simp [hk]
  have k2 : ((byteR 3 (numR (xs, 0)).2).1 == 2) = true := by simp [hk]
  clear hk
  by_cases he : doneE (many numR (byteR 3 (numR (xs, 0)).2).2).2 = 0
  · have HG := Aside0.mk (show getLog xs = (⟨(numR (xs, 0)).1, (byteR 3 (numR (xs, 0)).2).1, zeroCmd, (many numR (byteR 3 (numR (xs, 0)).2).2).1⟩, 0) by rw [getLog, HLR.out, if_pos he])
    have e1 : (doneE (many numR (byteR 3 (numR (xs, 0)).2).2).2 == 0) = true := beq_iff_eq.2 he
    have e2 : (doneE (many numR (byteR 3 (numR (xs, 0)).2).2).2 != 0) = false := by simp [he]
    clear he
    go_enter Try.func15, Try.ntmps15
    go_wp2_with (first
      | (go_at_call 38; (with_reducible refine (zby w _ _ (xs, 0) (RSt.begin (zad (Below.refl w.heap.size w) (.cells #[.int .i64 0, .int .i64 0, .int .i64 0, .string ⟨#[]⟩, .string ⟨#[]⟩, .string ⟨#[]⟩, .string ⟨#[]⟩, .string ⟨#[]⟩, .string ⟨#[]⟩, .slice none 0 0, .int .i64 0, .int .i64 0, .int .i64 0, .slice none 0 0] 38)) HC.out HL.out (by simp)) HS.out).mono ?_); rintro e w1 ⟨rfl, h1, hk1⟩; have HR1 := Aside0.mk (RSt.other (RSt.begin (zad (Below.refl w.heap.size w) (.cells #[.int .i64 0, .int .i64 0, .int .i64 0, .string ⟨#[]⟩, .string ⟨#[]⟩, .string ⟨#[]⟩, .string ⟨#[]⟩, .string ⟨#[]⟩, .string ⟨#[]⟩, .slice none 0 0, .int .i64 0, .int .i64 0, .int .i64 0, .slice none 0 0] 38)) HC.out HL.out (by simp)) hk1 (zaf (zbt w (.cells #[.int .i64 0, .int .i64 0, .int .i64 0, .string ⟨#[]⟩, .string ⟨#[]⟩, .string ⟨#[]⟩, .string ⟨#[]⟩, .string ⟨#[]⟩, .string ⟨#[]⟩, .slice none 0 0, .int .i64 0, .int .i64 0, .int .i64 0, .slice none 0 0] 38)) _) (by decide)); have H1 := Aside0.mk (show RSt w w1 _ (numR (xs, 0)).2 from h1); have hz1 := hk1.1; have HZ1 := Aside0.mk (show w.heap.size + 1 < w1.heap.size by simp at hz1; omega); clear h1 hk1 hz1)
      | (go_at_call 39; (with_reducible refine (zex w w1 _ (numR (xs, 0)).2 3 H1.out (zcw (xs, 0) HS.out)).mono ?_); rintro e w2 ⟨rfl, h2, hk2⟩; have HR2 := Aside0.mk (H1.out.other hk2 HR1.out (by decide)); have H2 := Aside0.mk h2; have HZ2 := Aside0.mk (Nat.lt_of_lt_of_le HZ1.out hk2.1); clear h2 hk2)
      | (go_at_call 40; (with_reducible refine (manyInt_any w _ _ (byteR 3 (numR (xs, 0)).2).2 (H2.out.alloc (.cells #[.int .i64 (wrap64 (raw (xs, 0)).1), .int .i64 ((byteR 3 (numR (xs, 0)).2).1), .int .i64 0, .string ⟨#[]⟩, .string ⟨#[]⟩, .string ⟨#[]⟩, .string ⟨#[]⟩, .string ⟨#[]⟩, .string ⟨#[]⟩, .slice none 0 0, .int .i64 0, .int .i64 0, .int .i64 0, .slice none 0 0] 38)) (zhw 3 _ (zcw (xs, 0) HS.out)) (Nat.le_trans (zhe 3 _) (Nat.le_trans (zgw (xs, 0)) HB.out))).mono ?_); rintro e w3 ⟨v3, rfl, ho3, h3, hk3⟩; obtain ⟨A1, c1, e3⟩ := Kd.zbu ho3; subst e3; have HR3 := Aside0.mk (RSt.other (H2.out.alloc (.cells #[.int .i64 (wrap64 (raw (xs, 0)).1), .int .i64 ((byteR 3 (numR (xs, 0)).2).1), .int .i64 0, .string ⟨#[]⟩, .string ⟨#[]⟩, .string ⟨#[]⟩, .string ⟨#[]⟩, .string ⟨#[]⟩, .string ⟨#[]⟩, .slice none 0 0, .int .i64 0, .int .i64 0, .int .i64 0, .slice none 0 0] 38)) hk3 (zaf HR2.out _) (by decide)); have hl3 := RSt.other (H2.out.alloc (.cells #[.int .i64 (wrap64 (raw (xs, 0)).1), .int .i64 ((byteR 3 (numR (xs, 0)).2).1), .int .i64 0, .string ⟨#[]⟩, .string ⟨#[]⟩, .string ⟨#[]⟩, .string ⟨#[]⟩, .string ⟨#[]⟩, .string ⟨#[]⟩, .slice none 0 0, .int .i64 0, .int .i64 0, .int .i64 0, .slice none 0 0] 38)) hk3 (zbt w2 (.cells #[.int .i64 (wrap64 (raw (xs, 0)).1), .int .i64 ((byteR 3 (numR (xs, 0)).2).1), .int .i64 0, .string ⟨#[]⟩, .string ⟨#[]⟩, .string ⟨#[]⟩, .string ⟨#[]⟩, .string ⟨#[]⟩, .string ⟨#[]⟩, .slice none 0 0, .int .i64 0, .int .i64 0, .int .i64 0, .slice none 0 0] 38)) (by decide); have HL3 := Aside0.mk hl3; have H3 := Aside0.mk h3; have HO3 := Aside0.mk ho3; have f13 := zab hl3 13; have y0 := (zaa hl3 0).trans rfl; have y1 := (zaa hl3 1).trans rfl; have y2 := (zaa hl3 2).trans rfl; have y3 := (zaa hl3 3).trans rfl; have y4 := (zaa hl3 4).trans rfl; have y5 := (zaa hl3 5).trans rfl; have y6 := (zaa hl3 6).trans rfl; have y7 := (zaa hl3 7).trans rfl; have y8 := (zaa hl3 8).trans rfl; have y9 := (zaa hl3 9).trans rfl; have y10 := (zaa hl3 10).trans rfl; have y11 := (zaa hl3 11).trans rfl; have y12 := (zaa hl3 12).trans rfl; have y13 := (zaa hl3 13).trans rfl; clear h3 hk3 ho3 hl3)
      | (go_at_call 34; (with_reducible refine (zff w _ _ (many numR (byteR 3 (numR (xs, 0)).2).2).2 (H3.out.far (b := w2.heap.size) (j := 13) (by have := HZ2.out; omega) (by have := HZ2.out; omega) (.slice A1 (many numR (byteR 3 (numR (xs, 0)).2).2).1.length c1))).mono ?_); rintro e wd ⟨rfl, rfl⟩)
      | ((with_reducible refine zbw (t := 38) (p := 2) rfl ?_); go_must (refine Ca.zbq (g := w.heap.size) (e := 38) (old := #[.int .i64 0, .int .i64 0, .int .i64 0, .string ⟨#[]⟩, .string ⟨#[]⟩, .string ⟨#[]⟩, .string ⟨#[]⟩, .string ⟨#[]⟩, .string ⟨#[]⟩, .slice none 0 0, .int .i64 0, .int .i64 0, .int .i64 0, .slice none 0 0]) rfl rfl 38 (.tmp 2) (.tmp 36) rfl rfl rfl ?hb rfl info38 ?h1b ?_); go_must (case hb => exact zbi HR3.out (p := ⟨w2.heap.size, 13, none⟩) (by have := HZ2.out; show w.heap.size ≠ w2.heap.size; omega) _); go_must (case h1b => intro q hq; simp at hq; rcases hq with rfl | rfl | rfl | rfl | rfl | rfl | rfl | rfl | rfl | rfl | rfl | rfl | rfl | rfl <;> rfl); intro w9 hb9 hg9; have HB9 := Aside0.mk hb9; have HG9 := Aside0.mk hg9; clear hb9 hg9))
    have z0 := (zaa HB9.out 0).trans rfl
    have z1 := (zaa HB9.out 1).trans rfl
    have z2 := (zaa HB9.out 2).trans rfl
    have z3 := (zaa HB9.out 3).trans rfl
    have z4 := (zaa HB9.out 4).trans rfl
    have z5 := (zaa HB9.out 5).trans rfl
    have z6 := (zaa HB9.out 6).trans rfl
    have z7 := (zaa HB9.out 7).trans rfl
    have z8 := (zaa HB9.out 8).trans rfl
    have z9 := (zaa HB9.out 9).trans rfl
    have z10 := (zaa HB9.out 10).trans rfl
    have z11 := (zaa HB9.out 11).trans rfl
    have z12 := (zaa HB9.out 12).trans rfl
    have z13 := (zaa HB9.out 13).trans rfl
    refine bodyPost_ret (v := .tuple #[logV ⟨(numR (xs, 0)).1, (byteR 3 (numR (xs, 0)).2).1, zeroCmd, (many numR (byteR 3 (numR (xs, 0)).2).2).1⟩ none 0 A1 c1, .int .i64 (0)]) (by simp [results, Try.results15, go_sem, z0, z1, z2, z3, z4, z5, z6, z7, z8, z9, z10, z11, z12, z13, zeroCmd, zeroLog, numR]) rfl ?_
    rw [HG.out]
    exact ⟨none, 0, A1, c1, rfl, Kd.zdf _ _ _ _ _, Kd.zbh (Kd.zeo (Kd.zco (Kd.zfx HO3.out HL3.out (by decide) 13 (.slice A1 (many numR (byteR 3 (numR (xs, 0)).2).2).1.length c1)) (zbi HR3.out (p := ⟨w2.heap.size, 13, none⟩) (by have := HZ2.out; show w.heap.size ≠ w2.heap.size; omega) _) (by decide)) HG9.out (fun k hk he => hk.2 (by injection he))) (fun _ _ => trivial), ((H3.out.far (b := w2.heap.size) (j := 13) (by have := HZ2.out; omega) (by have := HZ2.out; omega) (.slice A1 (many numR (byteR 3 (numR (xs, 0)).2).2).1.length c1)).below).grown HG9.out ((H3.out.far (b := w2.heap.size) (j := 13) (by have := HZ2.out; omega) (by have := HZ2.out; omega) (.slice A1 (many numR (byteR 3 (numR (xs, 0)).2).2).1.length c1)).below).size (fun k hk => by injection hk with hk; omega)⟩
  · have HG := Aside0.mk (show getLog xs = (zeroLog, doneE (many numR (byteR 3 (numR (xs, 0)).2).2).2) by rw [getLog, HLR.out, if_neg he])
    have e1 : (doneE (many numR (byteR 3 (numR (xs, 0)).2).2).2 == 0) = false := beq_eq_false_iff_ne.2 he
    have e2 : (doneE (many numR (byteR 3 (numR (xs, 0)).2).2).2 != 0) = true := by simp [he]
    clear he
    go_enter Try.func15, Try.ntmps15
    go_wp2_with (first
      | (go_at_call 38; (with_reducible refine (zby w _ _ (xs, 0) (RSt.begin (zad (Below.refl w.heap.size w) (.cells #[.int .i64 0, .int .i64 0, .int .i64 0, .string ⟨#[]⟩, .string ⟨#[]⟩, .string ⟨#[]⟩, .string ⟨#[]⟩, .string ⟨#[]⟩, .string ⟨#[]⟩, .slice none 0 0, .int .i64 0, .int .i64 0, .int .i64 0, .slice none 0 0] 38)) HC.out HL.out (by simp)) HS.out).mono ?_); rintro e w1 ⟨rfl, h1, hk1⟩; have HR1 := Aside0.mk (RSt.other (RSt.begin (zad (Below.refl w.heap.size w) (.cells #[.int .i64 0, .int .i64 0, .int .i64 0, .string ⟨#[]⟩, .string ⟨#[]⟩, .string ⟨#[]⟩, .string ⟨#[]⟩, .string ⟨#[]⟩, .string ⟨#[]⟩, .slice none 0 0, .int .i64 0, .int .i64 0, .int .i64 0, .slice none 0 0] 38)) HC.out HL.out (by simp)) hk1 (zaf (zbt w (.cells #[.int .i64 0, .int .i64 0, .int .i64 0, .string ⟨#[]⟩, .string ⟨#[]⟩, .string ⟨#[]⟩, .string ⟨#[]⟩, .string ⟨#[]⟩, .string ⟨#[]⟩, .slice none 0 0, .int .i64 0, .int .i64 0, .int .i64 0, .slice none 0 0] 38)) _) (by decide)); have H1 := Aside0.mk (show RSt w w1 _ (numR (xs, 0)).2 from h1); have hz1 := hk1.1; have HZ1 := Aside0.mk (show w.heap.size + 1 < w1.heap.size by simp at hz1; omega); clear h1 hk1 hz1)
      | (go_at_call 39; (with_reducible refine (zex w w1 _ (numR (xs, 0)).2 3 H1.out (zcw (xs, 0) HS.out)).mono ?_); rintro e w2 ⟨rfl, h2, hk2⟩; have HR2 := Aside0.mk (H1.out.other hk2 HR1.out (by decide)); have H2 := Aside0.mk h2; have HZ2 := Aside0.mk (Nat.lt_of_lt_of_le HZ1.out hk2.1); clear h2 hk2)
      | (go_at_call 40; (with_reducible refine (manyInt_any w _ _ (byteR 3 (numR (xs, 0)).2).2 (H2.out.alloc (.cells #[.int .i64 (wrap64 (raw (xs, 0)).1), .int .i64 ((byteR 3 (numR (xs, 0)).2).1), .int .i64 0, .string ⟨#[]⟩, .string ⟨#[]⟩, .string ⟨#[]⟩, .string ⟨#[]⟩, .string ⟨#[]⟩, .string ⟨#[]⟩, .slice none 0 0, .int .i64 0, .int .i64 0, .int .i64 0, .slice none 0 0] 38)) (zhw 3 _ (zcw (xs, 0) HS.out)) (Nat.le_trans (zhe 3 _) (Nat.le_trans (zgw (xs, 0)) HB.out))).mono ?_); rintro e w3 ⟨v3, rfl, ho3, h3, hk3⟩; obtain ⟨A1, c1, e3⟩ := Kd.zbu ho3; subst e3; have HR3 := Aside0.mk (RSt.other (H2.out.alloc (.cells #[.int .i64 (wrap64 (raw (xs, 0)).1), .int .i64 ((byteR 3 (numR (xs, 0)).2).1), .int .i64 0, .string ⟨#[]⟩, .string ⟨#[]⟩, .string ⟨#[]⟩, .string ⟨#[]⟩, .string ⟨#[]⟩, .string ⟨#[]⟩, .slice none 0 0, .int .i64 0, .int .i64 0, .int .i64 0, .slice none 0 0] 38)) hk3 (zaf HR2.out _) (by decide)); have hl3 := RSt.other (H2.out.alloc (.cells #[.int .i64 (wrap64 (raw (xs, 0)).1), .int .i64 ((byteR 3 (numR (xs, 0)).2).1), .int .i64 0, .string ⟨#[]⟩, .string ⟨#[]⟩, .string ⟨#[]⟩, .string ⟨#[]⟩, .string ⟨#[]⟩, .string ⟨#[]⟩, .slice none 0 0, .int .i64 0, .int .i64 0, .int .i64 0, .slice none 0 0] 38)) hk3 (zbt w2 (.cells #[.int .i64 (wrap64 (raw (xs, 0)).1), .int .i64 ((byteR 3 (numR (xs, 0)).2).1), .int .i64 0, .string ⟨#[]⟩, .string ⟨#[]⟩, .string ⟨#[]⟩, .string ⟨#[]⟩, .string ⟨#[]⟩, .string ⟨#[]⟩, .slice none 0 0, .int .i64 0, .int .i64 0, .int .i64 0, .slice none 0 0] 38)) (by decide); have HL3 := Aside0.mk hl3; have H3 := Aside0.mk h3; have HO3 := Aside0.mk ho3; have f13 := zab hl3 13; have y0 := (zaa hl3 0).trans rfl; have y1 := (zaa hl3 1).trans rfl; have y2 := (zaa hl3 2).trans rfl; have y3 := (zaa hl3 3).trans rfl; have y4 := (zaa hl3 4).trans rfl; have y5 := (zaa hl3 5).trans rfl; have y6 := (zaa hl3 6).trans rfl; have y7 := (zaa hl3 7).trans rfl; have y8 := (zaa hl3 8).trans rfl; have y9 := (zaa hl3 9).trans rfl; have y10 := (zaa hl3 10).trans rfl; have y11 := (zaa hl3 11).trans rfl; have y12 := (zaa hl3 12).trans rfl; have y13 := (zaa hl3 13).trans rfl; clear h3 hk3 ho3 hl3)
      | (go_at_call 34; (with_reducible refine (zff w _ _ (many numR (byteR 3 (numR (xs, 0)).2).2).2 (H3.out.far (b := w2.heap.size) (j := 13) (by have := HZ2.out; omega) (by have := HZ2.out; omega) (.slice A1 (many numR (byteR 3 (numR (xs, 0)).2).2).1.length c1))).mono ?_); rintro e wd ⟨rfl, rfl⟩)
      | ((with_reducible refine zbw (t := 38) (p := 2) rfl ?_); go_must (refine Ca.zbq (g := w.heap.size) (e := 38) (old := #[.int .i64 0, .int .i64 0, .int .i64 0, .string ⟨#[]⟩, .string ⟨#[]⟩, .string ⟨#[]⟩, .string ⟨#[]⟩, .string ⟨#[]⟩, .string ⟨#[]⟩, .slice none 0 0, .int .i64 0, .int .i64 0, .int .i64 0, .slice none 0 0]) rfl rfl 38 (.tmp 2) (.tmp 34) rfl rfl rfl ?hb rfl info38 ?h1b ?_); go_must (case hb => exact zbi HR3.out (p := ⟨w2.heap.size, 13, none⟩) (by have := HZ2.out; show w.heap.size ≠ w2.heap.size; omega) _); go_must (case h1b => intro q hq; simp at hq; rcases hq with rfl | rfl | rfl | rfl | rfl | rfl | rfl | rfl | rfl | rfl | rfl | rfl | rfl | rfl <;> rfl); intro w9 hb9 hg9; have HB9 := Aside0.mk hb9; have HG9 := Aside0.mk hg9; clear hb9 hg9))
    have z0 := (zaa HB9.out 0).trans rfl
    have z1 := (zaa HB9.out 1).trans rfl
    have z2 := (zaa HB9.out 2).trans rfl
    have z3 := (zaa HB9.out 3).trans rfl
    have z4 := (zaa HB9.out 4).trans rfl
    have z5 := (zaa HB9.out 5).trans rfl
    have z6 := (zaa HB9.out 6).trans rfl
    have z7 := (zaa HB9.out 7).trans rfl
    have z8 := (zaa HB9.out 8).trans rfl
    have z9 := (zaa HB9.out 9).trans rfl
    have z10 := (zaa HB9.out 10).trans rfl
    have z11 := (zaa HB9.out 11).trans rfl
    have z12 := (zaa HB9.out 12).trans rfl
    have z13 := (zaa HB9.out 13).trans rfl
    refine bodyPost_ret (v := .tuple #[logV zeroLog none 0 none 0, .int .i64 (doneE (many numR (byteR 3 (numR (xs, 0)).2).2).2)]) (by simp [results, Try.results15, go_sem, z0, z1, z2, z3, z4, z5, z6, z7, z8, z9, z10, z11, z12, z13, zeroCmd, zeroLog, numR]) rfl ?_
    rw [HG.out]
    exact ⟨none, 0, none, 0, rfl, Kd.zdf _ _ _ _ _, Kd.zdf _ _ _ _ _, ((H3.out.far (b := w2.heap.size) (j := 13) (by have := HZ2.out; omega) (by have := HZ2.out; omega) (.slice A1 (many numR (byteR 3 (numR (xs, 0)).2).2).1.length c1)).below).grown HG9.out ((H3.out.far (b := w2.heap.size) (j := 13) (by have := HZ2.out; omega) (by have := HZ2.out; omega) (.slice A1 (many numR (byteR 3 (numR (xs, 0)).2).2).1.length c1)).below).size (fun k hk => by injection hk with hk; omega)⟩
set_option maxHeartbeats 3200000 in
set_option maxRecDepth 100000 in
theorem GetLog_other (xs : List Int) (A : Option Addr) (c : Nat) (w : World) (hc : Kd.C (Kd.int .u8) w A xs.length xs) (hl : xs.length ≤ c) (hs : Bs xs) (hb : xs.length ≤ 1099511627776) (hk1 : ¬ (byteR 3 (numR (xs, 0)).2).1 = 1) (hk2 : ¬ (byteR 3 (numR (xs, 0)).2).1 = 2) :
    Calls Try.prog 15 #[.slice A xs.length c] w (GetLogOut w (getLog xs)) := by
  have HC := Aside0.mk hc
  have HL := Aside0.mk hl
  have HS := Aside0.mk hs
  have HB := Aside0.mk hb
  have hbd := zhx 3 _ (zcw (xs, 0) hs)
  clear hc hl hs hb
  have HLR := Aside0.mk (show logR (xs, 0) = (⟨(numR (xs, 0)).1, (byteR 3 (numR (xs, 0)).2).1, zeroCmd, []⟩, (byteR 3 (numR (xs, 0)).2).2) by simp [logR, hk1, hk2])
  have k1 : ((byteR 3 (numR (xs, 0)).2).1 == 1) = false := beq_eq_false_iff_ne.2 hk1
  have k2 : ((byteR 3 (numR (xs, 0)).2).1 == 2) = false := beq_eq_false_iff_ne.2 hk2
  clear hk1 hk2
  by_cases he : doneE (byteR 3 (numR (xs, 0)).2).2 = 0
  · have HG := Aside0.mk (show getLog xs = (⟨(numR (xs, 0)).1, (byteR 3 (numR (xs, 0)).2).1, zeroCmd, []⟩, 0) by rw [getLog, HLR.out, if_pos he])
    have e1 : (doneE (byteR 3 (numR (xs, 0)).2).2 == 0) = true := beq_iff_eq.2 he
    have e2 : (doneE (byteR 3 (numR (xs, 0)).2).2 != 0) = false := by simp [he]
    clear he
    go_enter Try.func15, Try.ntmps15
    go_wp2_with (first
      | (go_at_call 38; (with_reducible refine (zby w _ _ (xs, 0) (RSt.begin (zad (Below.refl w.heap.size w) (.cells #[.int .i64 0, .int .i64 0, .int .i64 0, .string ⟨#[]⟩, .string ⟨#[]⟩, .string ⟨#[]⟩, .string ⟨#[]⟩, .string ⟨#[]⟩, .string ⟨#[]⟩, .slice none 0 0, .int .i64 0, .int .i64 0, .int .i64 0, .slice none 0 0] 38)) HC.out HL.out (by simp)) HS.out).mono ?_); rintro e w1 ⟨rfl, h1, hk1⟩; have HR1 := Aside0.mk (RSt.other (RSt.begin (zad (Below.refl w.heap.size w) (.cells #[.int .i64 0, .int .i64 0, .int .i64 0, .string ⟨#[]⟩, .string ⟨#[]⟩, .string ⟨#[]⟩, .string ⟨#[]⟩, .string ⟨#[]⟩, .string ⟨#[]⟩, .slice none 0 0, .int .i64 0, .int .i64 0, .int .i64 0, .slice none 0 0] 38)) HC.out HL.out (by simp)) hk1 (zaf (zbt w (.cells #[.int .i64 0, .int .i64 0, .int .i64 0, .string ⟨#[]⟩, .string ⟨#[]⟩, .string ⟨#[]⟩, .string ⟨#[]⟩, .string ⟨#[]⟩, .string ⟨#[]⟩, .slice none 0 0, .int .i64 0, .int .i64 0, .int .i64 0, .slice none 0 0] 38)) _) (by decide)); have H1 := Aside0.mk (show RSt w w1 _ (numR (xs, 0)).2 from h1); have hz1 := hk1.1; have HZ1 := Aside0.mk (show w.heap.size + 1 < w1.heap.size by simp at hz1; omega); clear h1 hk1 hz1)
      | (go_at_call 39; (with_reducible refine (zex w w1 _ (numR (xs, 0)).2 3 H1.out (zcw (xs, 0) HS.out)).mono ?_); rintro e w2 ⟨rfl, h2, hk2⟩; have HR2 := Aside0.mk (H1.out.other hk2 HR1.out (by decide)); have H2 := Aside0.mk h2; have HZ2 := Aside0.mk (Nat.lt_of_lt_of_le HZ1.out hk2.1); clear h2 hk2)
      | (go_at_call 34; (with_reducible refine (zff w _ _ (byteR 3 (numR (xs, 0)).2).2 (H2.out.alloc (.cells #[.int .i64 (wrap64 (raw (xs, 0)).1), .int .i64 ((byteR 3 (numR (xs, 0)).2).1), .int .i64 0, .string ⟨#[]⟩, .string ⟨#[]⟩, .string ⟨#[]⟩, .string ⟨#[]⟩, .string ⟨#[]⟩, .string ⟨#[]⟩, .slice none 0 0, .int .i64 0, .int .i64 0, .int .i64 0, .slice none 0 0] 38))).mono ?_); rintro e wd ⟨rfl, rfl⟩)
      | ((with_reducible refine zbw (t := 38) (p := 2) rfl ?_); go_must (refine Ca.zbq (g := w.heap.size) (e := 38) (old := #[.int .i64 0, .int .i64 0, .int .i64 0, .string ⟨#[]⟩, .string ⟨#[]⟩, .string ⟨#[]⟩, .string ⟨#[]⟩, .string ⟨#[]⟩, .string ⟨#[]⟩, .slice none 0 0, .int .i64 0, .int .i64 0, .int .i64 0, .slice none 0 0]) rfl rfl 38 (.tmp 2) (.tmp 36) rfl rfl rfl ?hb rfl info38 ?h1b ?_); go_must (case hb => exact zaf HR2.out _); go_must (case h1b => intro q hq; simp at hq; rcases hq with rfl | rfl | rfl | rfl | rfl | rfl | rfl | rfl | rfl | rfl | rfl | rfl | rfl | rfl <;> rfl); intro w9 hb9 hg9; have HB9 := Aside0.mk hb9; have HG9 := Aside0.mk hg9; clear hb9 hg9))
    have z0 := (zaa HB9.out 0).trans rfl
    have z1 := (zaa HB9.out 1).trans rfl
    have z2 := (zaa HB9.out 2).trans rfl
    have z3 := (zaa HB9.out 3).trans rfl
    have z4 := (zaa HB9.out 4).trans rfl
    have z5 := (zaa HB9.out 5).trans rfl
    have z6 := (zaa HB9.out 6).trans rfl
    have z7 := (zaa HB9.out 7).trans rfl
    have z8 := (zaa HB9.out 8).trans rfl
    have z9 := (zaa HB9.out 9).trans rfl
    have z10 := (zaa HB9.out 10).trans rfl
    have z11 := (zaa HB9.out 11).trans rfl
    have z12 := (zaa HB9.out 12).trans rfl
    have z13 := (zaa HB9.out 13).trans rfl
    refine bodyPost_ret (v := .tuple #[logV ⟨(numR (xs, 0)).1, (byteR 3 (numR (xs, 0)).2).1, zeroCmd, []⟩ none 0 none 0, .int .i64 (0)]) (by simp [results, Try.results15, go_sem, z0, z1, z2, z3, z4, z5, z6, z7, z8, z9, z10, z11, z12, z13, zeroCmd, zeroLog, numR]) rfl ?_
    rw [HG.out]
    exact ⟨none, 0, none, 0, rfl, Kd.zdf _ _ _ _ _, Kd.zdf _ _ _ _ _, ((H2.out.alloc (.cells #[.int .i64 (wrap64 (raw (xs, 0)).1), .int .i64 ((byteR 3 (numR (xs, 0)).2).1), .int .i64 0, .string ⟨#[]⟩, .string ⟨#[]⟩, .string ⟨#[]⟩, .string ⟨#[]⟩, .string ⟨#[]⟩, .string ⟨#[]⟩, .slice none 0 0, .int .i64 0, .int .i64 0, .int .i64 0, .slice none 0 0] 38)).below).grown HG9.out ((H2.out.alloc (.cells #[.int .i64 (wrap64 (raw (xs, 0)).1), .int .i64 ((byteR 3 (numR (xs, 0)).2).1), .int .i64 0, .string ⟨#[]⟩, .string ⟨#[]⟩, .string ⟨#[]⟩, .string ⟨#[]⟩, .string ⟨#[]⟩, .string ⟨#[]⟩, .slice none 0 0, .int .i64 0, .int .i64 0, .int .i64 0, .slice none 0 0] 38)).below).size (fun k hk => by injection hk with hk; omega)⟩
  · have HG := Aside0.mk (show getLog xs = (zeroLog, doneE (byteR 3 (numR (xs, 0)).2).2) by rw [getLog, HLR.out, if_neg he])
    have e1 : (doneE (byteR 3 (numR (xs, 0)).2).2 == 0) = false := beq_eq_false_iff_ne.2 he
    have e2 : (doneE (byteR 3 (numR (xs, 0)).2).2 != 0) = true := by simp [he]
    clear he
    go_enter Try.func15, Try.ntmps15
    go_wp2_with (first
      | (go_at_call 38; (with_reducible refine (zby w _ _ (xs, 0) (RSt.begin (zad (Below.refl w.heap.size w) (.cells #[.int .i64 0, .int .i64 0, .int .i64 0, .string ⟨#[]⟩, .string ⟨#[]⟩, .string ⟨#[]⟩, .string ⟨#[]⟩, .string ⟨#[]⟩, .string ⟨#[]⟩, .slice none 0 0, .int .i64 0, .int .i64 0, .int .i64 0, .slice none 0 0] 38)) HC.out HL.out (by simp)) HS.out).mono ?_); rintro e w1 ⟨rfl, h1, hk1⟩; have HR1 := Aside0.mk (RSt.other (RSt.begin (zad (Below.refl w.heap.size w) (.cells #[.int .i64 0, .int .i64 0, .int .i64 0, .string ⟨#[]⟩, .string ⟨#[]⟩, .string ⟨#[]⟩, .string ⟨#[]⟩, .string ⟨#[]⟩, .string ⟨#[]⟩, .slice none 0 0, .int .i64 0, .int .i64 0, .int .i64 0, .slice none 0 0] 38)) HC.out HL.out (by simp)) hk1 (zaf (zbt w (.cells #[.int .i64 0, .int .i64 0, .int .i64 0, .string ⟨#[]⟩, .string ⟨#[]⟩, .string ⟨#[]⟩, .string ⟨#[]⟩, .string ⟨#[]⟩, .string ⟨#[]⟩, .slice none 0 0, .int .i64 0, .int .i64 0, .int .i64 0, .slice none 0 0] 38)) _) (by decide)); have H1 := Aside0.mk (show RSt w w1 _ (numR (xs, 0)).2 from h1); have hz1 := hk1.1; have HZ1 := Aside0.mk (show w.heap.size + 1 < w1.heap.size by simp at hz1; omega); clear h1 hk1 hz1)
      | (go_at_call 39; (with_reducible refine (zex w w1 _ (numR (xs, 0)).2 3 H1.out (zcw (xs, 0) HS.out)).mono ?_); rintro e w2 ⟨rfl, h2, hk2⟩; have HR2 := Aside0.mk (H1.out.other hk2 HR1.out (by decide)); have H2 := Aside0.mk h2; have HZ2 := Aside0.mk (Nat.lt_of_lt_of_le HZ1.out hk2.1); clear h2 hk2)
      | (go_at_call 34; (with_reducible refine (zff w _ _ (byteR 3 (numR (xs, 0)).2).2 (H2.out.alloc (.cells #[.int .i64 (wrap64 (raw (xs, 0)).1), .int .i64 ((byteR 3 (numR (xs, 0)).2).1), .int .i64 0, .string ⟨#[]⟩, .string ⟨#[]⟩, .string ⟨#[]⟩, .string ⟨#[]⟩, .string ⟨#[]⟩, .string ⟨#[]⟩, .slice none 0 0, .int .i64 0, .int .i64 0, .int .i64 0, .slice none 0 0] 38))).mono ?_); rintro e wd ⟨rfl, rfl⟩)
      | ((with_reducible refine zbw (t := 38) (p := 2) rfl ?_); go_must (refine Ca.zbq (g := w.heap.size) (e := 38) (old := #[.int .i64 0, .int .i64 0, .int .i64 0, .string ⟨#[]⟩, .string ⟨#[]⟩, .string ⟨#[]⟩, .string ⟨#[]⟩, .string ⟨#[]⟩, .string ⟨#[]⟩, .slice none 0 0, .int .i64 0, .int .i64 0, .int .i64 0, .slice none 0 0]) rfl rfl 38 (.tmp 2) (.tmp 34) rfl rfl rfl ?hb rfl info38 ?h1b ?_); go_must (case hb => exact zaf HR2.out _); go_must (case h1b => intro q hq; simp at hq; rcases hq with rfl | rfl | rfl | rfl | rfl | rfl | rfl | rfl | rfl | rfl | rfl | rfl | rfl | rfl <;> rfl); intro w9 hb9 hg9; have HB9 := Aside0.mk hb9; have HG9 := Aside0.mk hg9; clear hb9 hg9))
    have z0 := (zaa HB9.out 0).trans rfl
    have z1 := (zaa HB9.out 1).trans rfl
    have z2 := (zaa HB9.out 2).trans rfl
    have z3 := (zaa HB9.out 3).trans rfl
    have z4 := (zaa HB9.out 4).trans rfl
    have z5 := (zaa HB9.out 5).trans rfl
    have z6 := (zaa HB9.out 6).trans rfl
    have z7 := (zaa HB9.out 7).trans rfl
    have z8 := (zaa HB9.out 8).trans rfl
    have z9 := (zaa HB9.out 9).trans rfl
    have z10 := (zaa HB9.out 10).trans rfl
    have z11 := (zaa HB9.out 11).trans rfl
    have z12 := (zaa HB9.out 12).trans rfl
    have z13 := (zaa HB9.out 13).trans rfl
    refine bodyPost_ret (v := .tuple #[logV zeroLog none 0 none 0, .int .i64 (doneE (byteR 3 (numR (xs, 0)).2).2)]) (by simp [results, Try.results15, go_sem, z0, z1, z2, z3, z4, z5, z6, z7, z8, z9, z10, z11, z12, z13, zeroCmd, zeroLog, numR]) rfl ?_
    rw [HG.out]
    exact ⟨none, 0, none, 0, rfl, Kd.zdf _ _ _ _ _, Kd.zdf _ _ _ _ _, ((H2.out.alloc (.cells #[.int .i64 (wrap64 (raw (xs, 0)).1), .int .i64 ((byteR 3 (numR (xs, 0)).2).1), .int .i64 0, .string ⟨#[]⟩, .string ⟨#[]⟩, .string ⟨#[]⟩, .string ⟨#[]⟩, .string ⟨#[]⟩, .string ⟨#[]⟩, .slice none 0 0, .int .i64 0, .int .i64 0, .int .i64 0, .slice none 0 0] 38)).below).grown HG9.out ((H2.out.alloc (.cells #[.int .i64 (wrap64 (raw (xs, 0)).1), .int .i64 ((byteR 3 (numR (xs, 0)).2).1), .int .i64 0, .string ⟨#[]⟩, .string ⟨#[]⟩, .string ⟨#[]⟩, .string ⟨#[]⟩, .string ⟨#[]⟩, .string ⟨#[]⟩, .slice none 0 0, .int .i64 0, .int .i64 0, .int .i64 0, .slice none 0 0] 38)).below).size (fun k hk => by injection hk with hk; omega)⟩
/-- GetLog, of all bytes that are not too many. -/
theorem zgp (xs : List Int) (A : Option Addr) (c : Nat) (w : World) (hc : Kd.C (Kd.int .u8) w A xs.length xs) (hl : xs.length ≤ c) (hs : Bs xs) (hb : xs.length ≤ 1099511627776) :
    Calls Try.prog 15 #[.slice A xs.length c] w (GetLogOut w (getLog xs)) := by
  by_cases h1 : (byteR 3 (numR (xs, 0)).2).1 = 1
  · exact GetLog_one xs A c w hc hl hs hb h1
  · by_cases h2 : (byteR 3 (numR (xs, 0)).2).1 = 2
    · exact GetLog_two xs A c w hc hl hs hb h2
    · exact GetLog_other xs A c w hc hl hs hb h1 h2
end Go.Proofs.Ytjhcbggpbfejgaa.Cr
