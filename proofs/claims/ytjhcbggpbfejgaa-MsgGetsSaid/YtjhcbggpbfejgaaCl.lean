/- The walks of codec's PutLog: the entries that are written. -/
import Derived.Test.YtjhcbggpbfejgaaCn
import Derived.Deep.RegionWith
import Derived.Deep.RegionLaw
namespace Go.Proofs.Ytjhcbggpbfejgaa.Cw
open Go.RowKit Go.Proofs.zjt.zjq Go.Proofs.zjt.zjr Go.Proofs.zjt.zjs
open Go.Proofs.Ytjhcbggpbfejgaa.Cp
set_option linter.unusedVariables false
set_option linter.unusedSimpArgs false
set_option maxHeartbeats 1600000 in
set_option maxRecDepth 100000 in
/-- Kind 0. -/
theorem PutLog_none (term : Int) (cmd : Cmd) (A : Option Addr) (cap : Nat) (A2 : Option Addr) (cap2 : Nat) (w : World) (hc : noneB cmd = true) (hl : (enc cmd).length < 140737488355328) :
    Calls Try.prog 14 #[logV ⟨term, 0, cmd, []⟩ A cap A2 cap2] w (LogOut w ⟨term, 0, cmd, []⟩) := by
  have HL := Aside0.mk hl
  have HP := Aside0.mk (show putLog ⟨term, 0, cmd, []⟩ = some (be8 term ++ [0]) by simp [putLog, hc])
  have HC := Aside0.mk hc
  clear hl hc
  unfold logV
  go_enter Try.func14, Try.ntmps14
  go_wp2_with (first
    | (go_at_call 35; (with_reducible refine (zht cmd A cap _ ?hl).mono ?_); (case hl => exact HL.out); rintro e w1 ⟨rfl, hb1⟩; rw [HC.out]; have hb1' := (zbn (zbt w _) hb1); have c13 := (zaa hb1' 13).trans rfl; have c1 := (zaa hb1' 1).trans rfl; have c0 := fun o => (zaa (zaf hb1' o) 0).trans rfl; have HX1 := Aside0.mk hb1'; have HB1 := Aside0.mk (bthen (zad (Below.refl _ _) _) hb1); clear hb1 hb1')
    | (go_at_call 36; (with_reducible refine (zby w _ _ (fun _ => False) _ [] _ (WSt.begin HB1.out) (by simp)).mono ?_); rintro e w2 ⟨rfl, h2⟩; have hx2 := h2.other (WSt.begin HB1.out) (fun k hk => hk.elim) (zaf HX1.out _) (by decide) (by decide); have HX2 := Aside0.mk hx2; have d1 := (zaa hx2 1).trans rfl; have d1A := fun o => (zaa (zaf hx2 o) 1).trans rfl; clear hx2; obtain ⟨hb, hk, hg, v, hc, ho⟩ := h2; obtain ⟨A3, m3, k3, e3⟩ := zcp ho; subst e3; have HB := Aside0.mk hb; have HK := Aside0.mk hk; have HG := Aside0.mk hg; have HC2 := Aside0.mk hc; have HO := Aside0.mk ho; have hcell := (zaa hc 0).trans rfl; have hcellA := fun o => (zaa (zaf hc o) 0).trans rfl; clear hb hk hg hc ho))
  go_region_law (first
    | (refine Ca.zgf (w0 := w) w2 w.heap.size (by rfl) (.tmp 45) (.tmp 49) 27 5 (by rfl) Try.underlying27 info5 (.slice A3 m3 k3) (be8 term) 0 (fun k => False ∨ (w1.alloc (.cells #[.slice none 0 0] 80)).heap.size ≤ k) (by rfl) (by rfl) (fun k hk => .inr (Nat.le_trans HK.out.1 hk)) HO.out HB.out (zaz HB.out) (by simp [zbo]) ?_; intro v4 w4 ho4 hb4 hg4; obtain ⟨A5, m5, k5, e5⟩ := zcp ho4; subst e5; have hc4 := zbm HC2.out hg4 (Kd.R_ne HO.out HC2.out (by decide)); have HC4 := Aside0.mk hc4; have hcell4 := (zaa hc4 0).trans rfl; have hfz4 := zab hc4 0; have hx4 := zbm HX2.out hg4 (Kd.R_ne HO.out HX2.out (by decide)); have HX4 := Aside0.mk hx4; have x4 := fun v => (zaa (zbi hx4 (p := ⟨w1.heap.size, 0, none⟩) (by have := zdp HX1.out; show w.heap.size ≠ w1.heap.size; omega) v) 1).trans rfl; have HO4 := Aside0.mk ho4; have HB4 := Aside0.mk hb4; have HG4 := Aside0.mk hg4; clear hc4 ho4 hb4 hg4 hx4))
  all_goals go_wp2
  all_goals go_ret2
  all_goals (refine LogOut.good HP.out (Kd.zfx (Kd.zbh HO4.out (fun _ _ => trivial)) HC4.out (by decide) 0 _) (zah HB4.out HG.out))
set_option maxHeartbeats 1600000 in
set_option maxRecDepth 100000 in
/-- Kind 1. -/
theorem PutLog_one (term : Int) (cmd : Cmd) (A : Option Addr) (cap : Nat) (A2 : Option Addr) (cap2 : Nat) (w : World) (hn : Kd.C Kd.string w A cmd.names.length cmd.names) (hl : (enc cmd).length + 9 < 140737488355328) :
    Calls Try.prog 14 #[logV ⟨term, 1, cmd, []⟩ A cap A2 cap2] w (LogOut w ⟨term, 1, cmd, []⟩) := by
  have HL := Aside0.mk hl
  have HP := Aside0.mk (show putLog ⟨term, 1, cmd, []⟩ = some (be8 term ++ [1] ++ enc cmd) by simp [putLog])
  have HN := Aside0.mk hn
  have HX1 := Aside0.mk (zbt w (.cells #[.int .i64 term, .int .i64 1, .int .i64 cmd.op, .string cmd.book, .string cmd.name, .string cmd.data, .string cmd.mat, .string cmd.non, .string cmd.token, .slice A cmd.names.length cap, .int .i64 cmd.at_, .int .i64 cmd.session, .int .i64 cmd.seq, .slice A2 0 cap2] 38))
  have HB1 := Aside0.mk (zad (Below.refl w.heap.size w) (.cells #[.int .i64 term, .int .i64 1, .int .i64 cmd.op, .string cmd.book, .string cmd.name, .string cmd.data, .string cmd.mat, .string cmd.non, .string cmd.token, .slice A cmd.names.length cap, .int .i64 cmd.at_, .int .i64 cmd.session, .int .i64 cmd.seq, .slice A2 0 cap2] 38))
  clear hl hn
  unfold logV
  go_enter Try.func14, Try.ntmps14
  go_wp2_with (first
    | (go_at_call 36; (with_reducible refine (zby w _ _ (fun _ => False) _ [] _ (WSt.beginAt HB1.out (by simp)) (by simp)).mono ?_); rintro e w2 ⟨rfl, h2⟩; have hx2 := h2.other (WSt.beginAt HB1.out (by simp)) (fun k hk => hk.elim) (zaf HX1.out _) (by decide) (by decide); have HX2 := Aside0.mk hx2; have d1 := (zaa hx2 1).trans rfl; have d1A := fun o => (zaa (zaf hx2 o) 1).trans rfl; clear hx2; obtain ⟨hb, hk, hg, v, hc, ho⟩ := h2; obtain ⟨A3, m3, k3, e3⟩ := zcp ho; subst e3; have HB := Aside0.mk hb; have HK := Aside0.mk hk; have HG := Aside0.mk hg; have HC2 := Aside0.mk hc; have HO := Aside0.mk ho; have hcell := (zaa hc 0).trans rfl; have hcellA := fun o => (zaa (zaf hc o) 0).trans rfl; clear hb hk hg hc ho))
  go_region_law (first
    | (refine Ca.zgf (w0 := w) w2 w.heap.size (by rfl) (.tmp 45) (.tmp 49) 27 5 (by rfl) Try.underlying27 info5 (.slice A3 m3 k3) (be8 term) 1 (fun k => False ∨ ((w.alloc (.cells #[.int .i64 term, .int .i64 1, .int .i64 cmd.op, .string cmd.book, .string cmd.name, .string cmd.data, .string cmd.mat, .string cmd.non, .string cmd.token, .slice A cmd.names.length cap, .int .i64 cmd.at_, .int .i64 cmd.session, .int .i64 cmd.seq, .slice A2 0 cap2] 38)).alloc (.cells #[.slice none 0 0] 80)).heap.size ≤ k) (by rfl) (by rfl) (fun k hk => .inr (Nat.le_trans HK.out.1 hk)) HO.out HB.out (zaz HB.out) (by simp [zbo]) ?_; intro v4 w4 ho4 hb4 hg4; obtain ⟨A5, m5, k5, e5⟩ := zcp ho4; subst e5; have hc4 := zbm HC2.out hg4 (Kd.R_ne HO.out HC2.out (by decide)); have HC4 := Aside0.mk hc4; have hcell4 := (zaa hc4 0).trans rfl; have hfz4 := zab hc4 0; have hx4 := zbm HX2.out hg4 (Kd.R_ne HO.out HX2.out (by decide)); have HX4 := Aside0.mk hx4; have hxs := fun v => zbi hx4 (p := ⟨w.heap.size + 1, 0, none⟩) (by show w.heap.size ≠ w.heap.size + 1; omega) v; have x21 := fun v => (zaa (hxs v) 1).trans rfl; have x22 := fun v => (zaa (hxs v) 2).trans rfl; have x23 := fun v => (zaa (hxs v) 3).trans rfl; have x24 := fun v => (zaa (hxs v) 4).trans rfl; have x25 := fun v => (zaa (hxs v) 5).trans rfl; have x26 := fun v => (zaa (hxs v) 6).trans rfl; have x27 := fun v => (zaa (hxs v) 7).trans rfl; have x28 := fun v => (zaa (hxs v) 8).trans rfl; have x29 := fun v => (zaa (hxs v) 9).trans rfl; have x30 := fun v => (zaa (hxs v) 10).trans rfl; have x31 := fun v => (zaa (hxs v) 11).trans rfl; have x32 := fun v => (zaa (hxs v) 12).trans rfl; clear hxs; have HO4 := Aside0.mk ho4; have HB4 := Aside0.mk hb4; have HG4 := Aside0.mk hg4; clear hc4 ho4 hb4 hg4 hx4))
  all_goals (have h5 := WSt.put HK.out HG.out HC2.out HO.out HO4.out HB4.out HG4.out)
  all_goals (have H5 := Aside0.mk h5; clear h5)
  all_goals go_wp2_with (go_at_call 32; (with_reducible refine (zef w _ _ _ _ _ cmd A cap H5.out ?hn ?bd).mono ?_); (case hn => exact fun W' ys h => Kd.zci HN.out h.below); (case bd => have := HL.out; simp [zbo]; omega); rintro e w6 ⟨rfl, h6⟩; obtain ⟨hb, hk, hg, v, hc, ho⟩ := h6; obtain ⟨A7, m7, k7, e7⟩ := zcp ho; subst e7; have HB6 := Aside0.mk hb; have HO6 := Aside0.mk ho; have hcell6 := (zaa hc 0).trans rfl; clear hb hk hg hc ho)
  all_goals go_ret2
  all_goals (refine LogOut.good HP.out (Kd.zbh HO6.out (fun _ _ => trivial)) HB6.out)
set_option maxHeartbeats 1600000 in
set_option maxRecDepth 100000 in
/-- Kind 2. -/
theorem PutLog_two (term : Int) (cmd : Cmd) (nodes : List Int) (A : Option Addr) (cap : Nat) (A2 : Option Addr) (cap2 : Nat) (w : World) (hc : noneB cmd = true) (hl : (enc cmd).length < 140737488355328) (hn : Kd.C (Kd.int .i64) w A2 nodes.length nodes) (hl2 : (nums8 nodes).length + 17 < 140737488355328) :
    Calls Try.prog 14 #[logV ⟨term, 2, cmd, nodes⟩ A cap A2 cap2] w (LogOut w ⟨term, 2, cmd, nodes⟩) := by
  have HL := Aside0.mk hl
  have HP := Aside0.mk (show putLog ⟨term, 2, cmd, nodes⟩ = some (be8 term ++ [2] ++ (be8 (nodes.length : Int) ++ nums8 nodes)) by simp [putLog, hc])
  have HC := Aside0.mk hc
  have HN := Aside0.mk hn
  have HL2 := Aside0.mk hl2
  clear hl hc hn hl2
  unfold logV
  go_enter Try.func14, Try.ntmps14
  go_wp2_with (first
    | (go_at_call 35; (with_reducible refine (zht cmd A cap _ ?hl).mono ?_); (case hl => exact HL.out); rintro e w1 ⟨rfl, hb1⟩; rw [HC.out]; have hb1' := (zbn (zbt w _) hb1); have c13 := (zaa hb1' 13).trans rfl; have c1 := (zaa hb1' 1).trans rfl; have c0 := fun o => (zaa (zaf hb1' o) 0).trans rfl; have HX1 := Aside0.mk hb1'; have HB1 := Aside0.mk (bthen (zad (Below.refl _ _) _) hb1); clear hb1 hb1')
    | (go_at_call 36; (with_reducible refine (zby w _ _ (fun _ => False) _ [] _ (WSt.begin HB1.out) (by simp)).mono ?_); rintro e w2 ⟨rfl, h2⟩; have hx2 := h2.other (WSt.begin HB1.out) (fun k hk => hk.elim) (zaf HX1.out _) (by decide) (by decide); have HX2 := Aside0.mk hx2; have d1 := (zaa hx2 1).trans rfl; have d1A := fun o => (zaa (zaf hx2 o) 1).trans rfl; clear hx2; obtain ⟨hb, hk, hg, v, hc, ho⟩ := h2; obtain ⟨A3, m3, k3, e3⟩ := zcp ho; subst e3; have HB := Aside0.mk hb; have HK := Aside0.mk hk; have HG := Aside0.mk hg; have HC2 := Aside0.mk hc; have HO := Aside0.mk ho; have hcell := (zaa hc 0).trans rfl; have hcellA := fun o => (zaa (zaf hc o) 0).trans rfl; clear hb hk hg hc ho))
  go_region_law (first
    | (refine Ca.zgf (w0 := w) w2 w.heap.size (by rfl) (.tmp 45) (.tmp 49) 27 5 (by rfl) Try.underlying27 info5 (.slice A3 m3 k3) (be8 term) 2 (fun k => False ∨ (w1.alloc (.cells #[.slice none 0 0] 80)).heap.size ≤ k) (by rfl) (by rfl) (fun k hk => .inr (Nat.le_trans HK.out.1 hk)) HO.out HB.out (zaz HB.out) (by simp [zbo]) ?_; intro v4 w4 ho4 hb4 hg4; obtain ⟨A5, m5, k5, e5⟩ := zcp ho4; subst e5; have hc4 := zbm HC2.out hg4 (Kd.R_ne HO.out HC2.out (by decide)); have HC4 := Aside0.mk hc4; have hcell4 := (zaa hc4 0).trans rfl; have hfz4 := zab hc4 0; have hx4 := zbm HX2.out hg4 (Kd.R_ne HO.out HX2.out (by decide)); have HX4 := Aside0.mk hx4; have hxs := fun v => zbi hx4 (p := ⟨w1.heap.size, 0, none⟩) (by have := zdp HX1.out; show w.heap.size ≠ w1.heap.size; omega) v; have x21 := fun v => (zaa (hxs v) 1).trans rfl; have x33 := fun v => (zaa (hxs v) 13).trans rfl; clear hxs; have HO4 := Aside0.mk ho4; have HB4 := Aside0.mk hb4; have HG4 := Aside0.mk hg4; clear hc4 ho4 hb4 hg4 hx4))
  all_goals (have h5 := WSt.put HK.out HG.out HC2.out HO.out HO4.out HB4.out HG4.out)
  all_goals (have H5 := Aside0.mk h5; clear h5)
  all_goals go_wp2_with (go_at_call 37; (with_reducible refine (listInt_any w _ _ _ _ _ A2 cap2 nodes H5.out ?hn ?bd).mono ?_); (case hn => exact fun W' ys h => Kd.zci HN.out h.below); (case bd => have := HL2.out; simp [zbo]; omega); rintro e w6 ⟨rfl, h6⟩; obtain ⟨hb, hk, hg, v, hc, ho⟩ := h6; obtain ⟨A7, m7, k7, e7⟩ := zcp ho; subst e7; have HB6 := Aside0.mk hb; have HO6 := Aside0.mk ho; have hcell6 := (zaa hc 0).trans rfl; clear hb hk hg hc ho)
  all_goals go_ret2
  all_goals (refine LogOut.good HP.out (Kd.zbh (by rw [← List.append_assoc]; exact HO6.out) (fun _ _ => trivial)) HB6.out)
/-- PutLog, of every entry that is not too great. -/
theorem zgo (l : Log) (A : Option Addr) (cap : Nat) (A2 : Option Addr) (cap2 : Nat) (w : World) (hn : Kd.C Kd.string w A l.cmd.names.length l.cmd.names) (hm : Kd.C (Kd.int .i64) w A2 l.nodes.length l.nodes)
    (hl : (enc l.cmd).length + (nums8 l.nodes).length + 17 < 140737488355328) : Calls Try.prog 14 #[logV l A cap A2 cap2] w (LogOut w l) := by
  obtain ⟨term, k, cmd, nodes⟩ := l
  by_cases h1 : k < 0 ∨ 2 < k
  · exact PutLog_low _ A cap A2 cap2 w h1
  · have h3 : k = 0 ∨ k = 1 ∨ k = 2 := by omega
    dsimp only at hn hm hl
    by_cases hz : 0 < nodes.length
    · rcases h3 with rfl | rfl | rfl
      · cases hc : noneB cmd
        · exact zgn term cmd nodes A cap A2 cap2 w 0 (.inl rfl) hc (by omega)
        · exact PutLog_nodes term cmd nodes A cap A2 cap2 w 0 (.inl ⟨rfl, hc⟩) hz (by omega)
      · exact PutLog_nodes term cmd nodes A cap A2 cap2 w 1 (.inr rfl) hz (by omega)
      · cases hc : noneB cmd
        · exact zgn term cmd nodes A cap A2 cap2 w 2 (.inr rfl) hc (by omega)
        · exact PutLog_two term cmd nodes A cap A2 cap2 w hc (by omega) hm (by omega)
    · obtain rfl : nodes = [] := List.eq_nil_of_length_eq_zero (by omega)
      rcases h3 with rfl | rfl | rfl
      · cases hc : noneB cmd
        · exact zgn term cmd [] A cap A2 cap2 w 0 (.inl rfl) hc (by omega)
        · exact PutLog_none term cmd A cap A2 cap2 w hc (by omega)
      · exact PutLog_one term cmd A cap A2 cap2 w hn (by omega)
      · cases hc : noneB cmd
        · exact zgn term cmd [] A cap A2 cap2 w 2 (.inr rfl) hc (by omega)
        · exact PutLog_two term cmd [] A cap A2 cap2 w hc (by omega) hm (by omega)
end Go.Proofs.Ytjhcbggpbfejgaa.Cw
