/- The walks of codec's reader: lists and commands. -/
import Derived.Test.YtjhcbggpbfejgaaCf
import Derived.Test.YtjhcbggpbfejgaaCq
import Derived.Deep.QuietTactic
import Derived.Deep.RegionWith
import Derived.Deep.RegionLaw
namespace Go.Proofs.Ytjhcbggpbfejgaa.Cr
open Go.Proofs.Ytjhcbggpbfejgaa.Cw
open Go.RowKit Go.Proofs.YtjhcbggpbfejgaaW.PrintWords Go.Proofs.YtjhcbggpbfejgaaW.PrintLast Go.Proofs.YtjhcbggpbfejgaaW.PrintMore
open Go.Proofs.Ytjhcbggpbfejgaa.Cp
set_option linter.unusedVariables false
set_option linter.unusedSimpArgs false







theorem emptyRow {w0 w : World} {base : Nat} (hB : Below base w0 w) (hs : base ≤ w.heap.size) (o : Obj) : Kd.R (Kd.int .u8) 5 ((w.alloc o).alloc (.cells #[] 5)) base (fun _ => True) (.slice (some ⟨w.heap.size + 1, 0, none⟩) 0 0) [] := by
  have h := World.ownsRow_made (base := base) (e := 5) (size := 1) (w.alloc o) #[] 0 (by simp; omega) (by simp [maxLen]) rfl
  have e : (w.alloc o).heap.size = w.heap.size + 1 := by simp
  rw [e] at h
  exact Kd.R_of_own (h1 := fun _ => rfl) h (fun _ _ => trivial)
abbrev cmdK (c : Cmd) (A : Option Addr) (cap : Nat) : Array Value := #[.int .i64 c.op, .string c.book, .string c.name, .string c.data, .string c.mat, .string c.non, .string c.token, .slice A c.names.length cap, .int .i64 c.at_, .int .i64 c.session, .int .i64 c.seq]

set_option maxHeartbeats 3200000 in
set_option maxRecDepth 100000 in
theorem cuts_any (c : Cmd) (A : Option Addr) (cap : Nat) (x : Int) (w : World) (hn : Kd.C Kd.string w A c.names.length c.names) (hok : c.Ok) (hl : (enc c).length < 1000000000) :
    Calls Try.prog 3 #[cmdV c A cap, .int .i64 x] w fun e w' => e = .returned (.bool true) ∧ Below w.heap.size w w' := by
  have HN := Aside0.mk hn
  have HOK := Aside0.mk hok
  have HL := Aside0.mk hl
  have HX := Aside0.mk (blk_new w (.cells (cmdK c A cap) 25))
  clear hn hok hl
  by_cases c300 : 300 < c.names.length
  · have d1 : decide (300 < c.names.length) = true := decide_eq_true c300
    have d2 : decide ((300 : Int) < (c.names.length : Int)) = true := decide_eq_true (by omega)
    clear c300
    go_enter Try.func3, Try.ntmps3
    go_wp2_with (go_at_call 11; go_must (refine (first_any _).mono ?_); rintro e w1 ⟨rfl, hb1⟩; have hx1 := blk_below HX.out hb1; have c7 := (blk_cell hx1 7).trans rfl; have HB1 := Aside0.mk (bthen (below_alloc (Below.refl _ _) _) hb1); clear hb1 hx1)
    go_ret
    exact ⟨rfl, HB1.out⟩
  · have d1 : decide (300 < c.names.length) = false := decide_eq_false c300
    have d2 : decide ((300 : Int) < (c.names.length : Int)) = false := decide_eq_false (by omega)
    clear c300
    obtain ⟨xs, hxs⟩ : ∃ xs, enc c = xs := ⟨_, rfl⟩
    have hpos : 0 < xs.length := by rw [← hxs, enc_len]; omega
    have hlx : xs.length < 1000000000 := by rw [← hxs]; exact HL.out
    have HXS := Aside0.mk hxs
    clear hxs
    obtain ⟨k, hk, hkx⟩ : ∃ k : Nat, wrap64 ((IntKind.u64.wrap x).tmod (xs.length : Int)) = (k : Int) ∧ k < xs.length := by
      have h0 : 0 ≤ IntKind.u64.wrap x := by simp [IntKind.wrap, IntKind.signed, IntKind.bits]; omega
      have h1 : (IntKind.u64.wrap x).tmod (xs.length : Int) = (IntKind.u64.wrap x) % (xs.length : Int) := by rw [Int.tmod_eq_emod_of_nonneg h0]
      have h2 := Int.emod_nonneg (IntKind.u64.wrap x) (show (xs.length : Int) ≠ 0 by omega)
      have h3 := Int.emod_lt_of_pos (IntKind.u64.wrap x) (show 0 < (xs.length : Int) by omega)
      rw [h1]
      generalize IntKind.u64.wrap x % (xs.length : Int) = y at *
      exact ⟨y.toNat, by unfold wrap64; omega, by omega⟩
    have HCUT := Aside0.mk (show (getCommand (xs.take k)).2 = 150 by rw [← HXS.out]; exact getCommand_cut c HOK.out (by have := HL.out; omega) k (by rw [HXS.out]; exact hkx))
    obtain ⟨ys, hys⟩ : ∃ ys, be8 0 ++ [1] ++ enc c = ys := ⟨_, rfl⟩
    have HPUT := Aside0.mk (show putLog ⟨0, 1, c, []⟩ = some ys by rw [← hys]; rfl)
    have hly : ys.length = xs.length + 9 := by rw [← hys, HXS.out, List.length_append]; simp [be8_len]; omega
    have HLCUT := Aside0.mk (show (getLog (ys.take (ys.length - 1))).2 = 150 by rw [← hys]; exact getLog_cut 0 (by constructor <;> decide) c HOK.out (by have := HL.out; omega) _ (by rw [hys]; omega))
    have HBY := Aside0.mk (show Bs ys by rw [← hys]; exact Bs.putLog (l := ⟨0, 1, c, []⟩) rfl)
    have hy1 : 9 < ys.length := by omega
    have hy2 : ys.length < 1000001000 := by omega
    clear hys hly
    have HMORE := Aside0.mk (show (getCommand (xs ++ [x % 256])).2 = 151 by rw [← HXS.out]; exact getCommand_more c HOK.out (by have := HL.out; omega) _)
    go_enter Try.func3, Try.ntmps3
    go_wp2_with (first
      | (go_at_call 11; go_must (refine (first_any _).mono ?_); rintro e w1 ⟨rfl, hb1⟩; have hx1 := blk_below HX.out hb1; have c0 := (blk_cell hx1 0).trans rfl; have c1 := (blk_cell hx1 1).trans rfl; have c2 := (blk_cell hx1 2).trans rfl; have c3 := (blk_cell hx1 3).trans rfl; have c4 := (blk_cell hx1 4).trans rfl; have c5 := (blk_cell hx1 5).trans rfl; have c6 := (blk_cell hx1 6).trans rfl; have c7 := (blk_cell hx1 7).trans rfl; have c8 := (blk_cell hx1 8).trans rfl; have c9 := (blk_cell hx1 9).trans rfl; have c10 := (blk_cell hx1 10).trans rfl; have HX1 := Aside0.mk hx1; have HB1 := Aside0.mk (bthen (below_alloc (Below.refl _ _) _) hb1); clear hb1 hx1)
      | (go_at_call 12; go_must (refine (PutCommand_any c A cap _ ?hn ?hl).mono ?_); (case hn => exact Kd.C_below HN.out HB1.out); (case hl => have := HL.out; omega); rintro e w2 ⟨v2, rfl, ho2, hb2⟩; rw [HXS.out] at ho2; obtain ⟨A2, k2, rfl, hc2, hr2⟩ := R_read ho2; have HR2 := Aside0.mk hr2; have HC2 := Aside0.mk hc2; have HB2 := Aside0.mk (bthen HB1.out hb2); have HX2 := Aside0.mk (blk_below HX1.out hb2); clear ho2 hb2 hr2)
      | (go_at_call 13; refine calls_of_args (args' := #[.slice A2 (xs.take k).length k2]) ?ca1 ?_; (case ca1 => (rw [List.length_take, Nat.min_eq_left (by omega)]; done)); (with_reducible refine (GetCommand_any (xs.take k) A2 k2 w2 (Kd.C_take HR2.out (by omega)) (by rw [List.length_take]; omega) ((HXS.out ▸ Bs.enc c : Bs xs).take k) (by rw [List.length_take]; omega)).mono ?_); rintro e w3 ⟨A3, k3, rfl, ho3, hb3⟩; clear ho3; rw [HCUT.out]; have HR3 := Aside0.mk (Kd.C_below HR2.out hb3); have HB3 := Aside0.mk (bthen HB2.out hb3); have HX3 := Aside0.mk (blk_below HX2.out hb3); clear hb3)
      | ((with_reducible refine gate_builtin (b := .append) (xs := #[.tmp 38, .tmp 39]) rfl ?_); at_builtin; go_must (refine Kd.R_append_row (Value.int .u8) 0 (h1 := fun _ => rfl) (w0 := w) w.heap.size rfl (.tmp 38) (.tmp 39) 27 5 (.int .u8 0) 1 rfl Try.underlying27 info5 rfl (by omega) (.slice (some ⟨w3.heap.size + 1, 0, none⟩) 0 0) [] xs A2 xs.length k2 (fun _ => True) rfl rfl (fun _ _ => trivial) ?aO ?aR ?aB ?aS ?aL ?_); go_must (case aO => exact emptyRow HB3.out HB3.out.size _); go_must (case aR => exact Kd.C_below HR3.out (below_alloc (below_alloc (Below.refl _ _) _) _)); go_must (case aB => exact below_alloc (below_alloc HB3.out _) _); go_must (case aS => exact (below_alloc (below_alloc HB3.out _) _).size); go_must (case aL => simp; omega); intro v4 w4 ho4 hb4 hg4 _; have HO4 := Aside0.mk ho4; have HB4 := Aside0.mk hb4; have HX4 := Aside0.mk (blk_grown (blk_alloc (blk_alloc HX3.out _) _) hg4 (by simp [Value.ownBlock]; have := blk_lt HX3.out; omega)); clear ho4 hb4 hg4)
      | ((with_reducible refine gate_builtin (b := .append) (xs := #[.tmp 40, .tmp 43]) rfl ?_); at_builtin; go_must (refine Kd.R_append (Kd.int .u8) (w0 := w) w.heap.size rfl (.tmp 40) (.tmp 43) 27 5 (.int .u8 0) 1 rfl Try.underlying27 info5 rfl (by decide) (by omega) v4 ([] ++ xs) (x % 256) [.int .u8 (x % 256)] (fun _ => True) (fun _ => False) rfl rfl rfl (fun _ hk => hk.elim) ?bF ?bO ?bB ?bS ?bL ?_); go_must (case bF => exact fun _ _ => trivial); go_must (case bO => exact HO4.out); go_must (case bB => exact HB4.out); go_must (case bS => exact HB4.out.size); go_must (case bL => simp; omega); intro v5 w5 ho5 hb5 hg5 _; obtain ⟨A5, k5, rfl, hc5, hr5⟩ := R_read ho5; have HR5 := Aside0.mk hr5; have HC5 := Aside0.mk hc5; have HB5 := Aside0.mk hb5; have HX5 := Aside0.mk (blk_grown HX4.out hg5 (Kd.R_ne HO4.out HX4.out (by decide))); clear ho5 hb5 hg5 hr5 hc5)
      | (go_at_call 13; go_must (refine calls_of_args (args' := #[.slice A5 (xs ++ [x % 256]).length k5]) (by simp) ?_); go_must (refine (GetCommand_any (xs ++ [x % 256]) A5 k5 w5 (by simpa using HR5.out) (by simpa using HC5.out) ((HXS.out ▸ Bs.enc c : Bs xs).append (fun y hy => by simp at hy; omega)) (by simp; omega)).mono ?_); rintro e w6 ⟨A6, k6, rfl, ho6, hb6⟩; clear ho6; rw [HMORE.out]; have HB6 := Aside0.mk (bthen HB5.out hb6); have HX6 := Aside0.mk (blk_below HX5.out hb6); have d0 := fun o => (blk_cell (blk_alloc HX6.out o) 0).trans rfl; have d1 := fun o => (blk_cell (blk_alloc HX6.out o) 1).trans rfl; have d2 := fun o => (blk_cell (blk_alloc HX6.out o) 2).trans rfl; have d3 := fun o => (blk_cell (blk_alloc HX6.out o) 3).trans rfl; have d4 := fun o => (blk_cell (blk_alloc HX6.out o) 4).trans rfl; have d5 := fun o => (blk_cell (blk_alloc HX6.out o) 5).trans rfl; have d6 := fun o => (blk_cell (blk_alloc HX6.out o) 6).trans rfl; have d7 := fun o => (blk_cell (blk_alloc HX6.out o) 7).trans rfl; have d8 := fun o => (blk_cell (blk_alloc HX6.out o) 8).trans rfl; have d9 := fun o => (blk_cell (blk_alloc HX6.out o) 9).trans rfl; have d10 := fun o => (blk_cell (blk_alloc HX6.out o) 10).trans rfl; clear hb6)
      | (go_at_call 14; go_must (refine calls_of_args (args' := #[logV ⟨0, 1, c, []⟩ A cap none 0]) rfl ?_); go_must (refine (PutLog_any ⟨0, 1, c, []⟩ A cap none 0 _ ?hn2 (Kd.C_nil _ _) ?hl2).mono ?_); go_must (case hn2 => exact Kd.C_below HN.out (below_alloc HB6.out _)); go_must (case hl2 => have := HL.out; simp [nums8]; omega); rintro e w7 ⟨v7, rfl, ho7, hb7⟩; rw [HPUT.out] at ho7 ⊢; simp only [Option.getD_some, Option.isSome_some, if_true] at ho7 ⊢; obtain ⟨A7, k7, rfl, hc7, hr7⟩ := R_read ho7; have HR7 := Aside0.mk hr7; have HB7 := Aside0.mk (bthen (below_alloc HB6.out _) hb7); clear ho7 hb7 hr7)
      | (go_at_call 15; go_must (refine calls_of_args (args' := #[.slice A7 (ys.take (ys.length - 1)).length k7]) ?ca3 ?_); go_must (case ca3 => rw [List.length_take, Nat.min_eq_left (by omega)]); go_must (refine (GetLog_any (ys.take (ys.length - 1)) A7 k7 w7 (Kd.C_take HR7.out (by omega)) (by rw [List.length_take]; omega) (HBY.out.take _) (by rw [List.length_take]; omega)).mono ?_); rintro e w8 ⟨A8, k8, A9, k9, rfl, ho8, ho9, hb8⟩; clear ho8 ho9; rw [HLCUT.out]; have HB8 := Aside0.mk (bthen HB7.out hb8); clear hb8))
    go_ret
    exact ⟨rfl, below_alloc HB8.out _⟩
end Go.Proofs.Ytjhcbggpbfejgaa.Cr
