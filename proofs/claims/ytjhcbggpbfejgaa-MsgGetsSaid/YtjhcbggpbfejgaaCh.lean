/- The walks of codec's reader: lists and commands. -/
import Derived.Test.YtjhcbggpbfejgaaCg
import Derived.Deep.QuietTactic
import Derived.Deep.RegionWith
import Derived.Deep.RegionLaw
namespace Go.Proofs.Ytjhcbggpbfejgaa.Cr
open Go.Proofs.Ytjhcbggpbfejgaa.Cw
open Go.RowKit Go.Proofs.zjt.zjq Go.Proofs.zjt.zjr Go.Proofs.zjt.zjs
open Go.Proofs.Ytjhcbggpbfejgaa.Cp
set_option linter.unusedVariables false
set_option linter.unusedSimpArgs false
theorem zja {w : World} {A : Option Addr} {n : Nat} {xs : List Int} (h : Kd.C (Kd.int .u8) w A n xs) (hn : 0 < n) : ∃ ad, A = some ad ∧ w.cell? ad = some (.int .u8 (rd xs 0)) := by
  obtain ⟨ad, e, hc⟩ := Kd.zfg h 0 (by omega) (by omega)
  refine ⟨ad, e, ?_⟩
  have ea : ad.add (0 : Int).toNat = ad := by simp [Addr.add]
  rwa [ea] at hc
set_option maxHeartbeats 800000 in
set_option maxRecDepth 100000 in
theorem fail_any (w0 W : World) (g : Nat) (s : St) (e1 : Int) (h : RSt w0 W g s) :
    Calls Try.prog 68 #[.pointer (some ⟨g, 0, none⟩), .int .i64 e1] W fun e w' => e = .returned (.tuple #[]) ∧ RSt w0 w' g (failS s e1) ∧ KeepBut W w' g none := by
  obtain ⟨A, c, c0, c1, f1, hm⟩ := h.parts
  have H := Aside0.mk h
  clear h
  obtain ⟨xs, bad⟩ := s
  dsimp only at c0 c1 hm
  by_cases b1 : bad = 0
  · have E := Aside0.mk (show failS (xs, bad) e1 = (xs, e1) by simp [failS, b1])
    have d1 : (bad == 0) = true := beq_iff_eq.2 b1
    have d2 : (bad != 0) = false := by simp [b1]
    clear b1
    go_enter Try.func68, Try.ntmps68
    go_wp2
    go_end0
    exact ⟨rfl, by rw [E.out]; exact H.out.fault e1, KeepBut.set_ (KeepBut.refl _ _ _) _ _⟩
  · have E := Aside0.mk (show failS (xs, bad) e1 = (xs, bad) by simp [failS, b1])
    have d1 : (bad == 0) = false := beq_eq_false_iff_ne.2 b1
    have d2 : (bad != 0) = true := by simp [b1]
    clear b1
    go_enter Try.func68, Try.ntmps68
    go_wp2
    go_end0
    exact ⟨rfl, by rw [E.out]; exact H.out, KeepBut.refl _ _ _⟩
set_option maxHeartbeats 800000 in
set_option maxRecDepth 100000 in
theorem zex (w0 W : World) (g : Nat) (s : St) (m : Int) (h : RSt w0 W g s) (hs : Bs s.1) :
    Calls Try.prog 39 #[.pointer (some ⟨g, 0, none⟩), .int .u8 m] W fun e w' => e = .returned (.int .u8 (byteR m s).1) ∧ RSt w0 w' g (byteR m s).2 ∧ KeepBut W w' g none := by
  have H := Aside0.mk h
  have HT := Aside0.mk (take_len s 1 (by omega))
  have HS := Aside0.mk hs
  clear h hs
  by_cases hz : (take s 1).1.length = 0
  · have E := Aside0.mk (show byteR m s = (0, (take s 1).2) by rw [byteR, if_pos hz])
    have z1 : (((take s 1).1.length : Int) == 0) = true := beq_iff_eq.2 (by omega)
    have z2 : ((take s 1).1.length == 0) = true := beq_iff_eq.2 hz
    clear hz
    go_enter Try.func39, Try.ntmps39
    go_wp2_with (go_at_call 67; (with_reducible refine (zeb w0 _ g s 1 H.out (by omega)).mono ?_); rintro e w1 ⟨⟨A, c, rfl, hc, hl⟩, h1, hk⟩; have H1 := Aside0.mk h1; have HK := Aside0.mk hk; clear hc h1 hk)
    go_ret
    rw [E.out]
    exact ⟨rfl, H1.out, HK.out⟩
  · have z1 : (((take s 1).1.length : Int) == 0) = false := beq_eq_false_iff_ne.2 (by omega)
    have z2 : ((take s 1).1.length == 0) = false := beq_eq_false_iff_ne.2 hz
    have hpos : 0 < (take s 1).1.length := by omega
    have hposI : (0 : Int) < ((take s 1).1.length : Int) := by omega
    by_cases hm : m ≤ rd (take s 1).1 0
    · have E := Aside0.mk (show byteR m s = (rd (take s 1).1 0, failS (take s 1).2 31) by rw [byteR, if_neg hz, if_pos hm])
      clear hz
      go_enter Try.func39, Try.ntmps39
      go_wp2_with (first
        | (go_at_call 67; (with_reducible refine (zeb w0 _ g s 1 H.out (by omega)).mono ?_); rintro e w1 ⟨⟨A, c, rfl, hc, hl⟩, h1, hk⟩; obtain ⟨ad, ea, hcell⟩ := zja (Kd.zci hc h1.below) hpos; cases ea; have H1 := Aside0.mk h1; have HK := Aside0.mk hk; have HC := Aside0.mk hc; clear hc h1 hk)
        | (go_at_call 68; (with_reducible refine (fail_any w0 _ g (take s 1).2 31 H1.out).mono ?_); rintro e w2 ⟨rfl, h2, hk2⟩; obtain ⟨ad', ea', hcell2⟩ := zja (Kd.zci HC.out h2.below) hpos; cases ea'; have H2 := Aside0.mk h2; have HK2 := Aside0.mk (HK.out.trans hk2 (.inl rfl)); clear h2 hk2))
      go_ret
      rw [E.out]
      exact ⟨rfl, H2.out, HK2.out⟩
    · have E := Aside0.mk (show byteR m s = (rd (take s 1).1 0, (take s 1).2) by rw [byteR, if_neg hz, if_neg hm])
      clear hz
      go_enter Try.func39, Try.ntmps39
      go_wp2_with (go_at_call 67; (with_reducible refine (zeb w0 _ g s 1 H.out (by omega)).mono ?_); rintro e w1 ⟨⟨A, c, rfl, hc, hl⟩, h1, hk⟩; obtain ⟨ad, ea, hcell⟩ := zja (Kd.zci hc h1.below) hpos; cases ea; have H1 := Aside0.mk h1; have HK := Aside0.mk hk; clear hc h1 hk)
      go_ret
      rw [E.out]
      exact ⟨rfl, H1.out, HK.out⟩
end Go.Proofs.Ytjhcbggpbfejgaa.Cr
