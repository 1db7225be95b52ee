/- The walks of codec's reader. -/
import Derived.Test.YtjhcbggpbfejgaaCw
import Derived.Deep.QuietTactic
import Derived.Deep.RegionWith
import Derived.Deep.RegionLaw
namespace Go.Proofs.Ytjhcbggpbfejgaa.Cr
open Go.Proofs.Ytjhcbggpbfejgaa.Cw
open Go.RowKit Go.Proofs.zjt.zjq Go.Proofs.zjt.zjr Go.Proofs.zjt.zjs
open Go.Proofs.Ytjhcbggpbfejgaa.Cp
set_option linter.unusedVariables false
set_option linter.unusedSimpArgs false
/-- A reader at block g of W: what is left, the fault; the bytes lay there in w0. -/
def RSt (w0 W : World) (g : Nat) (s : St) : Prop := ∃ A c, W.heap[g]? = some (.cells #[.slice A s.1.length c, .int .i64 s.2] 84 (0, 0)) ∧ w0.heap.size ≤ g ∧ Kd.C (Kd.int .u8) w0 A s.1.length s.1 ∧ s.1.length ≤ c ∧ Below w0.heap.size w0 W
/-- What take leaves. -/
def TakeOut (w0 W : World) (g : Nat) (r : List Int × St) (e : Ending) (w' : World) : Prop :=
  (∃ A c, e = .returned (.slice A r.1.length c) ∧ Kd.C (Kd.int .u8) w0 A r.1.length r.1 ∧ r.1.length ≤ c) ∧ RSt w0 w' g r.2 ∧ KeepBut W w' g none
theorem RSt.fault {w0 W : World} {g : Nat} {s : St} (h : RSt w0 W g s) (e : Int) : RSt w0 (W.setCell ⟨g, 1, none⟩ (.int .i64 e)) g (s.1, e) := by
  obtain ⟨A, c, hb, hg, hc, hl, hB⟩ := h
  exact ⟨A, c, by simpa using zdb hb 1 (.int .i64 e), hg, hc, hl, zah hB hg⟩
theorem TakeOut.fail {w0 W : World} {g : Nat} {s : St} {n : Int} (h : RSt w0 W g s) (hf : s.2 = 150 ∨ (s.1.length : Int) < n) : TakeOut w0 W g (take s n) (.returned (.slice none 0 0)) (W.setCell ⟨g, 1, none⟩ (.int .i64 150)) := by
  rw [take, if_pos hf]
  exact ⟨⟨none, 0, rfl, Kd.zig _ _, Nat.le_refl _⟩, h.fault 150, KeepBut.set_ (KeepBut.refl _ _ _) _ _⟩
theorem TakeOut.ok {w0 W : World} {g : Nat} {s : St} {n : Int} {A A2 : Option Addr} {c : Nat} (h : RSt w0 W g s) (hb : W.heap[g]? = some (.cells #[.slice A s.1.length c, .int .i64 s.2] 84 (0, 0))) (hc : Kd.C (Kd.int .u8) w0 A s.1.length s.1) (hl : s.1.length ≤ c)
    (h0 : 0 ≤ n) (hf : ¬ (s.2 = 150 ∨ (s.1.length : Int) < n)) (hA : A2 = if c = n.toNat then A else A.map (·.add n.toNat)) {m k c1 : Nat} (hc1 : c1 = c) (hm : m = s.1.length - n.toNat) (hk : k = c - n.toNat) :
    TakeOut w0 W g (take s n) (.returned (.slice A n.toNat c1)) (W.setCell ⟨g, 0, none⟩ (.slice A2 m k)) := by
  subst hk hc1
  obtain ⟨_, _, _, hg, _, _, hB⟩ := h
  have hle : n.toNat ≤ s.1.length := by omega
  rw [take, if_neg hf]
  refine ⟨⟨A, c1, ?_, Kd.zjn hc hle, ?_⟩, ⟨A2, c1 - n.toNat, ?_, hg, ?_, ?_, zah hB hg⟩, KeepBut.set_ (KeepBut.refl _ _ _) _ _⟩
  · simp only [List.length_take]; rw [Nat.min_eq_left hle]
  · simp only [List.length_take]; omega
  · have := zdb hb 0 (.slice A2 m (c1 - n.toNat))
    simpa [hm] using this
  · rw [hA]
    have := Kd.zjo (c := c1) hc hle hl
    simpa [Kd.int, Kd.scalar] using this
  · simp only [List.length_drop]; omega
set_option maxHeartbeats 800000 in
set_option maxRecDepth 100000 in
theorem zeb (w0 W : World) (g : Nat) (s : St) (n : Int) (h : RSt w0 W g s) (h0 : 0 ≤ n) :
    Calls Try.prog 67 #[.pointer (some ⟨g, 0, none⟩), .int .u64 n] W (TakeOut w0 W g (take s n)) := by
  have HR := Aside0.mk h
  obtain ⟨xs, bad⟩ := s
  obtain ⟨A, c, hb, hg, hc, hl, hB⟩ := h
  dsimp only at hb hc hl
  have HB := Aside0.mk hb
  have HG := Aside0.mk hg
  have HC := Aside0.mk hc
  have HL := Aside0.mk hl
  have HW := Aside0.mk hB
  have c0 := (zaa hb 0).trans rfl
  have c1 := (zaa hb 1).trans rfl
  have f0 := zab hb 0
  have f1 := zab hb 1
  have hm := hc.2.1
  clear hb hg hc hB
  by_cases b1 : bad = 150
  · have e1 : (bad == 150) = true := beq_iff_eq.2 b1
    subst b1
    go_enter Try.func67, Try.ntmps67
    go_wp2
    go_ret
    exact TakeOut.fail HR.out (.inl rfl)
  · have e1 : (bad == 150) = false := beq_eq_false_iff_ne.2 b1
    by_cases b2 : (xs.length : Int) < n
    · go_enter Try.func67, Try.ntmps67
      go_wp2
      go_ret
      exact TakeOut.fail HR.out (.inr b2)
    · go_enter Try.func67, Try.ntmps67
      go_wp2
      all_goals go_ret
      all_goals refine TakeOut.ok HR.out HB.out HC.out HL.out h0 (by rintro (h | h); exact b1 h; simp only at h; omega) ?_ ?_ ?_ ?_
      all_goals first | omega | (simp [*]; done) | rfl
set_option maxHeartbeats 800000 in
set_option maxRecDepth 100000 in
theorem zee (w0 W : World) (g : Nat) (s : St) (h : RSt w0 W g s) (hs : Bs s.1) :
    Calls Try.prog 66 #[.pointer (some ⟨g, 0, none⟩)] W fun e w' => e = .returned (.int .u64 (raw s).1) ∧ RSt w0 w' g (raw s).2 ∧ KeepBut W w' g none := by
  have H := Aside0.mk h
  have hbs := zdl s 8 hs
  have hlen := take_len s 8 (by omega)
  have HBS := Aside0.mk hbs.1
  have HLEN := Aside0.mk hlen
  clear h hs hbs hlen
  go_enter Try.func66, Try.ntmps66
  go_wp2_with (go_at_call 67; (with_reducible refine (zeb w0 _ g s 8 H.out (by omega)).mono ?_); rintro e w1 ⟨⟨A, c, rfl, hc, hl⟩, h1, hk⟩; have HC := Aside0.mk hc; have H1 := Aside0.mk h1; have HK := Aside0.mk hk; clear hc h1 hk)
  obtain ⟨ys, hys⟩ : ∃ ys, (take s 8).1 = ys := ⟨_, rfl⟩
  rw [hys] at HC HBS HLEN
  rw [hys]
  have HB1 := Aside0.mk (show Below w0.heap.size w0 w1 from by obtain ⟨_, _, _, _, _, _, hB⟩ := H1.out; exact hB)
  go_loopw [3, 9] (fun v i wr => ∃ (x y : Int), i = .int .i64 x ∧ v = .int .u64 y ∧ Aside0 (0 ≤ x ∧ x ≤ ys.length) ∧ Aside0 (y = unum (ys.take x.toNat)) ∧ Aside0 (w1 = wr)) (fun _ i _ => ys.length - (intOf i).toNat)
  case atStart => exact ⟨0, 0, rfl, rfl, ⟨by omega⟩, ⟨rfl⟩, ⟨rfl⟩⟩
  case round =>
    obtain ⟨x, y, rfl, rfl, HX, HY, HW⟩ := hrel
    obtain rfl := HW.out
    clear HW
    obtain ⟨hx0, hx1⟩ := HX.out
    have hlb := HLEN.out
    by_cases cx : x < ys.length
    · have c0 : decide (0 ≤ x) = true := decide_eq_true hx0
      have c1 : decide (x < (ys.length : Int)) = true := decide_eq_true cx
      obtain ⟨ad, e, hcell⟩ := Kd.zfg (Kd.zci HC.out HB1.out) x hx0 cx
      cases e
      have hby := zii ys HBS.out (by omega) x.toNat (by omega)
      have HBY := Aside0.mk hby
      clear hby
      have HRX : 0 ≤ rd ys x ∧ rd ys x < 256 := by
        unfold rd
        rw [List.getD_eq_getElem?_getD, List.getElem?_eq_getElem (by omega)]
        exact HBS.out _ (by simp)
      go_wp2
      go_roundw
      case rel =>
        refine ⟨x + 1, _, rfl, rfl, ⟨by omega⟩, ⟨?_⟩, (by first | exact ⟨rfl⟩ | exact ⟨trivial⟩)⟩
        rw [zgz ys x hx0 cx, ← HY.out]
        have hby := HBY.out
        rw [← HY.out] at hby
        exact or_byte _ _ hby.1 hby.2 HRX.1 HRX.2
      case measure => simp [intOf]; omega
    · have c1 : decide (x < (ys.length : Int)) = false := decide_eq_false cx
      go_wp2
      go_ret
      refine ⟨?_, H1.out, HK.out⟩
      have h2 := HY.out
      rw [List.take_of_length_le (by omega)] at h2
      rw [raw, hys, ← h2]
      rfl
theorem RSt.below {w0 W : World} {g : Nat} {s : St} (h : RSt w0 W g s) : Below w0.heap.size w0 W := by
  obtain ⟨_, _, _, _, _, _, hB⟩ := h
  exact hB
set_option maxHeartbeats 800000 in
set_option maxRecDepth 100000 in
theorem zby (w0 W : World) (g : Nat) (s : St) (h : RSt w0 W g s) (hs : Bs s.1) :
    Calls Try.prog 38 #[.pointer (some ⟨g, 0, none⟩)] W fun e w' => e = .returned (.int .i64 (wrap64 (raw s).1)) ∧ RSt w0 w' g (raw s).2 ∧ KeepBut W w' g none := by
  have H := Aside0.mk h
  have HS := Aside0.mk hs
  have HR := Aside0.mk (zfb s hs)
  clear h hs
  go_enter Try.func38, Try.ntmps38
  go_wp2_with (go_at_call 66; (with_reducible refine (zee w0 _ g s H.out HS.out).mono ?_); rintro e w1 ⟨rfl, h1, hk⟩; have H1 := Aside0.mk h1; have HK := Aside0.mk hk; clear h1 hk)
  go_ret
  exact ⟨rfl, H1.out, HK.out⟩
set_option maxHeartbeats 800000 in
set_option maxRecDepth 100000 in
theorem zea (w0 W : World) (g : Nat) (s : St) (h : RSt w0 W g s) (hs : Bs s.1) :
    Calls Try.prog 41 #[.pointer (some ⟨g, 0, none⟩)] W fun e w' => e = .returned (.string (strOfNums (take (raw s).2 (raw s).1).1)) ∧ RSt w0 w' g (take (raw s).2 (raw s).1).2 ∧ KeepBut W w' g none := by
  have H := Aside0.mk h
  have HS := Aside0.mk hs
  have HR := Aside0.mk (zfb s hs).1
  clear h hs
  go_enter Try.func41, Try.ntmps41
  go_wp2_with (first
    | (go_at_call 66; (with_reducible refine (zee w0 _ g s H.out HS.out).mono ?_); rintro e w1 ⟨rfl, h1, hk⟩; have H1 := Aside0.mk h1; have HK := Aside0.mk hk; clear h1 hk)
    | (go_at_call 67; (with_reducible refine (zeb w0 _ g (raw s).2 (raw s).1 H1.out HR.out).mono ?_); rintro e w2 ⟨⟨A, c, rfl, hc, hl⟩, h2, hk⟩; have s2 := Kd.zgq (P := Try.prog) (src := 27) (dst := 9) (c := c) Try.underlying27 Try.underlying5 Try.underlying9 (Kd.zci hc h2.below); have H2 := Aside0.mk h2; have HK2 := Aside0.mk (HK.out.trans hk (.inl rfl)); clear h2 hk hc))
  go_ret
  exact ⟨rfl, H2.out, HK2.out⟩
end Go.Proofs.Ytjhcbggpbfejgaa.Cr
