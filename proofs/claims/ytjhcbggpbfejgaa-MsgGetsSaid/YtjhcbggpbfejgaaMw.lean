/- The walks of msg's writer: what each function appends to the bytes. -/
import Derived.Test.YtjhcbggpbfejgaaCw
import Derived.Deep.DeepMust
namespace Go.Proofs.Ytjhcbggpbfejgaa.Mw
open Go.RowKit Go.Proofs.zjt.zjq Go.Proofs.zjt.zjr Go.Proofs.zjt.zjs
open Go.Proofs.Ytjhcbggpbfejgaa.Cp
open Go.Proofs.Ytjhcbggpbfejgaa.Cw (info5 zcp)
set_option linter.unusedVariables false
set_option linter.unusedSimpArgs false
/-- A writer at block g of W that holds the bytes xs; since w nothing that was there has turned but g and what P tells. -/
structure WSt (w0 w : World) (g : Nat) (P : Nat → Prop) (W : World) (xs : List Int) : Prop where
  below : Below w0.heap.size w0 W
  kept : Kept w W (fun k => k = g ∨ P k)
  ge : w0.heap.size ≤ g
  here : ∃ v, W.heap[g]? = some (.cells #[v] 104 (0, 0)) ∧ Kd.R (Kd.int .u8) 5 W w0.heap.size (fun k => P k ∨ w.heap.size ≤ k) v xs
/-- Behind an append and the store of its result. -/
theorem WSt.put {w0 w : World} {g : Nat} {P : Nat → Prop} {wr w1 : World} {v v1 : Value} {xs ys : List Int} (hk : Kept w wr (fun k => k = g ∨ P k)) (hge : w0.heap.size ≤ g)
    (hc : wr.heap[g]? = some (.cells #[v] 104 (0, 0))) (ho : Kd.R (Kd.int .u8) 5 wr w0.heap.size (fun k => P k ∨ w.heap.size ≤ k) v xs) (ho1 : Kd.R (Kd.int .u8) 5 w1 w0.heap.size (fun k => P k ∨ w.heap.size ≤ k) v1 ys)
    (hb1 : Below w0.heap.size w0 w1) (hg1 : wr.grownBy w1 v.ownBlock) : WSt w0 w g P (w1.setCell ⟨g, 0, none⟩ v1) ys := by
  have hc1 := zbm hc hg1 (Kd.R_ne ho hc (by decide))
  refine ⟨hb1.setCell hge _, ?_, hge, v1, by simpa using zdb hc1 0 v1, Kd.zfx ho1 hc1 (by decide) 0 v1⟩
  exact (Kept.zec hg1 hk (fun k hk => (ho.1 k hk).imp_left Or.inr)).setCell (.inl (.inl rfl)) _
theorem WSt.alloc {w0 w : World} {g : Nat} {P : Nat → Prop} {W : World} {xs : List Int} (h : WSt w0 w g P W xs) (o : Obj) : WSt w0 w g P (W.alloc o) xs := by
  obtain ⟨hb, hk, hg, v, hc, ho⟩ := h
  exact ⟨zad hb o, hk.alloc o, hg, v, zaf hc o, Kd.zcq ho (zad (Below.refl _ _) o)⟩
/-- Told anew from here on. -/
theorem WSt.rebase {w0 w : World} {g : Nat} {P : Nat → Prop} {W : World} {xs : List Int} (h : WSt w0 w g P W xs) :
    ∃ P2 : Nat → Prop, WSt w0 W g P2 W xs ∧ ∀ k, P2 k → (P k ∨ w.heap.size ≤ k) ∧ ∃ cells, W.heap[k]? = some (.cells cells 5 (0, 0)) := by
  obtain ⟨hb, hk, hg, v, hc, ho⟩ := h
  refine ⟨fun k => v.ownBlock = some k, ⟨hb, Kept.refl _ _, hg, v, hc, ?_⟩, fun k hk => ⟨ho.1 k hk, zgc (Kd.zeh ho) k hk⟩⟩
  exact Kd.zey (Kd.zeh ho) (fun k hk => .inl hk)
theorem WSt.trans {w0 w : World} {g : Nat} {P P2 : Nat → Prop} {W W' : World} {xs ys : List Int} (h : WSt w0 w g P W xs) (h2 : WSt w0 W g P2 W' ys) (hp : ∀ k, P2 k → P k ∨ w.heap.size ≤ k) : WSt w0 w g P W' ys := by
  obtain ⟨hb, hk, hg, v, hc, ho⟩ := h2
  refine ⟨hb, h.kept.zje hk ?_, hg, v, hc, Kd.zbh ho ?_⟩
  · rintro k (rfl | hk)
    · exact .inl (.inl rfl)
    · exact (hp k hk).imp_left .inr
  · rintro k (hk | hk)
    · exact hp k hk
    · exact .inr (Nat.le_trans h.kept.1 hk)
/-- Another block stays: it is no writer and no row of bytes. -/
theorem WSt.other {w0 W : World} {g : Nat} {P2 : Nat → Prop} {W' : World} {xs ys : List Int} (h : WSt w0 W g P2 W' ys) (h0 : WSt w0 W g P2 W xs) (hp : ∀ k, P2 k → ∃ cells, W.heap[k]? = some (.cells cells 5 (0, 0)))
    {b : Nat} {cs : Array Value} {t : TypeId} {fr : Nat × Nat} (hb : W.heap[b]? = some (.cells cs t fr)) (h80 : t ≠ 104) (h5 : t ≠ 5) : W'.heap[b]? = some (.cells cs t fr) := by
  obtain ⟨_, _, _, v, hc, _⟩ := h0
  refine zbr hb h.kept ?_
  rintro (rfl | hk)
  · rw [hc] at hb
    injection hb with hb
    injection hb with _ ht
    exact h80 ht.symm
  · obtain ⟨cells, hc2⟩ := hp b hk
    rw [hc2] at hb
    injection hb with hb
    injection hb with _ ht
    exact h5 ht.symm
set_option maxHeartbeats 1600000 in
set_option maxRecDepth 100000 in
theorem zby (w0 w : World) (g : Nat) (P : Nat → Prop) (W : World) (xs : List Int) (A : Option Addr) (cap : Nat) (l : List Int) (h : WSt w0 w g P W xs)
    (hn : ∀ W' ys, WSt w0 w g P W' ys → Kd.C (Kd.int .i64) W' A l.length l) (hl : xs.length + (nums8 l).length < 140737488355328) :
    Calls Try.prog 53 #[.pointer (some ⟨g, 0, none⟩), .slice A l.length cap] W fun e w' => e = .returned (.tuple #[]) ∧ WSt w0 w g P w' (xs ++ nums8 l) := by
  have H := Aside0.mk h
  have HL := Aside0.mk hl
  have HN := Aside0.mk hn
  have hm := Aside0.mk (hn _ _ h).2.1
  clear h hl hn
  go_enter Try.func53, Try.ntmps53
  go_wp2
  go_loopw [9] (fun i wr => ∃ x : Int, i = .int .i64 x ∧ Aside0 (0 ≤ x ∧ x ≤ l.length) ∧ Aside0 (WSt w0 w g P wr (xs ++ nums8 (l.take x.toNat)))) (fun i _ => l.length - (intOf i).toNat)
  case atStart => exact ⟨0, rfl, ⟨by omega⟩, ⟨by simpa [nums8] using H.out⟩⟩
  case round =>
    obtain ⟨x, rfl, HX, HJ⟩ := hrel
    have hmx := hm.out
    obtain ⟨hx0, hx1⟩ := HX.out
    by_cases c : x < l.length
    · have c0 : decide (0 ≤ x) = true := decide_eq_true hx0
      have c1 : decide (x < (l.length : Int)) = true := decide_eq_true c
      obtain ⟨ad, e, hcell⟩ := Kd.zfg (HN.out _ _ HJ.out) x hx0 c
      cases e
      go_wp2
      obtain ⟨n, hn0⟩ : ∃ n, rd l x = n := ⟨_, rfl⟩
      rw [hn0]
      have HN0 := Aside0.mk hn0
      clear hn0 hcell
      have HL2 := Aside0.mk (show (xs ++ nums8 (l.take x.toNat)).length + 8 ≤ xs.length + (nums8 l).length from by
        have h2 := nums8_split l x.toNat (by omega)
        simp only [zbo] at h2
        simp only [List.length_append]
        omega)
      obtain ⟨ys, hys⟩ : ∃ ys, xs ++ nums8 (l.take x.toNat) = ys := ⟨_, rfl⟩
      rw [hys] at HJ HL2
      have HY := Aside0.mk hys
      clear hys
      go_loopw [6] (fun i wr2 => ∃ j : Nat, j ≤ 8 ∧ i = .int .i64 (56 - 8 * (j : Int)) ∧ Aside0 (WSt w0 w g P wr2 (ys ++ (be8 n).take j))) (fun i _ => (intOf i + 8).toNat)
      case atStart => exact ⟨0, by omega, rfl, ⟨by simpa using HJ.out⟩⟩
      case round =>
        obtain ⟨j, hj, rfl, HJ2⟩ := hrel
        obtain ⟨i, hi⟩ : ∃ i : Int, 56 - 8 * (j : Int) = i := ⟨_, rfl⟩
        rw [hi]
        have HI := Aside0.mk hi
        by_cases cj : j < 8
        · have hv : 0 ≤ i := by omega
          have hv2 : i ≤ 56 := by omega
          have hv3 : decide (0 ≤ i) = true := decide_eq_true hv
          clear hi
          obtain ⟨q, hq⟩ : ∃ q : Int, IntKind.u64.wrap n / 2 ^ i.toNat = q := ⟨_, rfl⟩
          have hq2 : IntKind.u64.wrap n / 2 ^ min i.toNat 64 = q := by rw [← hq, Nat.min_eq_left (by omega)]
          obtain ⟨hb, hk, hg, v, hc, ho⟩ := HJ2.out
          have HB := Aside0.mk hb
          have HK := Aside0.mk hk
          have HG := Aside0.mk hg
          have HC := Aside0.mk hc
          have HO := Aside0.mk ho
          have hcell := (zaa hc 0).trans rfl
          clear hb hk hg hc ho
          go_wp2_with (first | ((with_reducible refine zcd (b := .append) (xs := #[.tmp 21, .tmp 28]) rfl ?_); at_builtin; go_must (refine Kd.zdd (Kd.int .u8) (w0 := w0) w0.heap.size rfl (.tmp 21) (.tmp 28) 27 5 (.int .u8 0) 1 rfl Try.underlying27 info5 rfl (by decide) (by omega) v (ys ++ (be8 n).take j) (q % 256) [.int .u8 (q % 256)] (fun k => P k ∨ w.heap.size ≤ k) (fun _ => False) rfl rfl ?aP (fun _ hk => hk.elim) ?aF ?aO ?aB ?aS ?aL ?_); (case aP => exact rfl); (case aF => exact fun k hk => .inr (Nat.le_trans HK.out.1 hk)); (case aO => exact HO.out); (case aB => exact HB.out); (case aS => exact zaz HB.out); (case aL => have := HL.out; have := HL2.out; simp [zbo]; omega); intro v1 w1 ho1 hb1 hg1 hat1; obtain ⟨A1, m1, c1, e1⟩ := zcp ho1; subst e1; have hc1 := zbm HC.out hg1 (Kd.R_ne HO.out HC.out (by decide)); have HC1 := Aside0.mk hc1; have hcell1 := (zaa hc1 0).trans rfl; have hfz1 := zab hc1 0; have HO1 := Aside0.mk ho1; have HB1 := Aside0.mk hb1; have HG1 := Aside0.mk hg1; clear hc1 ho1 hb1 hg1 hat1))
          go_roundw
          case rel => refine ⟨j + 1, by omega, ?_, ⟨?_⟩⟩
                      · have := HI.out; exact congrArg (Value.int .i64) (by omega)
                      · rw [be8_take n j cj, ← List.append_assoc, ← zfs n j cj, ← (show i.toNat = 56 - 8 * j by have := HI.out; omega), hq]
                        exact WSt.put HK.out HG.out HC.out HO.out HO1.out HB1.out HG1.out
          case measure => simp [intOf]; omega
        · have hv : i < 0 := by omega
          have hv3 : decide (0 ≤ i) = false := decide_eq_false (by omega)
          have hj8 : j = 8 := by omega
          clear hi
          go_wp2
          go_roundw
          case rel =>
            refine ⟨x + 1, rfl, ⟨by omega⟩, ⟨?_⟩⟩
            have h2 := HJ2.out
            rw [hj8] at h2
            rw [show (x + 1).toNat = x.toNat + 1 by omega, zhi l x.toNat (by omega), ← List.append_assoc, HY.out]
            have e : l.getD x.toNat 0 = n := HN0.out
            rw [e]
            exact h2
          case measure => simp [intOf]; omega
    · have c1 : decide (x < (l.length : Int)) = false := decide_eq_false c
      go_wp2
      go_end0
      have h2 := HJ.out
      rw [List.take_of_length_le (by omega)] at h2
      exact ⟨rfl, h2⟩
theorem Ci_of_blk {w : World} {b t : Nat} {fr : Nat × Nat} (l : List Int) (hb : w.heap[b]? = some (.cells (l.map (Value.int .i64)).toArray t fr)) (hl : l.length ≤ 9223372036854775807) : Kd.C (Kd.int .i64) w (some ⟨b, 0, none⟩) l.length l := by
  refine Kd.zgr (d := 0) ⟨rfl, hl, fun _ => ⟨_, rfl, fun j hj => ?_⟩⟩
  rw [add_plain, cell_of_row w b j _ _ _ hb]
  simp [List.getD_eq_getElem?_getD, hj]
theorem zdc (l : List Int) : (nums8 l).length = 8 * l.length := by
  induction l with
  | nil => rfl
  | cons a l ih => rw [show nums8 (a :: l) = be8 a ++ nums8 l from rfl, List.length_append, zbo, List.length_cons]; omega
/-- Numbers that are laid for the call alone. -/
theorem zgl (w0 w : World) (g : Nat) (P : Nat → Prop) (W : World) (xs : List Int) (l : List Int) (b n cap : Nat) (cs : Array Value) (h : WSt w0 w g P W xs) (hb : W.heap.size = b) (hn : n = l.length) (hcs : cs = (l.map (Value.int .i64)).toArray)
    (hl : xs.length + (nums8 l).length < 140737488355328) :
    Calls Try.prog 53 #[.pointer (some ⟨g, 0, none⟩), .slice (some ⟨b, 0, none⟩) n cap] (W.alloc (.cells cs 3)) fun e w' => e = .returned (.tuple #[]) ∧ WSt w0 w g P w' (xs ++ nums8 l) := by
  subst hn hcs hb
  have ha := h.alloc (.cells (l.map (Value.int .i64)).toArray 3)
  obtain ⟨P2, h2, hp2⟩ := ha.rebase
  have hlen : l.length ≤ 9223372036854775807 := by
    have := zdc l
    omega
  refine (zby w0 _ g P2 _ xs (some ⟨W.heap.size, 0, none⟩) cap l h2 (fun W' ys h3 => ?_) hl).mono ?_
  · exact Ci_of_blk l (h3.other h2 (fun k hk => (hp2 k hk).2) (zbt W _) (by decide) (by decide)) hlen
  · rintro e w' ⟨rfl, h3⟩
    exact ⟨rfl, ha.trans h3 (fun k hk => (hp2 k hk).1)⟩
set_option maxHeartbeats 800000 in
set_option maxRecDepth 100000 in
theorem zea (w0 w : World) (g : Nat) (P : Nat → Prop) (W : World) (xs : List Int) (s : ByteArray) (h : WSt w0 w g P W xs) (hl : xs.length + (txt s).length < 140737488355328) :
    Calls Try.prog 54 #[.pointer (some ⟨g, 0, none⟩), .string s] W fun e w' => e = .returned (.tuple #[]) ∧ WSt w0 w g P w' (xs ++ txt s) := by
  have H := Aside0.mk h
  have HL := Aside0.mk hl
  rw [zdh] at HL
  clear h hl
  go_enter Try.func54, Try.ntmps54
  go_wp2_with (first
    | (go_at_call 53; go_must (refine (zgl w0 w g P _ xs [(s.size : Int)] _ 1 1 _ H.out rfl rfl rfl (by have := HL.out; simp [nums8, zbo]; omega)).mono ?_); rintro e w' ⟨rfl, h1⟩; obtain ⟨hb, hk, hg, v, hc, ho⟩ := h1; have HB := Aside0.mk hb; have HK := Aside0.mk hk; have HG := Aside0.mk hg; have HC := Aside0.mk hc; have HO := Aside0.mk ho; have hcell := (zaa hc 0).trans rfl; clear hb hk hg hc ho)
    | (at_builtin; go_must (refine Ca.zhn (w0 := w0) w0.heap.size rfl (.tmp 13) (.tmp 14) 27 9 5 rfl Try.underlying27 Try.underlying9 info5 v (xs ++ nums8 [(s.size : Int)]) s (fun k => P k ∨ w.heap.size ≤ k) rfl rfl ?aO ?aF ?aB ?aS ?aL ?_); (case aO => exact HO.out); (case aF => exact fun k hk => .inr (Nat.le_trans HK.out.1 hk)); (case aB => exact HB.out); (case aS => exact zaz HB.out); (case aL => have := HL.out; simp [nums8, zbo]; omega); intro v1 w1 ho1 hb1 hg1; obtain ⟨A1, m1, c1, e1⟩ := zcp ho1; subst e1; have hc1 := zbm HC.out hg1 (Kd.R_ne HO.out HC.out (by decide)); have HC1 := Aside0.mk hc1; have hcell1 := (zaa hc1 0).trans rfl; have hfz1 := zab hc1 0; have HO1 := Aside0.mk ho1; have HB1 := Aside0.mk hb1; have HG1 := Aside0.mk hg1; clear hc1 ho1 hb1 hg1))
  go_end0
  refine ⟨rfl, ?_⟩
  have h9 := WSt.put HK.out HG.out HC.out HO.out HO1.out HB1.out HG1.out
  rw [txt, ← List.append_assoc]
  have e : nums8 [(s.size : Int)] = be8 (s.size : Int) := by simp [nums8]
  rw [e] at h9
  exact h9
end Go.Proofs.Ytjhcbggpbfejgaa.Mw
